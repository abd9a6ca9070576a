/-
  WHAT STANDS AFTER MANY PUTS; two tries at once.
-/
import Derived.Test.YtnklhfdhaclfiaaTrH
import Derived.Test.YtnklhfdhaclfiaaPrefs
namespace Go.Proofs.Ytnklhfdhaclfiaa
open Go.RowKit

abbrev pKey (p : Pf) : Nat := keyN p.1 p.2.toNat
abbrev pRight (p : Pf) : Bool := rightB (p.1 : Int) p.2
/-- Put of whatever net. -/
def putA (S : List (Nat × Value)) (most : Int) (p : Pf) (v : Value) : Int × List (Nat × Value) := if pRight p then putR S most (pKey p) v else (1, S)
theorem trI_PutA {tb : Nat} {N : Nat → Option Nat} {S : List (Nat × Value)} {most : Int} (a : Nat) (n v : Int) (w : World) (h : TrI w tb N S most) (hm : most ≤ 4096) (ha : a < 4294967296) :
    Calls Try.prog 15 #[.pointer (some ⟨tb, 0, none⟩), .agg #[.int .u32 a, .int .i64 n], .int .i64 v] w (PutPost tb N most w (putA S most (a, n) (.int .i64 v))) := by
  by_cases hR : rightB a n = true
  · obtain ⟨m, rfl⟩ := Int.eq_ofNat_of_zero_le (rightB_range hR).1
    have := trI_Put a m v w h hm ha hR
    unfold putA
    rw [if_pos hR]
    exact this
  · refine (trI_Put_no ⟨tb, 0, none⟩ a n v w (by omega) (by omega) (by simpa using hR)).mono ?_
    rintro e w' ⟨rfl, hb⟩
    have e : putA S most (a, n) (.int .i64 v) = (1, S) := if_neg hR
    exact ⟨N, ret_put e, by rw [e]; exact h.below hb, TExt.refl _ _, Kept.of_below hb⟩
/-- Drop of whatever net. -/
def dropA (S : List (Nat × Value)) (p : Pf) : List (Nat × Value) := if pRight p then delL S (pKey p) else S
def DropPostA (tb : Nat) (N : Nat → Option Nat) (most : Int) (w : World) (S' : List (Nat × Value)) (e : Ending) (w' : World) : Prop :=
  ∃ N' c, e = .returned (.bool c) ∧ TrI w' tb N' S' most ∧ TSub N N' ∧ Kept (TOwn tb N) w w'
theorem trI_DropA {tb : Nat} {N : Nat → Option Nat} {S : List (Nat × Value)} {most : Int} (a : Nat) (n : Int) (w : World) (h : TrI w tb N S most) (hl : S.length ≤ 4096) (ha : a < 4294967296) :
    Calls Try.prog 24 #[.pointer (some ⟨tb, 0, none⟩), .agg #[.int .u32 a, .int .i64 n]] w (DropPostA tb N most w (dropA S (a, n))) := by
  by_cases hR : rightB a n = true
  · obtain ⟨m, rfl⟩ := Int.eq_ofNat_of_zero_le (rightB_range hR).1
    refine (trI_Drop a m w h hl ha hR).mono ?_
    rintro e w' ⟨N', rfl, h1, h2, h3⟩
    have e : dropA S (a, (m : Int)) = delL S (keyN a m) := if_pos hR
    exact ⟨N', _, rfl, by rw [e]; exact h1, h2, h3⟩
  · refine (trI_Drop_no ⟨tb, 0, none⟩ a n w (by omega) (by omega) (by simpa using hR)).mono ?_
    rintro e w' ⟨rfl, hb⟩
    have e : dropA S (a, n) = S := if_neg hR
    exact ⟨N, false, rfl, by rw [e]; exact h.below hb, fun _ _ h => h, Kept.of_below hb⟩

/-! ### two tries -/
structure Two (w W : World) (tx : Nat) (Nx : Nat → Option Nat) (Sx : List (Nat × Value)) (ty : Nat) (Ny : Nat → Option Nat) (Sy : List (Nat × Value)) : Prop where
  x : LSt w W tx Nx Sx 100
  y : LSt w W ty Ny Sy 100
  ap : ∀ b, TOwn tx Nx b → ¬ TOwn ty Ny b
section
variable {w W W' : World} {tx ty : Nat} {Nx Ny : Nat → Option Nat} {Sx Sy : List (Nat × Value)}
theorem Two.swap (h : Two w W tx Nx Sx ty Ny Sy) : Two w W ty Ny Sy tx Nx Sx := ⟨h.y, h.x, fun b hy hx => h.ap b hx hy⟩
theorem Two.below (h : Two w W tx Nx Sx ty Ny Sy) (hb : Below W.heap.size W W') : Two w W' tx Nx Sx ty Ny Sy := ⟨h.x.below hb, h.y.below hb, h.ap⟩
theorem Two.turn {Nx' : Nat → Option Nat} {Sx' : List (Nat × Value)} (h : Two w W tx Nx Sx ty Ny Sy) (hs : LSt w W' tx Nx' Sx' 100) (hx : ∀ k b, Nx' k = some b → Nx k = some b ∨ W.heap.size ≤ b) (hk : Kept (TOwn tx Nx) W W') : Two w W' tx Nx' Sx' ty Ny Sy := by
  refine ⟨hs, ⟨h.y.tri.kept hk (fun b hy hx => h.ap b hx hy), h.y.own, hs.bel⟩, ?_⟩
  rintro b (rfl | ⟨k, hk'⟩) hy
  · exact h.ap _ (.inl rfl) hy
  · rcases hx k b hk' with h1 | h1
    · exact h.ap _ (.inr ⟨k, h1⟩) hy
    · have := h.y.tri.own_lt hy; omega
theorem Two.put {r : Int × List (Nat × Value)} {e : Ending} (h : Two w W tx Nx Sx ty Ny Sy) (hp : PutPost tx Nx 100 W r e W') : ∃ N', e = .returned (.int .i64 r.1) ∧ Two w W' tx N' r.2 ty Ny Sy := by
  obtain ⟨N', h1, h2, h3, h4⟩ := hp.st h.x
  exact ⟨N', h1, h.turn h2 h3.2 h4⟩
theorem Two.drop {S' : List (Nat × Value)} {e : Ending} (h : Two w W tx Nx Sx ty Ny Sy) (hp : DropPostA tx Nx 100 W S' e W') : ∃ N' c, e = .returned (.bool c) ∧ Two w W' tx N' S' ty Ny Sy := by
  obtain ⟨N', c, h1, h2, h3, h4⟩ := hp
  exact ⟨N', c, h1, h.turn (h.x.kept h2 (fun k b hk => .inl (h3 k b hk)) h4) (fun k b hk => .inl (h3 k b hk)) h4⟩
end

/-! ### what stands -/
theorem right_len {p q : Pf} (hp : PfOk p) (hq : PfOk q) (rp : pRight p = true) (rq : pRight q = true) (h : pKey p = pKey q) : p.2 = q.2 := by
  have h1 := rightB_range rp
  have h2 := rightB_range rq
  have := keyN_len hp.1 hq.1 (show p.2.toNat ≤ 32 by omega) (show q.2.toNat ≤ 32 by omega) h
  omega
theorem put_spec {S : List (Nat × Value)} {c : Nat} {p : Pf} {v : Value} (hd : KeysApart S) (hl : S.length ≤ c) (hc : c < 100) (hr : pRight p = true) :
    (∀ κ, getL (putA S 100 p v).2 κ = if κ = pKey p then some v else getL S κ) ∧ KeysApart (putA S 100 p v).2 ∧ (putA S 100 p v).2.length ≤ c + 1 ∧ ((getL S (pKey p)).isSome = true → (putA S 100 p v).2.length ≤ c) := by
  have e : (putA S 100 p v).2 = delL S (pKey p) ++ [(pKey p, v)] := by
    unfold putA
    rw [if_pos hr]
    cases hg : getL S (pKey p) with
    | none => rw [putR_new hg (by omega)]
    | some x => rw [putR_old (by rw [hg]; rfl)]
  rw [e]
  refine ⟨fun κ => getL_snoc S _ κ v, apart_snoc hd _ v, ?_, fun h => ?_⟩
  · rw [len_snoc hd]; split <;> omega
  · rw [len_snoc hd, if_pos h]; exact hl
theorem put_not {S : List (Nat × Value)} {most : Int} {p : Pf} {v : Value} (hr : ¬ pRight p = true) : (putA S most p v).2 = S := by unfold putA; rw [if_neg hr]
abbrev lenV (p : Pf) : Value := .int .i64 p.2
/-- of the nets at some places the lengths stand there. -/
def Cont (xs : List Pf) (Q : Nat → Prop) (S : List (Nat × Value)) : Prop :=
  KeysApart S ∧ ∀ κ v, getL S κ = some v ↔ ∃ i p, Q i ∧ xs[i]? = some p ∧ pRight p = true ∧ pKey p = κ ∧ v = lenV p
theorem Cont.nil (xs : List Pf) (Q : Nat → Prop) (hQ : ∀ i, ¬ Q i) : Cont xs Q [] := ⟨by simp [KeysApart], fun κ v => ⟨fun h => by simp [getL] at h, fun ⟨i, p, h, _⟩ => absurd h (hQ i)⟩⟩
theorem Cont.put {xs : List Pf} {Q : Nat → Prop} {S S' : List (Nat × Value)} {k : Nat} {p : Pf} (h : Cont xs Q S) (hok : ∀ (i : Nat) (p : Pf), xs[i]? = some p → PfOk p) (hp : xs[k]? = some p) (hr : pRight p = true) (hg : ∀ κ, getL S' κ = if κ = pKey p then some (lenV p) else getL S κ) (hd : KeysApart S') :
    Cont xs (fun i => Q i ∨ i = k) S' := by
  refine ⟨hd, fun κ v => ?_⟩
  rw [hg κ]
  by_cases e : κ = pKey p
  · rw [if_pos e]
    constructor
    · intro hv; cases hv; exact ⟨k, p, .inr rfl, hp, hr, e.symm, rfl⟩
    · rintro ⟨i, q, _, hq, rq, kq, rfl⟩
      have := right_len (hok k p hp) (hok i q hq) hr rq (by rw [kq, e])
      unfold lenV; rw [this]
  · rw [if_neg e, h.2 κ v]
    constructor
    · rintro ⟨i, q, hQ, h2⟩; exact ⟨i, q, .inl hQ, h2⟩
    · rintro ⟨i, q, hQ, hq, rq, kq, hv⟩
      rcases hQ with hQ | rfl
      · exact ⟨i, q, hQ, hq, rq, kq, hv⟩
      · rw [hp] at hq; cases hq; exact absurd kq.symm e
theorem Cont.skip {xs : List Pf} {Q : Nat → Prop} {S : List (Nat × Value)} {k : Nat} {p : Pf} (h : Cont xs Q S) (hp : xs[k]? = some p) (hr : ¬ pRight p = true) : Cont xs (fun i => Q i ∨ i = k) S := by
  refine ⟨h.1, fun κ v => ?_⟩
  rw [h.2 κ v]
  constructor
  · rintro ⟨i, q, hQ, h2⟩; exact ⟨i, q, .inl hQ, h2⟩
  · rintro ⟨i, q, hQ, hq, rq, kq⟩
    rcases hQ with hQ | rfl
    · exact ⟨i, q, hQ, hq, rq, kq⟩
    · rw [hp] at hq; cases hq; exact absurd rq hr
theorem Cont.imp {xs : List Pf} {Q Q' : Nat → Prop} {S : List (Nat × Value)} (h : Cont xs Q S) (hQ : ∀ i, i < xs.length → (Q i ↔ Q' i)) : Cont xs Q' S := by
  refine ⟨h.1, fun κ v => ?_⟩
  rw [h.2 κ v]
  have hlt : ∀ (i : Nat) (p : Pf), xs[i]? = some p → i < xs.length := fun i p hi => (List.getElem?_eq_some_iff.1 hi).1
  constructor
  · rintro ⟨i, q, hq, hi, h2⟩; exact ⟨i, q, (hQ i (hlt i q hi)).1 hq, hi, h2⟩
  · rintro ⟨i, q, hq, hi, h2⟩; exact ⟨i, q, (hQ i (hlt i q hi)).2 hq, hi, h2⟩
theorem cont_one {xs : List Pf} {Q : Nat → Prop} {S : List (Nat × Value)} {k c : Nat} {p : Pf} (h : Cont xs Q S) (hok : ∀ (i : Nat) (p : Pf), xs[i]? = some p → PfOk p) (hp : xs[k]? = some p) (hl : S.length ≤ c) (hc : c < 99) :
    Cont xs (fun i => Q i ∨ i = k) (putA S 100 p (lenV p)).2 ∧ (putA S 100 p (lenV p)).2.length ≤ c + 1 := by
  by_cases hr : pRight p = true
  · obtain ⟨h1, h2, h3, _⟩ := put_spec (v := lenV p) h.1 hl (by omega) hr
    exact ⟨h.put hok hp hr h1 h2, h3⟩
  · rw [put_not hr]; exact ⟨h.skip hp hr, by omega⟩
theorem cont_two {xs : List Pf} {Q : Nat → Prop} {S : List (Nat × Value)} {k c : Nat} {p : Pf} (h : Cont xs Q S) (hok : ∀ (i : Nat) (p : Pf), xs[i]? = some p → PfOk p) (hp : xs[k]? = some p) (hl : S.length ≤ c) (hc : c < 98) :
    Cont xs (fun i => Q i ∨ i = k) (putA (putA S 100 p (.int .i64 99)).2 100 p (lenV p)).2 ∧ (putA (putA S 100 p (.int .i64 99)).2 100 p (lenV p)).2.length ≤ c + 1 := by
  by_cases hr : pRight p = true
  · obtain ⟨h1, h2, h3, _⟩ := put_spec (v := .int .i64 99) h.1 hl (by omega) hr
    obtain ⟨g1, g2, _, g4⟩ := put_spec (v := lenV p) h2 h3 (by omega) hr
    refine ⟨h.put hok hp hr (fun κ => ?_) g2, g4 (by rw [h1, if_pos rfl]; rfl)⟩
    rw [g1 κ]
    by_cases e : κ = pKey p
    · rw [if_pos e, if_pos e]
    · rw [if_neg e, if_neg e, h1 κ, if_neg e]
  · rw [put_not hr, put_not hr]; exact ⟨h.skip hp hr, by omega⟩
theorem len_alike {S S' : List (Nat × Value)} (h : KeysApart S) (h' : KeysApart S') (hg : ∀ κ, getL S κ = getL S' κ) : S.length = S'.length := by
  have nd : ∀ {S : List (Nat × Value)}, KeysApart S → (S.map (·.1)).Nodup := fun h => by
    unfold List.Nodup
    rw [List.pairwise_map]
    exact h
  have mem : ∀ {S : List (Nat × Value)}, KeysApart S → ∀ κ, κ ∈ S.map (·.1) ↔ (getL S κ).isSome = true := fun {S} h κ => by
    rw [List.mem_map]
    constructor
    · rintro ⟨p, hp, rfl⟩
      rw [getL_of_mem h (show (p.1, p.2) ∈ S from hp)]; rfl
    · intro hs
      obtain ⟨v, hv⟩ := Option.isSome_iff_exists.1 hs
      exact ⟨_, getL_mem hv, rfl⟩
  have p : (S.map (·.1)).Perm (S'.map (·.1)) := by
    rw [List.perm_ext_iff_of_nodup (nd h) (nd h')]
    intro κ
    rw [mem h, mem h', hg]
  have := p.length_eq
  simpa using this
theorem bst_alike {S S' : List (Nat × Value)} (hg : ∀ κ, getL S κ = getL S' κ) (a : Nat) : ∀ k, bst S a k = bst S' a k
  | 0 => rfl
  | k + 1 => by unfold bst; rw [hg, bst_alike hg a k]
theorem long_alike {S S' : List (Nat × Value)} (hg : ∀ κ, getL S κ = getL S' κ) (a : Nat) : longE S a = longE S' a := by
  unfold longE
  rw [bst_alike hg]
  cases bst S' a 33 with
  | none => rfl
  | some j => simp only; rw [hg]
/-- what Longest answers, where numbers stand. -/
theorem long_shape {S : List (Nat × Value)} (hS : ∀ κ v, getL S κ = some v → ∃ x : Int, v = .int .i64 x) (a : Nat) : ∃ (A j x : Int) (c : Bool), longE S a = .returned (.tuple #[.agg #[.int .u32 A, .int .i64 j], .int .i64 x, .bool c]) ∧ (c = (bst S a 33).isSome) := by
  unfold longE
  cases hb : bst S a 33 with
  | none => exact ⟨0, 0, 0, false, rfl, rfl⟩
  | some j =>
    have := (bst_lt hb).2
    obtain ⟨v, hv⟩ := Option.isSome_iff_exists.1 this
    obtain ⟨x, rfl⟩ := hS _ _ hv
    refine ⟨keepI a j, j, x, true, ?_, rfl⟩
    simp only
    rw [hv]; rfl
theorem empty_of {S : List (Nat × Value)} (h : ∀ κ, getL S κ = none) : S = [] := by
  cases S with
  | nil => rfl
  | cons p S =>
    have := h p.1
    rw [getL_none] at this
    exact absurd rfl (this p (by simp))
end Go.Proofs.Ytnklhfdhaclfiaa
