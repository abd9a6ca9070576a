/- Texts of one proof, one behind another. -/
import Derived.Test.YtohkbcdnlmjcjaaDoorWr23
/-
  ATTRIBUTES: what Decode reads is right, plain: the invariant.
-/
namespace Go.Proofs.YtohkbcdnlmjcjaaDoor
open Go.RowKit

set_option maxRecDepth 100000 in
theorem val_same (a b : At) (t : Nat) (h1 : t ≠ 1 → b.origin = a.origin) (h2 : t ≠ 2 → b.path = a.path) (h3 : t ≠ 3 → b.hop = a.hop) (h4 : t ≠ 4 → b.med = a.med) (h5 : t ≠ 5 → b.loc = a.loc) (h7 : t ≠ 7 → b.aggrAs = a.aggrAs ∧ b.aggrId = a.aggrId) (h8 : t ≠ 8 → b.comms = a.comms) :
    ∀ u, u ≠ t → valL b u = valL a u := by
  intro u hu
  unfold valL
  by_cases e1 : u = 1
  · subst e1; rw [if_pos rfl, if_pos rfl, h1 hu.symm]
  rw [if_neg e1, if_neg e1]
  by_cases e2 : u = 2
  · subst e2; rw [if_pos rfl, if_pos rfl, h2 hu.symm]
  rw [if_neg e2, if_neg e2]
  by_cases e3 : u = 3
  · subst e3; rw [if_pos rfl, if_pos rfl, h3 hu.symm]
  rw [if_neg e3, if_neg e3]
  by_cases e4 : u = 4
  · subst e4; rw [if_pos rfl, if_pos rfl, h4 hu.symm]
  rw [if_neg e4, if_neg e4]
  by_cases e5 : u = 5
  · subst e5; rw [if_pos rfl, if_pos rfl, h5 hu.symm]
  rw [if_neg e5, if_neg e5]
  by_cases e7 : u = 7
  · subst e7; rw [if_pos rfl, if_pos rfl, (h7 hu.symm).1, (h7 hu.symm).2]
  rw [if_neg e7, if_neg e7]
  by_cases e8 : u = 8
  · subst e8; rw [if_pos rfl, if_pos rfl, h8 hu.symm]
  rw [if_neg e8, if_neg e8]
set_option maxRecDepth 100000 in
theorem set_val {a : At} {t : Nat} {xs : List Nat} (h1 : 1 ≤ t) (h8 : t ≤ 8) : ∀ u, u ≠ t → valL (setP a t xs).2 u = valL a u := by
  obtain rfl | rfl | rfl | rfl | rfl | rfl | rfl | rfl := eight h1 h8
  · exact val_same _ _ 1 (fun h => absurd rfl h) (fun _ => rfl) (fun _ => rfl) (fun _ => rfl) (fun _ => rfl) (fun _ => ⟨rfl, rfl⟩) (fun _ => rfl)
  · unfold setP
    simp only [show ¬ (2 : Nat) = 1 by decide, if_false, if_true]
    cases rdPath xs with
    | none => exact val_same _ _ 2 (fun _ => rfl) (fun h => absurd rfl h) (fun _ => rfl) (fun _ => rfl) (fun _ => rfl) (fun _ => ⟨rfl, rfl⟩) (fun _ => rfl)
    | some p => exact val_same _ _ 2 (fun _ => rfl) (fun h => absurd rfl h) (fun _ => rfl) (fun _ => rfl) (fun _ => rfl) (fun _ => ⟨rfl, rfl⟩) (fun _ => rfl)
  · exact val_same _ _ 3 (fun _ => rfl) (fun _ => rfl) (fun h => absurd rfl h) (fun _ => rfl) (fun _ => rfl) (fun _ => ⟨rfl, rfl⟩) (fun _ => rfl)
  · exact val_same _ _ 4 (fun _ => rfl) (fun _ => rfl) (fun _ => rfl) (fun h => absurd rfl h) (fun _ => rfl) (fun _ => ⟨rfl, rfl⟩) (fun _ => rfl)
  · exact val_same _ _ 5 (fun _ => rfl) (fun _ => rfl) (fun _ => rfl) (fun _ => rfl) (fun h => absurd rfl h) (fun _ => ⟨rfl, rfl⟩) (fun _ => rfl)
  · exact fun u hu => rfl
  · exact val_same _ _ 7 (fun _ => rfl) (fun _ => rfl) (fun _ => rfl) (fun _ => rfl) (fun _ => rfl) (fun h => absurd rfl h) (fun _ => rfl)
  · exact val_same _ _ 8 (fun _ => rfl) (fun _ => rfl) (fun _ => rfl) (fun _ => rfl) (fun _ => rfl) (fun _ => ⟨rfl, rfl⟩) (fun h => absurd rfl h)
/-- what has been read is right. -/
structure Rt (a : At) (seen : List Nat) (n : Nat) : Prop where
  has : ∃ m : Nat, a.has = (m : Int) ∧ m < 512 ∧ m.testBit 0 = false ∧ ∀ t, 1 ≤ t → t ≤ 8 → (m.testBit t = true ↔ t ∈ seen)
  gd : ∀ t, 1 ≤ t → t ≤ 8 → (t ∈ seen → goodB a t = true) ∧ (t ∉ seen → zeroB a t = true)
  oth : ∀ o ∈ a.others, 9 ≤ o.1 ∧ o.1 ≤ 255 ∧ o.1.toNat ∈ seen
  apt : a.others.Pairwise (fun x y => x.1 ≠ y.1)
  len : lenOfE a ≤ n
set_option maxRecDepth 100000 in
theorem rt_start : Rt atO [] 0 := by
  refine ⟨⟨0, rfl, by decide, by decide, fun t _ _ => by simp⟩, fun t h1 h8 => ⟨fun h => by simp at h, fun _ => ?_⟩, fun o h => by simp [atO] at h, List.Pairwise.nil, ?_⟩
  · obtain rfl | rfl | rfl | rfl | rfl | rfl | rfl | rfl := eight h1 h8 <;> decide
  · decide +kernel
set_option maxRecDepth 100000 in
theorem Rt.known {a : At} {seen ys : List Nat} {n hd t : Nat} (h : Rt a seen n) (h1 : 1 ≤ t) (h8 : t ≤ 8) (hn : t ∉ seen) (hy : ∀ y ∈ ys, y < 256) (hcut : cutN ys ≤ ys.length) (hs : (takeP a hd t ((ys.take (cutN ys)).drop (fromN ys))).1 = 0) :
    Rt (takeP a hd t ((ys.take (cutN ys)).drop (fromN ys))).2 (t :: seen) (n + cutN ys) := by
  obtain ⟨hz, hc, ho, g1, g3, e⟩ := take_ok hs
  have hvy : ∀ x ∈ (ys.take (cutN ys)).drop (fromN ys), x < 256 := fun x hx => hy x (List.mem_of_mem_take (List.mem_of_mem_drop hx))
  obtain ⟨s1, s2, s3, s4⟩ := set_good h1 h8 hvy hz hc ho g1 g3
  have hv := val_read h1 h8 hz ho
  have hvs := set_val (a := a) (xs := (ys.take (cutN ys)).drop (fromN ys)) h1 h8
  have hle := lay_le hv hy hcut
  rw [e]
  generalize (setP a t ((ys.take (cutN ys)).drop (fromN ys))).2 = S at s1 s2 s3 s4 hvs hle
  obtain ⟨m, m1, m2, m3, m4⟩ := h.has
  have hp : 2 ^ t < 512 := Nat.lt_of_le_of_lt (Nat.pow_le_pow_right (by decide) h8) (by decide)
  obtain ⟨o1, o2⟩ := or_nat m2 hp
  have eh : bits .or .i64 S.has (2 ^ t) = ((m ||| 2 ^ t : Nat) : Int) := by
    rw [s3, m1, ← o1]; push_cast; rfl
  rw [eh]
  have tb : ∀ u, (m ||| 2 ^ t).testBit u = (m.testBit u || decide (t = u)) := fun u => by rw [Nat.testBit_or, Nat.testBit_two_pow]
  refine ⟨⟨m ||| 2 ^ t, rfl, o2, by rw [tb, m3, decide_eq_false (by omega)]; rfl, fun u u1 u8 => ?_⟩, fun u u1 u8 => ?_, fun o hm => ?_, ?_, ?_⟩
  · rw [tb, Bool.or_eq_true, decide_eq_true_eq, m4 u u1 u8, List.mem_cons]
    constructor
    · rintro (h | h)
      · exact .inr h
      · exact .inl h.symm
    · rintro (h | h)
      · exact .inr h.symm
      · exact .inl h
  · have eg : ∀ x : Int, goodB { S with has := x } u = goodB S u ∧ zeroB { S with has := x } u = zeroB S u := fun x => ⟨rfl, rfl⟩
    rw [(eg _).1, (eg _).2]
    by_cases hu : u = t
    · subst hu
      exact ⟨fun _ => s1, fun hh => absurd List.mem_cons_self hh⟩
    · rw [(s2 u hu).1, (s2 u hu).2]
      obtain ⟨i1, i2⟩ := h.gd u u1 u8
      refine ⟨fun hm => i1 ?_, fun hm => i2 fun hh => hm (List.mem_cons_of_mem _ hh)⟩
      rcases List.mem_cons.1 hm with e | hh
      · exact absurd e hu
      · exact hh
  · have := h.oth o (by rw [← s4]; exact hm)
    exact ⟨this.1, this.2.1, List.mem_cons_of_mem _ this.2.2⟩
  · show S.others.Pairwise _
    rw [s4]; exact h.apt
  · have hl := h.len
    unfold lenOfE at hl ⊢
    have nb : isB a.has (t : Int) = false := by
      rw [m1, is_nat m t h1 h8]
      cases hb : m.testBit t with
      | false => rfl
      | true => exact absurd ((m4 t h1 h8).1 hb) hn
    have k0 : (knL a t).length = 0 := by unfold knL; rw [nb]; rfl
    have k1 : (knL { S with has := ((m ||| 2 ^ t : Nat) : Int) } t).length ≤ cutN ys := by
      unfold knL
      split
      · exact hle _ _
      · simp
    have ks : ∀ u, u ≠ t → (knL { S with has := ((m ||| 2 ^ t : Nat) : Int) } u).length = (knL a u).length := by
      intro u hu
      unfold knL
      have ev : valL { S with has := ((m ||| 2 ^ t : Nat) : Int) } u = valL a u := hvs u hu
      have eb : isB ((m ||| 2 ^ t : Nat) : Int) (u : Int) = isB a.has (u : Int) := by
        rw [m1]
        unfold isB
        rw [Int.toNat_natCast, bit_nat, bit_nat, tb, decide_eq_false (fun e => hu e.symm), Bool.or_false]
      show (if isB ((m ||| 2 ^ t : Nat) : Int) (u : Int) = true then layL (flgL.getD u 0) u (valL { S with has := ((m ||| 2 ^ t : Nat) : Int) } u) else ([] : List Nat)).length = _
      rw [eb, ev]
    have key := sum_one (f := fun u => (knL a u).length) (g := fun u => (knL { S with has := ((m ||| 2 ^ t : Nat) : Int) } u).length) ks k0 (List.range' 1 8) (List.nodup_range' (step := 1))
    have eo : (S.others.map fun o => (othL o).length).sum = (a.others.map fun o => (othL o).length).sum := by rw [s4]
    show ((List.range' 1 8).map fun u => (knL { S with has := ((m ||| 2 ^ t : Nat) : Int) } u).length).sum + (S.others.map fun o => (othL o).length).sum ≤ n + cutN ys
    rw [eo]
    exact Nat.le_trans (Nat.add_le_add_right (Nat.le_trans key (Nat.add_le_add_left k1 _)) _) (by omega)
end Go.Proofs.YtohkbcdnlmjcjaaDoor

/-
  ATTRIBUTES: what Decode reads is right, plain: all of it.
-/
namespace Go.Proofs.YtohkbcdnlmjcjaaDoor
open Go.RowKit

set_option maxRecDepth 100000 in
theorem known_nat {m : Nat} (h : m < 512) (h0 : m.testBit 0 = false) : knownM (m : Int) = true := by
  have : ∀ i : Fin 512, (i.val.testBit 0 = false → knownM (i.val : Int) = true) := by decide +kernel
  exact this ⟨m, h⟩ h0
set_option maxRecDepth 100000 in
theorem Rt.more {a : At} {seen : List Nat} {n k t : Nat} (h : Rt a seen n) (ht : ¬ (1 ≤ t ∧ t ≤ 8)) : Rt a (t :: seen) (n + k) := by
  obtain ⟨m, m1, m2, m3, m4⟩ := h.has
  have hm : ∀ u, 1 ≤ u → u ≤ 8 → (u ∈ t :: seen ↔ u ∈ seen) := fun u u1 u8 => by
    rw [List.mem_cons]
    exact ⟨fun e => e.resolve_left fun e => ht (by omega), .inr⟩
  exact ⟨⟨m, m1, m2, m3, fun u u1 u8 => (m4 u u1 u8).trans (hm u u1 u8).symm⟩, fun u u1 u8 => ⟨fun e => (h.gd u u1 u8).1 ((hm u u1 u8).1 e), fun e => (h.gd u u1 u8).2 fun f => e ((hm u u1 u8).2 f)⟩,
    fun o ho => ⟨(h.oth o ho).1, (h.oth o ho).2.1, List.mem_cons_of_mem _ (h.oth o ho).2.2⟩, h.apt, Nat.le_trans h.len (Nat.le_add_right _ _)⟩
set_option maxRecDepth 100000 in
theorem Rt.other {a : At} {seen ys : List Nat} {n hd t : Nat} (h : Rt a seen n) (ht : ¬ (1 ≤ t ∧ t ≤ 8)) (hn : t ∉ seen) (h256 : t < 256) (hy : ∀ y ∈ ys, y < 256) (hcut : cutN ys ≤ ys.length) :
    Rt (othP a hd t ((ys.take (cutN ys)).drop (fromN ys))).2 (t :: seen) (n + cutN ys) := by
  have hm := h.more (k := 0) ht
  unfold othP
  split
  · exact h.more ht
  split
  · rename_i h2
    simp only [Bool.and_eq_true, bne_iff_ne, ne_eq] at h2
    have t0 := h2.2
    have hle := lay_le (v := (ys.take (cutN ys)).drop (fromN ys)) rfl hy hcut 224 (t : Int)
    refine ⟨hm.has, hm.gd, fun o ho => ?_, ?_, ?_⟩
    · rcases List.mem_append.1 ho with ho | ho
      · exact hm.oth o ho
      · rw [List.mem_singleton.1 ho]
        refine ⟨by simp only; omega, by simp only; omega, ?_⟩
        show ((t : Int)).toNat ∈ _
        rw [Int.toNat_natCast]; exact List.mem_cons_self
    · show (a.others ++ [_]).Pairwise _
      rw [List.pairwise_append]
      refine ⟨h.apt, List.pairwise_singleton _ _, fun x hx y hy' => ?_⟩
      rw [List.mem_singleton.1 hy']
      intro e
      have := (h.oth x hx).2.2
      simp only at e
      rw [e, Int.toNat_natCast] at this
      exact hn this
    · have hl := h.len
      unfold lenOfE at hl ⊢
      show ((List.range' 1 8).map fun u => (knL a u).length).sum + ((a.others ++ [((t : Int), (ys.take (cutN ys)).drop (fromN ys))]).map fun o => (othL o).length).sum ≤ n + cutN ys
      rw [List.map_append, List.sum_append]
      have e : ([((t : Int), (ys.take (cutN ys)).drop (fromN ys))].map fun o : Oth => (othL o).length).sum = (layL 224 (t : Int) ((ys.take (cutN ys)).drop (fromN ys))).length := by simp [othL]
      rw [e]
      omega
  · exact h.more ht
set_option maxRecDepth 100000 in
/-- Decode's attributes are right. -/
theorem decP_right : ∀ (k : Nat) (a : At) (seen ys : List Nat) (n : Nat), ys.length ≤ k → Rt a seen n → (∀ y ∈ ys, y < 256) → (decP a seen ys).1 = 0 → ∃ seen', Rt (decP a seen ys).2 seen' (n + ys.length)
  | k, a, seen, [], n, _, h, _, _ => by rw [decP_nil]; exact ⟨seen, h⟩
  | 0, _, _, _ :: _, _, hk, _, _, _ => by simp at hk
  | k + 1, a, seen, y :: zs, n, hk, h, hy, hd => by
    have hne : y :: zs ≠ [] := by simp
    obtain ⟨ys, hys⟩ : ∃ ys, y :: zs = ys := ⟨_, rfl⟩
    rw [hys] at hk hy hd hne ⊢
    by_cases hb : ys.length < fromN ys ∨ ys.length < cutN ys ∨ ys.getD 1 0 ∈ seen
    · rw [decP_bad hne hb] at hd; cases hd
    · by_cases hs : (decStep a ys).1 = 0
      · rw [decP_next hne hb hs] at hd ⊢
        have hc : cutN ys ≤ ys.length := by omega
        have c3 := cut_ge ys
        have hn : ys.getD 1 0 ∉ seen := fun h => hb (.inr (.inr h))
        have ht : ys.getD 1 0 < 256 := by
          rw [List.getD_eq_getElem?_getD, List.getElem?_eq_getElem (show 1 < ys.length by omega)]
          exact hy _ (List.getElem_mem ..)
        have hR : Rt (decStep a ys).2 (ys.getD 1 0 :: seen) (n + cutN ys) := by
          unfold decStep at hs ⊢
          by_cases hk8 : 1 ≤ ys.getD 1 0 ∧ ys.getD 1 0 ≤ 8
          · rw [if_pos hk8] at hs ⊢
            exact h.known hk8.1 hk8.2 hn hy hc hs
          · rw [if_neg hk8] at hs ⊢
            exact h.other hk8 hn ht hy hc
        obtain ⟨seen', hf⟩ := decP_right k _ _ (ys.drop (cutN ys)) _ (by rw [List.length_drop]; omega) hR (fun x hx => hy x (List.mem_of_mem_drop hx)) hd
        refine ⟨seen', ?_⟩
        rw [List.length_drop] at hf
        rw [show n + cutN ys + (ys.length - cutN ys) = n + ys.length by omega] at hf
        exact hf
      · rw [decP_fault hne hb hs] at hd
        exact absurd hd hs
set_option maxRecDepth 100000 in
/-- a right answer, its others in order, passes. -/
theorem rt_check {a : At} {seen : List Nat} {n : Nat} (h : Rt a seen n) {os : List Oth} (hp : os.Perm a.others) (hs : os.Pairwise (fun x y => x.1 ≤ y.1)) : checkB { a with others := os } = true ∧ (encL { a with others := os }).length ≤ n := by
  obtain ⟨m, m1, m2, m3, m4⟩ := h.has
  have apt : os.Pairwise (fun x y => x.1 ≠ y.1) := (hp.pairwise_iff (fun {x y} e => Ne.symm e)).2 h.apt
  have srt : os.Pairwise (fun x y => x.1 < y.1) := by
    have := hs.and apt
    exact this.imp fun {x y} e => by omega
  have rng : ∀ o ∈ os, 8 < o.1 ∧ o.1 ≤ 255 := fun o ho => by have := h.oth o (hp.mem_iff.1 ho); omega
  have oth : ∀ (os : List Oth) (l : Int), (∀ o ∈ os, l < o.1 ∧ o.1 ≤ 255) → os.Pairwise (fun x y => x.1 < y.1) → othB l os = true := by
    intro os
    induction os with
    | nil => intro l _ _; rfl
    | cons o os ih =>
      intro l h1 h2
      obtain ⟨p1, p2⟩ := List.pairwise_cons.1 h2
      unfold othB
      have := h1 o List.mem_cons_self
      rw [ih o.1 (fun x hx => ⟨p1 x hx, (h1 x (List.mem_cons_of_mem _ hx)).2⟩) p2]
      simp [this.1, this.2]
  refine ⟨?_, ?_⟩
  · unfold checkB
    rw [Bool.and_eq_true, Bool.and_eq_true]
    refine ⟨?_, List.all_eq_true.2 fun t ht => ?_, oth os 8 rng srt⟩
    · show knownM a.has = true
      rw [m1]
      exact known_nat m2 m3
    · obtain ⟨t1, t9⟩ := List.mem_range'_1.1 ht
      have t8 : t ≤ 8 := by omega
      have e : okT { a with others := os } t = (if isB a.has (t : Nat) then goodB a t else zeroB a t) := rfl
      rw [e, m1, is_nat m t t1 t8]
      obtain ⟨g1, g2⟩ := h.gd t t1 t8
      by_cases hb : m.testBit t = true
      · rw [if_pos hb]; exact g1 ((m4 t t1 t8).1 hb)
      · rw [if_neg hb]; exact g2 fun hh => hb ((m4 t t1 t8).2 hh)
  · rw [enc_len]
    have e : lenOfE { a with others := os } = lenOfE a := by
      unfold lenOfE
      have : (os.map fun o => (othL o).length).sum = (a.others.map fun o => (othL o).length).sum := (hp.map _).sum_nat
      show ((List.range' 1 8).map fun t => (knL a t).length).sum + (os.map fun o => (othL o).length).sum = _
      rw [this]
    rw [e]; exact h.len
set_option maxRecDepth 100000 in
theorem takeP_code (a : At) (hd t : Nat) (xs : List Nat) : (takeP a hd t xs).1 ≤ 11 := by
  unfold takeP
  repeat' split
  all_goals simp
set_option maxRecDepth 100000 in
theorem othP_code (a : At) (hd t : Nat) (xs : List Nat) : (othP a hd t xs).1 ≤ 11 := by
  unfold othP
  repeat' split
  all_goals simp
set_option maxRecDepth 100000 in
theorem decP_code : ∀ (k : Nat) (a : At) (seen ys : List Nat), ys.length ≤ k → (decP a seen ys).1 ≤ 11
  | k, a, seen, [], _ => by rw [decP_nil]; simp
  | 0, _, _, _ :: _, hk => by simp at hk
  | k + 1, a, seen, y :: zs, hk => by
    have hne : y :: zs ≠ [] := by simp
    obtain ⟨ys, hys⟩ : ∃ ys, y :: zs = ys := ⟨_, rfl⟩
    rw [hys] at hk hne ⊢
    by_cases hb : ys.length < fromN ys ∨ ys.length < cutN ys ∨ ys.getD 1 0 ∈ seen
    · rw [decP_bad hne hb]; simp
    · by_cases hs : (decStep a ys).1 = 0
      · rw [decP_next hne hb hs]
        have c3 := cut_ge ys
        have : 0 < ys.length := List.length_pos_iff.2 hne
        exact decP_code k _ _ _ (by rw [List.length_drop]; omega)
      · rw [decP_fault hne hb hs]
        unfold decStep
        split
        · exact takeP_code ..
        · exact othP_code ..
end Go.Proofs.YtohkbcdnlmjcjaaDoor

/-
  THE REFERENCE OF ATTRIBUTES: which may be: the same as Check tells; plain.
-/
namespace Go.Proofs.YtohkbcdnlmjcjaaDoor
open Go.RowKit

set_option maxRecDepth 100000 in
theorem th_bit (h t : Nat) : thB h t = h.testBit t := by
  unfold thB
  rw [Nat.testBit_eq_decide_div_mod_eq]
  rw [Bool.eq_iff_iff]
  simp
set_option maxRecDepth 100000 in
theorem knownM_iff {x : Int} (hr : I64r x) : knownM x = true ↔ 0 ≤ x ∧ x ≤ 511 ∧ x % 2 = 0 := by
  constructor
  · intro h
    obtain ⟨n, rfl, h1, h2⟩ := known_has h hr
    rw [Nat.testBit_zero] at h2
    have : ¬ n % 2 = 1 := of_decide_eq_false h2
    omega
  · rintro ⟨h0, h1, h2⟩
    obtain ⟨n, rfl⟩ := Int.eq_ofNat_of_zero_le h0
    refine known_nat (by omega) ?_
    rw [Nat.testBit_zero]
    exact decide_eq_false (by omega)
def vio4 (g1 g2 g3 g4 c : Bool) : Bool := (((!g1 || !g2) || !g3) || !g4) || c
def vio6 (b1 n1 b2 n2 b4 n4 b5 n5 b7 n7 m7 b8 n8 : Bool) : Bool := (((((!b1 && n1) || (!b2 && n2)) || (!b4 && n4)) || (!b5 && n5)) || (!b7 && (n7 || m7))) || (!b8 && n8)
def vio8 (b3 hp z : Bool) : Bool := (b3 && !hp) || (!b3 && z)
def bt (a : At) (t : Nat) : Bool := isB a.has (t : Int)
def v4 (a : At) : Bool := vio4 (withinB a.origin 2) (withinB a.med 4294967295) (withinB a.loc 4294967295) (withinB a.aggrAs 65535) (decide ((a.comms.length : Int) > 256))
def v6 (a : At) : Bool := vio6 (bt a 1) (a.origin != 0) (bt a 2) (decide ((a.path.length : Int) > 0)) (bt a 4) (a.med != 0) (bt a 5) (a.loc != 0) (bt a 7) (a.aggrAs != 0) ((a.aggrId : Int) != 0) (bt a 8) (decide ((a.comms.length : Int) > 0))
def v8 (a : At) : Bool := vio8 (bt a 3) (hopB a.hop) ((a.hop : Int) != 0)
def cmB (a : At) : Bool := a.comms.all (withinB · 4294967295)
def rightB6 (a : At) : Bool := knownM a.has && (!v4 a && (!v6 a && (!v8 a && (pathB a.path && (cmB a && othB 8 a.others)))))
set_option maxRecDepth 100000 in
theorem bt_th {a : At} {h t : Nat} (e : a.has = (h : Int)) (h1 : 1 ≤ t) (h8 : t ≤ 8) : thB h t = bt a t := by
  unfold bt
  rw [e, is_nat h t h1 h8, th_bit]
set_option maxRecDepth 100000 in
theorem num_ok (b g n : Bool) (hz : n = false → g = true) : (if b then g else !n) = (g && !(!b && n)) := by
  cases b <;> cases g <;> cases n <;> simp_all
set_option maxRecDepth 100000 in
theorem nz (x m : Int) (hm : 0 ≤ m) : (x != 0) = false → withinB x m = true := by
  intro h
  have : x = 0 := by simpa using h
  subst this
  simp [withinB, hm]
set_option maxRecDepth 100000 in
theorem eq_not (x : Int) : (x == 0) = !(x != 0) := by simp [bne]
set_option maxRecDepth 100000 in
theorem ok_1 (a : At) : okT a 1 = (withinB a.origin 2 && !(!bt a 1 && (a.origin != 0))) := by
  show (if bt a 1 then withinB a.origin 2 else a.origin == 0) = _
  rw [eq_not]; exact num_ok _ _ _ (nz _ _ (by decide))
set_option maxRecDepth 100000 in
theorem ok_4 (a : At) : okT a 4 = (withinB a.med 4294967295 && !(!bt a 4 && (a.med != 0))) := by
  show (if bt a 4 then withinB a.med 4294967295 else a.med == 0) = _
  rw [eq_not]; exact num_ok _ _ _ (nz _ _ (by decide))
set_option maxRecDepth 100000 in
theorem ok_5 (a : At) : okT a 5 = (withinB a.loc 4294967295 && !(!bt a 5 && (a.loc != 0))) := by
  show (if bt a 5 then withinB a.loc 4294967295 else a.loc == 0) = _
  rw [eq_not]; exact num_ok _ _ _ (nz _ _ (by decide))
set_option maxRecDepth 100000 in
theorem ok_7 (a : At) : okT a 7 = (withinB a.aggrAs 65535 && !(!bt a 7 && ((a.aggrAs != 0) || ((a.aggrId : Int) != 0)))) := by
  show (if bt a 7 then withinB a.aggrAs 65535 else (a.aggrAs == 0) && ((a.aggrId : Int) == 0)) = _
  rw [eq_not, eq_not, ← Bool.not_or]
  exact num_ok _ _ _ (fun h => nz _ _ (by decide) (Bool.or_eq_false_iff.1 h).1)
set_option maxRecDepth 100000 in
theorem len_pos (n : Nat) : ((n : Int) == 0) = !decide ((n : Int) > 0) := by
  cases n with
  | zero => rfl
  | succ n => simp; omega
set_option maxRecDepth 100000 in
theorem ok_2 (a : At) : okT a 2 = (pathB a.path && !(!bt a 2 && decide ((a.path.length : Int) > 0))) := by
  show (if bt a 2 then pathB a.path else ((a.path.length : Nat) : Int) == 0) = _
  rw [len_pos]
  refine num_ok _ _ _ fun h => ?_
  have : a.path = [] := List.length_eq_zero_iff.1 (by have := of_decide_eq_false h; omega)
  rw [this]; rfl
set_option maxRecDepth 100000 in
theorem ok_8 (a : At) : okT a 8 = ((cmB a && !decide ((a.comms.length : Int) > 256)) && !(!bt a 8 && decide ((a.comms.length : Int) > 0))) := by
  show (if bt a 8 then commsB a.comms else ((a.comms.length : Nat) : Int) == 0) = _
  have e : commsB a.comms = (cmB a && !decide ((a.comms.length : Int) > 256)) := by
    unfold commsB cmB
    congr 1
    rw [Bool.eq_iff_iff]; simp; omega
  rw [len_pos, e]
  refine num_ok _ _ _ fun h => ?_
  have : a.comms = [] := List.length_eq_zero_iff.1 (by have := of_decide_eq_false h; omega)
  unfold cmB
  rw [this]; rfl
set_option maxRecDepth 100000 in
theorem ok_3 (a : At) : okT a 3 = !v8 a := by
  show (if bt a 3 then hopB a.hop else (a.hop : Int) == 0) = _
  unfold v8 vio8
  rw [eq_not]
  cases bt a 3 <;> simp
set_option maxRecDepth 100000 in
theorem ok_6 (a : At) : okT a 6 = true := by
  show (if bt a 6 then true else true) = true
  split <;> rfl
set_option maxRecDepth 100000 in
theorem right_check (a : At) : rightB6 a = checkB a := by
  have h : checkB a = (knownM a.has && ((okT a 1 && (okT a 2 && (okT a 3 && (okT a 4 && (okT a 5 && (okT a 6 && (okT a 7 && (okT a 8 && true)))))))) && othB 8 a.others)) := rfl
  rw [h, ok_1, ok_2, ok_3, ok_4, ok_5, ok_6, ok_7, ok_8]
  unfold rightB6 v4 v6 vio4 vio6
  generalize knownM a.has = k
  generalize v8 a = x8
  generalize withinB a.origin 2 = w1
  generalize withinB a.med 4294967295 = w4
  generalize withinB a.loc 4294967295 = w5
  generalize withinB a.aggrAs 65535 = w7
  generalize decide ((a.comms.length : Int) > 256) = c
  generalize (!bt a 1 && (a.origin != 0)) = y1
  generalize (!bt a 2 && decide ((a.path.length : Int) > 0)) = y2
  generalize (!bt a 4 && (a.med != 0)) = y4
  generalize (!bt a 5 && (a.loc != 0)) = y5
  generalize (!bt a 7 && ((a.aggrAs != 0) || ((a.aggrId : Int) != 0))) = y7
  generalize (!bt a 8 && decide ((a.comms.length : Int) > 0)) = y8
  generalize pathB a.path = p
  generalize cmB a = m
  generalize othB 8 a.others = o
  simp only [Bool.not_or, Bool.not_not, Bool.and_true, Bool.true_and]
  ac_rfl
end Go.Proofs.YtohkbcdnlmjcjaaDoor
