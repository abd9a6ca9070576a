/-
  THE TRIE'S ANSWERS IN THE WORDS OF THE REFERENCE's LISTS: Put, Drop, Get, Longest.
-/
import Derived.Test.YtnklhfdhaclfiaaItQ
namespace Go.Proofs.Ytnklhfdhaclfiaa
open Go.RowKit

abbrev has3 (a : Nat) (x : It3) : Bool := hasB (x.1 : Int) x.2.1 (a : Int)
theorem lgF_spec (a : Nat) (l : List It3) : ∀ k, k ≤ l.length →
    (lgF a l k = -1 ∧ ∀ i x, i < k → l[i]? = some x → has3 a x = false) ∨
    ∃ (m : Nat) (x : It3), lgF a l k = m ∧ m < k ∧ l[m]? = some x ∧ has3 a x = true ∧ ∀ i y, i < k → l[i]? = some y → has3 a y = true → y.2.1 ≤ x.2.1
  | 0, _ => .inl ⟨rfl, fun i x hi => by omega⟩
  | k + 1, hk => by
    obtain ⟨z, hz⟩ : ∃ x, l[k]? = some x := ⟨_, List.getElem?_eq_getElem (by omega)⟩
    rw [lgF_step hz rfl]
    have hlast : ∀ {i y}, i < k + 1 → l[i]? = some y → i = k ∧ y = z ∨ i < k := by
      intro i y hi hy
      by_cases e : i = k
      · subst e; rw [hz] at hy; cases hy; exact .inl ⟨rfl, rfl⟩
      · exact .inr (by omega)
    rcases lgF_spec a l k (by omega) with ⟨h1, h2⟩ | ⟨m, x, h1, h2, h3, h4, h5⟩
    · rw [h1]
      cases hc : has3 a z
      · left
        rw [show hasB (z.1 : Int) z.2.1 (a : Int) = false from hc]
        refine ⟨rfl, fun i x hi hx => ?_⟩
        rcases hlast hi hx with ⟨_, rfl⟩ | hi
        · exact hc
        · exact h2 i x hi hx
      · right
        rw [show hasB (z.1 : Int) z.2.1 (a : Int) = true from hc]
        refine ⟨k, z, by simp [longer], by omega, hz, hc, fun i y hi hy hh => ?_⟩
        rcases hlast hi hy with ⟨_, rfl⟩ | hi
        · exact Int.le_refl _
        · rw [h2 i y hi hy] at hh; cases hh
    · rw [h1]
      right
      have hlg : longer l (m : Int) z = decide (x.2.1 < z.2.1) := by
        unfold longer
        rw [Int.toNat_natCast, h3]
        have : decide ((m : Int) < 0) = false := by simp
        rw [this]; rfl
      rw [hlg]
      cases hc : has3 a z
      · rw [show hasB (z.1 : Int) z.2.1 (a : Int) = false from hc]
        refine ⟨m, x, rfl, by omega, h3, h4, fun i y hi hy hh => ?_⟩
        rcases hlast hi hy with ⟨_, rfl⟩ | hi
        · rw [hc] at hh; cases hh
        · exact h5 i y hi hy hh
      · rw [show hasB (z.1 : Int) z.2.1 (a : Int) = true from hc]
        by_cases hlt : x.2.1 < z.2.1
        · refine ⟨k, z, by simp [hlt], by omega, hz, hc, fun i y hi hy hh => ?_⟩
          rcases hlast hi hy with ⟨_, rfl⟩ | hi
          · exact Int.le_refl _
          · have := h5 i y hi hy hh; omega
        · refine ⟨m, x, by simp [hlt], by omega, h3, h4, fun i y hi hy hh => ?_⟩
          rcases hlast hi hy with ⟨_, rfl⟩ | hi
          · omega
          · exact h5 i y hi hy hh
/-- what stands at one of an address's keys is in the list. -/
theorem Rl.at_ {l : List It3} {S : List (Nat × Value)} (h : Rl l S) {a j : Nat} (ha : a < 4294967296) (hj : j ≤ 32) (hs : (getL S (keyN a j)).isSome = true) : ∃ x ∈ l, has3 a x = true ∧ x.2.1 = j ∧ getL S (keyN a j) = some (.int .i64 x.2.2) := by
  obtain ⟨v, hv⟩ := Option.isSome_iff_exists.1 hs
  have hm := getL_mem hv
  rw [h.map] at hm
  obtain ⟨x, hx, hxe⟩ := List.mem_map.1 hm
  obtain ⟨o1, o2⟩ := h.ok x hx
  obtain ⟨xa, xn, xv⟩ := x
  have hk := congrArg Prod.fst hxe
  have hv2 := congrArg Prod.snd hxe
  unfold enc3 at hk hv2
  simp only at hk hv2 o1 o2
  obtain ⟨k1, k2, k3⟩ := key_has (a := a) (j := j) hj
  have hle : 2 ^ (32 - j) * (a / 2 ^ (32 - j)) ≤ a := Nat.mul_div_le a _
  obtain ⟨e1, e2⟩ := net_key (a := xa) (n := xn) (b := 2 ^ (32 - j) * (a / 2 ^ (32 - j))) (m := (j : Int)) o1 (by omega) o2 (right_mod.2 ⟨k3, hj⟩) (by rw [hk]; exact k2.symm)
  refine ⟨_, hx, ?_, e2, ?_⟩
  · unfold has3
    simp only
    rw [e1, e2]; exact k1
  · rw [hv, ← hv2]
theorem Rl.long {l : List It3} {S : List (Nat × Value)} (h : Rl l S) {a : Nat} (ha : a < 4294967296) :
    (refLong l a = -1 ∧ bst S a 33 = none) ∨ ∃ (m j : Nat) (x : It3), refLong l a = m ∧ l[m]? = some x ∧ x.2.1 = j ∧ keepI (a : Int) (j : Int) = (x.1 : Int) ∧ bst S a 33 = some j ∧ getL S (keyN a j) = some (.int .i64 x.2.2) := by
  rcases lgF_spec a l l.length (Nat.le_refl _) with ⟨h1, h2⟩ | ⟨m, x, h1, h2, h3, h4, h5⟩
  · refine .inl ⟨h1, ?_⟩
    cases hb : bst S a 33 with
    | none => rfl
    | some j =>
      obtain ⟨hj, hs⟩ := bst_lt hb
      obtain ⟨x, hx, hh, _⟩ := h.at_ ha (show j ≤ 32 by omega) hs
      obtain ⟨i, hi⟩ := List.getElem?_of_mem hx
      rw [h2 i x (List.getElem?_eq_some_iff.1 hi).1 hi] at hh
      cases hh
  · have hx := List.mem_of_getElem? h3
    obtain ⟨o1, o2⟩ := h.ok x hx
    obtain ⟨n, hn⟩ := Int.eq_ofNat_of_zero_le (rightB_range o2).1
    have hn32 : n ≤ 32 := by have := (rightB_range o2).2; omega
    have h4' : hasB (x.1 : Int) (n : Int) (a : Int) = true := by rw [← hn]; exact h4
    have hk := has_key hn32 h4'
    have hg : getL S (keyN a n) = some (.int .i64 x.2.2) := by
      rw [← hk]
      refine getL_of_mem h.apart ?_
      rw [h.map]
      refine List.mem_map.2 ⟨_, hx, ?_⟩
      unfold enc3
      rw [hn]; rfl
    obtain ⟨j, hj, hnj⟩ := bst_max (S := S) (a := a) 33 n (by omega) (by rw [hg]; rfl)
    obtain ⟨hj33, hs⟩ := bst_lt hj
    obtain ⟨y, hy, hyh, hyj, _⟩ := h.at_ ha (show j ≤ 32 by omega) hs
    obtain ⟨i, hi⟩ := List.getElem?_of_mem hy
    have hle := h5 i y (List.getElem?_eq_some_iff.1 hi).1 hi hyh
    obtain rfl : n = j := by omega
    refine .inr ⟨m, n, x, h1, h3, hn, ?_, hj, hg⟩
    unfold hasB at h4'
    simp only [Bool.and_eq_true, beq_iff_eq] at h4'
    exact h4'.2

def PutPostR (tb : Nat) (N : Nat → Option Nat) (most : Int) (w : World) (r : List It3 × Int) (e : Ending) (w' : World) : Prop :=
  ∃ N' S', e = .returned (.int .i64 r.2) ∧ TrI w' tb N' S' most ∧ Rl r.1 S' ∧ TExt N N' w.heap.size ∧ Kept (TOwn tb N) w w'
theorem trI_PutR {tb : Nat} {N : Nat → Option Nat} {S : List (Nat × Value)} {l : List It3} {most : Int} (a : Nat) (n v : Int) (w : World) (h : TrI w tb N S most) (hR : Rl l S) (hm : most ≤ 4096) (ha : a < 4294967296) :
    Calls Try.prog 15 #[.pointer (some ⟨tb, 0, none⟩), .agg #[.int .u32 a, .int .i64 n], .int .i64 v] w (PutPostR tb N most w (refPut l most (a, n, v))) := by
  refine (trI_PutA a n v w h hm ha).mono ?_
  rintro e w' ⟨N', rfl, h1, h2, h3⟩
  obtain ⟨r1, r2⟩ := hR.put most (x := (a, n, v)) ha
  exact ⟨N', _, by rw [r2], h1, r1, h2, h3⟩
def DropPostR (tb : Nat) (N : Nat → Option Nat) (most : Int) (w : World) (r : List It3 × Bool) (e : Ending) (w' : World) : Prop :=
  ∃ N' S', e = .returned (.bool r.2) ∧ TrI w' tb N' S' most ∧ Rl r.1 S' ∧ TSub N N' ∧ Kept (TOwn tb N) w w'
theorem trI_DropR {tb : Nat} {N : Nat → Option Nat} {S : List (Nat × Value)} {l : List It3} {most : Int} (a : Nat) (n : Int) (w : World) (h : TrI w tb N S most) (hR : Rl l S) (hl : S.length ≤ 4096) (ha : a < 4294967296) :
    Calls Try.prog 24 #[.pointer (some ⟨tb, 0, none⟩), .agg #[.int .u32 a, .int .i64 n]] w (DropPostR tb N most w (refDrop l a n)) := by
  obtain ⟨r1, r2⟩ := hR.drop n ha
  by_cases hr : rightB a n = true
  · obtain ⟨m, rfl⟩ := Int.eq_ofNat_of_zero_le (rightB_range hr).1
    refine (trI_Drop a m w h hl ha hr).mono ?_
    rintro e w' ⟨N', rfl, h1, h2, h3⟩
    have e : dropA S (a, (m : Int)) = delL S (keyN a m) := if_pos hr
    rw [e] at r1
    refine ⟨N', _, ?_, h1, r1, h2, h3⟩
    rw [r2, show pRight (a, (m : Int)) = true from hr]; rfl
  · refine (trI_Drop_no ⟨tb, 0, none⟩ a n w (by omega) (by omega) (by simpa using hr)).mono ?_
    rintro e w' ⟨rfl, hb⟩
    have e : dropA S (a, n) = S := if_neg hr
    rw [e] at r1
    refine ⟨N, S, ?_, h.below hb, r1, fun _ _ h => h, Kept.of_below hb⟩
    rw [r2, show pRight (a, n) = false by simpa using hr]; rfl
/-- what Get answers, by the list. -/
def GetR (l : List It3) (a : Nat) (n : Int) (e : Ending) : Prop :=
  (e = .returned (.tuple #[.int .i64 0, .bool false]) ∧ findI l a n = -1) ∨ ∃ (i : Nat) (v : Int), e = .returned (.tuple #[.int .i64 v, .bool true]) ∧ findI l a n = i ∧ l[i]? = some (a, n, v)
theorem trI_GetR {tb : Nat} {N : Nat → Option Nat} {S : List (Nat × Value)} {l : List It3} {most : Int} (a : Nat) (n : Int) (w : World) (h : TrI w tb N S most) (hR : Rl l S) (ha : a < 4294967296) :
    Calls Try.prog 28 #[.pointer (some ⟨tb, 0, none⟩), .agg #[.int .u32 a, .int .i64 n]] w fun e w' => GetR l a n e ∧ Below w.heap.size w w' := by
  by_cases hr : rightB a n = true
  · obtain ⟨m, rfl⟩ := Int.eq_ofNat_of_zero_le (rightB_range hr).1
    refine (trI_Get a m w h ha hr).mono ?_
    rintro e w' ⟨rfl, hb⟩
    refine ⟨?_, hb⟩
    rcases hR.find (m : Int) ha with ⟨f1, f2⟩ | ⟨i, v, f1, f2, _, f4, _⟩
    · have hn : getL S (keyN a m) = none := f2 hr
      exact .inl ⟨(getE_no hn).symm, f1⟩
    · have hn : getL S (keyN a m) = some (.int .i64 v) := f4
      exact .inr ⟨i, v, (getE_yes hn).symm, f1, f2⟩
  · refine (trI_Get_no ⟨tb, 0, none⟩ a n w (by omega) (by omega) (by simpa using hr)).mono ?_
    rintro e w' ⟨rfl, hb⟩
    refine ⟨?_, hb⟩
    rcases hR.find n ha with ⟨f1, _⟩ | ⟨i, v, _, _, f3, _⟩
    · exact .inl ⟨rfl, f1⟩
    · exact absurd f3 hr
def LongR (l : List It3) (a : Nat) (e : Ending) : Prop :=
  (e = .returned (.tuple #[.agg #[.int .u32 0, .int .i64 0], .int .i64 0, .bool false]) ∧ refLong l a = -1) ∨ ∃ (m : Nat) (x : It3), e = .returned (.tuple #[.agg #[.int .u32 x.1, .int .i64 x.2.1], .int .i64 x.2.2, .bool true]) ∧ refLong l a = m ∧ l[m]? = some x
theorem trI_LongR {tb : Nat} {N : Nat → Option Nat} {S : List (Nat × Value)} {l : List It3} {most : Int} (a : Nat) (w : World) (h : TrI w tb N S most) (hR : Rl l S) (ha : a < 4294967296) :
    Calls Try.prog 22 #[.pointer (some ⟨tb, 0, none⟩), .int .u32 a] w fun e w' => LongR l a e ∧ Below w.heap.size w w' := by
  refine (trI_Longest a w h ha).mono ?_
  rintro e w' ⟨rfl, hb⟩
  refine ⟨?_, hb⟩
  rcases hR.long ha with ⟨f1, f2⟩ | ⟨m, j, x, f1, f2, f3, f4, f5, f6⟩
  · exact .inl ⟨(longE_no f2).symm, f1⟩
  · refine .inr ⟨m, x, ?_, f1, f2⟩
    rw [f3, ← f4]
    exact (longE_yes f5 (congrArg (Option.getD · zvI) f6)).symm
end Go.Proofs.Ytnklhfdhaclfiaa
