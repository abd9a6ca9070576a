/-
  THE REFERENCE's LISTS (carrefourref02): items in memory; Find.
-/
import Derived.Test.YtaafeekkllomhaaRef01
import Derived.Test.YtaafeekkllomhaaTrS
import Derived.LoopN
import Derived.OwnWalk
namespace Go.Proofs.Ytaafeekkllomhaa
open Go.RowKit

theorem info_item : (Try.prog.info? 51).map (fun i => (i.zero, i.size, i.bytes)) = some (some (.agg #[.int .u32 0, .int .i64 0, .int .i64 0]), 3, 24) := by kernel_rfl
abbrev It3 := Nat × Int × Int
def it3C (x : It3) : List Value := [.int .u32 x.1, .int .i64 x.2.1, .int .i64 x.2.2]
def rowsOf (l : List It3) : List Value := l.flatMap it3C
theorem rowsOf_len (l : List It3) : (rowsOf l).length = l.length * 3 := by
  induction l with
  | nil => rfl
  | cons x l ih => simp only [rowsOf, List.flatMap_cons, List.length_append, List.length_cons] at ih ⊢; rw [ih]; simp [it3C]; omega
theorem rowsOf_append (l m : List It3) : rowsOf (l ++ m) = rowsOf l ++ rowsOf m := by simp [rowsOf]
theorem rowsOf_get : ∀ (l : List It3) (i : Nat) (x : It3), l[i]? = some x → (rowsOf l)[i * 3]? = some (.int .u32 x.1) ∧ (rowsOf l)[i * 3 + 1]? = some (.int .i64 x.2.1) ∧ (rowsOf l)[i * 3 + 2]? = some (.int .i64 x.2.2)
  | [], i, x, h => by simp at h
  | y :: l, 0, x, h => by
    simp at h; subst h
    exact ⟨rfl, rfl, rfl⟩
  | y :: l, i + 1, x, h => by
    have ih := rowsOf_get l i x (by simpa using h)
    have e : ∀ c, (rowsOf (y :: l))[(i + 1) * 3 + c]? = (rowsOf l)[i * 3 + c]? := fun c => by
      unfold rowsOf
      rw [List.flatMap_cons, List.getElem?_append_right (by simp [it3C]; omega)]
      congr 1
      simp [it3C]; omega
    have e0 := e 0
    simp only [Nat.add_zero] at e0
    rw [e0, e 1, e 2]
    exact ih
theorem rowsOf_one (l : List It3) : ∀ u ∈ rowsOf l, u.oneCell' = true := by
  intro u hu
  unfold rowsOf at hu
  rw [List.mem_flatMap] at hu
  obtain ⟨x, _, hx⟩ := hu
  unfold it3C at hx
  simp at hx
  rcases hx with rfl | rfl | rfl <;> rfl
/-- a list in memory of the call's own, from a block on. -/
abbrev OwnIts (W : World) (B : Nat) (v : Value) (l : List It3) : Prop := W.ownsRow B 51 3 v l.length (rowsOf l)
abbrev ItsAt (W : World) (v : Value) (l : List It3) : Prop := OwnIts W 0 v l
theorem OwnIts.at_ {W : World} {B : Nat} {v : Value} {l : List It3} (h : OwnIts W B v l) : ItsAt W v l := by
  obtain ⟨h1, h2⟩ := h
  refine ⟨h1, h2.imp_right ?_⟩
  rintro ⟨g, cap, cur, h3, _, h4⟩
  exact ⟨g, cap, cur, h3, Nat.zero_le _, h4⟩
theorem OwnIts.below {W W' : World} {B : Nat} {v : Value} {l : List It3} (h : OwnIts W B v l) (hb : Below W.heap.size W W') : OwnIts W' B v l := by
  obtain ⟨h1, h2⟩ := h
  refine ⟨h1, h2.imp_right ?_⟩
  rintro ⟨g, cap, cur, h3, h4, h5, h6⟩
  exact ⟨g, cap, cur, h3, h4, (hb.block g (row_lt h5)).trans h5, h6⟩
/-- the list as a value with its cells. -/
def ItView (W : World) (sa : Option Addr) (l : List It3) : Prop := ∀ (i : Nat) (x : It3), l[i]? = some x → ∃ g, sa = some ⟨g, 0, none⟩ ∧ W.cell? ⟨g, i * 3, none⟩ = some (.int .u32 x.1) ∧ W.cell? ⟨g, i * 3 + 1, none⟩ = some (.int .i64 x.2.1) ∧ W.cell? ⟨g, i * 3 + 2, none⟩ = some (.int .i64 x.2.2)
theorem ItsAt.view {W : World} {v : Value} {l : List It3} (h : ItsAt W v l) : ∃ sa cap, v = .slice sa l.length cap ∧ l.length ≤ cap ∧ cap ≤ maxLen ∧ ItView W sa l := by
  obtain ⟨h1, ⟨rfl, h2⟩ | ⟨g, cap, cur, rfl, _, hg, hc, hm, hs, ht⟩⟩ := h
  · have : l = [] := List.length_eq_zero_iff.1 h2
    subst this
    exact ⟨none, 0, rfl, Nat.le_refl _, by simp, fun i x hi => by simp at hi⟩
  · refine ⟨some ⟨g, 0, none⟩, cap, rfl, hc, hm, fun i x hi => ⟨g, rfl, ?_⟩⟩
    have hil : i < l.length := (List.getElem?_eq_some_iff.1 hi).1
    obtain ⟨g0, g1, g2⟩ := rowsOf_get l i x hi
    have hcell : ∀ c u, c < 3 → (rowsOf l)[i * 3 + c]? = some u → W.cell? ⟨g, i * 3 + c, none⟩ = some u := fun c u hc3 hu => by
      rw [row_cell hg]
      rw [← ht, List.getElem?_take_of_lt (by omega)] at hu
      simpa using hu
    exact ⟨hcell 0 _ (by decide) g0, hcell 1 _ (by decide) g1, hcell 2 _ (by decide) g2⟩
theorem ItView.below {W W' : World} {sa : Option Addr} {l : List It3} (h : ItView W sa l) (hb : Below W.heap.size W W') : ItView W' sa l := fun i x hi => by
  obtain ⟨g, h1, h2, h3, h4⟩ := h i x hi
  exact ⟨g, h1, cell_below h2 hb, cell_below h3 hb, cell_below h4 hb⟩

/-! ### Find -/
def findF (a : Nat) (n : Int) : List It3 → Nat → Int
  | [], _ => -1
  | x :: l, k => if x.1 = a ∧ x.2.1 = n then (k : Int) else findF a n l (k + 1)
theorem findF_rng (a : Nat) (n : Int) : ∀ (l : List It3) (k : Nat), ((k : Int) - 1 ≤ findF a n l k ∧ findF a n l k < (k + l.length : Nat)) ∨ findF a n l k = -1
  | [], k => .inr rfl
  | x :: l, k => by
    unfold findF
    split
    · left; simp; omega
    · rcases findF_rng a n l (k + 1) with h | h
      · left; simp at h ⊢; omega
      · exact .inr h
abbrev findI (l : List It3) (a : Nat) (n : Int) : Int := findF a n l 0
set_option maxHeartbeats 1600000 in
set_option maxRecDepth 100000 in
theorem ref_Find (v : Value) (l : List It3) (a : Nat) (n : Int) (w : World) (h : ItsAt w v l) : Calls Try.prog 21 #[v, .int .u32 a, .int .i64 n] w fun e w' => e = .returned (.int .i64 (findI l a n)) ∧ Below w.heap.size w w' := by
  obtain ⟨sa, cap, rfl, hc, hm, hV⟩ := h.view
  have HV := Lib.hid hV
  unfold maxLen at hm
  clear h hV
  go_enter Try.func21, Try.ntmps21
  go_wp2_with fail
  go_loopw [11] (fun i wr => ∃ k : Nat, k ≤ l.length ∧ i = .int .i64 k ∧ Hid (findI l a n = findF a n (l.drop k) k) ∧ Below w.heap.size w wr) (fun i _ => l.length - (intOf i).toNat)
  case atStart => exact ⟨0, by omega, rfl, Lib.hid rfl, Below.refl _ _⟩
  case round =>
    obtain ⟨k, hk, rfl, FE, hb⟩ := hrel
    by_cases hlt : k < l.length
    · obtain ⟨x, hx⟩ : ∃ x, l[k]? = some x := ⟨_, List.getElem?_eq_getElem hlt⟩
      obtain ⟨g, hsa, d0, d1, d2⟩ := HV.out k x hx
      subst hsa
      have d0 := (hb.cell (size_lt d0)).trans d0
      have d1 := (hb.cell (size_lt d1)).trans d1
      have d2 := (hb.cell (size_lt d2)).trans d2
      have hdr : l.drop k = x :: l.drop (k + 1) := by
        rw [List.drop_eq_getElem_cons hlt]
        congr 1
        rw [List.getElem?_eq_getElem hlt] at hx
        exact Option.some.inj hx
      have FE2 : Hid (findI l a n = if x.1 = a ∧ x.2.1 = n then (k : Int) else findF a n (l.drop (k + 1)) (k + 1)) := Lib.hid (by rw [FE.out, hdr]; rfl)
      clear FE hdr hx
      obtain ⟨xa, xn, xv⟩ := x
      simp only at d0 d1 d2 FE2
      have hB : Hid (∀ o, Below w.heap.size w (wr.alloc o)) := Lib.hid fun o => hb.alloc hb.size o
      by_cases e1 : xa = a
      · by_cases e2 : xn = n
        · have z1 : ((xa : Int) == (a : Int)) = true := by rw [beq_iff_eq]; omega
          have z2 : (xn == n) = true := by rw [beq_iff_eq]; exact e2
          have E := Lib.hid (show findI l a n = (k : Int) by rw [FE2.out, if_pos ⟨e1, e2⟩])
          clear e1 e2 FE2
          go_wp2_with fail
          go_ret
          exact ⟨ret_int E.out.symm, hB.out _⟩
        · have z1 : ((xa : Int) == (a : Int)) = true := by rw [beq_iff_eq]; omega
          have z2 : (xn == n) = false := by rw [beq_eq_false_iff_ne]; exact e2
          have E := Lib.hid (show findI l a n = findF a n (l.drop (k + 1)) (k + 1) by rw [FE2.out, if_neg (fun h => e2 h.2)])
          clear e1 e2 FE2
          go_wp2_with fail
          exact ⟨⟨k + 1, by omega, by go_num, E, hB.out _⟩, by simp [intOf]; omega⟩
      · have z1 : ((xa : Int) == (a : Int)) = false := by rw [beq_eq_false_iff_ne]; omega
        have E := Lib.hid (show findI l a n = findF a n (l.drop (k + 1)) (k + 1) by rw [FE2.out, if_neg (fun h => e1 h.1)])
        clear e1 FE2
        go_wp2_with fail
        exact ⟨⟨k + 1, by omega, by go_num, E, hB.out _⟩, by simp [intOf]; omega⟩
    · obtain rfl : k = l.length := by omega
      have E := Lib.hid (show findI l a n = -1 by rw [FE.out, List.drop_length]; rfl)
      clear FE
      go_wp2_with fail
      go_ret
      exact ⟨ret_int E.out.symm, hb⟩
end Go.Proofs.Ytaafeekkllomhaa
