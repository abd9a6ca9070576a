/-
  SETS OF PREFIXES: merge; Or, And, Less.
-/
import Derived.Test.YtaafeekkllomhaaPsE
import Derived.Test.YtaafeekkllomhaaPsD
namespace Go.Proofs.Ytaafeekkllomhaa
open Go.RowKit

/-- what is in either, as far as kf says so. -/
def mrg (kf : Bool → Bool → Bool) (xs ys : List Pf) : List Pf := setOf ((xs ++ ys).filter fun p => kf (decide (p ∈ xs)) (decide (p ∈ ys)))
theorem mrg_mem (kf : Bool → Bool → Bool) (xs ys : List Pf) (p : Pf) : p ∈ mrg kf xs ys ↔ (p ∈ xs ∨ p ∈ ys) ∧ kf (decide (p ∈ xs)) (decide (p ∈ ys)) = true := by
  unfold mrg
  rw [(setOf_srt _).2, List.mem_filter, List.mem_append]
theorem mrg_srt (kf : Bool → Bool → Bool) (xs ys : List Pf) : Srt (mrg kf xs ys) := (setOf_srt _).1
theorem mrg_len (kf : Bool → Bool → Bool) (xs ys : List Pf) : (mrg kf xs ys).length ≤ xs.length + ys.length := by
  unfold mrg
  refine Nat.le_trans (setOf_len _) (Nat.le_trans (List.length_filter_le _ _) ?_)
  rw [List.length_append]; omega
/-- where merge stands. -/
structure MI (kf : Bool → Bool → Bool) (xs ys : List Pf) (i j : Nat) (acc : List Pf) : Prop where
  srt : Srt acc
  mem : ∀ p, p ∈ acc ↔ (p ∈ xs.take i ∨ p ∈ ys.take j) ∧ kf (decide (p ∈ xs)) (decide (p ∈ ys)) = true
  lt : ∀ p q, (p ∈ xs.take i ∨ p ∈ ys.take j) → (q ∈ xs.drop i ∨ q ∈ ys.drop j) → plt p q
  len : acc.length ≤ i + j
theorem mi_start (kf : Bool → Bool → Bool) (xs ys : List Pf) : MI kf xs ys 0 0 [] := ⟨List.Pairwise.nil, fun p => by simp, fun p q h => by simp at h, by simp⟩
theorem mi_end {kf : Bool → Bool → Bool} {xs ys acc : List Pf} (h : MI kf xs ys xs.length ys.length acc) : acc = mrg kf xs ys := by
  refine srt_ext h.srt (mrg_srt kf xs ys) fun p => ?_
  rw [h.mem, mrg_mem, List.take_length, List.take_length]
theorem mi_step {kf : Bool → Bool → Bool} {xs ys acc : List Pf} {i j i' j' : Nat} {q : Pf} {b : Bool} (h : MI kf xs ys i j acc) (hq : q ∈ xs.drop i ∨ q ∈ ys.drop j)
    (ht : ∀ p, (p ∈ xs.take i' ∨ p ∈ ys.take j') ↔ ((p ∈ xs.take i ∨ p ∈ ys.take j) ∨ p = q)) (hd : ∀ p, (p ∈ xs.drop i' ∨ p ∈ ys.drop j') → plt q p ∧ (p ∈ xs.drop i ∨ p ∈ ys.drop j))
    (hk : kf (decide (q ∈ xs)) (decide (q ∈ ys)) = b) (hl : i + j < i' + j') : MI kf xs ys i' j' (if b then acc ++ [q] else acc) := by
  have hlen := h.len
  have hold : ∀ a ∈ acc, plt a q := fun a ha => h.lt a q ((h.mem a).1 ha).1 hq
  cases b
  · simp only [Bool.false_eq_true, if_false]
    refine ⟨h.srt, fun p => ?_, fun p r hp hr => ?_, by omega⟩
    · rw [h.mem, ht]
      constructor
      · rintro ⟨h1, h2⟩
        exact ⟨.inl h1, h2⟩
      · rintro ⟨h1 | rfl, h2⟩
        · exact ⟨h1, h2⟩
        · rw [hk] at h2; cases h2
    · rcases (ht p).1 hp with h1 | rfl
      · exact h.lt p r h1 (hd r hr).2
      · exact (hd r hr).1
  · simp only [if_true]
    refine ⟨?_, fun p => ?_, fun p r hp hr => ?_, by rw [List.length_append, List.length_singleton]; omega⟩
    · rw [Srt, List.pairwise_append]
      exact ⟨h.srt, List.pairwise_singleton _ _, fun a ha c hc => by rw [List.mem_singleton.1 hc]; exact hold a ha⟩
    · rw [List.mem_append, List.mem_singleton, h.mem, ht]
      constructor
      · rintro (⟨h1, h2⟩ | rfl)
        · exact ⟨.inl h1, h2⟩
        · exact ⟨.inr rfl, hk⟩
      · rintro ⟨h1 | rfl, h2⟩
        · exact .inl ⟨h1, h2⟩
        · exact .inr rfl
    · rcases (ht p).1 hp with h1 | rfl
      · exact h.lt p r h1 (hd r hr).2
      · exact (hd r hr).1
theorem mem_take_succ {xs : List Pf} {i : Nat} {x : Pf} (hx : xs[i]? = some x) (p : Pf) : p ∈ xs.take (i + 1) ↔ p ∈ xs.take i ∨ p = x := by
  rw [List.take_add_one, hx]; simp
theorem mem_drop_at {xs : List Pf} {i : Nat} {x : Pf} (hx : xs[i]? = some x) (p : Pf) : p ∈ xs.drop i ↔ p = x ∨ p ∈ xs.drop (i + 1) := by
  obtain ⟨h1, rfl⟩ := List.getElem?_eq_some_iff.1 hx
  rw [List.drop_eq_getElem_cons h1, List.mem_cons]
theorem srt_rest {xs : List Pf} (h : Srt xs) {i : Nat} {x : Pf} (hx : xs[i]? = some x) {p : Pf} (hp : p ∈ xs.drop (i + 1)) : plt x p := by
  obtain ⟨k, hk⟩ := List.mem_iff_getElem?.1 hp
  rw [List.getElem?_drop] at hk
  exact srt_lt h hx hk (by omega)
theorem mem_split {xs : List Pf} (i : Nat) (p : Pf) : p ∈ xs ↔ p ∈ xs.take i ∨ p ∈ xs.drop i := by
  conv => lhs; rw [← List.take_append_drop i xs]
  rw [List.mem_append]
/-- the first's next one alone. -/
theorem mi_left {kf : Bool → Bool → Bool} {xs ys acc : List Pf} {i j : Nat} {x : Pf} (h : MI kf xs ys i j acc) (hs : Srt xs) (hx : xs[i]? = some x) (hy : ∀ y ∈ ys.drop j, plt x y) {b : Bool} (hb : kf true false = b) : MI kf xs ys (i + 1) j (if b then acc ++ [x] else acc) := by
  have hxd : x ∈ xs.drop i := (mem_drop_at hx x).2 (.inl rfl)
  have h1 : decide (x ∈ xs) = true := by simpa using List.mem_of_getElem? hx
  have h2 : decide (x ∈ ys) = false := by
    simp only [decide_eq_false_iff_not]
    intro hm
    rcases (mem_split j x).1 hm with hm | hm
    · exact plt_irrefl x (h.lt x x (.inr hm) (.inl hxd))
    · exact plt_irrefl x (hy x hm)
  refine mi_step h (.inl hxd) (fun p => ?_) (fun p hp => ?_) (by rw [h1, h2]; exact hb) (by omega)
  · rw [mem_take_succ hx]
    constructor
    · rintro ((k | k) | k)
      · exact .inl (.inl k)
      · exact .inr k
      · exact .inl (.inr k)
    · rintro ((k | k) | k)
      · exact .inl (.inl k)
      · exact .inr k
      · exact .inl (.inr k)
  · rcases hp with k | k
    · exact ⟨srt_rest hs hx k, .inl ((mem_drop_at hx p).2 (.inr k))⟩
    · exact ⟨hy p k, .inr k⟩
theorem mi_right {kf : Bool → Bool → Bool} {xs ys acc : List Pf} {i j : Nat} {y : Pf} (h : MI kf xs ys i j acc) (hs : Srt ys) (hy : ys[j]? = some y) (hx : ∀ x ∈ xs.drop i, plt y x) {b : Bool} (hb : kf false true = b) : MI kf xs ys i (j + 1) (if b then acc ++ [y] else acc) := by
  have hyd : y ∈ ys.drop j := (mem_drop_at hy y).2 (.inl rfl)
  have h1 : decide (y ∈ ys) = true := by simpa using List.mem_of_getElem? hy
  have h2 : decide (y ∈ xs) = false := by
    simp only [decide_eq_false_iff_not]
    intro hm
    rcases (mem_split i y).1 hm with hm | hm
    · exact plt_irrefl y (h.lt y y (.inl hm) (.inr hyd))
    · exact plt_irrefl y (hx y hm)
  refine mi_step h (.inr hyd) (fun p => ?_) (fun p hp => ?_) (by rw [h1, h2]; exact hb) (by omega)
  · rw [mem_take_succ hy, or_assoc]
  · rcases hp with k | k
    · exact ⟨hx p k, .inl k⟩
    · exact ⟨srt_rest hs hy k, .inr ((mem_drop_at hy p).2 (.inr k))⟩
theorem mi_both {kf : Bool → Bool → Bool} {xs ys acc : List Pf} {i j : Nat} {x : Pf} (h : MI kf xs ys i j acc) (hs : Srt xs) (ht : Srt ys) (hx : xs[i]? = some x) (hy : ys[j]? = some x) {b : Bool} (hb : kf true true = b) : MI kf xs ys (i + 1) (j + 1) (if b then acc ++ [x] else acc) := by
  have hxd : x ∈ xs.drop i := (mem_drop_at hx x).2 (.inl rfl)
  have h1 : decide (x ∈ xs) = true := by simpa using List.mem_of_getElem? hx
  have h2 : decide (x ∈ ys) = true := by simpa using List.mem_of_getElem? hy
  refine mi_step h (.inl hxd) (fun p => ?_) (fun p hp => ?_) (by rw [h1, h2]; exact hb) (by omega)
  · rw [mem_take_succ hx, mem_take_succ hy]
    constructor
    · rintro ((k | k) | (k | k))
      · exact .inl (.inl k)
      · exact .inr k
      · exact .inl (.inr k)
      · exact .inr k
    · rintro ((k | k) | k)
      · exact .inl (.inl k)
      · exact .inr (.inl k)
      · exact .inl (.inr k)
  · rcases hp with k | k
    · exact ⟨srt_rest hs hx k, .inl ((mem_drop_at hx p).2 (.inr k))⟩
    · exact ⟨srt_rest ht hy k, .inr ((mem_drop_at hy p).2 (.inr k))⟩
theorem drop_lt {ys : List Pf} (ht : Srt ys) {j : Nat} {x y : Pf} (hy : ys[j]? = some y) (hlt : plt x y) : ∀ z ∈ ys.drop j, plt x z := by
  intro z hz
  rcases (mem_drop_at hy z).1 hz with rfl | hz
  · exact hlt
  · exact plt_trans hlt (srt_rest ht hy hz)
theorem drop_none {ys : List Pf} {j : Nat} (h : j = ys.length) {P : Pf → Prop} : ∀ z ∈ ys.drop j, P z := by
  subst h
  rw [List.drop_length]
  intro z hz
  simp at hz
theorem own_snocP {w : World} {B : Nat} {v : Value} {xs : List Pf} {x : Pf} (h : w.ownsRow B 35 2 v (xs.length + 1) (xs.flatMap encP ++ [.int .u32 x.1, .int .i64 x.2])) : w.ownsRow B 35 2 v (xs ++ [x]).length ((xs ++ [x]).flatMap encP) := by
  rw [flat_snoc, List.length_append]; exact h
theorem own_ltP {w : World} {B k n : Nat} {e : TypeId} {v : Value} {xs : List Value} (h : w.ownsRow B e k v n xs) : ∀ g, v.ownBlock = some g → g < w.heap.size := by
  obtain ⟨_, ⟨rfl, _⟩ | ⟨g, cap, cur, rfl, hB, hg, _⟩⟩ := h
  · intro g hg; cases hg
  · intro g' hg'; cases hg'; exact row_lt hg
/-- a box of two cells, stored anew. -/
theorem pair_put (W : World) (b : Nat) (u0 u1 v0 v1 : Value) (h0 : W.cell? ⟨b, 0, none⟩ = some u0) (h1 : W.cell? ⟨b, 1, none⟩ = some u1) (f0 : W.frozen? ⟨b, 0, none⟩ = false) (f1 : W.frozen? ⟨b, 1, none⟩ = false) :
    ∃ W2, W2 = (W.setCell ⟨b, 0, none⟩ v0).setCell ⟨b, 1, none⟩ v1 ∧ W2.cell? ⟨b, 0, none⟩ = some v0 ∧ W2.cell? ⟨b, 1, none⟩ = some v1 ∧ W2.frozen? ⟨b, 0, none⟩ = false ∧ W2.frozen? ⟨b, 1, none⟩ = false ∧ Kept (fun k => k = b) W W2 ∧ W2.heap.size = W.heap.size := by
  refine ⟨_, rfl, ?_, ?_, ?_, ?_, (Kept.setCell (F := fun k => k = b) ⟨b, 0, none⟩ v0 rfl).trans (Kept.setCell (F := fun k => k = b) ⟨b, 1, none⟩ v1 rfl), by simp [World.setCell]⟩
  · rw [World.cell?_setCell_other _ _ _ _ (by intro e; injection e with _ e _; cases e), World.cell?_setCell_same _ _ _ h0]
  · have h2 : (W.setCell ⟨b, 0, none⟩ v0).cell? ⟨b, 1, none⟩ = some u1 := by
      rw [World.cell?_setCell_other _ _ _ _ (by intro e; injection e with _ e _; cases e)]
      exact h1
    rw [World.cell?_setCell_same _ _ _ h2]
  · rw [World.frozen?_setCell, World.frozen?_setCell]; exact f0
  · rw [World.frozen?_setCell, World.frozen?_setCell]; exact f1
theorem one_pf (x : Pf) : ∀ u ∈ [Value.int .u32 x.1, Value.int .i64 x.2], u.oneCell' = true := encP_one x
def MrgPost (kf : Bool → Bool → Bool) (xs ys : List Pf) (w : World) (e : Ending) (w' : World) : Prop := ∃ v', e = .returned v' ∧ OwnPs w' w.heap.size v' (mrg kf xs ys) ∧ Below w.heap.size w w'
set_option maxHeartbeats 12800000 in
set_option maxRecDepth 100000 in
theorem ps_merge (g : Nat) (kf : Bool → Bool → Bool) (hkf : ∀ (a b : Bool) (W : World), Calls Try.prog g #[.bool a, .bool b] W fun e w' => e = .returned (.bool (kf a b)) ∧ W = w') (eg : ∀ args w, (callFunc g args).run Try.prog w = .ok (.enter g args) w)
    (v u : Value) (xs ys : List Pf) (w : World) (h : PsAt w v xs) (k : PsAt w u ys) (hs : Srt xs) (ht : Srt ys) (hn : xs.length + ys.length ≤ 1073741824) :
    Calls Try.prog 48 #[.agg #[v], .agg #[u], .func (.func g) #[] #[]] w (MrgPost kf xs ys w) := by
  obtain ⟨i0, hii, hz0, hz1, hz2⟩ := info_parts info_pref
  have OKX := Lib.hid (ps_ok h)
  have OKY := Lib.hid (ps_ok k)
  have HS := Lib.hid hs
  have HT := Lib.hid ht
  have HK := Lib.hid hkf
  obtain ⟨sa, cap, rfl, hlc, hcm, hV⟩ := h
  obtain ⟨sb, cap2, rfl, hlc2, hcm2, hU⟩ := k
  have HV := Lib.hid hV
  have HU := Lib.hid hU
  clear hV hU hs ht hkf
  unfold maxLen at hcm hcm2
  go_enter Try.func48, Try.ntmps48
  go_upto_region 1 with (fail)
  obtain ⟨W0, hW0, q0, q1, hB⟩ := boxCC w #[.slice sa xs.length cap] 26 #[.slice sb ys.length cap2] 26
  rw [← hW0]
  clear hW0
  have C0 : Hid (W0.cell? ⟨w.heap.size, 0, none⟩ = some (.slice sa xs.length cap)) := Lib.hid (row_cell q0 0)
  have C1 : Hid (W0.cell? ⟨w.heap.size + 1, 0, none⟩ = some (.slice sb ys.length cap2)) := Lib.hid (row_cell q1 0)
  have HB := Lib.hid hB
  have HB0 := Lib.hid hB
  clear q0 q1 hB
  go_wp2_with fail
  clear HB0
  go_loopw [8, 9, 7] (fun i9 j9 v7 wr => ∃ (i j : Nat) (acc : List Pf), i ≤ xs.length ∧ j ≤ ys.length ∧ i9 = .int .i64 i ∧ j9 = .int .i64 j ∧ Hid (MI kf xs ys i j acc) ∧ Hid (wr.ownsRow W0.heap.size 35 2 v7 acc.length (acc.flatMap encP)) ∧ Hid (Below W0.heap.size W0 wr)) (fun i9 j9 _ _ => (xs.length + ys.length) - ((intOf i9).toNat + (intOf j9).toNat))
  case atStart => exact ⟨0, 0, [], by omega, by omega, rfl, rfl, Lib.hid (mi_start kf xs ys), Lib.hid ⟨rfl, .inl ⟨rfl, rfl⟩⟩, Lib.hid (Below.refl _ _)⟩
  case round =>
    obtain ⟨i, j, acc, hi, hj, rfl, rfl, M, O, B⟩ := hrel
    have c0 := Lib.hid ((B.out.cell (size_lt C0.out)).trans C0.out)
    have c1 := Lib.hid ((B.out.cell (size_lt C1.out)).trans C1.out)
    have hal := M.out.len
    have k0 : (0 : Int) ≤ (i : Int) := by omega
    have k1 : (0 : Int) ≤ (j : Int) := by omega
    by_cases hix : i < xs.length
    · have j0 : decide ((i : Int) < (xs.length : Int)) = true := by simpa using hix
      obtain ⟨x, hx⟩ : ∃ x, xs[i]? = some x := ⟨_, List.getElem?_eq_getElem hix⟩
      obtain ⟨b1, off1, hsa, hP⟩ := HV.out (by omega)
      subst hsa
      obtain ⟨x0, x1⟩ := ps_two hP hx
      have x0 := (B.out.cell (size_lt (cell_below x0 HB.out))).trans (cell_below x0 HB.out)
      have x1 := (B.out.cell (size_lt (cell_below x1 HB.out))).trans (cell_below x1 HB.out)
      have HX := Lib.hid hx
      have i1 : (i : Int) < (xs.length : Int) := by omega
      clear hP hx
      have c0' := c0.out
      have c1' := c1.out
      by_cases hjy : j < ys.length
      · have j1 : decide ((j : Int) < (ys.length : Int)) = true := by simpa using hjy
        have j2 : ((j : Int) == (ys.length : Int)) = false := by simp; omega
        have j3 : ((i : Int) == (xs.length : Int)) = false := by simp; omega
        obtain ⟨y, hy⟩ : ∃ y, ys[j]? = some y := ⟨_, List.getElem?_eq_getElem hjy⟩
        obtain ⟨b2, off2, hsb, hQ⟩ := HU.out (by omega)
        subst hsb
        obtain ⟨y0, y1⟩ := ps_two hQ hy
        have y0 := (B.out.cell (size_lt (cell_below y0 HB.out))).trans (cell_below y0 HB.out)
        have y1 := (B.out.cell (size_lt (cell_below y1 HB.out))).trans (cell_below y1 HB.out)
        have HY := Lib.hid hy
        have i2 : (j : Int) < (ys.length : Int) := by omega
        clear hQ hy
        have PC := Lib.hid (fun (W : World) => ps_Cmp x y W)
        go_upto_region 5 with (fail)
        clear j0 j1 j2 j3
        by_cases hlt : plt x y
        · have PV : Hid (pcmp x y = -1) := Lib.hid (by rw [pcmp_val, if_pos hlt])
          have PC1 : Hid (∀ W : World, Calls Try.prog 13 #[.agg #[.int .u32 x.1, .int .i64 x.2], .agg #[.int .u32 y.1, .int .i64 y.2]] W fun e w' => e = .returned (.int .i64 (-1)) ∧ Below W.heap.size W w') := Lib.hid fun W => by have := PC.out W; rw [PV.out] at this; exact this
          clear PC PV
          refine wp_region_held_drew (S := fun w' => Below wr.heap.size wr w') (by kernel_rfl) ?_ (fun hHeld => ?_)
          · exact (Below.refl _ _).drew
          refine rg_yes (i := 0) (v := ?_) at0 (by kernel_rfl) (by kernel_rfl) (by kernel_rfl) (fun _ _ _ h => h) ?_ ?_ hHeld ?_; rotate_left 1; (· rfl); (· intro w' hSw; (try dsimp only at hSw); (try clear hHeld); go_simp; try with_reducible rfl)
          try simp only [Act.put, List.setIfInBounds_toArray, List.set_cons_zero, List.set_cons_succ]
          refine rg_yes (i := 1) (v := ?_) (atS at0) (by kernel_rfl) (by kernel_rfl) (by kernel_rfl) (fun _ _ _ h => h) ?_ ?_ hHeld ?_; rotate_left 1; (· rfl); (· intro w' hSw; (try dsimp only at hSw); have x0 := cell_below x0 hSw; have x1 := cell_below x1 hSw; have y0 := cell_below y0 hSw; have y1 := cell_below y1 hSw; have c0' := cell_below c0' hSw; have c1' := cell_below c1' hSw; (try clear hHeld); go_simp; try with_reducible rfl)
          try simp only [Act.put, List.setIfInBounds_toArray, List.set_cons_zero, List.set_cons_succ]
          refine rg_yes (i := 2) (v := ?_) (atS (atS at0)) (by kernel_rfl) (by kernel_rfl) (by kernel_rfl) (fun _ _ _ h => h) ?_ ?_ hHeld ?_; rotate_left 1; (· rfl); (· intro w' hSw; (try dsimp only at hSw); (try clear hHeld); go_simp; try with_reducible rfl)
          try simp only [Act.put, List.setIfInBounds_toArray, List.set_cons_zero, List.set_cons_succ]
          refine rg_yes (i := 3) (v := ?_) (atS (atS (atS at0))) (by kernel_rfl) (by kernel_rfl) (by kernel_rfl) (fun _ _ _ h => h) ?_ ?_ hHeld ?_; rotate_left 1; (· rfl); (· intro w' hSw; (try dsimp only at hSw); have x0 := cell_below x0 hSw; have x1 := cell_below x1 hSw; have y0 := cell_below y0 hSw; have y1 := cell_below y1 hSw; have c0' := cell_below c0' hSw; have c1' := cell_below c1' hSw; (try clear hHeld); go_simp; try with_reducible rfl)
          try simp only [Act.put, List.setIfInBounds_toArray, List.set_cons_zero, List.set_cons_succ]
          refine rg_yes (i := 4) (v := ?_) (atS (atS (atS (atS at0)))) (by kernel_rfl) (by kernel_rfl) (by kernel_rfl) (fun _ _ _ h => h) ?_ ?_ hHeld ?_; rotate_left 1; (· rfl); (· intro w' hSw; (try dsimp only at hSw); have x0 := cell_below x0 hSw; have x1 := cell_below x1 hSw; have y0 := cell_below y0 hSw; have y1 := cell_below y1 hSw; have c0' := cell_below c0' hSw; have c1' := cell_below c1' hSw; (try clear hHeld); go_simp; try with_reducible rfl)
          try simp only [Act.put, List.setIfInBounds_toArray, List.set_cons_zero, List.set_cons_succ]
          refine rg_yes (i := 5) (v := ?_) (atS (atS (atS (atS (atS at0))))) (by kernel_rfl) (by kernel_rfl) (by kernel_rfl) (fun _ _ _ h => h) ?_ ?_ hHeld ?_; rotate_left 1; (· rfl); (· intro w' hSw; (try dsimp only at hSw); (try clear hHeld); go_simp; try with_reducible rfl)
          try simp only [Act.put, List.setIfInBounds_toArray, List.set_cons_zero, List.set_cons_succ]
          refine rg_yes (i := 6) (v := ?_) (atS (atS (atS (atS (atS (atS at0)))))) (by kernel_rfl) (by kernel_rfl) (by kernel_rfl) (fun _ _ _ h => h) ?_ ?_ hHeld ?_; rotate_left 1; (· rfl); (· intro w' hSw; (try dsimp only at hSw); have x0 := cell_below x0 hSw; have x1 := cell_below x1 hSw; have y0 := cell_below y0 hSw; have y1 := cell_below y1 hSw; have c0' := cell_below c0' hSw; have c1' := cell_below c1' hSw; (try clear hHeld); go_simp; try with_reducible rfl)
          try simp only [Act.put, List.setIfInBounds_toArray, List.set_cons_zero, List.set_cons_succ]
          refine rg_yes (i := 7) (v := ?_) (atS (atS (atS (atS (atS (atS (atS at0))))))) (by kernel_rfl) (by kernel_rfl) (by kernel_rfl) (fun _ _ _ h => h) ?_ ?_ hHeld ?_; rotate_left 1; (· rfl); (· intro w' hSw; (try dsimp only at hSw); (try clear hHeld); go_simp; try with_reducible rfl)
          try simp only [Act.put, List.setIfInBounds_toArray, List.set_cons_zero, List.set_cons_succ]
          refine rg_yes (i := 8) (v := ?_) (atS (atS (atS (atS (atS (atS (atS (atS at0)))))))) (by kernel_rfl) (by kernel_rfl) (by kernel_rfl) (fun _ _ _ h => h) ?_ ?_ hHeld ?_; rotate_left 1; (· rfl); (· intro w' hSw; (try dsimp only at hSw); have x0 := cell_below x0 hSw; have x1 := cell_below x1 hSw; have y0 := cell_below y0 hSw; have y1 := cell_below y1 hSw; have c0' := cell_below c0' hSw; have c1' := cell_below c1' hSw; (try clear hHeld); go_simp; try with_reducible rfl)
          try simp only [Act.put, List.setIfInBounds_toArray, List.set_cons_zero, List.set_cons_succ]
          refine rg_yes (i := 9) (v := ?_) (atS (atS (atS (atS (atS (atS (atS (atS (atS at0))))))))) (by kernel_rfl) (by kernel_rfl) (by kernel_rfl) (fun _ _ _ h => h) ?_ ?_ hHeld ?_; rotate_left 1; (· rfl); (· intro w' hSw; (try dsimp only at hSw); have x0 := cell_below x0 hSw; have x1 := cell_below x1 hSw; have y0 := cell_below y0 hSw; have y1 := cell_below y1 hSw; have c0' := cell_below c0' hSw; have c1' := cell_below c1' hSw; (try clear hHeld); go_simp; try with_reducible rfl)
          try simp only [Act.put, List.setIfInBounds_toArray, List.set_cons_zero, List.set_cons_succ]
          refine rg_call (i := 10) (atS (atS (atS (atS (atS (atS (atS (atS (atS (atS at0)))))))))) (by kernel_rfl) ?_ (fun K hK => ?_); (· rfl); (try clear hb); go_simp; (refine (PC1.out _).mono ?_; rintro e w1 ⟨rfl, hb⟩); go_wp2_with fail; refine hK.out _ _ ?_ (fun hHeld => ?_); (· exact hHeld.trans (hb.mono hHeld.size)); clear hK K
          try simp only [Act.put, List.setIfInBounds_toArray, List.set_cons_zero, List.set_cons_succ]
          refine rg_yes (i := 11) (v := ?_) (atS (atS (atS (atS (atS (atS (atS (atS (atS (atS (atS at0))))))))))) (by kernel_rfl) (by kernel_rfl) (by kernel_rfl) (fun _ _ _ h => h) ?_ ?_ hHeld ?_; rotate_left 1; (· rfl); (· intro w' hSw; (try dsimp only at hSw); (try clear hHeld); go_simp; try with_reducible rfl)
          try simp only [Act.put, List.setIfInBounds_toArray, List.set_cons_zero, List.set_cons_succ]
          refine wpAnyH_done (by kernel_rfl) ?_ _
          have O := Lib.hid (own_below O.out hHeld)
          have B := Lib.hid (below_on B.out hHeld)
          have c0 := Lib.hid (cell_below c0.out hHeld)
          have c1 := Lib.hid (cell_below c1.out hHeld)
          have x0 := cell_below x0 hHeld
          have x1 := cell_below x1 hHeld
          have y0 := cell_below y0 hHeld
          have y1 := cell_below y1 hHeld
          clear hHeld hb c0' c1'
          go_upto_region 11 with (fail)
          obtain ⟨W1, hW1, p0, p1, hB1⟩ := box2 w1 (.int .u32 0) (.int .i64 0) 35
          have pf0 : W1.frozen? ⟨w1.heap.size, 0, none⟩ = false := by rw [hW1]; exact row_free (heap_alloc_new _ _) 0
          have pf1 : W1.frozen? ⟨w1.heap.size, 1, none⟩ = false := by rw [hW1]; exact row_free (heap_alloc_new _ _) 1
          rw [← hW1]
          clear hW1
          have OL := Lib.hid (own_ltP O.out)
          have WL := Lib.hid B.out.size
          have L0 := Lib.hid (size_lt c0.out)
          have L1 := Lib.hid (size_lt c1.out)
          have O1 := Lib.hid (own_below O.out hB1)
          have B1 := Lib.hid (below_on B.out hB1)
          have Lx0 := Lib.hid (size_lt x0)
          have x0 := cell_below x0 hB1
          have Lx1 := Lib.hid (size_lt x1)
          have x1 := cell_below x1 hB1
          have e0 := cell_below c0.out hB1
          have e1 := cell_below c1.out hB1
          obtain ⟨bb, hbb⟩ : ∃ bb, w1.heap.size = bb := ⟨_, rfl⟩
          rw [hbb] at p0 p1 pf0 pf1 OL WL L0 L1 Lx0 Lx1 ⊢
          clear hB1 O B hbb
          go_upto_region 13 with (fail)
          obtain ⟨W2, hW2, d0, d1, df0, df1, K2, -⟩ := pair_put W1 bb _ _ (.int .u32 x.1) (.int .i64 x.2) p0 p1 pf0 pf1
          rw [← hW2]
          have O2 := Lib.hid ((own_on O1.out).kept K2 (fun k _ hk e => by subst e; exact absurd (OL.out k hk) (Nat.lt_irrefl _))).self
          have B2 := Lib.hid (B1.out.trans (K2.below (B := W0.heap.size) B1.out.size (fun k e => by rw [e]; exact WL.out)))
          have e0 := K2.cell e0 (fun e => by have := L0.out; simp only at e; omega)
          have e1 := K2.cell e1 (fun e => by have := L1.out; simp only at e; omega)
          have p0 := d0
          have p1 := d1
          have pf0 := df0
          have pf1 := df1
          clear hW2 d0 d1 df0 df1 K2 O1 B1
          go_upto_region 17 with (fail)
          obtain ⟨bk, hbk⟩ : ∃ bk, kf true false = bk := ⟨_, rfl⟩
          have M2 := Lib.hid (mi_left M.out HS.out HX.out (drop_lt HT.out HY.out hlt) hbk)
          have KC : Hid (∀ W : World, Calls Try.prog g #[.bool true, .bool false] W fun e w' => e = .returned (.bool bk) ∧ W = w') := Lib.hid fun W => by have := HK.out true false W; rw [hbk] at this; exact this
          clear hbk e0 e1
          cases bk
          · go_wp2_with fail
            refine (KC.out _).mono ?_
            rintro e w4 ⟨rfl, rfl⟩
            have M3 : Hid (MI kf xs ys (i + 1) (j) acc) := Lib.hid (by have := M2.out; simpa using this)
            clear M2
            go_wp2_with fail
            exact ⟨⟨i + 1, j, acc, by omega, by omega, by go_num, by go_num, M3, O2, B2⟩, by simp [intOf]; omega⟩
          · go_wp2_with fail
            refine (KC.out _).mono ?_
            rintro e w4 ⟨rfl, rfl⟩
            have M3 : Hid (MI kf xs ys (i + 1) (j) (acc ++ [x])) := Lib.hid (by have := M2.out; simpa using this)
            clear M2
            go_wp2_with (at_builtin; refine wpList_append_own _ rfl _ _ 22 rfl W0.heap.size 35 i0 _ 2 16 Try.underlying22 hii hz0 hz1 hz2 rfl (by decide) _ acc.length (acc.flatMap encP) rfl (O2.out.alloc _) ⟨W2.heap.size, 0, none⟩ 1 1 [.int .u32 x.1, .int .i64 x.2] rfl rfl (new_cells W2 _ _) (one_pf x) (by unfold maxLen; omega) (by omega) (by have := B2.out.size; simp; omega) ?_)
            intro v' w5 hown hgrow _
            have O5 := Lib.hid (own_snocP hown)
            have B5 := Lib.hid ((B2.out.alloc B2.out.size _).grown hgrow (by have := B2.out.size; simp; omega) (own_form_le O2.out))
            clear hown hgrow p0 p1 pf0 pf1
            go_wp2_with fail
            exact ⟨⟨i + 1, j, acc ++ [x], by omega, by omega, by go_num, by go_num, M3, O5, B5⟩, by simp [intOf]; omega⟩
        · by_cases hgt : plt y x
          · have PV : Hid (pcmp x y = 1) := Lib.hid (by rw [pcmp_val, if_neg hlt, if_pos hgt])
            have PC1 : Hid (∀ W : World, Calls Try.prog 13 #[.agg #[.int .u32 x.1, .int .i64 x.2], .agg #[.int .u32 y.1, .int .i64 y.2]] W fun e w' => e = .returned (.int .i64 (1)) ∧ Below W.heap.size W w') := Lib.hid fun W => by have := PC.out W; rw [PV.out] at this; exact this
            clear PC PV
            refine wp_region_held_drew (S := fun w' => Below wr.heap.size wr w') (by kernel_rfl) ?_ (fun hHeld => ?_)
            · exact (Below.refl _ _).drew
            refine rg_yes (i := 0) (v := ?_) at0 (by kernel_rfl) (by kernel_rfl) (by kernel_rfl) (fun _ _ _ h => h) ?_ ?_ hHeld ?_; rotate_left 1; (· rfl); (· intro w' hSw; (try dsimp only at hSw); (try clear hHeld); go_simp; try with_reducible rfl)
            try simp only [Act.put, List.setIfInBounds_toArray, List.set_cons_zero, List.set_cons_succ]
            refine rg_yes (i := 1) (v := ?_) (atS at0) (by kernel_rfl) (by kernel_rfl) (by kernel_rfl) (fun _ _ _ h => h) ?_ ?_ hHeld ?_; rotate_left 1; (· rfl); (· intro w' hSw; (try dsimp only at hSw); have x0 := cell_below x0 hSw; have x1 := cell_below x1 hSw; have y0 := cell_below y0 hSw; have y1 := cell_below y1 hSw; have c0' := cell_below c0' hSw; have c1' := cell_below c1' hSw; (try clear hHeld); go_simp; try with_reducible rfl)
            try simp only [Act.put, List.setIfInBounds_toArray, List.set_cons_zero, List.set_cons_succ]
            refine rg_yes (i := 2) (v := ?_) (atS (atS at0)) (by kernel_rfl) (by kernel_rfl) (by kernel_rfl) (fun _ _ _ h => h) ?_ ?_ hHeld ?_; rotate_left 1; (· rfl); (· intro w' hSw; (try dsimp only at hSw); (try clear hHeld); go_simp; try with_reducible rfl)
            try simp only [Act.put, List.setIfInBounds_toArray, List.set_cons_zero, List.set_cons_succ]
            refine rg_yes (i := 3) (v := ?_) (atS (atS (atS at0))) (by kernel_rfl) (by kernel_rfl) (by kernel_rfl) (fun _ _ _ h => h) ?_ ?_ hHeld ?_; rotate_left 1; (· rfl); (· intro w' hSw; (try dsimp only at hSw); have x0 := cell_below x0 hSw; have x1 := cell_below x1 hSw; have y0 := cell_below y0 hSw; have y1 := cell_below y1 hSw; have c0' := cell_below c0' hSw; have c1' := cell_below c1' hSw; (try clear hHeld); go_simp; try with_reducible rfl)
            try simp only [Act.put, List.setIfInBounds_toArray, List.set_cons_zero, List.set_cons_succ]
            refine rg_yes (i := 4) (v := ?_) (atS (atS (atS (atS at0)))) (by kernel_rfl) (by kernel_rfl) (by kernel_rfl) (fun _ _ _ h => h) ?_ ?_ hHeld ?_; rotate_left 1; (· rfl); (· intro w' hSw; (try dsimp only at hSw); have x0 := cell_below x0 hSw; have x1 := cell_below x1 hSw; have y0 := cell_below y0 hSw; have y1 := cell_below y1 hSw; have c0' := cell_below c0' hSw; have c1' := cell_below c1' hSw; (try clear hHeld); go_simp; try with_reducible rfl)
            try simp only [Act.put, List.setIfInBounds_toArray, List.set_cons_zero, List.set_cons_succ]
            refine rg_yes (i := 5) (v := ?_) (atS (atS (atS (atS (atS at0))))) (by kernel_rfl) (by kernel_rfl) (by kernel_rfl) (fun _ _ _ h => h) ?_ ?_ hHeld ?_; rotate_left 1; (· rfl); (· intro w' hSw; (try dsimp only at hSw); (try clear hHeld); go_simp; try with_reducible rfl)
            try simp only [Act.put, List.setIfInBounds_toArray, List.set_cons_zero, List.set_cons_succ]
            refine rg_yes (i := 6) (v := ?_) (atS (atS (atS (atS (atS (atS at0)))))) (by kernel_rfl) (by kernel_rfl) (by kernel_rfl) (fun _ _ _ h => h) ?_ ?_ hHeld ?_; rotate_left 1; (· rfl); (· intro w' hSw; (try dsimp only at hSw); have x0 := cell_below x0 hSw; have x1 := cell_below x1 hSw; have y0 := cell_below y0 hSw; have y1 := cell_below y1 hSw; have c0' := cell_below c0' hSw; have c1' := cell_below c1' hSw; (try clear hHeld); go_simp; try with_reducible rfl)
            try simp only [Act.put, List.setIfInBounds_toArray, List.set_cons_zero, List.set_cons_succ]
            refine rg_yes (i := 7) (v := ?_) (atS (atS (atS (atS (atS (atS (atS at0))))))) (by kernel_rfl) (by kernel_rfl) (by kernel_rfl) (fun _ _ _ h => h) ?_ ?_ hHeld ?_; rotate_left 1; (· rfl); (· intro w' hSw; (try dsimp only at hSw); (try clear hHeld); go_simp; try with_reducible rfl)
            try simp only [Act.put, List.setIfInBounds_toArray, List.set_cons_zero, List.set_cons_succ]
            refine rg_yes (i := 8) (v := ?_) (atS (atS (atS (atS (atS (atS (atS (atS at0)))))))) (by kernel_rfl) (by kernel_rfl) (by kernel_rfl) (fun _ _ _ h => h) ?_ ?_ hHeld ?_; rotate_left 1; (· rfl); (· intro w' hSw; (try dsimp only at hSw); have x0 := cell_below x0 hSw; have x1 := cell_below x1 hSw; have y0 := cell_below y0 hSw; have y1 := cell_below y1 hSw; have c0' := cell_below c0' hSw; have c1' := cell_below c1' hSw; (try clear hHeld); go_simp; try with_reducible rfl)
            try simp only [Act.put, List.setIfInBounds_toArray, List.set_cons_zero, List.set_cons_succ]
            refine rg_yes (i := 9) (v := ?_) (atS (atS (atS (atS (atS (atS (atS (atS (atS at0))))))))) (by kernel_rfl) (by kernel_rfl) (by kernel_rfl) (fun _ _ _ h => h) ?_ ?_ hHeld ?_; rotate_left 1; (· rfl); (· intro w' hSw; (try dsimp only at hSw); have x0 := cell_below x0 hSw; have x1 := cell_below x1 hSw; have y0 := cell_below y0 hSw; have y1 := cell_below y1 hSw; have c0' := cell_below c0' hSw; have c1' := cell_below c1' hSw; (try clear hHeld); go_simp; try with_reducible rfl)
            try simp only [Act.put, List.setIfInBounds_toArray, List.set_cons_zero, List.set_cons_succ]
            refine rg_call (i := 10) (atS (atS (atS (atS (atS (atS (atS (atS (atS (atS at0)))))))))) (by kernel_rfl) ?_ (fun K hK => ?_); (· rfl); (try clear hb); go_simp; (refine (PC1.out _).mono ?_; rintro e w1 ⟨rfl, hb⟩); go_wp2_with fail; refine hK.out _ _ ?_ (fun hHeld => ?_); (· exact hHeld.trans (hb.mono hHeld.size)); clear hK K
            try simp only [Act.put, List.setIfInBounds_toArray, List.set_cons_zero, List.set_cons_succ]
            refine rg_yes (i := 11) (v := ?_) (atS (atS (atS (atS (atS (atS (atS (atS (atS (atS (atS at0))))))))))) (by kernel_rfl) (by kernel_rfl) (by kernel_rfl) (fun _ _ _ h => h) ?_ ?_ hHeld ?_; rotate_left 1; (· rfl); (· intro w' hSw; (try dsimp only at hSw); (try clear hHeld); go_simp; try with_reducible rfl)
            try simp only [Act.put, List.setIfInBounds_toArray, List.set_cons_zero, List.set_cons_succ]
            refine wpAnyH_done (by kernel_rfl) ?_ _
            have O := Lib.hid (own_below O.out hHeld)
            have B := Lib.hid (below_on B.out hHeld)
            have c0 := Lib.hid (cell_below c0.out hHeld)
            have c1 := Lib.hid (cell_below c1.out hHeld)
            have x0 := cell_below x0 hHeld
            have x1 := cell_below x1 hHeld
            have y0 := cell_below y0 hHeld
            have y1 := cell_below y1 hHeld
            clear hHeld hb c0' c1'
            go_upto_region 11 with (fail)
            obtain ⟨W1, hW1, p0, p1, hB1⟩ := box2 w1 (.int .u32 0) (.int .i64 0) 35
            have pf0 : W1.frozen? ⟨w1.heap.size, 0, none⟩ = false := by rw [hW1]; exact row_free (heap_alloc_new _ _) 0
            have pf1 : W1.frozen? ⟨w1.heap.size, 1, none⟩ = false := by rw [hW1]; exact row_free (heap_alloc_new _ _) 1
            rw [← hW1]
            clear hW1
            have OL := Lib.hid (own_ltP O.out)
            have WL := Lib.hid B.out.size
            have L0 := Lib.hid (size_lt c0.out)
            have L1 := Lib.hid (size_lt c1.out)
            have O1 := Lib.hid (own_below O.out hB1)
            have B1 := Lib.hid (below_on B.out hB1)
            have Ly0 := Lib.hid (size_lt y0)
            have y0 := cell_below y0 hB1
            have Ly1 := Lib.hid (size_lt y1)
            have y1 := cell_below y1 hB1
            have e0 := cell_below c0.out hB1
            have e1 := cell_below c1.out hB1
            obtain ⟨bb, hbb⟩ : ∃ bb, w1.heap.size = bb := ⟨_, rfl⟩
            rw [hbb] at p0 p1 pf0 pf1 OL WL L0 L1 Ly0 Ly1 ⊢
            clear hB1 O B hbb
            go_upto_region 16 with (fail)
            obtain ⟨W2, hW2, d0, d1, df0, df1, K2, -⟩ := pair_put W1 bb _ _ (.int .u32 y.1) (.int .i64 y.2) p0 p1 pf0 pf1
            rw [← hW2]
            have O2 := Lib.hid ((own_on O1.out).kept K2 (fun k _ hk e => by subst e; exact absurd (OL.out k hk) (Nat.lt_irrefl _))).self
            have B2 := Lib.hid (B1.out.trans (K2.below (B := W0.heap.size) B1.out.size (fun k e => by rw [e]; exact WL.out)))
            have e0 := K2.cell e0 (fun e => by have := L0.out; simp only at e; omega)
            have e1 := K2.cell e1 (fun e => by have := L1.out; simp only at e; omega)
            have p0 := d0
            have p1 := d1
            have pf0 := df0
            have pf1 := df1
            clear hW2 d0 d1 df0 df1 K2 O1 B1
            go_upto_region 17 with (fail)
            obtain ⟨bk, hbk⟩ : ∃ bk, kf false true = bk := ⟨_, rfl⟩
            have M2 := Lib.hid (mi_right M.out HT.out HY.out (drop_lt HS.out HX.out hgt) hbk)
            have KC : Hid (∀ W : World, Calls Try.prog g #[.bool false, .bool true] W fun e w' => e = .returned (.bool bk) ∧ W = w') := Lib.hid fun W => by have := HK.out false true W; rw [hbk] at this; exact this
            clear hbk e0 e1
            cases bk
            · go_wp2_with fail
              refine (KC.out _).mono ?_
              rintro e w4 ⟨rfl, rfl⟩
              have M3 : Hid (MI kf xs ys (i) (j + 1) acc) := Lib.hid (by have := M2.out; simpa using this)
              clear M2
              go_wp2_with fail
              exact ⟨⟨i, j + 1, acc, by omega, by omega, by go_num, by go_num, M3, O2, B2⟩, by simp [intOf]; omega⟩
            · go_wp2_with fail
              refine (KC.out _).mono ?_
              rintro e w4 ⟨rfl, rfl⟩
              have M3 : Hid (MI kf xs ys (i) (j + 1) (acc ++ [y])) := Lib.hid (by have := M2.out; simpa using this)
              clear M2
              go_wp2_with (at_builtin; refine wpList_append_own _ rfl _ _ 22 rfl W0.heap.size 35 i0 _ 2 16 Try.underlying22 hii hz0 hz1 hz2 rfl (by decide) _ acc.length (acc.flatMap encP) rfl (O2.out.alloc _) ⟨W2.heap.size, 0, none⟩ 1 1 [.int .u32 y.1, .int .i64 y.2] rfl rfl (new_cells W2 _ _) (one_pf y) (by unfold maxLen; omega) (by omega) (by have := B2.out.size; simp; omega) ?_)
              intro v' w5 hown hgrow _
              have O5 := Lib.hid (own_snocP hown)
              have B5 := Lib.hid ((B2.out.alloc B2.out.size _).grown hgrow (by have := B2.out.size; simp; omega) (own_form_le O2.out))
              clear hown hgrow p0 p1 pf0 pf1
              go_wp2_with fail
              exact ⟨⟨i, j + 1, acc ++ [y], by omega, by omega, by go_num, by go_num, M3, O5, B5⟩, by simp [intOf]; omega⟩
          · have PV : Hid (pcmp x y = 0) := Lib.hid (by rw [pcmp_val, if_neg hlt, if_neg hgt])
            have HXY : Hid (x = y) := Lib.hid (plt_total hlt hgt)
            have HX := Lib.hid (HX.out.trans (by rw [HXY.out]))
            have PC1 : Hid (∀ W : World, Calls Try.prog 13 #[.agg #[.int .u32 x.1, .int .i64 x.2], .agg #[.int .u32 y.1, .int .i64 y.2]] W fun e w' => e = .returned (.int .i64 (0)) ∧ Below W.heap.size W w') := Lib.hid fun W => by have := PC.out W; rw [PV.out] at this; exact this
            clear PC PV
            refine wp_region_held_drew (S := fun w' => Below wr.heap.size wr w') (by kernel_rfl) ?_ (fun hHeld => ?_)
            · exact (Below.refl _ _).drew
            refine rg_yes (i := 0) (v := ?_) at0 (by kernel_rfl) (by kernel_rfl) (by kernel_rfl) (fun _ _ _ h => h) ?_ ?_ hHeld ?_; rotate_left 1; (· rfl); (· intro w' hSw; (try dsimp only at hSw); (try clear hHeld); go_simp; try with_reducible rfl)
            try simp only [Act.put, List.setIfInBounds_toArray, List.set_cons_zero, List.set_cons_succ]
            refine rg_yes (i := 1) (v := ?_) (atS at0) (by kernel_rfl) (by kernel_rfl) (by kernel_rfl) (fun _ _ _ h => h) ?_ ?_ hHeld ?_; rotate_left 1; (· rfl); (· intro w' hSw; (try dsimp only at hSw); have x0 := cell_below x0 hSw; have x1 := cell_below x1 hSw; have y0 := cell_below y0 hSw; have y1 := cell_below y1 hSw; have c0' := cell_below c0' hSw; have c1' := cell_below c1' hSw; (try clear hHeld); go_simp; try with_reducible rfl)
            try simp only [Act.put, List.setIfInBounds_toArray, List.set_cons_zero, List.set_cons_succ]
            refine rg_yes (i := 2) (v := ?_) (atS (atS at0)) (by kernel_rfl) (by kernel_rfl) (by kernel_rfl) (fun _ _ _ h => h) ?_ ?_ hHeld ?_; rotate_left 1; (· rfl); (· intro w' hSw; (try dsimp only at hSw); (try clear hHeld); go_simp; try with_reducible rfl)
            try simp only [Act.put, List.setIfInBounds_toArray, List.set_cons_zero, List.set_cons_succ]
            refine rg_yes (i := 3) (v := ?_) (atS (atS (atS at0))) (by kernel_rfl) (by kernel_rfl) (by kernel_rfl) (fun _ _ _ h => h) ?_ ?_ hHeld ?_; rotate_left 1; (· rfl); (· intro w' hSw; (try dsimp only at hSw); have x0 := cell_below x0 hSw; have x1 := cell_below x1 hSw; have y0 := cell_below y0 hSw; have y1 := cell_below y1 hSw; have c0' := cell_below c0' hSw; have c1' := cell_below c1' hSw; (try clear hHeld); go_simp; try with_reducible rfl)
            try simp only [Act.put, List.setIfInBounds_toArray, List.set_cons_zero, List.set_cons_succ]
            refine rg_yes (i := 4) (v := ?_) (atS (atS (atS (atS at0)))) (by kernel_rfl) (by kernel_rfl) (by kernel_rfl) (fun _ _ _ h => h) ?_ ?_ hHeld ?_; rotate_left 1; (· rfl); (· intro w' hSw; (try dsimp only at hSw); have x0 := cell_below x0 hSw; have x1 := cell_below x1 hSw; have y0 := cell_below y0 hSw; have y1 := cell_below y1 hSw; have c0' := cell_below c0' hSw; have c1' := cell_below c1' hSw; (try clear hHeld); go_simp; try with_reducible rfl)
            try simp only [Act.put, List.setIfInBounds_toArray, List.set_cons_zero, List.set_cons_succ]
            refine rg_yes (i := 5) (v := ?_) (atS (atS (atS (atS (atS at0))))) (by kernel_rfl) (by kernel_rfl) (by kernel_rfl) (fun _ _ _ h => h) ?_ ?_ hHeld ?_; rotate_left 1; (· rfl); (· intro w' hSw; (try dsimp only at hSw); (try clear hHeld); go_simp; try with_reducible rfl)
            try simp only [Act.put, List.setIfInBounds_toArray, List.set_cons_zero, List.set_cons_succ]
            refine rg_yes (i := 6) (v := ?_) (atS (atS (atS (atS (atS (atS at0)))))) (by kernel_rfl) (by kernel_rfl) (by kernel_rfl) (fun _ _ _ h => h) ?_ ?_ hHeld ?_; rotate_left 1; (· rfl); (· intro w' hSw; (try dsimp only at hSw); have x0 := cell_below x0 hSw; have x1 := cell_below x1 hSw; have y0 := cell_below y0 hSw; have y1 := cell_below y1 hSw; have c0' := cell_below c0' hSw; have c1' := cell_below c1' hSw; (try clear hHeld); go_simp; try with_reducible rfl)
            try simp only [Act.put, List.setIfInBounds_toArray, List.set_cons_zero, List.set_cons_succ]
            refine rg_yes (i := 7) (v := ?_) (atS (atS (atS (atS (atS (atS (atS at0))))))) (by kernel_rfl) (by kernel_rfl) (by kernel_rfl) (fun _ _ _ h => h) ?_ ?_ hHeld ?_; rotate_left 1; (· rfl); (· intro w' hSw; (try dsimp only at hSw); (try clear hHeld); go_simp; try with_reducible rfl)
            try simp only [Act.put, List.setIfInBounds_toArray, List.set_cons_zero, List.set_cons_succ]
            refine rg_yes (i := 8) (v := ?_) (atS (atS (atS (atS (atS (atS (atS (atS at0)))))))) (by kernel_rfl) (by kernel_rfl) (by kernel_rfl) (fun _ _ _ h => h) ?_ ?_ hHeld ?_; rotate_left 1; (· rfl); (· intro w' hSw; (try dsimp only at hSw); have x0 := cell_below x0 hSw; have x1 := cell_below x1 hSw; have y0 := cell_below y0 hSw; have y1 := cell_below y1 hSw; have c0' := cell_below c0' hSw; have c1' := cell_below c1' hSw; (try clear hHeld); go_simp; try with_reducible rfl)
            try simp only [Act.put, List.setIfInBounds_toArray, List.set_cons_zero, List.set_cons_succ]
            refine rg_yes (i := 9) (v := ?_) (atS (atS (atS (atS (atS (atS (atS (atS (atS at0))))))))) (by kernel_rfl) (by kernel_rfl) (by kernel_rfl) (fun _ _ _ h => h) ?_ ?_ hHeld ?_; rotate_left 1; (· rfl); (· intro w' hSw; (try dsimp only at hSw); have x0 := cell_below x0 hSw; have x1 := cell_below x1 hSw; have y0 := cell_below y0 hSw; have y1 := cell_below y1 hSw; have c0' := cell_below c0' hSw; have c1' := cell_below c1' hSw; (try clear hHeld); go_simp; try with_reducible rfl)
            try simp only [Act.put, List.setIfInBounds_toArray, List.set_cons_zero, List.set_cons_succ]
            refine rg_call (i := 10) (atS (atS (atS (atS (atS (atS (atS (atS (atS (atS at0)))))))))) (by kernel_rfl) ?_ (fun K hK => ?_); (· rfl); (try clear hb); go_simp; (refine (PC1.out _).mono ?_; rintro e w1 ⟨rfl, hb⟩); go_wp2_with fail; refine hK.out _ _ ?_ (fun hHeld => ?_); (· exact hHeld.trans (hb.mono hHeld.size)); clear hK K
            try simp only [Act.put, List.setIfInBounds_toArray, List.set_cons_zero, List.set_cons_succ]
            refine rg_yes (i := 11) (v := ?_) (atS (atS (atS (atS (atS (atS (atS (atS (atS (atS (atS at0))))))))))) (by kernel_rfl) (by kernel_rfl) (by kernel_rfl) (fun _ _ _ h => h) ?_ ?_ hHeld ?_; rotate_left 1; (· rfl); (· intro w' hSw; (try dsimp only at hSw); (try clear hHeld); go_simp; try with_reducible rfl)
            try simp only [Act.put, List.setIfInBounds_toArray, List.set_cons_zero, List.set_cons_succ]
            refine wpAnyH_done (by kernel_rfl) ?_ _
            have O := Lib.hid (own_below O.out hHeld)
            have B := Lib.hid (below_on B.out hHeld)
            have c0 := Lib.hid (cell_below c0.out hHeld)
            have c1 := Lib.hid (cell_below c1.out hHeld)
            have x0 := cell_below x0 hHeld
            have x1 := cell_below x1 hHeld
            have y0 := cell_below y0 hHeld
            have y1 := cell_below y1 hHeld
            clear hHeld hb c0' c1'
            go_upto_region 11 with (fail)
            obtain ⟨W1, hW1, p0, p1, hB1⟩ := box2 w1 (.int .u32 0) (.int .i64 0) 35
            have pf0 : W1.frozen? ⟨w1.heap.size, 0, none⟩ = false := by rw [hW1]; exact row_free (heap_alloc_new _ _) 0
            have pf1 : W1.frozen? ⟨w1.heap.size, 1, none⟩ = false := by rw [hW1]; exact row_free (heap_alloc_new _ _) 1
            rw [← hW1]
            clear hW1
            have OL := Lib.hid (own_ltP O.out)
            have WL := Lib.hid B.out.size
            have L0 := Lib.hid (size_lt c0.out)
            have L1 := Lib.hid (size_lt c1.out)
            have O1 := Lib.hid (own_below O.out hB1)
            have B1 := Lib.hid (below_on B.out hB1)
            have Lx0 := Lib.hid (size_lt x0)
            have x0 := cell_below x0 hB1
            have Lx1 := Lib.hid (size_lt x1)
            have x1 := cell_below x1 hB1
            have Ly0 := Lib.hid (size_lt y0)
            have y0 := cell_below y0 hB1
            have Ly1 := Lib.hid (size_lt y1)
            have y1 := cell_below y1 hB1
            have e0 := cell_below c0.out hB1
            have e1 := cell_below c1.out hB1
            obtain ⟨bb, hbb⟩ : ∃ bb, w1.heap.size = bb := ⟨_, rfl⟩
            rw [hbb] at p0 p1 pf0 pf1 OL WL L0 L1 Lx0 Lx1 Ly0 Ly1 ⊢
            clear hB1 O B hbb
            go_upto_region 13 with (fail)
            obtain ⟨W2, hW2, d0, d1, df0, df1, K2, -⟩ := pair_put W1 bb _ _ (.int .u32 x.1) (.int .i64 x.2) p0 p1 pf0 pf1
            rw [← hW2]
            have O2 := Lib.hid ((own_on O1.out).kept K2 (fun k _ hk e => by subst e; exact absurd (OL.out k hk) (Nat.lt_irrefl _))).self
            have B2 := Lib.hid (B1.out.trans (K2.below (B := W0.heap.size) B1.out.size (fun k e => by rw [e]; exact WL.out)))
            have e0 := K2.cell e0 (fun e => by have := L0.out; simp only at e; omega)
            have e1 := K2.cell e1 (fun e => by have := L1.out; simp only at e; omega)
            have y0 := K2.cell y0 (fun e => by have := Ly0.out; simp only at e; omega)
            have y1 := K2.cell y1 (fun e => by have := Ly1.out; simp only at e; omega)
            have p0 := d0
            have p1 := d1
            have pf0 := df0
            have pf1 := df1
            clear hW2 d0 d1 df0 df1 K2 O1 B1
            go_upto_region 16 with (fail)
            obtain ⟨W3, hW3, d0, d1, df0, df1, K3, -⟩ := pair_put W2 bb _ _ (.int .u32 y.1) (.int .i64 y.2) p0 p1 pf0 pf1
            rw [← hW3]
            have O3 := Lib.hid ((own_on O2.out).kept K3 (fun k _ hk e => by subst e; exact absurd (OL.out k hk) (Nat.lt_irrefl _))).self
            have B3 := Lib.hid (B2.out.trans (K3.below (B := W0.heap.size) B2.out.size (fun k e => by rw [e]; exact WL.out)))
            have e0 := K3.cell e0 (fun e => by have := L0.out; simp only at e; omega)
            have e1 := K3.cell e1 (fun e => by have := L1.out; simp only at e; omega)
            have p0 := d0
            have p1 := d1
            have pf0 := df0
            have pf1 := df1
            clear hW3 d0 d1 df0 df1 K3 O2 B2
            go_upto_region 17 with (fail)
            obtain ⟨bk, hbk⟩ : ∃ bk, kf true true = bk := ⟨_, rfl⟩
            have M2 := Lib.hid (mi_both M.out HS.out HT.out HX.out HY.out hbk)
            have KC : Hid (∀ W : World, Calls Try.prog g #[.bool true, .bool true] W fun e w' => e = .returned (.bool bk) ∧ W = w') := Lib.hid fun W => by have := HK.out true true W; rw [hbk] at this; exact this
            clear hbk e0 e1
            cases bk
            · go_wp2_with fail
              refine (KC.out _).mono ?_
              rintro e w4 ⟨rfl, rfl⟩
              have M3 : Hid (MI kf xs ys (i + 1) (j + 1) acc) := Lib.hid (by have := M2.out; simpa using this)
              clear M2
              go_wp2_with fail
              exact ⟨⟨i + 1, j + 1, acc, by omega, by omega, by go_num, by go_num, M3, O3, B3⟩, by simp [intOf]; omega⟩
            · go_wp2_with fail
              refine (KC.out _).mono ?_
              rintro e w4 ⟨rfl, rfl⟩
              have M3 : Hid (MI kf xs ys (i + 1) (j + 1) (acc ++ [y])) := Lib.hid (by have := M2.out; simpa using this)
              clear M2
              go_wp2_with (at_builtin; refine wpList_append_own _ rfl _ _ 22 rfl W0.heap.size 35 i0 _ 2 16 Try.underlying22 hii hz0 hz1 hz2 rfl (by decide) _ acc.length (acc.flatMap encP) rfl (O3.out.alloc _) ⟨W3.heap.size, 0, none⟩ 1 1 [.int .u32 y.1, .int .i64 y.2] rfl rfl (new_cells W3 _ _) (one_pf y) (by unfold maxLen; omega) (by omega) (by have := B3.out.size; simp; omega) ?_)
              intro v' w5 hown hgrow _
              have O5 := Lib.hid (own_snocP hown)
              have B5 := Lib.hid ((B3.out.alloc B3.out.size _).grown hgrow (by have := B3.out.size; simp; omega) (own_form_le O3.out))
              clear hown hgrow p0 p1 pf0 pf1
              go_wp2_with fail
              exact ⟨⟨i + 1, j + 1, acc ++ [y], by omega, by omega, by go_num, by go_num, M3, O5, B5⟩, by simp [intOf]; omega⟩
      · obtain rfl : j = ys.length := by omega
        have j1 : decide ((ys.length : Int) < (ys.length : Int)) = false := by simp
        have j2 : ((ys.length : Int) == (ys.length : Int)) = true := by simp
        go_upto_region 11 with (fail)
        obtain ⟨W1, hW1, p0, p1, hB1⟩ := box2 wr (.int .u32 0) (.int .i64 0) 35
        have pf0 : W1.frozen? ⟨wr.heap.size, 0, none⟩ = false := by rw [hW1]; exact row_free (heap_alloc_new _ _) 0
        have pf1 : W1.frozen? ⟨wr.heap.size, 1, none⟩ = false := by rw [hW1]; exact row_free (heap_alloc_new _ _) 1
        rw [← hW1]
        clear hW1
        have OL := Lib.hid (own_ltP O.out)
        have WL := Lib.hid B.out.size
        have L0 := Lib.hid (size_lt c0.out)
        have L1 := Lib.hid (size_lt c1.out)
        have O1 := Lib.hid (own_below O.out hB1)
        have B1 := Lib.hid (below_on B.out hB1)
        have Lx0 := Lib.hid (size_lt x0)
        have x0 := cell_below x0 hB1
        have Lx1 := Lib.hid (size_lt x1)
        have x1 := cell_below x1 hB1
        have e0 := cell_below c0.out hB1
        have e1 := cell_below c1.out hB1
        obtain ⟨bb, hbb⟩ : ∃ bb, wr.heap.size = bb := ⟨_, rfl⟩
        rw [hbb] at p0 p1 pf0 pf1 OL WL L0 L1 Lx0 Lx1 ⊢
        clear hB1 O B hbb
        go_upto_region 13 with (fail)
        obtain ⟨W2, hW2, d0, d1, df0, df1, K2, -⟩ := pair_put W1 bb _ _ (.int .u32 x.1) (.int .i64 x.2) p0 p1 pf0 pf1
        rw [← hW2]
        have O2 := Lib.hid ((own_on O1.out).kept K2 (fun k _ hk e => by subst e; exact absurd (OL.out k hk) (Nat.lt_irrefl _))).self
        have B2 := Lib.hid (B1.out.trans (K2.below (B := W0.heap.size) B1.out.size (fun k e => by rw [e]; exact WL.out)))
        have e0 := K2.cell e0 (fun e => by have := L0.out; simp only at e; omega)
        have e1 := K2.cell e1 (fun e => by have := L1.out; simp only at e; omega)
        have p0 := d0
        have p1 := d1
        have pf0 := df0
        have pf1 := df1
        clear hW2 d0 d1 df0 df1 K2 O1 B1
        go_upto_region 17 with (fail)
        obtain ⟨bk, hbk⟩ : ∃ bk, kf true false = bk := ⟨_, rfl⟩
        have M2 := Lib.hid (mi_left M.out HS.out HX.out (drop_none rfl) hbk)
        have KC : Hid (∀ W : World, Calls Try.prog g #[.bool true, .bool false] W fun e w' => e = .returned (.bool bk) ∧ W = w') := Lib.hid fun W => by have := HK.out true false W; rw [hbk] at this; exact this
        clear hbk e0 e1
        cases bk
        · go_wp2_with fail
          refine (KC.out _).mono ?_
          rintro e w4 ⟨rfl, rfl⟩
          have M3 : Hid (MI kf xs ys (i + 1) (ys.length) acc) := Lib.hid (by have := M2.out; simpa using this)
          clear M2
          go_wp2_with fail
          exact ⟨⟨i + 1, ys.length, acc, by omega, by omega, by go_num, by go_num, M3, O2, B2⟩, by simp [intOf]; omega⟩
        · go_wp2_with fail
          refine (KC.out _).mono ?_
          rintro e w4 ⟨rfl, rfl⟩
          have M3 : Hid (MI kf xs ys (i + 1) (ys.length) (acc ++ [x])) := Lib.hid (by have := M2.out; simpa using this)
          clear M2
          go_wp2_with (at_builtin; refine wpList_append_own _ rfl _ _ 22 rfl W0.heap.size 35 i0 _ 2 16 Try.underlying22 hii hz0 hz1 hz2 rfl (by decide) _ acc.length (acc.flatMap encP) rfl (O2.out.alloc _) ⟨W2.heap.size, 0, none⟩ 1 1 [.int .u32 x.1, .int .i64 x.2] rfl rfl (new_cells W2 _ _) (one_pf x) (by unfold maxLen; omega) (by omega) (by have := B2.out.size; simp; omega) ?_)
          intro v' w5 hown hgrow _
          have O5 := Lib.hid (own_snocP hown)
          have B5 := Lib.hid ((B2.out.alloc B2.out.size _).grown hgrow (by have := B2.out.size; simp; omega) (own_form_le O2.out))
          clear hown hgrow p0 p1 pf0 pf1
          go_wp2_with fail
          exact ⟨⟨i + 1, ys.length, acc ++ [x], by omega, by omega, by go_num, by go_num, M3, O5, B5⟩, by simp [intOf]; omega⟩
    · obtain rfl : i = xs.length := by omega
      have j0 : decide ((xs.length : Int) < (xs.length : Int)) = false := by simp
      have c0' := c0.out
      have c1' := c1.out
      by_cases hjy : j < ys.length
      · have j1 : decide ((j : Int) < (ys.length : Int)) = true := by simpa using hjy
        have j2 : ((j : Int) == (ys.length : Int)) = false := by simp; omega
        have j3 : ((xs.length : Int) == (xs.length : Int)) = true := by simp
        obtain ⟨y, hy⟩ : ∃ y, ys[j]? = some y := ⟨_, List.getElem?_eq_getElem hjy⟩
        obtain ⟨b2, off2, hsb, hQ⟩ := HU.out (by omega)
        subst hsb
        obtain ⟨y0, y1⟩ := ps_two hQ hy
        have y0 := (B.out.cell (size_lt (cell_below y0 HB.out))).trans (cell_below y0 HB.out)
        have y1 := (B.out.cell (size_lt (cell_below y1 HB.out))).trans (cell_below y1 HB.out)
        have HY := Lib.hid hy
        have i2 : (j : Int) < (ys.length : Int) := by omega
        clear hQ hy
        go_upto_region 11 with (fail)
        obtain ⟨W1, hW1, p0, p1, hB1⟩ := box2 wr (.int .u32 0) (.int .i64 0) 35
        have pf0 : W1.frozen? ⟨wr.heap.size, 0, none⟩ = false := by rw [hW1]; exact row_free (heap_alloc_new _ _) 0
        have pf1 : W1.frozen? ⟨wr.heap.size, 1, none⟩ = false := by rw [hW1]; exact row_free (heap_alloc_new _ _) 1
        rw [← hW1]
        clear hW1
        have OL := Lib.hid (own_ltP O.out)
        have WL := Lib.hid B.out.size
        have L0 := Lib.hid (size_lt c0.out)
        have L1 := Lib.hid (size_lt c1.out)
        have O1 := Lib.hid (own_below O.out hB1)
        have B1 := Lib.hid (below_on B.out hB1)
        have Ly0 := Lib.hid (size_lt y0)
        have y0 := cell_below y0 hB1
        have Ly1 := Lib.hid (size_lt y1)
        have y1 := cell_below y1 hB1
        have e0 := cell_below c0.out hB1
        have e1 := cell_below c1.out hB1
        obtain ⟨bb, hbb⟩ : ∃ bb, wr.heap.size = bb := ⟨_, rfl⟩
        rw [hbb] at p0 p1 pf0 pf1 OL WL L0 L1 Ly0 Ly1 ⊢
        clear hB1 O B hbb
        go_upto_region 16 with (fail)
        obtain ⟨W2, hW2, d0, d1, df0, df1, K2, -⟩ := pair_put W1 bb _ _ (.int .u32 y.1) (.int .i64 y.2) p0 p1 pf0 pf1
        rw [← hW2]
        have O2 := Lib.hid ((own_on O1.out).kept K2 (fun k _ hk e => by subst e; exact absurd (OL.out k hk) (Nat.lt_irrefl _))).self
        have B2 := Lib.hid (B1.out.trans (K2.below (B := W0.heap.size) B1.out.size (fun k e => by rw [e]; exact WL.out)))
        have e0 := K2.cell e0 (fun e => by have := L0.out; simp only at e; omega)
        have e1 := K2.cell e1 (fun e => by have := L1.out; simp only at e; omega)
        have p0 := d0
        have p1 := d1
        have pf0 := df0
        have pf1 := df1
        clear hW2 d0 d1 df0 df1 K2 O1 B1
        go_upto_region 17 with (fail)
        obtain ⟨bk, hbk⟩ : ∃ bk, kf false true = bk := ⟨_, rfl⟩
        have M2 := Lib.hid (mi_right M.out HT.out HY.out (drop_none rfl) hbk)
        have KC : Hid (∀ W : World, Calls Try.prog g #[.bool false, .bool true] W fun e w' => e = .returned (.bool bk) ∧ W = w') := Lib.hid fun W => by have := HK.out false true W; rw [hbk] at this; exact this
        clear hbk e0 e1
        cases bk
        · go_wp2_with fail
          refine (KC.out _).mono ?_
          rintro e w4 ⟨rfl, rfl⟩
          have M3 : Hid (MI kf xs ys (xs.length) (j + 1) acc) := Lib.hid (by have := M2.out; simpa using this)
          clear M2
          go_wp2_with fail
          exact ⟨⟨xs.length, j + 1, acc, by omega, by omega, by go_num, by go_num, M3, O2, B2⟩, by simp [intOf]; omega⟩
        · go_wp2_with fail
          refine (KC.out _).mono ?_
          rintro e w4 ⟨rfl, rfl⟩
          have M3 : Hid (MI kf xs ys (xs.length) (j + 1) (acc ++ [y])) := Lib.hid (by have := M2.out; simpa using this)
          clear M2
          go_wp2_with (at_builtin; refine wpList_append_own _ rfl _ _ 22 rfl W0.heap.size 35 i0 _ 2 16 Try.underlying22 hii hz0 hz1 hz2 rfl (by decide) _ acc.length (acc.flatMap encP) rfl (O2.out.alloc _) ⟨W2.heap.size, 0, none⟩ 1 1 [.int .u32 y.1, .int .i64 y.2] rfl rfl (new_cells W2 _ _) (one_pf y) (by unfold maxLen; omega) (by omega) (by have := B2.out.size; simp; omega) ?_)
          intro v' w5 hown hgrow _
          have O5 := Lib.hid (own_snocP hown)
          have B5 := Lib.hid ((B2.out.alloc B2.out.size _).grown hgrow (by have := B2.out.size; simp; omega) (own_form_le O2.out))
          clear hown hgrow p0 p1 pf0 pf1
          go_wp2_with fail
          exact ⟨⟨xs.length, j + 1, acc ++ [y], by omega, by omega, by go_num, by go_num, M3, O5, B5⟩, by simp [intOf]; omega⟩
      · obtain rfl : j = ys.length := by omega
        have j1 : decide ((ys.length : Int) < (ys.length : Int)) = false := by simp
        have E := Lib.hid (mi_end M.out)
        have OKR : Hid (∀ p ∈ acc, OkP p) := Lib.hid (fun p hp => by
          rcases ((M.out.mem p).1 hp).1 with h | h
          · exact OKX.out p (List.mem_of_mem_take h)
          · exact OKY.out p (List.mem_of_mem_take h))
        clear M
        go_wp2_with fail
        go_ret
        exact ⟨_, rfl, by rw [← E.out]; exact ⟨own_base O.out HB.out.size, OKR.out⟩, below_on HB.out B.out⟩
set_option maxRecDepth 100000 in
theorem keep_Or (a b : Bool) (W : World) : Calls Try.prog 49 #[.bool a, .bool b] W fun e w' => e = .returned (.bool ((fun a b => a || b) a b)) ∧ W = w' := by
  cases a <;> cases b
  all_goals
    go_enter Try.func49, Try.ntmps49
    go_wp2_with fail
    go_ret
    exact ⟨rfl, rfl⟩
theorem enter_Or : ∀ args w, (callFunc 49 args).run Try.prog w = .ok (.enter 49 args) w := enters_of Try.func49 (by kernel_rfl) rfl
set_option maxRecDepth 100000 in
theorem keep_And (a b : Bool) (W : World) : Calls Try.prog 50 #[.bool a, .bool b] W fun e w' => e = .returned (.bool ((fun a b => a && b) a b)) ∧ W = w' := by
  cases a <;> cases b
  all_goals
    go_enter Try.func50, Try.ntmps50
    go_wp2_with fail
    go_ret
    exact ⟨rfl, rfl⟩
theorem enter_And : ∀ args w, (callFunc 50 args).run Try.prog w = .ok (.enter 50 args) w := enters_of Try.func50 (by kernel_rfl) rfl
set_option maxRecDepth 100000 in
theorem keep_Less (a b : Bool) (W : World) : Calls Try.prog 51 #[.bool a, .bool b] W fun e w' => e = .returned (.bool ((fun a b => a && !b) a b)) ∧ W = w' := by
  cases a <;> cases b
  all_goals
    go_enter Try.func51, Try.ntmps51
    go_wp2_with fail
    go_ret
    exact ⟨rfl, rfl⟩
theorem enter_Less : ∀ args w, (callFunc 51 args).run Try.prog w = .ok (.enter 51 args) w := enters_of Try.func51 (by kernel_rfl) rfl
end Go.Proofs.Ytaafeekkllomhaa
