/- Texts of one proof, one behind another. -/
import Derived.Test.YtohkbcdnlmjcjaaDoorWr14
import Derived.Shelf.SlSortCmp.NoneTotal
import Derived.Test.YtohkbcdnlmjcjaaDoorWr4
import Derived.Test.YtohkbcdnlmjcjaaDoorWr6
import Derived.Test.YtohkbcdnlmjcjaaDoorWr5
/-
  ATTRIBUTES: slices.SortFunc over others of the call's own, by their types.
-/
namespace Go.Proofs.YtohkbcdnlmjcjaaDoor
open Go.RowKit

/-- draws and blocks alone. -/
structure DrA (w w' : World) : Prop where
  below : Below w.heap.size w w'
  drawn : w.drawn ≤ w'.drawn
set_option maxRecDepth 100000 in
theorem DrA.refl (w : World) : DrA w w := ⟨Below.refl _ _, Nat.le_refl _⟩
set_option maxRecDepth 100000 in
theorem DrA.drew (w : World) : DrA w w.drew := ⟨(Below.refl _ _).drew, Nat.le_succ _⟩
set_option maxRecDepth 100000 in
theorem DrA.alloc {w w1 : World} (h : DrA w w1) (o : Obj) : DrA w (w1.alloc o) := ⟨h.below.alloc h.below.size o, h.drawn⟩
set_option maxRecDepth 100000 in
theorem DrA.grow {w w' : World} (h : DrA w w') : ∃ q os, w' = Sort.grow (w.drewN q) os := by
  obtain ⟨⟨h1, h2, h3, h4, h5⟩, h6⟩ := h
  refine ⟨w'.drawn - w.drawn, w'.heap.extract w.heap.size w'.heap.size, ?_⟩
  have e : w'.heap = w.heap ++ w'.heap.extract w.heap.size w'.heap.size := by
    apply Array.ext_getElem?
    intro i
    by_cases hi : i < w.heap.size
    · rw [h5 i hi, Array.getElem?_append_left hi]
    · rw [Array.getElem?_append_right (by omega), Array.getElem?_extract]
      split
      · congr 1; omega
      · rw [Array.getElem?_eq_none (by omega)]
  cases w'
  cases w
  simp only at h1 h2 h3 h4 h6 e
  subst h1; subst h2; subst h3
  unfold Sort.grow
  rw [World.drewN]
  simp only [World.mk.injEq, true_and, and_true]
  exact ⟨e, by omega⟩
/-- an other with the place of its value. -/
abbrev OS := Oth × Option Addr × Nat
def osC (z : OS) : List Value := [.int .i64 z.1.1, .slice z.2.1 z.1.2.length z.2.2]
def osV (z : OS) : OthV := (z.1, .slice z.2.1 z.1.2.length z.2.2)
set_option maxRecDepth 100000 in
theorem osC_len (z : OS) : (osC z).length = 2 := rfl
set_option maxRecDepth 100000 in
theorem osC_one (z : OS) : ∀ v ∈ osC z, v.oneCell' = true := by
  intro v hv
  simp only [osC, List.mem_cons, List.not_mem_nil, or_false] at hv
  rcases hv with rfl | rfl <;> rfl
set_option maxRecDepth 100000 in
theorem os_of : ∀ us : List OthV, (∀ x ∈ us, ∃ s c, x.2 = .slice s x.1.2.length c) → ∃ L : List OS, L.map osV = us
  | [], _ => ⟨[], rfl⟩
  | x :: us, h => by
    obtain ⟨L, hL⟩ := os_of us fun y hy => h y (List.mem_cons_of_mem _ hy)
    obtain ⟨s, c, e⟩ := h x List.mem_cons_self
    refine ⟨(x.1, s, c) :: L, ?_⟩
    rw [List.map_cons, hL]
    congr 1
    unfold osV
    rw [← e]
set_option maxRecDepth 100000 in
theorem os_flat (L : List OS) : (L.map osV).flatMap otC = L.flatMap osC := by
  rw [List.flatMap_map]; rfl
def icmp (a b : Int) : Int := if a < b then -1 else if b < a then 1 else 0
def oscmp (x y : OS) : Int := icmp x.1.1 y.1.1
set_option maxRecDepth 100000 in
theorem ltOf_os (x y : OS) : Go.Proofs.ltOf oscmp x y = decide (x.1.1 < y.1.1) := by
  unfold Go.Proofs.ltOf oscmp icmp
  by_cases h : x.1.1 < y.1.1
  · simp [h]
  · by_cases h2 : y.1.1 < x.1.1
    · simp [h, h2]
    · simp [h, h2]
set_option maxRecDepth 100000 in
theorem swo_os : Sort.SWO (Go.Proofs.ltOf oscmp) where
  irrefl x := by rw [ltOf_os]; simp
  trans x y z h1 h2 := by
    rw [ltOf_os] at *
    simp only [decide_eq_true_eq] at *
    omega
  ntrans x y z h1 h2 := by
    rw [ltOf_os] at *
    simp only [decide_eq_false_iff_not] at *
    omega
set_option maxRecDepth 100000 in
theorem cmpA_Int (x y : Int) (w : World) : Calls Tryd.prog 47 #[.int .i64 x, .int .i64 y] w fun e w' => e = .returned (.int .i64 (icmp x y)) ∧ w = w' := by
  have hN : ∀ x w, Calls Tryd.prog 66 #[.int .i64 x] w fun e w' => e = .returned (.bool false) ∧ w = w' := fun x w => by
    go_enter Tryd.func66, Tryd.ntmps66
    go_wp2
    go_ret
    exact ⟨ret_bool (by simp), rfl⟩
  have HN := Lib.hid hN
  clear hN
  rcases Int.lt_trichotomy x y with h | h | h
  · have c := Lib.hid (show icmp x y = -1 by unfold icmp; rw [if_pos h])
    go_enter Tryd.func47, Tryd.ntmps47
    go_wp2_with (go_at_call 66; refine (HN.out _ _).mono ?_; rintro e w1 ⟨rfl, rfl⟩)
    go_ret
    exact ⟨ret_int c.out.symm, rfl⟩
  · subst h
    have c := Lib.hid (show icmp x x = 0 by unfold icmp; simp)
    go_enter Tryd.func47, Tryd.ntmps47
    go_wp2_with (go_at_call 66; refine (HN.out _ _).mono ?_; rintro e w1 ⟨rfl, rfl⟩)
    go_ret
    exact ⟨ret_int c.out.symm, rfl⟩
  · have c := Lib.hid (show icmp x y = 1 by unfold icmp; rw [if_neg (by omega), if_pos h])
    have h2 : decide (x < y) = false := decide_eq_false (by omega)
    go_enter Tryd.func47, Tryd.ntmps47
    go_wp2_with (go_at_call 66; refine (HN.out _ _).mono ?_; rintro e w1 ⟨rfl, rfl⟩)
    go_ret
    exact ⟨ret_int c.out.symm, rfl⟩
set_option maxHeartbeats 1600000 in
set_option maxRecDepth 100000 in
theorem oth_cmp (x y : OS) (w : World) : Calls Tryd.prog 46 #[.agg (osC x).toArray, .agg (osC y).toArray] w fun e w' => e = .returned (.int .i64 (oscmp x y)) ∧ DrA w w' := by
  obtain ⟨⟨t, xs⟩, s, c⟩ := x
  obtain ⟨⟨t', xs'⟩, s', c'⟩ := y
  show Calls Tryd.prog 46 #[.agg #[.int .i64 t, .slice s xs.length c], .agg #[.int .i64 t', .slice s' xs'.length c']] w fun e w' => e = .returned (.int .i64 (icmp t t')) ∧ DrA w w'
  have CI := Lib.hid (fun W => cmpA_Int t t' W)
  go_enter Tryd.func46, Tryd.ntmps46
  go_upto_region 1 with (fail)
  obtain ⟨W0, hW0, q0, q1, hb⟩ := boxTwo w #[.int .i64 t, .slice s xs.length c] 61 #[.int .i64 t', .slice s' xs'.length c'] 61
  have D : Hid (DrA w W0) := Lib.hid (by rw [hW0]; exact ((DrA.refl w).alloc _).alloc _)
  rw [← hW0]
  clear hW0
  have c0 : W0.cell? ⟨w.heap.size, 0, none⟩ = some (.int .i64 t) := row_cell q0 0
  have c1 : W0.cell? ⟨w.heap.size + 1, 0, none⟩ = some (.int .i64 t') := row_cell q1 0
  clear q0 q1 hb
  go_wp2_with fail
  refine (CI.out _).mono ?_
  rintro e w1 ⟨rfl, rfl⟩
  go_wp2_with fail
  go_ret
  exact ⟨rfl, D.out⟩
set_option maxRecDepth 100000 in
theorem cmp_laysO (blk off size : Nat) (w : World) : CmpLays Tryd.prog 46 #[] osC 2 oscmp blk off size w := by
  intro m os dk _ x y
  exact (oth_cmp x y _).mono fun e w' ⟨he, hd⟩ => ⟨he, hd.grow⟩
set_option maxRecDepth 100000 in
theorem flatK_os (xs : List OS) : Sort.flatK osC 2 xs.toArray = (xs.flatMap osC).toArray := by
  apply Sort.ext_get!
  · rw [Sort.size_flatK]
    simp [flat_len osC_len]
  · intro t ht
    rw [Sort.size_flatK] at ht
    have ht' : t < xs.length * 2 := by simpa using ht
    rw [Sort.get_flatK _ _ _ _ ht]
    have hi : t / 2 < xs.length := by omega
    have hf := flat_get osC_len xs (t / 2) _ (List.getElem?_eq_getElem hi) (t % 2) (by omega)
    rw [show t / 2 * 2 + t % 2 = t by omega] at hf
    have h1 : xs.toArray[t / 2]! = xs[t / 2] := by simp [hi]
    rw [h1]
    have hl : (xs.flatMap osC).length = xs.length * 2 := flat_len osC_len xs
    have hm : t % 2 < (osC xs[t / 2]).length := by rw [osC_len]; omega
    rw [List.getElem?_eq_getElem hm, List.getElem?_eq_getElem (by rw [hl]; exact ht')] at hf
    have hf := Option.some.inj hf
    rw [getElem!_pos (xs.flatMap osC).toArray t (by simpa [hl] using ht'), getElem!_pos (osC xs[t / 2]) (t % 2) hm]
    simpa using hf.symm
set_option maxRecDepth 100000 in
theorem put_heapA {w : World} {g : Nat} {cur : Array Value} {T : TypeId} (F : Array Value) (h : w.heap[g]? = some (.cells cur T (0, 0))) : (Sort.putRow id w g 0 F).heap[g]? = some (.cells (Sort.putCells id 0 F cur) T (0, 0)) := by
  unfold Sort.putRow Sort.mapBlock
  simp only [Array.getElem?_modify, if_true, h, Option.map_some, Sort.onCells]
set_option maxRecDepth 100000 in
theorem put_takeA {cur F : Array Value} (h : F.size ≤ cur.size) : (Sort.putCells id 0 F cur).toList.take F.size = F.toList := by
  apply List.ext_getElem?
  intro i
  by_cases hi : i < F.size
  · rw [List.getElem?_take_of_lt hi]
    unfold Sort.putCells
    rw [Array.getElem?_toList, Array.getElem?_mapIdx, Array.getElem?_eq_getElem (show i < cur.size by omega)]
    simp [hi]
  · rw [List.getElem?_eq_none (by simp; omega), List.getElem?_eq_none (by simp; omega)]
set_option maxRecDepth 100000 in
theorem own_putA {w : World} {B g n c k : Nat} {e : TypeId} {xs ys : List Value} (h : w.ownsRow B e k (.slice (some ⟨g, 0, none⟩) n c) n xs) (hy : ys.length = n * k) (m : Nat) (os : Array Obj) :
    (Sort.grow (Sort.putRow id (Sort.ahead w m) g 0 ys.toArray) os).ownsRow B e k (.slice (some ⟨g, 0, none⟩) n c) n ys ∧ Kept (fun b => b = g) w (Sort.grow (Sort.putRow id (Sort.ahead w m) g 0 ys.toArray) os) := by
  obtain ⟨h1, ⟨h2, _⟩ | ⟨g', cap, cur, h2, hB, hg, hn, hm, hs, hc⟩⟩ := h
  · cases h2
  · injection h2 with e1 e2 e3
    injection e1 with e1
    injection e1 with e1
    subst e1; subst e3
    have hlt := row_lt hg
    have hp := put_heapA (w := Sort.ahead w m) ys.toArray hg
    have hgrow : ∀ (W : World) (i : Nat), i < W.heap.size → (Sort.grow W os).heap[i]? = W.heap[i]? := fun W i hi => by unfold Sort.grow; exact Array.getElem?_append_left hi
    have hsz : (Sort.putRow id (Sort.ahead w m) g 0 ys.toArray).heap.size = w.heap.size := by rw [Sort.size_putRow]; rfl
    refine ⟨⟨hy, .inr ⟨g, c, _, rfl, hB, (hgrow _ g (by rw [hsz]; exact hlt)).trans hp, hn, hm, ?_, ?_⟩⟩, ?_⟩
    · unfold Sort.putCells; simp [hs]
    · have := put_takeA (cur := cur) (F := ys.toArray) (by rw [hs, List.size_toArray, hy]; exact Nat.mul_le_mul_right _ hn)
      rw [List.size_toArray, hy] at this
      simpa using this
    · refine ⟨rfl, rfl, rfl, ?_, fun i hi hne => ?_⟩
      · show w.heap.size ≤ ((Sort.putRow id (Sort.ahead w m) g 0 ys.toArray).heap ++ os).size
        rw [Array.size_append, hsz]; omega
      · rw [hgrow _ i (by rw [hsz]; exact hi)]
        unfold Sort.putRow Sort.mapBlock
        rw [Array.getElem?_modify, if_neg (fun h => hne h.symm)]
        rfl
set_option maxRecDepth 100000 in
theorem isAgg_oth : ∀ w, (isAgg 61).run Tryd.prog w = .ok true w := Tryd.isAgg61
set_option maxRecDepth 100000 in
theorem sizeOf_oth : ∀ w, (Go.sizeOf 61).run Tryd.prog w = .ok 2 w := Tryd.sizeOf61
set_option maxRecDepth 100000 in
theorem own_slice' {w : World} {B k n : Nat} {e : TypeId} {v : Value} {xs : List Value} (h : w.ownsRow B e k v n xs) : (v = .slice none 0 0 ∧ n = 0) ∨ ∃ g c cur, v = .slice (some ⟨g, 0, none⟩) n c ∧ w.heap[g]? = some (.cells cur e (0, 0)) ∧ cur.size = c * k ∧ cur.toList.take (n * k) = xs ∧ n ≤ c := by
  obtain ⟨_, ⟨rfl, h0⟩ | ⟨g, cap, cur, rfl, _, hg, hn, _, hs, hc⟩⟩ := h
  · exact .inl ⟨rfl, h0⟩
  · exact .inr ⟨g, cap, cur, rfl, hg, hs, hc, hn⟩
set_option maxRecDepth 100000 in
/-- slices.SortFunc over others of the call's own: their types rise, nothing is lost. -/
theorem oth_Sort (lo : Nat) (vo : Value) (us : List OthV) (w : World) (h : w.ownsRow lo 61 2 vo us.length (us.flatMap otC)) (hs : ∀ x ∈ us, ∃ s c, x.2 = .slice s x.1.2.length c) (hn : us.length ≤ 1048576) :
    Calls Tryd.prog 45 #[vo, .func (.func 46) #[] #[]] w fun e w' => ∃ us' : List OthV, e = .returned (.tuple #[]) ∧ us'.Perm us ∧ us'.Pairwise (fun x y => x.1.1 ≤ y.1.1) ∧ w'.ownsRow lo 61 2 vo us'.length (us'.flatMap otC) ∧ Kept (fun b => vo.ownBlock = some b) w w' := by
  rcases own_slice' h with ⟨rfl, h0⟩ | ⟨g, c, cur, rfl, hg, hsz, htk, hnc⟩
  · obtain rfl := List.length_eq_zero_iff.1 h0
    refine (AnyF.slices_SortFunc_none Tryd.sortO none 0 _ w).mono ?_
    rintro e w' ⟨rfl, rfl⟩
    exact ⟨[], rfl, List.Perm.refl _, List.Pairwise.nil, h, Kept.refl _ _⟩
  · obtain ⟨L, rfl⟩ := os_of us hs
    rw [os_flat] at h htk
    rw [List.length_map] at h htk hnc hn ⊢
    have eg : ∀ args w, (callFunc 46 args).run Tryd.prog w = .ok (.enter 46 args) w := enters_of Tryd.func46 (by kernel_rfl) rfl
    have hH : Sort.HoldsK osC 2 w g 0 L.toArray := by
      unfold Sort.HoldsK
      rw [flatK_os]
      intro j hj
      rw [List.size_toArray, flat_len osC_len] at hj
      have hl : (L.flatMap osC)[j]? = cur[j]? := by
        rw [← htk, List.getElem?_take_of_lt hj, Array.getElem?_toList]
      rw [Nat.zero_add]
      refine ⟨?_, row_free hg j⟩
      rw [row_cell hg, ← hl, List.getElem?_eq_getElem (by rw [flat_len osC_len]; exact hj)]
      rw [getElem!_pos _ _ (by simpa [flat_len osC_len] using hj)]
      simp
    have hcon := AnyQ.slices_SortFunc Tryd.sortO 2 isAgg_oth sizeOf_oth osC osC_len osC_one oscmp swo_os 46 #[] g 0 c L.toArray w eg (cmp_laysO g 0 L.toArray.size w) hH (row_lt hg) (by simp; omega)
    rw [List.size_toArray] at hcon
    refine hcon.mono ?_
    rintro e w' ⟨rfl, d', n, os, ⟨hp1, -, hp3⟩, hso, rfl⟩
    have hlen : d'.size = L.length := by rw [hp1]; simp
    have hperm : d'.toList.Perm L := by
      have e1 : d'.extract 0 L.length = d' := by rw [← hlen]; simp
      have e2 : L.toArray.extract 0 L.length = L.toArray := by simp
      rw [e1, e2] at hp3
      simpa using hp3
    have hsort : d'.toList.Pairwise (fun x y => x.1.1 ≤ y.1.1) := by
      rw [List.pairwise_iff_getElem]
      intro i j hi hj hij
      have := hso i j (Nat.zero_le _) hij (by simpa [hlen] using hj)
      rw [ltOf_os] at this
      simp only [Array.length_toList] at hi hj
      rw [getElem!_pos d' j hj, getElem!_pos d' i hi] at this
      simpa using this
    have hl3 : d'.toList.length = L.length := Array.length_toList.trans hlen
    have hp := own_putA h (ys := d'.toList.flatMap osC) (by rw [flat_len osC_len, hl3]) n os
    refine ⟨d'.toList.map osV, rfl, hperm.map _, ?_, ?_, ?_⟩
    · rw [List.pairwise_map]
      exact hsort
    · rw [os_flat, List.length_map, hl3]
      unfold Go.Proofs.sortWorldK Sort.putRowK
      have : Sort.flatK osC 2 d' = (d'.toList.flatMap osC).toArray := by rw [← flatK_os]
      rw [this]
      exact hp.1
    · unfold Go.Proofs.sortWorldK Sort.putRowK
      have : Sort.flatK osC 2 d' = (d'.toList.flatMap osC).toArray := by rw [← flatK_os]
      rw [this]
      exact hp.2.imp fun b hb => by rw [hb]; rfl
end Go.Proofs.YtohkbcdnlmjcjaaDoor

/-
  ATTRIBUTES: the document's example (head): four bytes read.
-/
namespace Go.Proofs.YtohkbcdnlmjcjaaDoor
open Go.RowKit

set_option maxRecDepth 100000 in
theorem zero_seen : Tryd.zeroCells79[1]? = some (.bool false) := by kernel_rfl
abbrev atZ6 : Array Value := #[.int .i64 0, .int .i64 0, .slice none 0 0, .int .u32 0, .int .i64 0, .int .i64 0, .int .i64 0, .int .u32 0, .slice none 0 0, .slice none 0 0]
abbrev at22 : Array Value := #[.int .i64 2, .int .i64 2, .slice none 0 0, .int .u32 0, .int .i64 0, .int .i64 0, .int .i64 0, .int .u32 0, .slice none 0 0, .slice none 0 0]
set_option maxRecDepth 100000 in
theorem flt_same (w : World) : (binOp .neq 54 (.agg fltZ) (.agg fltZ)).run Tryd.prog w = .ok (.bool false) w := by kernel_rfl
set_option maxRecDepth 100000 in
theorem flt_other (w : World) (s : ByteArray) : (binOp .neq 54 (.agg #[.int .i64 3, .int .i64 6, .string s]) (.agg fltZ)).run Tryd.prog w = .ok (.bool true) w := by kernel_rfl
set_option maxRecDepth 100000 in
theorem kept_row {F : Nat → Prop} {w : World} (g : Nat) (C : Array Value) (hF : F g) : Kept F w (w.setRow g C) :=
  ⟨rfl, rfl, rfl, by simp [World.setRow], fun k _ hf => setRow_other _ _ _ _ (fun e => hf (by rw [e]; exact hF))⟩
set_option maxRecDepth 100000 in
theorem boxDec (w : World) : ∃ W0, W0 = (((w.alloc (.cells atZ6 28)).alloc (.cells fltZ 54)).alloc (.cells atZ6 28)).alloc (.cells Tryd.zeroCells79 79) ∧ W0.heap[w.heap.size]? = some (.cells atZ6 28 (0, 0)) ∧ W0.heap[w.heap.size + 1]? = some (.cells fltZ 54 (0, 0)) ∧
    W0.heap[w.heap.size + 1 + 1]? = some (.cells atZ6 28 (0, 0)) ∧ W0.heap[w.heap.size + 1 + 1 + 1]? = some (.cells Tryd.zeroCells79 79 (0, 0)) ∧ Below w.heap.size w W0 ∧ W0.heap.size = w.heap.size + 4 := by
  have st : ∀ (u : World) (o : Obj) (b : Nat), b < u.heap.size → (u.alloc o).heap[b]? = u.heap[b]? := fun u o b hb => ((Below.refl u.heap.size u).alloc (Nat.le_refl _) o).block b hb
  have e : ∀ (u : World) (o : Obj), (u.alloc o).heap.size = u.heap.size + 1 := fun u o => by simp
  have nw : ∀ (u : World) (b : Nat) (o : Obj), b = u.heap.size → (u.alloc o).heap[b]? = some o := fun u b o hb => by subst hb; exact heap_alloc_new u _
  refine ⟨_, rfl, ?_, ?_, ?_, ?_, ((((Below.refl _ _).alloc (Nat.le_refl _) _).alloc (by simp) _).alloc (by simp; omega) _).alloc (by simp; omega) _, by simp⟩
  · rw [st _ _ _ (by simp only [e]; omega), st _ _ _ (by simp only [e]; omega), st _ _ _ (by simp only [e]; omega)]; exact nw _ _ _ rfl
  · rw [st _ _ _ (by simp only [e]; omega), st _ _ _ (by simp only [e]; omega)]; exact nw _ _ _ (by simp only [e])
  · rw [st _ _ _ (by simp only [e]; omega)]; exact nw _ _ _ (by simp only [e])
  · exact nw _ _ _ (by simp only [e])
set_option maxRecDepth 100000 in
theorem results_Decode (tmps : Array Value) (W : World) (b1 b2 : Nat) (C D : Array Value) (hC : C.size = 10) (hD : D.size = 3) (h2 : tmps.getD 2 undef = .pointer (some ⟨b1, 0, none⟩)) (h3 : tmps.getD 3 undef = .pointer (some ⟨b2, 0, none⟩)) (q1 : W.heap[b1]? = some (.cells C 28 (0, 0))) (q2 : W.heap[b2]? = some (.cells D 54 (0, 0))) :
    (results Tryd.f22 tmps).run Tryd.prog W = .ok (.tuple #[.agg C, .agg D]) W := by
  have h2' : tmps[2]?.getD undef = .pointer (some ⟨b1, 0, none⟩) := by simpa using h2
  have h3' : tmps[3]?.getD undef = .pointer (some ⟨b2, 0, none⟩) := by simpa using h3
  simp [results, Tryd.results22, h2', h3', asAddr, run_loadVar_row W b1 28 28 C (0, 0) _ q1 Tryd.underlying28 rfl (by rw [hC]; kernel_rfl), run_loadVar_row W b2 54 54 D (0, 0) _ q2 Tryd.underlying54 rfl (by rw [hD]; kernel_rfl)]
set_option maxHeartbeats 6400000 in
set_option maxRecDepth 100000 in
theorem dec_two (g : Nat) (w : World) (hT : Tabs w) (hg : g < w.heap.size) (h : BytesAt w (.slice (some ⟨g, 0, none⟩) 4 4) [64, 1, 1, 2]) : Calls Tryd.prog 22 #[.slice (some ⟨g, 0, none⟩) 4 4] w fun e w' => e = .returned (.tuple #[.agg at22, .agg fltZ]) ∧ Below w.heap.size w w' := by
  have H := Lib.hid h
  have HT := Lib.hid hT
  have HG := Lib.hid hg
  obtain ⟨sa, cap, e0, _, _, hV⟩ := h
  injection e0 with e0 _ e3
  subst e3; subst e0
  obtain ⟨b, off, e1, hP⟩ := hV (by simp)
  injection e1 with e1
  injection e1 with e1 e2 _
  subst e1; subst e2
  obtain ⟨c0, _, ⟨rfl, _⟩, p0⟩ := hP 0 64 rfl
  obtain ⟨c1, _, ⟨rfl, _⟩, p1⟩ := hP 1 1 rfl
  obtain ⟨c2, _, ⟨rfl, _⟩, p2⟩ := hP 2 1 rfl
  obtain ⟨c3, _, ⟨rfl, _⟩, p3⟩ := hP 3 2 rfl
  have D0 : Hid (w.cell? ⟨g, 0, none⟩ = some (.int .u8 64)) := Lib.hid (p0 0 _ rfl)
  have D1 : Hid (w.cell? ⟨g, 1, none⟩ = some (.int .u8 1)) := Lib.hid (p1 0 _ rfl)
  have D2 : Hid (w.cell? ⟨g, 2, none⟩ = some (.int .u8 1)) := Lib.hid (p2 0 _ rfl)
  have D3 : Hid (w.cell? ⟨g, 3, none⟩ = some (.int .u8 2)) := Lib.hid (p3 0 _ rfl)
  have V3 : Hid (BytesAt w (.slice (some ⟨g, 3, none⟩) 1 (4 - 3)) [2]) := Lib.hid (by
    have := slat_sub (xs := [64, 1, 1, 2]) H.out (i := 3) (j := 4) (by decide) (by decide)
    simpa using this)
  clear hT hg hV hP p0 p1 p2 p3
  go_enter Tryd.func22, Tryd.ntmps22
  go_upto_region 3 with (fail)
  obtain ⟨W, hW, q0, q1, q2, q3, hb, hs⟩ := boxDec w
  rw [← hW]
  clear hW
  have S := Lib.hid hs
  have B := Lib.hid hb
  have Q0 := Lib.hid q0
  have Q1 := Lib.hid q1
  have Q2 := Lib.hid q2
  have Q3 := Lib.hid q3
  have d1 := cell_below D1.out hb
  have s1 : W.cell? ⟨w.heap.size + 1 + 1 + 1, 1, none⟩ = some (.bool false) := by rw [row_cell q3]; exact zero_seen
  have sf := row_free q3 1
  have CT := Lib.hid (at_cut _ _ W (H.out.below hb))
  rw [show cutV [64, 1, 1, 2] = .tuple #[.int .i64 3, .int .i64 4, .bool true] by kernel_rfl] at CT
  clear q0 q1 q2 q3 hb hs
  refine wp_loop_rounds 2 ?_
  rw [rounds_succ]
  go_wp2_with fail
  refine CT.out.mono ?_
  rintro e w1 ⟨rfl, rfl⟩
  clear CT
  go_upto_region 8 with (fail)
  obtain ⟨W1, hW1⟩ : ∃ W1, W1 = W.setCell ⟨w.heap.size + 1 + 1 + 1, 1, none⟩ (.bool true) := ⟨_, rfl⟩
  have K1 : Hid (Kept (fun k => k = w.heap.size + 1 + 1 + 1) W W1) := Lib.hid (by rw [hW1]; exact Kept.setCell _ _ rfl)
  have Z1 : Hid (W1.heap.size = w.heap.size + 4) := Lib.hid (by rw [hW1, ← S.out]; simp [World.setCell])
  rw [← hW1]
  clear hW1 s1 sf d1
  go_upto_region 9 with (fail)
  obtain ⟨W2, hW2, qf, hb2, hs2⟩ : ∃ W2, W2 = W1.alloc (.cells fltZ 54) ∧ W2.heap[W1.heap.size]? = some (.cells fltZ 54 (0, 0)) ∧ Below W1.heap.size W1 W2 ∧ W2.heap.size = W1.heap.size + 1 := ⟨_, rfl, heap_alloc_new W1 _, (Below.refl _ _).alloc (Nat.le_refl _) _, by simp⟩
  rw [← hW2]
  clear hW2
  have q0 := (K1.out.block _ (row_lt Q0.out) (by omega)).trans Q0.out
  have q1 := (K1.out.block _ (row_lt Q1.out) (by omega)).trans Q1.out
  have q2 := (K1.out.block _ (row_lt Q2.out) (by omega)).trans Q2.out
  have P0 := Lib.hid ((hb2.block _ (row_lt q0)).trans q0)
  have P1 := Lib.hid ((hb2.block _ (row_lt q1)).trans q1)
  have P2 := Lib.hid ((hb2.block _ (row_lt q2)).trans q2)
  have PF := Lib.hid qf
  have B2 : Hid (Below w.heap.size w W2) := Lib.hid ((B.out.trans (K1.out.below B.out.size (fun k hk => by omega))).trans (hb2.mono (by have := Z1.out; omega)))
  have d1 := cell_below D1.out B2.out
  clear q0 q1 q2 qf hb2 hs2 Q0 Q1 Q2 Q3 B K1 S
  have TK := Lib.hid (take_two (w.heap.size + 1 + 1) g 0 4 W2.drew (HT.out.below B2.out.drew) P2.out (cell_below D0.out B2.out.drew) (cell_below D1.out B2.out.drew) (V3.out.below B2.out.drew))
  generalize hfb : W1.heap.size = fb at PF Z1 ⊢
  clear hfb
  go_wp2_with fail
  refine (at_isKnown 1 _).mono ?_
  rintro e w3 ⟨rfl, rfl⟩
  go_wp2_with fail
  have P0d : Hid ((World.drew W2).heap[w.heap.size]? = some (.cells atZ6 28 (0, 0))) := Lib.hid P0.out
  have P1d : Hid ((World.drew W2).heap[w.heap.size + 1]? = some (.cells fltZ 54 (0, 0))) := Lib.hid P1.out
  have PFd : Hid ((World.drew W2).heap[fb]? = some (.cells fltZ 54 (0, 0))) := Lib.hid PF.out
  have B2d : Hid (Below w.heap.size w (World.drew W2)) := Lib.hid B2.out.drew
  clear P0 P1 P2 PF B2
  refine wp_region_held_drew (S := fun _ => True) (by kernel_rfl) ?_ (fun hHeld => ?_)
  · trivial
  generalize World.drew W2 = wd at TK P0d P1d PFd B2d hHeld ⊢
  refine rgy (i := 0) (v := ?_) (atN rfl) (by kernel_rfl) (fun _ _ _ h => h) ?_ ?_ hHeld ?_; rotate_left 1; (· rfl); (· intro w' hSw; (try clear hHeld); go_simp; try with_reducible rfl)
  try simp only [Act.put, List.setIfInBounds_toArray, List.set_cons_zero, List.set_cons_succ]
  refine rgy (i := 1) (v := ?_) (atN rfl) (by kernel_rfl) (fun _ _ _ h => h) ?_ ?_ hHeld ?_; rotate_left 1; (· rfl); (· intro w' hSw; (try clear hHeld); go_simp; try with_reducible rfl)
  try simp only [Act.put, List.setIfInBounds_toArray, List.set_cons_zero, List.set_cons_succ]
  refine rgy (i := 2) (v := ?_) (atN rfl) (by kernel_rfl) (fun _ _ _ h => h) ?_ ?_ hHeld ?_; rotate_left 1; (· rfl); (· intro w' hSw; (try clear hHeld); go_simp; try with_reducible rfl)
  try simp only [Act.put, List.setIfInBounds_toArray, List.set_cons_zero, List.set_cons_succ]
  refine rgy (i := 3) (v := ?_) (atN rfl) (by kernel_rfl) (fun _ _ _ h => h) ?_ ?_ hHeld ?_; rotate_left 1; (· rfl); (· intro w' hSw; (try clear hHeld); go_simp; try with_reducible rfl)
  try simp only [Act.put, List.setIfInBounds_toArray, List.set_cons_zero, List.set_cons_succ]
  refine rgy (i := 4) (v := ?_) (atN rfl) (by kernel_rfl) (fun _ _ _ h => h) ?_ ?_ hHeld ?_; rotate_left 1; (· rfl); (· intro w' hSw; (try clear hHeld); go_simp; try with_reducible rfl)
  try simp only [Act.put, List.setIfInBounds_toArray, List.set_cons_zero, List.set_cons_succ]
  refine rgy (i := 5) (v := ?_) (atN rfl) (by kernel_rfl) (fun _ _ _ h => h) ?_ ?_ hHeld ?_; rotate_left 1; (· rfl); (· intro w' hSw; (try clear hHeld); go_simp; try with_reducible rfl)
  try simp only [Act.put, List.setIfInBounds_toArray, List.set_cons_zero, List.set_cons_succ]
  refine rgy (i := 6) (v := ?_) (atN rfl) (by kernel_rfl) (fun _ _ _ h => h) ?_ ?_ hHeld ?_; rotate_left 1; (· rfl); (· intro w' hSw; (try clear hHeld); go_simp; try with_reducible rfl)
  try simp only [Act.put, List.setIfInBounds_toArray, List.set_cons_zero, List.set_cons_succ]
  refine rg_call (i := 7) (atN rfl) (by kernel_rfl) ?_ (fun K hK => ?_); (· rfl); (try clear hb); go_simp; (refine TK.out.mono ?_; rintro e w4 ⟨rfl, qa, hk⟩); have RF := Lib.hid ((hk.block _ (row_lt PFd.out) (by have := Z1.out; omega)).trans PFd.out); go_wp2_with fail; refine hK.out _ _ ?_ (fun hHeld => ?_); (· trivial); clear hK K
  try simp only [Act.put, List.setIfInBounds_toArray, List.set_cons_zero, List.set_cons_succ]
  refine rg_call (i := 8) (atN rfl) (by kernel_rfl) ?_ (fun K hK => ?_); (· rfl); (try clear hb); refine wp_store_rowat 54 (.tmp 9) (.tmp 47) rfl fb rfl 54 fltZ fltZ rfl RF.out (by kernel_rfl) rfl (by simp [Value.oneCell']) ?_; refine hK.out _ _ ?_ (fun hHeld => ?_); (· trivial); clear hK K
  try simp only [Act.put]
  refine wpAnyH_done (by kernel_rfl) ?_ _
  clear hHeld
  have PA := Lib.hid qa
  have R0 := Lib.hid ((hk.block _ (row_lt P0d.out) (by omega)).trans P0d.out)
  have R1 := Lib.hid ((hk.block _ (row_lt P1d.out) (by omega)).trans P1d.out)
  have B4 : Hid (Below w.heap.size w w4) := Lib.hid (B2d.out.trans (hk.below B2d.out.size (fun k hk => by omega)))
  obtain ⟨W5, hW5⟩ : ∃ W5, W5 = w4.setRow fb fltZ := ⟨_, rfl⟩
  rw [← hW5]
  have K5 : Kept (fun k => k = fb) w4 W5 := by rw [hW5]; exact kept_row fb fltZ rfl
  have NF : Hid (fb = w.heap.size + 4) := Z1
  have T0 := Lib.hid ((K5.block _ (row_lt R0.out) (by have := NF.out; omega)).trans R0.out)
  have T1 := Lib.hid ((K5.block _ (row_lt R1.out) (by have := NF.out; omega)).trans R1.out)
  have TA := Lib.hid ((K5.block _ (row_lt PA.out) (by have := NF.out; omega)).trans PA.out)
  have TF : Hid (W5.heap[fb]? = some (.cells fltZ 54 (0, 0))) := Lib.hid (by rw [hW5]; exact setRow_heap _ _ _ _ _ _ RF.out)
  have B5 : Hid (Below w.heap.size w W5) := Lib.hid (B4.out.trans (K5.below B4.out.size (fun k hk => by have := NF.out; omega)))
  clear hW5 K5 R0 R1 PA RF B4 qa hk TK P0d P1d PFd B2d
  have y0 := row_cell TF.out 0
  have y1 := row_cell TF.out 1
  have y2 := row_cell TF.out 2
  have NQ := flt_same W5
  go_wp2_with fail
  clear y0 y1 y2 NQ TF
  obtain ⟨y0, y1, y2, y3, y4, y5, y6, y7, y8, y9⟩ := at10 TA.out
  rw [rounds_succ]
  go_wp2_with fail
  refine (sort_none none 0 _ _).mono ?_
  rintro e w6 ⟨rfl, rfl⟩
  go_wp2_with ((with_reducible refine halt_at (X := .store 28 (.tmp 2) (.tmp 67)) ?_ ?_); (· rfl))
  unfold Halt
  refine st_row rfl 28 (.tmp 2) (.tmp 67) rfl w.heap.size rfl 28 atZ6 at22 rfl T0.out (by kernel_rfl) rfl (by simp [Value.oneCell']) ?_
  have V0 : Hid ((W5.setRow w.heap.size at22).heap[w.heap.size]? = some (.cells at22 28 (0, 0))) := Lib.hid (setRow_heap _ _ _ _ _ _ T0.out)
  have V1 : Hid ((W5.setRow w.heap.size at22).heap[w.heap.size + 1]? = some (.cells fltZ 54 (0, 0))) := Lib.hid (by rw [setRow_other _ _ _ _ (by omega)]; exact T1.out)
  have B6 : Hid (Below w.heap.size w (W5.setRow w.heap.size at22)) := Lib.hid (B5.out.trans ((kept_row (F := fun k => k = w.heap.size) w.heap.size at22 rfl).below B5.out.size (fun k hk => by omega)))
  generalize W5.setRow w.heap.size at22 = W6 at V0 V1 B6 ⊢
  clear T0 T1 TA B5 y0 y1 y2 y3 y4 y5 y6 y7 y8 y9
  go_wp2_with ((with_reducible refine halt_at (X := .store 54 (.tmp 3) (.tmp 68)) ?_ ?_); (· rfl))
  unfold Halt
  refine st_row rfl 54 (.tmp 3) (.tmp 68) rfl (w.heap.size + 1) rfl 54 fltZ fltZ rfl V1.out (by kernel_rfl) rfl (by simp [Value.oneCell']) ?_
  go_wp2_with fail
  refine bodyPost_ret (results_Decode _ _ w.heap.size (w.heap.size + 1) at22 fltZ rfl rfl rfl rfl (by rw [setRow_other _ _ _ _ (by omega)]; exact V0.out) (setRow_heap _ _ _ _ _ _ V1.out)) rfl ⟨rfl, ?_⟩
  exact B6.out.trans ((kept_row (F := fun k => k = w.heap.size + 1) (w.heap.size + 1) fltZ rfl).below B6.out.size (fun k hk => by omega))
/-- what holds while a fault is handed back. -/
structure ErrS (w : World) (fb : Nat) (st : ByteArray) (w' : World) : Prop where
  r : w'.heap[w.heap.size]? = some (.cells atZ6 28 (0, 0))
  t : ∃ C : Array Value, C.size = 3 ∧ w'.heap[w.heap.size + 1]? = some (.cells C 54 (0, 0))
  f : w'.heap[fb]? = some (.cells #[.int .i64 3, .int .i64 6, .string st] 54 (0, 0))
  b : Below w.heap.size w w'
set_option maxRecDepth 100000 in
theorem ErrS.setA {w : World} {fb : Nat} {st : ByteArray} {w' : World} (h : ErrS w fb st w') (hn : fb ≠ w.heap.size) : ErrS w fb st (w'.setRow w.heap.size atZ6) := by
  obtain ⟨C, h1, h2⟩ := h.t
  exact ⟨setRow_heap _ _ _ _ _ _ h.r, ⟨C, h1, by rw [setRow_other _ _ _ _ (by omega)]; exact h2⟩, by rw [setRow_other _ _ _ _ hn]; exact h.f, h.b.trans ((kept_row (F := fun k => k = w.heap.size) w.heap.size atZ6 rfl).below h.b.size (fun k hk => by omega))⟩
set_option maxRecDepth 100000 in
theorem ErrS.setF {w : World} {fb : Nat} {st : ByteArray} {w' : World} (h : ErrS w fb st w') (hn : fb ≠ w.heap.size + 1) : ErrS w fb st (w'.setRow (w.heap.size + 1) #[.int .i64 3, .int .i64 6, .string st]) := by
  obtain ⟨C, h1, h2⟩ := h.t
  exact ⟨by rw [setRow_other _ _ _ _ (by omega)]; exact h.r, ⟨_, rfl, setRow_heap _ _ _ _ _ _ h2⟩, by rw [setRow_other _ _ _ _ hn]; exact h.f, h.b.trans ((kept_row (F := fun k => k = w.heap.size + 1) (w.heap.size + 1) _ rfl).below h.b.size (fun k hk => by omega))⟩
set_option maxHeartbeats 6400000 in
set_option maxRecDepth 100000 in
theorem dec_three (g : Nat) (w : World) (hT : Tabs w) (hg : g < w.heap.size) (h : BytesAt w (.slice (some ⟨g, 0, none⟩) 4 4) [64, 1, 1, 3]) : Calls Tryd.prog 22 #[.slice (some ⟨g, 0, none⟩) 4 4] w fun e w' => (∃ st, e = .returned (.tuple #[.agg atZ6, .agg #[.int .i64 3, .int .i64 6, .string st]])) ∧ Below w.heap.size w w' := by
  have H := Lib.hid h
  have HT := Lib.hid hT
  have HG := Lib.hid hg
  obtain ⟨sa, cap, e0, _, _, hV⟩ := h
  injection e0 with e0 _ e3
  subst e3; subst e0
  obtain ⟨b, off, e1, hP⟩ := hV (by simp)
  injection e1 with e1
  injection e1 with e1 e2 _
  subst e1; subst e2
  obtain ⟨c0, _, ⟨rfl, _⟩, p0⟩ := hP 0 64 rfl
  obtain ⟨c1, _, ⟨rfl, _⟩, p1⟩ := hP 1 1 rfl
  obtain ⟨c2, _, ⟨rfl, _⟩, p2⟩ := hP 2 1 rfl
  obtain ⟨c3, _, ⟨rfl, _⟩, p3⟩ := hP 3 3 rfl
  have D0 : Hid (w.cell? ⟨g, 0, none⟩ = some (.int .u8 64)) := Lib.hid (p0 0 _ rfl)
  have D1 : Hid (w.cell? ⟨g, 1, none⟩ = some (.int .u8 1)) := Lib.hid (p1 0 _ rfl)
  have D2 : Hid (w.cell? ⟨g, 2, none⟩ = some (.int .u8 1)) := Lib.hid (p2 0 _ rfl)
  have D3 : Hid (w.cell? ⟨g, 3, none⟩ = some (.int .u8 3)) := Lib.hid (p3 0 _ rfl)
  have V3 : Hid (BytesAt w (.slice (some ⟨g, 3, none⟩) 1 (4 - 3)) [3]) := Lib.hid (by
    have := slat_sub (xs := [64, 1, 1, 3]) H.out (i := 3) (j := 4) (by decide) (by decide)
    simpa using this)
  clear hT hg hV hP p0 p1 p2 p3
  go_enter Tryd.func22, Tryd.ntmps22
  go_upto_region 3 with (fail)
  obtain ⟨W, hW, q0, q1, q2, q3, hb, hs⟩ := boxDec w
  rw [← hW]
  clear hW
  have S := Lib.hid hs
  have B := Lib.hid hb
  have Q0 := Lib.hid q0
  have Q1 := Lib.hid q1
  have Q2 := Lib.hid q2
  have Q3 := Lib.hid q3
  have d1 := cell_below D1.out hb
  have s1 : W.cell? ⟨w.heap.size + 1 + 1 + 1, 1, none⟩ = some (.bool false) := by rw [row_cell q3]; exact zero_seen
  have sf := row_free q3 1
  have CT := Lib.hid (at_cut _ _ W (H.out.below hb))
  rw [show cutV [64, 1, 1, 3] = .tuple #[.int .i64 3, .int .i64 4, .bool true] by kernel_rfl] at CT
  clear q0 q1 q2 q3 hb hs
  refine wp_loop_rounds 2 ?_
  rw [rounds_succ]
  go_wp2_with fail
  refine CT.out.mono ?_
  rintro e w1 ⟨rfl, rfl⟩
  clear CT
  go_upto_region 8 with (fail)
  obtain ⟨W1, hW1⟩ : ∃ W1, W1 = W.setCell ⟨w.heap.size + 1 + 1 + 1, 1, none⟩ (.bool true) := ⟨_, rfl⟩
  have K1 : Hid (Kept (fun k => k = w.heap.size + 1 + 1 + 1) W W1) := Lib.hid (by rw [hW1]; exact Kept.setCell _ _ rfl)
  have Z1 : Hid (W1.heap.size = w.heap.size + 4) := Lib.hid (by rw [hW1, ← S.out]; simp [World.setCell])
  rw [← hW1]
  clear hW1 s1 sf d1
  go_upto_region 9 with (fail)
  obtain ⟨W2, hW2, qf, hb2, hs2⟩ : ∃ W2, W2 = W1.alloc (.cells fltZ 54) ∧ W2.heap[W1.heap.size]? = some (.cells fltZ 54 (0, 0)) ∧ Below W1.heap.size W1 W2 ∧ W2.heap.size = W1.heap.size + 1 := ⟨_, rfl, heap_alloc_new W1 _, (Below.refl _ _).alloc (Nat.le_refl _) _, by simp⟩
  rw [← hW2]
  clear hW2
  have q0 := (K1.out.block _ (row_lt Q0.out) (by omega)).trans Q0.out
  have q1 := (K1.out.block _ (row_lt Q1.out) (by omega)).trans Q1.out
  have q2 := (K1.out.block _ (row_lt Q2.out) (by omega)).trans Q2.out
  have P0 := Lib.hid ((hb2.block _ (row_lt q0)).trans q0)
  have P1 := Lib.hid ((hb2.block _ (row_lt q1)).trans q1)
  have P2 := Lib.hid ((hb2.block _ (row_lt q2)).trans q2)
  have PF := Lib.hid qf
  have B2 : Hid (Below w.heap.size w W2) := Lib.hid ((B.out.trans (K1.out.below B.out.size (fun k hk => by omega))).trans (hb2.mono (by have := Z1.out; omega)))
  have d1 := cell_below D1.out B2.out
  clear q0 q1 q2 qf hb2 hs2 Q0 Q1 Q2 Q3 B K1 S
  have TK := Lib.hid (take_three (w.heap.size + 1 + 1) g 0 4 W2.drew (HT.out.below B2.out.drew) P2.out (cell_below D0.out B2.out.drew) (cell_below D1.out B2.out.drew) (cell_below D2.out B2.out.drew) (cell_below D3.out B2.out.drew) (V3.out.below B2.out.drew) (by have := HG.out; omega))
  generalize hfb : W1.heap.size = fb at PF Z1 ⊢
  clear hfb
  go_wp2_with fail
  refine (at_isKnown 1 _).mono ?_
  rintro e w3 ⟨rfl, rfl⟩
  go_wp2_with fail
  have P0d : Hid ((World.drew W2).heap[w.heap.size]? = some (.cells atZ6 28 (0, 0))) := Lib.hid P0.out
  have P1d : Hid ((World.drew W2).heap[w.heap.size + 1]? = some (.cells fltZ 54 (0, 0))) := Lib.hid P1.out
  have PFd : Hid ((World.drew W2).heap[fb]? = some (.cells fltZ 54 (0, 0))) := Lib.hid PF.out
  have B2d : Hid (Below w.heap.size w (World.drew W2)) := Lib.hid B2.out.drew
  clear P0 P1 P2 PF B2
  refine wp_region_held_drew (S := fun _ => True) (by kernel_rfl) ?_ (fun hHeld => ?_)
  · trivial
  generalize World.drew W2 = wd at TK P0d P1d PFd B2d hHeld ⊢
  refine rgy (i := 0) (v := ?_) (atN rfl) (by kernel_rfl) (fun _ _ _ h => h) ?_ ?_ hHeld ?_; rotate_left 1; (· rfl); (· intro w' hSw; (try clear hHeld); go_simp; try with_reducible rfl)
  try simp only [Act.put, List.setIfInBounds_toArray, List.set_cons_zero, List.set_cons_succ]
  refine rgy (i := 1) (v := ?_) (atN rfl) (by kernel_rfl) (fun _ _ _ h => h) ?_ ?_ hHeld ?_; rotate_left 1; (· rfl); (· intro w' hSw; (try clear hHeld); go_simp; try with_reducible rfl)
  try simp only [Act.put, List.setIfInBounds_toArray, List.set_cons_zero, List.set_cons_succ]
  refine rgy (i := 2) (v := ?_) (atN rfl) (by kernel_rfl) (fun _ _ _ h => h) ?_ ?_ hHeld ?_; rotate_left 1; (· rfl); (· intro w' hSw; (try clear hHeld); go_simp; try with_reducible rfl)
  try simp only [Act.put, List.setIfInBounds_toArray, List.set_cons_zero, List.set_cons_succ]
  refine rgy (i := 3) (v := ?_) (atN rfl) (by kernel_rfl) (fun _ _ _ h => h) ?_ ?_ hHeld ?_; rotate_left 1; (· rfl); (· intro w' hSw; (try clear hHeld); go_simp; try with_reducible rfl)
  try simp only [Act.put, List.setIfInBounds_toArray, List.set_cons_zero, List.set_cons_succ]
  refine rgy (i := 4) (v := ?_) (atN rfl) (by kernel_rfl) (fun _ _ _ h => h) ?_ ?_ hHeld ?_; rotate_left 1; (· rfl); (· intro w' hSw; (try clear hHeld); go_simp; try with_reducible rfl)
  try simp only [Act.put, List.setIfInBounds_toArray, List.set_cons_zero, List.set_cons_succ]
  refine rgy (i := 5) (v := ?_) (atN rfl) (by kernel_rfl) (fun _ _ _ h => h) ?_ ?_ hHeld ?_; rotate_left 1; (· rfl); (· intro w' hSw; (try clear hHeld); go_simp; try with_reducible rfl)
  try simp only [Act.put, List.setIfInBounds_toArray, List.set_cons_zero, List.set_cons_succ]
  refine rgy (i := 6) (v := ?_) (atN rfl) (by kernel_rfl) (fun _ _ _ h => h) ?_ ?_ hHeld ?_; rotate_left 1; (· rfl); (· intro w' hSw; (try clear hHeld); go_simp; try with_reducible rfl)
  try simp only [Act.put, List.setIfInBounds_toArray, List.set_cons_zero, List.set_cons_succ]
  refine rg_call (i := 7) (atN rfl) (by kernel_rfl) ?_ (fun K hK => ?_); (· rfl); (try clear hb); go_simp; (refine TK.out.mono ?_; rintro e w4 ⟨⟨st, rfl⟩, hk⟩); have RF := Lib.hid ((hk.block _ (row_lt PFd.out) (by have := Z1.out; omega)).trans PFd.out); go_wp2_with fail; refine hK.out _ _ ?_ (fun hHeld => ?_); (· trivial); clear hK K
  try simp only [Act.put, List.setIfInBounds_toArray, List.set_cons_zero, List.set_cons_succ]
  refine rg_call (i := 8) (atN rfl) (by kernel_rfl) ?_ (fun K hK => ?_); (· rfl); (try clear hb); refine wp_store_rowat 54 (.tmp 9) (.tmp 47) rfl fb rfl 54 fltZ #[.int .i64 3, .int .i64 6, .string st] rfl RF.out (by kernel_rfl) rfl (by simp [Value.oneCell']) ?_; refine hK.out _ _ ?_ (fun hHeld => ?_); (· trivial); clear hK K
  try simp only [Act.put]
  refine wpAnyH_done (by kernel_rfl) ?_ _
  clear hHeld
  have R0 := Lib.hid ((hk.block _ (row_lt P0d.out) (by omega)).trans P0d.out)
  have R1 := Lib.hid ((hk.block _ (row_lt P1d.out) (by omega)).trans P1d.out)
  have B4 : Hid (Below w.heap.size w w4) := Lib.hid (B2d.out.trans (hk.below B2d.out.size (fun k hk => by omega)))
  obtain ⟨W5, hW5⟩ : ∃ W5, W5 = w4.setRow fb #[.int .i64 3, .int .i64 6, .string st] := ⟨_, rfl⟩
  rw [← hW5]
  have K5 : Kept (fun k => k = fb) w4 W5 := by rw [hW5]; exact kept_row fb _ rfl
  have NF : Hid (fb = w.heap.size + 4) := Z1
  have T0 := Lib.hid ((K5.block _ (row_lt R0.out) (by have := NF.out; omega)).trans R0.out)
  have T1 := Lib.hid ((K5.block _ (row_lt R1.out) (by have := NF.out; omega)).trans R1.out)
  have TF : Hid (W5.heap[fb]? = some (.cells #[.int .i64 3, .int .i64 6, .string st] 54 (0, 0))) := Lib.hid (by rw [hW5]; exact setRow_heap _ _ _ _ _ _ RF.out)
  have B5 : Hid (Below w.heap.size w W5) := Lib.hid (B4.out.trans (K5.below B4.out.size (fun k hk => by have := NF.out; omega)))
  clear hW5 K5 R0 R1 RF B4 hk TK P0d P1d PFd B2d
  have y0 := row_cell TF.out 0
  have y1 := row_cell TF.out 1
  have y2 := row_cell TF.out 2
  have NQ := flt_other W5 st
  go_wp2_with fail
  clear y0 y1 y2 NQ
  have NE0 : Hid (fb ≠ w.heap.size) := Lib.hid (by have := NF.out; omega)
  have NE1 : Hid (fb ≠ w.heap.size + 1) := Lib.hid (by have := NF.out; omega)
  have SI : Hid (ErrS w fb st (World.drew W5)) := Lib.hid ⟨T0.out, ⟨_, rfl, T1.out⟩, TF.out, B5.out.drew⟩
  refine wp_region_held_drew (S := ErrS w fb st) (by kernel_rfl) ?_ (fun hHeld => ?_)
  · exact SI.out
  generalize World.drew W5 = wd at SI hHeld ⊢
  refine rgy (i := 0) (v := ?_) (atN rfl) (by kernel_rfl) (fun _ _ _ h => h) ?_ ?_ hHeld ?_; rotate_left 1; (· rfl); (· intro w' hSw; (try clear hHeld); go_simp; try with_reducible rfl)
  try simp only [Act.put, List.setIfInBounds_toArray, List.set_cons_zero, List.set_cons_succ]
  refine rgy (i := 1) (v := ?_) (atN rfl) (by kernel_rfl) (fun _ _ _ h => h) ?_ ?_ hHeld ?_; rotate_left 1; (· rfl); (· intro w' hSw; refine exec_ld 54 (.tmp 9) ?_ fb ?_ 54 _ (0, 0) _ hSw.f Tryd.underlying54 rfl (by kernel_rfl) <;> rfl)
  try simp only [Act.put, List.setIfInBounds_toArray, List.set_cons_zero, List.set_cons_succ]
  refine rg_call (i := 2) (atN rfl) (by kernel_rfl) ?_ (fun K hK => ?_); (· rfl); (try clear hb); refine wp_store_rowat 28 (.tmp 2) (.tmp 59) rfl w.heap.size rfl 28 atZ6 atZ6 rfl hHeld.r (by kernel_rfl) rfl (by simp [Value.oneCell']) ?_; refine hK.out _ _ ?_ (fun hHeld => ?_); (· exact hHeld.setA NE0.out); clear hK K
  try simp only [Act.put]
  refine rg_call (i := 3) (atN rfl) (by kernel_rfl) ?_ (fun K hK => ?_); (· rfl); (try clear hb); obtain ⟨C, hC, hq⟩ := hHeld.t; refine wp_store_rowat 54 (.tmp 3) (.tmp 60) rfl (w.heap.size + 1) rfl 54 C #[.int .i64 3, .int .i64 6, .string st] rfl hq (by kernel_rfl) hC (by simp [Value.oneCell']) ?_; refine hK.out _ _ ?_ (fun hHeld => ?_); (· exact hHeld.setF NE1.out); clear hK K
  try simp only [Act.put]
  refine wpAnyH_done (by kernel_rfl) ?_ _
  have QR : Hid (((wd.setRow w.heap.size atZ6).setRow (w.heap.size + 1) #[.int .i64 3, .int .i64 6, .string st]).heap[w.heap.size + 1]? = some (.cells #[.int .i64 3, .int .i64 6, .string st] 54 (0, 0))) := Lib.hid (setRow_heap _ _ _ _ _ _ hq)
  have HH := Lib.hid hHeld
  clear hHeld hq
  generalize (wd.setRow w.heap.size atZ6).setRow (w.heap.size + 1) #[.int .i64 3, .int .i64 6, .string st] = W6 at QR HH ⊢
  go_wp2_with fail
  exact bodyPost_ret (results_Decode _ _ w.heap.size (w.heap.size + 1) atZ6 #[.int .i64 3, .int .i64 6, .string st] rfl rfl rfl rfl HH.out.r QR.out) rfl ⟨⟨st, rfl⟩, HH.out.b⟩
end Go.Proofs.YtohkbcdnlmjcjaaDoor
