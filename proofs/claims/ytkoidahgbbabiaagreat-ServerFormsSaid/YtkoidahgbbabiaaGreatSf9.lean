/- Texts of one proof, one behind another. -/
import Derived.Test.YtkoidahgbbabiaaGreatSf8
import Derived.Test.YtkoidahgbbabiaaGreatSf2
import Derived.StillTailTactics
import Derived.IntWalk
import Derived.Shelf.GgClosure.Gives
import Derived.Deep.RegionWith
import Derived.Test.YtkoidahgbbabiaaGreatSf1
import Derived.Sort.Grow
/-
  A TRIE OF ATTRIBUTES: Drop.
-/
namespace Go.Proofs.YtkoidahgbbabiaaGreat
open Go.RowKit
theorem reg_tail {P : Program} {id : Nat} {Q : Exit → Act → World → Prop} {a : Act} {w : World} {l : List Oper} (n : Nat) (hm : P.follows .mixedOrders = true) (hB : Region.lexTailB .any l.toArray n = true)
    (h : wpStill P l.toArray w.drew (fun a' => wpList P l.toArray Q (l.drop n) a' w.drew) (l.take n) a) : (Code.region id l.toArray true).wp P Q a w := wp_region_still_tail n hm hB h
abbrev wayO (tb : Nat) : Array Value := #[.pointer (some ⟨tb, 0, none⟩), .pointer none, .pointer none, .pointer none, .pointer none, .pointer none, .pointer none, .pointer none, .pointer none, .pointer none, .pointer none, .pointer none, .pointer none, .pointer none, .pointer none, .pointer none, .pointer none, .pointer none, .pointer none, .pointer none, .pointer none, .pointer none, .pointer none, .pointer none, .pointer none, .pointer none, .pointer none, .pointer none, .pointer none, .pointer none, .pointer none, .pointer none, .pointer none]
def slotA (tb : Nat) (N : Nat → Option Nat) (a j : Nat) : Addr := if j = 0 then ⟨tb, 0, none⟩ else ⟨(N (keyN a (j - 1))).getD 0, a / 2 ^ (32 - j) % 2, none⟩
theorem slotA_succ {tb : Nat} {N : Nat → Option Nat} {a j b d : Nat} (hb : N (keyN a j) = some b) (hd : a / 2 ^ (31 - j) % 2 = d) : slotA tb N a (j + 1) = ⟨b, d, none⟩ := by
  unfold slotA
  rw [if_neg (by omega), show j + 1 - 1 = j by omega, hb, show 32 - (j + 1) = 31 - j by omega, hd]; rfl
theorem slotA_at {tb : Nat} {N : Nat → Option Nat} {a : Nat} (ha : a < 4294967296) (j : Nat) (hj : j ≤ 32) (hp : ∀ i, i < j → ∃ b, N (keyN a i) = some b) : SlotAt tb N (keyN a j) (slotA tb N a j) := by
  cases j with
  | zero => exact .inl ⟨keyN_0 a ha, rfl⟩
  | succ j =>
    obtain ⟨b, hb⟩ := hp j (by omega)
    rw [slotA_succ hb rfl]
    exact slot_next (by omega) hb rfl
theorem path_some {tT tN : TypeId} {z : AV} {W : World} {tb : Nat} {N : Nat → Option Nat} {S : List (Nat × AV)} {most : Int} (h : TrieAt tT tN z W tb N S most) {a n : Nat} (hn : n ≤ 32) {b : Nat} (hb : N (keyN a n) = some b) : ∀ i, i ≤ n → ∃ c, N (keyN a i) = some c := by
  have aux : ∀ d, d ≤ n → ∃ c, N (keyN a (n - d)) = some c := by
    intro d
    induction d with
    | zero => intro _; exact ⟨b, hb⟩
    | succ d ih =>
      intro hd
      obtain ⟨c, hc⟩ := ih (by omega)
      have h1 := h.up (keyN a (n - d)) (by rw [show n - d = (n - (d + 1)) + 1 by omega]; exact keyN_two a _) (by rw [hc]; rfl)
      rw [show n - d = (n - (d + 1)) + 1 by omega, keyN_half a _ (by omega)] at h1
      exact Option.isSome_iff_exists.1 h1
  intro i hi
  obtain ⟨c, hc⟩ := aux (n - i) (by omega)
  rw [show n - (n - i) = i by omega] at hc
  exact ⟨c, hc⟩
def WayAt (W : World) (wb : Nat) (sl : Nat → Addr) (k : Nat) : Prop := ∃ cs : Array Value, W.heap[wb]? = some (.cells cs 223 (0, 0)) ∧ cs.size = 33 ∧ ∀ j, j ≤ k → cs[j]? = some (.pointer (some (sl j)))
theorem WayAt.cell {W : World} {wb : Nat} {sl : Nat → Addr} {k j : Nat} (h : WayAt W wb sl k) (hj : j ≤ k) : W.cell? ⟨wb, j, none⟩ = some (.pointer (some (sl j))) := by
  obtain ⟨cs, h1, _, h3⟩ := h
  rw [row_cell h1]; exact h3 j hj
theorem WayAt.any {W : World} {wb : Nat} {sl : Nat → Addr} {k j : Nat} (h : WayAt W wb sl k) (hj : j < 33) : ∃ v, W.cell? ⟨wb, j, none⟩ = some v := by
  obtain ⟨cs, h1, h2, _⟩ := h
  rw [row_cell h1]
  exact ⟨_, Array.getElem?_eq_getElem (by omega)⟩
theorem WayAt.free {W : World} {wb : Nat} {sl : Nat → Addr} {k : Nat} (h : WayAt W wb sl k) (j : Nat) : W.frozen? ⟨wb, j, none⟩ = false := by
  obtain ⟨cs, h1, _, _⟩ := h
  exact row_free h1 j
theorem WayAt.lt {W : World} {wb : Nat} {sl : Nat → Addr} {k : Nat} (h : WayAt W wb sl k) : wb < W.heap.size := by
  obtain ⟨cs, h1, _, _⟩ := h
  exact row_lt h1
theorem WayAt.step {W : World} {wb : Nat} {sl : Nat → Addr} {k : Nat} (h : WayAt W wb sl k) (hk : k + 1 < 33) : WayAt (W.setCell ⟨wb, k + 1, none⟩ (.pointer (some (sl (k + 1))))) wb sl (k + 1) := by
  obtain ⟨cs, h1, h2, h3⟩ := h
  refine ⟨_, set_same h1 _ _, by simp [h2], fun j hj => ?_⟩
  by_cases e : j = k + 1
  · subst e
    rw [Array.getElem?_setIfInBounds_self_of_lt (by omega)]
  · rw [Array.getElem?_setIfInBounds_ne (by omega)]
    exact h3 j (by omega)
theorem WayAt.of_block {W W' : World} {wb : Nat} {sl : Nat → Addr} {k : Nat} (h : WayAt W wb sl k) (hb : W'.heap[wb]? = W.heap[wb]?) : WayAt W' wb sl k := by
  obtain ⟨cs, h1, h2, h3⟩ := h
  exact ⟨cs, hb.trans h1, h2, h3⟩
theorem way_made {W : World} {tb : Nat} (sl : Nat → Addr) (h : sl 0 = ⟨tb, 0, none⟩) : WayAt (W.alloc (.cells (wayO tb) 223)) W.heap.size sl 0 := by
  refine ⟨_, heap_alloc_new W _, rfl, fun j hj => ?_⟩
  obtain rfl : j = 0 := by omega
  rw [h]; rfl
def TSub (N N' : Nat → Option Nat) : Prop := ∀ k b, N' k = some b → N k = some b
def DropPost (tb : Nat) (N : Nat → Option Nat) (S : List (Nat × AV)) (most : Int) (w : World) (κ : Nat) (e : Ending) (w' : World) : Prop :=
  ∃ N', e = .returned (.bool (getL S κ).isSome) ∧ TrI w' tb N' (delL S κ) most ∧ TSub N N' ∧ Kept (TOwn tb N) w w'
theorem delL_none {S : List (Nat × AV)} {κ : Nat} (h : getL S κ = none) : delL S κ = S := by
  unfold delL
  rw [List.filter_eq_self]
  intro p hp
  have := getL_none.1 h p hp
  simpa using this
theorem ret_isSome {S : List (Nat × AV)} {κ : Nat} {c : Bool} (h : (getL S κ).isSome = c) : Ending.returned (.bool c) = .returned (.bool (getL S κ).isSome) := by rw [h]
set_option maxHeartbeats 3200000 in
set_option maxRecDepth 100000 in
theorem trI_Drop {tb : Nat} {N : Nat → Option Nat} {S : List (Nat × AV)} {most : Int} (a n : Nat) (w : World) (h : TrI w tb N S most) (hl : S.length ≤ 4096) (ha : a < 4294967296) (hR : rightB a n = true) :
    Calls Tryz.prog 99 #[.pointer (some ⟨tb, 0, none⟩), .agg #[.int .u32 a, .int .i64 n]] w (DropPost tb N S most w (keyN a n)) := by
  have hn : n ≤ 32 := by have := (rightB_range hR).2; omega
  have H := Lib.hid h
  have FD := Lib.hid (fun W (h : TrI W tb N S most) => trI_find a n W h ha hR)
  clear h
  go_enter Tryz.func99, Tryz.ntmps99
  go_wp2_with fail
  obtain ⟨W0, hW0, c0, c1, hB⟩ := box2 w (.int .u32 a) (.int .i64 n) 53
  rw [← hW0]; clear hW0
  go_wp2_with fail
  refine (FD.out _ (H.out.below hB)).mono ?_
  rintro e w2 ⟨rfl, hb⟩
  have c0 := cell_below c0 hb
  have c1 := cell_below c1 hb
  have hB := below_on hB hb
  clear hb FD
  have T2 := Lib.hid (H.out.below hB)
  cases hx : N (keyN a n) with
  | none =>
    have hg := H.out.none_of hx
    have E := Lib.hid (ret_isSome (S := S) (κ := keyN a n) (c := false) (by rw [hg]; rfl))
    have T3 : Hid (TrI w2 tb N (delL S (keyN a n)) most) := Lib.hid (by rw [delL_none hg]; exact T2.out)
    clear hg hx
    go_wp2_with fail
    go_ret
    exact ⟨N, E.out, T3.out, fun _ _ h => h, (Kept.refl (TOwn tb N) w).grow hB⟩
  | some b =>
    obtain ⟨_, _, d2⟩ := T2.out.ncells hx
    rw [ptrN_some]
    cases hg : getL S (keyN a n) with
    | none =>
      have E := Lib.hid (ret_isSome (S := S) (κ := keyN a n) (c := false) (by rw [hg]; rfl))
      have T3 : Hid (TrI w2 tb N (delL S (keyN a n)) most) := Lib.hid (by rw [delL_none hg]; exact T2.out)
      rw [hg] at d2
      have d2 : w2.cell? ⟨b, 2, none⟩ = some (.bool false) := d2
      clear hg hx
      go_wp2_with fail
      go_ret
      exact ⟨N, E.out, T3.out, fun _ _ h => h, (Kept.refl (TOwn tb N) w).grow hB⟩
    | some x =>
      have E := Lib.hid (ret_isSome (S := S) (κ := keyN a n) (c := true) (by rw [hg]; rfl))
      have PS := Lib.hid (path_some T2.out hn hx)
      obtain ⟨_, _, t2⟩ := T2.out.cells
      have NB := Lib.hid (T2.out.node _ b hx)
      have n1 : ¬ b = tb := fun e => T2.out.top _ (e ▸ hx)
      have n2 : ¬ tb = b := fun e => n1 e.symm
      have hlen : 1 ≤ S.length := List.length_pos_of_mem (getL_mem hg)
      have DR := Lib.hid (fun W' r o => T2.out.dropAt (W' := W') hx (by rw [hg]; rfl) r o)
      rw [hg] at d2
      have d2 : w2.cell? ⟨b, 2, none⟩ = some (.bool true) := d2
      have cl : Hid (¬ TOwn tb N w.heap.size) := Lib.hid fun ho => by have := H.out.own_lt ho; omega
      have cz := size_lt c0
      have HX := Lib.hid hx
      have OW : Hid (TOwn tb N b) := Lib.hid (.inr ⟨_, hx⟩)
      have BL : Hid (b < w2.heap.size) := Lib.hid (T2.out.nlt hx)
      clear hg hx
      go_upto_region 5 with (fail)
      obtain ⟨W3, hW3, rz, hb3, hz3⟩ := box_z w2
      rw [← hW3]; clear hW3
      have R3 := Lib.hid rz
      have hzb : Hid (¬ w2.heap.size = b) := Lib.hid (by have := BL.out; omega)
      have hlt3 : Hid (w2.heap.size < W3.heap.size) := Lib.hid (by omega)
      obtain ⟨k0, hk0⟩ : ∃ k0, k0 = ptrN (N (2 * keyN a n)) := ⟨_, rfl⟩
      obtain ⟨k1, hk1⟩ : ∃ k1, k1 = ptrN (N (2 * keyN a n + 1)) := ⟨_, rfl⟩
      have NB3 : Hid (∃ h u, W3.heap[b]? = some (.cells (nodeR k0 k1 h u) 221 (0, 0))) := Lib.hid ⟨_, _, by rw [hk0, hk1]; exact (hb3.block _ BL.out).trans NB.out⟩
      have DR3 : Hid (∀ W' : World, W'.heap[b]? = some (.cells (nodeR k0 k1 (.bool false) av0) 221 (0, 0)) → Kept (fun g => g = b) W3 W' → TrI (W'.setCell ⟨tb, 2, none⟩ (.int .i64 ((S.length : Int) - 1))) tb N (delL S (keyN a n)) most) := Lib.hid fun W' r k => DR.out W' (by rw [r, hk0, hk1]) fun g hg hne => (k.block g (Nat.lt_of_lt_of_le hg hb3.size) hne).trans (hb3.block g hg)
      have K30 := Lib.hid (((Kept.refl (TOwn tb N) w).grow hB).grow hb3)
      have c0 := cell_below c0 hb3
      have c1 := cell_below c1 hb3
      have hTR := Lib.hid ((hb3.block _ T2.out.lt).trans T2.out.row)
      clear hk0 hk1 rz hb3 hz3 NB DR d2 T2 hB t2
      go_wp2_with fail
      refine wp_region_held_drew (S := fun w' => Kept (fun g => g = b) W3 w' ∧ ∃ h u, w'.heap[b]? = some (.cells (nodeR k0 k1 h u) 221 (0, 0))) (by kernel_rfl) ?_ (fun hHeld => ?_)
      · exact ⟨(Kept.refl _ _).drew, NB3.out⟩
      refine qy 0 ?_ ?_ ?_ hHeld ?_; rotate_left 1; (· rfl); (· intro w' hSw; (try clear hHeld); go_simp; try with_reducible rfl)
      try simp only [zp1, zp3, zp4, zp5]
      refine qy 1 ?_ ?_ ?_ hHeld ?_; rotate_left 1; (· rfl); (· intro w' hSw; (try clear hHeld); go_simp; try with_reducible rfl)
      try simp only [zp1, zp3, zp4, zp5]
      refine qy 2 ?_ ?_ ?_ hHeld ?_; rotate_left 1; (· rfl); (· intro w' hSw; refine exec_ld 42 (.tmp 6) ?_ w2.heap.size ?_ 42 av0.C (0, 0) _ ((hSw.1.block _ hlt3.out hzb.out).trans R3.out) Tryz.underlying42 rfl (by kernel_rfl) <;> rfl)
      try simp only [zp1, zp3, zp4, zp5]
      refine rg_call (i := 3) (atN rfl) (by kernel_rfl) ?_ (fun K hK => ?_); (· rfl); (try clear hb); go_simp; go_wp2_with fail; refine hK.out _ _ ?_ (fun hHeld => ?_); (· exact hHeld); clear hK K
      try simp only [zp1, zp3, zp4, zp5]
      refine qy 4 ?_ ?_ ?_ hHeld ?_; rotate_left 1; (· rfl); (· intro w' hSw; (try clear hHeld); go_simp; try with_reducible rfl)
      try simp only [zp1, zp3, zp4, zp5]
      refine rg_call (i := 5) (atN rfl) (by kernel_rfl) ?_ (fun K hK => ?_); (· rfl); (try clear hb); obtain ⟨hk, h1, u1, hrow⟩ := hHeld; have q := row_cell hrow 2; have qf := row_free hrow 2; go_simp; go_wp2_with fail; refine hK.out _ _ ?_ (fun hHeld => ?_); (· exact ⟨hk.put _ _ (.inl rfl), _, _, set_same hrow _ _⟩); clear hK K
      try simp only [Act.put]
      refine rg_call (i := 6) (atN rfl) (by kernel_rfl) ?_ (fun K hK => ?_); (· rfl); (try clear hb); go_simp; go_wp2_with fail; refine hK.out _ _ ?_ (fun hHeld => ?_); (· exact hHeld); clear hK K
      try simp only [zp1, zp3, zp4, zp5]
      refine qy 7 ?_ ?_ ?_ hHeld ?_; rotate_left 1; (· rfl); (· intro w' hSw; (try clear hHeld); go_simp; try with_reducible rfl)
      try simp only [zp1, zp3, zp4, zp5]
      refine rg_call (i := 8) (atN rfl) (by kernel_rfl) ?_ (fun K hK => ?_); (· rfl); (try clear hb); obtain ⟨hk, h1, u1, hrow⟩ := hHeld; refine wp_store_mid 42 (.tmp 29) (.tmp 25) rfl b 3 av0.C rfl rfl (node_there hrow) (by kernel_rfl) av0.one ?_; rw [setAV_eq]; refine hK.out _ _ ?_ (fun hHeld => ?_); (· exact ⟨hk.putAV _ (.inl rfl), _, _, setAV_row hrow _⟩); clear hK K
      try simp only [Act.put]
      refine wpAnyH_done (by kernel_rfl) ?_ _
      obtain ⟨W4, hW4⟩ : ∃ W4, W4 = setAV (W3.setCell ⟨b, 2, none⟩ (.bool false)).drew b av0 := ⟨_, rfl⟩
      have K4 : Hid (Kept (fun g => g = b) W3 W4) := Lib.hid (by rw [hW4]; exact hHeld.1)
      have R4 : Hid (W4.heap[b]? = some (.cells (nodeR k0 k1 (.bool false) av0) 221 (0, 0))) := Lib.hid (by obtain ⟨h0, u0, hr⟩ := NB3.out; rw [hW4]; exact setAV_row (h := .bool false) (u := u0) (node_flag hr _) _)
      rw [← hW4]
      clear hW4 hHeld
      have D4 := Lib.hid (DR3.out W4 R4.out K4.out)
      have t4 := (K4.out.block _ (row_lt hTR.out) n2).trans hTR.out
      have t2 : W4.cell? ⟨tb, 2, none⟩ = some (.int .i64 S.length) := row_cell t4 2
      have tf := row_free t4 2
      have K40 : Hid (Kept (TOwn tb N) w W4) := Lib.hid (K30.out.trans (K4.out.imp fun g e => by rw [e]; exact OW.out))
      have cb : Hid (¬ w.heap.size = b) := Lib.hid (fun e => cl.out (e ▸ OW.out))
      have c0 := K4.out.cell c0 cb.out
      have c1 := K4.out.cell c1 cb.out
      clear t4 R4 K4 DR3 K30 R3 NB3
      go_upto_region 7 with (fail)
      obtain ⟨W5, hW5⟩ : ∃ W5, W5 = W4.setCell ⟨tb, 2, none⟩ (.int .i64 ((S.length : Int) - 1)) := ⟨_, rfl⟩
      have T3 : Hid (TrI W5 tb N (delL S (keyN a n)) most) := Lib.hid (by rw [hW5]; exact D4.out)
      have K3 : Hid (Kept (TOwn tb N) w W5) := Lib.hid (by rw [hW5]; exact K40.out.put _ _ (.inl (.inl rfl)))
      have ct : ¬ w.heap.size = tb := fun e => cl.out (.inl e)
      have c0' : W5.cell? ⟨w.heap.size, 0, none⟩ = some (.int .u32 a) := by rw [hW5]; exact Kept.cell ((Kept.refl (fun g => g = tb) W4).put ⟨tb, 2, none⟩ _ (.inl rfl)) c0 ct
      have c1' : W5.cell? ⟨w.heap.size, 1, none⟩ = some (.int .i64 n) := by rw [hW5]; exact Kept.cell ((Kept.refl (fun g => g = tb) W4).put ⟨tb, 2, none⟩ _ (.inl rfl)) c1 ct
      rw [← hW5]
      clear hW5 D4 K40 t2 tf n1 n2 ct c0 c1
      have c0 := c0'
      have c1 := c1'
      clear c0' c1'
      go_upto_region 9 with (fail)
      obtain ⟨sl, hsl⟩ : ∃ sl, sl = slotA tb N a := ⟨_, rfl⟩
      have SA : Hid (∀ j, j ≤ n → SlotAt tb N (keyN a j) (sl j)) := Lib.hid fun j hj => by rw [hsl]; exact slotA_at ha j (by omega) (fun i hi => PS.out i (by omega))
      have SS : Hid (∀ j bk d, N (keyN a j) = some bk → a / 2 ^ (31 - j) % 2 = d → sl (j + 1) = ⟨bk, d, none⟩) := Lib.hid fun j bk d hb hd => by rw [hsl]; exact slotA_succ hb hd
      have S0 : sl 0 = ⟨tb, 0, none⟩ := by rw [hsl]; rfl
      clear hsl
      obtain ⟨W4, hW4⟩ : ∃ W4, W4 = W5.alloc (.cells (wayO tb) 223) := ⟨_, rfl⟩
      have hB4 : Below W5.heap.size W5 W4 := by rw [hW4]; exact (Below.refl _ _).alloc (Nat.le_refl _) _
      have Y4 : Hid (WayAt W4 W5.heap.size sl 0) := Lib.hid (by rw [hW4]; exact way_made sl S0)
      rw [← hW4]
      clear hW4 S0
      have T4 := Lib.hid (T3.out.below hB4)
      have K4 := Lib.hid (K3.out.grow hB4)
      have c0 := cell_below c0 hB4
      have c1 := cell_below c1 hB4
      have wo : Hid (¬ TOwn tb N W5.heap.size) := Lib.hid fun ho => by have := T3.out.own_lt ho; omega
      have wc : Hid (¬ w.heap.size = W5.heap.size) := Lib.hid (by have := K3.out.size; have := size_lt ‹W5.cell? ⟨w.heap.size, 0, none⟩ = _›; omega)
      have wc2 : Hid (W5.heap.size ≥ w.heap.size) := Lib.hid K3.out.size
      generalize W5.heap.size = wb at Y4 wo wc wc2 ⊢
      clear hB4 T3 K3 cz
      have BQ := Lib.hid (fun W (k : Nat) (hk : k < 32) => bit_q a k ha hk W)
      go_wp2_with fail
      go_loopw [43] (fun i wr => ∃ k : Nat, k ≤ n ∧ i = .int .i64 k ∧ Hid (WayAt wr wb sl k ∧ Kept (fun g => g = wb) W4 wr)) (fun i _ => n - (intOf i).toNat)
      case atStart => exact ⟨0, by omega, rfl, Lib.hid ⟨Y4.out, Kept.refl _ _⟩⟩
      case round =>
        obtain ⟨k, hk, rfl, C⟩ := hrel
        have c0' := C.out.2.cell c0 wc.out
        have c1' := C.out.2.cell c1 wc.out
        have T5 : Hid (TrI wr tb N (delL S (keyN a n)) most) := Lib.hid (T4.out.kept C.out.2 (fun g hg e => wo.out (e ▸ hg)))
        have K5 : Hid (Kept (TOwn tb N) w wr) := Lib.hid ⟨C.out.2.os.trans K4.out.os, C.out.2.tape.trans K4.out.tape, C.out.2.output.trans K4.out.output, Nat.le_trans K4.out.size C.out.2.size, fun g hg hf => (C.out.2.block g (Nat.lt_of_lt_of_le hg K4.out.size) (fun e => by have := wc2.out; omega)).trans (K4.out.block g hg hf)⟩
        by_cases hlt : k < n
        · obtain ⟨bk, hbk⟩ := PS.out k (by omega)
          obtain ⟨ac, _⟩ := (SA.out k (by omega)).cell T5.out
          rw [hbk] at ac
          replace ac : wr.cell? (sl k) = some (.pointer (some ⟨bk, 0, none⟩)) := ac
          have wk := C.out.1.cell (Nat.le_refl k)
          obtain ⟨ov, wk1⟩ := C.out.1.any (show k + 1 < 33 by omega)
          have wf := C.out.1.free (k + 1)
          have BQ' := Lib.hid (fun W => BQ.out W k (by omega))
          have Y6 : Hid (∀ d, a / 2 ^ (31 - k) % 2 = d → WayAt (wr.drew.setCell ⟨wb, k + 1, none⟩ (.pointer (some ⟨bk, d, none⟩))) wb sl (k + 1)) := Lib.hid fun d hd => by
            rw [← SS.out k bk d hbk hd]
            exact WayAt.step (C.out.1.of_block rfl) (by omega)
          have K6 : Hid (∀ v, Kept (fun g => g = wb) W4 (wr.drew.setCell ⟨wb, k + 1, none⟩ v)) := Lib.hid fun v => (C.out.2.drew).put _ _ (.inl rfl)
          clear hbk
          have z1 : IntKind.i64.wrap ((k : Int) + 1) = (k : Int) + 1 := IntWalk.i64_in _ (by omega)
          rcases Nat.mod_two_eq_zero_or_one (a / 2 ^ (31 - k)) with m | m
          · rw [m] at BQ'
            have M := Lib.hid m
            clear m
            go_wp2_with fail
            have i0 : (0 : Int) ≤ (k : Int) := by omega
            have i1 : (k : Int) < 33 := by omega
            have i2 : (0 : Int) ≤ (k : Int) + 1 := by omega
            have i3 : (k : Int) + 1 < 33 := by omega
            have i4 : ((k : Int) + 1).toNat = k + 1 := by omega
            refine reg_tail 15 (by kernel_rfl) (by kernel_rfl) ?_
            simp only [List.take_succ_cons, List.take_zero, List.drop_succ_cons, List.drop_zero]
            repeat (first | still_step | still_call (BQ'.out _))
            refine wpStill_nil ?_
            go_wp2_with fail
            clear z1 i4
            exact ⟨⟨k + 1, by omega, by go_num, Lib.hid ⟨Y6.out 0 M.out, K6.out _⟩⟩, by simp [intOf]; omega⟩
          · rw [m] at BQ'
            have M := Lib.hid m
            clear m
            go_wp2_with fail
            have i0 : (0 : Int) ≤ (k : Int) := by omega
            have i1 : (k : Int) < 33 := by omega
            have i2 : (0 : Int) ≤ (k : Int) + 1 := by omega
            have i3 : (k : Int) + 1 < 33 := by omega
            have i4 : ((k : Int) + 1).toNat = k + 1 := by omega
            refine reg_tail 15 (by kernel_rfl) (by kernel_rfl) ?_
            simp only [List.take_succ_cons, List.take_zero, List.drop_succ_cons, List.drop_zero]
            repeat (first | still_step | still_call (BQ'.out _))
            refine wpStill_nil ?_
            go_wp2_with fail
            clear z1 i4
            exact ⟨⟨k + 1, by omega, by go_num, Lib.hid ⟨Y6.out 1 M.out, K6.out _⟩⟩, by simp [intOf]; omega⟩
        · obtain rfl : k = n := by omega
          have Y5 := Lib.hid C.out.1
          clear C T4 K4 Y4 c0 BQ
          go_wp2_with fail
          clear c0' c1 c1'
          go_loopw [9] (fun i wq => ∃ (j : Int) (N' : Nat → Option Nat), -1 ≤ j ∧ j ≤ k ∧ i = .int .i64 j ∧ Hid (TrI wq tb N' (delL S (keyN a k)) most ∧ TSub N N' ∧ (∀ m : Nat, (m : Int) ≤ j → N' (keyN a m) = N (keyN a m)) ∧ WayAt wq wb sl k ∧ Kept (TOwn tb N) w wq)) (fun i _ => (intOf i + 1).toNat)
          case atStart => exact ⟨k, N, by omega, by omega, rfl, Lib.hid ⟨T5.out, fun _ _ h => h, fun _ _ => rfl, Y5.out, K5.out⟩⟩
          case round =>
            obtain ⟨j, N', hj1, hj2, rfl, C⟩ := hrel
            by_cases hj : j < 0
            · go_wp2_with fail
              go_ret
              exact ⟨N', E.out, C.out.1, C.out.2.1, C.out.2.2.2.2⟩
            · obtain ⟨m, rfl⟩ := Int.eq_ofNat_of_zero_le (show 0 ≤ j by omega)
              have hmk : m ≤ k := by omega
              obtain ⟨bm, hbm⟩ := PS.out m hmk
              have hbm' : N' (keyN a m) = some bm := by rw [C.out.2.2.1 m (Int.le_refl _)]; exact hbm
              have SL : Hid (SlotAt tb N' (keyN a m) (sl m)) := Lib.hid (by
                rcases SA.out m hmk with ⟨e, h⟩ | ⟨e, b', hb', h⟩
                · exact .inl ⟨e, h⟩
                · refine .inr ⟨e, b', ?_, h⟩
                  cases m with
                  | zero => rw [keyN_0 a ha] at e; omega
                  | succ q =>
                    rw [keyN_half a q (by omega)] at hb' ⊢
                    rw [C.out.2.2.1 q (by omega)]
                    exact hb')
              obtain ⟨ac, af⟩ := SL.out.cell C.out.1
              rw [hbm', ptrN_some] at ac
              have wm := C.out.2.2.2.1.cell hmk
              obtain ⟨d0, d1, d2⟩ := C.out.1.ncells hbm'
              have i0 : (0 : Int) ≤ (m : Int) := by omega
              have i1 : (m : Int) < 33 := by omega
              have HM := Lib.hid (And.intro hbm hbm')
              clear hbm hbm'
              cases hg : getL (delL S (keyN a k)) (keyN a m) with
              | some y =>
                rw [hg] at d2
                replace d2 : wr.cell? ⟨bm, 2, none⟩ = some (.bool true) := d2
                clear hg d0 d1
                go_wp2_with fail
                go_ret
                exact ⟨N', E.out, C.out.1, C.out.2.1, C.out.2.2.2.2⟩
              | none =>
                rw [hg] at d2
                replace d2 : wr.cell? ⟨bm, 2, none⟩ = some (.bool false) := d2
                have HG := Lib.hid hg
                clear hg
                cases h0 : N' (2 * keyN a m) with
                | some q0 =>
                  rw [h0, ptrN_some] at d0
                  clear h0 d1
                  go_wp2_with fail
                  go_ret
                  exact ⟨N', E.out, C.out.1, C.out.2.1, C.out.2.2.2.2⟩
                | none =>
                  rw [h0] at d0
                  replace d0 : wr.cell? ⟨bm, 0, none⟩ = some (.pointer none) := d0
                  have H0 := Lib.hid h0
                  clear h0
                  cases h1 : N' (2 * keyN a m + 1) with
                  | some q1 =>
                    rw [h1, ptrN_some] at d1
                    clear h1
                    go_wp2_with fail
                    go_ret
                    exact ⟨N', E.out, C.out.1, C.out.2.1, C.out.2.2.2.2⟩
                  | none =>
                    rw [h1] at d1
                    replace d1 : wr.cell? ⟨bm, 1, none⟩ = some (.pointer none) := d1
                    have TN : Hid (TrI (wr.setCell (sl m) (.pointer none)) tb (updN N' (keyN a m) none) (delL S (keyN a k)) most) := Lib.hid
                      (C.out.1.hang (o := none) (Below.refl _ _) SL.out (keyN_pos _ _) (keyN_deep a m ha (by omega)) (.inr rfl) HG.out H0.out h1 (fun nb e => by cases e))
                    have hown : TOwn tb N (sl m).block := by
                      rcases SA.out m hmk with ⟨e, h⟩ | ⟨e, b', hb', h⟩
                      · rw [h]; exact .inl rfl
                      · rw [h]; exact .inr ⟨_, hb'⟩
                    have YN : Hid (WayAt (wr.setCell (sl m) (.pointer none)) wb sl k) := Lib.hid (C.out.2.2.2.1.of_block (Deep.blk_setCell_other wr (sl m) _ wb (fun e => wo.out (e ▸ hown))))
                    have KN : Hid (Kept (TOwn tb N) w (wr.setCell (sl m) (.pointer none))) := Lib.hid (C.out.2.2.2.2.put _ _ (.inl hown))
                    have SN : Hid (TSub N (updN N' (keyN a m) none)) := Lib.hid (fun g b' hb' => by
                      by_cases e : g = keyN a m
                      · rw [e, updN_same] at hb'; cases hb'
                      · rw [updN_ne _ _ e] at hb'; exact C.out.2.1 g b' hb')
                    have UN : Hid (∀ g : Nat, (g : Int) ≤ (m : Int) - 1 → updN N' (keyN a m) none (keyN a g) = N (keyN a g)) := Lib.hid (fun g hg => by
                      rw [updN_ne _ _ (fun e => by have := keyN_len ha ha (show g ≤ 32 by omega) (show m ≤ 32 by omega) e; omega)]
                      exact C.out.2.2.1 g (by omega))
                    clear h1 hown
                    go_wp2_with fail
                    exact ⟨⟨(m : Int) - 1, _, by omega, by omega, rfl, Lib.hid ⟨TN.out, SN.out, UN.out, YN.out, KN.out⟩⟩, by simp [intOf]⟩
end Go.Proofs.YtkoidahgbbabiaaGreat
/-
  A TRIE OF ATTRIBUTES: what lies below a node, in order; walk, Below, All.
-/
namespace Go.Proofs.YtkoidahgbbabiaaGreat
open Go.RowKit Go.Lib
set_option linter.unusedVariables false
abbrev Itm := (Nat × Nat) × AV
def hereP (S : List (Nat × AV)) (A i : Nat) : List Itm := match getL S (keyN A i) with | some v => [((A, i), v)] | none => []
def goP (S : List (Nat × AV)) : Nat → Nat → Nat → List Itm
  | 0, A, i => hereP S A i
  | d + 1, A, i => hereP S A i ++ (goP S d A (i + 1) ++ goP S d (A + 2 ^ (31 - i)) (i + 1))
def runL (cont : List Itm → Bool) (L : List Itm) : List Itm → List Itm × Bool
  | [] => (L, true)
  | x :: xs => if cont (L ++ [x]) then runL cont (L ++ [x]) xs else (L ++ [x], false)
theorem runL_append (cont : List Itm → Bool) : ∀ (L xs ys : List Itm), runL cont L (xs ++ ys) = if (runL cont L xs).2 then runL cont (runL cont L xs).1 ys else runL cont L xs
  | L, [], ys => by simp [runL]
  | L, x :: xs, ys => by
    simp only [List.cons_append, runL]
    split
    · exact runL_append cont _ xs ys
    · simp
theorem runL_all (cont : List Itm → Bool) (h : ∀ L, cont L = true) : ∀ (L xs : List Itm), runL cont L xs = (L ++ xs, true)
  | L, [] => by simp [runL]
  | L, x :: xs => by simp [runL, h, runL_all cont h]
theorem key_left {A i : Nat} (hi : i < 32) (hr : A % 2 ^ (32 - i) = 0) : keyN A (i + 1) = 2 * keyN A i := by
  rw [keyN_succ A i hi]
  have : A / 2 ^ (31 - i) % 2 = 0 := by
    rw [show 32 - i = (31 - i) + 1 by omega, Nat.pow_succ, Nat.mod_mul] at hr
    have h1 := Nat.pow_pos (n := 31 - i) (show 0 < 2 by decide)
    rcases Nat.mod_two_eq_zero_or_one (A / 2 ^ (31 - i)) with m | m
    · exact m
    · rw [m] at hr; omega
  omega
theorem key_right {A i : Nat} (hi : i < 32) (hr : A % 2 ^ (32 - i) = 0) : keyN (A + 2 ^ (31 - i)) (i + 1) = 2 * keyN A i + 1 := by
  have hl := key_left hi hr
  unfold keyN at hl ⊢
  rw [show 32 - (i + 1) = 31 - i by omega] at hl ⊢
  rw [Nat.add_div_right _ (Nat.pow_pos (by decide))]
  omega
theorem right_mod {A i : Nat} : rightB (A : Int) (i : Int) = true ↔ A % 2 ^ (32 - i) = 0 ∧ i ≤ 32 := by
  rw [rightB_iff]
  constructor
  · rintro ⟨h1, h2, h3⟩
    rw [lowN_of _ h2 h3, show (32 - (i : Int)).toNat = 32 - i by omega] at h1
    refine ⟨?_, by omega⟩
    have : ((A % 2 ^ (32 - i) : Nat) : Int) = 0 := by rw [← h1]; simp
    omega
  · rintro ⟨h1, h2⟩
    rw [lowN_of _ (by omega) (by omega), show (32 - (i : Int)).toNat = 32 - i by omega]
    refine ⟨?_, by omega, by omega⟩
    have : ((A % 2 ^ (32 - i) : Nat) : Int) = 0 := by rw [h1]; rfl
    rw [← this]; simp
theorem mod_left {A i : Nat} (hi : i < 32) (hr : A % 2 ^ (32 - i) = 0) : A % 2 ^ (32 - (i + 1)) = 0 := by
  rw [show 32 - i = (32 - (i + 1)) + 1 by omega, Nat.pow_succ, Nat.mod_mul] at hr
  omega
theorem mod_right {A i : Nat} (hi : i < 32) (hr : A % 2 ^ (32 - i) = 0) : (A + 2 ^ (31 - i)) % 2 ^ (32 - (i + 1)) = 0 := by
  rw [show 31 - i = 32 - (i + 1) by omega, Nat.add_mod_right]
  exact mod_left hi hr
theorem lt_right {A i : Nat} (hi : i < 32) (ha : A < 4294967296) (hr : A % 2 ^ (32 - i) = 0) : A + 2 ^ (31 - i) < 4294967296 := by
  obtain ⟨q, rfl⟩ := Nat.dvd_of_mod_eq_zero hr
  have e : (4294967296 : Nat) = 2 ^ (32 - i) * 2 ^ i := by rw [← Nat.pow_add, show 32 - i + i = 32 by omega]
  have e2 : 2 ^ (32 - i) = 2 ^ (31 - i) * 2 := by rw [show 32 - i = (31 - i) + 1 by omega, Nat.pow_succ]
  have hq : q < 2 ^ i := by
    rw [e] at ha
    exact Nat.lt_of_mul_lt_mul_left ha
  have h3 : 2 ^ (32 - i) * (q + 1) ≤ 2 ^ (32 - i) * 2 ^ i := Nat.mul_le_mul_left _ hq
  rw [← e, Nat.mul_add] at h3
  have h1 := Nat.pow_pos (n := 31 - i) (show 0 < 2 by decide)
  omega
theorem goP_none {tT tN : TypeId} {z : AV} {W : World} {tb : Nat} {N : Nat → Option Nat} {S : List (Nat × AV)} {most : Int} (h : TrieAt tT tN z W tb N S most) : ∀ (d A i : Nat), i + d = 32 → A % 2 ^ (32 - i) = 0 → N (keyN A i) = none → goP S d A i = []
  | 0, A, i, _, _, hn => by unfold goP hereP; rw [h.none_of hn]
  | d + 1, A, i, hi, hr, hn => by
    obtain ⟨u1, u2⟩ := h.up_none hn (keyN_pos A i)
    unfold goP hereP
    rw [h.none_of hn, goP_none h d A (i + 1) (by omega) (mod_left (by omega) hr) (by rw [key_left (by omega) hr]; exact u1),
      goP_none h d (A + 2 ^ (31 - i)) (i + 1) (by omega) (mod_right (by omega) hr) (by rw [key_right (by omega) hr]; exact u2)]
    rfl
theorem hereP_no {S : List (Nat × AV)} {A i : Nat} (h : getL S (keyN A i) = none) : hereP S A i = [] := by unfold hereP; rw [h]
theorem hereP_yes {S : List (Nat × AV)} {A i : Nat} {v : AV} (h : getL S (keyN A i) = some v) : hereP S A i = [((A, i), v)] := by unfold hereP; rw [h]
structure EachOk (tb : Nat) (N : Nat → Option Nat) (S : List (Nat × AV)) (most : Int) (g : Nat) (lb : Array Value) (cont : List Itm → Bool) (Inv : (Nat → Prop) → List Itm → World → Prop) : Prop where
  ent : ∀ args w, (callFunc g args).run Tryz.prog w = .ok (.enter g args) w
  stab : ∀ P P' L W W', Inv P L W → Below W.heap.size W W' → (∀ b, P' b → P b ∨ (W.heap.size ≤ b ∧ b < W'.heap.size)) → Inv P' L W'
  tri : ∀ P L W, Inv P L W → TrI W tb N S most
  call : ∀ P L W (A i : Nat) v, Inv P L W → A < 4294967296 → rightB A i = true → getL S (keyN A i) = some v →
    Calls Tryz.prog g (#[.agg #[.int .u32 A, .int .i64 i], v.V] ++ lb) W fun e w' => e = .returned (.bool (cont (L ++ [((A, i), v)]))) ∧ Inv P (L ++ [((A, i), v)]) w' ∧ Kept (fun b => ¬ P b) W w'
def WalkPost (cont : List Itm → Bool) (Inv : (Nat → Prop) → List Itm → World → Prop) (P : Nat → Prop) (w : World) (r : List Itm × Bool) (e : Ending) (w' : World) : Prop :=
  e = .returned (.bool r.2) ∧ Inv P r.1 w' ∧ Kept (fun b => ¬ P b) w w'
theorem WalkPost.of {cont : List Itm → Bool} {Inv : (Nat → Prop) → List Itm → World → Prop} {P : Nat → Prop} {w w' : World} {r : List Itm × Bool} {L : List Itm} {c : Bool} (h : r = (L, c)) (hI : Inv P L w') (hK : Kept (fun b => ¬ P b) w w') : WalkPost cont Inv P w r (.returned (.bool c)) w' := by
  subst h; exact ⟨rfl, hI, hK⟩
theorem half_0 (A i : Nat) (ha : A < 4294967296) (hi : i < 32) (hr : rightB A i = true) (w : World) : Calls Tryz.prog 189 #[.agg #[.int .u32 A, .int .i64 i], .int .i64 0] w fun e w' => e = .returned (.tuple #[.agg #[.int .u32 A, .int .i64 (i + 1 : Nat)], .int .i64 0]) ∧ Below w.heap.size w w' := by
  have := ip_Half (A : Int) (i : Int) 0 w (by omega) (by omega) hr (by omega)
  rw [halfI_0] at this
  exact this
theorem half_1 (A i : Nat) (ha : A < 4294967296) (hi : i < 32) (hr : rightB A i = true) (w : World) : Calls Tryz.prog 189 #[.agg #[.int .u32 A, .int .i64 i], .int .i64 1] w fun e w' => e = .returned (.tuple #[.agg #[.int .u32 (A + 2 ^ (31 - i) : Nat), .int .i64 (i + 1 : Nat)], .int .i64 0]) ∧ Below w.heap.size w w' := by
  have := ip_Half (A : Int) (i : Int) 1 w (by omega) (by omega) hr (by omega)
  rw [halfI_1 _ _ _ (by decide)] at this
  have e : (A : Int) + sizeI ((i : Int) + 1) = ((A + 2 ^ (31 - i) : Nat) : Int) := by
    unfold sizeI
    rw [lowN_of _ (by omega) (by omega), show (32 - ((i : Int) + 1)).toNat = 31 - i by omega]
    simp
  rw [e] at this
  exact this
theorem half_32 (A i : Nat) (hi : i = 32) (t : Int) (ha : A < 4294967296) (w : World) : Calls Tryz.prog 189 #[.agg #[.int .u32 A, .int .i64 i], .int .i64 t] w fun e w' => e = .returned (.tuple #[.agg #[.int .u32 0, .int .i64 0], .int .i64 1]) ∧ Below w.heap.size w w' :=
  ip_Half_bad (A : Int) i t w (by omega) (by omega) (.inr (by subst hi; rfl))
section
variable {tb : Nat} {N : Nat → Option Nat} {S : List (Nat × AV)} {most : Int} {g : Nat} {lb : Array Value} {cont : List Itm → Bool} {Inv : (Nat → Prop) → List Itm → World → Prop}
def WSt (Inv : (Nat → Prop) → List Itm → World → Prop) (P : Nat → Prop) (w : World) (A i : Nat) (L : List Itm) (W : World) : Prop :=
  Inv (fun b => P b ∨ b = w.heap.size) L W ∧ W.cell? ⟨w.heap.size, 0, none⟩ = some (.int .u32 A) ∧ W.cell? ⟨w.heap.size, 1, none⟩ = some (.int .i64 i) ∧ Kept (fun b => ¬ P b) w W
theorem WSt.below (E : EachOk tb N S most g lb cont Inv) {P : Nat → Prop} {w W W' : World} {A i : Nat} {L : List Itm} (h : WSt Inv P w A i L W) (hb : Below W.heap.size W W') : WSt Inv P w A i L W' :=
  ⟨E.stab _ _ _ _ _ h.1 hb (fun _ h => .inl h), cell_below h.2.1 hb, cell_below h.2.2.1 hb, h.2.2.2.grow hb⟩
theorem WSt.step {P : Nat → Prop} {w W W' : World} {A i : Nat} {L L' : List Itm} (h : WSt Inv P w A i L W) (hI : Inv (fun b => P b ∨ b = w.heap.size) L' W') (hk : Kept (fun b => ¬ (P b ∨ b = w.heap.size)) W W') : WSt Inv P w A i L' W' :=
  ⟨hI, hk.cell h.2.1 (fun h => h (.inr rfl)), hk.cell h.2.2.1 (fun h => h (.inr rfl)), h.2.2.2.trans (hk.imp (fun k h hp => h (.inl hp)))⟩
theorem WSt.done (E : EachOk tb N S most g lb cont Inv) {P : Nat → Prop} {w W : World} {A i : Nat} {L : List Itm} {r : List Itm × Bool} {c : Bool} (h : WSt Inv P w A i L W) (hr : r = (L, c)) : WalkPost cont Inv P w r (.returned (.bool c)) W :=
  WalkPost.of hr (E.stab _ _ _ _ _ h.1 (Below.refl _ _) (fun _ h => .inl (.inl h))) h.2.2.2
end
end Go.Proofs.YtkoidahgbbabiaaGreat
/-
  A TRIE OF ATTRIBUTES: Below, All.
-/
namespace Go.Proofs.YtkoidahgbbabiaaGreat
open Go.RowKit Go.Lib
set_option linter.unusedVariables false
section
variable {tb : Nat} {N : Nat → Option Nat} {S : List (Nat × AV)} {most : Int} {g : Nat} {lb : Array Value} {cont : List Itm → Bool} {Inv : (Nat → Prop) → List Itm → World → Prop}
set_option maxRecDepth 100000 in
theorem neq_func (g : Nat) (lb : Array Value) (w : World) : (binOp .neq 171 (.func (.func g) #[] lb) .nilFunc).run Tryz.prog w = .ok (.bool true) w := by
  first | rfl | kernel_rfl | simp [binOp, go_sem]
def BelowPost (Inv : (Nat → Prop) → List Itm → World → Prop) (P : Nat → Prop) (w : World) (L : List Itm) (e : Ending) (w' : World) : Prop :=
  e = .returned (.tuple #[]) ∧ Inv P L w' ∧ Kept (fun b => ¬ P b) w w'
end
end Go.Proofs.YtkoidahgbbabiaaGreat
/-
  WHAT LIES BELOW A NODE, IN ORDER: plain laws.
-/
namespace Go.Proofs.YtkoidahgbbabiaaGreat
open Go.RowKit
theorem here_mem {S : List (Nat × AV)} {A i : Nat} {x : Itm} : x ∈ hereP S A i ↔ x.1 = (A, i) ∧ getL S (keyN A i) = some x.2 := by
  unfold hereP
  cases hg : getL S (keyN A i) with
  | none => simp
  | some v =>
    obtain ⟨y, u⟩ := x
    simp only [List.mem_singleton, Prod.mk.injEq, Option.some.injEq]
    constructor
    · rintro ⟨rfl, rfl⟩; exact ⟨rfl, rfl⟩
    · rintro ⟨rfl, rfl⟩; exact ⟨rfl, rfl⟩
theorem pow_half {i : Nat} (hi : i < 32) : 2 ^ (32 - i) = 2 ^ (31 - i) * 2 ∧ 2 ^ (32 - (i + 1)) = 2 ^ (31 - i) := by
  refine ⟨by rw [show 32 - i = (31 - i) + 1 by omega, Nat.pow_succ], by rw [show 32 - (i + 1) = 31 - i by omega]⟩
structure ItemIn (S : List (Nat × AV)) (A i : Nat) (x : Itm) : Prop where
  form : x.1.1 % 2 ^ (32 - x.1.2) = 0
  le32 : x.1.2 ≤ 32
  deep : i ≤ x.1.2
  lo : A ≤ x.1.1
  hi : x.1.1 < A + 2 ^ (32 - i)
  at_ : getL S (keyN x.1.1 x.1.2) = some x.2
theorem goP_in {S : List (Nat × AV)} : ∀ (d A i : Nat), i + d = 32 → A % 2 ^ (32 - i) = 0 → ∀ x ∈ goP S d A i, ItemIn S A i x
  | 0, A, i, hi, hr, x, hx => by
    obtain ⟨h1, h2⟩ := here_mem.1 hx
    obtain ⟨⟨B, j⟩, v⟩ := x
    cases h1
    exact ⟨hr, by simp only; omega, Nat.le_refl _, Nat.le_refl _, Nat.lt_add_of_pos_right (Nat.pow_pos (by decide)), h2⟩
  | d + 1, A, i, hi, hr, x, hx => by
    obtain ⟨q1, q2⟩ := pow_half (show i < 32 by omega)
    have q3 := Nat.pow_pos (n := 31 - i) (show 0 < 2 by decide)
    unfold goP at hx
    rw [List.mem_append, List.mem_append] at hx
    rcases hx with hx | hx | hx
    · obtain ⟨h1, h2⟩ := here_mem.1 hx
      obtain ⟨⟨B, j⟩, v⟩ := x
      cases h1
      exact ⟨hr, by simp only; omega, Nat.le_refl _, Nat.le_refl _, Nat.lt_add_of_pos_right (Nat.pow_pos (by decide)), h2⟩
    · obtain ⟨a1, a2, a3, a4, a5, a6⟩ := goP_in d A (i + 1) (by omega) (mod_left (by omega) hr) x hx
      exact ⟨a1, a2, by omega, a4, by rw [q2] at a5; omega, a6⟩
    · obtain ⟨a1, a2, a3, a4, a5, a6⟩ := goP_in d (A + 2 ^ (31 - i)) (i + 1) (by omega) (mod_right (by omega) hr) x hx
      exact ⟨a1, a2, by omega, by omega, by rw [q2] at a5; omega, a6⟩
theorem same_block {A B M : Nat} (ha : A % M = 0) (hb : B % M = 0) (h1 : A ≤ B) (h2 : B < A + M) : B = A := by
  obtain ⟨p, rfl⟩ := Nat.dvd_of_mod_eq_zero ha
  obtain ⟨q, rfl⟩ := Nat.dvd_of_mod_eq_zero hb
  have hM : 0 < M := by
    rcases Nat.eq_zero_or_pos M with h | h
    · subst h; simp at h2
    · exact h
  have : q < p + 1 := by
    have : M * q < M * (p + 1) := by rw [Nat.mul_add, Nat.mul_one]; exact h2
    exact Nat.lt_of_mul_lt_mul_left this
  have : p ≤ q := Nat.le_of_mul_le_mul_left h1 hM
  have e : q = p := by omega
  rw [e]
theorem goP_mem {S : List (Nat × AV)} {B j : Nat} {v : AV} (hb : B % 2 ^ (32 - j) = 0) (hj : j ≤ 32) (hg : getL S (keyN B j) = some v) : ∀ (d A i : Nat), i + d = 32 → A % 2 ^ (32 - i) = 0 → i ≤ j → A ≤ B → B < A + 2 ^ (32 - i) → ((B, j), v) ∈ goP S d A i
  | 0, A, i, hi, hr, h1, h2, h3 => by
    obtain rfl : j = i := by omega
    obtain rfl := same_block hr hb h2 h3
    exact here_mem.2 ⟨rfl, hg⟩
  | d + 1, A, i, hi, hr, h1, h2, h3 => by
    obtain ⟨q1, q2⟩ := pow_half (show i < 32 by omega)
    unfold goP
    rw [List.mem_append, List.mem_append]
    by_cases e : j = i
    · subst e
      obtain rfl := same_block hr hb h2 h3
      exact .inl (here_mem.2 ⟨rfl, hg⟩)
    · by_cases hh : B < A + 2 ^ (31 - i)
      · exact .inr (.inl (goP_mem hb hj hg d A (i + 1) (by omega) (mod_left (by omega) hr) (by omega) h2 (by rw [q2]; exact hh)))
      · exact .inr (.inr (goP_mem hb hj hg d (A + 2 ^ (31 - i)) (i + 1) (by omega) (mod_right (by omega) hr) (by omega) (by omega) (by rw [q2]; omega)))
def itLt (x y : Itm) : Prop := x.1.1 < y.1.1 ∨ (x.1.1 = y.1.1 ∧ x.1.2 < y.1.2)
theorem goP_sorted {S : List (Nat × AV)} : ∀ (d A i : Nat), i + d = 32 → A % 2 ^ (32 - i) = 0 → (goP S d A i).Pairwise itLt
  | 0, A, i, hi, hr => by
    unfold goP hereP
    split <;> simp
  | d + 1, A, i, hi, hr => by
    obtain ⟨q1, q2⟩ := pow_half (show i < 32 by omega)
    have q3 := Nat.pow_pos (n := 31 - i) (show 0 < 2 by decide)
    have hl := mod_left (show i < 32 by omega) hr
    have hrr := mod_right (show i < 32 by omega) hr
    unfold goP
    rw [List.pairwise_append, List.pairwise_append]
    refine ⟨?_, ⟨goP_sorted d A (i + 1) (by omega) hl, goP_sorted d _ (i + 1) (by omega) hrr, ?_⟩, ?_⟩
    · unfold hereP; split <;> simp
    · intro x hx y hy
      have hx := goP_in d A (i + 1) (by omega) hl x hx
      have hy := goP_in d _ (i + 1) (by omega) hrr y hy
      have := hx.hi
      rw [q2] at this
      have := hy.lo
      exact .inl (by omega)
    · intro x hx y hy
      obtain ⟨h1, h2⟩ := here_mem.1 hx
      rcases List.mem_append.1 hy with hy | hy
      · have hy := goP_in d A (i + 1) (by omega) hl y hy
        have a1 := hy.lo
        have a2 := hy.deep
        unfold itLt
        rw [h1]
        simp only
        omega
      · have hy := goP_in d _ (i + 1) (by omega) hrr y hy
        have a1 := hy.lo
        unfold itLt
        rw [h1]
        simp only
        omega
theorem key_block {A B i : Nat} (ha : A % 2 ^ (32 - i) = 0) (hb : B % 2 ^ (32 - i) = 0) (h : A / 2 ^ (32 - i) = B / 2 ^ (32 - i)) : A = B := by
  have h1 := Nat.div_add_mod A (2 ^ (32 - i))
  have h2 := Nat.div_add_mod B (2 ^ (32 - i))
  rw [ha] at h1
  rw [hb, ← h] at h2
  omega
end Go.Proofs.YtkoidahgbbabiaaGreat
/-
  SETS OF PREFIXES, the plain side: the strict order of prefixes; rows in strict order; neighbours that are one struck out.
-/
namespace Go.Proofs.YtkoidahgbbabiaaGreat
open Go.RowKit
abbrev Pf := Int × Int
def pcmp (p q : Pf) : Int := prefCmp p.1 p.2 q.1 q.2
def plt (p q : Pf) : Prop := p.1 < q.1 ∨ (p.1 = q.1 ∧ p.2 < q.2)
instance (p q : Pf) : Decidable (plt p q) := by unfold plt; infer_instance
theorem pcmp_val (p q : Pf) : pcmp p q = if plt p q then -1 else if plt q p then 1 else 0 := by
  unfold pcmp prefCmp orI cmpI plt
  repeat' split
  all_goals first | rfl | omega
theorem pcmp_lt {p q : Pf} : pcmp p q < 0 ↔ plt p q := by
  rw [pcmp_val]
  split
  · rename_i h
    simp [h]
  · rename_i h
    split <;> simp [h]
theorem plt_irrefl (p : Pf) : ¬ plt p p := by unfold plt; omega
theorem plt_trans {p q r : Pf} (h : plt p q) (k : plt q r) : plt p r := by unfold plt at *; omega
theorem plt_asymm {p q : Pf} (h : plt p q) : ¬ plt q p := fun k => plt_irrefl p (plt_trans h k)
theorem plt_total {p q : Pf} (h : ¬ plt p q) (k : ¬ plt q p) : p = q := by
  unfold plt at *
  obtain ⟨a, b⟩ := p
  obtain ⟨c, d⟩ := q
  simp only [Prod.mk.injEq] at *
  omega
theorem pcmp_eq {p q : Pf} : pcmp p q = 0 ↔ p = q := by
  rw [pcmp_val]
  split
  · rename_i h
    exact ⟨fun k => absurd k (by decide), fun k => by subst k; exact absurd h (plt_irrefl p)⟩
  · rename_i h
    split
    · rename_i h2
      exact ⟨fun k => absurd k (by decide), fun k => by subst k; exact absurd h2 (plt_irrefl p)⟩
    · rename_i h2
      exact ⟨fun _ => plt_total h h2, fun _ => rfl⟩
abbrev Srt (l : List Pf) : Prop := l.Pairwise plt
theorem srt_ext : ∀ {l m : List Pf}, Srt l → Srt m → (∀ p, p ∈ l ↔ p ∈ m) → l = m
  | [], [], _, _, _ => rfl
  | [], q :: m, _, _, h => by have := (h q).2 (List.mem_cons_self ..); simp at this
  | p :: l, [], _, _, h => by have := (h p).1 (List.mem_cons_self ..); simp at this
  | p :: l, q :: m, hl, hm, h => by
    rw [Srt, List.pairwise_cons] at hl hm
    have e : p = q := by
      have h1 := (h p).1 (List.mem_cons_self ..)
      have h2 := (h q).2 (List.mem_cons_self ..)
      rcases List.mem_cons.1 h1 with h1 | h1
      · exact h1
      · rcases List.mem_cons.1 h2 with h2 | h2
        · exact h2.symm
        · exact absurd (hl.1 q h2) (plt_asymm (hm.1 p h1))
    subst e
    have := srt_ext hl.2 hm.2 fun x => by
      have hx := h x
      rw [List.mem_cons, List.mem_cons] at hx
      constructor
      · intro k
        rcases hx.1 (.inr k) with e | e
        · subst e; exact absurd (hl.1 _ k) (plt_irrefl _)
        · exact e
      · intro k
        rcases hx.2 (.inr k) with e | e
        · subst e; exact absurd (hm.1 _ k) (plt_irrefl _)
        · exact e
    rw [this]
theorem srt_nodup {l : List Pf} (h : Srt l) : l.Nodup := h.imp fun k e => by subst e; exact plt_irrefl _ k
theorem srt_lt {l : List Pf} (h : Srt l) {i j : Nat} {p q : Pf} (hi : l[i]? = some p) (hj : l[j]? = some q) (hij : i < j) : plt p q := by
  obtain ⟨h1, rfl⟩ := List.getElem?_eq_some_iff.1 hi
  obtain ⟨h2, rfl⟩ := List.getElem?_eq_some_iff.1 hj
  exact List.pairwise_iff_getElem.1 h i j h1 h2 hij
def cstep (acc : List Pf) (x : Pf) : List Pf := if acc.getLast? = some x then acc else acc ++ [x]
def comp (l : List Pf) : List Pf := l.foldl cstep []
theorem comp_snoc (l : List Pf) (x : Pf) : comp (l ++ [x]) = cstep (comp l) x := by unfold comp; rw [List.foldl_append]; rfl
theorem cstep_last (acc : List Pf) (x : Pf) : (cstep acc x).getLast? = some x := by
  unfold cstep
  split
  · assumption
  · simp
theorem comp_last_from : ∀ (l acc : List Pf), (l.foldl cstep acc).getLast? = l.getLast?.or acc.getLast?
  | [], acc => by simp
  | x :: l, acc => by
    rw [List.foldl_cons, comp_last_from l, cstep_last, List.getLast?_cons]
    cases l.getLast? <;> simp
theorem comp_last (l : List Pf) : (comp l).getLast? = l.getLast? := by
  unfold comp
  rw [comp_last_from]; simp
theorem comp_next {l : List Pf} {k : Nat} {x y : Pf} (hx : l[k]? = some x) (hy : l[k + 1]? = some y) : comp (l.take (k + 2)) = if x = y then comp (l.take (k + 1)) else comp (l.take (k + 1)) ++ [y] := by
  have h1 : l.take (k + 2) = l.take (k + 1) ++ [y] := by rw [List.take_add_one, hy]; rfl
  have h2 : (l.take (k + 1)).getLast? = some x := by rw [List.take_add_one, hx]; simp
  rw [h1, comp_snoc]
  unfold cstep
  rw [comp_last, h2]
  simp only [Option.some.injEq]
theorem comp_one {l : List Pf} {x : Pf} (hx : l[0]? = some x) : comp (l.take 1) = [x] := by
  rw [List.take_add_one, hx]; rfl
theorem comp_len_from : ∀ (l acc : List Pf), acc.length ≤ (l.foldl cstep acc).length ∧ (l.foldl cstep acc).length ≤ acc.length + l.length
  | [], acc => by simp
  | x :: l, acc => by
    have h := comp_len_from l (cstep acc x)
    have h2 : acc.length ≤ (cstep acc x).length ∧ (cstep acc x).length ≤ acc.length + 1 := by unfold cstep; split <;> simp
    rw [List.foldl_cons, List.length_cons]; omega
theorem comp_len (l : List Pf) : (comp l).length ≤ l.length := by have := (comp_len_from l []).2; unfold comp; simpa using this
theorem comp_whole {l : List Pf} (k : Nat) (h : ∀ (i : Nat) (x y : Pf), i + 1 < k → l[i]? = some x → l[i + 1]? = some y → x ≠ y) (hk : k ≤ l.length) : comp (l.take k) = l.take k := by
  induction k with
  | zero => rfl
  | succ k ih =>
    cases k with
    | zero =>
      obtain ⟨x, hx⟩ : ∃ x, l[0]? = some x := ⟨_, List.getElem?_eq_getElem (by omega)⟩
      rw [comp_one hx, List.take_add_one, hx]; rfl
    | succ k =>
      obtain ⟨x, hx⟩ : ∃ x, l[k]? = some x := ⟨_, List.getElem?_eq_getElem (by omega)⟩
      obtain ⟨y, hy⟩ : ∃ y, l[k + 1]? = some y := ⟨_, List.getElem?_eq_getElem (by omega)⟩
      rw [comp_next hx hy, if_neg (h k x y (by omega) hx hy), ih (fun i x y hi => h i x y (by omega)) (by omega), List.take_add_one (i := k + 1), hy]; rfl
theorem comp_sub_from : ∀ (l acc : List Pf) (p : Pf), p ∈ l.foldl cstep acc → p ∈ acc ∨ p ∈ l
  | [], acc, p, h => .inl h
  | x :: l, acc, p, h => by
    rcases comp_sub_from l (cstep acc x) p h with h | h
    · unfold cstep at h
      split at h
      · exact .inl h
      · rcases List.mem_append.1 h with h | h
        · exact .inl h
        · exact .inr (by rw [List.mem_singleton.1 h]; exact List.mem_cons_self ..)
    · exact .inr (List.mem_cons_of_mem _ h)
theorem comp_sub {l : List Pf} {p : Pf} (h : p ∈ comp l) : p ∈ l := (comp_sub_from l [] p h).resolve_left (by simp)
theorem comp_srt_from : ∀ (l acc : List Pf), Srt acc → (∀ a ∈ acc, ∀ x ∈ l, ¬ plt x a) → l.Pairwise (fun x y => ¬ plt y x) → Srt (l.foldl cstep acc) ∧ ∀ p, p ∈ l.foldl cstep acc ↔ p ∈ acc ∨ p ∈ l
  | [], acc, h, _, _ => ⟨h, fun p => by simp⟩
  | x :: l, acc, h, ha, hl => by
    rw [List.pairwise_cons] at hl
    rw [List.foldl_cons]
    by_cases e : acc.getLast? = some x
    · rw [show cstep acc x = acc by unfold cstep; rw [if_pos e]]
      have ih := comp_srt_from l acc h (fun a h1 y h2 => ha a h1 y (List.mem_cons_of_mem _ h2)) hl.2
      refine ⟨ih.1, fun p => ?_⟩
      rw [ih.2, List.mem_cons]
      constructor
      · rintro (k | k)
        · exact .inl k
        · exact .inr (.inr k)
      · rintro (k | rfl | k)
        · exact .inl k
        · exact .inl (List.mem_of_getLast? e)
        · exact .inr k
    · rw [show cstep acc x = acc ++ [x] by unfold cstep; rw [if_neg e]]
      have hs : Srt (acc ++ [x]) := by
        rw [Srt, List.pairwise_append]
        refine ⟨h, List.pairwise_singleton _ _, fun a h1 y h2 => ?_⟩
        obtain rfl := List.mem_singleton.1 h2
        have h3 := ha a h1 y (List.mem_cons_self ..)
        by_cases h4 : plt a y
        · exact h4
        · exfalso
          obtain rfl := plt_total h4 h3
          obtain ⟨i, hi⟩ := List.mem_iff_getElem?.1 h1
          have hlast : acc[acc.length - 1]? = acc.getLast? := (List.getLast?_eq_getElem? ..).symm
          obtain ⟨hil, -⟩ := List.getElem?_eq_some_iff.1 hi
          obtain ⟨z, hz⟩ : ∃ z, acc[acc.length - 1]? = some z := ⟨_, List.getElem?_eq_getElem (by omega)⟩
          by_cases hi2 : i = acc.length - 1
          · subst hi2
            rw [← hlast, hi] at e
            exact e rfl
          · have h5 := srt_lt h hi hz (by omega)
            exact ha z (List.mem_of_getElem? hz) a (List.mem_cons_self ..) h5
      have ih := comp_srt_from l (acc ++ [x]) hs (fun a h1 y h2 => by
        rcases List.mem_append.1 h1 with h1 | h1
        · exact ha a h1 y (List.mem_cons_of_mem _ h2)
        · obtain rfl := List.mem_singleton.1 h1
          exact hl.1 y h2) hl.2
      refine ⟨ih.1, fun p => ?_⟩
      rw [ih.2, List.mem_append, List.mem_singleton, List.mem_cons, or_assoc]
theorem comp_srt {l : List Pf} (hl : l.Pairwise (fun x y => ¬ plt y x)) : Srt (comp l) ∧ ∀ p, p ∈ comp l ↔ p ∈ l := by
  have h := comp_srt_from l [] List.Pairwise.nil (fun a h => by simp at h) hl
  exact ⟨h.1, fun p => by have := h.2 p; simpa [comp] using this⟩
end Go.Proofs.YtkoidahgbbabiaaGreat
/-
  SETS OF PREFIXES: prefixes in memory; ip's Cmp with the draws and blocks that it leaves.
-/
namespace Go.Proofs.YtkoidahgbbabiaaGreat
open Go.RowKit
def encP (p : Pf) : List Value := [.int .u32 p.1, .int .i64 p.2]
theorem encP_len (p : Pf) : (encP p).length = 2 := rfl
theorem encP_one (p : Pf) : ∀ u ∈ encP p, u.oneCell' = true := by
  intro u hu
  unfold encP at hu
  rcases List.mem_cons.1 hu with rfl | hu
  · rfl
  · rcases List.mem_cons.1 hu with rfl | hu
    · rfl
    · simp at hu
def OkP (p : Pf) : Prop := 0 ≤ p.1 ∧ p.1 < 4294967296
def PfC (p : Pf) (cs : List Value) : Prop := cs = encP p ∧ OkP p
abbrev PsAt (w : World) (v : Value) (xs : List Pf) : Prop := SlAt w 2 PfC v xs
theorem PsAt.below {w w' : World} {v : Value} {xs : List Pf} (h : PsAt w v xs) (hb : Below w.heap.size w w') : PsAt w' v xs := SlAt.below h hb fun _ _ h => h
theorem ps_ok {w : World} {v : Value} {xs : List Pf} (h : PsAt w v xs) : ∀ p ∈ xs, OkP p := by
  intro p hp
  obtain ⟨sa, cap, -, -, -, h4⟩ := h
  obtain ⟨i, hi⟩ := List.mem_iff_getElem?.1 hp
  obtain ⟨b, off, -, h6⟩ := h4 (by have := (List.getElem?_eq_some_iff.1 hi).1; omega)
  obtain ⟨cs, -, ⟨-, h⟩, -⟩ := h6 i p hi
  exact h
theorem ps_two {w : World} {xs : List Pf} {b off : Nat} (h : ∀ (i : Nat) (x : Pf), xs[i]? = some x → ∃ cs : List Value, cs.length = 2 ∧ PfC x cs ∧ ∀ (j : Nat) (c : Value), cs[j]? = some c → w.cell? ⟨b, off + i * 2 + j, none⟩ = some c)
    {i : Nat} {x : Pf} (hx : xs[i]? = some x) : w.cell? ⟨b, off + i * 2, none⟩ = some (.int .u32 x.1) ∧ w.cell? ⟨b, off + i * 2 + 1, none⟩ = some (.int .i64 x.2) := by
  obtain ⟨cs, -, ⟨rfl, -⟩, hc⟩ := h i x hx
  exact ⟨hc 0 _ rfl, hc 1 _ rfl⟩
structure Dr (w w' : World) : Prop where
  below : Below w.heap.size w w'
  drawn : w.drawn ≤ w'.drawn
theorem Dr.refl (w : World) : Dr w w := ⟨Below.refl _ _, Nat.le_refl _⟩
theorem Dr.on {w w1 w2 : World} (h : Dr w w1) (k : Dr w1 w2) : Dr w w2 := ⟨below_on h.below k.below, Nat.le_trans h.drawn k.drawn⟩
theorem Dr.drew (w : World) : Dr w w.drew := ⟨(Below.refl _ _).drew, Nat.le_succ _⟩
theorem Dr.alloc {w w1 : World} (h : Dr w w1) (o : Obj) : Dr w (w1.alloc o) := ⟨h.below.alloc h.below.size o, h.drawn⟩
theorem Dr.grow {w w' : World} (h : Dr w w') : ∃ q os, w' = Sort.grow (w.drewN q) os := by
  obtain ⟨⟨h1, h2, h3, h4, h5⟩, h6⟩ := h
  refine ⟨w'.drawn - w.drawn, w'.heap.extract w.heap.size w'.heap.size, ?_⟩
  have e : w'.heap = w.heap ++ w'.heap.extract w.heap.size w'.heap.size := by
    apply Array.ext_getElem?
    intro i
    by_cases hi : i < w.heap.size
    · rw [h5 i hi, Array.getElem?_append_left hi]
    · rw [Array.getElem?_append_right (by omega), Array.getElem?_extract]
      split
      · congr 1; omega
      · rw [Array.getElem?_eq_none (by omega)]
  cases w'
  cases w
  simp only at h1 h2 h3 h4 h6 e
  subst h1; subst h2; subst h3
  unfold Sort.grow
  rw [World.drewN]
  simp only [World.mk.injEq, true_and, and_true]
  exact ⟨e, by omega⟩
theorem calls_dr {P : Program} {f : FuncId} {args : Array Value} {w : World} {E : Ending → Prop} (h : Calls P f args w fun e w' => E e ∧ w = w') : Calls P f args w fun e w' => E e ∧ Dr w w' := h.mono fun _ _ ⟨a, b⟩ => ⟨a, b ▸ Dr.refl _⟩
set_option maxHeartbeats 400000 in
theorem ip_CmpD (a n b m : Int) (w : World) :
    Calls Tryz.prog 22 #[.agg #[.int .u32 a, .int .i64 n], .agg #[.int .u32 b, .int .i64 m]] w fun e w' => e = .returned (.int .i64 (prefCmp a n b m)) ∧ Dr w w' := by
  go_enter Tryz.func22, Tryz.ntmps22
  go_wp2_with fail
  obtain ⟨W0, hW0, c0, c1, d0, d1, -⟩ := box22 w (.int .u32 a) (.int .i64 n) (.int .u32 b) (.int .i64 m) 53 53
  have hB : Dr w W0 := by rw [hW0]; exact ((Dr.refl _).alloc _).alloc _
  rw [← hW0]; clear hW0
  refine wp_region_held_drew (S := fun w' => Dr W0 w') (by kernel_rfl) ?_ (fun hHeld => ?_)
  · exact Dr.drew _
  refine rg_yes (i := 0) (v := ?_) at0 (by kernel_rfl) (by kernel_rfl) (by kernel_rfl) (fun _ _ _ h => h) ?_ ?_ hHeld ?_; rotate_left 1; (· rfl); (· intro w' hSw; (try dsimp only at hSw); (try clear hHeld); go_simp; try with_reducible rfl)
  try simp only [zp1, zp3, zp4, zp5]
  refine rg_yes (i := 1) (v := ?_) (atS at0) (by kernel_rfl) (by kernel_rfl) (by kernel_rfl) (fun _ _ _ h => h) ?_ ?_ hHeld ?_; rotate_left 1; (· rfl); (· intro w' hSw; (try dsimp only at hSw); have c0 := cell_below c0 hSw.below; have c1 := cell_below c1 hSw.below; have d0 := cell_below d0 hSw.below; have d1 := cell_below d1 hSw.below; (try clear hHeld); go_simp; try with_reducible rfl)
  try simp only [zp1, zp3, zp4, zp5]
  refine rg_yes (i := 2) (v := ?_) (atS (atS at0)) (by kernel_rfl) (by kernel_rfl) (by kernel_rfl) (fun _ _ _ h => h) ?_ ?_ hHeld ?_; rotate_left 1; (· rfl); (· intro w' hSw; (try dsimp only at hSw); (try clear hHeld); go_simp; try with_reducible rfl)
  try simp only [zp1, zp3, zp4, zp5]
  refine rg_yes (i := 3) (v := ?_) (atS (atS (atS at0))) (by kernel_rfl) (by kernel_rfl) (by kernel_rfl) (fun _ _ _ h => h) ?_ ?_ hHeld ?_; rotate_left 1; (· rfl); (· intro w' hSw; (try dsimp only at hSw); have c0 := cell_below c0 hSw.below; have c1 := cell_below c1 hSw.below; have d0 := cell_below d0 hSw.below; have d1 := cell_below d1 hSw.below; (try clear hHeld); go_simp; try with_reducible rfl)
  try simp only [zp1, zp3, zp4, zp5]
  refine rg_yes (i := 5) (v := ?_) (atS (atS (atS (atS (atS at0))))) (by kernel_rfl) (by kernel_rfl) (by kernel_rfl) (fun _ _ _ h => h) ?_ ?_ hHeld ?_; rotate_left 1; (· rfl); (· intro w' hSw; (try dsimp only at hSw); (try clear hHeld); go_simp; try with_reducible rfl)
  try simp only [zp1, zp3, zp4, zp5]
  refine rg_yes (i := 6) (v := ?_) (atS (atS (atS (atS (atS (atS at0)))))) (by kernel_rfl) (by kernel_rfl) (by kernel_rfl) (fun _ _ _ h => h) ?_ ?_ hHeld ?_; rotate_left 1; (· rfl); (· intro w' hSw; (try dsimp only at hSw); have c0 := cell_below c0 hSw.below; have c1 := cell_below c1 hSw.below; have d0 := cell_below d0 hSw.below; have d1 := cell_below d1 hSw.below; (try clear hHeld); go_simp; try with_reducible rfl)
  try simp only [zp1, zp3, zp4, zp5]
  refine rg_yes (i := 7) (v := ?_) (atS (atS (atS (atS (atS (atS (atS at0))))))) (by kernel_rfl) (by kernel_rfl) (by kernel_rfl) (fun _ _ _ h => h) ?_ ?_ hHeld ?_; rotate_left 1; (· rfl); (· intro w' hSw; (try dsimp only at hSw); (try clear hHeld); go_simp; try with_reducible rfl)
  try simp only [zp1, zp3, zp4, zp5]
  refine rg_yes (i := 8) (v := ?_) (atS (atS (atS (atS (atS (atS (atS (atS at0)))))))) (by kernel_rfl) (by kernel_rfl) (by kernel_rfl) (fun _ _ _ h => h) ?_ ?_ hHeld ?_; rotate_left 1; (· rfl); (· intro w' hSw; (try dsimp only at hSw); have c0 := cell_below c0 hSw.below; have c1 := cell_below c1 hSw.below; have d0 := cell_below d0 hSw.below; have d1 := cell_below d1 hSw.below; (try clear hHeld); go_simp; try with_reducible rfl)
  try simp only [zp1, zp3, zp4, zp5]
  refine rg_call (i := 4) (atS (atS (atS (atS at0)))) (by kernel_rfl) ?_ (fun K hK => ?_); (· rfl); (try clear hb); go_simp; (refine (calls_dr (cmp_CompareAddr a b _)).mono ?_; rintro e w1 ⟨rfl, hb⟩); go_wp2_with fail; refine hK.out _ _ ?_ (fun hHeld => ?_); (· first | exact hHeld.on hb | exact hHeld.alloc _); clear hK K
  try simp only [zp1, zp3, zp4, zp5]
  refine rg_call (i := 9) (atS (atS (atS (atS (atS (atS (atS (atS (atS at0))))))))) (by kernel_rfl) ?_ (fun K hK => ?_); (· rfl); (try clear hb); go_simp; (refine (calls_dr (cmp_CompareInt n m _)).mono ?_; rintro e w1 ⟨rfl, hb⟩); go_wp2_with fail; refine hK.out _ _ ?_ (fun hHeld => ?_); (· first | exact hHeld.on hb | exact hHeld.alloc _); clear hK K
  try simp only [zp1, zp3, zp4, zp5]
  refine rg_call (i := 10) (atS (atS (atS (atS (atS (atS (atS (atS (atS (atS at0)))))))))) (by kernel_rfl) ?_ (fun K hK => ?_); (· rfl); (try clear hb); go_simp; go_wp2_with fail; refine hK.out _ _ ?_ (fun hHeld => ?_); (· first | exact hHeld.on hb | exact hHeld.alloc _); clear hK K
  try simp only [zp1, zp3, zp4, zp5]
  refine rg_call (i := 11) (atS (atS (atS (atS (atS (atS (atS (atS (atS (atS (atS at0))))))))))) (by kernel_rfl) ?_ (fun K hK => ?_); (· rfl); (try clear hb); go_simp; (refine (calls_dr (cmp_OrInt2 _ 2 (cmpI a b) (cmpI n m) _ (by simp) (by simp))).mono ?_; rintro e w1 ⟨rfl, hb⟩); go_wp2_with fail; refine hK.out _ _ ?_ (fun hHeld => ?_); (· first | exact hHeld.on hb | exact hHeld.alloc _); clear hK K
  try simp only [zp1, zp3, zp4, zp5]
  refine rg_yes (i := 12) (v := ?_) (atS (atS (atS (atS (atS (atS (atS (atS (atS (atS (atS (atS at0)))))))))))) (by kernel_rfl) (by kernel_rfl) (by kernel_rfl) (fun _ _ _ h => h) ?_ ?_ hHeld ?_; rotate_left 1; (· rfl); (· intro w' hSw; (try dsimp only at hSw); (try clear hHeld); go_simp; try with_reducible rfl)
  try simp only [zp1, zp3, zp4, zp5]
  refine wpAnyH_done (by kernel_rfl) ?_ _
  have hB' := hB.on hHeld
  clear hHeld hb
  go_wp2
  go_ret
  exact ⟨ret_int rfl, hB'⟩
theorem ps_Cmp (p q : Pf) (w : World) : Calls Tryz.prog 22 #[.agg #[.int .u32 p.1, .int .i64 p.2], .agg #[.int .u32 q.1, .int .i64 q.2]] w fun e w' => e = .returned (.int .i64 (pcmp p q)) ∧ Below w.heap.size w w' := ip_Cmp _ _ _ _ _
end Go.Proofs.YtkoidahgbbabiaaGreat
