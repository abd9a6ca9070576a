/-
  ATTRIBUTES: the document's example (head): four bytes read.
-/
import Derived.Test.YtohkbcdnlmjcjaaDoorA6T
import Derived.Test.YtohkbcdnlmjcjaaDoorRgS
import Derived.Test.YtohkbcdnlmjcjaaDoorRg2
namespace Go.Proofs.YtohkbcdnlmjcjaaDoor
open Go.RowKit

set_option maxRecDepth 100000 in
theorem zero_seen : Tryd.zeroCells79[1]? = some (.bool false) := by kernel_rfl
abbrev atZ6 : Array Value := #[.int .i64 0, .int .i64 0, .slice none 0 0, .int .u32 0, .int .i64 0, .int .i64 0, .int .i64 0, .int .u32 0, .slice none 0 0, .slice none 0 0]
abbrev at22 : Array Value := #[.int .i64 2, .int .i64 2, .slice none 0 0, .int .u32 0, .int .i64 0, .int .i64 0, .int .i64 0, .int .u32 0, .slice none 0 0, .slice none 0 0]
set_option maxRecDepth 100000 in
theorem flt_same (w : World) : (binOp .neq 54 (.agg fltZ) (.agg fltZ)).run Tryd.prog w = .ok (.bool false) w := by kernel_rfl
set_option maxRecDepth 100000 in
theorem flt_other (w : World) (s : ByteArray) : (binOp .neq 54 (.agg #[.int .i64 3, .int .i64 6, .string s]) (.agg fltZ)).run Tryd.prog w = .ok (.bool true) w := by kernel_rfl
set_option maxRecDepth 100000 in
theorem kept_row {F : Nat → Prop} {w : World} (g : Nat) (C : Array Value) (hF : F g) : Kept F w (w.setRow g C) :=
  ⟨rfl, rfl, rfl, by simp [World.setRow], fun k _ hf => setRow_other _ _ _ _ (fun e => hf (by rw [e]; exact hF))⟩
set_option maxRecDepth 100000 in
theorem boxDec (w : World) : ∃ W0, W0 = (((w.alloc (.cells atZ6 28)).alloc (.cells fltZ 54)).alloc (.cells atZ6 28)).alloc (.cells Tryd.zeroCells79 79) ∧ W0.heap[w.heap.size]? = some (.cells atZ6 28 (0, 0)) ∧ W0.heap[w.heap.size + 1]? = some (.cells fltZ 54 (0, 0)) ∧
    W0.heap[w.heap.size + 1 + 1]? = some (.cells atZ6 28 (0, 0)) ∧ W0.heap[w.heap.size + 1 + 1 + 1]? = some (.cells Tryd.zeroCells79 79 (0, 0)) ∧ Below w.heap.size w W0 ∧ W0.heap.size = w.heap.size + 4 := by
  have st : ∀ (u : World) (o : Obj) (b : Nat), b < u.heap.size → (u.alloc o).heap[b]? = u.heap[b]? := fun u o b hb => ((Below.refl u.heap.size u).alloc (Nat.le_refl _) o).block b hb
  have e : ∀ (u : World) (o : Obj), (u.alloc o).heap.size = u.heap.size + 1 := fun u o => by simp
  have nw : ∀ (u : World) (b : Nat) (o : Obj), b = u.heap.size → (u.alloc o).heap[b]? = some o := fun u b o hb => by subst hb; exact heap_alloc_new u _
  refine ⟨_, rfl, ?_, ?_, ?_, ?_, ((((Below.refl _ _).alloc (Nat.le_refl _) _).alloc (by simp) _).alloc (by simp; omega) _).alloc (by simp; omega) _, by simp⟩
  · rw [st _ _ _ (by simp only [e]; omega), st _ _ _ (by simp only [e]; omega), st _ _ _ (by simp only [e]; omega)]; exact nw _ _ _ rfl
  · rw [st _ _ _ (by simp only [e]; omega), st _ _ _ (by simp only [e]; omega)]; exact nw _ _ _ (by simp only [e])
  · rw [st _ _ _ (by simp only [e]; omega)]; exact nw _ _ _ (by simp only [e])
  · exact nw _ _ _ (by simp only [e])
set_option maxRecDepth 100000 in
theorem results_Decode (tmps : Array Value) (W : World) (b1 b2 : Nat) (C D : Array Value) (hC : C.size = 10) (hD : D.size = 3) (h2 : tmps.getD 2 undef = .pointer (some ⟨b1, 0, none⟩)) (h3 : tmps.getD 3 undef = .pointer (some ⟨b2, 0, none⟩)) (q1 : W.heap[b1]? = some (.cells C 28 (0, 0))) (q2 : W.heap[b2]? = some (.cells D 54 (0, 0))) :
    (results Tryd.f22 tmps).run Tryd.prog W = .ok (.tuple #[.agg C, .agg D]) W := by
  have h2' : tmps[2]?.getD undef = .pointer (some ⟨b1, 0, none⟩) := by simpa using h2
  have h3' : tmps[3]?.getD undef = .pointer (some ⟨b2, 0, none⟩) := by simpa using h3
  simp [results, Tryd.results22, h2', h3', asAddr, run_loadVar_row W b1 28 28 C (0, 0) _ q1 Tryd.underlying28 rfl (by rw [hC]; kernel_rfl), run_loadVar_row W b2 54 54 D (0, 0) _ q2 Tryd.underlying54 rfl (by rw [hD]; kernel_rfl)]
set_option maxHeartbeats 6400000 in
set_option maxRecDepth 100000 in
theorem dec_two (g : Nat) (w : World) (hT : Tabs w) (hg : g < w.heap.size) (h : BytesAt w (.slice (some ⟨g, 0, none⟩) 4 4) [64, 1, 1, 2]) : Calls Tryd.prog 22 #[.slice (some ⟨g, 0, none⟩) 4 4] w fun e w' => e = .returned (.tuple #[.agg at22, .agg fltZ]) ∧ Below w.heap.size w w' := by
  have H := Lib.hid h
  have HT := Lib.hid hT
  have HG := Lib.hid hg
  obtain ⟨sa, cap, e0, _, _, hV⟩ := h
  injection e0 with e0 _ e3
  subst e3; subst e0
  obtain ⟨b, off, e1, hP⟩ := hV (by simp)
  injection e1 with e1
  injection e1 with e1 e2 _
  subst e1; subst e2
  obtain ⟨c0, _, ⟨rfl, _⟩, p0⟩ := hP 0 64 rfl
  obtain ⟨c1, _, ⟨rfl, _⟩, p1⟩ := hP 1 1 rfl
  obtain ⟨c2, _, ⟨rfl, _⟩, p2⟩ := hP 2 1 rfl
  obtain ⟨c3, _, ⟨rfl, _⟩, p3⟩ := hP 3 2 rfl
  have D0 : Hid (w.cell? ⟨g, 0, none⟩ = some (.int .u8 64)) := Lib.hid (p0 0 _ rfl)
  have D1 : Hid (w.cell? ⟨g, 1, none⟩ = some (.int .u8 1)) := Lib.hid (p1 0 _ rfl)
  have D2 : Hid (w.cell? ⟨g, 2, none⟩ = some (.int .u8 1)) := Lib.hid (p2 0 _ rfl)
  have D3 : Hid (w.cell? ⟨g, 3, none⟩ = some (.int .u8 2)) := Lib.hid (p3 0 _ rfl)
  have V3 : Hid (BytesAt w (.slice (some ⟨g, 3, none⟩) 1 (4 - 3)) [2]) := Lib.hid (by
    have := slat_sub (xs := [64, 1, 1, 2]) H.out (i := 3) (j := 4) (by decide) (by decide)
    simpa using this)
  clear hT hg hV hP p0 p1 p2 p3
  go_enter Tryd.func22, Tryd.ntmps22
  go_upto_region 3 with (fail)
  obtain ⟨W, hW, q0, q1, q2, q3, hb, hs⟩ := boxDec w
  rw [← hW]
  clear hW
  have S := Lib.hid hs
  have B := Lib.hid hb
  have Q0 := Lib.hid q0
  have Q1 := Lib.hid q1
  have Q2 := Lib.hid q2
  have Q3 := Lib.hid q3
  have d1 := cell_below D1.out hb
  have s1 : W.cell? ⟨w.heap.size + 1 + 1 + 1, 1, none⟩ = some (.bool false) := by rw [row_cell q3]; exact zero_seen
  have sf := row_free q3 1
  have CT := Lib.hid (at_cut _ _ W (H.out.below hb))
  rw [show cutV [64, 1, 1, 2] = .tuple #[.int .i64 3, .int .i64 4, .bool true] by kernel_rfl] at CT
  clear q0 q1 q2 q3 hb hs
  refine wp_loop_rounds 2 ?_
  rw [rounds_succ]
  go_wp2_with fail
  refine CT.out.mono ?_
  rintro e w1 ⟨rfl, rfl⟩
  clear CT
  go_upto_region 8 with (fail)
  obtain ⟨W1, hW1⟩ : ∃ W1, W1 = W.setCell ⟨w.heap.size + 1 + 1 + 1, 1, none⟩ (.bool true) := ⟨_, rfl⟩
  have K1 : Hid (Kept (fun k => k = w.heap.size + 1 + 1 + 1) W W1) := Lib.hid (by rw [hW1]; exact Kept.setCell _ _ rfl)
  have Z1 : Hid (W1.heap.size = w.heap.size + 4) := Lib.hid (by rw [hW1, ← S.out]; simp [World.setCell])
  rw [← hW1]
  clear hW1 s1 sf d1
  go_upto_region 9 with (fail)
  obtain ⟨W2, hW2, qf, hb2, hs2⟩ : ∃ W2, W2 = W1.alloc (.cells fltZ 54) ∧ W2.heap[W1.heap.size]? = some (.cells fltZ 54 (0, 0)) ∧ Below W1.heap.size W1 W2 ∧ W2.heap.size = W1.heap.size + 1 := ⟨_, rfl, heap_alloc_new W1 _, (Below.refl _ _).alloc (Nat.le_refl _) _, by simp⟩
  rw [← hW2]
  clear hW2
  have q0 := (K1.out.block _ (row_lt Q0.out) (by omega)).trans Q0.out
  have q1 := (K1.out.block _ (row_lt Q1.out) (by omega)).trans Q1.out
  have q2 := (K1.out.block _ (row_lt Q2.out) (by omega)).trans Q2.out
  have P0 := Lib.hid ((hb2.block _ (row_lt q0)).trans q0)
  have P1 := Lib.hid ((hb2.block _ (row_lt q1)).trans q1)
  have P2 := Lib.hid ((hb2.block _ (row_lt q2)).trans q2)
  have PF := Lib.hid qf
  have B2 : Hid (Below w.heap.size w W2) := Lib.hid ((B.out.trans (K1.out.below B.out.size (fun k hk => by omega))).trans (hb2.mono (by have := Z1.out; omega)))
  have d1 := cell_below D1.out B2.out
  clear q0 q1 q2 qf hb2 hs2 Q0 Q1 Q2 Q3 B K1 S
  have TK := Lib.hid (take_two (w.heap.size + 1 + 1) g 0 4 W2.drew (HT.out.below B2.out.drew) P2.out (cell_below D0.out B2.out.drew) (cell_below D1.out B2.out.drew) (V3.out.below B2.out.drew))
  generalize hfb : W1.heap.size = fb at PF Z1 ⊢
  clear hfb
  go_wp2_with fail
  refine (at_isKnown 1 _).mono ?_
  rintro e w3 ⟨rfl, rfl⟩
  go_wp2_with fail
  have P0d : Hid ((World.drew W2).heap[w.heap.size]? = some (.cells atZ6 28 (0, 0))) := Lib.hid P0.out
  have P1d : Hid ((World.drew W2).heap[w.heap.size + 1]? = some (.cells fltZ 54 (0, 0))) := Lib.hid P1.out
  have PFd : Hid ((World.drew W2).heap[fb]? = some (.cells fltZ 54 (0, 0))) := Lib.hid PF.out
  have B2d : Hid (Below w.heap.size w (World.drew W2)) := Lib.hid B2.out.drew
  clear P0 P1 P2 PF B2
  refine wp_region_held_drew (S := fun _ => True) (by kernel_rfl) ?_ (fun hHeld => ?_)
  · trivial
  generalize World.drew W2 = wd at TK P0d P1d PFd B2d hHeld ⊢
  refine rgy (i := 0) (v := ?_) (atN rfl) (by kernel_rfl) (fun _ _ _ h => h) ?_ ?_ hHeld ?_; rotate_left 1; (· rfl); (· intro w' hSw; (try clear hHeld); go_simp; try with_reducible rfl)
  try simp only [Act.put, List.setIfInBounds_toArray, List.set_cons_zero, List.set_cons_succ]
  refine rgy (i := 1) (v := ?_) (atN rfl) (by kernel_rfl) (fun _ _ _ h => h) ?_ ?_ hHeld ?_; rotate_left 1; (· rfl); (· intro w' hSw; (try clear hHeld); go_simp; try with_reducible rfl)
  try simp only [Act.put, List.setIfInBounds_toArray, List.set_cons_zero, List.set_cons_succ]
  refine rgy (i := 2) (v := ?_) (atN rfl) (by kernel_rfl) (fun _ _ _ h => h) ?_ ?_ hHeld ?_; rotate_left 1; (· rfl); (· intro w' hSw; (try clear hHeld); go_simp; try with_reducible rfl)
  try simp only [Act.put, List.setIfInBounds_toArray, List.set_cons_zero, List.set_cons_succ]
  refine rgy (i := 3) (v := ?_) (atN rfl) (by kernel_rfl) (fun _ _ _ h => h) ?_ ?_ hHeld ?_; rotate_left 1; (· rfl); (· intro w' hSw; (try clear hHeld); go_simp; try with_reducible rfl)
  try simp only [Act.put, List.setIfInBounds_toArray, List.set_cons_zero, List.set_cons_succ]
  refine rgy (i := 4) (v := ?_) (atN rfl) (by kernel_rfl) (fun _ _ _ h => h) ?_ ?_ hHeld ?_; rotate_left 1; (· rfl); (· intro w' hSw; (try clear hHeld); go_simp; try with_reducible rfl)
  try simp only [Act.put, List.setIfInBounds_toArray, List.set_cons_zero, List.set_cons_succ]
  refine rgy (i := 5) (v := ?_) (atN rfl) (by kernel_rfl) (fun _ _ _ h => h) ?_ ?_ hHeld ?_; rotate_left 1; (· rfl); (· intro w' hSw; (try clear hHeld); go_simp; try with_reducible rfl)
  try simp only [Act.put, List.setIfInBounds_toArray, List.set_cons_zero, List.set_cons_succ]
  refine rgy (i := 6) (v := ?_) (atN rfl) (by kernel_rfl) (fun _ _ _ h => h) ?_ ?_ hHeld ?_; rotate_left 1; (· rfl); (· intro w' hSw; (try clear hHeld); go_simp; try with_reducible rfl)
  try simp only [Act.put, List.setIfInBounds_toArray, List.set_cons_zero, List.set_cons_succ]
  refine rg_call (i := 7) (atN rfl) (by kernel_rfl) ?_ (fun K hK => ?_); (· rfl); (try clear hb); go_simp; (refine TK.out.mono ?_; rintro e w4 ⟨rfl, qa, hk⟩); have RF := Lib.hid ((hk.block _ (row_lt PFd.out) (by have := Z1.out; omega)).trans PFd.out); go_wp2_with fail; refine hK.out _ _ ?_ (fun hHeld => ?_); (· trivial); clear hK K
  try simp only [Act.put, List.setIfInBounds_toArray, List.set_cons_zero, List.set_cons_succ]
  refine rg_call (i := 8) (atN rfl) (by kernel_rfl) ?_ (fun K hK => ?_); (· rfl); (try clear hb); refine wp_store_rowat 54 (.tmp 9) (.tmp 47) rfl fb rfl 54 fltZ fltZ rfl RF.out (by kernel_rfl) rfl (by simp [Value.oneCell']) ?_; refine hK.out _ _ ?_ (fun hHeld => ?_); (· trivial); clear hK K
  try simp only [Act.put]
  refine wpAnyH_done (by kernel_rfl) ?_ _
  clear hHeld
  have PA := Lib.hid qa
  have R0 := Lib.hid ((hk.block _ (row_lt P0d.out) (by omega)).trans P0d.out)
  have R1 := Lib.hid ((hk.block _ (row_lt P1d.out) (by omega)).trans P1d.out)
  have B4 : Hid (Below w.heap.size w w4) := Lib.hid (B2d.out.trans (hk.below B2d.out.size (fun k hk => by omega)))
  obtain ⟨W5, hW5⟩ : ∃ W5, W5 = w4.setRow fb fltZ := ⟨_, rfl⟩
  rw [← hW5]
  have K5 : Kept (fun k => k = fb) w4 W5 := by rw [hW5]; exact kept_row fb fltZ rfl
  have NF : Hid (fb = w.heap.size + 4) := Z1
  have T0 := Lib.hid ((K5.block _ (row_lt R0.out) (by have := NF.out; omega)).trans R0.out)
  have T1 := Lib.hid ((K5.block _ (row_lt R1.out) (by have := NF.out; omega)).trans R1.out)
  have TA := Lib.hid ((K5.block _ (row_lt PA.out) (by have := NF.out; omega)).trans PA.out)
  have TF : Hid (W5.heap[fb]? = some (.cells fltZ 54 (0, 0))) := Lib.hid (by rw [hW5]; exact setRow_heap _ _ _ _ _ _ RF.out)
  have B5 : Hid (Below w.heap.size w W5) := Lib.hid (B4.out.trans (K5.below B4.out.size (fun k hk => by have := NF.out; omega)))
  clear hW5 K5 R0 R1 PA RF B4 qa hk TK P0d P1d PFd B2d
  have y0 := row_cell TF.out 0
  have y1 := row_cell TF.out 1
  have y2 := row_cell TF.out 2
  have NQ := flt_same W5
  go_wp2_with fail
  clear y0 y1 y2 NQ TF
  obtain ⟨y0, y1, y2, y3, y4, y5, y6, y7, y8, y9⟩ := at10 TA.out
  rw [rounds_succ]
  go_wp2_with fail
  refine (sort_none none 0 _ _).mono ?_
  rintro e w6 ⟨rfl, rfl⟩
  go_wp2_with ((with_reducible refine halt_at (X := .store 28 (.tmp 2) (.tmp 67)) ?_ ?_); (· rfl))
  unfold Halt
  refine st_row rfl 28 (.tmp 2) (.tmp 67) rfl w.heap.size rfl 28 atZ6 at22 rfl T0.out (by kernel_rfl) rfl (by simp [Value.oneCell']) ?_
  have V0 : Hid ((W5.setRow w.heap.size at22).heap[w.heap.size]? = some (.cells at22 28 (0, 0))) := Lib.hid (setRow_heap _ _ _ _ _ _ T0.out)
  have V1 : Hid ((W5.setRow w.heap.size at22).heap[w.heap.size + 1]? = some (.cells fltZ 54 (0, 0))) := Lib.hid (by rw [setRow_other _ _ _ _ (by omega)]; exact T1.out)
  have B6 : Hid (Below w.heap.size w (W5.setRow w.heap.size at22)) := Lib.hid (B5.out.trans ((kept_row (F := fun k => k = w.heap.size) w.heap.size at22 rfl).below B5.out.size (fun k hk => by omega)))
  generalize W5.setRow w.heap.size at22 = W6 at V0 V1 B6 ⊢
  clear T0 T1 TA B5 y0 y1 y2 y3 y4 y5 y6 y7 y8 y9
  go_wp2_with ((with_reducible refine halt_at (X := .store 54 (.tmp 3) (.tmp 68)) ?_ ?_); (· rfl))
  unfold Halt
  refine st_row rfl 54 (.tmp 3) (.tmp 68) rfl (w.heap.size + 1) rfl 54 fltZ fltZ rfl V1.out (by kernel_rfl) rfl (by simp [Value.oneCell']) ?_
  go_wp2_with fail
  refine bodyPost_ret (results_Decode _ _ w.heap.size (w.heap.size + 1) at22 fltZ rfl rfl rfl rfl (by rw [setRow_other _ _ _ _ (by omega)]; exact V0.out) (setRow_heap _ _ _ _ _ _ V1.out)) rfl ⟨rfl, ?_⟩
  exact B6.out.trans ((kept_row (F := fun k => k = w.heap.size + 1) (w.heap.size + 1) fltZ rfl).below B6.out.size (fun k hk => by omega))
/-- what holds while a fault is handed back. -/
structure ErrS (w : World) (fb : Nat) (st : ByteArray) (w' : World) : Prop where
  r : w'.heap[w.heap.size]? = some (.cells atZ6 28 (0, 0))
  t : ∃ C : Array Value, C.size = 3 ∧ w'.heap[w.heap.size + 1]? = some (.cells C 54 (0, 0))
  f : w'.heap[fb]? = some (.cells #[.int .i64 3, .int .i64 6, .string st] 54 (0, 0))
  b : Below w.heap.size w w'
set_option maxRecDepth 100000 in
theorem ErrS.setA {w : World} {fb : Nat} {st : ByteArray} {w' : World} (h : ErrS w fb st w') (hn : fb ≠ w.heap.size) : ErrS w fb st (w'.setRow w.heap.size atZ6) := by
  obtain ⟨C, h1, h2⟩ := h.t
  exact ⟨setRow_heap _ _ _ _ _ _ h.r, ⟨C, h1, by rw [setRow_other _ _ _ _ (by omega)]; exact h2⟩, by rw [setRow_other _ _ _ _ hn]; exact h.f, h.b.trans ((kept_row (F := fun k => k = w.heap.size) w.heap.size atZ6 rfl).below h.b.size (fun k hk => by omega))⟩
set_option maxRecDepth 100000 in
theorem ErrS.setF {w : World} {fb : Nat} {st : ByteArray} {w' : World} (h : ErrS w fb st w') (hn : fb ≠ w.heap.size + 1) : ErrS w fb st (w'.setRow (w.heap.size + 1) #[.int .i64 3, .int .i64 6, .string st]) := by
  obtain ⟨C, h1, h2⟩ := h.t
  exact ⟨by rw [setRow_other _ _ _ _ (by omega)]; exact h.r, ⟨_, rfl, setRow_heap _ _ _ _ _ _ h2⟩, by rw [setRow_other _ _ _ _ hn]; exact h.f, h.b.trans ((kept_row (F := fun k => k = w.heap.size + 1) (w.heap.size + 1) _ rfl).below h.b.size (fun k hk => by omega))⟩
set_option maxHeartbeats 6400000 in
set_option maxRecDepth 100000 in
theorem dec_three (g : Nat) (w : World) (hT : Tabs w) (hg : g < w.heap.size) (h : BytesAt w (.slice (some ⟨g, 0, none⟩) 4 4) [64, 1, 1, 3]) : Calls Tryd.prog 22 #[.slice (some ⟨g, 0, none⟩) 4 4] w fun e w' => (∃ st, e = .returned (.tuple #[.agg atZ6, .agg #[.int .i64 3, .int .i64 6, .string st]])) ∧ Below w.heap.size w w' := by
  have H := Lib.hid h
  have HT := Lib.hid hT
  have HG := Lib.hid hg
  obtain ⟨sa, cap, e0, _, _, hV⟩ := h
  injection e0 with e0 _ e3
  subst e3; subst e0
  obtain ⟨b, off, e1, hP⟩ := hV (by simp)
  injection e1 with e1
  injection e1 with e1 e2 _
  subst e1; subst e2
  obtain ⟨c0, _, ⟨rfl, _⟩, p0⟩ := hP 0 64 rfl
  obtain ⟨c1, _, ⟨rfl, _⟩, p1⟩ := hP 1 1 rfl
  obtain ⟨c2, _, ⟨rfl, _⟩, p2⟩ := hP 2 1 rfl
  obtain ⟨c3, _, ⟨rfl, _⟩, p3⟩ := hP 3 3 rfl
  have D0 : Hid (w.cell? ⟨g, 0, none⟩ = some (.int .u8 64)) := Lib.hid (p0 0 _ rfl)
  have D1 : Hid (w.cell? ⟨g, 1, none⟩ = some (.int .u8 1)) := Lib.hid (p1 0 _ rfl)
  have D2 : Hid (w.cell? ⟨g, 2, none⟩ = some (.int .u8 1)) := Lib.hid (p2 0 _ rfl)
  have D3 : Hid (w.cell? ⟨g, 3, none⟩ = some (.int .u8 3)) := Lib.hid (p3 0 _ rfl)
  have V3 : Hid (BytesAt w (.slice (some ⟨g, 3, none⟩) 1 (4 - 3)) [3]) := Lib.hid (by
    have := slat_sub (xs := [64, 1, 1, 3]) H.out (i := 3) (j := 4) (by decide) (by decide)
    simpa using this)
  clear hT hg hV hP p0 p1 p2 p3
  go_enter Tryd.func22, Tryd.ntmps22
  go_upto_region 3 with (fail)
  obtain ⟨W, hW, q0, q1, q2, q3, hb, hs⟩ := boxDec w
  rw [← hW]
  clear hW
  have S := Lib.hid hs
  have B := Lib.hid hb
  have Q0 := Lib.hid q0
  have Q1 := Lib.hid q1
  have Q2 := Lib.hid q2
  have Q3 := Lib.hid q3
  have d1 := cell_below D1.out hb
  have s1 : W.cell? ⟨w.heap.size + 1 + 1 + 1, 1, none⟩ = some (.bool false) := by rw [row_cell q3]; exact zero_seen
  have sf := row_free q3 1
  have CT := Lib.hid (at_cut _ _ W (H.out.below hb))
  rw [show cutV [64, 1, 1, 3] = .tuple #[.int .i64 3, .int .i64 4, .bool true] by kernel_rfl] at CT
  clear q0 q1 q2 q3 hb hs
  refine wp_loop_rounds 2 ?_
  rw [rounds_succ]
  go_wp2_with fail
  refine CT.out.mono ?_
  rintro e w1 ⟨rfl, rfl⟩
  clear CT
  go_upto_region 8 with (fail)
  obtain ⟨W1, hW1⟩ : ∃ W1, W1 = W.setCell ⟨w.heap.size + 1 + 1 + 1, 1, none⟩ (.bool true) := ⟨_, rfl⟩
  have K1 : Hid (Kept (fun k => k = w.heap.size + 1 + 1 + 1) W W1) := Lib.hid (by rw [hW1]; exact Kept.setCell _ _ rfl)
  have Z1 : Hid (W1.heap.size = w.heap.size + 4) := Lib.hid (by rw [hW1, ← S.out]; simp [World.setCell])
  rw [← hW1]
  clear hW1 s1 sf d1
  go_upto_region 9 with (fail)
  obtain ⟨W2, hW2, qf, hb2, hs2⟩ : ∃ W2, W2 = W1.alloc (.cells fltZ 54) ∧ W2.heap[W1.heap.size]? = some (.cells fltZ 54 (0, 0)) ∧ Below W1.heap.size W1 W2 ∧ W2.heap.size = W1.heap.size + 1 := ⟨_, rfl, heap_alloc_new W1 _, (Below.refl _ _).alloc (Nat.le_refl _) _, by simp⟩
  rw [← hW2]
  clear hW2
  have q0 := (K1.out.block _ (row_lt Q0.out) (by omega)).trans Q0.out
  have q1 := (K1.out.block _ (row_lt Q1.out) (by omega)).trans Q1.out
  have q2 := (K1.out.block _ (row_lt Q2.out) (by omega)).trans Q2.out
  have P0 := Lib.hid ((hb2.block _ (row_lt q0)).trans q0)
  have P1 := Lib.hid ((hb2.block _ (row_lt q1)).trans q1)
  have P2 := Lib.hid ((hb2.block _ (row_lt q2)).trans q2)
  have PF := Lib.hid qf
  have B2 : Hid (Below w.heap.size w W2) := Lib.hid ((B.out.trans (K1.out.below B.out.size (fun k hk => by omega))).trans (hb2.mono (by have := Z1.out; omega)))
  have d1 := cell_below D1.out B2.out
  clear q0 q1 q2 qf hb2 hs2 Q0 Q1 Q2 Q3 B K1 S
  have TK := Lib.hid (take_three (w.heap.size + 1 + 1) g 0 4 W2.drew (HT.out.below B2.out.drew) P2.out (cell_below D0.out B2.out.drew) (cell_below D1.out B2.out.drew) (cell_below D2.out B2.out.drew) (cell_below D3.out B2.out.drew) (V3.out.below B2.out.drew) (by have := HG.out; omega))
  generalize hfb : W1.heap.size = fb at PF Z1 ⊢
  clear hfb
  go_wp2_with fail
  refine (at_isKnown 1 _).mono ?_
  rintro e w3 ⟨rfl, rfl⟩
  go_wp2_with fail
  have P0d : Hid ((World.drew W2).heap[w.heap.size]? = some (.cells atZ6 28 (0, 0))) := Lib.hid P0.out
  have P1d : Hid ((World.drew W2).heap[w.heap.size + 1]? = some (.cells fltZ 54 (0, 0))) := Lib.hid P1.out
  have PFd : Hid ((World.drew W2).heap[fb]? = some (.cells fltZ 54 (0, 0))) := Lib.hid PF.out
  have B2d : Hid (Below w.heap.size w (World.drew W2)) := Lib.hid B2.out.drew
  clear P0 P1 P2 PF B2
  refine wp_region_held_drew (S := fun _ => True) (by kernel_rfl) ?_ (fun hHeld => ?_)
  · trivial
  generalize World.drew W2 = wd at TK P0d P1d PFd B2d hHeld ⊢
  refine rgy (i := 0) (v := ?_) (atN rfl) (by kernel_rfl) (fun _ _ _ h => h) ?_ ?_ hHeld ?_; rotate_left 1; (· rfl); (· intro w' hSw; (try clear hHeld); go_simp; try with_reducible rfl)
  try simp only [Act.put, List.setIfInBounds_toArray, List.set_cons_zero, List.set_cons_succ]
  refine rgy (i := 1) (v := ?_) (atN rfl) (by kernel_rfl) (fun _ _ _ h => h) ?_ ?_ hHeld ?_; rotate_left 1; (· rfl); (· intro w' hSw; (try clear hHeld); go_simp; try with_reducible rfl)
  try simp only [Act.put, List.setIfInBounds_toArray, List.set_cons_zero, List.set_cons_succ]
  refine rgy (i := 2) (v := ?_) (atN rfl) (by kernel_rfl) (fun _ _ _ h => h) ?_ ?_ hHeld ?_; rotate_left 1; (· rfl); (· intro w' hSw; (try clear hHeld); go_simp; try with_reducible rfl)
  try simp only [Act.put, List.setIfInBounds_toArray, List.set_cons_zero, List.set_cons_succ]
  refine rgy (i := 3) (v := ?_) (atN rfl) (by kernel_rfl) (fun _ _ _ h => h) ?_ ?_ hHeld ?_; rotate_left 1; (· rfl); (· intro w' hSw; (try clear hHeld); go_simp; try with_reducible rfl)
  try simp only [Act.put, List.setIfInBounds_toArray, List.set_cons_zero, List.set_cons_succ]
  refine rgy (i := 4) (v := ?_) (atN rfl) (by kernel_rfl) (fun _ _ _ h => h) ?_ ?_ hHeld ?_; rotate_left 1; (· rfl); (· intro w' hSw; (try clear hHeld); go_simp; try with_reducible rfl)
  try simp only [Act.put, List.setIfInBounds_toArray, List.set_cons_zero, List.set_cons_succ]
  refine rgy (i := 5) (v := ?_) (atN rfl) (by kernel_rfl) (fun _ _ _ h => h) ?_ ?_ hHeld ?_; rotate_left 1; (· rfl); (· intro w' hSw; (try clear hHeld); go_simp; try with_reducible rfl)
  try simp only [Act.put, List.setIfInBounds_toArray, List.set_cons_zero, List.set_cons_succ]
  refine rgy (i := 6) (v := ?_) (atN rfl) (by kernel_rfl) (fun _ _ _ h => h) ?_ ?_ hHeld ?_; rotate_left 1; (· rfl); (· intro w' hSw; (try clear hHeld); go_simp; try with_reducible rfl)
  try simp only [Act.put, List.setIfInBounds_toArray, List.set_cons_zero, List.set_cons_succ]
  refine rg_call (i := 7) (atN rfl) (by kernel_rfl) ?_ (fun K hK => ?_); (· rfl); (try clear hb); go_simp; (refine TK.out.mono ?_; rintro e w4 ⟨⟨st, rfl⟩, hk⟩); have RF := Lib.hid ((hk.block _ (row_lt PFd.out) (by have := Z1.out; omega)).trans PFd.out); go_wp2_with fail; refine hK.out _ _ ?_ (fun hHeld => ?_); (· trivial); clear hK K
  try simp only [Act.put, List.setIfInBounds_toArray, List.set_cons_zero, List.set_cons_succ]
  refine rg_call (i := 8) (atN rfl) (by kernel_rfl) ?_ (fun K hK => ?_); (· rfl); (try clear hb); refine wp_store_rowat 54 (.tmp 9) (.tmp 47) rfl fb rfl 54 fltZ #[.int .i64 3, .int .i64 6, .string st] rfl RF.out (by kernel_rfl) rfl (by simp [Value.oneCell']) ?_; refine hK.out _ _ ?_ (fun hHeld => ?_); (· trivial); clear hK K
  try simp only [Act.put]
  refine wpAnyH_done (by kernel_rfl) ?_ _
  clear hHeld
  have R0 := Lib.hid ((hk.block _ (row_lt P0d.out) (by omega)).trans P0d.out)
  have R1 := Lib.hid ((hk.block _ (row_lt P1d.out) (by omega)).trans P1d.out)
  have B4 : Hid (Below w.heap.size w w4) := Lib.hid (B2d.out.trans (hk.below B2d.out.size (fun k hk => by omega)))
  obtain ⟨W5, hW5⟩ : ∃ W5, W5 = w4.setRow fb #[.int .i64 3, .int .i64 6, .string st] := ⟨_, rfl⟩
  rw [← hW5]
  have K5 : Kept (fun k => k = fb) w4 W5 := by rw [hW5]; exact kept_row fb _ rfl
  have NF : Hid (fb = w.heap.size + 4) := Z1
  have T0 := Lib.hid ((K5.block _ (row_lt R0.out) (by have := NF.out; omega)).trans R0.out)
  have T1 := Lib.hid ((K5.block _ (row_lt R1.out) (by have := NF.out; omega)).trans R1.out)
  have TF : Hid (W5.heap[fb]? = some (.cells #[.int .i64 3, .int .i64 6, .string st] 54 (0, 0))) := Lib.hid (by rw [hW5]; exact setRow_heap _ _ _ _ _ _ RF.out)
  have B5 : Hid (Below w.heap.size w W5) := Lib.hid (B4.out.trans (K5.below B4.out.size (fun k hk => by have := NF.out; omega)))
  clear hW5 K5 R0 R1 RF B4 hk TK P0d P1d PFd B2d
  have y0 := row_cell TF.out 0
  have y1 := row_cell TF.out 1
  have y2 := row_cell TF.out 2
  have NQ := flt_other W5 st
  go_wp2_with fail
  clear y0 y1 y2 NQ
  have NE0 : Hid (fb ≠ w.heap.size) := Lib.hid (by have := NF.out; omega)
  have NE1 : Hid (fb ≠ w.heap.size + 1) := Lib.hid (by have := NF.out; omega)
  have SI : Hid (ErrS w fb st (World.drew W5)) := Lib.hid ⟨T0.out, ⟨_, rfl, T1.out⟩, TF.out, B5.out.drew⟩
  refine wp_region_held_drew (S := ErrS w fb st) (by kernel_rfl) ?_ (fun hHeld => ?_)
  · exact SI.out
  generalize World.drew W5 = wd at SI hHeld ⊢
  refine rgy (i := 0) (v := ?_) (atN rfl) (by kernel_rfl) (fun _ _ _ h => h) ?_ ?_ hHeld ?_; rotate_left 1; (· rfl); (· intro w' hSw; (try clear hHeld); go_simp; try with_reducible rfl)
  try simp only [Act.put, List.setIfInBounds_toArray, List.set_cons_zero, List.set_cons_succ]
  refine rgy (i := 1) (v := ?_) (atN rfl) (by kernel_rfl) (fun _ _ _ h => h) ?_ ?_ hHeld ?_; rotate_left 1; (· rfl); (· intro w' hSw; refine exec_ld 54 (.tmp 9) ?_ fb ?_ 54 _ (0, 0) _ hSw.f Tryd.underlying54 rfl (by kernel_rfl) <;> rfl)
  try simp only [Act.put, List.setIfInBounds_toArray, List.set_cons_zero, List.set_cons_succ]
  refine rg_call (i := 2) (atN rfl) (by kernel_rfl) ?_ (fun K hK => ?_); (· rfl); (try clear hb); refine wp_store_rowat 28 (.tmp 2) (.tmp 59) rfl w.heap.size rfl 28 atZ6 atZ6 rfl hHeld.r (by kernel_rfl) rfl (by simp [Value.oneCell']) ?_; refine hK.out _ _ ?_ (fun hHeld => ?_); (· exact hHeld.setA NE0.out); clear hK K
  try simp only [Act.put]
  refine rg_call (i := 3) (atN rfl) (by kernel_rfl) ?_ (fun K hK => ?_); (· rfl); (try clear hb); obtain ⟨C, hC, hq⟩ := hHeld.t; refine wp_store_rowat 54 (.tmp 3) (.tmp 60) rfl (w.heap.size + 1) rfl 54 C #[.int .i64 3, .int .i64 6, .string st] rfl hq (by kernel_rfl) hC (by simp [Value.oneCell']) ?_; refine hK.out _ _ ?_ (fun hHeld => ?_); (· exact hHeld.setF NE1.out); clear hK K
  try simp only [Act.put]
  refine wpAnyH_done (by kernel_rfl) ?_ _
  have QR : Hid (((wd.setRow w.heap.size atZ6).setRow (w.heap.size + 1) #[.int .i64 3, .int .i64 6, .string st]).heap[w.heap.size + 1]? = some (.cells #[.int .i64 3, .int .i64 6, .string st] 54 (0, 0))) := Lib.hid (setRow_heap _ _ _ _ _ _ hq)
  have HH := Lib.hid hHeld
  clear hHeld hq
  generalize (wd.setRow w.heap.size atZ6).setRow (w.heap.size + 1) #[.int .i64 3, .int .i64 6, .string st] = W6 at QR HH ⊢
  go_wp2_with fail
  exact bodyPost_ret (results_Decode _ _ w.heap.size (w.heap.size + 1) atZ6 #[.int .i64 3, .int .i64 6, .string st] rfl rfl rfl rfl HH.out.r QR.out) rfl ⟨⟨st, rfl⟩, HH.out.b⟩
end Go.Proofs.YtohkbcdnlmjcjaaDoor
