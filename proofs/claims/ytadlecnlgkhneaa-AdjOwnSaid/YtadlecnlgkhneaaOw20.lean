/- Texts of one proof, one behind another. -/
import Derived.Test.YtadlecnlgkhneaaOw19
import Derived.Laws.BitsAllLaws
import Derived.IntWalk
import Derived.Test.YtadlecnlgkhneaaOw11
/-
  THE EXAMPLE OF THE LAWS ON ADJ; a rib of the law's own.
-/
namespace Go.Proofs.Ytadlecnlgkhneaa
open Go.RowKit

/-- the law's prefix of a number. -/
def netP (n : Nat) : Pf := ((n * 16777216 : Nat), 8)
theorem netP_ok {n : Nat} (h : n < 256) : OkP (netP n) := by unfold netP OkP; simp only; omega
theorem netP_right (n : Nat) : rightB (netP n).1 (netP n).2 = true := by
  unfold netP
  have : rightB ((n * 16777216 : Nat) : Int) ((8 : Nat) : Int) = true := right_mod.2 ⟨by simp, by decide⟩
  exact this
theorem netP_rgt {n : Nat} (h : n < 256) : RgtP (netP n) := ⟨netP_ok h, netP_right n⟩
theorem netP_inj {n k : Nat} (h : netP n = netP k) : n = k := by
  unfold netP at h
  simp only [Prod.mk.injEq, and_true] at h
  omega
theorem netP_lt {n k : Nat} (h : n < k) : plt (netP n) (netP k) := by
  unfold plt netP
  simp only
  omega
set_option maxHeartbeats 400000 in
theorem l_net (n : Nat) (h : n < 256) (w : World) : Calls Try.prog 9 #[.int .i64 n] w fun e w' => e = .returned (.agg #[.int .u32 (netP n).1, .int .i64 (netP n).2]) ∧ Below w.heap.size w w' := by
  have z1 : IntKind.u32.wrap (n : Int) = n := by unfold IntKind.wrap IntKind.bits IntKind.signed; simp; omega
  go_enter Try.func9, Try.ntmps9
  go_wp2_with fail
  exact bodyPost_ret (v := .agg #[.int .u32 ((n : Int) * 16777216), .int .i64 8]) (by simp [results, Try.results9, go_sem]) rfl ⟨by unfold netP; simp, (Below.refl _ _).alloc (Nat.le_refl _) _⟩
/-- attributes that say little. -/
def atK (has : Int) : At := ⟨has, 0, [], 0, 0, 0, 0, 0, [], []⟩
def avK (has : Int) : AV := ⟨has, 0, none, 0, 0, 0, 0, 0, 0, 0, none, 0, 0, none, 0, 0⟩
theorem avK_at (has : Int) (W : World) : AvAt W (atK has) (avK has) := ⟨none, 0, none, 0, none, 0, rfl, SlAt.nil, SlAt.nil, SlAt.nil⟩
theorem atK_sz (has : Int) : AtSz (atK has) := ⟨by simp [atK], by simp [atK], by simp [atK], by simp [atK], by simp [atK]⟩
/-- a message of the law's own. -/
abbrev mgV (gs : Option Addr) (gn gc : Nat) (a : AV) (ns : Option Addr) (nn nc : Nat) : MV := ⟨2, 0, 0, 0, none, 0, 0, gs, gn, gc, a, ns, nn, nc, 0, 0, ⟨#[]⟩⟩
/-- a rib of the call's own. -/
structure LR (w W : World) (rb : Nat) (peer own most : Int) (R : Rts) (F : Nat → Prop) : Prop where
  rib : RibAt W rb peer own most R F
  fw : ∀ k, F k → w.heap.size ≤ k
  flt : ∀ k, F k → k < W.heap.size
  bel : Below w.heap.size w W
section
variable {w W W' : World} {rb : Nat} {peer own most : Int} {R : Rts} {F : Nat → Prop}
theorem LR.below (h : LR w W rb peer own most R F) (hb : Below W.heap.size W W') : LR w W' rb peer own most R F :=
  ⟨h.rib.below hb, h.fw, fun k hk => Nat.lt_of_lt_of_le (h.flt k hk) hb.size, below_on h.bel hb⟩
theorem LR.kept {G : Nat → Prop} (h : LR w W rb peer own most R F) (hk : Kept G W W') (hG : ∀ k, F k → ¬ G k) (hw : ∀ k, G k → w.heap.size ≤ k) : LR w W' rb peer own most R F :=
  ⟨h.rib.kept hk (fun k _ hF => hG k hF), h.fw, fun k hF => Nat.lt_of_lt_of_le (h.flt k hF) hk.size, h.bel.trans (hk.below h.bel.size hw)⟩
/-- what Update makes of it. -/
theorem LR.upd {r : Int × List Pf × Rts} {e : Ending} (h : LR w W rb peer own most R F) (hp : UpdPost rb peer own most F W r e W') :
    ∃ v F', e = .returned (.tuple #[v, .int .i64 r.1]) ∧ OwnPs W' W.heap.size v r.2.1 ∧ LR w W' rb peer own most r.2.2 F' ∧ (∀ k, F' k → F k ∨ W.heap.size ≤ k) ∧ (∀ k, v.ownBlock = some k → ¬ F' k) ∧ Kept F W W' := by
  obtain ⟨v, F', h1, h2, h3, h4, h5, h6⟩ := hp
  refine ⟨v, F', h1, h2, ⟨h3, ?_, ?_, h.bel.trans (h6.below h.bel.size h.fw)⟩, fun k hk => (h4 k hk).imp_right fun h => h.1, h5, h6⟩
  · intro k hk
    rcases h4 k hk with hk | hk
    · exact h.fw k hk
    · have := h.bel.size; omega
  · intro k hk
    rcases h4 k hk with hk | hk
    · exact Nat.lt_of_lt_of_le (h.flt k hk) h6.size
    · exact hk.2
theorem lr_new {most0 : Int} (hB : Below w.heap.size w W) (h : RibAt W' rb peer own (min (max most0 0) 256) [] (fun k => W.heap.size ≤ k ∧ k < W'.heap.size)) (hb : Below W.heap.size W W') : LR w W' rb peer own (min (max most0 0) 256) [] (fun k => W.heap.size ≤ k ∧ k < W'.heap.size) :=
  ⟨h, fun _ hk => Nat.le_trans hB.size hk.1, fun _ hk => hk.2, below_on hB hb⟩
end
theorem calls_belowS {P : Program} {f : FuncId} {args : Array Value} {w : World} {x : Ending} (h : Calls P f args w fun e w' => e = x ∧ w = w') : Calls P f args w fun e w' => e = x ∧ Below w.heap.size w w' := h.mono fun _ _ ⟨a, b⟩ => ⟨a, b ▸ Below.refl _ _⟩
/-! ### the example -/
theorem setOf_two {a b : Pf} (h : plt a b) : setOf [b, a] = [a, b] := setOf_is (by simp [Srt, h]) (fun p => by simp [or_comm])
theorem setOf_two' {a b : Pf} (h : plt a b) : setOf [a, b] = [a, b] := setOf_is (by simp [Srt, h]) (fun p => by simp)
theorem setOf_one (a : Pf) : setOf [a] = [a] := setOf_is (by simp [Srt]) (fun p => by simp)
theorem setOf_nil : setOf [] = [] := setOf_is (by simp [Srt]) (fun p => by simp)
theorem upd_1 : updP 9 5 [] 2 [] [netP 2, netP 1] (atK 14) = (0, [netP 1, netP 2], [(netP 1, atK 14), (netP 2, atK 14)]) := by
  have h1 : saidP [] [netP 2, netP 1] = [netP 1, netP 2] := setOf_two (netP_lt (by decide))
  have h2 : netsP 9 [netP 2, netP 1] (atK 14) = [netP 1, netP 2] := setOf_two (netP_lt (by decide))
  unfold updP
  rw [h1, h2]
  rfl
theorem upd_2 : updP 9 5 [(netP 1, atK 14), (netP 2, atK 14)] 2 [netP 1, netP 3] [] (atK 0) = (0, [netP 1], [(netP 2, atK 14)]) := by
  have h1 : saidP [netP 1, netP 3] [] = [netP 1, netP 3] := setOf_two' (netP_lt (by decide))
  have h2 : netsP 9 [] (atK 0) = [] := setOf_nil
  unfold updP
  rw [h1, h2]
  rfl
theorem new_two (W : World) (x y : Pf) (T : TypeId) (hx : OkP x) (hy : OkP y) : PsAt (W.alloc (.cells #[.int .u32 x.1, .int .i64 x.2, .int .u32 y.1, .int .i64 y.2] T)) (.slice (some ⟨W.heap.size, 0, none⟩) 2 2) [x, y] := by
  refine ⟨_, 2, rfl, Nat.le_refl _, by simp [maxLen], fun _ => ⟨W.heap.size, 0, rfl, fun i z hz => ?_⟩⟩
  match i, hz with
  | 0, hz =>
    simp at hz
    subst hz
    refine ⟨encP x, rfl, ⟨rfl, hx⟩, fun j c hc => ?_⟩
    rw [row_cell (heap_alloc_new W _)]
    match j, hc with
    | 0, hc => simpa [encP] using hc
    | 1, hc => simpa [encP] using hc
  | 1, hz =>
    simp at hz
    subst hz
    refine ⟨encP y, rfl, ⟨rfl, hy⟩, fun j c hc => ?_⟩
    rw [row_cell (heap_alloc_new W _)]
    match j, hc with
    | 0, hc => simpa [encP] using hc
    | 1, hc => simpa [encP] using hc
set_option maxHeartbeats 3200000 in
set_option maxRecDepth 100000 in
theorem law_head (w : World) : Calls Try.prog 7 #[] w fun e w' => e = .returned (.bool true) ∧ Below w.heap.size w w' := by
  have n1 := Lib.hid (l_net 1 (by decide))
  have n2 := Lib.hid (l_net 2 (by decide))
  have n3 := Lib.hid (l_net 3 (by decide))
  have UP := Lib.hid (fun W rb F v (h : LR w W rb 1 9 (min (max 5 0) 256) [] F) (hv : PsAt W v [netP 2, netP 1]) s n c (hs : v = .slice s n c) => by
    have := ad_Update (mgV none 0 0 (avK 14) s n c) [] [netP 2, netP 1] (atK 14) W h.rib SlAt.nil (by rw [hs] at hv; exact hv) (fun W _ => avK_at 14 W) (by simp) (atK_sz 14)
    rw [show updP 9 (min (max 5 0) 256) [] (mgV none 0 0 (avK 14) s n c).kind [] [netP 2, netP 1] (atK 14) = _ from upd_1] at this
    exact this)
  have UP2 := Lib.hid (fun W rb F v (h : LR w W rb 1 9 (min (max 5 0) 256) [(netP 1, atK 14), (netP 2, atK 14)] F) (hv : PsAt W v [netP 1, netP 3]) s n c (hs : v = .slice s n c) => by
    have := ad_Update (mgV s n c (avK 0) none 0 0) [netP 1, netP 3] [] (atK 0) W h.rib (by rw [hs] at hv; exact hv) SlAt.nil (fun W _ => avK_at 0 W) (by simp) (atK_sz 0)
    rw [show updP 9 (min (max 5 0) 256) [(netP 1, atK 14), (netP 2, atK 14)] (mgV s n c (avK 0) none 0 0).kind [netP 1, netP 3] [] (atK 0) = _ from upd_2] at this
    exact this)
  go_enter Try.func7, Try.ntmps7
  go_wp2_with fail
  refine (ad_New 1 9 5 w).mono ?_
  rintro e w1 ⟨rb, rfl, hr, hb⟩
  have L1 := Lib.hid (lr_new (Below.refl _ _) hr hb)
  clear hr hb
  generalize (fun k => w.heap.size ≤ k ∧ k < w1.heap.size : Nat → Prop) = F1 at L1
  go_wp2_with fail
  refine (n2.out w1).mono ?_
  rintro e w2 ⟨rfl, hb⟩
  have L2 := Lib.hid (L1.out.below hb)
  clear hb L1
  go_wp2_with fail
  refine (n1.out w2).mono ?_
  rintro e w3 ⟨rfl, hb⟩
  have L3 := Lib.hid (L2.out.below hb)
  clear hb L2
  go_wp2_with fail
  obtain ⟨W4, hW4⟩ : ∃ W4, W4 = w3.alloc (.cells #[.int .u32 (netP 2).1, .int .i64 (netP 2).2, .int .u32 (netP 1).1, .int .i64 (netP 1).2] 29) := ⟨_, rfl⟩
  have hb4 : Below w3.heap.size w3 W4 := by rw [hW4]; exact (Below.refl _ _).alloc (Nat.le_refl _) _
  have P4 := new_two w3 (netP 2) (netP 1) 29 (netP_ok (by decide)) (netP_ok (by decide))
  rw [← hW4] at P4 ⊢
  clear hW4
  have L4 := Lib.hid (L3.out.below hb4)
  refine (UP.out W4 rb F1 _ L4.out P4 _ 2 2 rfl).mono ?_
  intro e w5 hp
  obtain ⟨v5, F5, rfl, o5, l5, f5, d5, k5⟩ := L4.out.upd hp
  have L5 : Hid (LR w w5 rb 1 9 (min (max 5 0) 256) [(netP 1, atK 14), (netP 2, atK 14)] F5) := Lib.hid l5
  have O5 : Hid (PsAt w5 v5 [netP 1, netP 2]) := Lib.hid o5.at
  have OW5 : Hid (OwnPs w5 W4.heap.size v5 [netP 1, netP 2]) := Lib.hid o5
  have N5 := Lib.hid d5
  obtain ⟨s5, c5, hv5, -⟩ := O5.out
  subst hv5
  clear hp hb4 P4 L3 L4 UP l5 o5 f5 d5 k5
  go_wp2_with fail
  refine (n1.out w5).mono ?_
  rintro e w6 ⟨rfl, hb6⟩
  have L6 := Lib.hid (L5.out.below hb6)
  have OW6 := Lib.hid (OW5.out.below hb6)
  clear hb6 L5 OW5 O5
  go_wp2_with fail
  refine (n3.out w6).mono ?_
  rintro e w7 ⟨rfl, hb7⟩
  have L7 := Lib.hid (L6.out.below hb7)
  have OW7 := Lib.hid (OW6.out.below hb7)
  clear hb7 L6 OW6
  go_wp2_with fail
  obtain ⟨W8, hW8⟩ : ∃ W8, W8 = w7.alloc (.cells #[.int .u32 (netP 1).1, .int .i64 (netP 1).2, .int .u32 (netP 3).1, .int .i64 (netP 3).2] 29) := ⟨_, rfl⟩
  have hb8 : Below w7.heap.size w7 W8 := by rw [hW8]; exact (Below.refl _ _).alloc (Nat.le_refl _) _
  have P8 := new_two w7 (netP 1) (netP 3) 29 (netP_ok (by decide)) (netP_ok (by decide))
  rw [← hW8] at P8 ⊢
  clear hW8
  have L8 := Lib.hid (L7.out.below hb8)
  have OW8 := Lib.hid (OW7.out.below hb8)
  refine (UP2.out W8 rb F5 _ L8.out P8 _ 2 2 rfl).mono ?_
  intro e w9 hp
  obtain ⟨v9, F9, rfl, o9, l9, f9, d9, k9⟩ := L8.out.upd hp
  have L9 : Hid (LR w w9 rb 1 9 (min (max 5 0) 256) [(netP 2, atK 14)] F9) := Lib.hid l9
  have O9 : Hid (PsAt w9 v9 [netP 1]) := Lib.hid o9.at
  have A9 : Hid (PsAt w9 (.slice s5 2 c5) [netP 1, netP 2]) := Lib.hid (OW8.out.kept k9 (fun g hg hF => N5.out g hg hF)).at
  obtain ⟨s9, c9, hv9, -⟩ := O9.out
  subst hv9
  clear hp hb8 P8 L7 L8 UP2 l9 o9 f9 d9 k9 OW7 OW8 N5
  go_wp2_with fail
  refine (n2.out w9).mono ?_
  rintro e w10 ⟨rfl, hb10⟩
  have L10 := Lib.hid (L9.out.below hb10)
  have A10 := Lib.hid (A9.out.below hb10)
  clear hb10 L9 A9 O9
  go_wp2_with fail
  refine (ad_Get (netP 2) w10 L10.out.rib (netP_ok (by decide))).mono ?_
  rintro e w11 (⟨hg, _⟩ | ⟨a, v, hg, rfl, -, fr, hb11⟩)
  · exact absurd hg (by decide +kernel)
  have L11 := Lib.hid (L10.out.below hb11)
  have A11 := Lib.hid (A10.out.below hb11)
  clear hg fr hb11 L10 A10
  go_upto_region 5 with (fail)
  obtain ⟨W12, hW12, q12, hb12, -⟩ := box1 w11 (rtC 1 (netP 2) v) 48
  rw [← hW12]
  clear hW12
  have cp : W12.cell? ⟨w11.heap.size, 0, none⟩ = some (.int .i64 1) := row_cell q12 0
  have L12 := Lib.hid (L11.out.below hb12)
  have A12 := A11.out.below hb12
  clear q12 hb12 L11 A11
  have LEN := Lib.hid (fun W (hb : Below W12.heap.size W12 W) => calls_belowS (ad_Len (L12.out.rib.below hb)))
  obtain ⟨sa, cap, hsv, hlc, hcm, hV⟩ := A12
  injection hsv with e1 e2 e3
  obtain ⟨b, off, hsa, hP⟩ := hV (by decide)
  obtain ⟨x0, x1⟩ := ps_two (i := 0) (x := netP 1) hP rfl
  rw [hsa] at e1
  subst e1
  simp only [Nat.zero_mul, Nat.add_zero] at x0 x1
  clear hP hV hsa e2 e3 hlc hcm
  refine wp_region_held_drew (S := fun w' => Below W12.heap.size W12 w') (by kernel_rfl) ?_ (fun hHeld => ?_)
  · exact (Below.refl _ _).drew
  refine rgy (i := 0) (v := ?_) (atN rfl) (by kernel_rfl) (fun _ _ _ h => h) ?_ ?_ hHeld ?_; rotate_left 1; (· rfl); (· intro w' hSw; (try clear hHeld); go_simp; try with_reducible rfl)
  try simp only [Act.put, List.setIfInBounds_toArray, List.set_cons_zero, List.set_cons_succ]
  refine rgy (i := 1) (v := ?_) (atN rfl) (by kernel_rfl) (fun _ _ _ h => h) ?_ ?_ hHeld ?_; rotate_left 1; (· rfl); (· intro w' hSw; (try clear hHeld); go_simp; try with_reducible rfl)
  try simp only [Act.put, List.setIfInBounds_toArray, List.set_cons_zero, List.set_cons_succ]
  refine rgy (i := 2) (v := ?_) (atN rfl) (by kernel_rfl) (fun _ _ _ h => h) ?_ ?_ hHeld ?_; rotate_left 1; (· rfl); (· intro w' hSw; (try clear hHeld); go_simp; try with_reducible rfl)
  try simp only [Act.put, List.setIfInBounds_toArray, List.set_cons_zero, List.set_cons_succ]
  first | (refine rgn (i := 3) (atN rfl) (by kernel_rfl) (fun _ _ _ h => h) ?_ hHeld ?_; (· rfl)) | (refine rgy (i := 3) (v := ?_) (atN rfl) (by kernel_rfl) (fun _ _ _ h => h) ?_ ?_ hHeld ?_; rotate_left 1; (· rfl); (· intro w' hSw; (try clear hHeld); go_simp; try with_reducible rfl))
  try simp only [Act.put, List.setIfInBounds_toArray, List.set_cons_zero, List.set_cons_succ]
  first | (refine rgn (i := 4) (atN rfl) (by kernel_rfl) (fun _ _ _ h => h) ?_ hHeld ?_; (· rfl)) | (refine rgy (i := 4) (v := ?_) (atN rfl) (by kernel_rfl) (fun _ _ _ h => h) ?_ ?_ hHeld ?_; rotate_left 1; (· rfl); (· intro w' hSw; (try clear hHeld); go_simp; try with_reducible rfl))
  try simp only [Act.put, List.setIfInBounds_toArray, List.set_cons_zero, List.set_cons_succ]
  refine rgy (i := 5) (v := ?_) (atN rfl) (by kernel_rfl) (fun _ _ _ h => h) ?_ ?_ hHeld ?_; rotate_left 1; (· rfl); (· intro w' hSw; (try clear hHeld); go_simp; try with_reducible rfl)
  try simp only [Act.put, List.setIfInBounds_toArray, List.set_cons_zero, List.set_cons_succ]
  refine rgy (i := 6) (v := ?_) (atN rfl) (by kernel_rfl) (fun _ _ _ h => h) ?_ ?_ hHeld ?_; rotate_left 1; (· rfl); (· intro w' hSw; (try clear hHeld); go_simp; try with_reducible rfl)
  try simp only [Act.put, List.setIfInBounds_toArray, List.set_cons_zero, List.set_cons_succ]
  first | (refine rgn (i := 7) (atN rfl) (by kernel_rfl) (fun _ _ _ h => h) ?_ hHeld ?_; (· rfl)) | (refine rgy (i := 7) (v := ?_) (atN rfl) (by kernel_rfl) (fun _ _ _ h => h) ?_ ?_ hHeld ?_; rotate_left 1; (· rfl); (· intro w' hSw; (try clear hHeld); go_simp; try with_reducible rfl))
  try simp only [Act.put, List.setIfInBounds_toArray, List.set_cons_zero, List.set_cons_succ]
  first | (refine rgn (i := 8) (atN rfl) (by kernel_rfl) (fun _ _ _ h => h) ?_ hHeld ?_; (· rfl)) | (refine rgy (i := 8) (v := ?_) (atN rfl) (by kernel_rfl) (fun _ _ _ h => h) ?_ ?_ hHeld ?_; rotate_left 1; (· rfl); (· intro w' hSw; (try clear hHeld); go_simp; try with_reducible rfl))
  try simp only [Act.put, List.setIfInBounds_toArray, List.set_cons_zero, List.set_cons_succ]
  first | (refine rgn (i := 9) (atN rfl) (by kernel_rfl) (fun _ _ _ h => h) ?_ hHeld ?_; (· rfl)) | (refine rgy (i := 9) (v := ?_) (atN rfl) (by kernel_rfl) (fun _ _ _ h => h) ?_ ?_ hHeld ?_; rotate_left 1; (· rfl); (· intro w' hSw; (try clear hHeld); go_simp; try with_reducible rfl))
  try simp only [Act.put, List.setIfInBounds_toArray, List.set_cons_zero, List.set_cons_succ]
  refine rgy (i := 10) (v := ?_) (atN rfl) (by kernel_rfl) (fun _ _ _ h => h) ?_ ?_ hHeld ?_; rotate_left 1; (· rfl); (· intro w' hSw; (try clear hHeld); go_simp; try with_reducible rfl)
  try simp only [Act.put, List.setIfInBounds_toArray, List.set_cons_zero, List.set_cons_succ]
  refine rgy (i := 11) (v := ?_) (atN rfl) (by kernel_rfl) (fun _ _ _ h => h) ?_ ?_ hHeld ?_; rotate_left 1; (· rfl); (· intro w' hSw; (try clear hHeld); go_simp; try with_reducible rfl)
  try simp only [Act.put, List.setIfInBounds_toArray, List.set_cons_zero, List.set_cons_succ]
  first | (refine rgn (i := 12) (atN rfl) (by kernel_rfl) (fun _ _ _ h => h) ?_ hHeld ?_; (· rfl)) | (refine rgy (i := 12) (v := ?_) (atN rfl) (by kernel_rfl) (fun _ _ _ h => h) ?_ ?_ hHeld ?_; rotate_left 1; (· rfl); (· intro w' hSw; (try clear hHeld); go_simp; try with_reducible rfl))
  try simp only [Act.put, List.setIfInBounds_toArray, List.set_cons_zero, List.set_cons_succ]
  first | (refine rgn (i := 13) (atN rfl) (by kernel_rfl) (fun _ _ _ h => h) ?_ hHeld ?_; (· rfl)) | (refine rgy (i := 13) (v := ?_) (atN rfl) (by kernel_rfl) (fun _ _ _ h => h) ?_ ?_ hHeld ?_; rotate_left 1; (· rfl); (· intro w' hSw; have cp := cell_below cp hSw; have x0 := cell_below x0 hSw; have x1 := cell_below x1 hSw; (try clear hHeld); go_simp; try with_reducible rfl))
  try simp only [Act.put, List.setIfInBounds_toArray, List.set_cons_zero, List.set_cons_succ]
  first | (refine rgn (i := 14) (atN rfl) (by kernel_rfl) (fun _ _ _ h => h) ?_ hHeld ?_; (· rfl)) | (refine rgy (i := 14) (v := ?_) (atN rfl) (by kernel_rfl) (fun _ _ _ h => h) ?_ ?_ hHeld ?_; rotate_left 1; (· rfl); (· intro w' hSw; have cp := cell_below cp hSw; have x0 := cell_below x0 hSw; have x1 := cell_below x1 hSw; (try clear hHeld); go_simp; try with_reducible rfl))
  try simp only [Act.put, List.setIfInBounds_toArray, List.set_cons_zero, List.set_cons_succ]
  first | (refine rgn (i := 15) (atN rfl) (by kernel_rfl) (fun _ _ _ h => h) ?_ hHeld ?_; (· rfl)) | (refine rg_call (i := 15) (atN rfl) (by kernel_rfl) ?_ (fun K hK => ?_); (· rfl); (try clear hb); go_simp; (refine (n1.out _).mono ?_; rintro e w1 ⟨rfl, hb⟩); go_wp2_with fail; refine hK.out _ _ ?_ (fun hHeld => ?_); (· exact hHeld.trans (hb.mono hHeld.size)); clear hK K)
  try simp only [Act.put, List.setIfInBounds_toArray, List.set_cons_zero, List.set_cons_succ]
  first | (refine rgn (i := 16) (atN rfl) (by kernel_rfl) (fun _ _ _ h => h) ?_ hHeld ?_; (· rfl)) | (refine rgy (i := 16) (v := ?_) (atN rfl) (by kernel_rfl) (fun _ _ _ h => h) ?_ ?_ hHeld ?_; rotate_left 1; (· rfl); (· intro w' hSw; (try clear hHeld); go_simp; try with_reducible rfl))
  try simp only [Act.put, List.setIfInBounds_toArray, List.set_cons_zero, List.set_cons_succ]
  refine rgy (i := 17) (v := ?_) (atN rfl) (by kernel_rfl) (fun _ _ _ h => h) ?_ ?_ hHeld ?_; rotate_left 1; (· rfl); (· intro w' hSw; (try clear hHeld); go_simp; try with_reducible rfl)
  try simp only [Act.put, List.setIfInBounds_toArray, List.set_cons_zero, List.set_cons_succ]
  refine rgy (i := 18) (v := ?_) (atN rfl) (by kernel_rfl) (fun _ _ _ h => h) ?_ ?_ hHeld ?_; rotate_left 1; (· rfl); (· intro w' hSw; (try clear hHeld); go_simp; try with_reducible rfl)
  try simp only [Act.put, List.setIfInBounds_toArray, List.set_cons_zero, List.set_cons_succ]
  first | (refine rgn (i := 19) (atN rfl) (by kernel_rfl) (fun _ _ _ h => h) ?_ hHeld ?_; (· rfl)) | (refine rgy (i := 19) (v := ?_) (atN rfl) (by kernel_rfl) (fun _ _ _ h => h) ?_ ?_ hHeld ?_; rotate_left 1; (· rfl); (· intro w' hSw; (try clear hHeld); go_simp; try with_reducible rfl))
  try simp only [Act.put, List.setIfInBounds_toArray, List.set_cons_zero, List.set_cons_succ]
  first | (refine rgn (i := 20) (atN rfl) (by kernel_rfl) (fun _ _ _ h => h) ?_ hHeld ?_; (· rfl)) | (refine rgy (i := 20) (v := ?_) (atN rfl) (by kernel_rfl) (fun _ _ _ h => h) ?_ ?_ hHeld ?_; rotate_left 1; (· rfl); (· intro w' hSw; (try clear hHeld); go_simp; try with_reducible rfl))
  try simp only [Act.put, List.setIfInBounds_toArray, List.set_cons_zero, List.set_cons_succ]
  first | (refine rgn (i := 21) (atN rfl) (by kernel_rfl) (fun _ _ _ h => h) ?_ hHeld ?_; (· rfl)) | (refine rgy (i := 21) (v := ?_) (atN rfl) (by kernel_rfl) (fun _ _ _ h => h) ?_ ?_ hHeld ?_; rotate_left 1; (· rfl); (· intro w' hSw; (try clear hHeld); go_simp; try with_reducible rfl))
  try simp only [Act.put, List.setIfInBounds_toArray, List.set_cons_zero, List.set_cons_succ]
  refine rgy (i := 22) (v := ?_) (atN rfl) (by kernel_rfl) (fun _ _ _ h => h) ?_ ?_ hHeld ?_; rotate_left 1; (· rfl); (· intro w' hSw; (try clear hHeld); go_simp; try with_reducible rfl)
  try simp only [Act.put, List.setIfInBounds_toArray, List.set_cons_zero, List.set_cons_succ]
  refine rgy (i := 23) (v := ?_) (atN rfl) (by kernel_rfl) (fun _ _ _ h => h) ?_ ?_ hHeld ?_; rotate_left 1; (· rfl); (· intro w' hSw; (try clear hHeld); go_simp; try with_reducible rfl)
  try simp only [Act.put, List.setIfInBounds_toArray, List.set_cons_zero, List.set_cons_succ]
  first | (refine rgn (i := 24) (atN rfl) (by kernel_rfl) (fun _ _ _ h => h) ?_ hHeld ?_; (· rfl)) | (refine rgy (i := 24) (v := ?_) (atN rfl) (by kernel_rfl) (fun _ _ _ h => h) ?_ ?_ hHeld ?_; rotate_left 1; (· rfl); (· intro w' hSw; (try clear hHeld); go_simp; try with_reducible rfl))
  try simp only [Act.put, List.setIfInBounds_toArray, List.set_cons_zero, List.set_cons_succ]
  refine rgy (i := 25) (v := ?_) (atN rfl) (by kernel_rfl) (fun _ _ _ h => h) ?_ ?_ hHeld ?_; rotate_left 1; (· rfl); (· intro w' hSw; (try clear hHeld); go_simp; try with_reducible rfl)
  try simp only [Act.put, List.setIfInBounds_toArray, List.set_cons_zero, List.set_cons_succ]
  refine rgy (i := 26) (v := ?_) (atN rfl) (by kernel_rfl) (fun _ _ _ h => h) ?_ ?_ hHeld ?_; rotate_left 1; (· rfl); (· intro w' hSw; (try clear hHeld); go_simp; try with_reducible rfl)
  try simp only [Act.put, List.setIfInBounds_toArray, List.set_cons_zero, List.set_cons_succ]
  first | (refine rgn (i := 27) (atN rfl) (by kernel_rfl) (fun _ _ _ h => h) ?_ hHeld ?_; (· rfl)) | (refine rgy (i := 27) (v := ?_) (atN rfl) (by kernel_rfl) (fun _ _ _ h => h) ?_ ?_ hHeld ?_; rotate_left 1; (· rfl); (· intro w' hSw; (try clear hHeld); go_simp; try with_reducible rfl))
  try simp only [Act.put, List.setIfInBounds_toArray, List.set_cons_zero, List.set_cons_succ]
  first | (refine rgn (i := 28) (atN rfl) (by kernel_rfl) (fun _ _ _ h => h) ?_ hHeld ?_; (· rfl)) | (refine rgy (i := 28) (v := ?_) (atN rfl) (by kernel_rfl) (fun _ _ _ h => h) ?_ ?_ hHeld ?_; rotate_left 1; (· rfl); (· intro w' hSw; have cp := cell_below cp hSw; have x0 := cell_below x0 hSw; have x1 := cell_below x1 hSw; (try clear hHeld); go_simp; try with_reducible rfl))
  try simp only [Act.put, List.setIfInBounds_toArray, List.set_cons_zero, List.set_cons_succ]
  first | (refine rgn (i := 29) (atN rfl) (by kernel_rfl) (fun _ _ _ h => h) ?_ hHeld ?_; (· rfl)) | (refine rgy (i := 29) (v := ?_) (atN rfl) (by kernel_rfl) (fun _ _ _ h => h) ?_ ?_ hHeld ?_; rotate_left 1; (· rfl); (· intro w' hSw; (try clear hHeld); go_simp; try with_reducible rfl))
  try simp only [Act.put, List.setIfInBounds_toArray, List.set_cons_zero, List.set_cons_succ]
  refine rgy (i := 30) (v := ?_) (atN rfl) (by kernel_rfl) (fun _ _ _ h => h) ?_ ?_ hHeld ?_; rotate_left 1; (· rfl); (· intro w' hSw; (try clear hHeld); go_simp; try with_reducible rfl)
  try simp only [Act.put, List.setIfInBounds_toArray, List.set_cons_zero, List.set_cons_succ]
  refine rgy (i := 31) (v := ?_) (atN rfl) (by kernel_rfl) (fun _ _ _ h => h) ?_ ?_ hHeld ?_; rotate_left 1; (· rfl); (· intro w' hSw; (try clear hHeld); go_simp; try with_reducible rfl)
  try simp only [Act.put, List.setIfInBounds_toArray, List.set_cons_zero, List.set_cons_succ]
  first | (refine rgn (i := 32) (atN rfl) (by kernel_rfl) (fun _ _ _ h => h) ?_ hHeld ?_; (· rfl)) | (refine rgy (i := 32) (v := ?_) (atN rfl) (by kernel_rfl) (fun _ _ _ h => h) ?_ ?_ hHeld ?_; rotate_left 1; (· rfl); (· intro w' hSw; (try clear hHeld); go_simp; try with_reducible rfl))
  try simp only [Act.put, List.setIfInBounds_toArray, List.set_cons_zero, List.set_cons_succ]
  first | (refine rgn (i := 33) (atN rfl) (by kernel_rfl) (fun _ _ _ h => h) ?_ hHeld ?_; (· rfl)) | (refine rg_call (i := 33) (atN rfl) (by kernel_rfl) ?_ (fun K hK => ?_); (· rfl); (try clear hb); go_simp; (refine (LEN.out _ hHeld).mono ?_; rintro e w1 ⟨rfl, hb⟩); go_wp2_with fail; refine hK.out _ _ ?_ (fun hHeld => ?_); (· exact hHeld.trans (hb.mono hHeld.size)); clear hK K)
  try simp only [Act.put, List.setIfInBounds_toArray, List.set_cons_zero, List.set_cons_succ]
  first | (refine rgn (i := 34) (atN rfl) (by kernel_rfl) (fun _ _ _ h => h) ?_ hHeld ?_; (· rfl)) | (refine rgy (i := 34) (v := ?_) (atN rfl) (by kernel_rfl) (fun _ _ _ h => h) ?_ ?_ hHeld ?_; rotate_left 1; (· rfl); (· intro w' hSw; (try clear hHeld); go_simp; try with_reducible rfl))
  try simp only [Act.put, List.setIfInBounds_toArray, List.set_cons_zero, List.set_cons_succ]
  refine rgy (i := 35) (v := ?_) (atN rfl) (by kernel_rfl) (fun _ _ _ h => h) ?_ ?_ hHeld ?_; rotate_left 1; (· rfl); (· intro w' hSw; (try clear hHeld); go_simp; try with_reducible rfl)
  try simp only [Act.put, List.setIfInBounds_toArray, List.set_cons_zero, List.set_cons_succ]
  refine rgy (i := 36) (v := ?_) (atN rfl) (by kernel_rfl) (fun _ _ _ h => h) ?_ ?_ hHeld ?_; rotate_left 1; (· rfl); (· intro w' hSw; (try clear hHeld); go_simp; try with_reducible rfl)
  try simp only [Act.put, List.setIfInBounds_toArray, List.set_cons_zero]
  refine wpAnyH_done (by kernel_rfl) ?_ _
  go_wp2_with fail
  go_ret
  exact ⟨rfl, (L12.out.below hHeld).bel⟩
end Go.Proofs.Ytadlecnlgkhneaa

/-
  AdjRoom: what the law's messages make of a rib: plain; how a law makes lists and messages.
-/
namespace Go.Proofs.Ytadlecnlgkhneaa
open Go.RowKit

theorem setOf_self {ps : List Pf} (h : Srt ps) : setOf ps = ps := setOf_is h fun _ => Iff.rfl
theorem dropAll_nil (ps : List Pf) : dropAll [] ps = [] := by
  unfold dropAll
  induction ps with
  | nil => rfl
  | cons p ps ih => exact ih
theorem filter_had_nil (ps : List Pf) : ps.filter (hadB []) = [] := by
  rw [List.filter_eq_nil_iff]
  intro p _
  simp [hadB, getL]
def R1 (ps : List Pf) (a : At) : Rts := putAll [] ps a
theorem R1_get (ps : List Pf) (a : At) (p : Pf) : getL (R1 ps a) p = if p ∈ ps then some a else none := getL_putAll a ps [] p
theorem R1_ap (ps : List Pf) (a : At) : KeysApart (R1 ps a) := apart_putAll a ps (by simp [KeysApart])
theorem R1_len {ps : List Pf} (h : Srt ps) (a : At) : (R1 ps a).length = ps.length := by
  unfold R1
  rw [len_putAll a ps [] (srt_nodup h) (fun p _ => rfl)]
  simp
theorem rights_all {ps : List Pf} (h : ∀ p ∈ ps, rightB p.1 p.2 = true) : rights ps = true := by
  unfold rights
  rw [List.all_eq_true]
  exact h
theorem room_1 {ps : List Pf} {a : At} {N : Int} (h : Srt ps) (hr : ∀ p ∈ ps, rightB p.1 p.2 = true) (ha : passB a.path 9 = false) (hN : (ps.length : Int) = N) : ∃ T, updP 9 N [] 2 [] ps a = (0, T, R1 ps a) := by
  have h1 : saidP [] ps = ps := setOf_self h
  have h2 : netsP 9 ps a = ps := by unfold netsP; rw [ha]; exact setOf_self h
  have h3 : cntP [] ps ps = N := by unfold cntP; rw [filter_had_nil]; simpa using hN
  refine ⟨ps.filter (turnB [] ps a), ?_⟩
  unfold updP
  rw [if_pos rfl, h1, h2, h3, if_pos (rights_all (by simpa using hr)), if_neg (by omega), dropAll_nil]
  rfl
theorem room_2 {R : Rts} {a : At} {N : Int} {p : Pf} (hp : rightB p.1 p.2 = true) (hno : getL R p = none) (hl : (R.length : Int) = N) (ha : passB a.path 9 = false) : updP 9 N R 2 [] [p] a = (32, [], R) := by
  have h1 : saidP [] [p] = [p] := setOf_one p
  have h2 : netsP 9 [p] a = [p] := by unfold netsP; rw [ha]; exact setOf_one p
  have h3 : cntP R [p] [p] = N + 1 := by
    unfold cntP
    have : [p].filter (hadB R) = [] := by simp [hadB, hno]
    rw [this]
    simp; omega
  unfold updP
  rw [if_pos rfl, h1, h2, h3, if_pos (rights_all (by simpa using hp)), if_pos (by omega)]
theorem room_3 {R : Rts} {a : At} {N : Int} {p q : Pf} (hap : KeysApart R) (hp : rightB p.1 p.2 = true) (hq : rightB q.1 q.2 = true) (hpq : plt p q) (hyes : (getL R p).isSome = true) (hno : getL R q = none) (hl : (R.length : Int) = N) (ha : passB a.path 9 = false) :
    ∃ T R3, updP 9 N R 2 [p] [q] a = (0, T, R3) ∧ (R3.length : Int) = N := by
  have h1 : saidP [p] [q] = [p, q] := setOf_two' hpq
  have h2 : netsP 9 [q] a = [q] := by unfold netsP; rw [ha]; exact setOf_one q
  have nd : [p, q].Nodup := srt_nodup (by simp [Srt, hpq])
  have hf : [p, q].filter (hadB R) = [p] := by simp [hadB, hyes, hno]
  have hd := len_dropAll hap nd
  rw [hf] at hd
  simp only [List.length_cons, List.length_nil] at hd
  have h3 : cntP R [p, q] [q] = N := by
    unfold cntP
    rw [hf]
    simp; omega
  refine ⟨[p, q].filter (turnB R [q] a), putAll (dropAll R [p, q]) [q] a, ?_, ?_⟩
  · unfold updP
    rw [if_pos rfl, h1, h2, h3, if_pos (rights_all (by intro x hx; simp at hx; rcases hx with rfl | rfl <;> assumption)), if_neg (by omega)]
  · rw [len_putAll a [q] _ (by simp) (fun x hx => by simp at hx; subst hx; rw [getL_dropAll]; simp)]
    simp only [List.length_cons, List.length_nil]
    omega
/-! ### the law's lists -/
def netsL (k : Nat) : List Pf := (List.range k).map netP
theorem netsL_len (k : Nat) : (netsL k).length = k := by simp [netsL]
theorem netsL_snoc (k : Nat) : netsL (k + 1) = netsL k ++ [netP k] := by simp [netsL, List.range_succ]
theorem netsL_srt (k : Nat) : Srt (netsL k) := by
  unfold netsL Srt
  rw [List.pairwise_map]
  exact List.pairwise_lt_range.imp fun h => netP_lt h
theorem netsL_mem {k : Nat} {p : Pf} : p ∈ netsL k ↔ ∃ i, i < k ∧ p = netP i := by
  simp [netsL, eq_comm]
/-- a slice of one prefix is made, within a region. -/
theorem pf_one_k {W : World} {p : World → Prop} {x : Pf} (hx : OkP x) (h : ∀ w1, PsAt w1 (.slice (some ⟨W.heap.size, 0, none⟩) 1 1) [x] → Below W.heap.size W w1 → p w1) : p (W.alloc (.cells #[.int .u32 x.1, .int .i64 x.2] 29)) :=
  h _ (psAt_new W x 29 hx) ((Below.refl _ _).alloc (Nat.le_refl _) _)
end Go.Proofs.Ytadlecnlgkhneaa

/-
  PLAIN LAWS ON BITS OF WHOLE NUMBERS: an int under a mask of its lowest bits; two numbers laid side by side.
-/
namespace Go.Proofs.Ytadlecnlgkhneaa

theorem ofInt64_nat (x : Int) : (BitVec.ofInt 64 x).toNat = (x % 18446744073709551616).toNat := by
  rw [BitVec.toNat_ofInt]; rfl
/-- an int's lowest k bits: what is left by 2^k. -/
theorem and_low_i64 (x : Int) (k : Nat) (hk : k ≤ 62) : bits .and .i64 x ((2 ^ k - 1 : Nat) : Int) = x % ((2 ^ k : Nat) : Int) := by
  have hp : 0 < 2 ^ k := Nat.two_pow_pos k
  have hle : 2 ^ k ≤ 2 ^ 62 := Nat.pow_le_pow_right (by decide) hk
  show IntKind.i64.wrap ((BitVec.ofInt 64 x &&& BitVec.ofInt 64 ((2 ^ k - 1 : Nat) : Int)).toNat : Int) = _
  rw [BitVec.toNat_and, ofInt64_nat, ofInt64_nat]
  have e1 : ((((2 ^ k - 1 : Nat) : Int)) % 18446744073709551616).toNat = 2 ^ k - 1 := by omega
  rw [e1, Nat.and_two_pow_sub_one_eq_mod]
  have hd : ((2 ^ k : Nat) : Int) ∣ 18446744073709551616 := by
    refine ⟨((2 ^ (64 - k) : Nat) : Int), ?_⟩
    rw [← Int.natCast_mul, ← Nat.pow_add, show k + (64 - k) = 64 by omega]
    decide
  have h0 : 0 ≤ x % 18446744073709551616 := Int.emod_nonneg _ (by decide)
  have e2 : (((x % 18446744073709551616).toNat % 2 ^ k : Nat) : Int) = x % ((2 ^ k : Nat) : Int) := by
    rw [Int.natCast_emod, Int.toNat_of_nonneg h0, Int.emod_emod_of_dvd _ hd]
  rw [e2]
  have h1 := Int.emod_nonneg x (show ((2 ^ k : Nat) : Int) ≠ 0 by omega)
  have h2 := Int.emod_lt_of_pos x (show (0 : Int) < ((2 ^ k : Nat) : Int) by omega)
  exact IntWalk.i64_in _ (by omega)
theorem and_15 (x : Int) : bits .and .i64 x 15 = x % 16 := and_low_i64 x 4 (by decide)
theorem and_31 (x : Int) : bits .and .i64 x 31 = x % 32 := and_low_i64 x 5 (by decide)
theorem and_63 (x : Int) : bits .and .i64 x 63 = x % 64 := and_low_i64 x 6 (by decide)
theorem and_255 (x : Int) : bits .and .i64 x 255 = x % 256 := and_low_i64 x 8 (by decide)
theorem and_1023 (x : Int) : bits .and .i64 x 1023 = x % 1024 := and_low_i64 x 10 (by decide)
theorem and_65535 (x : Int) : bits .and .i64 x 65535 = x % 65536 := and_low_i64 x 16 (by decide)
/-- two numbers of 16 bits side by side. -/
theorem or_side (h l : Int) (h0 : 0 ≤ h) (h1 : h < 65536) (l0 : 0 ≤ l) (l1 : l < 65536) : bits .or .i64 (h * 65536) l = h * 65536 + l := by
  obtain ⟨x, rfl⟩ := Int.eq_ofNat_of_zero_le h0
  obtain ⟨y, rfl⟩ := Int.eq_ofNat_of_zero_le l0
  show IntKind.i64.wrap ((BitVec.ofInt 64 ((x : Int) * 65536) ||| BitVec.ofInt 64 (y : Int)).toNat : Int) = _
  rw [BitVec.toNat_or, ofInt64_nat, ofInt64_nat]
  have e1 : (((x : Int) * 65536) % 18446744073709551616).toNat = 2 ^ 16 * x := by omega
  have e2 : (((y : Int)) % 18446744073709551616).toNat = y := by omega
  rw [e1, e2, ← Nat.two_pow_add_eq_or_of_lt (by omega)]
  rw [IntWalk.i64_in _ (by omega)]
  omega
end Go.Proofs.Ytadlecnlgkhneaa

/-
  The laws on adj: which messages are let go; attributes that are handed in.
-/
namespace Go.Proofs.Ytadlecnlgkhneaa
open Go.RowKit Go.ChangeShapes Go.WideShapes

def bigB (m : MV) : Bool := (((decide ((m.gn : Int) > 20) || decide ((m.nn : Int) > 20)) || decide ((m.a.pn : Int) > 6)) || decide ((m.a.cn : Int) > 40)) || decide ((m.a.on : Int) > 5)
theorem big_is {m : MV} {c1 c2 c3 c4 c5 : Bool} (h1 : decide ((m.gn : Int) > 20) = c1) (h2 : decide ((m.nn : Int) > 20) = c2) (h3 : decide ((m.a.pn : Int) > 6) = c3) (h4 : decide ((m.a.cn : Int) > 40) = c4) (h5 : decide ((m.a.on : Int) > 5) = c5) : bigB m = ((((c1 || c2) || c3) || c4) || c5) := by
  unfold bigB
  rw [h1, h2, h3, h4, h5]
set_option maxHeartbeats 1600000 in
set_option maxRecDepth 100000 in
theorem l_big (m : MV) (w : World) : Calls Try.prog 12 #[m.V] w fun e w' => e = .returned (.bool (bigB m)) ∧ Below w.heap.size w w' := by
  have HB := Lib.hid (fun c1 c2 c3 c4 c5 => big_is (m := m) (c1 := c1) (c2 := c2) (c3 := c3) (c4 := c4) (c5 := c5))
  generalize bigB m = z at HB ⊢
  go_enter Try.func12, Try.ntmps12
  go_upto_region 1 with (fail)
  obtain ⟨W0, hW0, q0, hb0, -⟩ := box1 w m.C 43
  rw [← hW0]
  clear hW0
  have k5 : W0.cell? ⟨w.heap.size, 5, none⟩ = some (.slice m.gs m.gn m.gc) := row_cell q0 5
  have k16 : W0.cell? ⟨w.heap.size, 16, none⟩ = some (.slice m.ns m.nn m.nc) := row_cell q0 16
  have k8 : W0.cell? ⟨w.heap.size, 8, none⟩ = some (.slice m.a.ps m.a.pn m.a.pc) := row_cell q0 8
  have k14 : W0.cell? ⟨w.heap.size, 14, none⟩ = some (.slice m.a.cs m.a.cn m.a.cc) := row_cell q0 14
  have k15 : W0.cell? ⟨w.heap.size, 15, none⟩ = some (.slice m.a.os m.a.on m.a.oc) := row_cell q0 15
  have B0 := Lib.hid hb0
  clear q0 hb0
  rcases hc1 : decide ((m.gn : Int) > 20) with _ | _
  · rcases hc2 : decide ((m.nn : Int) > 20) with _ | _
    · rcases hc3 : decide ((m.a.pn : Int) > 6) with _ | _
      · rcases hc4 : decide ((m.a.cn : Int) > 40) with _ | _
        · rcases hc5 : decide ((m.a.on : Int) > 5) with _ | _
          · have Z := Lib.hid (HB.out _ _ _ _ _ hc1 hc2 hc3 hc4 hc5)
            go_wp2_with fail
            go_ret
            exact ⟨ret_bool Z.out.symm, B0.out⟩
          · have Z := Lib.hid (HB.out _ _ _ _ _ hc1 hc2 hc3 hc4 hc5)
            go_wp2_with fail
            go_ret
            exact ⟨ret_bool Z.out.symm, B0.out⟩
        · have Z : Hid (z = true) := Lib.hid (by have := HB.out _ _ _ _ _ hc1 hc2 hc3 hc4 rfl; simpa using this)
          go_wp2_with fail
          go_ret
          exact ⟨ret_bool Z.out.symm, B0.out⟩
      · have Z : Hid (z = true) := Lib.hid (by have := HB.out _ _ _ _ _ hc1 hc2 hc3 rfl rfl; simpa using this)
        go_wp2_with fail
        go_ret
        exact ⟨ret_bool Z.out.symm, B0.out⟩
    · have Z : Hid (z = true) := Lib.hid (by have := HB.out _ _ _ _ _ hc1 hc2 rfl rfl rfl; simpa using this)
      go_wp2_with fail
      go_ret
      exact ⟨ret_bool Z.out.symm, B0.out⟩
  · have Z : Hid (z = true) := Lib.hid (by have := HB.out _ _ _ _ _ hc1 rfl rfl rfl rfl; simpa using this)
    go_wp2_with fail
    go_ret
    exact ⟨ret_bool Z.out.symm, B0.out⟩
theorem and_127 (x : Int) : bits .and .i64 x 127 = x % 128 := and_low_i64 x 7 (by decide)
set_option maxRecDepth 100000 in
/-- attributes that are handed in, as a value. -/
theorem open_av {H : Type} {enc : TypeId × Value → H} {w : World} {base : Nat} {spare : Nat → Bool} {held : Bool} {v : Value} {d : DataW H} {p : List MemPlace} {r : Reach} {b0 : Nat} (hv : Value.okWide Try.prog w r b0 35 v) (h : DataW.Trod enc Try.prog w base spare held 35 v d p) (hz : Sz Try.prog 35 d) :
    ∃ (a : At) (u : AV), v = u.V ∧ AvAt w a u ∧ AtSz a := by
  obtain ⟨a, vp, vc, vo, rfl, -, hl, hs⟩ := open_at_sz hv h hz
  obtain ⟨u, hu, ha⟩ := av_of hl
  exact ⟨a, u, hu.symm, ha, hs⟩
set_option maxRecDepth 100000 in
theorem open_boolv {w : World} {r : Reach} {b0 : Nat} {v : Value} (hv : Value.okWide Try.prog w r b0 4 v) : ∃ b, v = .bool b := okWide_bool Try.underlying4 hv
theorem LR.av {w W W' : World} {rb : Nat} {peer own most : Int} {R : Rts} {F : Nat → Prop} {a : At} {u : AV} (h : LR w W rb peer own most R F) (ha : AvAt w a u) (hk : Kept F W W') : AvAt W' a u := ha.below (h.bel.trans (hk.below h.bel.size h.fw))
/-! ### AdjLast: plain -/
theorem last_1 {p : Pf} {a : At} (hp : rightB p.1 p.2 = true) (ha : passB a.path 9 = false) : ∃ T, updP 9 5 [] 2 [] [p] a = (0, T, [(p, a)]) := by
  have h1 : saidP [] [p] = [p] := setOf_one p
  have h2 : netsP 9 [p] a = [p] := by unfold netsP; rw [ha]; exact setOf_one p
  refine ⟨[p].filter (turnB [] [p] a), ?_⟩
  unfold updP
  rw [if_pos rfl, h1, h2, if_pos (rights_all (by simpa using hp)), if_neg (by simp [cntP, hadB, getL])]
  rfl
theorem getL_self (p : Pf) (a : At) : getL [(p, a)] p = some a := by simp [getL]
theorem delL_self (p : Pf) (a : At) : delL [(p, a)] p = [] := by simp [delL]
theorem last_2 {p : Pf} {a b : At} (hp : rightB p.1 p.2 = true) (hb : passB b.path 9 = false) : updP 9 5 [(p, a)] 2 [] [p] b = (0, if sameA a b then [] else [p], [(p, b)]) := by
  have h1 : saidP [] [p] = [p] := setOf_one p
  have h2 : netsP 9 [p] b = [p] := by unfold netsP; rw [hb]; exact setOf_one p
  have h3 : [p].filter (turnB [(p, a)] [p] b) = if sameA a b then [] else [p] := by
    have : turnB [(p, a)] [p] b p = !(sameA a b) := by unfold turnB; rw [getL_self]; simp
    rw [List.filter_cons, this]
    cases sameA a b <;> simp
  have h4 : putAll (dropAll [(p, a)] [p]) [p] b = [(p, b)] := by
    show putP (delL [(p, a)] p) p b = _
    rw [delL_self]
    rfl
  unfold updP
  rw [if_pos rfl, h1, h2, if_pos (rights_all (by simpa using hp)), if_neg (by simp [cntP, hadB, getL_self]), h3, h4]
theorem last_3 {p : Pf} {a : At} (hp : rightB p.1 p.2 = true) : updP 9 5 [(p, a)] 2 [p] [] (atK 0) = (0, [p], []) := by
  have h1 : saidP [p] [] = [p] := setOf_one p
  have h2 : netsP 9 [] (atK 0) = [] := setOf_nil
  have h3 : [p].filter (turnB [(p, a)] [] (atK 0)) = [p] := by
    have : turnB [(p, a)] [] (atK 0) p = true := by unfold turnB; rw [getL_self]; simp
    simp [this]
  have h4 : putAll (dropAll [(p, a)] [p]) [] (atK 0) = [] := delL_self p a
  unfold updP
  rw [if_pos rfl, h1, h2, if_pos (rights_all (by simpa using hp)), if_neg (by simp [cntP, hadB, getL_self]), h3, h4]
end Go.Proofs.Ytadlecnlgkhneaa
