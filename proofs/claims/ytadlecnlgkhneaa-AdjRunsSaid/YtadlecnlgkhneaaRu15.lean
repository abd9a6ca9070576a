/- Texts of one proof, one behind another. -/
import Derived.Test.YtadlecnlgkhneaaRu14
import Derived.Test.YtadlecnlgkhneaaRu12
import Derived.Test.YtadlecnlgkhneaaRu8
import Derived.Test.YtadlecnlgkhneaaRu1
/-
  THE EXAMPLE OF THE LAWS ON ADJ; a rib of the law's own.
-/
namespace Go.Proofs.Ytadlecnlgkhneaa
open Go.RowKit

/-- the law's prefix of a number. -/
def netP (n : Nat) : Pf := ((n * 16777216 : Nat), 8)
theorem netP_ok {n : Nat} (h : n < 256) : OkP (netP n) := by unfold netP OkP; simp only; omega
theorem netP_right (n : Nat) : rightB (netP n).1 (netP n).2 = true := by
  unfold netP
  have : rightB ((n * 16777216 : Nat) : Int) ((8 : Nat) : Int) = true := right_mod.2 ⟨by simp, by decide⟩
  exact this
theorem netP_rgt {n : Nat} (h : n < 256) : RgtP (netP n) := ⟨netP_ok h, netP_right n⟩
theorem netP_inj {n k : Nat} (h : netP n = netP k) : n = k := by
  unfold netP at h
  simp only [Prod.mk.injEq, and_true] at h
  omega
theorem netP_lt {n k : Nat} (h : n < k) : plt (netP n) (netP k) := by
  unfold plt netP
  simp only
  omega
set_option maxHeartbeats 400000 in
theorem l_net (n : Nat) (h : n < 256) (w : World) : Calls Try.prog 9 #[.int .i64 n] w fun e w' => e = .returned (.agg #[.int .u32 (netP n).1, .int .i64 (netP n).2]) ∧ Below w.heap.size w w' := by
  have z1 : IntKind.u32.wrap (n : Int) = n := by unfold IntKind.wrap IntKind.bits IntKind.signed; simp; omega
  go_enter Try.func9, Try.ntmps9
  go_wp2_with fail
  exact bodyPost_ret (v := .agg #[.int .u32 ((n : Int) * 16777216), .int .i64 8]) (by simp [results, Try.results9, go_sem]) rfl ⟨by unfold netP; simp, (Below.refl _ _).alloc (Nat.le_refl _) _⟩
/-- attributes that say little. -/
def atK (has : Int) : At := ⟨has, 0, [], 0, 0, 0, 0, 0, [], []⟩
def avK (has : Int) : AV := ⟨has, 0, none, 0, 0, 0, 0, 0, 0, 0, none, 0, 0, none, 0, 0⟩
theorem avK_at (has : Int) (W : World) : AvAt W (atK has) (avK has) := ⟨none, 0, none, 0, none, 0, rfl, SlAt.nil, SlAt.nil, SlAt.nil⟩
theorem atK_sz (has : Int) : AtSz (atK has) := ⟨by simp [atK], by simp [atK], by simp [atK], by simp [atK], by simp [atK]⟩
/-- a message of the law's own. -/
abbrev mgV (gs : Option Addr) (gn gc : Nat) (a : AV) (ns : Option Addr) (nn nc : Nat) : MV := ⟨2, 0, 0, 0, none, 0, 0, gs, gn, gc, a, ns, nn, nc, 0, 0, ⟨#[]⟩⟩
/-- a rib of the call's own. -/
structure LR (w W : World) (rb : Nat) (peer own most : Int) (R : Rts) (F : Nat → Prop) : Prop where
  rib : RibAt W rb peer own most R F
  fw : ∀ k, F k → w.heap.size ≤ k
  flt : ∀ k, F k → k < W.heap.size
  bel : Below w.heap.size w W
section
variable {w W W' : World} {rb : Nat} {peer own most : Int} {R : Rts} {F : Nat → Prop}
theorem LR.below (h : LR w W rb peer own most R F) (hb : Below W.heap.size W W') : LR w W' rb peer own most R F :=
  ⟨h.rib.below hb, h.fw, fun k hk => Nat.lt_of_lt_of_le (h.flt k hk) hb.size, below_on h.bel hb⟩
theorem LR.kept {G : Nat → Prop} (h : LR w W rb peer own most R F) (hk : Kept G W W') (hG : ∀ k, F k → ¬ G k) (hw : ∀ k, G k → w.heap.size ≤ k) : LR w W' rb peer own most R F :=
  ⟨h.rib.kept hk (fun k _ hF => hG k hF), h.fw, fun k hF => Nat.lt_of_lt_of_le (h.flt k hF) hk.size, h.bel.trans (hk.below h.bel.size hw)⟩
/-- what Update makes of it. -/
theorem LR.upd {r : Int × List Pf × Rts} {e : Ending} (h : LR w W rb peer own most R F) (hp : UpdPost rb peer own most F W r e W') :
    ∃ v F', e = .returned (.tuple #[v, .int .i64 r.1]) ∧ OwnPs W' W.heap.size v r.2.1 ∧ LR w W' rb peer own most r.2.2 F' ∧ (∀ k, F' k → F k ∨ W.heap.size ≤ k) ∧ (∀ k, v.ownBlock = some k → ¬ F' k) ∧ Kept F W W' := by
  obtain ⟨v, F', h1, h2, h3, h4, h5, h6⟩ := hp
  refine ⟨v, F', h1, h2, ⟨h3, ?_, ?_, h.bel.trans (h6.below h.bel.size h.fw)⟩, fun k hk => (h4 k hk).imp_right fun h => h.1, h5, h6⟩
  · intro k hk
    rcases h4 k hk with hk | hk
    · exact h.fw k hk
    · have := h.bel.size; omega
  · intro k hk
    rcases h4 k hk with hk | hk
    · exact Nat.lt_of_lt_of_le (h.flt k hk) h6.size
    · exact hk.2
theorem lr_new {most0 : Int} (hB : Below w.heap.size w W) (h : RibAt W' rb peer own (min (max most0 0) 256) [] (fun k => W.heap.size ≤ k ∧ k < W'.heap.size)) (hb : Below W.heap.size W W') : LR w W' rb peer own (min (max most0 0) 256) [] (fun k => W.heap.size ≤ k ∧ k < W'.heap.size) :=
  ⟨h, fun _ hk => Nat.le_trans hB.size hk.1, fun _ hk => hk.2, below_on hB hb⟩
end
theorem calls_belowS {P : Program} {f : FuncId} {args : Array Value} {w : World} {x : Ending} (h : Calls P f args w fun e w' => e = x ∧ w = w') : Calls P f args w fun e w' => e = x ∧ Below w.heap.size w w' := h.mono fun _ _ ⟨a, b⟩ => ⟨a, b ▸ Below.refl _ _⟩
/-! ### the example -/
theorem setOf_two {a b : Pf} (h : plt a b) : setOf [b, a] = [a, b] := setOf_is (by simp [Srt, h]) (fun p => by simp [or_comm])
theorem setOf_two' {a b : Pf} (h : plt a b) : setOf [a, b] = [a, b] := setOf_is (by simp [Srt, h]) (fun p => by simp)
theorem setOf_one (a : Pf) : setOf [a] = [a] := setOf_is (by simp [Srt]) (fun p => by simp)
theorem setOf_nil : setOf [] = [] := setOf_is (by simp [Srt]) (fun p => by simp)
theorem upd_1 : updP 9 5 [] 2 [] [netP 2, netP 1] (atK 14) = (0, [netP 1, netP 2], [(netP 1, atK 14), (netP 2, atK 14)]) := by
  have h1 : saidP [] [netP 2, netP 1] = [netP 1, netP 2] := setOf_two (netP_lt (by decide))
  have h2 : netsP 9 [netP 2, netP 1] (atK 14) = [netP 1, netP 2] := setOf_two (netP_lt (by decide))
  unfold updP
  rw [h1, h2]
  rfl
theorem upd_2 : updP 9 5 [(netP 1, atK 14), (netP 2, atK 14)] 2 [netP 1, netP 3] [] (atK 0) = (0, [netP 1], [(netP 2, atK 14)]) := by
  have h1 : saidP [netP 1, netP 3] [] = [netP 1, netP 3] := setOf_two' (netP_lt (by decide))
  have h2 : netsP 9 [] (atK 0) = [] := setOf_nil
  unfold updP
  rw [h1, h2]
  rfl
theorem new_two (W : World) (x y : Pf) (T : TypeId) (hx : OkP x) (hy : OkP y) : PsAt (W.alloc (.cells #[.int .u32 x.1, .int .i64 x.2, .int .u32 y.1, .int .i64 y.2] T)) (.slice (some ⟨W.heap.size, 0, none⟩) 2 2) [x, y] := by
  refine ⟨_, 2, rfl, Nat.le_refl _, by simp [maxLen], fun _ => ⟨W.heap.size, 0, rfl, fun i z hz => ?_⟩⟩
  match i, hz with
  | 0, hz =>
    simp at hz
    subst hz
    refine ⟨encP x, rfl, ⟨rfl, hx⟩, fun j c hc => ?_⟩
    rw [row_cell (heap_alloc_new W _)]
    match j, hc with
    | 0, hc => simpa [encP] using hc
    | 1, hc => simpa [encP] using hc
  | 1, hz =>
    simp at hz
    subst hz
    refine ⟨encP y, rfl, ⟨rfl, hy⟩, fun j c hc => ?_⟩
    rw [row_cell (heap_alloc_new W _)]
    match j, hc with
    | 0, hc => simpa [encP] using hc
    | 1, hc => simpa [encP] using hc
set_option maxHeartbeats 3200000 in
set_option maxRecDepth 100000 in
theorem law_head (w : World) : Calls Try.prog 7 #[] w fun e w' => e = .returned (.bool true) ∧ Below w.heap.size w w' := by
  have n1 := Lib.hid (l_net 1 (by decide))
  have n2 := Lib.hid (l_net 2 (by decide))
  have n3 := Lib.hid (l_net 3 (by decide))
  have UP := Lib.hid (fun W rb F v (h : LR w W rb 1 9 (min (max 5 0) 256) [] F) (hv : PsAt W v [netP 2, netP 1]) s n c (hs : v = .slice s n c) => by
    have := ad_Update (mgV none 0 0 (avK 14) s n c) [] [netP 2, netP 1] (atK 14) W h.rib SlAt.nil (by rw [hs] at hv; exact hv) (fun W _ => avK_at 14 W) (by simp) (atK_sz 14)
    rw [show updP 9 (min (max 5 0) 256) [] (mgV none 0 0 (avK 14) s n c).kind [] [netP 2, netP 1] (atK 14) = _ from upd_1] at this
    exact this)
  have UP2 := Lib.hid (fun W rb F v (h : LR w W rb 1 9 (min (max 5 0) 256) [(netP 1, atK 14), (netP 2, atK 14)] F) (hv : PsAt W v [netP 1, netP 3]) s n c (hs : v = .slice s n c) => by
    have := ad_Update (mgV s n c (avK 0) none 0 0) [netP 1, netP 3] [] (atK 0) W h.rib (by rw [hs] at hv; exact hv) SlAt.nil (fun W _ => avK_at 0 W) (by simp) (atK_sz 0)
    rw [show updP 9 (min (max 5 0) 256) [(netP 1, atK 14), (netP 2, atK 14)] (mgV s n c (avK 0) none 0 0).kind [netP 1, netP 3] [] (atK 0) = _ from upd_2] at this
    exact this)
  go_enter Try.func7, Try.ntmps7
  go_wp2_with fail
  refine (ad_New 1 9 5 w).mono ?_
  rintro e w1 ⟨rb, rfl, hr, hb⟩
  have L1 := Lib.hid (lr_new (Below.refl _ _) hr hb)
  clear hr hb
  generalize (fun k => w.heap.size ≤ k ∧ k < w1.heap.size : Nat → Prop) = F1 at L1
  go_wp2_with fail
  refine (n2.out w1).mono ?_
  rintro e w2 ⟨rfl, hb⟩
  have L2 := Lib.hid (L1.out.below hb)
  clear hb L1
  go_wp2_with fail
  refine (n1.out w2).mono ?_
  rintro e w3 ⟨rfl, hb⟩
  have L3 := Lib.hid (L2.out.below hb)
  clear hb L2
  go_wp2_with fail
  obtain ⟨W4, hW4⟩ : ∃ W4, W4 = w3.alloc (.cells #[.int .u32 (netP 2).1, .int .i64 (netP 2).2, .int .u32 (netP 1).1, .int .i64 (netP 1).2] 29) := ⟨_, rfl⟩
  have hb4 : Below w3.heap.size w3 W4 := by rw [hW4]; exact (Below.refl _ _).alloc (Nat.le_refl _) _
  have P4 := new_two w3 (netP 2) (netP 1) 29 (netP_ok (by decide)) (netP_ok (by decide))
  rw [← hW4] at P4 ⊢
  clear hW4
  have L4 := Lib.hid (L3.out.below hb4)
  refine (UP.out W4 rb F1 _ L4.out P4 _ 2 2 rfl).mono ?_
  intro e w5 hp
  obtain ⟨v5, F5, rfl, o5, l5, f5, d5, k5⟩ := L4.out.upd hp
  have L5 : Hid (LR w w5 rb 1 9 (min (max 5 0) 256) [(netP 1, atK 14), (netP 2, atK 14)] F5) := Lib.hid l5
  have O5 : Hid (PsAt w5 v5 [netP 1, netP 2]) := Lib.hid o5.at
  have OW5 : Hid (OwnPs w5 W4.heap.size v5 [netP 1, netP 2]) := Lib.hid o5
  have N5 := Lib.hid d5
  obtain ⟨s5, c5, hv5, -⟩ := O5.out
  subst hv5
  clear hp hb4 P4 L3 L4 UP l5 o5 f5 d5 k5
  go_wp2_with fail
  refine (n1.out w5).mono ?_
  rintro e w6 ⟨rfl, hb6⟩
  have L6 := Lib.hid (L5.out.below hb6)
  have OW6 := Lib.hid (OW5.out.below hb6)
  clear hb6 L5 OW5 O5
  go_wp2_with fail
  refine (n3.out w6).mono ?_
  rintro e w7 ⟨rfl, hb7⟩
  have L7 := Lib.hid (L6.out.below hb7)
  have OW7 := Lib.hid (OW6.out.below hb7)
  clear hb7 L6 OW6
  go_wp2_with fail
  obtain ⟨W8, hW8⟩ : ∃ W8, W8 = w7.alloc (.cells #[.int .u32 (netP 1).1, .int .i64 (netP 1).2, .int .u32 (netP 3).1, .int .i64 (netP 3).2] 29) := ⟨_, rfl⟩
  have hb8 : Below w7.heap.size w7 W8 := by rw [hW8]; exact (Below.refl _ _).alloc (Nat.le_refl _) _
  have P8 := new_two w7 (netP 1) (netP 3) 29 (netP_ok (by decide)) (netP_ok (by decide))
  rw [← hW8] at P8 ⊢
  clear hW8
  have L8 := Lib.hid (L7.out.below hb8)
  have OW8 := Lib.hid (OW7.out.below hb8)
  refine (UP2.out W8 rb F5 _ L8.out P8 _ 2 2 rfl).mono ?_
  intro e w9 hp
  obtain ⟨v9, F9, rfl, o9, l9, f9, d9, k9⟩ := L8.out.upd hp
  have L9 : Hid (LR w w9 rb 1 9 (min (max 5 0) 256) [(netP 2, atK 14)] F9) := Lib.hid l9
  have O9 : Hid (PsAt w9 v9 [netP 1]) := Lib.hid o9.at
  have A9 : Hid (PsAt w9 (.slice s5 2 c5) [netP 1, netP 2]) := Lib.hid (OW8.out.kept k9 (fun g hg hF => N5.out g hg hF)).at
  obtain ⟨s9, c9, hv9, -⟩ := O9.out
  subst hv9
  clear hp hb8 P8 L7 L8 UP2 l9 o9 f9 d9 k9 OW7 OW8 N5
  go_wp2_with fail
  refine (n2.out w9).mono ?_
  rintro e w10 ⟨rfl, hb10⟩
  have L10 := Lib.hid (L9.out.below hb10)
  have A10 := Lib.hid (A9.out.below hb10)
  clear hb10 L9 A9 O9
  go_wp2_with fail
  refine (ad_Get (netP 2) w10 L10.out.rib (netP_ok (by decide))).mono ?_
  rintro e w11 (⟨hg, _⟩ | ⟨a, v, hg, rfl, -, fr, hb11⟩)
  · exact absurd hg (by decide +kernel)
  have L11 := Lib.hid (L10.out.below hb11)
  have A11 := Lib.hid (A10.out.below hb11)
  clear hg fr hb11 L10 A10
  go_upto_region 5 with (fail)
  obtain ⟨W12, hW12, q12, hb12, -⟩ := box1 w11 (rtC 1 (netP 2) v) 48
  rw [← hW12]
  clear hW12
  have cp : W12.cell? ⟨w11.heap.size, 0, none⟩ = some (.int .i64 1) := row_cell q12 0
  have L12 := Lib.hid (L11.out.below hb12)
  have A12 := A11.out.below hb12
  clear q12 hb12 L11 A11
  have LEN := Lib.hid (fun W (hb : Below W12.heap.size W12 W) => calls_belowS (ad_Len (L12.out.rib.below hb)))
  obtain ⟨sa, cap, hsv, hlc, hcm, hV⟩ := A12
  injection hsv with e1 e2 e3
  obtain ⟨b, off, hsa, hP⟩ := hV (by decide)
  obtain ⟨x0, x1⟩ := ps_two (i := 0) (x := netP 1) hP rfl
  rw [hsa] at e1
  subst e1
  simp only [Nat.zero_mul, Nat.add_zero] at x0 x1
  clear hP hV hsa e2 e3 hlc hcm
  refine wp_region_held_drew (S := fun w' => Below W12.heap.size W12 w') (by kernel_rfl) ?_ (fun hHeld => ?_)
  · exact (Below.refl _ _).drew
  refine rgy (i := 0) (v := ?_) (atN rfl) (by kernel_rfl) (fun _ _ _ h => h) ?_ ?_ hHeld ?_; rotate_left 1; (· rfl); (· intro w' hSw; (try clear hHeld); go_simp; try with_reducible rfl)
  try simp only [Act.put, List.setIfInBounds_toArray, List.set_cons_zero, List.set_cons_succ]
  refine rgy (i := 1) (v := ?_) (atN rfl) (by kernel_rfl) (fun _ _ _ h => h) ?_ ?_ hHeld ?_; rotate_left 1; (· rfl); (· intro w' hSw; (try clear hHeld); go_simp; try with_reducible rfl)
  try simp only [Act.put, List.setIfInBounds_toArray, List.set_cons_zero, List.set_cons_succ]
  refine rgy (i := 2) (v := ?_) (atN rfl) (by kernel_rfl) (fun _ _ _ h => h) ?_ ?_ hHeld ?_; rotate_left 1; (· rfl); (· intro w' hSw; (try clear hHeld); go_simp; try with_reducible rfl)
  try simp only [Act.put, List.setIfInBounds_toArray, List.set_cons_zero, List.set_cons_succ]
  first | (refine rgn (i := 3) (atN rfl) (by kernel_rfl) (fun _ _ _ h => h) ?_ hHeld ?_; (· rfl)) | (refine rgy (i := 3) (v := ?_) (atN rfl) (by kernel_rfl) (fun _ _ _ h => h) ?_ ?_ hHeld ?_; rotate_left 1; (· rfl); (· intro w' hSw; (try clear hHeld); go_simp; try with_reducible rfl))
  try simp only [Act.put, List.setIfInBounds_toArray, List.set_cons_zero, List.set_cons_succ]
  first | (refine rgn (i := 4) (atN rfl) (by kernel_rfl) (fun _ _ _ h => h) ?_ hHeld ?_; (· rfl)) | (refine rgy (i := 4) (v := ?_) (atN rfl) (by kernel_rfl) (fun _ _ _ h => h) ?_ ?_ hHeld ?_; rotate_left 1; (· rfl); (· intro w' hSw; (try clear hHeld); go_simp; try with_reducible rfl))
  try simp only [Act.put, List.setIfInBounds_toArray, List.set_cons_zero, List.set_cons_succ]
  refine rgy (i := 5) (v := ?_) (atN rfl) (by kernel_rfl) (fun _ _ _ h => h) ?_ ?_ hHeld ?_; rotate_left 1; (· rfl); (· intro w' hSw; (try clear hHeld); go_simp; try with_reducible rfl)
  try simp only [Act.put, List.setIfInBounds_toArray, List.set_cons_zero, List.set_cons_succ]
  refine rgy (i := 6) (v := ?_) (atN rfl) (by kernel_rfl) (fun _ _ _ h => h) ?_ ?_ hHeld ?_; rotate_left 1; (· rfl); (· intro w' hSw; (try clear hHeld); go_simp; try with_reducible rfl)
  try simp only [Act.put, List.setIfInBounds_toArray, List.set_cons_zero, List.set_cons_succ]
  first | (refine rgn (i := 7) (atN rfl) (by kernel_rfl) (fun _ _ _ h => h) ?_ hHeld ?_; (· rfl)) | (refine rgy (i := 7) (v := ?_) (atN rfl) (by kernel_rfl) (fun _ _ _ h => h) ?_ ?_ hHeld ?_; rotate_left 1; (· rfl); (· intro w' hSw; (try clear hHeld); go_simp; try with_reducible rfl))
  try simp only [Act.put, List.setIfInBounds_toArray, List.set_cons_zero, List.set_cons_succ]
  first | (refine rgn (i := 8) (atN rfl) (by kernel_rfl) (fun _ _ _ h => h) ?_ hHeld ?_; (· rfl)) | (refine rgy (i := 8) (v := ?_) (atN rfl) (by kernel_rfl) (fun _ _ _ h => h) ?_ ?_ hHeld ?_; rotate_left 1; (· rfl); (· intro w' hSw; (try clear hHeld); go_simp; try with_reducible rfl))
  try simp only [Act.put, List.setIfInBounds_toArray, List.set_cons_zero, List.set_cons_succ]
  first | (refine rgn (i := 9) (atN rfl) (by kernel_rfl) (fun _ _ _ h => h) ?_ hHeld ?_; (· rfl)) | (refine rgy (i := 9) (v := ?_) (atN rfl) (by kernel_rfl) (fun _ _ _ h => h) ?_ ?_ hHeld ?_; rotate_left 1; (· rfl); (· intro w' hSw; (try clear hHeld); go_simp; try with_reducible rfl))
  try simp only [Act.put, List.setIfInBounds_toArray, List.set_cons_zero, List.set_cons_succ]
  refine rgy (i := 10) (v := ?_) (atN rfl) (by kernel_rfl) (fun _ _ _ h => h) ?_ ?_ hHeld ?_; rotate_left 1; (· rfl); (· intro w' hSw; (try clear hHeld); go_simp; try with_reducible rfl)
  try simp only [Act.put, List.setIfInBounds_toArray, List.set_cons_zero, List.set_cons_succ]
  refine rgy (i := 11) (v := ?_) (atN rfl) (by kernel_rfl) (fun _ _ _ h => h) ?_ ?_ hHeld ?_; rotate_left 1; (· rfl); (· intro w' hSw; (try clear hHeld); go_simp; try with_reducible rfl)
  try simp only [Act.put, List.setIfInBounds_toArray, List.set_cons_zero, List.set_cons_succ]
  first | (refine rgn (i := 12) (atN rfl) (by kernel_rfl) (fun _ _ _ h => h) ?_ hHeld ?_; (· rfl)) | (refine rgy (i := 12) (v := ?_) (atN rfl) (by kernel_rfl) (fun _ _ _ h => h) ?_ ?_ hHeld ?_; rotate_left 1; (· rfl); (· intro w' hSw; (try clear hHeld); go_simp; try with_reducible rfl))
  try simp only [Act.put, List.setIfInBounds_toArray, List.set_cons_zero, List.set_cons_succ]
  first | (refine rgn (i := 13) (atN rfl) (by kernel_rfl) (fun _ _ _ h => h) ?_ hHeld ?_; (· rfl)) | (refine rgy (i := 13) (v := ?_) (atN rfl) (by kernel_rfl) (fun _ _ _ h => h) ?_ ?_ hHeld ?_; rotate_left 1; (· rfl); (· intro w' hSw; have cp := cell_below cp hSw; have x0 := cell_below x0 hSw; have x1 := cell_below x1 hSw; (try clear hHeld); go_simp; try with_reducible rfl))
  try simp only [Act.put, List.setIfInBounds_toArray, List.set_cons_zero, List.set_cons_succ]
  first | (refine rgn (i := 14) (atN rfl) (by kernel_rfl) (fun _ _ _ h => h) ?_ hHeld ?_; (· rfl)) | (refine rgy (i := 14) (v := ?_) (atN rfl) (by kernel_rfl) (fun _ _ _ h => h) ?_ ?_ hHeld ?_; rotate_left 1; (· rfl); (· intro w' hSw; have cp := cell_below cp hSw; have x0 := cell_below x0 hSw; have x1 := cell_below x1 hSw; (try clear hHeld); go_simp; try with_reducible rfl))
  try simp only [Act.put, List.setIfInBounds_toArray, List.set_cons_zero, List.set_cons_succ]
  first | (refine rgn (i := 15) (atN rfl) (by kernel_rfl) (fun _ _ _ h => h) ?_ hHeld ?_; (· rfl)) | (refine rg_call (i := 15) (atN rfl) (by kernel_rfl) ?_ (fun K hK => ?_); (· rfl); (try clear hb); go_simp; (refine (n1.out _).mono ?_; rintro e w1 ⟨rfl, hb⟩); go_wp2_with fail; refine hK.out _ _ ?_ (fun hHeld => ?_); (· exact hHeld.trans (hb.mono hHeld.size)); clear hK K)
  try simp only [Act.put, List.setIfInBounds_toArray, List.set_cons_zero, List.set_cons_succ]
  first | (refine rgn (i := 16) (atN rfl) (by kernel_rfl) (fun _ _ _ h => h) ?_ hHeld ?_; (· rfl)) | (refine rgy (i := 16) (v := ?_) (atN rfl) (by kernel_rfl) (fun _ _ _ h => h) ?_ ?_ hHeld ?_; rotate_left 1; (· rfl); (· intro w' hSw; (try clear hHeld); go_simp; try with_reducible rfl))
  try simp only [Act.put, List.setIfInBounds_toArray, List.set_cons_zero, List.set_cons_succ]
  refine rgy (i := 17) (v := ?_) (atN rfl) (by kernel_rfl) (fun _ _ _ h => h) ?_ ?_ hHeld ?_; rotate_left 1; (· rfl); (· intro w' hSw; (try clear hHeld); go_simp; try with_reducible rfl)
  try simp only [Act.put, List.setIfInBounds_toArray, List.set_cons_zero, List.set_cons_succ]
  refine rgy (i := 18) (v := ?_) (atN rfl) (by kernel_rfl) (fun _ _ _ h => h) ?_ ?_ hHeld ?_; rotate_left 1; (· rfl); (· intro w' hSw; (try clear hHeld); go_simp; try with_reducible rfl)
  try simp only [Act.put, List.setIfInBounds_toArray, List.set_cons_zero, List.set_cons_succ]
  first | (refine rgn (i := 19) (atN rfl) (by kernel_rfl) (fun _ _ _ h => h) ?_ hHeld ?_; (· rfl)) | (refine rgy (i := 19) (v := ?_) (atN rfl) (by kernel_rfl) (fun _ _ _ h => h) ?_ ?_ hHeld ?_; rotate_left 1; (· rfl); (· intro w' hSw; (try clear hHeld); go_simp; try with_reducible rfl))
  try simp only [Act.put, List.setIfInBounds_toArray, List.set_cons_zero, List.set_cons_succ]
  first | (refine rgn (i := 20) (atN rfl) (by kernel_rfl) (fun _ _ _ h => h) ?_ hHeld ?_; (· rfl)) | (refine rgy (i := 20) (v := ?_) (atN rfl) (by kernel_rfl) (fun _ _ _ h => h) ?_ ?_ hHeld ?_; rotate_left 1; (· rfl); (· intro w' hSw; (try clear hHeld); go_simp; try with_reducible rfl))
  try simp only [Act.put, List.setIfInBounds_toArray, List.set_cons_zero, List.set_cons_succ]
  first | (refine rgn (i := 21) (atN rfl) (by kernel_rfl) (fun _ _ _ h => h) ?_ hHeld ?_; (· rfl)) | (refine rgy (i := 21) (v := ?_) (atN rfl) (by kernel_rfl) (fun _ _ _ h => h) ?_ ?_ hHeld ?_; rotate_left 1; (· rfl); (· intro w' hSw; (try clear hHeld); go_simp; try with_reducible rfl))
  try simp only [Act.put, List.setIfInBounds_toArray, List.set_cons_zero, List.set_cons_succ]
  refine rgy (i := 22) (v := ?_) (atN rfl) (by kernel_rfl) (fun _ _ _ h => h) ?_ ?_ hHeld ?_; rotate_left 1; (· rfl); (· intro w' hSw; (try clear hHeld); go_simp; try with_reducible rfl)
  try simp only [Act.put, List.setIfInBounds_toArray, List.set_cons_zero, List.set_cons_succ]
  refine rgy (i := 23) (v := ?_) (atN rfl) (by kernel_rfl) (fun _ _ _ h => h) ?_ ?_ hHeld ?_; rotate_left 1; (· rfl); (· intro w' hSw; (try clear hHeld); go_simp; try with_reducible rfl)
  try simp only [Act.put, List.setIfInBounds_toArray, List.set_cons_zero, List.set_cons_succ]
  first | (refine rgn (i := 24) (atN rfl) (by kernel_rfl) (fun _ _ _ h => h) ?_ hHeld ?_; (· rfl)) | (refine rgy (i := 24) (v := ?_) (atN rfl) (by kernel_rfl) (fun _ _ _ h => h) ?_ ?_ hHeld ?_; rotate_left 1; (· rfl); (· intro w' hSw; (try clear hHeld); go_simp; try with_reducible rfl))
  try simp only [Act.put, List.setIfInBounds_toArray, List.set_cons_zero, List.set_cons_succ]
  refine rgy (i := 25) (v := ?_) (atN rfl) (by kernel_rfl) (fun _ _ _ h => h) ?_ ?_ hHeld ?_; rotate_left 1; (· rfl); (· intro w' hSw; (try clear hHeld); go_simp; try with_reducible rfl)
  try simp only [Act.put, List.setIfInBounds_toArray, List.set_cons_zero, List.set_cons_succ]
  refine rgy (i := 26) (v := ?_) (atN rfl) (by kernel_rfl) (fun _ _ _ h => h) ?_ ?_ hHeld ?_; rotate_left 1; (· rfl); (· intro w' hSw; (try clear hHeld); go_simp; try with_reducible rfl)
  try simp only [Act.put, List.setIfInBounds_toArray, List.set_cons_zero, List.set_cons_succ]
  first | (refine rgn (i := 27) (atN rfl) (by kernel_rfl) (fun _ _ _ h => h) ?_ hHeld ?_; (· rfl)) | (refine rgy (i := 27) (v := ?_) (atN rfl) (by kernel_rfl) (fun _ _ _ h => h) ?_ ?_ hHeld ?_; rotate_left 1; (· rfl); (· intro w' hSw; (try clear hHeld); go_simp; try with_reducible rfl))
  try simp only [Act.put, List.setIfInBounds_toArray, List.set_cons_zero, List.set_cons_succ]
  first | (refine rgn (i := 28) (atN rfl) (by kernel_rfl) (fun _ _ _ h => h) ?_ hHeld ?_; (· rfl)) | (refine rgy (i := 28) (v := ?_) (atN rfl) (by kernel_rfl) (fun _ _ _ h => h) ?_ ?_ hHeld ?_; rotate_left 1; (· rfl); (· intro w' hSw; have cp := cell_below cp hSw; have x0 := cell_below x0 hSw; have x1 := cell_below x1 hSw; (try clear hHeld); go_simp; try with_reducible rfl))
  try simp only [Act.put, List.setIfInBounds_toArray, List.set_cons_zero, List.set_cons_succ]
  first | (refine rgn (i := 29) (atN rfl) (by kernel_rfl) (fun _ _ _ h => h) ?_ hHeld ?_; (· rfl)) | (refine rgy (i := 29) (v := ?_) (atN rfl) (by kernel_rfl) (fun _ _ _ h => h) ?_ ?_ hHeld ?_; rotate_left 1; (· rfl); (· intro w' hSw; (try clear hHeld); go_simp; try with_reducible rfl))
  try simp only [Act.put, List.setIfInBounds_toArray, List.set_cons_zero, List.set_cons_succ]
  refine rgy (i := 30) (v := ?_) (atN rfl) (by kernel_rfl) (fun _ _ _ h => h) ?_ ?_ hHeld ?_; rotate_left 1; (· rfl); (· intro w' hSw; (try clear hHeld); go_simp; try with_reducible rfl)
  try simp only [Act.put, List.setIfInBounds_toArray, List.set_cons_zero, List.set_cons_succ]
  refine rgy (i := 31) (v := ?_) (atN rfl) (by kernel_rfl) (fun _ _ _ h => h) ?_ ?_ hHeld ?_; rotate_left 1; (· rfl); (· intro w' hSw; (try clear hHeld); go_simp; try with_reducible rfl)
  try simp only [Act.put, List.setIfInBounds_toArray, List.set_cons_zero, List.set_cons_succ]
  first | (refine rgn (i := 32) (atN rfl) (by kernel_rfl) (fun _ _ _ h => h) ?_ hHeld ?_; (· rfl)) | (refine rgy (i := 32) (v := ?_) (atN rfl) (by kernel_rfl) (fun _ _ _ h => h) ?_ ?_ hHeld ?_; rotate_left 1; (· rfl); (· intro w' hSw; (try clear hHeld); go_simp; try with_reducible rfl))
  try simp only [Act.put, List.setIfInBounds_toArray, List.set_cons_zero, List.set_cons_succ]
  first | (refine rgn (i := 33) (atN rfl) (by kernel_rfl) (fun _ _ _ h => h) ?_ hHeld ?_; (· rfl)) | (refine rg_call (i := 33) (atN rfl) (by kernel_rfl) ?_ (fun K hK => ?_); (· rfl); (try clear hb); go_simp; (refine (LEN.out _ hHeld).mono ?_; rintro e w1 ⟨rfl, hb⟩); go_wp2_with fail; refine hK.out _ _ ?_ (fun hHeld => ?_); (· exact hHeld.trans (hb.mono hHeld.size)); clear hK K)
  try simp only [Act.put, List.setIfInBounds_toArray, List.set_cons_zero, List.set_cons_succ]
  first | (refine rgn (i := 34) (atN rfl) (by kernel_rfl) (fun _ _ _ h => h) ?_ hHeld ?_; (· rfl)) | (refine rgy (i := 34) (v := ?_) (atN rfl) (by kernel_rfl) (fun _ _ _ h => h) ?_ ?_ hHeld ?_; rotate_left 1; (· rfl); (· intro w' hSw; (try clear hHeld); go_simp; try with_reducible rfl))
  try simp only [Act.put, List.setIfInBounds_toArray, List.set_cons_zero, List.set_cons_succ]
  refine rgy (i := 35) (v := ?_) (atN rfl) (by kernel_rfl) (fun _ _ _ h => h) ?_ ?_ hHeld ?_; rotate_left 1; (· rfl); (· intro w' hSw; (try clear hHeld); go_simp; try with_reducible rfl)
  try simp only [Act.put, List.setIfInBounds_toArray, List.set_cons_zero, List.set_cons_succ]
  refine rgy (i := 36) (v := ?_) (atN rfl) (by kernel_rfl) (fun _ _ _ h => h) ?_ ?_ hHeld ?_; rotate_left 1; (· rfl); (· intro w' hSw; (try clear hHeld); go_simp; try with_reducible rfl)
  try simp only [Act.put, List.setIfInBounds_toArray, List.set_cons_zero]
  refine wpAnyH_done (by kernel_rfl) ?_ _
  go_wp2_with fail
  go_ret
  exact ⟨rfl, (L12.out.below hHeld).bel⟩
end Go.Proofs.Ytadlecnlgkhneaa

/-
  WHAT PEERS SAY, HANDED IN: messages, lists of them, each with the reach of its attributes' slices.
-/
namespace Go.Proofs.Ytadlecnlgkhneaa
open Go.RowKit Go.ChangeShapes Go.WideShapes

/-- a message, and what it says. -/
structure Ms where
  m : MV
  gone : List Pf
  nets : List Pf
  a : At
structure MsAt (W : World) (x : Ms) : Prop where
  gone : PsAt W x.m.G x.gone
  nets : PsAt W x.m.N x.nets
  a : AvAt W x.a x.m.a
theorem MsAt.below {W W' : World} {x : Ms} (h : MsAt W x) (hb : Below W.heap.size W W') : MsAt W' x := ⟨PsAt.below h.gone hb, PsAt.below h.nets hb, h.a.below hb⟩
def MsC (W : World) (x : Ms) (cs : List Value) : Prop := cs = x.m.C.toList ∧ MsAt W x
structure MsSz (x : Ms) : Prop where
  a : AtSz x.a
  rng : x.a.Rng
section
variable {H : Type} {enc : TypeId × Value → H} {w : World} {base : Nat} {spare : Nat → Bool} {held : Bool}
set_option maxRecDepth 100000 in
theorem pf_cells {f : Nat} {cs : List Value} {x : DataW H × List MemPlace} (h : DataW.trod enc Try.prog w base spare held f 29 cs = some x) : ∃ p : Pf, PfC p cs := by
  obtain ⟨xs, n, _, _, hl, hxl, hf⟩ := DataW.trod_struct Try.underlying29 h
  have hc2 : Try.prog.cellsOf 29 = 2 := by kernel_rfl
  have hc1 : Try.prog.cellsOf 3 = 1 := by kernel_rfl
  have hca : Try.prog.cellsOf 27 = 1 := by kernel_rfl
  rw [hc2] at hl
  match cs, hl with
  | [c0, c1], _ =>
    match xs, hxl with
    | [x0, x1], _ =>
      have e0 := hf 0 _ rfl
      have e1 := hf 1 _ rfl
      simp [hc1, hca] at e0 e1
      obtain ⟨a, ha, _, ia⟩ := DataW.trod_int Try.underlying27 e0
      obtain ⟨m, hm, _⟩ := DataW.trod_int Try.underlying3 e1
      simp [Lit.wf, IntKind.min, IntKind.max, IntKind.bits, IntKind.signed] at ia
      simp at ha hm
      subst ha; subst hm
      exact ⟨(a, m), rfl, by unfold OkP; simp only; omega⟩
set_option maxRecDepth 100000 in
theorem sl_pfs {f : Nat} {c : List Value} {y : DataW H × List MemPlace} (h : DataW.trod enc Try.prog w base spare held f 25 c = some y) : ∃ v xs, c = [v] ∧ PsAt w v xs :=
  open_sl Try.underlying25 (by kernel_rfl) (by decide) (fun _ _ _ h => pf_cells h) h
set_option maxHeartbeats 1600000 in
set_option maxRecDepth 100000 in
theorem sl_msg_sz {f : Nat} {cs : List Value} {x : DataW H × List MemPlace} (h : DataW.trod enc Try.prog w base spare held f 43 cs = some x) (hz : Sz Try.prog 43 x.1) : ∃ m : Ms, MsC w m cs ∧ MsSz m := by
  obtain ⟨xs, n, _, hxe, hl, hxl, hf⟩ := DataW.trod_struct Try.underlying43 h
  rw [hxe] at hz
  have hc : Try.prog.cellsOf 43 = 20 := by kernel_rfl
  have hc0 : Try.prog.cellsOf 3 = 1 := by kernel_rfl
  have hc1 : Try.prog.cellsOf 27 = 1 := by kernel_rfl
  have hc2 : Try.prog.cellsOf 39 = 1 := by kernel_rfl
  have hc3 : Try.prog.cellsOf 25 = 1 := by kernel_rfl
  have hc4 : Try.prog.cellsOf 35 = 10 := by kernel_rfl
  have hc5 : Try.prog.cellsOf 41 = 3 := by kernel_rfl
  rw [hc] at hl
  match cs, hl with
  | [c0, c1, c2, c3, c4, c5, c6, c7, c8, c9, c10, c11, c12, c13, c14, c15, c16, c17, c18, c19], _ =>
    match xs, hxl with
    | [x0, x1, x2, x3, x4, x5, x6, x7, x8], _ =>
      have e0 := hf 0 _ rfl
      have e1 := hf 1 _ rfl
      have e2 := hf 2 _ rfl
      have e3 := hf 3 _ rfl
      have e4 := hf 4 _ rfl
      have e5 := hf 5 _ rfl
      have e6 := hf 6 _ rfl
      have e7 := hf 7 _ rfl
      have e8 := hf 8 _ rfl
      simp [hc0, hc1, hc2, hc3, hc4, hc5] at e0 e1 e2 e3 e4 e5 e6 e7 e8
      obtain ⟨kind, q0, i0⟩ := sl_i64 e0
      obtain ⟨as_, q1, i1⟩ := sl_i64 e1
      obtain ⟨hold, q2, i2⟩ := sl_i64 e2
      obtain ⟨pid, q3, i3⟩ := sl_u32 e3
      obtain ⟨vk, ks, q4, i4⟩ := open_sl (k := Try.prog.cellsOf 171) (R := fun (_ : Unit) _ => True) Try.underlying39 rfl (of_decide_eq_true (by kernel_rfl)) (fun _ _ _ _ => ⟨(), trivial⟩) e4
      obtain ⟨vg, gone, q5, i5⟩ := sl_pfs e5
      obtain ⟨a, ⟨vp, vc, vo, q6, ir, iA⟩, zA⟩ := sl_attrs_sz e6 (sz_field Try.underlying43 hz (j := 6) rfl rfl)
      obtain ⟨vn, nets, q7, i7⟩ := sl_pfs e7
      obtain ⟨ys, _, _, _, _, hyl, hg⟩ := DataW.trod_struct Try.underlying41 e8
      obtain ⟨sk, ck, rfl, -⟩ := i4
      obtain ⟨sg, cg, rfl, jg⟩ := id i5
      obtain ⟨sn, cn, rfl, jn⟩ := id i7
      obtain ⟨⟨sp, cp, rfl, jp⟩, ⟨sc, cc, rfl, jc⟩, ⟨so, co, rfl, jo⟩⟩ := id iA
      match ys, hyl with
      | [y0, y1, y2], _ =>
        have g0 := hg 0 _ rfl
        have g1 := hg 1 _ rfl
        have g2 := hg 2 _ rfl
        have hcs : Try.prog.cellsOf 9 = 1 := by kernel_rfl
        simp [hc0, hcs] at g0 g1 g2
        obtain ⟨fc, r0, _⟩ := sl_i64 g0
        obtain ⟨fs, r1, _⟩ := sl_i64 g1
        obtain ⟨fd, r2, _⟩ := DataW.trod_string Try.underlying9 g2
        simp at q0 q1 q2 q3 q4 q5 q6 q7 r0 r1 r2
        subst q0; subst q1; subst q2; subst q3; subst q4; subst q5; subst q7; subst r0; subst r1; subst r2
        refine ⟨⟨⟨kind, as_, hold, pid, sk, ks.length, ck, sg, gone.length, cg, avOf a sp cp sc cc so co, sn, nets.length, cn, fc, fs, fd⟩, gone, nets, a⟩, ⟨?_, i5, i7, ⟨sp, cp, sc, cc, so, co, rfl, iA⟩⟩, ⟨zA, ir⟩⟩
        simp [atV] at q6
        obtain ⟨h0, h1, h2, h3, h4, h5, h6, h7, h8, h9⟩ := q6
        subst h0; subst h1; subst h2; subst h3; subst h4; subst h5; subst h6; subst h7; subst h8; subst h9
        rfl
/-- messages in memory. -/
abbrev MssAt (w : World) (v : Value) (xs : List Ms) : Prop := SlAt w 20 (MsC w) v xs
set_option maxRecDepth 100000 in
theorem open_msgs_sz {v : Value} {d : DataW H} {p : List MemPlace} {r : Reach} {b0 : Nat} (hv : Value.okWide Try.prog w r b0 60 v) (h : DataW.Trod enc Try.prog w base spare held 60 v d p) (hz : Sz Try.prog 60 d) : ∃ xs : List Ms, MssAt w v xs ∧ ∀ x ∈ xs, MsSz x := by
  obtain ⟨fuel, h⟩ := h
  have hvc : v.cells.toList = [v] := by
    simp only [Value.okWide, Try.underlying60] at hv
    cases v <;> first | rfl | (simp [Cell.okWide, Cell.ok, Try.underlying60] at hv)
  rw [hvc] at h
  obtain ⟨v', xs, e, hs, _, hx⟩ := open_sl_sz (k := 20) (bs := Try.prog.bytesOf 43) (R := MsC w) (S := MsSz) Try.underlying60 (by kernel_rfl) rfl (by decide) (fun _ _ _ h hz => sl_msg_sz h hz) h hz
  injection e with e _
  subst e
  exact ⟨xs, hs, hx⟩
end
end Go.Proofs.Ytadlecnlgkhneaa
