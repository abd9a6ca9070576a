/- Texts of one proof, one behind another. -/
import Derived.Test.YtkoidahgbbabiaaGreatSf11
import Derived.Test.YtkoidahgbbabiaaGreatSf2
import Derived.Test.YtkoidahgbbabiaaGreatSf9
import Derived.Test.YtkoidahgbbabiaaGreatSf1
/-
  ATTRIBUTES: Same, whole.
-/
namespace Go.Proofs.YtkoidahgbbabiaaGreat
open Go.RowKit
def sameA (a b : At) : Bool := ((plB a b && decide (a.comms = b.comms)) && decide (a.path = b.path)) && decide (a.others = b.others)
theorem plB_iff (a b : At) : plB a b = true ↔ a.has = b.has ∧ a.origin = b.origin ∧ a.med = b.med ∧ a.loc = b.loc ∧ a.aggrAs = b.aggrAs ∧ a.hop = b.hop ∧ a.aggrId = b.aggrId := by
  unfold plB
  simp only [Bool.and_eq_true, beq_iff_eq, Bool.and_true]
  omega
theorem sameA_iff (a b : At) : sameA a b = true ↔ a = b := by
  unfold sameA
  simp only [Bool.and_eq_true, plB_iff, decide_eq_true_eq]
  constructor
  · rintro ⟨⟨⟨⟨h1, h2, h3, h4, h5, h6, h7⟩, h8⟩, h9⟩, h10⟩
    cases a; cases b
    simp_all
  · rintro rfl
    simp
theorem sameA_refl (a : At) : sameA a a = true := (sameA_iff a a).2 rfl
theorem ret_same {a b : At} {c0 c1 c2 c3 : Bool} (h0 : plB a b = c0) (h1 : decide (a.comms = b.comms) = c1) (h2 : decide (a.path = b.path) = c2) (h3 : decide (a.others = b.others) = c3) : sameA a b = (((c0 && c1) && c2) && c3) := by
  unfold sameA
  rw [h0, h1, h2, h3]
set_option maxHeartbeats 3200000 in
set_option maxRecDepth 100000 in
theorem at_Same (a b : At) (vp vc vo up uc uo : Value) (w : World) (ha : AtL w a vp vc vo) (hb : AtL w b up uc uo) :
    Calls Tryz.prog 37 #[.agg (atV a vp vc vo).toArray, .agg (atV b up uc uo).toArray] w fun e w' => e = .returned (.bool (sameA a b)) ∧ Below w.heap.size w w' := by
  show Calls Tryz.prog 37 #[.agg #[.int .i64 a.has, .int .i64 a.origin, vp, .int .u32 a.hop, .int .i64 a.med, .int .i64 a.loc, .int .i64 a.aggrAs, .int .u32 a.aggrId, vc, vo], .agg #[.int .i64 b.has, .int .i64 b.origin, up, .int .u32 b.hop, .int .i64 b.med, .int .i64 b.loc, .int .i64 b.aggrAs, .int .u32 b.aggrId, uc, uo]] w _
  obtain ⟨W0, hW0, q0, q1, hB⟩ := boxTwo w #[.int .i64 a.has, .int .i64 a.origin, vp, .int .u32 a.hop, .int .i64 a.med, .int .i64 a.loc, .int .i64 a.aggrAs, .int .u32 a.aggrId, vc, vo] 42 #[.int .i64 b.has, .int .i64 b.origin, up, .int .u32 b.hop, .int .i64 b.med, .int .i64 b.loc, .int .i64 b.aggrAs, .int .u32 b.aggrId, uc, uo] 42
  have PL := run_eql_plain a b
  have EI := Lib.hid (fun W (h : Below W0.heap.size W0 W) => sl_EqI vc uc _ _ W ((ha.2.1.below hB).below h) ((hb.2.1.below hB).below h))
  have ES := Lib.hid (fun W (h : Below W0.heap.size W0 W) => at_equalS vp up _ _ W ((ha.1.below hB).below h) ((hb.1.below hB).below h))
  have EO := Lib.hid (fun W (h : Below W0.heap.size W0 W) => at_equalO vo uo _ _ W ((ha.2.2.below hB).below h) ((hb.2.2.below hB).below h))
  have RS := Lib.hid (fun c0 c1 c2 c3 => ret_same (a := a) (b := b) (c0 := c0) (c1 := c1) (c2 := c2) (c3 := c3))
  obtain ⟨sp, kp, hvp, -⟩ := id ha.1
  obtain ⟨sc, kc, hvc, -⟩ := id ha.2.1
  obtain ⟨so, ko, hvo, -⟩ := id ha.2.2
  obtain ⟨tp, lp, hup, -⟩ := id hb.1
  obtain ⟨tc, lc, huc, -⟩ := id hb.2.1
  obtain ⟨tt, lo, huo, -⟩ := id hb.2.2
  subst hvp hvc hvo hup huc huo
  clear ha hb
  generalize h0 : plB a b = c0 at PL
  generalize h1 : decide (a.comms = b.comms) = c1 at EI
  generalize h2 : decide (a.path = b.path) = c2 at ES
  generalize h3 : decide (a.others = b.others) = c3 at EO
  have R := Lib.hid (RS.out c0 c1 c2 c3 h0 h1 h2 h3)
  clear h0 h1 h2 h3 RS
  generalize sameA a b = z at R ⊢
  go_enter Tryz.func37, Tryz.ntmps37
  go_upto_region 1 with (fail)
  rw [← hW0]
  clear hW0
  have cc : W0.cell? ⟨w.heap.size, 8, none⟩ = some (.slice sc a.comms.length kc) := row_cell q0 8
  have dc : W0.cell? ⟨w.heap.size + 1, 8, none⟩ = some (.slice tc b.comms.length lc) := row_cell q1 8
  have cp : W0.cell? ⟨w.heap.size, 2, none⟩ = some (.slice sp a.path.length kp) := row_cell q0 2
  have dp : W0.cell? ⟨w.heap.size + 1, 2, none⟩ = some (.slice tp b.path.length lp) := row_cell q1 2
  have co : W0.cell? ⟨w.heap.size, 9, none⟩ = some (.slice so a.others.length ko) := row_cell q0 9
  have do_ : W0.cell? ⟨w.heap.size + 1, 9, none⟩ = some (.slice tt b.others.length lo) := row_cell q1 9
  have Q0 := Lib.hid q0
  have Q1 := Lib.hid q1
  have HB := Lib.hid hB
  clear q0 q1 hB
  cases c0 with
  | false =>
    refine wp_region_held_drew (S := fun w' => Below W0.heap.size W0 w') (by kernel_rfl) ?_ (fun hHeld => ?_)
    · exact (Below.refl _ _).drew
    refine qy 0 ?_ ?_ ?_ hHeld ?_; rotate_left 1; (· rfl); (· intro w' hSw; refine exec_ld 42 (.tmp 2) ?_ w.heap.size ?_ 42 _ (0, 0) _ ((hSw.block _ (row_lt Q0.out)).trans Q0.out) Tryz.underlying42 rfl (by kernel_rfl) <;> rfl)
    try simp only [zp1, zp3, zp4, zp5]
    refine qy 2 ?_ ?_ ?_ hHeld ?_; rotate_left 1; (· rfl); (· intro w' hSw; refine exec_ld 42 (.tmp 3) ?_ (w.heap.size + 1) ?_ 42 _ (0, 0) _ ((hSw.block _ (row_lt Q1.out)).trans Q1.out) Tryz.underlying42 rfl (by kernel_rfl) <;> rfl)
    try simp only [zp1, zp3, zp4, zp5]
    refine rg_call (i := 1) (atN rfl) (by kernel_rfl) ?_ (fun K hK => ?_); (· rfl); (try clear hb); go_simp; (refine (at_plain a _ _ _ _).mono ?_; rintro e w1 ⟨rfl, hb⟩); go_wp2_with fail; refine hK.out _ _ ?_ (fun hHeld => ?_); (· exact hHeld.trans (hb.mono hHeld.size)); clear hK K
    try simp only [zp1, zp3, zp4, zp5]
    refine rg_call (i := 3) (atN rfl) (by kernel_rfl) ?_ (fun K hK => ?_); (· rfl); (try clear hb); go_simp; (refine (at_plain b _ _ _ _).mono ?_; rintro e w1 ⟨rfl, hb⟩); go_wp2_with fail; refine hK.out _ _ ?_ (fun hHeld => ?_); (· exact hHeld.trans (hb.mono hHeld.size)); clear hK K
    try simp only [zp1, zp3, zp4, zp5]
    refine qy 4 ?_ ?_ ?_ hHeld ?_; rotate_left 1; (· rfl); (· intro w' hSw; (try clear hHeld); go_simp; try with_reducible rfl)
    try simp only [zp1, zp3, zp4, zp5]
    refine qy 5 ?_ ?_ ?_ hHeld ?_; rotate_left 1; (· rfl); (· intro w' hSw; (try clear hHeld); go_simp; try with_reducible rfl)
    try simp only [zp1, zp3, zp4, zp5]
    first | (refine rgn (i := 6) (atN rfl) (by kernel_rfl) (fun _ _ _ h => h) ?_ hHeld ?_; (· rfl)) | (refine qy 6 ?_ ?_ ?_ hHeld ?_; rotate_left 1; (· rfl); (· intro w' hSw; (try clear hHeld); go_simp; try with_reducible rfl))
    try simp only [zp1, zp3, zp4, zp5]
    first | (refine rgn (i := 7) (atN rfl) (by kernel_rfl) (fun _ _ _ h => h) ?_ hHeld ?_; (· rfl)) | (refine qy 7 ?_ ?_ ?_ hHeld ?_; rotate_left 1; (· rfl); (· intro w' hSw; have cc := cell_below cc hSw; have dc := cell_below dc hSw; have cp := cell_below cp hSw; have dp := cell_below dp hSw; have co := cell_below co hSw; have do_ := cell_below do_ hSw; (try clear hHeld); go_simp; try with_reducible rfl))
    try simp only [zp1, zp3, zp4, zp5]
    first | (refine rgn (i := 8) (atN rfl) (by kernel_rfl) (fun _ _ _ h => h) ?_ hHeld ?_; (· rfl)) | (refine qy 8 ?_ ?_ ?_ hHeld ?_; rotate_left 1; (· rfl); (· intro w' hSw; (try clear hHeld); go_simp; try with_reducible rfl))
    try simp only [zp1, zp3, zp4, zp5]
    first | (refine rgn (i := 9) (atN rfl) (by kernel_rfl) (fun _ _ _ h => h) ?_ hHeld ?_; (· rfl)) | (refine qy 9 ?_ ?_ ?_ hHeld ?_; rotate_left 1; (· rfl); (· intro w' hSw; have cc := cell_below cc hSw; have dc := cell_below dc hSw; have cp := cell_below cp hSw; have dp := cell_below dp hSw; have co := cell_below co hSw; have do_ := cell_below do_ hSw; (try clear hHeld); go_simp; try with_reducible rfl))
    try simp only [zp1, zp3, zp4, zp5]
    first | (refine rgn (i := 10) (atN rfl) (by kernel_rfl) (fun _ _ _ h => h) ?_ hHeld ?_; (· rfl)) | (refine rg_call (i := 10) (atN rfl) (by kernel_rfl) ?_ (fun K hK => ?_); (· rfl); (try clear hb); go_simp; (refine (EI.out _ hHeld).mono ?_; rintro e w1 ⟨rfl, hb⟩); go_wp2_with fail; refine hK.out _ _ ?_ (fun hHeld => ?_); (· exact hHeld.trans (hb.mono hHeld.size)); clear hK K)
    try simp only [zp1, zp3, zp4, zp5]
    refine qy 11 ?_ ?_ ?_ hHeld ?_; rotate_left 1; (· rfl); (· intro w' hSw; (try clear hHeld); go_simp; try with_reducible rfl)
    try simp only [zp1, zp3, zp4, zp5]
    refine qy 12 ?_ ?_ ?_ hHeld ?_; rotate_left 1; (· rfl); (· intro w' hSw; (try clear hHeld); go_simp; try with_reducible rfl)
    try simp only [zp1, zp3, zp4, zp5]
    first | (refine rgn (i := 13) (atN rfl) (by kernel_rfl) (fun _ _ _ h => h) ?_ hHeld ?_; (· rfl)) | (refine qy 13 ?_ ?_ ?_ hHeld ?_; rotate_left 1; (· rfl); (· intro w' hSw; (try clear hHeld); go_simp; try with_reducible rfl))
    try simp only [zp1, zp3, zp4, zp5]
    first | (refine rgn (i := 14) (atN rfl) (by kernel_rfl) (fun _ _ _ h => h) ?_ hHeld ?_; (· rfl)) | (refine qy 14 ?_ ?_ ?_ hHeld ?_; rotate_left 1; (· rfl); (· intro w' hSw; have cc := cell_below cc hSw; have dc := cell_below dc hSw; have cp := cell_below cp hSw; have dp := cell_below dp hSw; have co := cell_below co hSw; have do_ := cell_below do_ hSw; (try clear hHeld); go_simp; try with_reducible rfl))
    try simp only [zp1, zp3, zp4, zp5]
    first | (refine rgn (i := 15) (atN rfl) (by kernel_rfl) (fun _ _ _ h => h) ?_ hHeld ?_; (· rfl)) | (refine qy 15 ?_ ?_ ?_ hHeld ?_; rotate_left 1; (· rfl); (· intro w' hSw; (try clear hHeld); go_simp; try with_reducible rfl))
    try simp only [zp1, zp3, zp4, zp5]
    first | (refine rgn (i := 16) (atN rfl) (by kernel_rfl) (fun _ _ _ h => h) ?_ hHeld ?_; (· rfl)) | (refine qy 16 ?_ ?_ ?_ hHeld ?_; rotate_left 1; (· rfl); (· intro w' hSw; have cc := cell_below cc hSw; have dc := cell_below dc hSw; have cp := cell_below cp hSw; have dp := cell_below dp hSw; have co := cell_below co hSw; have do_ := cell_below do_ hSw; (try clear hHeld); go_simp; try with_reducible rfl))
    try simp only [zp1, zp3, zp4, zp5]
    first | (refine rgn (i := 17) (atN rfl) (by kernel_rfl) (fun _ _ _ h => h) ?_ hHeld ?_; (· rfl)) | (refine rg_call (i := 17) (atN rfl) (by kernel_rfl) ?_ (fun K hK => ?_); (· rfl); (try clear hb); go_simp; (refine (ES.out _ hHeld).mono ?_; rintro e w1 ⟨rfl, hb⟩); go_wp2_with fail; refine hK.out _ _ ?_ (fun hHeld => ?_); (· exact hHeld.trans (hb.mono hHeld.size)); clear hK K)
    try simp only [zp1, zp3, zp4, zp5]
    refine qy 18 ?_ ?_ ?_ hHeld ?_; rotate_left 1; (· rfl); (· intro w' hSw; (try clear hHeld); go_simp; try with_reducible rfl)
    try simp only [zp1, zp3, zp4, zp5]
    refine qy 19 ?_ ?_ ?_ hHeld ?_; rotate_left 1; (· rfl); (· intro w' hSw; (try clear hHeld); go_simp; try with_reducible rfl)
    try simp only [zp1, zp3, zp4, zp5]
    first | (refine rgn (i := 20) (atN rfl) (by kernel_rfl) (fun _ _ _ h => h) ?_ hHeld ?_; (· rfl)) | (refine qy 20 ?_ ?_ ?_ hHeld ?_; rotate_left 1; (· rfl); (· intro w' hSw; (try clear hHeld); go_simp; try with_reducible rfl))
    try simp only [zp1, zp3, zp4, zp5]
    first | (refine rgn (i := 21) (atN rfl) (by kernel_rfl) (fun _ _ _ h => h) ?_ hHeld ?_; (· rfl)) | (refine qy 21 ?_ ?_ ?_ hHeld ?_; rotate_left 1; (· rfl); (· intro w' hSw; have cc := cell_below cc hSw; have dc := cell_below dc hSw; have cp := cell_below cp hSw; have dp := cell_below dp hSw; have co := cell_below co hSw; have do_ := cell_below do_ hSw; (try clear hHeld); go_simp; try with_reducible rfl))
    try simp only [zp1, zp3, zp4, zp5]
    first | (refine rgn (i := 22) (atN rfl) (by kernel_rfl) (fun _ _ _ h => h) ?_ hHeld ?_; (· rfl)) | (refine qy 22 ?_ ?_ ?_ hHeld ?_; rotate_left 1; (· rfl); (· intro w' hSw; (try clear hHeld); go_simp; try with_reducible rfl))
    try simp only [zp1, zp3, zp4, zp5]
    first | (refine rgn (i := 23) (atN rfl) (by kernel_rfl) (fun _ _ _ h => h) ?_ hHeld ?_; (· rfl)) | (refine qy 23 ?_ ?_ ?_ hHeld ?_; rotate_left 1; (· rfl); (· intro w' hSw; have cc := cell_below cc hSw; have dc := cell_below dc hSw; have cp := cell_below cp hSw; have dp := cell_below dp hSw; have co := cell_below co hSw; have do_ := cell_below do_ hSw; (try clear hHeld); go_simp; try with_reducible rfl))
    try simp only [zp1, zp3, zp4, zp5]
    first | (refine rgn (i := 24) (atN rfl) (by kernel_rfl) (fun _ _ _ h => h) ?_ hHeld ?_; (· rfl)) | (refine rg_call (i := 24) (atN rfl) (by kernel_rfl) ?_ (fun K hK => ?_); (· rfl); (try clear hb); go_simp; (refine (EO.out _ hHeld).mono ?_; rintro e w1 ⟨rfl, hb⟩); go_wp2_with fail; refine hK.out _ _ ?_ (fun hHeld => ?_); (· exact hHeld.trans (hb.mono hHeld.size)); clear hK K)
    try simp only [zp1, zp3, zp4, zp5]
    refine qy 25 ?_ ?_ ?_ hHeld ?_; rotate_left 1; (· rfl); (· intro w' hSw; (try clear hHeld); go_simp; try with_reducible rfl)
    try simp only [zp1, zp3, zp4, zp5]
    refine qy 26 ?_ ?_ ?_ hHeld ?_; rotate_left 1; (· rfl); (· intro w' hSw; (try clear hHeld); go_simp; try with_reducible rfl)
    try simp only [zp1, zp3, zp4, zp5]
    refine wpAnyH_done (by kernel_rfl) ?_ _
    go_wp2_with fail
    go_ret
    exact ⟨ret_bool (by rw [R.out]; rfl), below_on HB.out hHeld⟩
  | true =>
    cases c1 with
    | false =>
      refine wp_region_held_drew (S := fun w' => Below W0.heap.size W0 w') (by kernel_rfl) ?_ (fun hHeld => ?_)
      · exact (Below.refl _ _).drew
      refine qy 0 ?_ ?_ ?_ hHeld ?_; rotate_left 1; (· rfl); (· intro w' hSw; refine exec_ld 42 (.tmp 2) ?_ w.heap.size ?_ 42 _ (0, 0) _ ((hSw.block _ (row_lt Q0.out)).trans Q0.out) Tryz.underlying42 rfl (by kernel_rfl) <;> rfl)
      try simp only [zp1, zp3, zp4, zp5]
      refine qy 2 ?_ ?_ ?_ hHeld ?_; rotate_left 1; (· rfl); (· intro w' hSw; refine exec_ld 42 (.tmp 3) ?_ (w.heap.size + 1) ?_ 42 _ (0, 0) _ ((hSw.block _ (row_lt Q1.out)).trans Q1.out) Tryz.underlying42 rfl (by kernel_rfl) <;> rfl)
      try simp only [zp1, zp3, zp4, zp5]
      refine rg_call (i := 1) (atN rfl) (by kernel_rfl) ?_ (fun K hK => ?_); (· rfl); (try clear hb); go_simp; (refine (at_plain a _ _ _ _).mono ?_; rintro e w1 ⟨rfl, hb⟩); go_wp2_with fail; refine hK.out _ _ ?_ (fun hHeld => ?_); (· exact hHeld.trans (hb.mono hHeld.size)); clear hK K
      try simp only [zp1, zp3, zp4, zp5]
      refine rg_call (i := 3) (atN rfl) (by kernel_rfl) ?_ (fun K hK => ?_); (· rfl); (try clear hb); go_simp; (refine (at_plain b _ _ _ _).mono ?_; rintro e w1 ⟨rfl, hb⟩); go_wp2_with fail; refine hK.out _ _ ?_ (fun hHeld => ?_); (· exact hHeld.trans (hb.mono hHeld.size)); clear hK K
      try simp only [zp1, zp3, zp4, zp5]
      refine qy 4 ?_ ?_ ?_ hHeld ?_; rotate_left 1; (· rfl); (· intro w' hSw; (try clear hHeld); go_simp; try with_reducible rfl)
      try simp only [zp1, zp3, zp4, zp5]
      refine qy 5 ?_ ?_ ?_ hHeld ?_; rotate_left 1; (· rfl); (· intro w' hSw; (try clear hHeld); go_simp; try with_reducible rfl)
      try simp only [zp1, zp3, zp4, zp5]
      first | (refine rgn (i := 6) (atN rfl) (by kernel_rfl) (fun _ _ _ h => h) ?_ hHeld ?_; (· rfl)) | (refine qy 6 ?_ ?_ ?_ hHeld ?_; rotate_left 1; (· rfl); (· intro w' hSw; (try clear hHeld); go_simp; try with_reducible rfl))
      try simp only [zp1, zp3, zp4, zp5]
      first | (refine rgn (i := 7) (atN rfl) (by kernel_rfl) (fun _ _ _ h => h) ?_ hHeld ?_; (· rfl)) | (refine qy 7 ?_ ?_ ?_ hHeld ?_; rotate_left 1; (· rfl); (· intro w' hSw; have cc := cell_below cc hSw; have dc := cell_below dc hSw; have cp := cell_below cp hSw; have dp := cell_below dp hSw; have co := cell_below co hSw; have do_ := cell_below do_ hSw; (try clear hHeld); go_simp; try with_reducible rfl))
      try simp only [zp1, zp3, zp4, zp5]
      first | (refine rgn (i := 8) (atN rfl) (by kernel_rfl) (fun _ _ _ h => h) ?_ hHeld ?_; (· rfl)) | (refine qy 8 ?_ ?_ ?_ hHeld ?_; rotate_left 1; (· rfl); (· intro w' hSw; (try clear hHeld); go_simp; try with_reducible rfl))
      try simp only [zp1, zp3, zp4, zp5]
      first | (refine rgn (i := 9) (atN rfl) (by kernel_rfl) (fun _ _ _ h => h) ?_ hHeld ?_; (· rfl)) | (refine qy 9 ?_ ?_ ?_ hHeld ?_; rotate_left 1; (· rfl); (· intro w' hSw; have cc := cell_below cc hSw; have dc := cell_below dc hSw; have cp := cell_below cp hSw; have dp := cell_below dp hSw; have co := cell_below co hSw; have do_ := cell_below do_ hSw; (try clear hHeld); go_simp; try with_reducible rfl))
      try simp only [zp1, zp3, zp4, zp5]
      first | (refine rgn (i := 10) (atN rfl) (by kernel_rfl) (fun _ _ _ h => h) ?_ hHeld ?_; (· rfl)) | (refine rg_call (i := 10) (atN rfl) (by kernel_rfl) ?_ (fun K hK => ?_); (· rfl); (try clear hb); go_simp; (refine (EI.out _ hHeld).mono ?_; rintro e w1 ⟨rfl, hb⟩); go_wp2_with fail; refine hK.out _ _ ?_ (fun hHeld => ?_); (· exact hHeld.trans (hb.mono hHeld.size)); clear hK K)
      try simp only [zp1, zp3, zp4, zp5]
      refine qy 11 ?_ ?_ ?_ hHeld ?_; rotate_left 1; (· rfl); (· intro w' hSw; (try clear hHeld); go_simp; try with_reducible rfl)
      try simp only [zp1, zp3, zp4, zp5]
      refine qy 12 ?_ ?_ ?_ hHeld ?_; rotate_left 1; (· rfl); (· intro w' hSw; (try clear hHeld); go_simp; try with_reducible rfl)
      try simp only [zp1, zp3, zp4, zp5]
      first | (refine rgn (i := 13) (atN rfl) (by kernel_rfl) (fun _ _ _ h => h) ?_ hHeld ?_; (· rfl)) | (refine qy 13 ?_ ?_ ?_ hHeld ?_; rotate_left 1; (· rfl); (· intro w' hSw; (try clear hHeld); go_simp; try with_reducible rfl))
      try simp only [zp1, zp3, zp4, zp5]
      first | (refine rgn (i := 14) (atN rfl) (by kernel_rfl) (fun _ _ _ h => h) ?_ hHeld ?_; (· rfl)) | (refine qy 14 ?_ ?_ ?_ hHeld ?_; rotate_left 1; (· rfl); (· intro w' hSw; have cc := cell_below cc hSw; have dc := cell_below dc hSw; have cp := cell_below cp hSw; have dp := cell_below dp hSw; have co := cell_below co hSw; have do_ := cell_below do_ hSw; (try clear hHeld); go_simp; try with_reducible rfl))
      try simp only [zp1, zp3, zp4, zp5]
      first | (refine rgn (i := 15) (atN rfl) (by kernel_rfl) (fun _ _ _ h => h) ?_ hHeld ?_; (· rfl)) | (refine qy 15 ?_ ?_ ?_ hHeld ?_; rotate_left 1; (· rfl); (· intro w' hSw; (try clear hHeld); go_simp; try with_reducible rfl))
      try simp only [zp1, zp3, zp4, zp5]
      first | (refine rgn (i := 16) (atN rfl) (by kernel_rfl) (fun _ _ _ h => h) ?_ hHeld ?_; (· rfl)) | (refine qy 16 ?_ ?_ ?_ hHeld ?_; rotate_left 1; (· rfl); (· intro w' hSw; have cc := cell_below cc hSw; have dc := cell_below dc hSw; have cp := cell_below cp hSw; have dp := cell_below dp hSw; have co := cell_below co hSw; have do_ := cell_below do_ hSw; (try clear hHeld); go_simp; try with_reducible rfl))
      try simp only [zp1, zp3, zp4, zp5]
      first | (refine rgn (i := 17) (atN rfl) (by kernel_rfl) (fun _ _ _ h => h) ?_ hHeld ?_; (· rfl)) | (refine rg_call (i := 17) (atN rfl) (by kernel_rfl) ?_ (fun K hK => ?_); (· rfl); (try clear hb); go_simp; (refine (ES.out _ hHeld).mono ?_; rintro e w1 ⟨rfl, hb⟩); go_wp2_with fail; refine hK.out _ _ ?_ (fun hHeld => ?_); (· exact hHeld.trans (hb.mono hHeld.size)); clear hK K)
      try simp only [zp1, zp3, zp4, zp5]
      refine qy 18 ?_ ?_ ?_ hHeld ?_; rotate_left 1; (· rfl); (· intro w' hSw; (try clear hHeld); go_simp; try with_reducible rfl)
      try simp only [zp1, zp3, zp4, zp5]
      refine qy 19 ?_ ?_ ?_ hHeld ?_; rotate_left 1; (· rfl); (· intro w' hSw; (try clear hHeld); go_simp; try with_reducible rfl)
      try simp only [zp1, zp3, zp4, zp5]
      first | (refine rgn (i := 20) (atN rfl) (by kernel_rfl) (fun _ _ _ h => h) ?_ hHeld ?_; (· rfl)) | (refine qy 20 ?_ ?_ ?_ hHeld ?_; rotate_left 1; (· rfl); (· intro w' hSw; (try clear hHeld); go_simp; try with_reducible rfl))
      try simp only [zp1, zp3, zp4, zp5]
      first | (refine rgn (i := 21) (atN rfl) (by kernel_rfl) (fun _ _ _ h => h) ?_ hHeld ?_; (· rfl)) | (refine qy 21 ?_ ?_ ?_ hHeld ?_; rotate_left 1; (· rfl); (· intro w' hSw; have cc := cell_below cc hSw; have dc := cell_below dc hSw; have cp := cell_below cp hSw; have dp := cell_below dp hSw; have co := cell_below co hSw; have do_ := cell_below do_ hSw; (try clear hHeld); go_simp; try with_reducible rfl))
      try simp only [zp1, zp3, zp4, zp5]
      first | (refine rgn (i := 22) (atN rfl) (by kernel_rfl) (fun _ _ _ h => h) ?_ hHeld ?_; (· rfl)) | (refine qy 22 ?_ ?_ ?_ hHeld ?_; rotate_left 1; (· rfl); (· intro w' hSw; (try clear hHeld); go_simp; try with_reducible rfl))
      try simp only [zp1, zp3, zp4, zp5]
      first | (refine rgn (i := 23) (atN rfl) (by kernel_rfl) (fun _ _ _ h => h) ?_ hHeld ?_; (· rfl)) | (refine qy 23 ?_ ?_ ?_ hHeld ?_; rotate_left 1; (· rfl); (· intro w' hSw; have cc := cell_below cc hSw; have dc := cell_below dc hSw; have cp := cell_below cp hSw; have dp := cell_below dp hSw; have co := cell_below co hSw; have do_ := cell_below do_ hSw; (try clear hHeld); go_simp; try with_reducible rfl))
      try simp only [zp1, zp3, zp4, zp5]
      first | (refine rgn (i := 24) (atN rfl) (by kernel_rfl) (fun _ _ _ h => h) ?_ hHeld ?_; (· rfl)) | (refine rg_call (i := 24) (atN rfl) (by kernel_rfl) ?_ (fun K hK => ?_); (· rfl); (try clear hb); go_simp; (refine (EO.out _ hHeld).mono ?_; rintro e w1 ⟨rfl, hb⟩); go_wp2_with fail; refine hK.out _ _ ?_ (fun hHeld => ?_); (· exact hHeld.trans (hb.mono hHeld.size)); clear hK K)
      try simp only [zp1, zp3, zp4, zp5]
      refine qy 25 ?_ ?_ ?_ hHeld ?_; rotate_left 1; (· rfl); (· intro w' hSw; (try clear hHeld); go_simp; try with_reducible rfl)
      try simp only [zp1, zp3, zp4, zp5]
      refine qy 26 ?_ ?_ ?_ hHeld ?_; rotate_left 1; (· rfl); (· intro w' hSw; (try clear hHeld); go_simp; try with_reducible rfl)
      try simp only [zp1, zp3, zp4, zp5]
      refine wpAnyH_done (by kernel_rfl) ?_ _
      go_wp2_with fail
      go_ret
      exact ⟨ret_bool (by rw [R.out]; rfl), below_on HB.out hHeld⟩
    | true =>
      cases c2 with
      | false =>
        refine wp_region_held_drew (S := fun w' => Below W0.heap.size W0 w') (by kernel_rfl) ?_ (fun hHeld => ?_)
        · exact (Below.refl _ _).drew
        refine qy 0 ?_ ?_ ?_ hHeld ?_; rotate_left 1; (· rfl); (· intro w' hSw; refine exec_ld 42 (.tmp 2) ?_ w.heap.size ?_ 42 _ (0, 0) _ ((hSw.block _ (row_lt Q0.out)).trans Q0.out) Tryz.underlying42 rfl (by kernel_rfl) <;> rfl)
        try simp only [zp1, zp3, zp4, zp5]
        refine qy 2 ?_ ?_ ?_ hHeld ?_; rotate_left 1; (· rfl); (· intro w' hSw; refine exec_ld 42 (.tmp 3) ?_ (w.heap.size + 1) ?_ 42 _ (0, 0) _ ((hSw.block _ (row_lt Q1.out)).trans Q1.out) Tryz.underlying42 rfl (by kernel_rfl) <;> rfl)
        try simp only [zp1, zp3, zp4, zp5]
        refine rg_call (i := 1) (atN rfl) (by kernel_rfl) ?_ (fun K hK => ?_); (· rfl); (try clear hb); go_simp; (refine (at_plain a _ _ _ _).mono ?_; rintro e w1 ⟨rfl, hb⟩); go_wp2_with fail; refine hK.out _ _ ?_ (fun hHeld => ?_); (· exact hHeld.trans (hb.mono hHeld.size)); clear hK K
        try simp only [zp1, zp3, zp4, zp5]
        refine rg_call (i := 3) (atN rfl) (by kernel_rfl) ?_ (fun K hK => ?_); (· rfl); (try clear hb); go_simp; (refine (at_plain b _ _ _ _).mono ?_; rintro e w1 ⟨rfl, hb⟩); go_wp2_with fail; refine hK.out _ _ ?_ (fun hHeld => ?_); (· exact hHeld.trans (hb.mono hHeld.size)); clear hK K
        try simp only [zp1, zp3, zp4, zp5]
        refine qy 4 ?_ ?_ ?_ hHeld ?_; rotate_left 1; (· rfl); (· intro w' hSw; (try clear hHeld); go_simp; try with_reducible rfl)
        try simp only [zp1, zp3, zp4, zp5]
        refine qy 5 ?_ ?_ ?_ hHeld ?_; rotate_left 1; (· rfl); (· intro w' hSw; (try clear hHeld); go_simp; try with_reducible rfl)
        try simp only [zp1, zp3, zp4, zp5]
        first | (refine rgn (i := 6) (atN rfl) (by kernel_rfl) (fun _ _ _ h => h) ?_ hHeld ?_; (· rfl)) | (refine qy 6 ?_ ?_ ?_ hHeld ?_; rotate_left 1; (· rfl); (· intro w' hSw; (try clear hHeld); go_simp; try with_reducible rfl))
        try simp only [zp1, zp3, zp4, zp5]
        first | (refine rgn (i := 7) (atN rfl) (by kernel_rfl) (fun _ _ _ h => h) ?_ hHeld ?_; (· rfl)) | (refine qy 7 ?_ ?_ ?_ hHeld ?_; rotate_left 1; (· rfl); (· intro w' hSw; have cc := cell_below cc hSw; have dc := cell_below dc hSw; have cp := cell_below cp hSw; have dp := cell_below dp hSw; have co := cell_below co hSw; have do_ := cell_below do_ hSw; (try clear hHeld); go_simp; try with_reducible rfl))
        try simp only [zp1, zp3, zp4, zp5]
        first | (refine rgn (i := 8) (atN rfl) (by kernel_rfl) (fun _ _ _ h => h) ?_ hHeld ?_; (· rfl)) | (refine qy 8 ?_ ?_ ?_ hHeld ?_; rotate_left 1; (· rfl); (· intro w' hSw; (try clear hHeld); go_simp; try with_reducible rfl))
        try simp only [zp1, zp3, zp4, zp5]
        first | (refine rgn (i := 9) (atN rfl) (by kernel_rfl) (fun _ _ _ h => h) ?_ hHeld ?_; (· rfl)) | (refine qy 9 ?_ ?_ ?_ hHeld ?_; rotate_left 1; (· rfl); (· intro w' hSw; have cc := cell_below cc hSw; have dc := cell_below dc hSw; have cp := cell_below cp hSw; have dp := cell_below dp hSw; have co := cell_below co hSw; have do_ := cell_below do_ hSw; (try clear hHeld); go_simp; try with_reducible rfl))
        try simp only [zp1, zp3, zp4, zp5]
        first | (refine rgn (i := 10) (atN rfl) (by kernel_rfl) (fun _ _ _ h => h) ?_ hHeld ?_; (· rfl)) | (refine rg_call (i := 10) (atN rfl) (by kernel_rfl) ?_ (fun K hK => ?_); (· rfl); (try clear hb); go_simp; (refine (EI.out _ hHeld).mono ?_; rintro e w1 ⟨rfl, hb⟩); go_wp2_with fail; refine hK.out _ _ ?_ (fun hHeld => ?_); (· exact hHeld.trans (hb.mono hHeld.size)); clear hK K)
        try simp only [zp1, zp3, zp4, zp5]
        refine qy 11 ?_ ?_ ?_ hHeld ?_; rotate_left 1; (· rfl); (· intro w' hSw; (try clear hHeld); go_simp; try with_reducible rfl)
        try simp only [zp1, zp3, zp4, zp5]
        refine qy 12 ?_ ?_ ?_ hHeld ?_; rotate_left 1; (· rfl); (· intro w' hSw; (try clear hHeld); go_simp; try with_reducible rfl)
        try simp only [zp1, zp3, zp4, zp5]
        first | (refine rgn (i := 13) (atN rfl) (by kernel_rfl) (fun _ _ _ h => h) ?_ hHeld ?_; (· rfl)) | (refine qy 13 ?_ ?_ ?_ hHeld ?_; rotate_left 1; (· rfl); (· intro w' hSw; (try clear hHeld); go_simp; try with_reducible rfl))
        try simp only [zp1, zp3, zp4, zp5]
        first | (refine rgn (i := 14) (atN rfl) (by kernel_rfl) (fun _ _ _ h => h) ?_ hHeld ?_; (· rfl)) | (refine qy 14 ?_ ?_ ?_ hHeld ?_; rotate_left 1; (· rfl); (· intro w' hSw; have cc := cell_below cc hSw; have dc := cell_below dc hSw; have cp := cell_below cp hSw; have dp := cell_below dp hSw; have co := cell_below co hSw; have do_ := cell_below do_ hSw; (try clear hHeld); go_simp; try with_reducible rfl))
        try simp only [zp1, zp3, zp4, zp5]
        first | (refine rgn (i := 15) (atN rfl) (by kernel_rfl) (fun _ _ _ h => h) ?_ hHeld ?_; (· rfl)) | (refine qy 15 ?_ ?_ ?_ hHeld ?_; rotate_left 1; (· rfl); (· intro w' hSw; (try clear hHeld); go_simp; try with_reducible rfl))
        try simp only [zp1, zp3, zp4, zp5]
        first | (refine rgn (i := 16) (atN rfl) (by kernel_rfl) (fun _ _ _ h => h) ?_ hHeld ?_; (· rfl)) | (refine qy 16 ?_ ?_ ?_ hHeld ?_; rotate_left 1; (· rfl); (· intro w' hSw; have cc := cell_below cc hSw; have dc := cell_below dc hSw; have cp := cell_below cp hSw; have dp := cell_below dp hSw; have co := cell_below co hSw; have do_ := cell_below do_ hSw; (try clear hHeld); go_simp; try with_reducible rfl))
        try simp only [zp1, zp3, zp4, zp5]
        first | (refine rgn (i := 17) (atN rfl) (by kernel_rfl) (fun _ _ _ h => h) ?_ hHeld ?_; (· rfl)) | (refine rg_call (i := 17) (atN rfl) (by kernel_rfl) ?_ (fun K hK => ?_); (· rfl); (try clear hb); go_simp; (refine (ES.out _ hHeld).mono ?_; rintro e w1 ⟨rfl, hb⟩); go_wp2_with fail; refine hK.out _ _ ?_ (fun hHeld => ?_); (· exact hHeld.trans (hb.mono hHeld.size)); clear hK K)
        try simp only [zp1, zp3, zp4, zp5]
        refine qy 18 ?_ ?_ ?_ hHeld ?_; rotate_left 1; (· rfl); (· intro w' hSw; (try clear hHeld); go_simp; try with_reducible rfl)
        try simp only [zp1, zp3, zp4, zp5]
        refine qy 19 ?_ ?_ ?_ hHeld ?_; rotate_left 1; (· rfl); (· intro w' hSw; (try clear hHeld); go_simp; try with_reducible rfl)
        try simp only [zp1, zp3, zp4, zp5]
        first | (refine rgn (i := 20) (atN rfl) (by kernel_rfl) (fun _ _ _ h => h) ?_ hHeld ?_; (· rfl)) | (refine qy 20 ?_ ?_ ?_ hHeld ?_; rotate_left 1; (· rfl); (· intro w' hSw; (try clear hHeld); go_simp; try with_reducible rfl))
        try simp only [zp1, zp3, zp4, zp5]
        first | (refine rgn (i := 21) (atN rfl) (by kernel_rfl) (fun _ _ _ h => h) ?_ hHeld ?_; (· rfl)) | (refine qy 21 ?_ ?_ ?_ hHeld ?_; rotate_left 1; (· rfl); (· intro w' hSw; have cc := cell_below cc hSw; have dc := cell_below dc hSw; have cp := cell_below cp hSw; have dp := cell_below dp hSw; have co := cell_below co hSw; have do_ := cell_below do_ hSw; (try clear hHeld); go_simp; try with_reducible rfl))
        try simp only [zp1, zp3, zp4, zp5]
        first | (refine rgn (i := 22) (atN rfl) (by kernel_rfl) (fun _ _ _ h => h) ?_ hHeld ?_; (· rfl)) | (refine qy 22 ?_ ?_ ?_ hHeld ?_; rotate_left 1; (· rfl); (· intro w' hSw; (try clear hHeld); go_simp; try with_reducible rfl))
        try simp only [zp1, zp3, zp4, zp5]
        first | (refine rgn (i := 23) (atN rfl) (by kernel_rfl) (fun _ _ _ h => h) ?_ hHeld ?_; (· rfl)) | (refine qy 23 ?_ ?_ ?_ hHeld ?_; rotate_left 1; (· rfl); (· intro w' hSw; have cc := cell_below cc hSw; have dc := cell_below dc hSw; have cp := cell_below cp hSw; have dp := cell_below dp hSw; have co := cell_below co hSw; have do_ := cell_below do_ hSw; (try clear hHeld); go_simp; try with_reducible rfl))
        try simp only [zp1, zp3, zp4, zp5]
        first | (refine rgn (i := 24) (atN rfl) (by kernel_rfl) (fun _ _ _ h => h) ?_ hHeld ?_; (· rfl)) | (refine rg_call (i := 24) (atN rfl) (by kernel_rfl) ?_ (fun K hK => ?_); (· rfl); (try clear hb); go_simp; (refine (EO.out _ hHeld).mono ?_; rintro e w1 ⟨rfl, hb⟩); go_wp2_with fail; refine hK.out _ _ ?_ (fun hHeld => ?_); (· exact hHeld.trans (hb.mono hHeld.size)); clear hK K)
        try simp only [zp1, zp3, zp4, zp5]
        refine qy 25 ?_ ?_ ?_ hHeld ?_; rotate_left 1; (· rfl); (· intro w' hSw; (try clear hHeld); go_simp; try with_reducible rfl)
        try simp only [zp1, zp3, zp4, zp5]
        refine qy 26 ?_ ?_ ?_ hHeld ?_; rotate_left 1; (· rfl); (· intro w' hSw; (try clear hHeld); go_simp; try with_reducible rfl)
        try simp only [zp1, zp3, zp4, zp5]
        refine wpAnyH_done (by kernel_rfl) ?_ _
        go_wp2_with fail
        go_ret
        exact ⟨ret_bool (by rw [R.out]; rfl), below_on HB.out hHeld⟩
      | true =>
        refine wp_region_held_drew (S := fun w' => Below W0.heap.size W0 w') (by kernel_rfl) ?_ (fun hHeld => ?_)
        · exact (Below.refl _ _).drew
        refine qy 0 ?_ ?_ ?_ hHeld ?_; rotate_left 1; (· rfl); (· intro w' hSw; refine exec_ld 42 (.tmp 2) ?_ w.heap.size ?_ 42 _ (0, 0) _ ((hSw.block _ (row_lt Q0.out)).trans Q0.out) Tryz.underlying42 rfl (by kernel_rfl) <;> rfl)
        try simp only [zp1, zp3, zp4, zp5]
        refine qy 2 ?_ ?_ ?_ hHeld ?_; rotate_left 1; (· rfl); (· intro w' hSw; refine exec_ld 42 (.tmp 3) ?_ (w.heap.size + 1) ?_ 42 _ (0, 0) _ ((hSw.block _ (row_lt Q1.out)).trans Q1.out) Tryz.underlying42 rfl (by kernel_rfl) <;> rfl)
        try simp only [zp1, zp3, zp4, zp5]
        refine rg_call (i := 1) (atN rfl) (by kernel_rfl) ?_ (fun K hK => ?_); (· rfl); (try clear hb); go_simp; (refine (at_plain a _ _ _ _).mono ?_; rintro e w1 ⟨rfl, hb⟩); go_wp2_with fail; refine hK.out _ _ ?_ (fun hHeld => ?_); (· exact hHeld.trans (hb.mono hHeld.size)); clear hK K
        try simp only [zp1, zp3, zp4, zp5]
        refine rg_call (i := 3) (atN rfl) (by kernel_rfl) ?_ (fun K hK => ?_); (· rfl); (try clear hb); go_simp; (refine (at_plain b _ _ _ _).mono ?_; rintro e w1 ⟨rfl, hb⟩); go_wp2_with fail; refine hK.out _ _ ?_ (fun hHeld => ?_); (· exact hHeld.trans (hb.mono hHeld.size)); clear hK K
        try simp only [zp1, zp3, zp4, zp5]
        refine qy 4 ?_ ?_ ?_ hHeld ?_; rotate_left 1; (· rfl); (· intro w' hSw; (try clear hHeld); go_simp; try with_reducible rfl)
        try simp only [zp1, zp3, zp4, zp5]
        refine qy 5 ?_ ?_ ?_ hHeld ?_; rotate_left 1; (· rfl); (· intro w' hSw; (try clear hHeld); go_simp; try with_reducible rfl)
        try simp only [zp1, zp3, zp4, zp5]
        first | (refine rgn (i := 6) (atN rfl) (by kernel_rfl) (fun _ _ _ h => h) ?_ hHeld ?_; (· rfl)) | (refine qy 6 ?_ ?_ ?_ hHeld ?_; rotate_left 1; (· rfl); (· intro w' hSw; (try clear hHeld); go_simp; try with_reducible rfl))
        try simp only [zp1, zp3, zp4, zp5]
        first | (refine rgn (i := 7) (atN rfl) (by kernel_rfl) (fun _ _ _ h => h) ?_ hHeld ?_; (· rfl)) | (refine qy 7 ?_ ?_ ?_ hHeld ?_; rotate_left 1; (· rfl); (· intro w' hSw; have cc := cell_below cc hSw; have dc := cell_below dc hSw; have cp := cell_below cp hSw; have dp := cell_below dp hSw; have co := cell_below co hSw; have do_ := cell_below do_ hSw; (try clear hHeld); go_simp; try with_reducible rfl))
        try simp only [zp1, zp3, zp4, zp5]
        first | (refine rgn (i := 8) (atN rfl) (by kernel_rfl) (fun _ _ _ h => h) ?_ hHeld ?_; (· rfl)) | (refine qy 8 ?_ ?_ ?_ hHeld ?_; rotate_left 1; (· rfl); (· intro w' hSw; (try clear hHeld); go_simp; try with_reducible rfl))
        try simp only [zp1, zp3, zp4, zp5]
        first | (refine rgn (i := 9) (atN rfl) (by kernel_rfl) (fun _ _ _ h => h) ?_ hHeld ?_; (· rfl)) | (refine qy 9 ?_ ?_ ?_ hHeld ?_; rotate_left 1; (· rfl); (· intro w' hSw; have cc := cell_below cc hSw; have dc := cell_below dc hSw; have cp := cell_below cp hSw; have dp := cell_below dp hSw; have co := cell_below co hSw; have do_ := cell_below do_ hSw; (try clear hHeld); go_simp; try with_reducible rfl))
        try simp only [zp1, zp3, zp4, zp5]
        first | (refine rgn (i := 10) (atN rfl) (by kernel_rfl) (fun _ _ _ h => h) ?_ hHeld ?_; (· rfl)) | (refine rg_call (i := 10) (atN rfl) (by kernel_rfl) ?_ (fun K hK => ?_); (· rfl); (try clear hb); go_simp; (refine (EI.out _ hHeld).mono ?_; rintro e w1 ⟨rfl, hb⟩); go_wp2_with fail; refine hK.out _ _ ?_ (fun hHeld => ?_); (· exact hHeld.trans (hb.mono hHeld.size)); clear hK K)
        try simp only [zp1, zp3, zp4, zp5]
        refine qy 11 ?_ ?_ ?_ hHeld ?_; rotate_left 1; (· rfl); (· intro w' hSw; (try clear hHeld); go_simp; try with_reducible rfl)
        try simp only [zp1, zp3, zp4, zp5]
        refine qy 12 ?_ ?_ ?_ hHeld ?_; rotate_left 1; (· rfl); (· intro w' hSw; (try clear hHeld); go_simp; try with_reducible rfl)
        try simp only [zp1, zp3, zp4, zp5]
        first | (refine rgn (i := 13) (atN rfl) (by kernel_rfl) (fun _ _ _ h => h) ?_ hHeld ?_; (· rfl)) | (refine qy 13 ?_ ?_ ?_ hHeld ?_; rotate_left 1; (· rfl); (· intro w' hSw; (try clear hHeld); go_simp; try with_reducible rfl))
        try simp only [zp1, zp3, zp4, zp5]
        first | (refine rgn (i := 14) (atN rfl) (by kernel_rfl) (fun _ _ _ h => h) ?_ hHeld ?_; (· rfl)) | (refine qy 14 ?_ ?_ ?_ hHeld ?_; rotate_left 1; (· rfl); (· intro w' hSw; have cc := cell_below cc hSw; have dc := cell_below dc hSw; have cp := cell_below cp hSw; have dp := cell_below dp hSw; have co := cell_below co hSw; have do_ := cell_below do_ hSw; (try clear hHeld); go_simp; try with_reducible rfl))
        try simp only [zp1, zp3, zp4, zp5]
        first | (refine rgn (i := 15) (atN rfl) (by kernel_rfl) (fun _ _ _ h => h) ?_ hHeld ?_; (· rfl)) | (refine qy 15 ?_ ?_ ?_ hHeld ?_; rotate_left 1; (· rfl); (· intro w' hSw; (try clear hHeld); go_simp; try with_reducible rfl))
        try simp only [zp1, zp3, zp4, zp5]
        first | (refine rgn (i := 16) (atN rfl) (by kernel_rfl) (fun _ _ _ h => h) ?_ hHeld ?_; (· rfl)) | (refine qy 16 ?_ ?_ ?_ hHeld ?_; rotate_left 1; (· rfl); (· intro w' hSw; have cc := cell_below cc hSw; have dc := cell_below dc hSw; have cp := cell_below cp hSw; have dp := cell_below dp hSw; have co := cell_below co hSw; have do_ := cell_below do_ hSw; (try clear hHeld); go_simp; try with_reducible rfl))
        try simp only [zp1, zp3, zp4, zp5]
        first | (refine rgn (i := 17) (atN rfl) (by kernel_rfl) (fun _ _ _ h => h) ?_ hHeld ?_; (· rfl)) | (refine rg_call (i := 17) (atN rfl) (by kernel_rfl) ?_ (fun K hK => ?_); (· rfl); (try clear hb); go_simp; (refine (ES.out _ hHeld).mono ?_; rintro e w1 ⟨rfl, hb⟩); go_wp2_with fail; refine hK.out _ _ ?_ (fun hHeld => ?_); (· exact hHeld.trans (hb.mono hHeld.size)); clear hK K)
        try simp only [zp1, zp3, zp4, zp5]
        refine qy 18 ?_ ?_ ?_ hHeld ?_; rotate_left 1; (· rfl); (· intro w' hSw; (try clear hHeld); go_simp; try with_reducible rfl)
        try simp only [zp1, zp3, zp4, zp5]
        refine qy 19 ?_ ?_ ?_ hHeld ?_; rotate_left 1; (· rfl); (· intro w' hSw; (try clear hHeld); go_simp; try with_reducible rfl)
        try simp only [zp1, zp3, zp4, zp5]
        first | (refine rgn (i := 20) (atN rfl) (by kernel_rfl) (fun _ _ _ h => h) ?_ hHeld ?_; (· rfl)) | (refine qy 20 ?_ ?_ ?_ hHeld ?_; rotate_left 1; (· rfl); (· intro w' hSw; (try clear hHeld); go_simp; try with_reducible rfl))
        try simp only [zp1, zp3, zp4, zp5]
        first | (refine rgn (i := 21) (atN rfl) (by kernel_rfl) (fun _ _ _ h => h) ?_ hHeld ?_; (· rfl)) | (refine qy 21 ?_ ?_ ?_ hHeld ?_; rotate_left 1; (· rfl); (· intro w' hSw; have cc := cell_below cc hSw; have dc := cell_below dc hSw; have cp := cell_below cp hSw; have dp := cell_below dp hSw; have co := cell_below co hSw; have do_ := cell_below do_ hSw; (try clear hHeld); go_simp; try with_reducible rfl))
        try simp only [zp1, zp3, zp4, zp5]
        first | (refine rgn (i := 22) (atN rfl) (by kernel_rfl) (fun _ _ _ h => h) ?_ hHeld ?_; (· rfl)) | (refine qy 22 ?_ ?_ ?_ hHeld ?_; rotate_left 1; (· rfl); (· intro w' hSw; (try clear hHeld); go_simp; try with_reducible rfl))
        try simp only [zp1, zp3, zp4, zp5]
        first | (refine rgn (i := 23) (atN rfl) (by kernel_rfl) (fun _ _ _ h => h) ?_ hHeld ?_; (· rfl)) | (refine qy 23 ?_ ?_ ?_ hHeld ?_; rotate_left 1; (· rfl); (· intro w' hSw; have cc := cell_below cc hSw; have dc := cell_below dc hSw; have cp := cell_below cp hSw; have dp := cell_below dp hSw; have co := cell_below co hSw; have do_ := cell_below do_ hSw; (try clear hHeld); go_simp; try with_reducible rfl))
        try simp only [zp1, zp3, zp4, zp5]
        first | (refine rgn (i := 24) (atN rfl) (by kernel_rfl) (fun _ _ _ h => h) ?_ hHeld ?_; (· rfl)) | (refine rg_call (i := 24) (atN rfl) (by kernel_rfl) ?_ (fun K hK => ?_); (· rfl); (try clear hb); go_simp; (refine (EO.out _ hHeld).mono ?_; rintro e w1 ⟨rfl, hb⟩); go_wp2_with fail; refine hK.out _ _ ?_ (fun hHeld => ?_); (· exact hHeld.trans (hb.mono hHeld.size)); clear hK K)
        try simp only [zp1, zp3, zp4, zp5]
        refine qy 25 ?_ ?_ ?_ hHeld ?_; rotate_left 1; (· rfl); (· intro w' hSw; (try clear hHeld); go_simp; try with_reducible rfl)
        try simp only [zp1, zp3, zp4, zp5]
        refine qy 26 ?_ ?_ ?_ hHeld ?_; rotate_left 1; (· rfl); (· intro w' hSw; (try clear hHeld); go_simp; try with_reducible rfl)
        try simp only [zp1, zp3, zp4, zp5]
        refine wpAnyH_done (by kernel_rfl) ?_ _
        go_wp2_with fail
        go_ret
        exact ⟨ret_bool (by rw [R.out]; rfl), below_on HB.out hHeld⟩
end Go.Proofs.YtkoidahgbbabiaaGreat
/-
  ALL ROUTES OF A PEER, IN MEMORY: what there is, and on which blocks it hangs.
-/
namespace Go.Proofs.YtkoidahgbbabiaaGreat
open Go.RowKit
def avOf (a : At) (ps : Option Addr) (pc : Nat) (cs : Option Addr) (cc : Nat) (os : Option Addr) (oc : Nat) : AV :=
  ⟨a.has, a.origin, ps, a.path.length, pc, a.hop, a.med, a.loc, a.aggrAs, a.aggrId, cs, a.comms.length, cc, os, a.others.length, oc⟩
def AvAt (W : World) (a : At) (v : AV) : Prop := ∃ ps pc cs cc os oc, v = avOf a ps pc cs cc os oc ∧ AtL W a (.slice ps a.path.length pc) (.slice cs a.comms.length cc) (.slice os a.others.length oc)
theorem AvAt.below {W W' : World} {a : At} {v : AV} (h : AvAt W a v) (hb : Below W.heap.size W W') : AvAt W' a v := by
  obtain ⟨ps, pc, cs, cc, os, oc, rfl, h⟩ := h
  exact ⟨ps, pc, cs, cc, os, oc, rfl, h.below hb⟩
theorem AvAt.form {W : World} {a : At} {v : AV} (h : AvAt W a v) : ∃ vp vc vo, v.V = .agg (atV a vp vc vo).toArray ∧ AtL W a vp vc vo := by
  obtain ⟨ps, pc, cs, cc, os, oc, rfl, h⟩ := h
  exact ⟨_, _, _, rfl, h⟩
theorem av_of {W : World} {a : At} {vp vc vo : Value} (h : AtL W a vp vc vo) : ∃ v : AV, v.V = .agg (atV a vp vc vo).toArray ∧ AvAt W a v := by
  obtain ⟨ps, pc, rfl, -⟩ := id h.1
  obtain ⟨cs, cc, rfl, -⟩ := id h.2.1
  obtain ⟨os, oc, rfl, -⟩ := id h.2.2
  exact ⟨avOf a ps pc cs cc os oc, rfl, ps, pc, cs, cc, os, oc, rfl, h⟩
theorem av_Clone (a : At) (v : AV) (w : World) (hA : AvAt w a v) (hz : AtSz a) : Calls Tryz.prog 85 #[v.V] w fun e w' => ∃ u : AV, e = .returned u.V ∧ Fresh w.heap.size w' (fun W => AvAt W a u) ∧ Below w.heap.size w w' := by
  obtain ⟨vp, vc, vo, e, h⟩ := hA.form
  rw [e]
  refine (at_Clone a vp vc vo w h hz).mono ?_
  rintro e w' ⟨vp', vc', vo', rfl, hf, hb⟩
  obtain ⟨u, hu, _⟩ := av_of hf.self.1
  refine ⟨u, by rw [hu], ?_, hb⟩
  intro W hW
  obtain ⟨hl, _⟩ := hf W hW
  obtain ⟨u', hu', ha⟩ := av_of hl
  have : u' = u := by
    have := hu'.trans hu.symm
    obtain ⟨⟩ := u
    obtain ⟨⟩ := u'
    simp only [AV.V, Value.agg.injEq, Array.mk.injEq, List.cons.injEq, Value.int.injEq, Value.slice.injEq, and_true, true_and, Int.natCast_inj] at this
    simp_all
  rw [← this]; exact ha
def AvU (W : World) (a : At) (v : AV) : Prop := ∃ ps pc cs cc os oc, v = avOf a ps pc cs cc os oc ∧ AtU W a (.slice ps a.path.length pc) (.slice cs a.comms.length cc) (.slice os a.others.length oc)
theorem AvU.at {W : World} {a : At} {v : AV} (h : AvU W a v) : AvAt W a v := by
  obtain ⟨ps, pc, cs, cc, os, oc, rfl, h⟩ := h
  exact ⟨ps, pc, cs, cc, os, oc, rfl, h.atl⟩
theorem avu_of {W : World} {a : At} {vp vc vo : Value} (h : AtU W a vp vc vo) : ∃ v : AV, v.V = .agg (atV a vp vc vo).toArray ∧ AvU W a v := by
  obtain ⟨ps, pc, rfl, -⟩ := id h.path
  obtain ⟨cs, cc, rfl, -⟩ := id h.comms
  obtain ⟨os, oc, rfl, -⟩ := id h.oths
  exact ⟨avOf a ps pc cs cc os oc, rfl, ps, pc, cs, cc, os, oc, rfl, h⟩
theorem av_CloneU (a : At) (v : AV) (w : World) (hA : AvAt w a v) (hz : AtSz a) : Calls Tryz.prog 85 #[v.V] w fun e w' => ∃ u : AV, e = .returned u.V ∧ Fresh w.heap.size w' (fun W => AvU W a u) ∧ Below w.heap.size w w' := by
  obtain ⟨vp, vc, vo, e, h⟩ := hA.form
  rw [e]
  refine (at_Clone a vp vc vo w h hz).mono ?_
  rintro e w' ⟨vp', vc', vo', rfl, hf, hb⟩
  obtain ⟨u, hu, _⟩ := av_of hf.self.1
  refine ⟨u, by rw [hu], ?_, hb⟩
  intro W hW
  obtain ⟨-, -, hl⟩ := hf W hW
  obtain ⟨u', hu', ha⟩ := avu_of hl
  have : u' = u := by
    have := hu'.trans hu.symm
    obtain ⟨⟩ := u
    obtain ⟨⟩ := u'
    simp only [AV.V, Value.agg.injEq, Array.mk.injEq, List.cons.injEq, Value.int.injEq, Value.slice.injEq, and_true, true_and, Int.natCast_inj] at this
    simp_all
  rw [← this]; exact ha
theorem av_Passes (a : At) (v : AV) (t : Int) (w : World) (hA : AvAt w a v) : Calls Tryz.prog 94 #[v.V, .int .i64 t] w fun e w' => e = .returned (.bool (passB a.path t)) ∧ Below w.heap.size w w' := by
  obtain ⟨vp, vc, vo, e, h⟩ := hA.form
  rw [e]
  exact at_Passes a vp vc vo t w h.1
theorem av_Same (a b : At) (v u : AV) (w : World) (hA : AvAt w a v) (hB : AvAt w b u) : Calls Tryz.prog 37 #[v.V, u.V] w fun e w' => e = .returned (.bool (sameA a b)) ∧ Below w.heap.size w w' := by
  obtain ⟨vp, vc, vo, e, h⟩ := hA.form
  obtain ⟨vp', vc', vo', e', h'⟩ := hB.form
  rw [e, e']
  exact at_Same a b vp vc vo vp' vc' vo' w h h'
abbrev pKey (p : Pf) : Nat := keyN p.1.toNat p.2.toNat
def RgtP (p : Pf) : Prop := OkP p ∧ rightB p.1 p.2 = true
theorem RgtP.nat {p : Pf} (h : RgtP p) : ∃ a n : Nat, p = ((a : Int), (n : Int)) ∧ a < 4294967296 ∧ n ≤ 32 ∧ a % 2 ^ (32 - n) = 0 ∧ rightB (a : Int) (n : Int) = true := by
  obtain ⟨⟨h1, h2⟩, h3⟩ := h
  obtain ⟨a, n⟩ := p
  simp only at h1 h2 h3
  have hr := rightB_range h3
  obtain ⟨a, rfl⟩ := Int.eq_ofNat_of_zero_le h1
  obtain ⟨n, rfl⟩ := Int.eq_ofNat_of_zero_le hr.1
  exact ⟨a, n, rfl, by omega, by omega, (right_mod.1 h3).1, h3⟩
theorem pKey_inj {p q : Pf} (hp : RgtP p) (hq : RgtP q) (h : pKey p = pKey q) : p = q := by
  obtain ⟨a, n, rfl, ha, hn, hm, _⟩ := hp.nat
  obtain ⟨b, k, rfl, hb, hk, hm', _⟩ := hq.nat
  obtain ⟨e1, e2⟩ := keyN_inj (show a < 4294967296 from ha) (show b < 4294967296 from hb) (show n ≤ 32 from hn) (show k ≤ 32 from hk) h
  subst e1
  rw [key_block hm hm' e2]
structure Ent where
  p : Pf
  a : At
  v : AV
  lo : Nat
  hi : Nat
abbrev kvs (E : List Ent) : List (Nat × AV) := E.map fun e => (pKey e.p, e.v)
abbrev rts (E : List Ent) : List (Pf × At) := E.map fun e => (e.p, e.a)
def findE (E : List Ent) (p : Pf) : Option Ent := E.find? fun e => e.p = p
def delE (E : List Ent) (p : Pf) : List Ent := E.filter fun e => !decide (e.p = p)
theorem find_kvs {E : List Ent} (hE : ∀ e ∈ E, RgtP e.p) {p : Pf} (hp : RgtP p) : getL (kvs E) (pKey p) = (findE E p).map (·.v) := by
  induction E with
  | nil => rfl
  | cons e E ih =>
    have ih := ih fun x hx => hE x (List.mem_cons_of_mem _ hx)
    by_cases h : e.p = p
    · unfold getL findE kvs
      rw [List.map_cons, List.find?_cons_of_pos (by simp [h]), List.find?_cons_of_pos (by simpa using h)]
      rfl
    · unfold getL findE kvs at ih
      unfold getL findE kvs
      rw [List.map_cons, List.find?_cons_of_neg (by simpa using fun x => h (pKey_inj (hE e (List.mem_cons_self ..)) hp x)), List.find?_cons_of_neg (by simpa using h)]
      exact ih
theorem find_rts (E : List Ent) (p : Pf) : getL (rts E) p = (findE E p).map (·.a) := by
  induction E with
  | nil => rfl
  | cons e E ih =>
    by_cases h : e.p = p
    · unfold getL findE rts
      rw [List.map_cons, List.find?_cons_of_pos (by simpa using h), List.find?_cons_of_pos (by simpa using h)]
      rfl
    · unfold getL findE rts at ih
      unfold getL findE rts
      rw [List.map_cons, List.find?_cons_of_neg (by simpa using h), List.find?_cons_of_neg (by simpa using h)]
      exact ih
theorem findE_mem {E : List Ent} {p : Pf} {e : Ent} (h : findE E p = some e) : e ∈ E ∧ e.p = p := by
  unfold findE at h
  exact ⟨List.mem_of_find?_eq_some h, by simpa using List.find?_some h⟩
theorem del_kvs {E : List Ent} (hE : ∀ e ∈ E, RgtP e.p) {p : Pf} (hp : RgtP p) : delL (kvs E) (pKey p) = kvs (delE E p) := by
  unfold delL delE kvs
  rw [List.filter_map]
  congr 1
  refine List.filter_congr fun e he => ?_
  simp only [Function.comp]
  congr 1
  by_cases h : e.p = p
  · simp [h]
  · simpa [h] using fun x => h (pKey_inj (hE e he) hp x)
theorem del_rts (E : List Ent) (p : Pf) : delL (rts E) p = rts (delE E p) := by
  unfold delL delE rts
  rw [List.filter_map]
  rfl
theorem mem_delE {E : List Ent} {p : Pf} {e : Ent} : e ∈ delE E p ↔ e ∈ E ∧ e.p ≠ p := by unfold delE; simp
theorem apart_rts {E : List Ent} (h : KeysApart (kvs E)) : KeysApart (rts E) := by
  unfold KeysApart at *
  rw [List.pairwise_map] at *
  exact h.imp fun {x y} hne e => hne (by simp only; simp only at e; rw [e])
structure RibIn (w : World) (rb tb : Nat) (N : Nat → Option Nat) (E : List Ent) (peer own most : Int) (F : Nat → Prop) : Prop where
  row : w.heap[rb]? = some (.cells #[.int .i64 peer, .int .i64 own, .int .i64 most, .pointer (some ⟨tb, 0, none⟩)] 169 (0, 0))
  tri : TrI w tb N (kvs E) most
  rgt : ∀ e ∈ E, RgtP e.p
  szs : ∀ e ∈ E, AtSz e.a
  ent : ∀ e ∈ E, e.hi ≤ w.heap.size ∧ On (fun k => e.lo ≤ k ∧ k < e.hi) w (fun W => AvAt W e.a e.v)
  frb : F rb
  ftr : ∀ b, TOwn tb N b → F b
  fen : ∀ e ∈ E, ∀ k, e.lo ≤ k → k < e.hi → F k
  apr : ¬ TOwn tb N rb
  apn : ∀ e ∈ E, ∀ b, TOwn tb N b ∨ b = rb → ¬ (e.lo ≤ b ∧ b < e.hi)
  most0 : 0 ≤ most
  most1 : most ≤ 256
  room : E.length ≤ most
def RibAt (w : World) (rb : Nat) (peer own most : Int) (R : List (Pf × At)) (F : Nat → Prop) : Prop := ∃ tb N E, RibIn w rb tb N E peer own most F ∧ R = rts E
section
variable {w w' : World} {rb tb : Nat} {N N' : Nat → Option Nat} {E : List Ent} {peer own most : Int} {F G : Nat → Prop} {R : List (Pf × At)}
theorem RibIn.kept (h : RibIn w rb tb N E peer own most F) (hk : Kept G w w') (hG : ∀ k, k < w.heap.size → F k → ¬ G k) : RibIn w' rb tb N E peer own most F :=
  ⟨(hk.block rb (row_lt h.row) (hG _ (row_lt h.row) h.frb)).trans h.row, h.tri.kept hk (fun b hb => hG b (h.tri.own_lt hb) (h.ftr b hb)), h.rgt, h.szs,
   fun e he => ⟨Nat.le_trans (h.ent e he).1 hk.size, (h.ent e he).2.kept hk fun k hl hF => hG k hl (h.fen e he k hF.1 hF.2)⟩, h.frb, h.ftr, h.fen, h.apr, h.apn, h.most0, h.most1, h.room⟩
theorem RibIn.below (h : RibIn w rb tb N E peer own most F) (hb : Below w.heap.size w w') : RibIn w' rb tb N E peer own most F := h.kept (G := fun _ => False) (Kept.of_below hb) fun _ _ _ h => h
theorem RibIn.wide (h : RibIn w rb tb N E peer own most F) (hFG : ∀ k, F k → G k) : RibIn w rb tb N E peer own most G :=
  ⟨h.row, h.tri, h.rgt, h.szs, h.ent, hFG _ h.frb, fun b hb => hFG _ (h.ftr b hb), fun e he k h1 h2 => hFG _ (h.fen e he k h1 h2), h.apr, h.apn, h.most0, h.most1, h.room⟩
theorem RibAt.kept (h : RibAt w rb peer own most R F) (hk : Kept G w w') (hG : ∀ k, k < w.heap.size → F k → ¬ G k) : RibAt w' rb peer own most R F := by
  obtain ⟨tb, N, E, h1, h2⟩ := h; exact ⟨tb, N, E, h1.kept hk hG, h2⟩
theorem RibAt.below (h : RibAt w rb peer own most R F) (hb : Below w.heap.size w w') : RibAt w' rb peer own most R F := by
  obtain ⟨tb, N, E, h1, h2⟩ := h; exact ⟨tb, N, E, h1.below hb, h2⟩
theorem RibAt.wide (h : RibAt w rb peer own most R F) (hFG : ∀ k, F k → G k) : RibAt w rb peer own most R G := by
  obtain ⟨tb, N, E, h1, h2⟩ := h; exact ⟨tb, N, E, h1.wide hFG, h2⟩
theorem RibAt.lt (h : RibAt w rb peer own most R F) : rb < w.heap.size := by
  obtain ⟨tb, N, E, h1, h2⟩ := h; exact row_lt h1.row
theorem RibIn.cells (h : RibIn w rb tb N E peer own most F) : w.cell? ⟨rb, 0, none⟩ = some (.int .i64 peer) ∧ w.cell? ⟨rb, 1, none⟩ = some (.int .i64 own) ∧ w.cell? ⟨rb, 2, none⟩ = some (.int .i64 most) ∧ w.cell? ⟨rb, 3, none⟩ = some (.pointer (some ⟨tb, 0, none⟩)) :=
  ⟨row_cell h.row 0, row_cell h.row 1, row_cell h.row 2, row_cell h.row 3⟩
theorem RibIn.drop (h : RibIn w rb tb N E peer own most F) {p : Pf} (hp : RgtP p) (ht : TrI w' tb N' (delL (kvs E) (pKey p)) most) (hs : ∀ k b, N' k = some b → N k = some b) (hk : Kept (TOwn tb N) w w') : RibIn w' rb tb N' (delE E p) peer own most F := by
  have hto : ∀ b, TOwn tb N' b → TOwn tb N b := fun b hb => hb.imp_right fun ⟨k, e⟩ => ⟨k, hs k b e⟩
  have hm : ∀ e ∈ delE E p, e ∈ E := fun e he => (mem_delE.1 he).1
  refine ⟨(hk.block rb (row_lt h.row) h.apr).trans h.row, ?_, fun e he => h.rgt e (hm e he), fun e he => h.szs e (hm e he), fun e he => ⟨Nat.le_trans (h.ent e (hm e he)).1 hk.size, (h.ent e (hm e he)).2.kept hk fun k hl hF ho => h.apn e (hm e he) k (.inl ho) hF⟩,
    h.frb, fun b hb => h.ftr b (hto b hb), fun e he => h.fen e (hm e he), fun x => h.apr (hto _ x), fun e he b hb => h.apn e (hm e he) b (hb.imp_left (hto b)), h.most0, h.most1, ?_⟩
  · rw [← del_kvs h.rgt hp]; exact ht
  · have : (delE E p).length ≤ E.length := List.length_filter_le ..
    have := h.room
    omega
theorem RibIn.put {w1 : World} (h : RibIn w rb tb N E peer own most F) {p : Pf} {a : At} {v : AV} {lo hi : Nat} (hp : RgtP p) (hz : AtSz a) (hon : On (fun k => lo ≤ k ∧ k < hi) w (fun W => AvAt W a v)) (hhi : hi ≤ w.heap.size) (hlo : ∀ b, TOwn tb N b ∨ b = rb → ¬ (lo ≤ b ∧ b < hi)) (hF : ∀ k, lo ≤ k → k < hi → F k)
    (ht : TrI w1 tb N' (delL (kvs E) (pKey p) ++ [(pKey p, v)]) most) (hs : ∀ k b, N' k = some b → N k = some b ∨ w.heap.size ≤ b) (hk : Kept (TOwn tb N) w w1) (hr : ((delE E p).length : Int) + 1 ≤ most) :
    RibIn w1 rb tb N' (delE E p ++ [⟨p, a, v, lo, hi⟩]) peer own most (fun b => F b ∨ (w.heap.size ≤ b ∧ b < w1.heap.size)) := by
  have hto : ∀ b, TOwn tb N' b → TOwn tb N b ∨ w.heap.size ≤ b := fun b hb => by
    rcases hb with e | ⟨k, e⟩
    · exact .inl (.inl e)
    · exact (hs k b e).imp_left fun e => .inr ⟨k, e⟩
  have hrl := row_lt h.row
  refine ⟨(hk.block rb hrl h.apr).trans h.row, ?_, ?_, ?_, ?_, .inl h.frb, fun b hb => (hto b hb).imp (h.ftr b) (fun hge => ⟨hge, ht.own_lt hb⟩), ?_, ?_, ?_, h.most0, h.most1, ?_⟩
  · have : kvs (delE E p ++ [⟨p, a, v, lo, hi⟩]) = delL (kvs E) (pKey p) ++ [(pKey p, v)] := by
      rw [del_kvs h.rgt hp, kvs, List.map_append]; rfl
    rw [this]; exact ht
  · intro e he
    rcases List.mem_append.1 he with he | he
    · exact h.rgt e (mem_delE.1 he).1
    · simp at he; subst he; exact hp
  · intro e he
    rcases List.mem_append.1 he with he | he
    · exact h.szs e (mem_delE.1 he).1
    · simp at he; subst he; exact hz
  · intro e he
    rcases List.mem_append.1 he with he | he
    · have he := (mem_delE.1 he).1
      exact ⟨Nat.le_trans (h.ent e he).1 hk.size, (h.ent e he).2.kept hk fun k hl hF ho => h.apn e he k (.inl ho) hF⟩
    · simp at he; subst he
      exact ⟨Nat.le_trans hhi hk.size, hon.kept hk fun k hl hF ho => hlo k (.inl ho) hF⟩
  · intro e he k h1 h2
    rcases List.mem_append.1 he with he | he
    · exact .inl (h.fen e (mem_delE.1 he).1 k h1 h2)
    · simp at he; subst he; exact .inl (hF k h1 h2)
  · intro x
    rcases hto _ x with x | x
    · exact h.apr x
    · omega
  · intro e he b hb hx
    have hb' : (TOwn tb N b ∨ b = rb) ∨ w.heap.size ≤ b := by
      rcases hb with hb | hb
      · exact (hto b hb).imp_left .inl
      · exact .inl (.inr hb)
    rcases List.mem_append.1 he with he | he
    · have he := (mem_delE.1 he).1
      rcases hb' with hb | hb
      · exact h.apn e he b hb hx
      · have := (h.ent e he).1; omega
    · simp at he; subst he
      rcases hb' with hb | hb
      · exact hlo b hb hx
      · simp only at hx; omega
  · rw [List.length_append]; simp only [List.length_cons, List.length_nil]; omega
end
end Go.Proofs.YtkoidahgbbabiaaGreat
