/-
  ExportAll: a route that nothing is said of goes to all but who said it, and who is on its path; for all attributes and numbers; no condition.
-/
import Derived.Test.YtafckbapplelhaaExp
import Derived.Test.YtafckbapplelhaaAtC
namespace Go.Proofs.Ytafckbapplelhaa
open Go.RowKit

def bigB (a : At) : Bool := decide (10 < a.path.length) || (decide (60 < a.comms.length) || decide (6 < a.others.length))
set_option maxHeartbeats 1600000 in
set_option maxRecDepth 100000 in
theorem law_big (a : At) (vp vc vo : Value) (w : World) (hA : AtL w a vp vc vo) : Calls Try.prog 5 #[.agg (atV a vp vc vo).toArray] w fun e w' => e = .returned (.bool (bigB a)) ∧ Below w.heap.size w w' := by
  show Calls Try.prog 5 #[.agg (atC a vp vc vo)] w _
  obtain ⟨sp, cp, rfl, -⟩ := id hA.1
  obtain ⟨sc, cc, rfl, -⟩ := id hA.2.1
  obtain ⟨so, co, rfl, -⟩ := id hA.2.2
  clear hA
  go_enter Try.func5, Try.ntmps5
  go_upto_region 1 with (fail)
  obtain ⟨W0, hW0, qa, hb0, -⟩ := box1 w (atC a (.slice sp a.path.length cp) (.slice sc a.comms.length cc) (.slice so a.others.length co)) 28
  rw [← hW0]
  clear hW0
  obtain ⟨y0, y1, y2, y3, y4, y5, y6, y7, y8, y9⟩ := at_block qa
  clear qa
  by_cases h1 : 10 < a.path.length
  · have e1 : ((a.path.length : Int) > 10) := by omega
    go_wp2_with fail
    go_ret
    exact ⟨ret_bool (by simp [bigB, h1]), hb0⟩
  · have e1 : ¬ ((a.path.length : Int) > 10) := by omega
    by_cases h2 : 60 < a.comms.length
    · have e2 : ((a.comms.length : Int) > 60) := by omega
      go_wp2_with fail
      go_ret
      exact ⟨ret_bool (by simp [bigB, h2]), hb0⟩
    · have e2 : ¬ ((a.comms.length : Int) > 60) := by omega
      by_cases h3 : 6 < a.others.length
      · have e3 : ((a.others.length : Int) > 6) := by omega
        go_wp2_with fail
        go_ret
        exact ⟨ret_bool (by simp [bigB, h3]), hb0⟩
      · have e3 : ¬ ((a.others.length : Int) > 6) := by omega
        go_wp2_with fail
        go_ret
        exact ⟨ret_bool (by simp [bigB, h1, h2, h3]), hb0⟩
theorem lit_ints {w : World} {g : Nat} {T : TypeId} {C : List Int} (q : w.heap[g]? = some (.cells (C.map fun x => Value.int .i64 x).toArray T (0, 0))) (hC : ∀ x ∈ C, I64r x) (hl : C.length ≤ maxLen) : IntsAt w (.slice (some ⟨g, 0, none⟩) C.length C.length) C := by
  refine ⟨_, _, rfl, Nat.le_refl _, hl, fun _ => ⟨g, 0, rfl, fun i x hx => ⟨[.int .i64 x], rfl, ⟨rfl, hC x (List.mem_of_getElem? hx)⟩, fun j c hc => ?_⟩⟩⟩
  match j, hc with
  | 0, hc =>
    simp at hc; subst hc
    rw [row_cell q]
    simp [hx]
  | j + 1, hc => simp at hc
instance (n : Int) : Decidable (I64r n) := by unfold I64r; infer_instance
def atH (l : List Int) : At := ⟨256, 0, [], 0, 0, 0, 0, 0, l, []⟩
theorem atH_at {W : World} {v : Value} {l : List Int} (h : IntsAt W v l) : AtL W (atH l) (.slice none 0 0) v (.slice none 0 0) := ⟨SlAt.nil, h, SlAt.nil⟩
set_option maxHeartbeats 6400000 in
set_option maxRecDepth 100000 in
theorem law_head (w : World) : Calls Try.prog 4 #[] w fun e w' => e = .returned (.bool true) ∧ Below w.heap.size w w' := by
  have g1 : goesB 900 (fun _ => false) (atH [900]) 1 2 7 = false := by decide
  have g2 : goesB 900 (fun _ => false) (atH [900, 58982407]) 1 2 7 = true := by decide
  have g3 : goesB 900 (fun _ => false) (atH [900, 58982407]) 1 3 8 = false := by decide
  have c1 : commI 0 900 = 900 := by decide
  have c2 : commI 900 7 = 58982407 := by decide
  have G1 := Lib.hid (fun fb v W h1 h2 => ex_Goes fb 900 (fun _ => false) (atH [900]) (.slice none 0 0) v (.slice none 0 0) 1 2 7 (by decide) (by decide) W h1 (atH_at h2))
  have G2 := Lib.hid (fun fb v W h1 h2 => ex_Goes fb 900 (fun _ => false) (atH [900, 58982407]) (.slice none 0 0) v (.slice none 0 0) 1 2 7 (by decide) (by decide) W h1 (atH_at h2))
  have G3 := Lib.hid (fun fb v W h1 h2 => ex_Goes fb 900 (fun _ => false) (atH [900, 58982407]) (.slice none 0 0) v (.slice none 0 0) 1 3 8 (by decide) (by decide) W h1 (atH_at h2))
  rw [g1] at G1
  rw [g2] at G2
  rw [g3] at G3
  have N1 := Lib.hid (ex_New 900 w)
  rw [show (900 : Int) % 65536 = 900 by decide] at N1
  have O1 := Lib.hid (fun W => export_Of 0 900 W)
  have O2 := Lib.hid (fun W => export_Of 900 7 W)
  rw [c1] at O1
  rw [c2] at O2
  clear g1 g2 g3 c1 c2
  go_enter Try.func4, Try.ntmps4
  go_wp2_with fail
  refine N1.out.mono ?_
  rintro e w1 ⟨rfl, F1, hb1⟩
  have F1 := Lib.hid F1
  have B1 := Lib.hid hb1
  generalize w.heap.size = fb at F1 ⊢
  clear hb1
  go_wp2_with fail
  refine (O1.out _).mono ?_
  rintro e w2 ⟨rfl, rfl⟩
  go_upto_region 3 with (fail)
  obtain ⟨W2, hW2, q0, q1, hb2⟩ := boxTwo w1 #[.int .i64 900] 3 #[.int .i64 256, .int .i64 0, .slice none 0 0, .int .u32 0, .int .i64 0, .int .i64 0, .int .i64 0, .int .u32 0, .slice (some ⟨w1.heap.size, 0, none⟩) 1 1, .slice none 0 0] 28
  rw [← hW2]
  clear hW2
  have F2 := Lib.hid (F1.out.below hb2)
  have B2 := Lib.hid (below_on B1.out hb2)
  have Q1 := Lib.hid q1
  have I1 : Hid (IntsAt W2 (.slice (some ⟨w1.heap.size, 0, none⟩) 1 1) [900]) := Lib.hid (lit_ints (C := [900]) q0 (by decide) (by decide))
  clear q0 q1 hb2 F1 B1 N1
  generalize w1.heap.size = g1 at Q1 I1 ⊢
  go_wp2_with fail
  refine (O1.out _).mono ?_
  rintro e w3 ⟨rfl, rfl⟩
  go_wp2_with fail
  refine (O2.out _).mono ?_
  rintro e w3 ⟨rfl, rfl⟩
  go_upto_region 4 with (fail)
  obtain ⟨W3, hW3, q0, q1, hb3⟩ := boxTwo W2 #[.int .i64 900, .int .i64 58982407] 3 #[.int .i64 256, .int .i64 0, .slice none 0 0, .int .u32 0, .int .i64 0, .int .i64 0, .int .i64 0, .int .u32 0, .slice (some ⟨W2.heap.size, 0, none⟩) 2 2, .slice none 0 0] 28
  rw [← hW3]
  clear hW3
  have F3 := Lib.hid (F2.out.below hb3)
  have B3 := Lib.hid (below_on B2.out hb3)
  have I3 := Lib.hid (I1.out.below hb3)
  have I2 : Hid (IntsAt W3 (.slice (some ⟨W2.heap.size, 0, none⟩) 2 2) [900, 58982407]) := Lib.hid (lit_ints (C := [900, 58982407]) q0 (by decide) (by decide))
  have Q3 := Lib.hid ((hb3.block _ (row_lt Q1.out)).trans Q1.out)
  have Q2 := Lib.hid q1
  clear q0 q1 hb3 F2 B2 I1 Q1
  generalize W2.heap.size = g2 at Q2 I2 ⊢
  obtain ⟨y0, y1, y2, y3, y4, y5, y6, y7, y8, y9⟩ := at_block Q3.out
  go_wp2_with fail
  refine (G1.out _ _ _ F3.out I3.out).mono ?_
  rintro e w4 ⟨rfl, hb4⟩
  have F4 := Lib.hid (F3.out.below hb4)
  have B4 := Lib.hid (below_on B3.out hb4)
  have I4 := Lib.hid (I2.out.below hb4)
  have Q4 := Lib.hid ((hb4.block _ (row_lt Q2.out)).trans Q2.out)
  clear hb4 F3 B3 I3 I2 Q2 Q3 y0 y1 y2 y3 y4 y5 y6 y7 y8 y9
  obtain ⟨y0, y1, y2, y3, y4, y5, y6, y7, y8, y9⟩ := at_block Q4.out
  go_wp2_with fail
  refine (G2.out _ _ _ F4.out I4.out).mono ?_
  rintro e w5 ⟨rfl, hb5⟩
  have F5 := Lib.hid (F4.out.below hb5)
  have B5 := Lib.hid (below_on B4.out hb5)
  have I5 := Lib.hid (I4.out.below hb5)
  have Q5 := Lib.hid ((hb5.block _ (row_lt Q4.out)).trans Q4.out)
  clear hb5 F4 B4 I4 Q4 y0 y1 y2 y3 y4 y5 y6 y7 y8 y9
  obtain ⟨y0, y1, y2, y3, y4, y5, y6, y7, y8, y9⟩ := at_block Q5.out
  go_wp2_with fail
  refine (G3.out _ _ _ F5.out I5.out).mono ?_
  rintro e w6 ⟨rfl, hb6⟩
  have B6 := Lib.hid (below_on B5.out hb6)
  clear hb6 F5 B5 I5 Q5 y0 y1 y2 y3 y4 y5 y6 y7 y8 y9
  go_wp2_with fail
  go_ret
  exact ⟨rfl, B6.out⟩
theorem comm_none (t : Int) : commB 900 [] t = true := rfl
theorem goes_free (bl : Nat → Bool) (a : At) (i j : Nat) (t : Int) (h : bl (i * 16 + j) = false) : goesB 900 bl { a with comms := [] } i j t = !(i == j || passB a.path t) := by
  unfold goesB; rw [h]; simp [comm_none]
theorem goes_not (bl : Nat → Bool) (a : At) (i j : Nat) (t : Int) (h : bl (i * 16 + j) = true) : goesB 900 bl a i j t = false := by
  unfold goesB; rw [h]; simp
theorem goes_back (bl : Nat → Bool) (a : At) {i j : Nat} (_ : i < 16) (_ : j < 16) (t : Int) (h : ∀ k, k ≠ i * 16 + j → bl k = false) : goesB 900 bl { a with comms := [] } j i t = !(i == j || passB a.path t) := by
  by_cases e : i = j
  · subst e; simp [goesB]
  · rw [goes_free bl a j i t (h _ (by omega))]
    have e1 : (j == i) = (i == j) := by rw [beq_eq_false_iff_ne.2 e, beq_eq_false_iff_ne.2 (Ne.symm e)]
    rw [e1]
set_option maxHeartbeats 12800000 in
set_option maxRecDepth 100000 in
theorem law_ExportAll (a : At) (vp vc vo : Value) (from_ to_ t : Int) (w : World) (hA : AtL w a vp vc vo) (hz : AtSz a) :
    Calls Try.prog 3 #[.agg (atV a vp vc vo).toArray, .int .i64 from_, .int .i64 to_, .int .i64 t] w fun e w' => e = .returned (.bool true) ∧ Below w.heap.size w w' := by
  show Calls Try.prog 3 #[.agg (atC a vp vc vo), .int .i64 from_, .int .i64 to_, .int .i64 t] w _
  have HA := Lib.hid hA
  have HZ := Lib.hid hz
  obtain ⟨i, hei⟩ : ∃ i : Nat, from_ % 16 = (i : Int) := ⟨(from_ % 16).toNat, by omega⟩
  obtain ⟨j, hej⟩ : ∃ j : Nat, to_ % 16 = (j : Int) := ⟨(to_ % 16).toNat, by omega⟩
  have hi : i < 16 := by omega
  have hj : j < 16 := by omega
  have ai : bits .and .i64 from_ 15 = (i : Int) := by rw [and_15]; exact hei
  have aj : bits .and .i64 to_ 15 = (j : Int) := by rw [and_15]; exact hej
  clear hei hej
  obtain ⟨d, hd⟩ : ∃ d, (i == j) = d := ⟨_, rfl⟩
  obtain ⟨z, hzz⟩ : ∃ z, passB a.path t = z := ⟨_, rfl⟩
  have HD := Lib.hid hd
  have BG := Lib.hid (fun W h => law_big a vp vc vo W h)
  have CL := Lib.hid (fun W h => at_Clone a vp vc vo W h hz)
  obtain ⟨b, hb⟩ : ∃ b, bigB a = b := ⟨_, rfl⟩
  rw [hb] at BG
  have PS := Lib.hid (fun vp vo W (h : AtL W { a with comms := [] } vp (.slice none 0 0) vo) => at_Passes { a with comms := [] } vp (.slice none 0 0) vo t W h.1)
  rw [show passB ({ a with comms := [] } : At).path t = z from hzz] at PS
  have G0 := Lib.hid (fun fb vp vo W h1 h2 => ex_Goes fb 900 (fun _ => false) { a with comms := [] } vp (.slice none 0 0) vo i j t hi hj W h1 h2)
  rw [goes_free _ a i j t rfl, hd, hzz] at G0
  have G1 := Lib.hid (fun fb vp vo W h1 h2 => ex_Goes fb 900 (setWay (fun _ => false) (i * 16 + j) true) { a with comms := [] } vp (.slice none 0 0) vo i j t hi hj W h1 h2)
  rw [goes_not _ _ i j t (by unfold setWay; rw [if_pos rfl])] at G1
  have G2 := Lib.hid (fun fb vp vo W h1 h2 => ex_Goes fb 900 (setWay (fun _ => false) (i * 16 + j) true) { a with comms := [] } vp (.slice none 0 0) vo j i t hj hi W h1 h2)
  rw [goes_back _ a hi hj t (fun k hk => by unfold setWay; rw [if_neg hk]), hd, hzz] at G2
  have G3 := Lib.hid (fun fb vp vo W h1 h2 => ex_Goes fb 900 (setWay (setWay (fun _ => false) (i * 16 + j) true) (i * 16 + j) false) { a with comms := [] } vp (.slice none 0 0) vo i j t hi hj W h1 h2)
  rw [goes_free _ a i j t (by unfold setWay; rw [if_pos rfl]), hd, hzz] at G3
  clear hd hzz hb hz
  obtain ⟨sp, cp, rfl, -⟩ := id hA.1
  obtain ⟨sc, cc, rfl, -⟩ := id hA.2.1
  obtain ⟨so, co, rfl, -⟩ := id hA.2.2
  clear hA
  go_enter Try.func3, Try.ntmps3
  go_upto_region 1 with (fail)
  obtain ⟨W0, hW0, qa, hb0, -⟩ := box1 w (atC a (.slice sp a.path.length cp) (.slice sc a.comms.length cc) (.slice so a.others.length co)) 28
  rw [← hW0]
  clear hW0
  have QA := Lib.hid qa
  have B0 := Lib.hid hb0
  have HA0 := Lib.hid (HA.out.below hb0)
  clear qa hb0 HA
  go_wp2_with fail
  refine (law_head _).mono ?_
  rintro e w1 ⟨rfl, hb1⟩
  have QA1 := Lib.hid ((hb1.block _ (row_lt QA.out)).trans QA.out)
  have B1 := Lib.hid (below_on B0.out hb1)
  have HA1 := Lib.hid (HA0.out.below hb1)
  obtain ⟨y0, y1, y2, y3, y4, y5, y6, y7, y8, y9⟩ := at_block QA1.out
  clear hb1 QA B0 HA0
  go_wp2_with fail
  refine (BG.out _ HA1.out).mono ?_
  rintro e w2 ⟨rfl, hb2⟩
  have QA := Lib.hid ((hb2.block _ (row_lt QA1.out)).trans QA1.out)
  have B0 := Lib.hid (below_on B1.out hb2)
  have HA0 := Lib.hid (HA1.out.below hb2)
  clear hb2 QA1 B1 HA1 y0 y1 y2 y3 y4 y5 y6 y7 y8 y9
  cases b
  case true =>
    go_wp2_with fail
    go_ret
    exact ⟨rfl, B0.out⟩
  case false =>
    obtain ⟨y0, y1, y2, y3, y4, y5, y6, y7, y8, y9⟩ := at_block QA.out
    go_wp2_with fail
    refine (CL.out _ HA0.out).mono ?_
    rintro e w3 ⟨vp1, vc1, vo1, rfl, hf, hb3⟩
    have FR := Lib.hid (hf.imp (fun W h => h.1))
    have QA1 := Lib.hid ((hb3.block _ (row_lt QA.out)).trans QA.out)
    have B1 := Lib.hid (below_on B0.out hb3)
    have LT := Lib.hid (row_lt QA.out)
    obtain ⟨sp1, cp1, rfl, -⟩ := id FR.out.self.1
    obtain ⟨sc1, cc1, rfl, -⟩ := id FR.out.self.2.1
    obtain ⟨so1, co1, rfl, -⟩ := id FR.out.self.2.2
    clear hf hb3 QA B0 HA0 y0 y1 y2 y3 y4 y5 y6 y7 y8 y9
    simp only [atV]
    go_wp2_with ((with_reducible refine halt_at (X := .store 28 (.tmp 4) (.tmp 20)) ?_ ?_); (· rfl))
    unfold Halt
    refine st_row rfl 28 (.tmp 4) (.tmp 20) rfl w.heap.size rfl 28 (atC a (.slice sp a.path.length cp) (.slice sc a.comms.length cc) (.slice so a.others.length co)) (atC a (.slice sp1 a.path.length cp1) (.slice sc1 a.comms.length cc1) (.slice so1 a.others.length co1)) rfl QA1.out (by kernel_rfl) rfl (by simp [Value.oneCell']) ?_
    obtain ⟨W4, hW4⟩ : ∃ W4, W4 = w3.setRow w.heap.size (atC a (.slice sp1 a.path.length cp1) (.slice sc1 a.comms.length cc1) (.slice so1 a.others.length co1)) := ⟨_, rfl⟩
    have q4 : W4.heap[w.heap.size]? = some (.cells (atC a (.slice sp1 a.path.length cp1) (.slice sc1 a.comms.length cc1) (.slice so1 a.others.length co1)) 28 (0, 0)) := by rw [hW4]; exact setRow_heap _ _ _ _ _ _ QA1.out
    have KB : Kept (fun k => k = w.heap.size) w3 W4 := by rw [hW4]; exact kept_setRow _ _ rfl
    have FR4 := FR.out.kept KB (fun k _ hl e => by have := LT.out; omega)
    have B4 := B1.out.trans (KB.below (Nat.le_of_lt (Nat.lt_of_lt_of_le (row_lt q4) (by rw [hW4]; simp [World.setRow]))) (fun k hk => by omega))
    rw [← hW4]
    have c8 : W4.cell? ⟨w.heap.size, 8, none⟩ = some (.slice sc1 a.comms.length cc1) := row_cell q4 8
    have f8 := row_free q4 8
    clear hW4 QA1 B1 FR KB
    go_upto_region 9 with (fail)
    obtain ⟨W5, hW5⟩ : ∃ W5, W5 = W4.setCell ⟨w.heap.size, 8, none⟩ (.slice none 0 0) := ⟨_, rfl⟩
    have QA : Hid (W5.heap[w.heap.size]? = some (.cells (atC { a with comms := [] } (.slice sp1 a.path.length cp1) (.slice none 0 0) (.slice so1 a.others.length co1)) 28 (0, 0))) := Lib.hid (by
      rw [hW5]
      have := set_same q4 8 (.slice none 0 0)
      simpa using this)
    have KB : Kept (fun k => k = w.heap.size) W4 W5 := by rw [hW5]; exact Kept.setCell _ _ rfl
    have HA : Hid (AtL W5 { a with comms := [] } (.slice sp1 a.path.length cp1) (.slice none 0 0) (.slice so1 a.others.length co1)) := Lib.hid (by
      have h := (FR4.kept KB (fun k _ hl e => by have := LT.out; omega)).self
      exact ⟨h.1, SlAt.nil, h.2.2⟩)
    have BA := Lib.hid (B4.trans (KB.below (Nat.le_of_lt (row_lt q4)) (fun k hk => by omega)))
    rw [← hW5]
    clear hW5 KB c8 f8 FR4 B4 q4 LT
    go_wp2_with fail
    refine (ex_New 900 _).mono ?_
    rintro e w6 ⟨rfl, hF, hb⟩
    rw [show (900 : Int) % 65536 = 900 by decide] at hF
    have LW : Hid (w.heap.size < W5.heap.size) := Lib.hid (row_lt QA.out)
    have FA := Lib.hid hF
    have BF := Lib.hid hb
    clear hF hb
    cases d
    · have hne : ¬ (i : Int) = (j : Int) := by
        have := beq_eq_false_iff_ne.1 HD.out
        omega
      have hnb : ((i : Int) != (j : Int)) = true := bne_iff_ne.2 hne
      cases z
      · skip
        obtain ⟨y0, y1, y2, y3, y4, y5, y6, y7, y8, y9⟩ := at_block ((BF.out.block _ LW.out).trans QA.out)
        go_wp2_with fail
        refine (PS.out _ _ _ (HA.out.below BF.out)).mono ?_
        rintro e w7 ⟨rfl, hb⟩
        have FB := Lib.hid (FA.out.below hb)
        have BG := Lib.hid (below_on BF.out hb)
        clear hb FA BF y0 y1 y2 y3 y4 y5 y6 y7 y8 y9
        have FA := FB
        have BF := BG
        clear FB BG
        obtain ⟨y0, y1, y2, y3, y4, y5, y6, y7, y8, y9⟩ := at_block ((BF.out.block _ LW.out).trans QA.out)
        go_wp2_with fail
        refine (G0.out _ _ _ _ FA.out (HA.out.below BF.out)).mono ?_
        rintro e w7 ⟨rfl, hb⟩
        have FB := Lib.hid (FA.out.below hb)
        have BG := Lib.hid (below_on BF.out hb)
        clear hb FA BF y0 y1 y2 y3 y4 y5 y6 y7 y8 y9
        have FA := FB
        have BF := BG
        clear FB BG
        go_wp2_with fail
        refine (ex_Set W5.heap.size 900 (fun _ => false) i j true hi hj _ FA.out).mono ?_
        rintro e w8 ⟨rfl, hF, hk⟩
        have FB := Lib.hid hF
        have BG := Lib.hid (BF.out.trans (hk.below BF.out.size (fun k hk => by rw [hk]; exact Nat.le_refl _)))
        clear hF hk FA BF
        have FA := FB
        have BF := BG
        clear FB BG
        obtain ⟨y0, y1, y2, y3, y4, y5, y6, y7, y8, y9⟩ := at_block ((BF.out.block _ LW.out).trans QA.out)
        go_wp2_with fail
        refine (G1.out _ _ _ _ FA.out (HA.out.below BF.out)).mono ?_
        rintro e w7 ⟨rfl, hb⟩
        have FB := Lib.hid (FA.out.below hb)
        have BG := Lib.hid (below_on BF.out hb)
        clear hb FA BF y0 y1 y2 y3 y4 y5 y6 y7 y8 y9
        have FA := FB
        have BF := BG
        clear FB BG
        obtain ⟨y0, y1, y2, y3, y4, y5, y6, y7, y8, y9⟩ := at_block ((BF.out.block _ LW.out).trans QA.out)
        go_wp2_with fail
        refine (G2.out _ _ _ _ FA.out (HA.out.below BF.out)).mono ?_
        rintro e w7 ⟨rfl, hb⟩
        have FB := Lib.hid (FA.out.below hb)
        have BG := Lib.hid (below_on BF.out hb)
        clear hb FA BF y0 y1 y2 y3 y4 y5 y6 y7 y8 y9
        have FA := FB
        have BF := BG
        clear FB BG
        go_wp2_with fail
        refine (ex_Set W5.heap.size 900 (setWay (fun _ => false) (i * 16 + j) true) i j false hi hj _ FA.out).mono ?_
        rintro e w8 ⟨rfl, hF, hk⟩
        have FB := Lib.hid hF
        have BG := Lib.hid (BF.out.trans (hk.below BF.out.size (fun k hk => by rw [hk]; exact Nat.le_refl _)))
        clear hF hk FA BF
        have FA := FB
        have BF := BG
        clear FB BG
        obtain ⟨y0, y1, y2, y3, y4, y5, y6, y7, y8, y9⟩ := at_block ((BF.out.block _ LW.out).trans QA.out)
        go_wp2_with fail
        refine (G3.out _ _ _ _ FA.out (HA.out.below BF.out)).mono ?_
        rintro e w7 ⟨rfl, hb⟩
        have FB := Lib.hid (FA.out.below hb)
        have BG := Lib.hid (below_on BF.out hb)
        clear hb FA BF y0 y1 y2 y3 y4 y5 y6 y7 y8 y9
        have FA := FB
        have BF := BG
        clear FB BG
        go_wp2_with fail
        go_ret
        exact ⟨rfl, BA.out.trans (BF.out.mono (Nat.le_of_lt LW.out))⟩
      · skip
        obtain ⟨y0, y1, y2, y3, y4, y5, y6, y7, y8, y9⟩ := at_block ((BF.out.block _ LW.out).trans QA.out)
        go_wp2_with fail
        refine (PS.out _ _ _ (HA.out.below BF.out)).mono ?_
        rintro e w7 ⟨rfl, hb⟩
        have FB := Lib.hid (FA.out.below hb)
        have BG := Lib.hid (below_on BF.out hb)
        clear hb FA BF y0 y1 y2 y3 y4 y5 y6 y7 y8 y9
        have FA := FB
        have BF := BG
        clear FB BG
        obtain ⟨y0, y1, y2, y3, y4, y5, y6, y7, y8, y9⟩ := at_block ((BF.out.block _ LW.out).trans QA.out)
        go_wp2_with fail
        refine (G0.out _ _ _ _ FA.out (HA.out.below BF.out)).mono ?_
        rintro e w7 ⟨rfl, hb⟩
        have FB := Lib.hid (FA.out.below hb)
        have BG := Lib.hid (below_on BF.out hb)
        clear hb FA BF y0 y1 y2 y3 y4 y5 y6 y7 y8 y9
        have FA := FB
        have BF := BG
        clear FB BG
        go_wp2_with fail
        refine (ex_Set W5.heap.size 900 (fun _ => false) i j true hi hj _ FA.out).mono ?_
        rintro e w8 ⟨rfl, hF, hk⟩
        have FB := Lib.hid hF
        have BG := Lib.hid (BF.out.trans (hk.below BF.out.size (fun k hk => by rw [hk]; exact Nat.le_refl _)))
        clear hF hk FA BF
        have FA := FB
        have BF := BG
        clear FB BG
        obtain ⟨y0, y1, y2, y3, y4, y5, y6, y7, y8, y9⟩ := at_block ((BF.out.block _ LW.out).trans QA.out)
        go_wp2_with fail
        refine (G1.out _ _ _ _ FA.out (HA.out.below BF.out)).mono ?_
        rintro e w7 ⟨rfl, hb⟩
        have FB := Lib.hid (FA.out.below hb)
        have BG := Lib.hid (below_on BF.out hb)
        clear hb FA BF y0 y1 y2 y3 y4 y5 y6 y7 y8 y9
        have FA := FB
        have BF := BG
        clear FB BG
        obtain ⟨y0, y1, y2, y3, y4, y5, y6, y7, y8, y9⟩ := at_block ((BF.out.block _ LW.out).trans QA.out)
        go_wp2_with fail
        refine (G2.out _ _ _ _ FA.out (HA.out.below BF.out)).mono ?_
        rintro e w7 ⟨rfl, hb⟩
        have FB := Lib.hid (FA.out.below hb)
        have BG := Lib.hid (below_on BF.out hb)
        clear hb FA BF y0 y1 y2 y3 y4 y5 y6 y7 y8 y9
        have FA := FB
        have BF := BG
        clear FB BG
        go_wp2_with fail
        refine (ex_Set W5.heap.size 900 (setWay (fun _ => false) (i * 16 + j) true) i j false hi hj _ FA.out).mono ?_
        rintro e w8 ⟨rfl, hF, hk⟩
        have FB := Lib.hid hF
        have BG := Lib.hid (BF.out.trans (hk.below BF.out.size (fun k hk => by rw [hk]; exact Nat.le_refl _)))
        clear hF hk FA BF
        have FA := FB
        have BF := BG
        clear FB BG
        obtain ⟨y0, y1, y2, y3, y4, y5, y6, y7, y8, y9⟩ := at_block ((BF.out.block _ LW.out).trans QA.out)
        go_wp2_with fail
        refine (G3.out _ _ _ _ FA.out (HA.out.below BF.out)).mono ?_
        rintro e w7 ⟨rfl, hb⟩
        have FB := Lib.hid (FA.out.below hb)
        have BG := Lib.hid (below_on BF.out hb)
        clear hb FA BF y0 y1 y2 y3 y4 y5 y6 y7 y8 y9
        have FA := FB
        have BF := BG
        clear FB BG
        go_wp2_with fail
        go_ret
        exact ⟨rfl, BA.out.trans (BF.out.mono (Nat.le_of_lt LW.out))⟩
    · have hT : ((i : Int) = (j : Int)) = True := eq_true (congrArg Int.ofNat (beq_iff_eq.1 HD.out))
      have hnb : ((i : Int) != (j : Int)) = false := by rw [bne_eq_false_iff_eq]; exact of_eq_true hT
      obtain ⟨y0, y1, y2, y3, y4, y5, y6, y7, y8, y9⟩ := at_block ((BF.out.block _ LW.out).trans QA.out)
      go_wp2_with fail
      refine (G0.out _ _ _ _ FA.out (HA.out.below BF.out)).mono ?_
      rintro e w7 ⟨rfl, hb⟩
      have FB := Lib.hid (FA.out.below hb)
      have BG := Lib.hid (below_on BF.out hb)
      clear hb FA BF y0 y1 y2 y3 y4 y5 y6 y7 y8 y9
      have FA := FB
      have BF := BG
      clear FB BG
      go_wp2_with fail
      refine (ex_Set W5.heap.size 900 (fun _ => false) i j true hi hj _ FA.out).mono ?_
      rintro e w8 ⟨rfl, hF, hk⟩
      have FB := Lib.hid hF
      have BG := Lib.hid (BF.out.trans (hk.below BF.out.size (fun k hk => by rw [hk]; exact Nat.le_refl _)))
      clear hF hk FA BF
      have FA := FB
      have BF := BG
      clear FB BG
      obtain ⟨y0, y1, y2, y3, y4, y5, y6, y7, y8, y9⟩ := at_block ((BF.out.block _ LW.out).trans QA.out)
      go_wp2_with fail
      refine (G1.out _ _ _ _ FA.out (HA.out.below BF.out)).mono ?_
      rintro e w7 ⟨rfl, hb⟩
      have FB := Lib.hid (FA.out.below hb)
      have BG := Lib.hid (below_on BF.out hb)
      clear hb FA BF y0 y1 y2 y3 y4 y5 y6 y7 y8 y9
      have FA := FB
      have BF := BG
      clear FB BG
      obtain ⟨y0, y1, y2, y3, y4, y5, y6, y7, y8, y9⟩ := at_block ((BF.out.block _ LW.out).trans QA.out)
      go_wp2_with fail
      refine (G2.out _ _ _ _ FA.out (HA.out.below BF.out)).mono ?_
      rintro e w7 ⟨rfl, hb⟩
      have FB := Lib.hid (FA.out.below hb)
      have BG := Lib.hid (below_on BF.out hb)
      clear hb FA BF y0 y1 y2 y3 y4 y5 y6 y7 y8 y9
      have FA := FB
      have BF := BG
      clear FB BG
      go_wp2_with fail
      refine (ex_Set W5.heap.size 900 (setWay (fun _ => false) (i * 16 + j) true) i j false hi hj _ FA.out).mono ?_
      rintro e w8 ⟨rfl, hF, hk⟩
      have FB := Lib.hid hF
      have BG := Lib.hid (BF.out.trans (hk.below BF.out.size (fun k hk => by rw [hk]; exact Nat.le_refl _)))
      clear hF hk FA BF
      have FA := FB
      have BF := BG
      clear FB BG
      obtain ⟨y0, y1, y2, y3, y4, y5, y6, y7, y8, y9⟩ := at_block ((BF.out.block _ LW.out).trans QA.out)
      go_wp2_with fail
      refine (G3.out _ _ _ _ FA.out (HA.out.below BF.out)).mono ?_
      rintro e w7 ⟨rfl, hb⟩
      have FB := Lib.hid (FA.out.below hb)
      have BG := Lib.hid (below_on BF.out hb)
      clear hb FA BF y0 y1 y2 y3 y4 y5 y6 y7 y8 y9
      have FA := FB
      have BF := BG
      clear FB BG
      go_wp2_with fail
      go_ret
      exact ⟨rfl, BA.out.trans (BF.out.mono (Nat.le_of_lt LW.out))⟩
namespace exportAll
open Go.ChangeShapes Go.WideShapes Go.ChangeAt Go.RowKit
set_option linter.unusedVariables false
set_option maxRecDepth 100000 in
theorem lifted (os : Os) (started : os.Started) (H : Type) (enc : TypeId × Value → H) :
    ReturnsInHanded {} Try.checked os 3 .any (Rows.exportAllSpec.pre6 enc Try.prog Try.f3 Rows.exportAllRow.domain false) (Rows.exportAllSpec.post enc Try.prog Try.f3 false true false false) := by
  refine returnsInHanded_of_change_sized (C := Try.checked) fr_own started (by kernel_rfl) Try.func3
    (ChangeSpec.witness6 (enc := enc) (C := Try.checked) false ⟨#[], #[.agg #[.int .i64 0, .int .i64 0, .slice none 0 0, .int .u32 0, .int .i64 0, .int .i64 0, .int .i64 0, .int .u32 0, .slice none 0 0, .slice none 0 0], .int .i64 0, .int .i64 0, .int .i64 0], []⟩ 8 (by kernel_rfl) (by kernel_rfl) (by kernel_rfl) (by kernel_rfl)) ?_
  intro W base args ds gs before hval0 hW hcnd hsz0 _
  have hval : ∀ (j : Nat) t v, Try.f3.params[j]? = some t → args[j]? = some v → Value.okWide Try.prog W .any base t v := hval0
  have hW' := hW
  obtain ⟨p, q, hA0, hV, rfl, hfz, hnd⟩ := hW
  have hA : DataW.TrodAll enc Try.prog W 0 (fun _ => true) true Try.f3.params.toList args.toList ds p := hA0
  rw [Try.params3] at hA hval
  obtain ⟨v0, vs0, d0, ds0, p0, q0, hargs, rfl, rfl, h0, r0⟩ := trodAll_cons hA
  obtain ⟨v1, vs1, d1, ds1, p1, q1, rfl, rfl, rfl, h1, r1⟩ := trodAll_cons r0
  obtain ⟨v2, vs2, d2, ds2, p2, q2, rfl, rfl, rfl, h2, r2⟩ := trodAll_cons r1
  obtain ⟨v3, vs3, d3, ds3, p3, q3, rfl, rfl, rfl, h3, r3⟩ := trodAll_cons r2
  obtain ⟨rfl, rfl, rfl⟩ := trodAll_nil r3
  obtain rfl : args = #[v0, v1, v2, v3] := by cases args; simp_all
  obtain ⟨rfl, rfl⟩ := trodVars_none hV
  have lt0 : ∀ x ∈ p0, x.block < W.heap.size := by obtain ⟨m, hm⟩ := h0; exact DataW.trod_lt m _ _ _ hm
  have lt1 : ∀ x ∈ p1, x.block < W.heap.size := by obtain ⟨m, hm⟩ := h1; exact DataW.trod_lt m _ _ _ hm
  have lt2 : ∀ x ∈ p2, x.block < W.heap.size := by obtain ⟨m, hm⟩ := h2; exact DataW.trod_lt m _ _ _ hm
  have lt3 : ∀ x ∈ p3, x.block < W.heap.size := by obtain ⟨m, hm⟩ := h3; exact DataW.trod_lt m _ _ _ hm
  have hsz : (DataW.weightsEach Try.prog [28, 3, 3, 3] [d0, d1, d2, d3]).all (· ≤ reachBytes) = true := hsz0
  obtain ⟨a, vp, vc, vo, rfl, hRt, hAt, hZt⟩ := open_at_sz (hval 0 28 v0 rfl rfl) h0 (sz_of hsz (j := 0) rfl rfl)
  obtain ⟨f, rfl, hf0, hf1⟩ := open_i64 (hval 1 3 v1 rfl rfl)
  obtain ⟨g, rfl, hg0, hg1⟩ := open_i64 (hval 2 3 v2 rfl rfl)
  obtain ⟨t, rfl, ht0, ht1⟩ := open_i64 (hval 3 3 v3 rfl rfl)
  clear hA0 hval0 hsz0 hsz
  refine (law_ExportAll a vp vc vo f g t _ hAt hZt).mono fun e W' ⟨he, bel⟩ => ?_
  subst he
  exact ⟨_, rfl, _, _, _, [], _, [], hW', trodAll_mk1 (shut_bool Try.underlying4 _), (trodAll_cons_mk (Below.trod fr_laidOut (by kernel_rfl) (of_decide_eq_true (by kernel_rfl)) h0 bel lt0) (trodAll_cons_mk (Below.trod fr_laidOut (by kernel_rfl) (of_decide_eq_true (by kernel_rfl)) h1 bel lt1) (trodAll_cons_mk (Below.trod fr_laidOut (by kernel_rfl) (of_decide_eq_true (by kernel_rfl)) h2 bel lt2) (trodAll_cons_mk (Below.trod fr_laidOut (by kernel_rfl) (of_decide_eq_true (by kernel_rfl)) h3 bel lt3) trodAll_mk0)))), rfl, bel.frame _, fun h => by cases h⟩
theorem over : Rows.exportAllRow.holds Try.pinned (OpenSpec.ofChange Rows.exportAllSpec) :=
  OpenClaim.holds_of_wide 3 Try.f3 rfl rfl rfl rfl rfl rfl rfl ⟨rfl, rfl, rfl, rfl, rfl⟩ rfl rfl rfl rfl rfl (by kernel_rfl) Try.func3 (by kernel_rfl)
    (of_decide_eq_true (by kernel_rfl)) (by unfold Func.isWrapper; first | (rw [if_pos (by decide +kernel)]; kernel_rfl) | (rw [if_neg (by decide +kernel)]; exact ⟨rfl, rfl⟩))
    (fun os started H enc _ => lifted os started H enc)
/-- THE STATEMENT ExportAll. -/
theorem proved : Rows.ExportAllSaid := over
#print axioms proved
end exportAll
end Go.Proofs.Ytafckbapplelhaa
