/-
  PREFIXES THAT A PEER SAYS: slices.Concat of two; in order, each once.
-/
import Derived.Test.YtadlecnlgkhneaaPfW
namespace Go.Proofs.Ytadlecnlgkhneaa
open Go.RowKit

theorem OwnPs.base {w : World} {B B' : Nat} {v : Value} {xs : List Pf} (h : OwnPs w B v xs) (hB : B' ≤ B) : OwnPs w B' v xs := ⟨own_base h.1 hB, h.2⟩
set_option maxHeartbeats 6400000 in
set_option maxRecDepth 100000 in
theorem ps_Concat (sb : Nat) (v u : Value) (xs ys : List Pf) (w : World) (hs0 : w.cell? ⟨sb, 0, none⟩ = some v) (hs1 : w.cell? ⟨sb, 1, none⟩ = some u) (hv : PsAt w v xs) (hu : PsAt w u ys) (hsz : xs.length + ys.length ≤ 8796093022208) :
    Calls Try.prog 27 #[.slice (some ⟨sb, 0, none⟩) 2 2] w fun e w' => ∃ v', e = .returned v' ∧ OwnPs w' w.heap.size v' (xs ++ ys) ∧ Below w.heap.size w w' := by
  have HV := Lib.hid hv
  have HU := Lib.hid hu
  have GR := Lib.hid (ps_Grow (xs.length + ys.length) w hsz)
  obtain ⟨sv, cv, rfl, -⟩ := hv
  obtain ⟨su, cu, rfl, -⟩ := hu
  have z0 : IntKind.i64.wrap ((0 : Int) + (xs.length : Int)) = (xs.length : Int) := by rw [Int.zero_add]; exact IntWalk.i64_in _ (by omega)
  have z1 : IntKind.i64.wrap (xs.length : Int) = (xs.length : Int) := IntWalk.i64_in _ (by omega)
  have z2 : IntKind.i64.wrap ((xs.length : Int) + (ys.length : Int)) = ((xs.length + ys.length : Nat) : Int) := by rw [IntWalk.i64_in _ (by omega)]; omega
  have n1 : ¬ ((xs.length : Int) < 0) := by omega
  have n2 : ¬ (((xs.length + ys.length : Nat) : Int) < 0) := by omega
  go_enter Try.func27, Try.ntmps27
  go_wp2_with fail
  refine wp_loop_rounds 3 ?_
  rw [rounds_succ]
  go_wp2_with fail
  rw [rounds_succ]
  go_wp2_with fail
  rw [rounds_succ]
  go_wp2_with fail
  refine GR.out.mono ?_
  rintro e w1 ⟨v1, rfl, O1, hb1⟩
  have OG := Lib.hid O1
  have s0 := cell_below hs0 hb1
  have s1 := cell_below hs1 hb1
  have HV1 := Lib.hid (HV.out.below hb1)
  have HU1 := Lib.hid (HU.out.below hb1)
  have B1 := Lib.hid hb1
  have sl0 : Hid (sb < w.heap.size) := Lib.hid (size_lt hs0)
  clear GR O1 hb1 z0 z1 z2 n1 n2 hs0 hs1 HV
  go_wp2_with fail
  refine wp_loop_rounds 3 ?_
  rw [rounds_succ]
  go_wp2_with (at_builtin; refine wpList_app rfl _ _ rfl w.heap.size v1 (.slice sv xs.length cv) [] xs rfl rfl B1.out.size OG.out HV1.out (by simp; omega) ?_)
  intro v2 w2 ho2 hb2 _
  have O2 : Hid (OwnPs w2 w.heap.size v2 xs) := Lib.hid ho2
  have B2 := Lib.hid (B1.out.trans hb2)
  have s1 := (hb2.cell (p := ⟨sb, 1, none⟩) sl0.out).trans s1
  have HU2 := Lib.hid (HU.out.below B2.out)
  clear ho2 hb2 OG B1 s0 HV1 HU1
  go_wp2_with fail
  rw [rounds_succ]
  go_wp2_with (at_builtin; refine wpList_app rfl _ _ rfl w.heap.size v2 (.slice su ys.length cu) xs ys rfl rfl B2.out.size O2.out HU2.out (by omega) ?_)
  intro v3 w3 ho3 hb3 _
  have O3 := Lib.hid ho3
  have B3 := Lib.hid (B2.out.trans hb3)
  clear ho3 hb3 O2 B2 s1 HU2
  go_wp2_with fail
  rw [rounds_succ]
  go_wp2_with fail
  go_ret
  exact ⟨_, rfl, O3.out, B3.out⟩
/-- what adj makes of a list. -/
theorem ad_sorted (B : Nat) (v : Value) (xs : List Pf) (w : World) (h : OwnPs w B v xs) (hn : xs.length ≤ 8796093022208) :
    Calls Try.prog 26 #[v] w fun e w' => ∃ v', e = .returned v' ∧ OwnPs w' B v' (setOf xs) ∧ Kept (fun b => v.ownBlock = some b) w w' := by
  have ST := Lib.hid (ps_Sort B v xs w h (by omega))
  have CP := Lib.hid (fun W ys (h : OwnPs W B v ys) hn => ps_Compact B v ys W h hn)
  have SE := Lib.hid (fun ys h hm => setOf_is (ps := xs) (ys := ys) h hm)
  clear h
  go_enter Try.func26, Try.ntmps26
  go_wp2_with fail
  refine ST.out.mono ?_
  rintro e w1 ⟨ys, rfl, hl, hm, hp, ho, hk⟩
  have HK := Lib.hid hk
  have CQ := Lib.hid (CP.out w1 ys ho (by omega))
  have EQ : Hid (comp ys = setOf xs) := Lib.hid (by
    have hc := comp_srt hp
    exact (SE.out _ hc.1 (fun p => (hc.2 p).trans (hm p))).symm)
  clear hl hm hp ho hk ST CP SE
  go_wp2_with fail
  refine CQ.out.mono ?_
  rintro e w2 ⟨v', rfl, ho, hk⟩
  have O2 := Lib.hid ho
  have K2 := Lib.hid (HK.out.trans hk)
  clear ho hk CQ HK
  go_wp2_with fail
  go_ret
  exact ⟨_, rfl, by rw [← EQ.out]; exact O2.out, K2.out⟩
end Go.Proofs.Ytadlecnlgkhneaa
