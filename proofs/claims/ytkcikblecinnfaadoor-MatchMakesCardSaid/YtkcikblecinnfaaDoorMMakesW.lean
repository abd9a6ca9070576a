/-
  MatchMakes, the walk: the match of some bits of a field, of a number, of a net, or why there is none.
-/
import Derived.Test.YtkcikblecinnfaaDoorMkOut
import Derived.Test.YtkcikblecinnfaaDoorMkMid0
import Derived.Test.YtkcikblecinnfaaDoorMkMid1
import Derived.Test.YtkcikblecinnfaaDoorMkFour0
import Derived.Test.YtkcikblecinnfaaDoorMkFour1
import Derived.Test.YtkcikblecinnfaaDoorMkFive0
import Derived.Test.YtkcikblecinnfaaDoorMkFive1
namespace Go.Proofs.YtkcikblecinnfaaDoor
open Go.RowKit

theorem onM_no {f : Int} {v k : Nat} (hb : onOk f v k = false) : onM f v k = mt0 := by unfold onM; rw [hb]; rfl
theorem onM_yes {f v k : Nat} (hb : onOk f v k = true) : onM f v k = m1 f v k := by unfold onM; rw [hb, if_pos rfl]; rfl
theorem w_on {f : Int} {v k : Nat} {b : Bool} {m : Mt} (hb : onOk f v k = b) (hm : onM f v k = m) (W : World) (hT : Wid W) :
    Calls Tryd.prog 12 #[.int .i64 f, .int .u64 v, .int .u64 k] W fun e w' => e = .returned (.tuple #[mtV m, .int .i64 (errI b)]) ∧ Below W.heap.size W w' := by
  have := match_On f v k W hT; rwa [hb, hm] at this
theorem w_ex {f : Int} {v : Nat} {b : Bool} {m : Mt} (hb : onOk f v (fullN f) = b) (hm : onM f v (fullN f) = m) (W : World) (hT : Wid W) :
    Calls Tryd.prog 14 #[.int .i64 f, .int .u64 v] W fun e w' => e = .returned (.tuple #[mtV m, .int .i64 (errI b)]) ∧ Below W.heap.size W w' := by
  have := match_Exact f v W hT; rwa [hb, hm] at this
theorem w_net {f : Int} {a : Nat} {n : Int} {b : Bool} {m : Mt} (ha : a < 4294967296) (hb : netE f a n = b) (hm : netM f a n = m) (W : World) (hT : Wid W) :
    Calls Tryd.prog 15 #[.int .i64 f, .agg #[.int .u32 a, .int .i64 n]] W fun e w' => e = .returned (.tuple #[mtV m, .int .i64 (errI b)]) ∧ Below W.heap.size W w' := by
  have := match_Net f a n W hT ha; rwa [hb, hm] at this
theorem w_get {h : Hdr} (ok : h.Ok) (f : Nat) (W : World) (hT : Wid W) :
    Calls Tryd.prog 10 #[hdrV h, .int .i64 f] W fun e w' => e = .returned (.int .u64 (getN h f : Nat)) ∧ Below W.heap.size W w' := by
  have := head_Get h f W hT ok; rwa [← getN_eq h f ok] at this
theorem w_ck {a : Nat} {n : Int} {b : Bool} (ha : a < 4294967296) (hb : rightB a n = b) (W : World) :
    Calls Tryd.prog 16 #[.agg #[.int .u32 a, .int .i64 n]] W fun e w' => e = .returned (.int .i64 (errI b)) ∧ Below W.heap.size W w' := by
  have := ip_Check a n W (by omega) (by omega); rwa [hb] at this
theorem w_has {a g : Nat} {n : Int} {b : Bool} (ha : a < 4294967296) (hg : g < 4294967296) (hb : hasB a n g = b) (W : World) :
    Calls Tryd.prog 17 #[.agg #[.int .u32 a, .int .i64 n], .int .u32 g] W fun e w' => e = .returned (.bool b) ∧ Below W.heap.size W w' := by
  have := ip_Has a n g W (by omega) (by omega) (by omega) (by omega); rwa [hb] at this
theorem netE_no {f a n : Int} (h : netOk f a n = false) (k : Nat) (hk : (k : Int) = a) : netE f k n = false := by unfold netE; rw [hk, h]; rfl
theorem netE_yes {f a : Nat} {n : Int} (hf : f = 4 ∨ f = 5) (ha : a < 4294967296) (hr : rightB a n = true) : netE f a n = true ∧ netM f a n = m1 f a (maskN n) := by
  have h1 : netOk f a n = true := by unfold netOk; rw [hr]; rcases hf with rfl | rfl <;> rfl
  have h2 := net_on' f a n hf ha hr
  unfold netE netM
  rw [h1, h2, if_pos rfl, onM_yes h2]
  exact ⟨rfl, rfl⟩
theorem law_MatchMakes (f : Int) (v k a : Nat) (n : Int) (h : Hdr) (w : World) (hT : Wid w) (ok : h.Ok) (hv : v < 18446744073709551616) (hk : k < 18446744073709551616) (ha : a < 4294967296) :
    Calls Tryd.prog 4 #[.int .i64 f, .int .u64 v, .int .u64 k, .agg #[.int .u32 a, .int .i64 n], hdrV h] w fun e w' => e = .returned (.bool true) ∧ Below w.heap.size w w' := by
  rcases (by omega : f < 0 ∨ (¬ f < 0 ∧ 9 ≤ f) ∨ (0 ≤ f ∧ f < 9)) with hf | ⟨hf0, hf9⟩ | ⟨hf0, hf9⟩
  · have hO : ∀ x : Nat, onOk f v x = false := by
      intro x
      unfold onOk
      have : ¬ 0 ≤ f := by omega
      simp [this]
    have ne4 : (f == 4) = false := by rw [beq_eq_false_iff_ne]; omega
    have ne5 : (f == 5) = false := by rw [beq_eq_false_iff_ne]; omega
    have hN : netE f a n = false := by unfold netE netOk; rw [ne4, ne5]; rfl
    exact mk_outL f hf ne4 ne5 v k a n h w hT _ _ (w_on (hO k) (onM_no (hO k))) (w_ex (hO _) rfl) (w_net ha hN rfl)
  · have hO : ∀ x : Nat, onOk f v x = false := by
      intro x
      unfold onOk
      have : ¬ f < 9 := by omega
      simp [this]
    have ne4 : (f == 4) = false := by rw [beq_eq_false_iff_ne]; omega
    have ne5 : (f == 5) = false := by rw [beq_eq_false_iff_ne]; omega
    have hN : netE f a n = false := by unfold netE netOk; rw [ne4, ne5]; rfl
    exact mk_outH f (by omega) (decide_eq_false (by omega)) ne4 ne5 v k a n h w hT _ _ (w_on (hO k) (onM_no (hO k))) (w_ex (hO _) rfl) (w_net ha hN rfl)
  obtain ⟨f, rfl⟩ := Int.eq_ofNat_of_zero_le hf0
  rcases (by omega : f = 4 ∨ f = 5 ∨ (f ≠ 4 ∧ f ≠ 5)) with rfl | rfl | ⟨h4, h5⟩
  · have hg : getN h 4 < 4294967296 := by have := getN_eq h 4 ok; have := ok.sip.2; have e : getI h ((4 : Nat) : Int) = h.sip := rfl; omega
    cases dk : decide ((k : Int) ≤ fullI (4 : Nat))
    · have hO : onOk (4 : Nat) v k = false := by rw [on_law 4 v k (by omega) hv hk, dk]; rfl
      cases dv : decide ((v : Int) ≤ fullI (4 : Nat))
      · have hF : onOk (4 : Nat) v (fullN (4 : Nat)) = false := by rw [fit_law 4 v (by omega) hv, dv]
        cases hr : rightB a n
        · have hN : netE 4 a n = false := netE_no (a := a) (by unfold netOk; rw [hr]; rfl) a rfl
          exact mk_four_000 v k a n h w hT _ _ _ (w_on hO (onM_no hO)) (w_ex hF rfl) (w_net ha hN rfl) (fun W hT => head_Full _ W hT) dk dv (w_ck ha hr)
        · obtain ⟨hN, hM⟩ := netE_yes (f := 4) (by decide) ha hr
          exact mk_four_001 v k a n h w hT _ _ _ _ _ (w_on hO (onM_no hO)) (w_ex hF rfl) (w_net ha hN rfl) (fun W hT => head_Full _ W hT) dk dv (w_get ok 4) (w_ck ha hr) (fun W hT => match_Hits _ h W hT ok) (w_has ha hg (by rw [hM]; exact (net_hits 4 a n h ok (by decide) ha hr hg).symm)) (IntWalk.u32_in _ (by omega))
      · have hF : onOk (4 : Nat) v (fullN (4 : Nat)) = true := by rw [fit_law 4 v (by omega) hv, dv]
        cases hr : rightB a n
        · have hN : netE 4 a n = false := netE_no (a := a) (by unfold netOk; rw [hr]; rfl) a rfl
          exact mk_four_010 v k a n h w hT _ _ _ _ _ (w_on hO (onM_no hO)) (w_ex hF rfl) (w_net ha hN rfl) (fun W hT => head_Full _ W hT) dk dv (w_get ok 4) (fun W hT => match_Hits _ h W hT ok) (by rw [onM_yes hF]; exact (fit_hits 4 v h ok (by omega) hv (of_decide_eq_true dv)).symm) (w_ck ha hr)
        · obtain ⟨hN, hM⟩ := netE_yes (f := 4) (by decide) ha hr
          exact mk_four_011 v k a n h w hT _ _ _ _ _ _ (w_on hO (onM_no hO)) (w_ex hF rfl) (w_net ha hN rfl) (fun W hT => head_Full _ W hT) dk dv (w_get ok 4) (fun W hT => match_Hits _ h W hT ok) (by rw [onM_yes hF]; exact (fit_hits 4 v h ok (by omega) hv (of_decide_eq_true dv)).symm) (w_ck ha hr) (fun W hT => match_Hits _ h W hT ok) (w_has ha hg (by rw [hM]; exact (net_hits 4 a n h ok (by decide) ha hr hg).symm)) (IntWalk.u32_in _ (by omega))
    · cases ev : (bits .and .u64 (v : Int) (k : Int) == (v : Int))
      · have hO : onOk (4 : Nat) v k = false := by rw [on_law 4 v k (by omega) hv hk, dk, ev]; rfl
        cases dv : decide ((v : Int) ≤ fullI (4 : Nat))
        · have hF : onOk (4 : Nat) v (fullN (4 : Nat)) = false := by rw [fit_law 4 v (by omega) hv, dv]
          cases hr : rightB a n
          · have hN : netE 4 a n = false := netE_no (a := a) (by unfold netOk; rw [hr]; rfl) a rfl
            exact mk_four_100 v k a n h w hT _ _ _ (w_on hO (onM_no hO)) (w_ex hF rfl) (w_net ha hN rfl) (fun W hT => head_Full _ W hT) dk ev dv (w_ck ha hr)
          · obtain ⟨hN, hM⟩ := netE_yes (f := 4) (by decide) ha hr
            exact mk_four_101 v k a n h w hT _ _ _ _ _ (w_on hO (onM_no hO)) (w_ex hF rfl) (w_net ha hN rfl) (fun W hT => head_Full _ W hT) dk ev dv (w_get ok 4) (w_ck ha hr) (fun W hT => match_Hits _ h W hT ok) (w_has ha hg (by rw [hM]; exact (net_hits 4 a n h ok (by decide) ha hr hg).symm)) (IntWalk.u32_in _ (by omega))
        · have hF : onOk (4 : Nat) v (fullN (4 : Nat)) = true := by rw [fit_law 4 v (by omega) hv, dv]
          cases hr : rightB a n
          · have hN : netE 4 a n = false := netE_no (a := a) (by unfold netOk; rw [hr]; rfl) a rfl
            exact mk_four_110 v k a n h w hT _ _ _ _ _ (w_on hO (onM_no hO)) (w_ex hF rfl) (w_net ha hN rfl) (fun W hT => head_Full _ W hT) dk ev dv (w_get ok 4) (fun W hT => match_Hits _ h W hT ok) (by rw [onM_yes hF]; exact (fit_hits 4 v h ok (by omega) hv (of_decide_eq_true dv)).symm) (w_ck ha hr)
          · obtain ⟨hN, hM⟩ := netE_yes (f := 4) (by decide) ha hr
            exact mk_four_111 v k a n h w hT _ _ _ _ _ _ (w_on hO (onM_no hO)) (w_ex hF rfl) (w_net ha hN rfl) (fun W hT => head_Full _ W hT) dk ev dv (w_get ok 4) (fun W hT => match_Hits _ h W hT ok) (by rw [onM_yes hF]; exact (fit_hits 4 v h ok (by omega) hv (of_decide_eq_true dv)).symm) (w_ck ha hr) (fun W hT => match_Hits _ h W hT ok) (w_has ha hg (by rw [hM]; exact (net_hits 4 a n h ok (by decide) ha hr hg).symm)) (IntWalk.u32_in _ (by omega))
      · have hO : onOk (4 : Nat) v k = true := by rw [on_law 4 v k (by omega) hv hk, dk, ev]; rfl
        cases dv : decide ((v : Int) ≤ fullI (4 : Nat))
        · have hF : onOk (4 : Nat) v (fullN (4 : Nat)) = false := by rw [fit_law 4 v (by omega) hv, dv]
          cases hr : rightB a n
          · have hN : netE 4 a n = false := netE_no (a := a) (by unfold netOk; rw [hr]; rfl) a rfl
            exact mk_four_200 v k a n h w hT _ _ _ _ _ _ (w_on hO (onM_yes hO)) (w_ex hF rfl) (w_net ha hN rfl) (fun W hT => head_Full _ W hT) dk ev dv (w_get ok 4) (fun W hT => match_Hits _ h W hT ok) (on_hits 4 v k h ok (by omega) hv hk ev).symm (w_ck ha hr)
          · obtain ⟨hN, hM⟩ := netE_yes (f := 4) (by decide) ha hr
            exact mk_four_201 v k a n h w hT _ _ _ _ _ _ _ (w_on hO (onM_yes hO)) (w_ex hF rfl) (w_net ha hN rfl) (fun W hT => head_Full _ W hT) dk ev dv (w_get ok 4) (fun W hT => match_Hits _ h W hT ok) (on_hits 4 v k h ok (by omega) hv hk ev).symm (w_ck ha hr) (fun W hT => match_Hits _ h W hT ok) (w_has ha hg (by rw [hM]; exact (net_hits 4 a n h ok (by decide) ha hr hg).symm)) (IntWalk.u32_in _ (by omega))
        · have hF : onOk (4 : Nat) v (fullN (4 : Nat)) = true := by rw [fit_law 4 v (by omega) hv, dv]
          cases hr : rightB a n
          · have hN : netE 4 a n = false := netE_no (a := a) (by unfold netOk; rw [hr]; rfl) a rfl
            exact mk_four_210 v k a n h w hT _ _ _ _ _ _ _ (w_on hO (onM_yes hO)) (w_ex hF rfl) (w_net ha hN rfl) (fun W hT => head_Full _ W hT) dk ev dv (w_get ok 4) (fun W hT => match_Hits _ h W hT ok) (on_hits 4 v k h ok (by omega) hv hk ev).symm (fun W hT => match_Hits _ h W hT ok) (by rw [onM_yes hF]; exact (fit_hits 4 v h ok (by omega) hv (of_decide_eq_true dv)).symm) (w_ck ha hr)
          · obtain ⟨hN, hM⟩ := netE_yes (f := 4) (by decide) ha hr
            exact mk_four_211 v k a n h w hT _ _ _ _ _ _ _ _ (w_on hO (onM_yes hO)) (w_ex hF rfl) (w_net ha hN rfl) (fun W hT => head_Full _ W hT) dk ev dv (w_get ok 4) (fun W hT => match_Hits _ h W hT ok) (on_hits 4 v k h ok (by omega) hv hk ev).symm (fun W hT => match_Hits _ h W hT ok) (by rw [onM_yes hF]; exact (fit_hits 4 v h ok (by omega) hv (of_decide_eq_true dv)).symm) (w_ck ha hr) (fun W hT => match_Hits _ h W hT ok) (w_has ha hg (by rw [hM]; exact (net_hits 4 a n h ok (by decide) ha hr hg).symm)) (IntWalk.u32_in _ (by omega))
  · have hg : getN h 5 < 4294967296 := by have := getN_eq h 5 ok; have := ok.dip.2; have e : getI h ((5 : Nat) : Int) = h.dip := rfl; omega
    cases dk : decide ((k : Int) ≤ fullI (5 : Nat))
    · have hO : onOk (5 : Nat) v k = false := by rw [on_law 5 v k (by omega) hv hk, dk]; rfl
      cases dv : decide ((v : Int) ≤ fullI (5 : Nat))
      · have hF : onOk (5 : Nat) v (fullN (5 : Nat)) = false := by rw [fit_law 5 v (by omega) hv, dv]
        cases hr : rightB a n
        · have hN : netE 5 a n = false := netE_no (a := a) (by unfold netOk; rw [hr]; rfl) a rfl
          exact mk_five_000 v k a n h w hT _ _ _ (w_on hO (onM_no hO)) (w_ex hF rfl) (w_net ha hN rfl) (fun W hT => head_Full _ W hT) dk dv (w_ck ha hr)
        · obtain ⟨hN, hM⟩ := netE_yes (f := 5) (by decide) ha hr
          exact mk_five_001 v k a n h w hT _ _ _ _ _ (w_on hO (onM_no hO)) (w_ex hF rfl) (w_net ha hN rfl) (fun W hT => head_Full _ W hT) dk dv (w_get ok 5) (w_ck ha hr) (fun W hT => match_Hits _ h W hT ok) (w_has ha hg (by rw [hM]; exact (net_hits 5 a n h ok (by decide) ha hr hg).symm)) (IntWalk.u32_in _ (by omega))
      · have hF : onOk (5 : Nat) v (fullN (5 : Nat)) = true := by rw [fit_law 5 v (by omega) hv, dv]
        cases hr : rightB a n
        · have hN : netE 5 a n = false := netE_no (a := a) (by unfold netOk; rw [hr]; rfl) a rfl
          exact mk_five_010 v k a n h w hT _ _ _ _ _ (w_on hO (onM_no hO)) (w_ex hF rfl) (w_net ha hN rfl) (fun W hT => head_Full _ W hT) dk dv (w_get ok 5) (fun W hT => match_Hits _ h W hT ok) (by rw [onM_yes hF]; exact (fit_hits 5 v h ok (by omega) hv (of_decide_eq_true dv)).symm) (w_ck ha hr)
        · obtain ⟨hN, hM⟩ := netE_yes (f := 5) (by decide) ha hr
          exact mk_five_011 v k a n h w hT _ _ _ _ _ _ (w_on hO (onM_no hO)) (w_ex hF rfl) (w_net ha hN rfl) (fun W hT => head_Full _ W hT) dk dv (w_get ok 5) (fun W hT => match_Hits _ h W hT ok) (by rw [onM_yes hF]; exact (fit_hits 5 v h ok (by omega) hv (of_decide_eq_true dv)).symm) (w_ck ha hr) (fun W hT => match_Hits _ h W hT ok) (w_has ha hg (by rw [hM]; exact (net_hits 5 a n h ok (by decide) ha hr hg).symm)) (IntWalk.u32_in _ (by omega))
    · cases ev : (bits .and .u64 (v : Int) (k : Int) == (v : Int))
      · have hO : onOk (5 : Nat) v k = false := by rw [on_law 5 v k (by omega) hv hk, dk, ev]; rfl
        cases dv : decide ((v : Int) ≤ fullI (5 : Nat))
        · have hF : onOk (5 : Nat) v (fullN (5 : Nat)) = false := by rw [fit_law 5 v (by omega) hv, dv]
          cases hr : rightB a n
          · have hN : netE 5 a n = false := netE_no (a := a) (by unfold netOk; rw [hr]; rfl) a rfl
            exact mk_five_100 v k a n h w hT _ _ _ (w_on hO (onM_no hO)) (w_ex hF rfl) (w_net ha hN rfl) (fun W hT => head_Full _ W hT) dk ev dv (w_ck ha hr)
          · obtain ⟨hN, hM⟩ := netE_yes (f := 5) (by decide) ha hr
            exact mk_five_101 v k a n h w hT _ _ _ _ _ (w_on hO (onM_no hO)) (w_ex hF rfl) (w_net ha hN rfl) (fun W hT => head_Full _ W hT) dk ev dv (w_get ok 5) (w_ck ha hr) (fun W hT => match_Hits _ h W hT ok) (w_has ha hg (by rw [hM]; exact (net_hits 5 a n h ok (by decide) ha hr hg).symm)) (IntWalk.u32_in _ (by omega))
        · have hF : onOk (5 : Nat) v (fullN (5 : Nat)) = true := by rw [fit_law 5 v (by omega) hv, dv]
          cases hr : rightB a n
          · have hN : netE 5 a n = false := netE_no (a := a) (by unfold netOk; rw [hr]; rfl) a rfl
            exact mk_five_110 v k a n h w hT _ _ _ _ _ (w_on hO (onM_no hO)) (w_ex hF rfl) (w_net ha hN rfl) (fun W hT => head_Full _ W hT) dk ev dv (w_get ok 5) (fun W hT => match_Hits _ h W hT ok) (by rw [onM_yes hF]; exact (fit_hits 5 v h ok (by omega) hv (of_decide_eq_true dv)).symm) (w_ck ha hr)
          · obtain ⟨hN, hM⟩ := netE_yes (f := 5) (by decide) ha hr
            exact mk_five_111 v k a n h w hT _ _ _ _ _ _ (w_on hO (onM_no hO)) (w_ex hF rfl) (w_net ha hN rfl) (fun W hT => head_Full _ W hT) dk ev dv (w_get ok 5) (fun W hT => match_Hits _ h W hT ok) (by rw [onM_yes hF]; exact (fit_hits 5 v h ok (by omega) hv (of_decide_eq_true dv)).symm) (w_ck ha hr) (fun W hT => match_Hits _ h W hT ok) (w_has ha hg (by rw [hM]; exact (net_hits 5 a n h ok (by decide) ha hr hg).symm)) (IntWalk.u32_in _ (by omega))
      · have hO : onOk (5 : Nat) v k = true := by rw [on_law 5 v k (by omega) hv hk, dk, ev]; rfl
        cases dv : decide ((v : Int) ≤ fullI (5 : Nat))
        · have hF : onOk (5 : Nat) v (fullN (5 : Nat)) = false := by rw [fit_law 5 v (by omega) hv, dv]
          cases hr : rightB a n
          · have hN : netE 5 a n = false := netE_no (a := a) (by unfold netOk; rw [hr]; rfl) a rfl
            exact mk_five_200 v k a n h w hT _ _ _ _ _ _ (w_on hO (onM_yes hO)) (w_ex hF rfl) (w_net ha hN rfl) (fun W hT => head_Full _ W hT) dk ev dv (w_get ok 5) (fun W hT => match_Hits _ h W hT ok) (on_hits 5 v k h ok (by omega) hv hk ev).symm (w_ck ha hr)
          · obtain ⟨hN, hM⟩ := netE_yes (f := 5) (by decide) ha hr
            exact mk_five_201 v k a n h w hT _ _ _ _ _ _ _ (w_on hO (onM_yes hO)) (w_ex hF rfl) (w_net ha hN rfl) (fun W hT => head_Full _ W hT) dk ev dv (w_get ok 5) (fun W hT => match_Hits _ h W hT ok) (on_hits 5 v k h ok (by omega) hv hk ev).symm (w_ck ha hr) (fun W hT => match_Hits _ h W hT ok) (w_has ha hg (by rw [hM]; exact (net_hits 5 a n h ok (by decide) ha hr hg).symm)) (IntWalk.u32_in _ (by omega))
        · have hF : onOk (5 : Nat) v (fullN (5 : Nat)) = true := by rw [fit_law 5 v (by omega) hv, dv]
          cases hr : rightB a n
          · have hN : netE 5 a n = false := netE_no (a := a) (by unfold netOk; rw [hr]; rfl) a rfl
            exact mk_five_210 v k a n h w hT _ _ _ _ _ _ _ (w_on hO (onM_yes hO)) (w_ex hF rfl) (w_net ha hN rfl) (fun W hT => head_Full _ W hT) dk ev dv (w_get ok 5) (fun W hT => match_Hits _ h W hT ok) (on_hits 5 v k h ok (by omega) hv hk ev).symm (fun W hT => match_Hits _ h W hT ok) (by rw [onM_yes hF]; exact (fit_hits 5 v h ok (by omega) hv (of_decide_eq_true dv)).symm) (w_ck ha hr)
          · obtain ⟨hN, hM⟩ := netE_yes (f := 5) (by decide) ha hr
            exact mk_five_211 v k a n h w hT _ _ _ _ _ _ _ _ (w_on hO (onM_yes hO)) (w_ex hF rfl) (w_net ha hN rfl) (fun W hT => head_Full _ W hT) dk ev dv (w_get ok 5) (fun W hT => match_Hits _ h W hT ok) (on_hits 5 v k h ok (by omega) hv hk ev).symm (fun W hT => match_Hits _ h W hT ok) (by rw [onM_yes hF]; exact (fit_hits 5 v h ok (by omega) hv (of_decide_eq_true dv)).symm) (w_ck ha hr) (fun W hT => match_Hits _ h W hT ok) (w_has ha hg (by rw [hM]; exact (net_hits 5 a n h ok (by decide) ha hr hg).symm)) (IntWalk.u32_in _ (by omega))
  · have ne4 : ((f : Int) == 4) = false := by rw [beq_eq_false_iff_ne]; omega
    have ne5 : ((f : Int) == 5) = false := by rw [beq_eq_false_iff_ne]; omega
    have hN : netE f a n = false := by unfold netE netOk; rw [ne4, ne5]; rfl
    cases dk : decide ((k : Int) ≤ fullI (f : Nat))
    · have hO : onOk (f : Nat) v k = false := by rw [on_law f v k (by omega) hv hk, dk]; rfl
      cases dv : decide ((v : Int) ≤ fullI (f : Nat))
      · have hF : onOk (f : Nat) v (fullN (f : Nat)) = false := by rw [fit_law f v (by omega) hv, dv]
        exact mk_mid_00 f hf0 hf9 ne4 ne5 v k a n h w hT _ _ _ (w_on hO (onM_no hO)) (w_ex hF rfl) (w_net ha hN rfl) (fun W hT => head_Full _ W hT) dk dv
      · have hF : onOk (f : Nat) v (fullN (f : Nat)) = true := by rw [fit_law f v (by omega) hv, dv]
        exact mk_mid_01 f hf0 hf9 ne4 ne5 v k a n h w hT _ _ _ _ _ (w_on hO (onM_no hO)) (w_ex hF rfl) (w_net ha hN rfl) (fun W hT => head_Full _ W hT) dk dv (w_get ok f) (fun W hT => match_Hits _ h W hT ok) (by rw [onM_yes hF]; exact (fit_hits f v h ok (by omega) hv (of_decide_eq_true dv)).symm)
    · cases ev : (bits .and .u64 (v : Int) (k : Int) == (v : Int))
      · have hO : onOk (f : Nat) v k = false := by rw [on_law f v k (by omega) hv hk, dk, ev]; rfl
        cases dv : decide ((v : Int) ≤ fullI (f : Nat))
        · have hF : onOk (f : Nat) v (fullN (f : Nat)) = false := by rw [fit_law f v (by omega) hv, dv]
          exact mk_mid_10 f hf0 hf9 ne4 ne5 v k a n h w hT _ _ _ (w_on hO (onM_no hO)) (w_ex hF rfl) (w_net ha hN rfl) (fun W hT => head_Full _ W hT) dk ev dv
        · have hF : onOk (f : Nat) v (fullN (f : Nat)) = true := by rw [fit_law f v (by omega) hv, dv]
          exact mk_mid_11 f hf0 hf9 ne4 ne5 v k a n h w hT _ _ _ _ _ (w_on hO (onM_no hO)) (w_ex hF rfl) (w_net ha hN rfl) (fun W hT => head_Full _ W hT) dk ev dv (w_get ok f) (fun W hT => match_Hits _ h W hT ok) (by rw [onM_yes hF]; exact (fit_hits f v h ok (by omega) hv (of_decide_eq_true dv)).symm)
      · have hO : onOk (f : Nat) v k = true := by rw [on_law f v k (by omega) hv hk, dk, ev]; rfl
        cases dv : decide ((v : Int) ≤ fullI (f : Nat))
        · have hF : onOk (f : Nat) v (fullN (f : Nat)) = false := by rw [fit_law f v (by omega) hv, dv]
          exact mk_mid_20 f hf0 hf9 ne4 ne5 v k a n h w hT _ _ _ _ _ _ (w_on hO (onM_yes hO)) (w_ex hF rfl) (w_net ha hN rfl) (fun W hT => head_Full _ W hT) dk ev dv (w_get ok f) (fun W hT => match_Hits _ h W hT ok) (on_hits f v k h ok (by omega) hv hk ev).symm
        · have hF : onOk (f : Nat) v (fullN (f : Nat)) = true := by rw [fit_law f v (by omega) hv, dv]
          exact mk_mid_21 f hf0 hf9 ne4 ne5 v k a n h w hT _ _ _ _ _ _ _ (w_on hO (onM_yes hO)) (w_ex hF rfl) (w_net ha hN rfl) (fun W hT => head_Full _ W hT) dk ev dv (w_get ok f) (fun W hT => match_Hits _ h W hT ok) (on_hits f v k h ok (by omega) hv hk ev).symm (fun W hT => match_Hits _ h W hT ok) (by rw [onM_yes hF]; exact (fit_hits f v h ok (by omega) hv (of_decide_eq_true dv)).symm)
end Go.Proofs.YtkcikblecinnfaaDoor
