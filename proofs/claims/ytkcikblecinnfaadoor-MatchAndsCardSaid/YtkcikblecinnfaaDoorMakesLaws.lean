/-
  MATCHES THAT ARE MADE: plain laws.
-/
import Derived.Test.YtkcikblecinnfaaDoorNetLaws
namespace Go.Proofs.YtkcikblecinnfaaDoor
open Go.RowKit

theorem all_one {P : Nat → Bool} (f : Nat) (hf : f < 9) (h : ∀ j, j < 9 → j ≠ f → P j = true) : (List.range 9).all P = P f := by
  rw [Bool.eq_iff_iff]
  simp only [List.all_eq_true, List.mem_range]
  constructor
  · intro h'; exact h' f hf
  · intro h' j hj
    by_cases e : j = f
    · rw [e]; exact h'
    · exact h j hj e
theorem m1_other (f v k j : Nat) (hj : j ≠ f) : (m1 f v k).val j = 0 ∧ (m1 f v k).mask j = 0 := by
  constructor
  · show (if j = f then v else 0) = 0; rw [if_neg hj]
  · show (if j = f then k else 0) = 0; rw [if_neg hj]
theorem m1_self (f v k : Nat) : (m1 f v k).val f = v ∧ (m1 f v k).mask f = k := by
  constructor
  · show (if f = f then v else 0) = v; rw [if_pos rfl]
  · show (if f = f then k else 0) = k; rw [if_pos rfl]
theorem hits_one (f v k : Nat) (h : Hdr) (ok : h.Ok) (hf : f < 9) : hitsM (m1 f v k) h = (hitI (getN h f) v k == 0) := by
  unfold hitsM
  rw [all_one f hf (fun j _ hj => by
    rw [(m1_other f v k j hj).1, (m1_other f v k j hj).2, ← getN_eq h j ok]
    have hg := getN_hi h j ok
    unfold hitI
    rw [u64_xor_nat (getN h j) 0 (by omega) (by decide)]
    have hx : getN h j ^^^ 0 = getN h j := by simp
    rw [hx, u64_and_nat (getN h j) 0 (by omega) (by decide)]
    simp), (m1_self f v k).1, (m1_self f v k).2, getN_eq h f ok]
theorem hit_and (g v k : Nat) (hg : g < 18446744073709551616) (hv : v < 18446744073709551616) (hk : k < 18446744073709551616) : (hitI g v k == 0) = decide (g &&& k = v &&& k) := by
  have hx : g ^^^ v < 2 ^ 64 := Nat.xor_lt_two_pow (by simpa using hg) (by simpa using hv)
  unfold hitI
  rw [u64_xor_nat g v hg hv, u64_and_nat (g ^^^ v) k (by simpa using hx) hk]
  by_cases h : g &&& k = v &&& k
  · rw [decide_eq_true h, (xor_and_zero g v k).2 h]; rfl
  · rw [decide_eq_false h]
    have : (g ^^^ v) &&& k ≠ 0 := fun h' => h ((xor_and_zero g v k).1 h')
    simp; exact this
theorem on_law (f v k : Nat) (hf : f < 9) (hv : v < 18446744073709551616) (hk : k < 18446744073709551616) : onOk f v k = (decide ((k : Int) ≤ fullI f) && (bits .and .u64 (v : Int) (k : Int) == (v : Int))) := by
  unfold onOk
  rw [right_law f v k hv hk]
  unfold lrI
  have h1 : (0 : Int) ≤ f := by omega
  have h2 : (f : Int) < 9 := by omega
  by_cases h3 : (k : Int) ≤ fullI f
  · have : ¬ (fullI f < (k : Int)) := by omega
    simp [h1, h2, h3, this]
  · have : fullI f < (k : Int) := by omega
    simp [h1, h2, h3, this]
theorem on_hits (f v k : Nat) (h : Hdr) (ok : h.Ok) (hf : f < 9) (hv : v < 18446744073709551616) (hk : k < 18446744073709551616) (hr : (bits .and .u64 (v : Int) (k : Int) == (v : Int)) = true) :
    hitsM (m1 f v k) h = (bits .and .u64 (getN h f : Int) (k : Int) == (v : Int)) := by
  have hg := getN_hi h f ok
  rw [hits_one f v k h ok hf, hit_and _ v k (by omega) hv hk, u64_and_nat (getN h f) k (by omega) hk]
  rw [u64_and_nat v k hv hk] at hr
  have e : v &&& k = v := Int.ofNat_inj.mp (eq_of_beq hr)
  rw [e]
  by_cases h' : getN h f &&& k = v
  · rw [decide_eq_true h', h']; simp
  · rw [decide_eq_false h']
    symm; rw [beq_eq_false_iff_ne]
    intro h2; exact h' (Int.ofNat_inj.mp h2)
theorem full_and (f : Int) (x : Nat) (hx : (x : Int) ≤ fullI f) : x &&& fullN f = x := by
  obtain ⟨w, hw, e⟩ := full_of f
  have e2 : fullN f = 2 ^ w - 1 := by have := fullN_eq f; omega
  have p0 : 0 < 2 ^ w := Nat.two_pow_pos w
  rw [e2, Nat.and_two_pow_sub_one_eq_mod, Nat.mod_eq_of_lt (by omega)]
theorem fullN_hi (f : Int) : fullN f < 281474976710656 := by have := fullN_eq f; have := fullI_hi f; omega
theorem fit_law (f v : Nat) (hf : f < 9) (hv : v < 18446744073709551616) : onOk f v (fullN f) = decide ((v : Int) ≤ fullI f) := by
  have hF := fullN_hi f
  rw [on_law f v (fullN f) hf hv (by omega), fullN_eq]
  have e := val_fits v (fullN f) hv (by omega)
  have e2 := mask_fits f v hv
  rw [fullN_eq] at e
  rw [e2] at e
  rw [← e]
  by_cases h : (v : Int) ≤ fullI f
  · have : ¬ (fullI f < (v : Int)) := by omega
    simp [h, this]
  · have : fullI f < (v : Int) := by omega
    simp [h, this]
theorem getN_full (h : Hdr) (f : Nat) (ok : h.Ok) (hf : f < 9) : (getN h f : Int) ≤ fullI f := by
  rw [getN_eq h f ok]
  have a := (macI_range _ _ _ _ _ _ ok.src).2
  have b := (macI_range _ _ _ _ _ _ ok.dst).2
  have c := ok.sip.2
  have d := ok.dip.2
  rcases nine_cases f hf with rfl | rfl | rfl | rfl | rfl | rfl | rfl | rfl | rfl
  · rw [show fullI ((0 : Nat) : Int) = 255 by decide]; show h.port % 256 ≤ 255; omega
  · rw [show fullI ((1 : Nat) : Int) = 281474976710655 by decide]; show macI h.s0 h.s1 h.s2 h.s3 h.s4 h.s5 ≤ _; omega
  · rw [show fullI ((2 : Nat) : Int) = 281474976710655 by decide]; show macI h.d0 h.d1 h.d2 h.d3 h.d4 h.d5 ≤ _; omega
  · rw [show fullI ((3 : Nat) : Int) = 65535 by decide]; show h.ty % 65536 ≤ _; omega
  · rw [show fullI ((4 : Nat) : Int) = 4294967295 by decide]; show h.sip ≤ _; omega
  · rw [show fullI ((5 : Nat) : Int) = 4294967295 by decide]; show h.dip ≤ _; omega
  · rw [show fullI ((6 : Nat) : Int) = 255 by decide]; show h.proto % 256 ≤ _; omega
  · rw [show fullI ((7 : Nat) : Int) = 65535 by decide]; show h.sp % 65536 ≤ _; omega
  · rw [show fullI ((8 : Nat) : Int) = 65535 by decide]; show h.dp % 65536 ≤ _; omega
theorem fit_hits (f v : Nat) (h : Hdr) (ok : h.Ok) (hf : f < 9) (hv : v < 18446744073709551616) (hr : (v : Int) ≤ fullI f) : hitsM (m1 f v (fullN f)) h = ((getN h f : Int) == (v : Int)) := by
  have hg := getN_hi h f ok
  have hF := fullN_hi f
  rw [hits_one f v _ h ok hf, hit_and _ v _ (by omega) hv (by omega), full_and f _ (getN_full h f ok hf), full_and f v hr]
  by_cases h' : getN h f = v
  · rw [decide_eq_true h', h']; simp
  · rw [decide_eq_false h']
    symm; rw [beq_eq_false_iff_ne]
    intro h2; exact h' (Int.ofNat_inj.mp h2)
theorem net_on' (f a : Nat) (n : Int) (hf : f = 4 ∨ f = 5) (ha : a < 4294967296) (hr : rightB a n = true) : onOk f a (maskN n) = true := by
  have hm := maskN_hi n
  have hk := keep_right a n hr
  have h1 : bits .and .u64 (a : Int) (maskN n : Int) = a := by rw [u64_and_nat a (maskN n) (by omega) (by omega), nat_keep a n ha, hk]
  rw [on_law f a (maskN n) (by omega) (by omega) (by omega), h1]
  rcases hf with rfl | rfl
  · rw [show fullI ((4 : Nat) : Int) = 4294967295 by decide]
    have : ((maskN n : Nat) : Int) ≤ 4294967295 := by omega
    simp [this]
  · rw [show fullI ((5 : Nat) : Int) = 4294967295 by decide]
    have : ((maskN n : Nat) : Int) ≤ 4294967295 := by omega
    simp [this]
theorem net_hits (f a : Nat) (n : Int) (h : Hdr) (ok : h.Ok) (hf : f = 4 ∨ f = 5) (ha : a < 4294967296) (hr : rightB a n = true) (hg : getN h f < 4294967296) : hitsM (m1 f a (maskN n)) h = hasB a n (getN h f) := by
  have hm := maskN_hi n
  rw [hits_one f a _ h ok (by omega), hit_and _ a _ (by omega) (by omega) (by omega)]
  unfold hasB
  rw [hr]
  have e := keep_eq a (getN h f) n ha hg hr
  have e2 : decide (getN h f &&& maskN n = a &&& maskN n) = decide (a &&& maskN n = getN h f &&& maskN n) := by
    by_cases h' : getN h f &&& maskN n = a &&& maskN n
    · rw [decide_eq_true h', decide_eq_true h'.symm]
    · rw [decide_eq_false h', decide_eq_false (fun h'' => h' h''.symm)]
  rw [e2, e]
  simp
end Go.Proofs.YtkcikblecinnfaaDoor
