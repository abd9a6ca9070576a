/-
  WHAT A HEADER WITH A NUMBER IN A FIELD SAYS: plain laws.
-/
import Derived.Test.YtkcikblecinnfaaDoorWith
namespace Go.Proofs.YtkcikblecinnfaaDoor
open Go.RowKit

theorem full_vals : fullI 0 = 255 ∧ fullI 1 = 281474976710655 ∧ fullI 2 = 281474976710655 ∧ fullI 3 = 65535 ∧ fullI 4 = 4294967295 ∧ fullI 5 = 4294967295 ∧ fullI 6 = 255 ∧ fullI 7 = 65535 ∧ fullI 8 = 65535 := by decide
theorem withOk_iff (f n : Int) : withOk f n = true ↔ 0 ≤ f ∧ f < 9 ∧ n ≤ fullI f := by unfold withOk; simp
theorem nine (f : Int) (h0 : 0 ≤ f) (h1 : f < 9) : f = 0 ∨ f = 1 ∨ f = 2 ∨ f = 3 ∨ f = 4 ∨ f = 5 ∨ f = 6 ∨ f = 7 ∨ f = 8 := by omega
theorem macI_bytes (n : Int) (h0 : 0 ≤ n) (h1 : n ≤ 281474976710655) : macI (byteI n 0) (byteI n 1) (byteI n 2) (byteI n 3) (byteI n 4) (byteI n 5) = n := by
  unfold macI byteI; omega
theorem byteI_mac (b0 b1 b2 b3 b4 b5 : Int) (h : Byte b0 ∧ Byte b1 ∧ Byte b2 ∧ Byte b3 ∧ Byte b4 ∧ Byte b5) :
    byteI (macI b0 b1 b2 b3 b4 b5) 0 = b0 ∧ byteI (macI b0 b1 b2 b3 b4 b5) 1 = b1 ∧ byteI (macI b0 b1 b2 b3 b4 b5) 2 = b2 ∧ byteI (macI b0 b1 b2 b3 b4 b5) 3 = b3 ∧ byteI (macI b0 b1 b2 b3 b4 b5) 4 = b4 ∧ byteI (macI b0 b1 b2 b3 b4 b5) 5 = b5 := by
  unfold Byte at h
  unfold macI byteI
  refine ⟨?_, ?_, ?_, ?_, ?_, ?_⟩ <;> omega
theorem setH_ok {h : Hdr} {f n : Int} (ok : h.Ok) (hn : 0 ≤ n) (hw : withOk f n = true) : (setH h f n).Ok := by
  obtain ⟨h0, h1, h2⟩ := (withOk_iff f n).1 hw
  obtain ⟨p, s, d, t, si, di, pr, sp, dp⟩ := ok
  obtain ⟨v0, v1, v2, v3, v4, v5, v6, v7, v8⟩ := full_vals
  rcases nine f h0 h1 with rfl | rfl | rfl | rfl | rfl | rfl | rfl | rfl | rfl
  · rw [v0] at h2; exact ⟨by show I64 n; unfold I64; omega, s, d, t, si, di, pr, sp, dp⟩
  · exact ⟨p, bytes_ok n, d, t, si, di, pr, sp, dp⟩
  · exact ⟨p, s, bytes_ok n, t, si, di, pr, sp, dp⟩
  · rw [v3] at h2; exact ⟨p, s, d, by show I64 n; unfold I64; omega, si, di, pr, sp, dp⟩
  · rw [v4] at h2; exact ⟨p, s, d, t, by show U32 n; unfold U32; omega, di, pr, sp, dp⟩
  · rw [v5] at h2; exact ⟨p, s, d, t, si, by show U32 n; unfold U32; omega, pr, sp, dp⟩
  · rw [v6] at h2; exact ⟨p, s, d, t, si, di, by show I64 n; unfold I64; omega, sp, dp⟩
  · rw [v7] at h2; exact ⟨p, s, d, t, si, di, pr, by show I64 n; unfold I64; omega, dp⟩
  · rw [v8] at h2; exact ⟨p, s, d, t, si, di, pr, sp, by show I64 n; unfold I64; omega⟩
theorem getI_set {h : Hdr} {f n : Int} (hn : 0 ≤ n) (hw : withOk f n = true) : getI (setH h f n) f = n := by
  obtain ⟨h0, h1, h2⟩ := (withOk_iff f n).1 hw
  obtain ⟨v0, v1, v2, v3, v4, v5, v6, v7, v8⟩ := full_vals
  rcases nine f h0 h1 with rfl | rfl | rfl | rfl | rfl | rfl | rfl | rfl | rfl
  · rw [v0] at h2; show n % 256 = n; omega
  · rw [v1] at h2; exact macI_bytes n hn h2
  · rw [v2] at h2; exact macI_bytes n hn h2
  · rw [v3] at h2; show n % 65536 = n; omega
  · rfl
  · rfl
  · rw [v6] at h2; show n % 256 = n; omega
  · rw [v7] at h2; show n % 65536 = n; omega
  · rw [v8] at h2; show n % 65536 = n; omega
theorem getI_other (h : Hdr) (f n i : Int) (h0 : 0 ≤ f) (h1 : f < 9) (i0 : 0 ≤ i) (i1 : i < 9) (hne : i ≠ f) : getI (setH h f n) i = getI h i := by
  rcases nine f h0 h1 with rfl | rfl | rfl | rfl | rfl | rfl | rfl | rfl | rfl <;> rcases nine i i0 i1 with rfl | rfl | rfl | rfl | rfl | rfl | rfl | rfl | rfl <;> first | rfl | (exact absurd rfl hne)
theorem getI_lo (h : Hdr) (f : Int) (ok : h.Ok) : 0 ≤ getI h f := by
  have a := (macI_range _ _ _ _ _ _ ok.src).1
  have b := (macI_range _ _ _ _ _ _ ok.dst).1
  have c := ok.sip.1
  have d := ok.dip.1
  unfold getI
  repeat (first | omega | split)
theorem withOk_get (h : Hdr) (f : Int) (ok : h.Ok) (h0 : 0 ≤ f) (h1 : f < 9) : withOk f (getI h f) = true := by
  have a := (macI_range _ _ _ _ _ _ ok.src).2
  have b := (macI_range _ _ _ _ _ _ ok.dst).2
  have c := ok.sip.2
  have d := ok.dip.2
  refine (withOk_iff _ _).2 ⟨h0, h1, ?_⟩
  obtain ⟨v0, v1, v2, v3, v4, v5, v6, v7, v8⟩ := full_vals
  rcases nine f h0 h1 with rfl | rfl | rfl | rfl | rfl | rfl | rfl | rfl | rfl
  · rw [v0]; show h.port % 256 ≤ 255; omega
  · rw [v1]; show macI h.s0 h.s1 h.s2 h.s3 h.s4 h.s5 ≤ _; omega
  · rw [v2]; show macI h.d0 h.d1 h.d2 h.d3 h.d4 h.d5 ≤ _; omega
  · rw [v3]; show h.ty % 65536 ≤ _; omega
  · rw [v4]; show h.sip ≤ _; omega
  · rw [v5]; show h.dip ≤ _; omega
  · rw [v6]; show h.proto % 256 ≤ _; omega
  · rw [v7]; show h.sp % 65536 ≤ _; omega
  · rw [v8]; show h.dp % 65536 ≤ _; omega
theorem check_ranges (h : Hdr) (hc : checkB h = true) : (0 ≤ h.port ∧ h.port < 256) ∧ (0 ≤ h.ty ∧ h.ty < 65536) ∧ (0 ≤ h.proto ∧ h.proto < 256) ∧ (0 ≤ h.sp ∧ h.sp < 65536) ∧ (0 ≤ h.dp ∧ h.dp < 65536) := by
  obtain ⟨v0, v1, v2, v3, v4, v5, v6, v7, v8⟩ := full_vals
  unfold checkB fitsB at hc
  rw [v0, v3, v6, v7, v8] at hc
  simp only [Bool.and_eq_true, decide_eq_true_eq] at hc
  omega
theorem setH_back (h : Hdr) (f n : Int) (ok : h.Ok) (hc : checkB h = true) (h0 : 0 ≤ f) (h1 : f < 9) : setH (setH h f n) f (getI h f) = h := by
  have r := check_ranges h hc
  have s := byteI_mac _ _ _ _ _ _ ok.src
  have d := byteI_mac _ _ _ _ _ _ ok.dst
  rcases nine f h0 h1 with rfl | rfl | rfl | rfl | rfl | rfl | rfl | rfl | rfl
  · have e : h.port % 256 = h.port := by omega
    show ({ h with port := h.port % 256 } : Hdr) = h
    rw [e]
  · show ({ h with s0 := byteI (macI h.s0 h.s1 h.s2 h.s3 h.s4 h.s5) 0, s1 := byteI (macI h.s0 h.s1 h.s2 h.s3 h.s4 h.s5) 1, s2 := byteI (macI h.s0 h.s1 h.s2 h.s3 h.s4 h.s5) 2, s3 := byteI (macI h.s0 h.s1 h.s2 h.s3 h.s4 h.s5) 3, s4 := byteI (macI h.s0 h.s1 h.s2 h.s3 h.s4 h.s5) 4, s5 := byteI (macI h.s0 h.s1 h.s2 h.s3 h.s4 h.s5) 5 } : Hdr) = h
    rw [s.1, s.2.1, s.2.2.1, s.2.2.2.1, s.2.2.2.2.1, s.2.2.2.2.2]
  · show ({ h with d0 := byteI (macI h.d0 h.d1 h.d2 h.d3 h.d4 h.d5) 0, d1 := byteI (macI h.d0 h.d1 h.d2 h.d3 h.d4 h.d5) 1, d2 := byteI (macI h.d0 h.d1 h.d2 h.d3 h.d4 h.d5) 2, d3 := byteI (macI h.d0 h.d1 h.d2 h.d3 h.d4 h.d5) 3, d4 := byteI (macI h.d0 h.d1 h.d2 h.d3 h.d4 h.d5) 4, d5 := byteI (macI h.d0 h.d1 h.d2 h.d3 h.d4 h.d5) 5 } : Hdr) = h
    rw [d.1, d.2.1, d.2.2.1, d.2.2.2.1, d.2.2.2.2.1, d.2.2.2.2.2]
  · have e : h.ty % 65536 = h.ty := by omega
    show ({ h with ty := h.ty % 65536 } : Hdr) = h
    rw [e]
  · rfl
  · rfl
  · have e : h.proto % 256 = h.proto := by omega
    show ({ h with proto := h.proto % 256 } : Hdr) = h
    rw [e]
  · have e : h.sp % 65536 = h.sp := by omega
    show ({ h with sp := h.sp % 65536 } : Hdr) = h
    rw [e]
  · have e : h.dp % 65536 = h.dp := by omega
    show ({ h with dp := h.dp % 65536 } : Hdr) = h
    rw [e]
theorem setH_twice (h : Hdr) (f a b : Int) (h0 : 0 ≤ f) (h1 : f < 9) : setH (setH h f a) f b = setH h f b := by
  rcases nine f h0 h1 with rfl | rfl | rfl | rfl | rfl | rfl | rfl | rfl | rfl <;> rfl
theorem setH_turn (h : Hdr) (f g a b : Int) (h0 : 0 ≤ f) (h1 : f < 9) (g0 : 0 ≤ g) (g1 : g < 9) (hne : f ≠ g) : setH (setH h f a) g b = setH (setH h g b) f a := by
  rcases nine f h0 h1 with rfl | rfl | rfl | rfl | rfl | rfl | rfl | rfl | rfl <;> rcases nine g g0 g1 with rfl | rfl | rfl | rfl | rfl | rfl | rfl | rfl | rfl <;> first | rfl | (exact absurd rfl hne)
theorem and_full (a f : Int) (a0 : 0 ≤ a) (a1 : a < 18446744073709551616) : bits .and .u64 a (fullI f) = a % (fullI f + 1) ∧ 0 ≤ a % (fullI f + 1) ∧ a % (fullI f + 1) ≤ fullI f := by
  have h : ∃ k : Nat, k ≤ 48 ∧ fullI f = 2 ^ k - 1 := by
    rcases widthI_cases f with h | h | h | h | h
    · exact ⟨0, by omega, fullI_of h⟩
    · exact ⟨8, by omega, fullI_of h⟩
    · exact ⟨16, by omega, fullI_of h⟩
    · exact ⟨32, by omega, fullI_of h⟩
    · exact ⟨48, by omega, fullI_of h⟩
  obtain ⟨k, hk, e⟩ := h
  have p : (0 : Int) < 2 ^ k := Int.pow_pos (by decide)
  rw [e, and_low_u64 a k a0 a1 hk, show (2 : Int) ^ k - 1 + 1 = 2 ^ k by omega]
  have := Int.emod_nonneg a (show (2 : Int) ^ k ≠ 0 by omega)
  have := Int.emod_lt_of_pos a p
  omega
end Go.Proofs.YtkcikblecinnfaaDoor
