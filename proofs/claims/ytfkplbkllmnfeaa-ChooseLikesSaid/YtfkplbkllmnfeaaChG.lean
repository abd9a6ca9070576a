/-
  CHOOSE: what is known of candidates that are right.
-/
import Derived.Test.YtfkplbkllmnfeaaChY
import Derived.Test.YtfkplbkllmnfeaaChF
namespace Go.Proofs.Ytfkplbkllmnfeaa
open Go.RowKit

theorem hops_bound : ∀ (p : List Sg), (∀ s ∈ p, s.2.length ≤ 255) → hopsN p ≤ p.length * 255
  | [], _ => by simp [hopsN]
  | s :: p, h => by
    have ih := hops_bound p (fun x hx => h x (List.mem_cons_of_mem _ hx))
    have h0 := h s (List.mem_cons_self ..)
    simp only [hopsN, List.length_cons]
    split <;> omega
theorem okT_of {a : At} (h : checkB a = true) : ∀ t, 1 ≤ t → t ≤ 8 → okT a t = true := by
  intro t h1 h8
  unfold checkB at h
  simp only [Bool.and_eq_true, List.all_eq_true] at h
  exact h.2.1 t (by rw [List.mem_range'_1]; omega)
theorem check_path {a : At} (h : checkB a = true) : ∀ s ∈ a.path, s.2.length ≤ 255 := by
  have h2 := okT_of h 2 (by decide) (by decide)
  unfold okT at h2
  split at h2
  · intro s hs
    simp only [goodB, pathB, List.all_eq_true] at h2
    have := h2 s hs
    unfold segB at this
    simp only [Bool.and_eq_true, decide_eq_true_eq] at this
    exact this.1.2
  · simp only [zeroB, beq_iff_eq] at h2
    have : a.path = [] := List.length_eq_zero_iff.1 (by omega)
    rw [this]
    intro s hs; simp at hs
theorem check_loc {a : At} (h : checkB a = true) : 0 ≤ locOf a ∧ locOf a ≤ 4294967295 := by
  have h2 := okT_of h 5 (by decide) (by decide)
  unfold okT at h2
  unfold locOf
  split at h2
  · next hi =>
    have hi' : isB a.has 5 = true := hi
    rw [if_pos hi']
    simp only [goodB, withinB, Bool.and_eq_true, decide_eq_true_eq] at h2
    exact h2
  · next hi =>
    have hi' : ¬ isB a.has 5 = true := hi
    rw [if_neg hi']
    omega
theorem check_med {a : At} (h : checkB a = true) : medOf a = a.med := by
  have h2 := okT_of h 4 (by decide) (by decide)
  unfold okT at h2
  unfold medOf
  split at h2
  · next hi =>
    have hi' : isB a.has 4 = true := hi
    rw [if_pos hi']
  · next hi =>
    have hi' : ¬ isB a.has 4 = true := hi
    rw [if_neg hi']
    simp only [zeroB, beq_iff_eq] at h2
    exact h2.symm
theorem cds_rng {w : World} {v : Value} {xs : List Cd} (h : CdsAt w v xs) : ∀ c ∈ xs, c.Rng := by
  intro c hc
  obtain ⟨i, hi⟩ := List.getElem?_of_mem hc
  obtain ⟨sa, cap, _, _, _, hV⟩ := h
  obtain ⟨b, off, _, hP⟩ := hV (by have := (List.getElem?_eq_some_iff.1 hi).1; omega)
  obtain ⟨cs, _, ⟨vp, vc, vo, _, hr, _⟩, _⟩ := hP i c hi
  exact hr
structure RightC (c : Cd) : Prop where
  hops : hopsN c.a.path ≤ 2040
  loc : 0 ≤ locOf c.a ∧ locOf c.a ≤ 4294967295
  med : medOf c.a = c.a.med
theorem right_of {xs : List Cd} (h : rightL xs = true) : xs.length ≤ 12 ∧ ∀ c ∈ xs, RightC c := by
  unfold rightL at h
  simp only [Bool.and_eq_true, decide_eq_true_eq, List.all_eq_true] at h
  refine ⟨h.1, fun c hc => ?_⟩
  have := h.2 c hc
  unfold rightC at this
  simp only [Bool.and_eq_true, decide_eq_true_eq] at this
  obtain ⟨h8, hk⟩ := this
  exact ⟨by have := hops_bound c.a.path (check_path hk); omega, check_loc hk, check_med hk⟩
theorem rt_ok {c : Cd} (h : RightC c) (hr : c.Rng) : RtOk (rtOf c) := by
  refine ⟨h.loc, ?_, hr.2.2.2.1.2.1, hr.2.2.2.2, hr.1⟩
  have := h.hops
  unfold rtOf I64r
  simp only
  omega
end Go.Proofs.Ytfkplbkllmnfeaa
