/- Texts of one proof, one behind another. -/
import Derived.Test.YtohkbcdnlmjcjaaDoorWr25
import Derived.Test.YtohkbcdnlmjcjaaDoorWr9
/-
  THE REFERENCE OF ATTRIBUTES: for Encode: numbers that are right are small; bytes of numbers; an append in a region that draws its order.
-/
namespace Go.Proofs.YtohkbcdnlmjcjaaDoor
open Go.RowKit

set_option maxRecDepth 100000 in
theorem r_bytesI (x : Int) (k : Nat) (w : World) (h0 : 0 ≤ x) (h1 : x ≤ 4294967295) (hk : k ≤ 4) : Calls Tryd.prog 36 #[.int .i64 x, .int .i64 (k : Int)] w fun e w' => ∃ s c, e = .returned (.slice s k c) ∧ OwnB w' w.heap.size (.slice s k c) (numB x k) ∧ Below w.heap.size w w' := by
  obtain ⟨n, rfl⟩ := Int.eq_ofNat_of_zero_le h0
  exact r_bytes n k w (by omega) hk
set_option maxRecDepth 100000 in
theorem has_nat {a : At} (h : checkB a = true) (hr : a.Rng) : ∃ n : Nat, a.has = (n : Int) ∧ n ≤ 511 := by
  rw [← right_check] at h
  unfold rightB6 at h
  simp only [Bool.and_eq_true] at h
  have := (knownM_iff hr.1).1 h.1
  exact ⟨a.has.toNat, by omega, by omega⟩
set_option maxRecDepth 100000 in
theorem nums_nat {a : At} (h : checkB a = true) (hr : a.Rng) : (0 ≤ a.origin ∧ a.origin ≤ 4294967295) ∧ ((0 : Int) ≤ ((a.hop : Nat) : Int) ∧ ((a.hop : Nat) : Int) ≤ 4294967295) ∧ (0 ≤ a.med ∧ a.med ≤ 4294967295) ∧ (0 ≤ a.loc ∧ a.loc ≤ 4294967295) ∧ (0 ≤ a.aggrAs ∧ a.aggrAs ≤ 4294967295) ∧ ((0 : Int) ≤ ((a.aggrId : Nat) : Int) ∧ ((a.aggrId : Nat) : Int) ≤ 4294967295) := by
  rw [← right_check] at h
  unfold rightB6 at h
  simp only [Bool.and_eq_true, Bool.not_eq_true'] at h
  have h4 := h.2.1
  unfold v4 vio4 withinB at h4
  simp only [Bool.or_eq_false_iff, Bool.not_eq_false', Bool.and_eq_true, decide_eq_true_eq] at h4
  have h3 := hr.2.2.1
  have h6 := hr
  unfold At.Rng at h6
  omega
set_option maxRecDepth 100000 in
theorem comms_nat {a : At} (h : checkB a = true) (hi : isB a.has ((8 : Nat) : Int) = true) : ∀ c ∈ a.comms, 0 ≤ c ∧ c ≤ 4294967295 := by
  have := check_comms h hi
  unfold commsB at this
  simp only [Bool.and_eq_true, List.all_eq_true, decide_eq_true_eq] at this
  intro c hc
  have := this.1 c hc
  unfold withinB at this
  simpa using this
set_option maxRecDepth 100000 in
theorem seg_nat {s : Sg} (h : s.2.all asB = true) : ∀ n ∈ s.2, 0 ≤ n ∧ n ≤ 4294967295 := by
  rw [List.all_eq_true] at h
  intro n hn
  have := h n hn
  unfold asB at this
  simp only [Bool.and_eq_true, decide_eq_true_eq] at this
  omega
set_option maxRecDepth 100000 in
theorem bytes_nil (w : World) : BytesAt w (.slice none 0 0) [] := ⟨none, 0, rfl, Nat.le_refl _, Nat.zero_le _, fun h => absurd h (Nat.lt_irrefl _)⟩
set_option maxRecDepth 100000 in
theorem own_ne {w : World} {B : Nat} {v : Value} {xs : List Nat} {b : Nat} {C : Array Value} {T : TypeId} {z : Nat × Nat} (h : OwnB w B v xs) (hb : w.heap[b]? = some (.cells C T z)) (hT : T ≠ 5) : ¬ v.ownBlock = some b := by
  obtain ⟨h1, ⟨rfl, h0⟩ | ⟨g, cap, cur, rfl, hb', hg, r⟩⟩ := h
  · intro e; cases e
  · intro e
    have e : g = b := by injection e
    subst e
    rw [hg] at hb
    injection hb with hb
    injection hb with _ hb _
    exact hT hb.symm
def commL (l : List Int) : List Nat := l.flatMap fun c => numB c 4
set_option maxRecDepth 100000 in
theorem lay_pos (fl t : Int) (ys : List Nat) : 0 < (layL fl t ys).length := by
  unfold layL
  split <;> simp only [List.length_append, numB_len] <;> omega
set_option maxRecDepth 100000 in
theorem alloc_row (w : World) (o : Obj) {b : Nat} {x : Obj} (h : w.heap[b]? = some x) : (w.alloc o).heap[b]? = some x :=
  (((Below.refl _ _).alloc (Nat.le_refl w.heap.size) o).block b (row_lt h)).trans h
set_option maxRecDepth 100000 in
theorem Kept.onB {F : Nat → Prop} {w w1 w2 : World} (h : Kept F w w1) (hb : Below w.heap.size w1 w2) : Kept F w w2 :=
  ⟨hb.os.trans h.os, hb.tape.trans h.tape, hb.output.trans h.output, Nat.le_trans h.size hb.size, fun k hk hF => (hb.block k hk).trans (h.block k hk hF)⟩
set_option maxRecDepth 100000 in
theorem oth_rng {os : List Oth} : ∀ {l : Int}, othB l os = true → 0 ≤ l → ∀ o ∈ os, 0 ≤ o.1 ∧ o.1 < 256 := by
  induction os with
  | nil => intro l _ _ o ho; cases ho
  | cons x os ih =>
    intro l h hl o ho
    unfold othB at h
    simp only [Bool.and_eq_true, decide_eq_true_eq] at h
    rcases List.mem_cons.1 ho with rfl | ho
    · omega
    · exact ih h.2 (by omega) o ho
set_option maxRecDepth 100000 in
/-- the same append, one step of a region. -/
theorem wp_appB {o : Oper} {a : Act} {K : Act → World → Prop} {Q : Exit → Act → World → Prop} {w : World} (s x : Operand)
    (ho : o.op = .call { callee := .builtin .append, args := #[s, x], argTypes := #[38, 38] })
    (B : Nat) (v u : Value) (xs ys zs : List Nat) (hz : zs = xs ++ ys) (hs : a.eval s = v) (hx : a.eval x = u) (hB : B ≤ w.heap.size) (hv : OwnB w B v xs) (hu : BytesAt w u ys) (hy : 0 < ys.length) (hsz : xs.length + ys.length ≤ 8796093022208)
    (h : ∀ sa c w', OwnB w' B (.slice sa zs.length c) zs → Below B w w' → Kept (fun b => v.ownBlock = some b) w w' → K (a.put o.dst (.slice sa zs.length c)) w') : o.wp Tryd.prog a w K Q := by
  subst hz
  obtain ⟨i0, hii, hz0, hz1, hz2⟩ := info_parts info_byteB
  obtain ⟨sa, cap, rfl, h1, h2, h3⟩ := hu
  obtain ⟨sv, cv, hvf, -⟩ := own_form hv
  subst hvf
  obtain ⟨b, off, rfl, hc⟩ := h3 hy
  refine wp_append_own w s x 38 ho B 5 i0 _ 1 1 Tryd.underlying38 hii hz0 hz1 hz2 rfl (by decide) _ xs.length _ hs hv ⟨b, off, none⟩ ys.length cap (ys.map bV) hx (by simp) (bytes_news hc) (one_bs ys) (by unfold maxLen; omega) (by omega) hB ?_
  intro v' w' ho' hg _
  have ho2 : OwnB w' B v' (xs ++ ys) := by unfold OwnB; rw [List.length_append, List.map_append]; exact ho'
  obtain ⟨s', c', hvf, -⟩ := own_form ho2
  subst hvf
  exact h s' c' w' ho2 ((Below.refl _ _).grown hg hB (fun k hk => own_form_le hv k hk)) ⟨hg.os, hg.tape, hg.output, hg.size, fun k hk hne => hg.block k hk (fun e => hne e.symm)⟩
end Go.Proofs.YtohkbcdnlmjcjaaDoor
