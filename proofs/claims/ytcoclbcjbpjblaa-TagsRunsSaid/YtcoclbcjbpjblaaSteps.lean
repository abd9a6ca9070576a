/-
  STEPS THAT A CALLER HANDS IN: a slice of structs, opened.
-/
import Derived.Test.YtcoclbcjbpjblaaTagHead
import Derived.Deep.Slices
namespace Go.Proofs.Ytcoclbcjbpjblaa
open Go.RowKit Go.ChangeShapes Go.WideShapes
structure St where
  k : Int
  key : Ky
  t : Int
def StOk (s : St) : Prop := I64 s.k ∧ KyOk s.key ∧ I64 s.t
/-- steps in memory. -/
def StepsAt (w : World) (v : Value) (xs : List St) : Prop :=
  ∃ (sa : Option Addr) (cap : Nat), v = .slice sa xs.length cap ∧ xs.length ≤ maxLen ∧ (0 < xs.length → ∃ b off : Nat, sa = some ⟨b, off, none⟩ ∧ ∀ (i : Nat) (s : St), xs[i]? = some s → StOk s ∧
    w.cell? ⟨b, off + i * 5, none⟩ = some (.int .i64 s.k) ∧ w.cell? ⟨b, off + i * 5 + 1, none⟩ = some (.int .i64 s.key.1) ∧ w.cell? ⟨b, off + i * 5 + 2, none⟩ = some (.int .i64 s.key.2.1) ∧ w.cell? ⟨b, off + i * 5 + 3, none⟩ = some (.int .i64 s.key.2.2) ∧ w.cell? ⟨b, off + i * 5 + 4, none⟩ = some (.int .i64 s.t))
section
variable {H : Type} {enc : TypeId × Value → H} {w : World} {base : Nat} {spare : Nat → Bool} {held : Bool}
theorem i64_of {n : Int} (h : (Lit.int .i64 n).wf = true) : I64 n := by
  simp [Lit.wf, IntKind.min, IntKind.max, IntKind.bits, IntKind.signed] at h
  unfold I64; omega
theorem one_int {f : Nat} {c : List Value} {y : DataW H × List MemPlace} (h : DataW.trod enc Try.prog w base spare held f 3 c = some y) : ∃ n, c = [.int .i64 n] ∧ I64 n := by
  obtain ⟨n, h1, _, h2⟩ := DataW.trod_int Try.underlying3 h
  exact ⟨n, h1, i64_of h2⟩
theorem step_cells {f : Nat} {cs : List Value} {x : DataW H × List MemPlace} (h : DataW.trod enc Try.prog w base spare held f 37 cs = some x) : ∃ s : St, StOk s ∧ cs = [.int .i64 s.k, .int .i64 s.key.1, .int .i64 s.key.2.1, .int .i64 s.key.2.2, .int .i64 s.t] := by
  obtain ⟨xs, n, _, _, hl, hxl, hf⟩ := DataW.trod_struct Try.underlying37 h
  have hc5 : Try.prog.cellsOf 37 = 5 := by kernel_rfl
  have hc3 : Try.prog.cellsOf 30 = 3 := by kernel_rfl
  have hc1 : Try.prog.cellsOf 3 = 1 := by kernel_rfl
  rw [hc5] at hl
  match cs, hl with
  | [c0, c1, c2, c3, c4], _ =>
    match xs, hxl with
    | [x0, x1, x2], _ =>
      have e0 := hf 0 _ rfl
      have e1 := hf 1 _ rfl
      have e2 := hf 2 _ rfl
      simp [hc1, hc3] at e0 e1 e2
      obtain ⟨k, hk, ik⟩ := one_int e0
      obtain ⟨t, ht, it⟩ := one_int e2
      obtain ⟨ys, m, _, _, _, hyl, hg⟩ := DataW.trod_struct Try.underlying30 e1
      match ys, hyl with
      | [y0, y1, y2], _ =>
        have g0 := hg 0 _ rfl
        have g1 := hg 1 _ rfl
        have g2 := hg 2 _ rfl
        simp [hc1] at g0 g1 g2
        obtain ⟨a, ha, ia⟩ := one_int g0
        obtain ⟨b, hb, ib⟩ := one_int g1
        obtain ⟨c, hc, ic⟩ := one_int g2
        simp at hk ht ha hb hc
        subst hk; subst ht; subst ha; subst hb; subst hc
        exact ⟨⟨k, (a, b, c), t⟩, ⟨ik, ⟨ia, ib, ic⟩, it⟩, rfl⟩
theorem open_steps {v : Value} {d : DataW H} {p : List MemPlace} {r : Reach} {b0 : Nat} (hv : Value.okWide Try.prog w r b0 34 v) (h : DataW.Trod enc Try.prog w base spare held 34 v d p) : ∃ xs : List St, StepsAt w v xs := by
  obtain ⟨fuel, h⟩ := h
  have hc5 : Try.prog.cellsOf 37 = 5 := by kernel_rfl
  have hvc : v.cells.toList = [v] := by
    simp only [Value.okWide, Try.underlying34] at hv
    cases v <;> first | rfl | (simp [Cell.okWide, Cell.ok, Try.underlying34] at hv)
  rw [hvc] at h
  rcases Deep.open_slice Try.underlying34 h with ⟨h1, _⟩ | ⟨a, len, cap, m, n, D, Pl, h1, _, hlc, hcap, hm, _, hx⟩
  · injection h1 with h1 _
    exact ⟨[], none, 0, h1, by simp, fun h => absurd h (by simp)⟩
  · injection h1 with h1 _
    rw [hc5] at hx
    have hlm : len ≤ m := by rw [hm]; split <;> omega
    have hone : ∀ i, i < len → ∃ s : St, StOk s ∧ w.cell? (a.add (i * 5)) = some (.int .i64 s.k) ∧ w.cell? (a.add (i * 5 + 1)) = some (.int .i64 s.key.1) ∧ w.cell? (a.add (i * 5 + 2)) = some (.int .i64 s.key.2.1) ∧ w.cell? (a.add (i * 5 + 3)) = some (.int .i64 s.key.2.2) ∧ w.cell? (a.add (i * 5 + 4)) = some (.int .i64 s.t) := by
      intro i hi
      obtain ⟨cs', hcs, ht⟩ := hx i (by omega)
      obtain ⟨s, hs, rfl⟩ := step_cells ht
      obtain ⟨_, _, hat⟩ := World.cells?_some hcs
      refine ⟨s, hs, ?_, ?_, ?_, ?_, ?_⟩
      · have := hat 0 (by decide); rw [Deep.add_add] at this; exact this
      · have := hat 1 (by decide); rw [Deep.add_add] at this; exact this
      · have := hat 2 (by decide); rw [Deep.add_add] at this; exact this
      · have := hat 3 (by decide); rw [Deep.add_add] at this; exact this
      · have := hat 4 (by decide); rw [Deep.add_add] at this; exact this
    haveI : Inhabited St := ⟨⟨0, (0, 0, 0), 0⟩⟩
    obtain ⟨f, hf⟩ := Deep.choose_lt hone
    refine ⟨(List.range len).map f, some a, cap, by rw [h1]; simp, by simp; omega, fun h0 => ?_⟩
    have h0' : 0 < len := by simpa using h0
    have hsp : a.spot = none := by
      have hc := (hf 0 h0').2.1
      have e : a.add (0 * 5) = a := rfl
      rw [e] at hc
      unfold World.cell? at hc
      cases hq : a.spot with
      | none => rfl
      | some q => rw [hq] at hc; simp at hc; split at hc <;> simp at hc
    have had : ∀ k, a.add k = ⟨a.block, a.off + k, none⟩ := fun k => by
      unfold Addr.add
      split
      · rename_i hk; subst hk; cases a; simp at hsp; simp [hsp]
      · rfl
    refine ⟨a.block, a.off, by cases a; simp at hsp; simp [hsp], fun i s hi => ?_⟩
    have hil : i < len := by
      have := (List.getElem?_eq_some_iff.1 hi).1
      simpa using this
    rw [List.getElem?_map, List.getElem?_range hil] at hi
    simp at hi
    subst hi
    have := hf i hil
    simp only [had] at this
    simp only [Nat.add_assoc] at this ⊢
    exact this
end
end Go.Proofs.Ytcoclbcjbpjblaa
