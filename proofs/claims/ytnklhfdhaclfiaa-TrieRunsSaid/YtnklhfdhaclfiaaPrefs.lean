/-
  NETS THAT A CALLER HANDS IN: a slice of structs of two numbers, opened.
-/
import Derived.Test.YtnklhfdhaclfiaaFrame
import Derived.Deep.Slices
import Derived.DeepKeys4
namespace Go.Proofs.Ytnklhfdhaclfiaa
open Go.RowKit Go.ChangeShapes Go.WideShapes
abbrev Pf := Nat × Int
def PfOk (p : Pf) : Prop := p.1 < 4294967296 ∧ -9223372036854775808 ≤ p.2 ∧ p.2 ≤ 9223372036854775807
/-- nets in memory, from a block's place on. -/
def PfsIn (w : World) (b off : Nat) (xs : List Pf) : Prop :=
  ∀ (i : Nat) (p : Pf), xs[i]? = some p → PfOk p ∧ w.cell? ⟨b, off + i * 2, none⟩ = some (.int .u32 p.1) ∧ w.cell? ⟨b, off + i * 2 + 1, none⟩ = some (.int .i64 p.2)
def PrefsAt (w : World) (v : Value) (xs : List Pf) : Prop :=
  ∃ (sa : Option Addr) (cap : Nat), v = .slice sa xs.length cap ∧ xs.length ≤ maxLen ∧ (0 < xs.length → ∃ b off : Nat, sa = some ⟨b, off, none⟩ ∧ PfsIn w b off xs)
section
variable {H : Type} {enc : TypeId × Value → H} {w : World} {base : Nat} {spare : Nat → Bool} {held : Bool}
theorem one_i64 {f : Nat} {c : List Value} {y : DataW H × List MemPlace} (h : DataW.trod enc Try.prog w base spare held f 3 c = some y) : ∃ n : Int, c = [.int .i64 n] ∧ -9223372036854775808 ≤ n ∧ n ≤ 9223372036854775807 := by
  obtain ⟨n, h1, _, h2⟩ := DataW.trod_int Try.underlying3 h
  refine ⟨n, h1, ?_⟩
  simp [Lit.wf, IntKind.min, IntKind.max, IntKind.bits, IntKind.signed] at h2
  omega
theorem one_addr {f : Nat} {c : List Value} {y : DataW H × List MemPlace} (h : DataW.trod enc Try.prog w base spare held f 29 c = some y) : ∃ n : Nat, c = [.int .u32 n] ∧ n < 4294967296 := by
  obtain ⟨n, h1, _, h2⟩ := DataW.trod_int Try.underlying29 h
  simp [Lit.wf, IntKind.min, IntKind.max, IntKind.bits, IntKind.signed] at h2
  obtain ⟨m, rfl⟩ := Int.eq_ofNat_of_zero_le (show 0 ≤ n by omega)
  exact ⟨m, h1, by omega⟩
theorem pref_cells {f : Nat} {cs : List Value} {x : DataW H × List MemPlace} (h : DataW.trod enc Try.prog w base spare held f 31 cs = some x) : ∃ p : Pf, PfOk p ∧ cs = [.int .u32 p.1, .int .i64 p.2] := by
  obtain ⟨xs, n, _, _, hl, hxl, hf⟩ := DataW.trod_struct Try.underlying31 h
  have hc2 : Try.prog.cellsOf 31 = 2 := by kernel_rfl
  have hc1 : Try.prog.cellsOf 3 = 1 := by kernel_rfl
  have hca : Try.prog.cellsOf 29 = 1 := by kernel_rfl
  rw [hc2] at hl
  match cs, hl with
  | [c0, c1], _ =>
    match xs, hxl with
    | [x0, x1], _ =>
      have e0 := hf 0 _ rfl
      have e1 := hf 1 _ rfl
      simp [hc1, hca] at e0 e1
      obtain ⟨a, ha, ia⟩ := one_addr e0
      obtain ⟨m, hm, im⟩ := one_i64 e1
      simp at ha hm
      subst ha; subst hm
      exact ⟨(a, m), ⟨ia, im⟩, rfl⟩
theorem open_prefs {v : Value} {d : DataW H} {p : List MemPlace} {r : Reach} {b0 : Nat} (hv : Value.okWide Try.prog w r b0 22 v) (h : DataW.Trod enc Try.prog w base spare held 22 v d p) : ∃ xs : List Pf, PrefsAt w v xs := by
  obtain ⟨fuel, h⟩ := h
  have hc2 : Try.prog.cellsOf 31 = 2 := by kernel_rfl
  have hvc : v.cells.toList = [v] := by
    simp only [Value.okWide, Try.underlying22] at hv
    cases v <;> first | rfl | (simp [Cell.okWide, Cell.ok, Try.underlying22] at hv)
  rw [hvc] at h
  rcases Deep.open_slice Try.underlying22 h with ⟨h1, _⟩ | ⟨a, len, cap, m, n, D, Pl, h1, _, hlc, hcap, hm, _, hx⟩
  · injection h1 with h1 _
    exact ⟨[], none, 0, h1, by simp, fun h => absurd h (by simp)⟩
  · injection h1 with h1 _
    rw [hc2] at hx
    have hlm : len ≤ m := by rw [hm]; split <;> omega
    have hone : ∀ i, i < len → ∃ s : Pf, PfOk s ∧ w.cell? (a.add (i * 2)) = some (.int .u32 s.1) ∧ w.cell? (a.add (i * 2 + 1)) = some (.int .i64 s.2) := by
      intro i hi
      obtain ⟨cs', hcs, ht⟩ := hx i (by omega)
      obtain ⟨s, hs, rfl⟩ := pref_cells ht
      obtain ⟨_, _, hat⟩ := World.cells?_some hcs
      refine ⟨s, hs, ?_, ?_⟩
      · have := hat 0 (by decide); rw [Deep.add_add] at this; exact this
      · have := hat 1 (by decide); rw [Deep.add_add] at this; exact this
    obtain ⟨f, hf⟩ := Deep.choose_lt hone
    refine ⟨(List.range len).map f, some a, cap, by rw [h1]; simp, by simp; omega, fun h0 => ?_⟩
    have h0' : 0 < len := by simpa using h0
    have hsp : a.spot = none := by
      have hc := (hf 0 h0').2.1
      have e : a.add (0 * 2) = a := rfl
      rw [e] at hc
      unfold World.cell? at hc
      cases hq : a.spot with
      | none => rfl
      | some q => rw [hq] at hc; simp at hc; split at hc <;> simp at hc
    have had : ∀ k, a.add k = ⟨a.block, a.off + k, none⟩ := fun k => by
      unfold Addr.add
      split
      · rename_i hk; subst hk; cases a; simp at hsp; simp [hsp]
      · rfl
    refine ⟨a.block, a.off, by cases a; simp at hsp; simp [hsp], fun i s hi => ?_⟩
    have hil : i < len := by
      have := (List.getElem?_eq_some_iff.1 hi).1
      simpa using this
    rw [List.getElem?_map, List.getElem?_range hil] at hi
    simp at hi
    subst hi
    have := hf i hil
    simp only [had] at this
    simp only [Nat.add_assoc] at this ⊢
    exact this
end
end Go.Proofs.Ytnklhfdhaclfiaa
