/-
  SLICES OF WHATEVER: what a slice holds, element by element: 'k' cells each, 'R' says what an element's cells are; slices that a caller hands in, opened.
-/
import Derived.Test.YtadlecnlgkhneaaFrame
import Derived.Test.YtadlecnlgkhneaaRg
import Derived.Test.YtadlecnlgkhneaaRow
import Derived.Deep.Slices
namespace Go.Proofs.Ytadlecnlgkhneaa
open Go.RowKit Go.ChangeShapes Go.WideShapes

def SlAt {α : Type} (w : World) (k : Nat) (R : α → List Value → Prop) (v : Value) (xs : List α) : Prop :=
  ∃ (sa : Option Addr) (cap : Nat), v = .slice sa xs.length cap ∧ xs.length ≤ cap ∧ cap ≤ maxLen ∧ (0 < xs.length → ∃ b off : Nat, sa = some ⟨b, off, none⟩ ∧
    ∀ (i : Nat) (x : α), xs[i]? = some x → ∃ cs : List Value, cs.length = k ∧ R x cs ∧ ∀ (j : Nat) (c : Value), cs[j]? = some c → w.cell? ⟨b, off + i * k + j, none⟩ = some c)
theorem SlAt.below {α : Type} {w w' : World} {k : Nat} {R R' : α → List Value → Prop} {v : Value} {xs : List α} (h : SlAt w k R v xs) (hb : Below w.heap.size w w') (hR : ∀ x cs, R x cs → R' x cs) : SlAt w' k R' v xs := by
  obtain ⟨sa, cap, h1, h2, h3, h4⟩ := h
  refine ⟨sa, cap, h1, h2, h3, fun h0 => ?_⟩
  obtain ⟨b, off, h5, h6⟩ := h4 h0
  refine ⟨b, off, h5, fun i x hx => ?_⟩
  obtain ⟨cs, c1, c2, c3⟩ := h6 i x hx
  exact ⟨cs, c1, hR _ _ c2, fun j c hc => cell_below (c3 j c hc) hb⟩
theorem SlAt.nil {α : Type} {w : World} {k : Nat} {R : α → List Value → Prop} : SlAt w k R (.slice none 0 0) ([] : List α) := ⟨none, 0, rfl, Nat.le_refl _, by simp [maxLen], fun h => absurd h (by simp)⟩
theorem SlAt.imp {α : Type} {w : World} {k : Nat} {R R' : α → List Value → Prop} {v : Value} {xs : List α} (h : SlAt w k R v xs) (hR : ∀ x cs, x ∈ xs → R x cs → R' x cs) : SlAt w k R' v xs := by
  obtain ⟨sa, cap, h1, h2, h3, h4⟩ := h
  refine ⟨sa, cap, h1, h2, h3, fun h0 => ?_⟩
  obtain ⟨b, off, h5, h6⟩ := h4 h0
  refine ⟨b, off, h5, fun i x hx => ?_⟩
  obtain ⟨cs, c1, c2, c3⟩ := h6 i x hx
  exact ⟨cs, c1, hR _ _ (List.mem_of_getElem? hx) c2, c3⟩

section
variable {H : Type} {enc : TypeId × Value → H} {w : World} {base : Nat} {spare : Nat → Bool} {held : Bool}
theorem open_sl {α : Type} {t e : TypeId} {k f : Nat} {R : α → List Value → Prop} {cs : List Value} {x : DataW H × List MemPlace} (ht : Try.prog.underlying t = some (.slice e)) (hk : Try.prog.cellsOf e = k) (hk0 : 0 < k)
    (hR : ∀ f cs y, DataW.trod enc Try.prog w base spare held f e cs = some y → ∃ a : α, R a cs) (h : DataW.trod enc Try.prog w base spare held f t cs = some x) : ∃ v xs, cs = [v] ∧ SlAt w k R v xs := by
  rcases Deep.open_slice ht h with ⟨h1, _⟩ | ⟨a, len, cap, m, n, D, Pl, h1, _, hlc, hcap, hm, _, hx⟩
  · exact ⟨_, [], h1, SlAt.nil⟩
  · rw [hk] at hx
    have hlm : len ≤ m := by rw [hm]; split <;> omega
    have hone : ∀ i : Fin len, ∃ z : α × List Value, z.2.length = k ∧ R z.1 z.2 ∧ ∀ j c, z.2[j]? = some c → w.cell? (a.add (i.val * k + j)) = some c := by
      intro i
      obtain ⟨cs', hcs, ht⟩ := hx i.val (by omega)
      obtain ⟨y, hy⟩ := hR _ _ _ ht
      obtain ⟨_, hl, hat⟩ := World.cells?_some hcs
      refine ⟨(y, cs'), hl, hy, fun j c hc => ?_⟩
      have hj : j < k := by rw [← hl]; exact (List.getElem?_eq_some_iff.1 hc).1
      have := hat j hj
      rw [Deep.add_add] at this
      rw [this]; exact hc
    have hch := Classical.axiomOfChoice hone
    obtain ⟨g, hg⟩ := hch
    refine ⟨_, List.ofFn fun i => (g i).1, h1, some a, cap, by simp, by simp; omega, hcap, fun h0 => ?_⟩
    have h0' : 0 < len := by simpa using h0
    have hsp : a.spot = none := by
      obtain ⟨e1, _, e3⟩ := hg ⟨0, h0'⟩
      have hlt : 0 < (g ⟨0, h0'⟩).2.length := by rw [e1]; exact hk0
      have hc := e3 0 _ (List.getElem?_eq_getElem hlt)
      have e : a.add (0 * k + 0) = a := by unfold Addr.add; simp
      simp only at hc
      rw [e] at hc
      unfold World.cell? at hc
      cases hq : a.spot with
      | none => rfl
      | some q => rw [hq] at hc; simp at hc; split at hc <;> simp at hc
    have had : ∀ k, a.add k = ⟨a.block, a.off + k, none⟩ := fun k => by
      unfold Addr.add
      split
      · rename_i hk; subst hk; cases a; simp at hsp; simp [hsp]
      · rfl
    refine ⟨a.block, a.off, by cases a; simp at hsp; simp [hsp], fun i s hi => ?_⟩
    have hil : i < len := by
      have := (List.getElem?_eq_some_iff.1 hi).1
      simpa using this
    rw [List.getElem?_ofFn] at hi
    simp [hil] at hi
    subst hi
    obtain ⟨e1, e2, e3⟩ := hg ⟨i, hil⟩
    refine ⟨_, e1, e2, fun j c hc => ?_⟩
    have := e3 j c hc
    rw [had, ← Nat.add_assoc] at this
    exact this
def I64r (n : Int) : Prop := -9223372036854775808 ≤ n ∧ n ≤ 9223372036854775807
def IntC (n : Int) (cs : List Value) : Prop := cs = [.int .i64 n] ∧ I64r n
theorem sl_i64 {f : Nat} {c : List Value} {y : DataW H × List MemPlace} (h : DataW.trod enc Try.prog w base spare held f 3 c = some y) : ∃ n : Int, IntC n c := by
  obtain ⟨n, h1, _, h2⟩ := DataW.trod_int Try.underlying3 h
  refine ⟨n, h1, ?_⟩
  simp [Lit.wf, IntKind.min, IntKind.max, IntKind.bits, IntKind.signed] at h2
  unfold I64r; omega
end
/-- integers in memory. -/
abbrev IntsAt (w : World) (v : Value) (xs : List Int) : Prop := SlAt w 1 IntC v xs
theorem IntsAt.below {w w' : World} {v : Value} {xs : List Int} (h : IntsAt w v xs) (hb : Below w.heap.size w w') : IntsAt w' v xs := SlAt.below h hb fun _ _ h => h
end Go.Proofs.Ytadlecnlgkhneaa
