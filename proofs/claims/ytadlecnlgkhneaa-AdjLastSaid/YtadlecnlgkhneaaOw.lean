/-
  What is known of memory by the blocks that it lies in; the rows of slices, cell by cell.
-/
import Derived.Test.YtadlecnlgkhneaaSo
import Derived.Test.YtadlecnlgkhneaaMapT
import Derived.LoopTactic
import Derived.OwnWalk
import Derived.Deep.DeepCutAuto
import Derived.LoopN
import Derived.Lib.SliceRun
namespace Go.Proofs.Ytadlecnlgkhneaa
open Go.RowKit

/-- it hangs on the blocks of F alone. -/
def On (F : Nat → Prop) (w : World) (Q : World → Prop) : Prop := ∀ W : World, (∀ k, F k → k < w.heap.size → W.heap[k]? = w.heap[k]?) → Q W
theorem On.self {F : Nat → Prop} {w : World} {Q : World → Prop} (h : On F w Q) : Q w := h w fun _ _ _ => rfl
theorem On.wide {F G : Nat → Prop} {w : World} {Q : World → Prop} (h : On F w Q) (hFG : ∀ k, F k → k < w.heap.size → G k) : On G w Q := fun W hW => h W fun k hk hl => hW k (hFG k hk hl) hl
theorem On.imp {F : Nat → Prop} {w : World} {Q R : World → Prop} (h : On F w Q) (hQ : ∀ W, Q W → R W) : On F w R := fun W hW => hQ W (h W hW)
theorem On.and {F : Nat → Prop} {w : World} {Q R : World → Prop} (h : On F w Q) (k : On F w R) : On F w fun W => Q W ∧ R W := fun W hW => ⟨h W hW, k W hW⟩
theorem On.kept {F G : Nat → Prop} {w w' : World} {Q : World → Prop} (h : On F w Q) (hk : Kept G w w') (hne : ∀ k, k < w.heap.size → F k → ¬ G k) : On F w' Q := fun W hW =>
  h W fun k hF hl => (hW k hF (Nat.lt_of_lt_of_le hl hk.size)).trans (hk.block k hl (hne k hl hF))
theorem On.below {F : Nat → Prop} {w w' : World} {Q : World → Prop} (h : On F w Q) (hb : Below w.heap.size w w') : On F w' Q := h.kept (G := fun _ => False) (Kept.of_below hb) (fun _ _ _ h => h)
theorem own_on {w : World} {B k n : Nat} {e : TypeId} {v : Value} {xs : List Value} (h : w.ownsRow B e k v n xs) : On (fun b => v.ownBlock = some b) w fun W => W.ownsRow B e k v n xs := by
  intro W hW
  obtain ⟨h1, h2⟩ := h
  refine ⟨h1, h2.imp_right ?_⟩
  rintro ⟨g, cap, cur, rfl, h4, h5, h6⟩
  exact ⟨g, cap, cur, rfl, h4, (hW g rfl (row_lt h5)).trans h5, h6⟩
/-- it lies in blocks from lo on. -/
abbrev Fresh (lo : Nat) (w : World) (Q : World → Prop) : Prop := On (fun k => lo ≤ k) w Q
theorem own_fresh {w : World} {B k n : Nat} {e : TypeId} {v : Value} {xs : List Value} (h : w.ownsRow B e k v n xs) : Fresh B w fun W => W.ownsRow B e k v n xs := (own_on h).wide fun b hb _ => own_form_le h b hb

section
variable {α : Type} {k : Nat}
theorem rows_len {rows : List (List Value)} (h : ∀ r ∈ rows, r.length = k) : rows.flatten.length = rows.length * k := by
  induction rows with
  | nil => simp
  | cons x xs ih => rw [List.flatten_cons, List.length_append, ih (fun r hr => h r (List.mem_cons_of_mem _ hr)), h x (List.mem_cons_self ..), List.length_cons, Nat.succ_mul]; omega
theorem rows_get : ∀ {rows : List (List Value)}, (∀ r ∈ rows, r.length = k) → ∀ (i : Nat) (r : List Value), rows[i]? = some r → ∀ j, j < k → rows.flatten[i * k + j]? = r[j]?
  | [], _, i, x, h, _, _ => by simp at h
  | y :: xs, hk, 0, x, h, j, hj => by
    simp at h; subst h
    rw [List.flatten_cons, Nat.zero_mul, Nat.zero_add, List.getElem?_append_left (by rw [hk y (List.mem_cons_self ..)]; exact hj)]
  | y :: xs, hk, i + 1, x, h, j, hj => by
    have ih := rows_get (rows := xs) (fun r hr => hk r (List.mem_cons_of_mem _ hr)) i x (by simpa using h) j hj
    have hy := hk y (List.mem_cons_self ..)
    rw [List.flatten_cons, List.getElem?_append_right (by rw [hy, Nat.succ_mul]; omega), hy, ← ih]
    congr 1
    rw [Nat.succ_mul]; omega
theorem rows_set {rows : List (List Value)} (h : ∀ r ∈ rows, r.length = k) {i : Nat} {r : List Value} (hr : rows[i]? = some r) {j : Nat} (hj : j < k) (u : Value) : (rows.set i (r.set j u)).flatten = rows.flatten.set (i * k + j) u := by
  induction rows generalizing i with
  | nil => simp at hr
  | cons x xs ih =>
    cases i with
    | zero =>
      simp at hr; subst hr
      have hx := h x (List.mem_cons_self ..)
      rw [List.set_cons_zero, List.flatten_cons, List.flatten_cons, Nat.zero_mul, Nat.zero_add, List.set_append_left _ _ (by omega)]
    | succ i =>
      have hx := h x (List.mem_cons_self ..)
      rw [List.set_cons_succ, List.flatten_cons, List.flatten_cons, ih (fun r hr => h r (List.mem_cons_of_mem _ hr)) (by simpa using hr), List.set_append_right _ _ (by rw [hx, Nat.succ_mul]; omega)]
      congr 2
      rw [hx, Nat.succ_mul]; omega
/-- the cells of a slice, all of them. -/
theorem slat_rows {w : World} {R : α → List Value → Prop} {v : Value} {xs : List α} (h : SlAt w k R v xs) : ∃ (sa : Option Addr) (cap : Nat) (rows : List (List Value)), v = .slice sa xs.length cap ∧ xs.length ≤ cap ∧ cap ≤ maxLen ∧ rows.length = xs.length ∧ (∀ r ∈ rows, r.length = k) ∧
    (∀ (i : Nat) (x : α), xs[i]? = some x → ∃ cs, rows[i]? = some cs ∧ R x cs) ∧ (0 < xs.length → ∃ b off, sa = some ⟨b, off, none⟩ ∧ ∀ q u, rows.flatten[q]? = some u → w.cell? ⟨b, off + q, none⟩ = some u) := by
  obtain ⟨sa, cap, h1, h2, h3, h4⟩ := h
  by_cases h0 : 0 < xs.length
  · obtain ⟨b, off, h5, h6⟩ := h4 h0
    have hone : ∀ i : Fin xs.length, ∃ cs : List Value, cs.length = k ∧ R xs[i] cs ∧ ∀ (j : Nat) (c : Value), cs[j]? = some c → w.cell? ⟨b, off + i * k + j, none⟩ = some c := fun i => h6 i.val _ (List.getElem?_eq_getElem i.isLt)
    obtain ⟨g, hg⟩ := Classical.axiomOfChoice hone
    have hk : ∀ r ∈ List.ofFn g, r.length = k := fun r hr => by
      obtain ⟨i, rfl⟩ := List.mem_ofFn.1 hr
      exact (hg i).1
    refine ⟨sa, cap, List.ofFn g, h1, h2, h3, by simp, hk, fun i x hx => ?_, fun _ => ⟨b, off, h5, fun q u hq => ?_⟩⟩
    · obtain ⟨hi, rfl⟩ := List.getElem?_eq_some_iff.1 hx
      exact ⟨g ⟨i, hi⟩, by rw [List.getElem?_ofFn]; simp [hi], (hg ⟨i, hi⟩).2.1⟩
    · by_cases hk0 : 0 < k
      · have hql := (List.getElem?_eq_some_iff.1 hq).1
        rw [rows_len hk, List.length_ofFn] at hql
        have hi : q / k < xs.length := Nat.div_lt_of_lt_mul (by rw [Nat.mul_comm]; exact hql)
        have hj := Nat.mod_lt q hk0
        have e : q = q / k * k + q % k := by rw [Nat.mul_comm]; exact (Nat.div_add_mod q k).symm
        have hget : (List.ofFn g)[q / k]? = some (g ⟨q / k, hi⟩) := by rw [List.getElem?_ofFn]; simp [hi]
        have := rows_get hk (q / k) _ hget (q % k) hj
        rw [← e, hq] at this
        have := (hg ⟨q / k, hi⟩).2.2 (q % k) u this.symm
        simp only at this
        rw [Nat.add_assoc, ← e] at this
        exact this
      · have hql := (List.getElem?_eq_some_iff.1 hq).1
        rw [rows_len hk] at hql
        have : k = 0 := by omega
        subst this
        simp at hql
  · have : xs = [] := List.length_eq_zero_iff.1 (by omega)
    subst this
    exact ⟨sa, cap, [], h1, h2, h3, rfl, fun r hr => by simp at hr, fun i x hx => by simp at hx, fun h => absurd h h0⟩
/-- a row of the call's own, element by element. -/
theorem own_rows {w : World} {B : Nat} {e : TypeId} {v : Value} {xs : List α} {rows : List (List Value)} {R : α → List Value → Prop} (h : w.ownsRow B e k v xs.length rows.flatten) (hk : ∀ r ∈ rows, r.length = k)
    (hR : ∀ (i : Nat) (x : α), xs[i]? = some x → ∃ cs, rows[i]? = some cs ∧ R x cs) : SlAt w k R v xs := by
  obtain ⟨_, ⟨rfl, h0⟩ | ⟨g, cap, cur, rfl, _, hg, hn, hm, _, hcur⟩⟩ := h
  · obtain rfl := List.length_eq_zero_iff.1 h0
    exact SlAt.nil
  · refine ⟨some ⟨g, 0, none⟩, cap, rfl, hn, hm, fun _ => ⟨g, 0, rfl, fun i x hx => ?_⟩⟩
    obtain ⟨cs, hcs, hr⟩ := hR i x hx
    have hl := hk cs (List.mem_of_getElem? hcs)
    refine ⟨cs, hl, hr, fun j c hc => ?_⟩
    have hj : j < k := by rw [← hl]; exact (List.getElem?_eq_some_iff.1 hc).1
    have hi : i < xs.length := (List.getElem?_eq_some_iff.1 hx).1
    have hf := rows_get hk i cs hcs j hj
    rw [← hcur, hc, List.getElem?_take_of_lt (by
      have : (i + 1) * k ≤ xs.length * k := Nat.mul_le_mul_right _ hi
      rw [Nat.succ_mul] at this; omega)] at hf
    rw [row_cell hg, Nat.zero_add]
    simpa using hf
/-- a cell of a row of the call's own is stored. -/
theorem own_set {w : World} {B n : Nat} {e : TypeId} {v : Value} {xs : List Value} {g c : Nat} (h : w.ownsRow B e k v n xs) (hv : v = .slice (some ⟨g, 0, none⟩) n c) (j : Nat) (u : Value) :
    (w.setCell ⟨g, j, none⟩ u).ownsRow B e k v n (xs.set j u) := by
  obtain ⟨h1, ⟨rfl, _⟩ | ⟨g', cap, cur, rfl, hB, hg, hn, hm, hsz, hcur⟩⟩ := h
  · cases hv
  · injection hv with hv _ _
    injection hv with hv
    injection hv with hv
    subst hv
    refine ⟨by simp [h1], .inr ⟨_, cap, cur.setIfInBounds j u, rfl, hB, set_same hg j u, hn, hm, by simp [hsz], ?_⟩⟩
    rw [← hcur, Array.toList_setIfInBounds, List.take_set]
theorem own_row_cell {w : World} {B n : Nat} {e : TypeId} {v : Value} {xs : List Value} {g c : Nat} (h : w.ownsRow B e k v n xs) (hv : v = .slice (some ⟨g, 0, none⟩) n c) {j : Nat} {u : Value} (hj : xs[j]? = some u) :
    w.cell? ⟨g, j, none⟩ = some u ∧ w.frozen? ⟨g, j, none⟩ = false ∧ B ≤ g ∧ g < w.heap.size := by
  obtain ⟨h1, ⟨rfl, _⟩ | ⟨g', cap, cur, rfl, hB, hg, hn, hm, hsz, hcur⟩⟩ := h
  · cases hv
  · injection hv with hv _ _
    injection hv with hv
    injection hv with hv
    subst hv
    refine ⟨?_, row_free hg j, hB, row_lt hg⟩
    have hl := (List.getElem?_eq_some_iff.1 hj).1
    rw [h1] at hl
    rw [← hcur, List.getElem?_take_of_lt hl] at hj
    rw [row_cell hg]
    simpa using hj
theorem own_slice {w : World} {B n : Nat} {e : TypeId} {v : Value} {xs : List Value} (h : w.ownsRow B e k v n xs) : (v = .slice none 0 0 ∧ n = 0) ∨ ∃ g c, v = .slice (some ⟨g, 0, none⟩) n c := by
  obtain ⟨_, h | ⟨g, cap, cur, rfl, _⟩⟩ := h
  · exact .inl h
  · exact .inr ⟨g, cap, rfl⟩
end
end Go.Proofs.Ytadlecnlgkhneaa
