/- Texts of one proof, one behind another. -/
import Derived.Test.YtadlecnlgkhneaaRu1
import Derived.Deep.Slices
import Derived.OwnWalk
import Derived.Maps.AppendAt
import Derived.Deep.MidRow
import Derived.Lib.SlBuf
import Derived.LoopTactic
import Derived.Deep.DeepCutAuto
import Derived.LoopN
import Derived.Deep.Heap
import Derived.StillTailTactics
/-
  SLICES OF WHATEVER: what a slice holds, element by element: 'k' cells each, 'R' says what an element's cells are; slices that a caller hands in, opened.
-/
namespace Go.Proofs.Ytadlecnlgkhneaa
open Go.RowKit Go.ChangeShapes Go.WideShapes

def SlAt {α : Type} (w : World) (k : Nat) (R : α → List Value → Prop) (v : Value) (xs : List α) : Prop :=
  ∃ (sa : Option Addr) (cap : Nat), v = .slice sa xs.length cap ∧ xs.length ≤ cap ∧ cap ≤ maxLen ∧ (0 < xs.length → ∃ b off : Nat, sa = some ⟨b, off, none⟩ ∧
    ∀ (i : Nat) (x : α), xs[i]? = some x → ∃ cs : List Value, cs.length = k ∧ R x cs ∧ ∀ (j : Nat) (c : Value), cs[j]? = some c → w.cell? ⟨b, off + i * k + j, none⟩ = some c)
theorem SlAt.below {α : Type} {w w' : World} {k : Nat} {R R' : α → List Value → Prop} {v : Value} {xs : List α} (h : SlAt w k R v xs) (hb : Below w.heap.size w w') (hR : ∀ x cs, R x cs → R' x cs) : SlAt w' k R' v xs := by
  obtain ⟨sa, cap, h1, h2, h3, h4⟩ := h
  refine ⟨sa, cap, h1, h2, h3, fun h0 => ?_⟩
  obtain ⟨b, off, h5, h6⟩ := h4 h0
  refine ⟨b, off, h5, fun i x hx => ?_⟩
  obtain ⟨cs, c1, c2, c3⟩ := h6 i x hx
  exact ⟨cs, c1, hR _ _ c2, fun j c hc => cell_below (c3 j c hc) hb⟩
theorem SlAt.nil {α : Type} {w : World} {k : Nat} {R : α → List Value → Prop} : SlAt w k R (.slice none 0 0) ([] : List α) := ⟨none, 0, rfl, Nat.le_refl _, by simp [maxLen], fun h => absurd h (by simp)⟩
theorem SlAt.imp {α : Type} {w : World} {k : Nat} {R R' : α → List Value → Prop} {v : Value} {xs : List α} (h : SlAt w k R v xs) (hR : ∀ x cs, x ∈ xs → R x cs → R' x cs) : SlAt w k R' v xs := by
  obtain ⟨sa, cap, h1, h2, h3, h4⟩ := h
  refine ⟨sa, cap, h1, h2, h3, fun h0 => ?_⟩
  obtain ⟨b, off, h5, h6⟩ := h4 h0
  refine ⟨b, off, h5, fun i x hx => ?_⟩
  obtain ⟨cs, c1, c2, c3⟩ := h6 i x hx
  exact ⟨cs, c1, hR _ _ (List.mem_of_getElem? hx) c2, c3⟩

section
variable {H : Type} {enc : TypeId × Value → H} {w : World} {base : Nat} {spare : Nat → Bool} {held : Bool}
theorem open_sl {α : Type} {t e : TypeId} {k f : Nat} {R : α → List Value → Prop} {cs : List Value} {x : DataW H × List MemPlace} (ht : Try.prog.underlying t = some (.slice e)) (hk : Try.prog.cellsOf e = k) (hk0 : 0 < k)
    (hR : ∀ f cs y, DataW.trod enc Try.prog w base spare held f e cs = some y → ∃ a : α, R a cs) (h : DataW.trod enc Try.prog w base spare held f t cs = some x) : ∃ v xs, cs = [v] ∧ SlAt w k R v xs := by
  rcases Deep.open_slice ht h with ⟨h1, _⟩ | ⟨a, len, cap, m, n, D, Pl, h1, _, hlc, hcap, hm, _, hx⟩
  · exact ⟨_, [], h1, SlAt.nil⟩
  · rw [hk] at hx
    have hlm : len ≤ m := by rw [hm]; split <;> omega
    have hone : ∀ i : Fin len, ∃ z : α × List Value, z.2.length = k ∧ R z.1 z.2 ∧ ∀ j c, z.2[j]? = some c → w.cell? (a.add (i.val * k + j)) = some c := by
      intro i
      obtain ⟨cs', hcs, ht⟩ := hx i.val (by omega)
      obtain ⟨y, hy⟩ := hR _ _ _ ht
      obtain ⟨_, hl, hat⟩ := World.cells?_some hcs
      refine ⟨(y, cs'), hl, hy, fun j c hc => ?_⟩
      have hj : j < k := by rw [← hl]; exact (List.getElem?_eq_some_iff.1 hc).1
      have := hat j hj
      rw [Deep.add_add] at this
      rw [this]; exact hc
    have hch := Classical.axiomOfChoice hone
    obtain ⟨g, hg⟩ := hch
    refine ⟨_, List.ofFn fun i => (g i).1, h1, some a, cap, by simp, by simp; omega, hcap, fun h0 => ?_⟩
    have h0' : 0 < len := by simpa using h0
    have hsp : a.spot = none := by
      obtain ⟨e1, _, e3⟩ := hg ⟨0, h0'⟩
      have hlt : 0 < (g ⟨0, h0'⟩).2.length := by rw [e1]; exact hk0
      have hc := e3 0 _ (List.getElem?_eq_getElem hlt)
      have e : a.add (0 * k + 0) = a := by unfold Addr.add; simp
      simp only at hc
      rw [e] at hc
      unfold World.cell? at hc
      cases hq : a.spot with
      | none => rfl
      | some q => rw [hq] at hc; simp at hc; split at hc <;> simp at hc
    have had : ∀ k, a.add k = ⟨a.block, a.off + k, none⟩ := fun k => by
      unfold Addr.add
      split
      · rename_i hk; subst hk; cases a; simp at hsp; simp [hsp]
      · rfl
    refine ⟨a.block, a.off, by cases a; simp at hsp; simp [hsp], fun i s hi => ?_⟩
    have hil : i < len := by
      have := (List.getElem?_eq_some_iff.1 hi).1
      simpa using this
    rw [List.getElem?_ofFn] at hi
    simp [hil] at hi
    subst hi
    obtain ⟨e1, e2, e3⟩ := hg ⟨i, hil⟩
    refine ⟨_, e1, e2, fun j c hc => ?_⟩
    have := e3 j c hc
    rw [had, ← Nat.add_assoc] at this
    exact this
def I64r (n : Int) : Prop := -9223372036854775808 ≤ n ∧ n ≤ 9223372036854775807
def IntC (n : Int) (cs : List Value) : Prop := cs = [.int .i64 n] ∧ I64r n
theorem sl_i64 {f : Nat} {c : List Value} {y : DataW H × List MemPlace} (h : DataW.trod enc Try.prog w base spare held f 3 c = some y) : ∃ n : Int, IntC n c := by
  obtain ⟨n, h1, _, h2⟩ := DataW.trod_int Try.underlying3 h
  refine ⟨n, h1, ?_⟩
  simp [Lit.wf, IntKind.min, IntKind.max, IntKind.bits, IntKind.signed] at h2
  unfold I64r; omega
end
/-- integers in memory. -/
abbrev IntsAt (w : World) (v : Value) (xs : List Int) : Prop := SlAt w 1 IntC v xs
theorem IntsAt.below {w w' : World} {v : Value} {xs : List Int} (h : IntsAt w v xs) (hb : Below w.heap.size w w') : IntsAt w' v xs := SlAt.below h hb fun _ _ h => h
end Go.Proofs.Ytadlecnlgkhneaa

/-
  ATTRIBUTES: what they hold, in memory; attributes that a caller hands in, opened.
-/
namespace Go.Proofs.Ytadlecnlgkhneaa
open Go.RowKit Go.ChangeShapes Go.WideShapes

abbrev Sg := Bool × List Int
abbrev Oth := Int × List Nat
structure At where
  has : Int
  origin : Int
  path : List Sg
  hop : Nat
  med : Int
  loc : Int
  aggrAs : Int
  aggrId : Nat
  comms : List Int
  others : List Oth
def ByteC (n : Nat) (cs : List Value) : Prop := cs = [.int .u8 n] ∧ n < 256
abbrev BytesAt (w : World) (v : Value) (xs : List Nat) : Prop := SlAt w 1 ByteC v xs
def SegC (w : World) (s : Sg) (cs : List Value) : Prop := ∃ u, cs = [.bool s.1, u] ∧ IntsAt w u s.2
def OthC (w : World) (o : Oth) (cs : List Value) : Prop := ∃ u, cs = [.int .i64 o.1, u] ∧ I64r o.1 ∧ BytesAt w u o.2
abbrev PathAt (w : World) (v : Value) (p : List Sg) : Prop := SlAt w 2 (SegC w) v p
abbrev OthersAt (w : World) (v : Value) (os : List Oth) : Prop := SlAt w 2 (OthC w) v os
theorem BytesAt.below {w w' : World} {v : Value} {xs : List Nat} (h : BytesAt w v xs) (hb : Below w.heap.size w w') : BytesAt w' v xs := SlAt.below h hb fun _ _ h => h
theorem SegC.below {w w' : World} {s : Sg} {cs : List Value} (h : SegC w s cs) (hb : Below w.heap.size w w') : SegC w' s cs := by
  obtain ⟨u, h1, h2⟩ := h; exact ⟨u, h1, h2.below hb⟩
theorem OthC.below {w w' : World} {s : Oth} {cs : List Value} (h : OthC w s cs) (hb : Below w.heap.size w w') : OthC w' s cs := by
  obtain ⟨u, h1, h2, h3⟩ := h; exact ⟨u, h1, h2, h3.below hb⟩
theorem PathAt.below {w w' : World} {v : Value} {p : List Sg} (h : PathAt w v p) (hb : Below w.heap.size w w') : PathAt w' v p := SlAt.below h hb fun _ _ h => h.below hb
theorem OthersAt.below {w w' : World} {v : Value} {p : List Oth} (h : OthersAt w v p) (hb : Below w.heap.size w w') : OthersAt w' v p := SlAt.below h hb fun _ _ h => h.below hb
/-- the values of attributes: three of them are slices. -/
def atV (a : At) (vp vc vo : Value) : List Value := [.int .i64 a.has, .int .i64 a.origin, vp, .int .u32 a.hop, .int .i64 a.med, .int .i64 a.loc, .int .i64 a.aggrAs, .int .u32 a.aggrId, vc, vo]
def At.Rng (a : At) : Prop := I64r a.has ∧ I64r a.origin ∧ a.hop < 4294967296 ∧ I64r a.med ∧ I64r a.loc ∧ I64r a.aggrAs ∧ a.aggrId < 4294967296
def AtL (w : World) (a : At) (vp vc vo : Value) : Prop := PathAt w vp a.path ∧ IntsAt w vc a.comms ∧ OthersAt w vo a.others
theorem AtL.below {w w' : World} {a : At} {vp vc vo : Value} (h : AtL w a vp vc vo) (hb : Below w.heap.size w w') : AtL w' a vp vc vo := ⟨h.1.below hb, h.2.1.below hb, h.2.2.below hb⟩
def AtC (w : World) (a : At) (cs : List Value) : Prop := ∃ vp vc vo, cs = atV a vp vc vo ∧ a.Rng ∧ AtL w a vp vc vo
theorem AtC.below {w w' : World} {a : At} {cs : List Value} (h : AtC w a cs) (hb : Below w.heap.size w w') : AtC w' a cs := by
  obtain ⟨vp, vc, vo, h1, h2, h3⟩ := h; exact ⟨vp, vc, vo, h1, h2, h3.below hb⟩
section
variable {H : Type} {enc : TypeId × Value → H} {w : World} {base : Nat} {spare : Nat → Bool} {held : Bool}
theorem sl_u32 {f : Nat} {c : List Value} {y : DataW H × List MemPlace} (h : DataW.trod enc Try.prog w base spare held f 27 c = some y) : ∃ n : Nat, c = [.int .u32 n] ∧ n < 4294967296 := by
  obtain ⟨n, h1, _, h2⟩ := DataW.trod_int Try.underlying27 h
  simp [Lit.wf, IntKind.min, IntKind.max, IntKind.bits, IntKind.signed] at h2
  obtain ⟨m, rfl⟩ := Int.eq_ofNat_of_zero_le (show 0 ≤ n by omega)
  exact ⟨m, h1, by omega⟩
theorem sl_u8 {f : Nat} {c : List Value} {y : DataW H × List MemPlace} (h : DataW.trod enc Try.prog w base spare held f 5 c = some y) : ∃ n : Nat, ByteC n c := by
  obtain ⟨n, h1, _, h2⟩ := DataW.trod_int Try.underlying5 h
  simp [Lit.wf, IntKind.min, IntKind.max, IntKind.bits, IntKind.signed] at h2
  obtain ⟨m, rfl⟩ := Int.eq_ofNat_of_zero_le (show 0 ≤ n by omega)
  exact ⟨m, h1, by omega⟩
theorem sl_ints {f : Nat} {c : List Value} {y : DataW H × List MemPlace} (h : DataW.trod enc Try.prog w base spare held f 32 c = some y) : ∃ v xs, c = [v] ∧ IntsAt w v xs :=
  open_sl Try.underlying32 (by kernel_rfl) (by decide) (fun _ _ _ h => sl_i64 h) h
theorem sl_bytes {f : Nat} {c : List Value} {y : DataW H × List MemPlace} (h : DataW.trod enc Try.prog w base spare held f 95 c = some y) : ∃ v xs, c = [v] ∧ BytesAt w v xs :=
  open_sl Try.underlying95 (by kernel_rfl) (by decide) (fun _ _ _ h => sl_u8 h) h
set_option maxRecDepth 100000 in
theorem sl_seg {f : Nat} {cs : List Value} {x : DataW H × List MemPlace} (h : DataW.trod enc Try.prog w base spare held f 54 cs = some x) : ∃ s : Sg, SegC w s cs := by
  obtain ⟨xs, n, _, _, hl, hxl, hf⟩ := DataW.trod_struct Try.underlying54 h
  have hc2 : Try.prog.cellsOf 54 = 2 := by kernel_rfl
  have hcb : Try.prog.cellsOf 4 = 1 := by kernel_rfl
  have hci : Try.prog.cellsOf 32 = 1 := by kernel_rfl
  rw [hc2] at hl
  match cs, hl with
  | [c0, c1], _ =>
    match xs, hxl with
    | [x0, x1], _ =>
      have e0 := hf 0 _ rfl
      have e1 := hf 1 _ rfl
      simp [hcb, hci] at e0 e1
      obtain ⟨s, hs, _⟩ := DataW.trod_bool Try.underlying4 e0
      obtain ⟨v, l, hv, hi⟩ := sl_ints e1
      simp at hs hv
      subst hs; subst hv
      exact ⟨(s, l), c1, rfl, hi⟩
set_option maxRecDepth 100000 in
theorem sl_other {f : Nat} {cs : List Value} {x : DataW H × List MemPlace} (h : DataW.trod enc Try.prog w base spare held f 97 cs = some x) : ∃ s : Oth, OthC w s cs := by
  obtain ⟨xs, n, _, _, hl, hxl, hf⟩ := DataW.trod_struct Try.underlying97 h
  have hc2 : Try.prog.cellsOf 97 = 2 := by kernel_rfl
  have hcb : Try.prog.cellsOf 3 = 1 := by kernel_rfl
  have hci : Try.prog.cellsOf 95 = 1 := by kernel_rfl
  rw [hc2] at hl
  match cs, hl with
  | [c0, c1], _ =>
    match xs, hxl with
    | [x0, x1], _ =>
      have e0 := hf 0 _ rfl
      have e1 := hf 1 _ rfl
      simp [hcb, hci] at e0 e1
      obtain ⟨s, hs, ir⟩ := sl_i64 e0
      obtain ⟨v, l, hv, hi⟩ := sl_bytes e1
      simp at hs hv
      subst hs; subst hv
      exact ⟨(s, l), c1, rfl, ir, hi⟩
set_option maxRecDepth 100000 in
theorem sl_attrs {f : Nat} {cs : List Value} {x : DataW H × List MemPlace} (h : DataW.trod enc Try.prog w base spare held f 35 cs = some x) : ∃ a : At, AtC w a cs := by
  obtain ⟨xs, n, _, _, hl, hxl, hf⟩ := DataW.trod_struct Try.underlying35 h
  have hc : Try.prog.cellsOf 35 = 10 := by kernel_rfl
  have hc0 : Try.prog.cellsOf 3 = 1 := by kernel_rfl
  have hc1 : Try.prog.cellsOf 31 = 1 := by kernel_rfl
  have hc2 : Try.prog.cellsOf 27 = 1 := by kernel_rfl
  have hc3 : Try.prog.cellsOf 32 = 1 := by kernel_rfl
  have hc4 : Try.prog.cellsOf 33 = 1 := by kernel_rfl
  rw [hc] at hl
  match cs, hl with
  | [c0, c1, c2, c3, c4, c5, c6, c7, c8, c9], _ =>
    match xs, hxl with
    | [x0, x1, x2, x3, x4, x5, x6, x7, x8, x9], _ =>
      have e0 := hf 0 _ rfl
      have e1 := hf 1 _ rfl
      have e2 := hf 2 _ rfl
      have e3 := hf 3 _ rfl
      have e4 := hf 4 _ rfl
      have e5 := hf 5 _ rfl
      have e6 := hf 6 _ rfl
      have e7 := hf 7 _ rfl
      have e8 := hf 8 _ rfl
      have e9 := hf 9 _ rfl
      simp [hc0, hc1, hc2, hc3, hc4] at e0 e1 e2 e3 e4 e5 e6 e7 e8 e9
      obtain ⟨has, q0, i0⟩ := sl_i64 e0
      obtain ⟨origin, q1, i1⟩ := sl_i64 e1
      obtain ⟨vp, path, q2, i2⟩ := open_sl (k := 2) (R := SegC w) Try.underlying31 (by kernel_rfl) (by decide) (fun _ _ _ h => sl_seg h) e2
      obtain ⟨hop, q3, i3⟩ := sl_u32 e3
      obtain ⟨med, q4, i4⟩ := sl_i64 e4
      obtain ⟨loc, q5, i5⟩ := sl_i64 e5
      obtain ⟨aggrAs, q6, i6⟩ := sl_i64 e6
      obtain ⟨aggrId, q7, i7⟩ := sl_u32 e7
      obtain ⟨vc, comms, q8, i8⟩ := sl_ints e8
      obtain ⟨vo, others, q9, i9⟩ := open_sl (k := 2) (R := OthC w) Try.underlying33 (by kernel_rfl) (by decide) (fun _ _ _ h => sl_other h) e9
      simp at q0 q1 q2 q3 q4 q5 q6 q7 q8 q9
      subst q0; subst q1; subst q2; subst q3; subst q4; subst q5; subst q6; subst q7; subst q8; subst q9
      exact ⟨⟨has, origin, path, hop, med, loc, aggrAs, aggrId, comms, others⟩, c2, c8, c9, rfl, ⟨i0, i1, i3, i4, i5, i6, i7⟩, i2, i8, i9⟩
end
end Go.Proofs.Ytadlecnlgkhneaa

/-
  SLICES OF THE CALL'S OWN, element by element: made by append; made at once and filled.
-/
namespace Go.Proofs.Ytadlecnlgkhneaa
open Go.RowKit

section
variable {α : Type} {k : Nat} {C : α → List Value}
theorem flat_len (hC : ∀ x, (C x).length = k) (xs : List α) : (xs.flatMap C).length = xs.length * k := by
  induction xs with
  | nil => simp
  | cons x xs ih => rw [List.flatMap_cons, List.length_append, ih, hC, List.length_cons, Nat.succ_mul]; omega
theorem flat_get (hC : ∀ x, (C x).length = k) : ∀ (xs : List α) (i : Nat) (x : α), xs[i]? = some x → ∀ j, j < k → (xs.flatMap C)[i * k + j]? = (C x)[j]?
  | [], i, x, h, _, _ => by simp at h
  | y :: xs, 0, x, h, j, hj => by
    simp at h; subst h
    rw [List.flatMap_cons, Nat.zero_mul, Nat.zero_add, List.getElem?_append_left (by rw [hC]; exact hj)]
  | y :: xs, i + 1, x, h, j, hj => by
    have ih := flat_get hC xs i x (by simpa using h) j hj
    rw [List.flatMap_cons, List.getElem?_append_right (by rw [hC, Nat.succ_mul]; omega), hC, ← ih]
    congr 1
    rw [Nat.succ_mul]; omega
theorem own_slat {w : World} {B : Nat} {e : TypeId} {v : Value} {xs : List α} (hC : ∀ x, (C x).length = k) (h : w.ownsRow B e k v xs.length (xs.flatMap C)) : SlAt w k (fun x cs => cs = C x) v xs := by
  obtain ⟨_, ⟨rfl, h0⟩ | ⟨g, cap, cur, rfl, _, hg, hn, hm, _, hcur⟩⟩ := h
  · obtain rfl := List.length_eq_zero_iff.1 h0
    exact SlAt.nil
  · refine ⟨some ⟨g, 0, none⟩, cap, rfl, hn, hm, fun _ => ⟨g, 0, rfl, fun i x hx => ⟨C x, hC x, rfl, fun j c hc => ?_⟩⟩⟩
    have hj : j < k := by rw [← hC x]; exact (List.getElem?_eq_some_iff.1 hc).1
    have hi : i < xs.length := (List.getElem?_eq_some_iff.1 hx).1
    have hf := flat_get hC xs i x hx j hj
    rw [← hcur, hc, List.getElem?_take_of_lt (by
      have : (i + 1) * k ≤ xs.length * k := Nat.mul_le_mul_right _ hi
      rw [Nat.succ_mul] at this; omega)] at hf
    rw [row_cell hg, Nat.zero_add]
    simpa using hf
theorem own_below {w w' : World} {B : Nat} {e : TypeId} {n : Nat} {v : Value} {xs : List Value} (h : w.ownsRow B e k v n xs) (hb : Below w.heap.size w w') : w'.ownsRow B e k v n xs := by
  obtain ⟨h1, h2⟩ := h
  refine ⟨h1, h2.imp_right ?_⟩
  rintro ⟨g, cap, cur, h3, h4, h5, h6⟩
  exact ⟨g, cap, cur, h3, h4, (hb.block g (row_lt h5)).trans h5, h6⟩
theorem own_form_le {w : World} {B : Nat} {e : TypeId} {n : Nat} {v : Value} {xs : List Value} (h : w.ownsRow B e k v n xs) : ∀ g, v.ownBlock = some g → B ≤ g := by
  obtain ⟨_, ⟨rfl, _⟩ | ⟨g, cap, cur, rfl, hB, _⟩⟩ := h
  · intro g hg; cases hg
  · intro g' hg; cases hg; exact hB
theorem flat_snoc (xs : List α) (x : α) : (xs ++ [x]).flatMap C = xs.flatMap C ++ C x := by simp
theorem flat_one (h : ∀ x, ∀ u ∈ C x, u.oneCell' = true) (xs : List α) : ∀ u ∈ xs.flatMap C, u.oneCell' = true := by
  intro u hu
  obtain ⟨x, _, hx⟩ := List.mem_flatMap.1 hu
  exact h x u hx
/-- the first elements of a row that is being filled. -/
def Filled (w : World) (b k : Nat) (C : α → List Value) (xs : List α) : Prop := ∀ (i : Nat) (x : α), xs[i]? = some x → w.rangeAt b (i * k) (C x)
theorem there_below {w w' : World} {b o n : Nat} (h : w.there b o n) (hb : Below w.heap.size w w') : w'.there b o n := by
  intro j hj
  obtain ⟨h1, h2⟩ := h j hj
  obtain ⟨v, hv⟩ := Option.isSome_iff_exists.1 h1
  have hlt := size_lt hv
  exact ⟨by rw [cell_below hv hb]; rfl, (hb.frozen (p := ⟨b, o + j, none⟩) hlt).trans h2⟩
theorem Filled.below {w w' : World} {b : Nat} {xs : List α} (h : Filled w b k C xs) (hb : Below w.heap.size w w') : Filled w' b k C xs := fun i x hx j v hv => cell_below (h i x hx j v hv) hb
theorem Filled.set {w : World} {b n : Nat} {xs : List α} (hC : ∀ x, (C x).length = k) (h : Filled w b k C xs) (ht : w.there b 0 (n * k)) (hn : xs.length < n) (x : α) :
    Filled (w.setCells b (xs.length * k) (C x)) b k C (xs ++ [x]) ∧ (w.setCells b (xs.length * k) (C x)).there b 0 (n * k) := by
  refine ⟨fun i y hy => ?_, World.there_setCells ht _ _ _⟩
  by_cases hi : i < xs.length
  · rw [List.getElem?_append_left hi] at hy
    refine World.rangeAt_setCells_apart (h i y hy) _ _ _ (.inr (.inl ?_))
    rw [hC]
    have : (i + 1) * k ≤ xs.length * k := Nat.mul_le_mul_right _ hi
    rw [Nat.succ_mul] at this; exact this
  · rw [List.getElem?_append_right (by omega)] at hy
    have e : i = xs.length := by
      have := (List.getElem?_eq_some_iff.1 hy).1
      simp at this; omega
    subst e
    simp at hy; subst hy
    refine World.rangeAt_setCells_same _ _ _ _ (fun j hj => ?_)
    rw [hC] at hj
    have := ht (xs.length * k + j) (by
      have : (xs.length + 1) * k ≤ n * k := Nat.mul_le_mul_right _ hn
      rw [Nat.succ_mul] at this; omega)
    rw [Nat.zero_add] at this
    exact this
theorem Filled.slat {w : World} {b n : Nat} {xs : List α} (hC : ∀ x, (C x).length = k) (h : Filled w b k C xs) (hn : xs.length = n) (hm : n ≤ maxLen) : SlAt w k (fun x cs => cs = C x) (.slice (some ⟨b, 0, none⟩) n n) xs := by
  subst hn
  refine ⟨_, _, rfl, Nat.le_refl _, hm, fun _ => ⟨b, 0, rfl, fun i x hx => ⟨C x, hC x, rfl, fun j c hc => ?_⟩⟩⟩
  rw [Nat.zero_add]
  exact h i x hx j c hc
theorem Filled.nil {w : World} {b : Nat} : Filled w b k C ([] : List α) := fun i x hx => by simp at hx
theorem there_own {w : World} {B : Nat} {e : TypeId} {g n : Nat} {xs : List Value} (h : w.ownsRow B e k (.slice (some ⟨g, 0, none⟩) n n) n xs) : w.there g 0 (n * k) := by
  obtain ⟨_, ⟨h1, _⟩ | ⟨g', cap, cur, h1, _, hg, _, _, hsz, _⟩⟩ := h
  · cases h1
  · injection h1 with e1 e2 e3
    injection e1 with e1
    injection e1 with e1
    subst e1; subst e3
    intro j hj
    have hlt : j < cur.size := by rw [hsz]; exact hj
    rw [Nat.zero_add]
    exact ⟨by rw [row_cell hg, Array.getElem?_eq_getElem hlt]; rfl, row_free hg j⟩
end
theorem new_cells (W : World) (C : Array Value) (T : TypeId) : ∀ (j : Nat) (u : Value), C.toList[j]? = some u → (W.alloc (.cells C T)).cell? ((⟨W.heap.size, 0, none⟩ : Addr).add j) = some u := by
  intro j u hu
  have hr := heap_alloc_new W (.cells C T)
  have : (⟨W.heap.size, 0, none⟩ : Addr).add j = ⟨W.heap.size, j, none⟩ := by
    unfold Addr.add; split
    · next h => rw [h]
    · simp
  rw [this, row_cell hr]
  simpa using hu
/-- an empty slice of the call's own. -/
theorem own_empty {w : World} {B : Nat} {e : TypeId} {k : Nat} (hB : B ≤ w.heap.size) : (w.alloc (.cells #[] e)).ownsRow B e k (.slice (some ⟨w.heap.size, 0, none⟩) 0 0) 0 [] :=
  ⟨by simp, .inr ⟨w.heap.size, 0, #[], rfl, hB, heap_alloc_new w _, Nat.le_refl _, by simp [maxLen], by simp, by simp⟩⟩
theorem own_setRow {w : World} {B g k : Nat} {e : TypeId} {n : Nat} {v : Value} {xs : List Value} (h : w.ownsRow B e k v n xs) (hg : g < B) (C : Array Value) : (w.setRow g C).ownsRow B e k v n xs := by
  obtain ⟨h1, h2⟩ := h
  refine ⟨h1, h2.imp_right ?_⟩
  rintro ⟨b, cap, cur, h3, h4, h5, h6⟩
  exact ⟨b, cap, cur, h3, h4, by rw [setRow_other _ _ _ _ (by omega)]; exact h5, h6⟩
end Go.Proofs.Ytadlecnlgkhneaa

/-
  slices.Index, slices.Contains over integers: where the first one is; whether one is there.
-/
namespace Go.Proofs.Ytadlecnlgkhneaa
open Go.RowKit

def idxI (t : Int) : List Int → Nat → Int
  | [], _ => -1
  | r :: rs, k => if t = r then (k : Int) else idxI t rs (k + 1)
theorem idxI_step {t : Int} {rs : List Int} {k : Nat} {r : Int} (h : rs[k]? = some r) : idxI t (rs.drop k) k = if t = r then (k : Int) else idxI t (rs.drop (k + 1)) (k + 1) := by
  obtain ⟨h1, h2⟩ := List.getElem?_eq_some_iff.1 h
  rw [List.drop_eq_getElem_cons h1, h2]; rfl
theorem idxI_has (t : Int) : ∀ (rs : List Int) (k : Nat), decide (idxI t rs k ≥ 0) = rs.contains t
  | [], k => by simp [idxI]
  | r :: rs, k => by
    have ih := idxI_has t rs (k + 1)
    unfold idxI
    rw [List.contains_cons]
    by_cases h : t = r
    · subst h; simp
    · rw [if_neg h, ih]
      simp [h]
set_option maxHeartbeats 1600000 in
theorem sl_Index (v : Value) (xs : List Int) (t : Int) (w : World) (h : IntsAt w v xs) : Calls Try.prog 63 #[v, .int .i64 t] w fun e w' => e = .returned (.int .i64 (idxI t xs 0)) ∧ w = w' := by
  obtain ⟨sa, cap, rfl, hlc, hcm, hV⟩ := h
  have HV := Lib.hid hV
  unfold maxLen at hcm
  clear hV
  go_enter Try.func63, Try.ntmps63
  go_wp2_with fail
  go_loopw [8] (fun i wr => ∃ k : Nat, k ≤ xs.length ∧ i = .int .i64 k ∧ Hid (idxI t xs 0 = idxI t (xs.drop k) k) ∧ wr = w) (fun i _ => xs.length - (intOf i).toNat)
  case atStart => exact ⟨0, by omega, rfl, Lib.hid rfl, rfl⟩
  case round =>
    obtain ⟨k, hk, rfl, E, rfl⟩ := hrel
    by_cases hlt : k < xs.length
    · obtain ⟨r, hr⟩ : ∃ r, xs[k]? = some r := ⟨_, List.getElem?_eq_getElem hlt⟩
      obtain ⟨b, off, hsa, hP⟩ := HV.out (by omega)
      subst hsa
      obtain ⟨cs, _, ⟨rfl, _⟩, hc⟩ := hP k r hr
      have x0 := hc 0 _ rfl
      simp only [Nat.add_zero, Nat.mul_one] at x0
      have E2 : Hid (idxI t xs 0 = if t = r then (k : Int) else idxI t (xs.drop (k + 1)) (k + 1)) := Lib.hid (by rw [E.out, idxI_step hr])
      have j0 : (0 : Int) ≤ (k : Int) := by omega
      have j1 : (k : Int) < (xs.length : Int) := by omega
      clear hP hc hr E
      by_cases hp : t = r
      · have E3 : Hid (idxI t xs 0 = (k : Int)) := Lib.hid (by rw [E2.out, if_pos hp])
        have hb : (t == r) = true := by simpa using hp
        clear E2 hp
        go_wp2_with fail
        go_ret
        exact ⟨ret_int E3.out.symm, rfl⟩
      · have E3 : Hid (idxI t xs 0 = idxI t (xs.drop (k + 1)) (k + 1)) := Lib.hid (by rw [E2.out, if_neg hp])
        have hb : (t == r) = false := by simpa using hp
        clear E2 hp
        go_wp2_with fail
        exact ⟨⟨k + 1, by omega, by go_num, E3, trivial⟩, by simp [intOf]; omega⟩
    · obtain rfl : k = xs.length := by omega
      have E3 : Hid (idxI t xs 0 = -1) := Lib.hid (by rw [E.out, List.drop_length]; rfl)
      clear E
      go_wp2_with fail
      go_ret
      exact ⟨ret_int E3.out.symm, rfl⟩
theorem sl_Contains (v : Value) (xs : List Int) (t : Int) (w : World) (h : IntsAt w v xs) : Calls Try.prog 36 #[v, .int .i64 t] w fun e w' => e = .returned (.bool (xs.contains t)) ∧ w = w' := by
  have RI := Lib.hid (sl_Index v xs t w h)
  have EQ := Lib.hid (idxI_has t xs 0)
  generalize idxI t xs 0 = n at RI EQ
  clear h
  go_enter Try.func36, Try.ntmps36
  go_wp2_with fail
  refine RI.out.mono ?_
  rintro e w1 ⟨rfl, rfl⟩
  go_wp2_with fail
  go_ret
  exact ⟨ret_bool EQ.out, rfl⟩
end Go.Proofs.Ytadlecnlgkhneaa

/-
  ATTRIBUTES: Passes: whether a system is on the path.
-/
namespace Go.Proofs.Ytadlecnlgkhneaa
open Go.RowKit

theorem box1 (w : World) (C : Array Value) (T : TypeId) : ∃ W0, W0 = w.alloc (.cells C T) ∧ W0.heap[w.heap.size]? = some (.cells C T (0, 0)) ∧ Below w.heap.size w W0 ∧ W0.heap.size = w.heap.size + 1 :=
  ⟨_, rfl, heap_alloc_new w _, (Below.refl _ _).alloc (Nat.le_refl _) _, by simp⟩
theorem boxTwo (w : World) (C : Array Value) (T : TypeId) (Z : Array Value) (U : TypeId) : ∃ W0, W0 = (w.alloc (.cells C T)).alloc (.cells Z U) ∧ W0.heap[w.heap.size]? = some (.cells C T (0, 0)) ∧ W0.heap[w.heap.size + 1]? = some (.cells Z U (0, 0)) ∧ Below w.heap.size w W0 := by
  refine ⟨_, rfl, ?_, ?_, ((Below.refl _ _).alloc (Nat.le_refl _) _).alloc (by simp) _⟩
  · have h1 := heap_alloc_new w (.cells C T)
    have h2 : Below (w.alloc (.cells C T)).heap.size (w.alloc (.cells C T)) ((w.alloc (.cells C T)).alloc (.cells Z U)) := (Below.refl _ _).alloc (Nat.le_refl _) _
    exact (h2.block _ (row_lt h1)).trans h1
  · have h1 := heap_alloc_new (w.alloc (.cells C T)) (.cells Z U)
    simpa using h1
/-- whether a system is on a path. -/
def passB (p : List Sg) (t : Int) : Bool := p.any fun s => s.2.contains t
set_option maxHeartbeats 1600000 in
set_option maxRecDepth 100000 in
theorem at_pass1 (b : Bool) (u : Value) (l : List Int) (tb : Nat) (t : Int) (w : World) (hu : IntsAt w u l) (ht : w.cell? ⟨tb, 0, none⟩ = some (.int .i64 t)) :
    Calls Try.prog 35 #[.agg #[.bool b, u], .pointer (some ⟨tb, 0, none⟩)] w fun e w' => e = .returned (.bool (l.contains t)) ∧ Below w.heap.size w w' := by
  have HU := Lib.hid hu
  go_enter Try.func35, Try.ntmps35
  go_upto_region 1 with (fail)
  obtain ⟨W0, hW0, q0, hb0, -⟩ := box1 w #[.bool b, u] 54
  rw [← hW0]
  clear hW0
  have c1 : W0.cell? ⟨w.heap.size, 1, none⟩ = some u := row_cell q0 1
  have t0 := cell_below ht hb0
  have H0 := Lib.hid (HU.out.below hb0)
  clear q0 ht hu
  have CT := Lib.hid (sl_Contains _ l t _ H0.out)
  generalize hz : l.contains t = z at CT
  have HZ := Lib.hid hz
  clear hz
  obtain ⟨sa, cap, rfl, -⟩ := id HU.out
  go_wp2_with fail
  refine CT.out.mono ?_
  rintro e w1 ⟨rfl, rfl⟩
  clear c1 t0
  go_wp2_with fail
  go_ret
  exact ⟨ret_bool HZ.out.symm, hb0⟩
def idxP (t : Int) : List Sg → Nat → Int
  | [], _ => -1
  | r :: rs, k => if r.2.contains t = true then (k : Int) else idxP t rs (k + 1)
theorem idxP_step {t : Int} {rs : List Sg} {k : Nat} {r : Sg} (h : rs[k]? = some r) : idxP t (rs.drop k) k = if r.2.contains t = true then (k : Int) else idxP t (rs.drop (k + 1)) (k + 1) := by
  obtain ⟨h1, h2⟩ := List.getElem?_eq_some_iff.1 h
  rw [List.drop_eq_getElem_cons h1, h2]; rfl
theorem idxP_has (t : Int) : ∀ (rs : List Sg) (k : Nat), decide (idxP t rs k ≥ 0) = passB rs t
  | [], k => by simp [idxP, passB]
  | r :: rs, k => by
    have ih := idxP_has t rs (k + 1)
    unfold idxP
    unfold passB at ih ⊢
    rw [List.any_cons]
    cases h : r.2.contains t
    · simpa using ih
    · simp
set_option maxHeartbeats 3200000 in
set_option maxRecDepth 100000 in
theorem at_IndexF (v : Value) (p : List Sg) (tb : Nat) (t : Int) (w : World) (h : PathAt w v p) (ht : w.cell? ⟨tb, 0, none⟩ = some (.int .i64 t)) :
    Calls Try.prog 62 #[v, .func (.func 35) #[] #[.pointer (some ⟨tb, 0, none⟩)]] w fun e w' => e = .returned (.int .i64 (idxP t p 0)) ∧ Below w.heap.size w w' := by
  obtain ⟨sa, cap, rfl, hlc, hcm, hV⟩ := h
  have HV := Lib.hid hV
  have HT := Lib.hid ht
  unfold maxLen at hcm
  clear hV ht
  go_enter Try.func62, Try.ntmps62
  go_wp2_with fail
  go_loopw [8] (fun i wr => ∃ k : Nat, k ≤ p.length ∧ i = .int .i64 k ∧ Hid (idxP t p 0 = idxP t (p.drop k) k) ∧ Hid (Below w.heap.size w wr)) (fun i _ => p.length - (intOf i).toNat)
  case atStart => exact ⟨0, by omega, rfl, Lib.hid rfl, Lib.hid (Below.refl _ _)⟩
  case round =>
    obtain ⟨k, hk, rfl, E, B⟩ := hrel
    by_cases hlt : k < p.length
    · obtain ⟨r, hr⟩ : ∃ r, p[k]? = some r := ⟨_, List.getElem?_eq_getElem hlt⟩
      obtain ⟨b, off, hsa, hP⟩ := HV.out (by omega)
      subst hsa
      obtain ⟨cs, _, ⟨u, rfl, hu⟩, hc⟩ := hP k r hr
      have x0 := hc 0 _ rfl
      have x1 := hc 1 _ rfl
      simp only [Nat.add_zero] at x0
      have x0 := (B.out.cell (size_lt x0)).trans x0
      have x1 := (B.out.cell (size_lt x1)).trans x1
      have t0 := Lib.hid ((B.out.cell (size_lt HT.out)).trans HT.out)
      have P1 := Lib.hid (at_pass1 r.1 u r.2 tb t wr (hu.below B.out) t0.out)
      obtain ⟨su, cu, rfl, -⟩ := hu
      have E2 : Hid (idxP t p 0 = if r.2.contains t = true then (k : Int) else idxP t (p.drop (k + 1)) (k + 1)) := Lib.hid (by rw [E.out, idxP_step hr])
      have j0 : (0 : Int) ≤ (k : Int) := by omega
      have j1 : (k : Int) < (p.length : Int) := by omega
      clear hP hc hr E t0
      generalize hz : r.2.contains t = z at P1 E2
      go_wp2_with fail
      refine P1.out.mono ?_
      rintro e w2 ⟨rfl, hb2⟩
      have B2 := Lib.hid (below_on B.out hb2)
      clear hb2 B x0 x1 P1 hz
      cases z
      · have E3 : Hid (idxP t p 0 = idxP t (p.drop (k + 1)) (k + 1)) := Lib.hid (by rw [E2.out, if_neg (by simp)])
        clear E2
        go_wp2_with fail
        exact ⟨⟨k + 1, by omega, by go_num, E3, B2⟩, by simp [intOf]; omega⟩
      · have E3 : Hid (idxP t p 0 = (k : Int)) := Lib.hid (by rw [E2.out, if_pos rfl])
        clear E2
        go_wp2_with fail
        go_ret
        exact ⟨ret_int E3.out.symm, B2.out⟩
    · obtain rfl : p.length = k := by omega
      have E3 : Hid (idxP t p 0 = -1) := Lib.hid (by rw [E.out, List.drop_length]; rfl)
      clear E
      go_wp2_with fail
      go_ret
      exact ⟨ret_int E3.out.symm, B.out⟩
theorem at_ContainsF (v : Value) (p : List Sg) (tb : Nat) (t : Int) (w : World) (h : PathAt w v p) (ht : w.cell? ⟨tb, 0, none⟩ = some (.int .i64 t)) :
    Calls Try.prog 34 #[v, .func (.func 35) #[] #[.pointer (some ⟨tb, 0, none⟩)]] w fun e w' => e = .returned (.bool (passB p t)) ∧ Below w.heap.size w w' := by
  have RI := Lib.hid (at_IndexF v p tb t w h ht)
  have EQ := Lib.hid (idxP_has t p 0)
  generalize idxP t p 0 = n at RI EQ
  clear h ht
  go_enter Try.func34, Try.ntmps34
  go_wp2_with fail
  refine RI.out.mono ?_
  rintro e w1 ⟨rfl, hb⟩
  go_wp2_with fail
  go_ret
  exact ⟨ret_bool EQ.out, hb⟩
set_option maxHeartbeats 1600000 in
set_option maxRecDepth 100000 in
theorem at_Passes (a : At) (vp vc vo : Value) (t : Int) (w : World) (hP : PathAt w vp a.path) : Calls Try.prog 13 #[.agg (atV a vp vc vo).toArray, .int .i64 t] w fun e w' => e = .returned (.bool (passB a.path t)) ∧ Below w.heap.size w w' := by
  show Calls Try.prog 13 #[.agg #[.int .i64 a.has, .int .i64 a.origin, vp, .int .u32 a.hop, .int .i64 a.med, .int .i64 a.loc, .int .i64 a.aggrAs, .int .u32 a.aggrId, vc, vo], .int .i64 t] w _
  have HP := Lib.hid hP
  obtain ⟨sa, cap, rfl, -⟩ := hP
  go_enter Try.func13, Try.ntmps13
  go_upto_region 1 with (fail)
  obtain ⟨W0, hW0, q0, q1, hb0⟩ := boxTwo w #[.int .i64 a.has, .int .i64 a.origin, .slice sa a.path.length cap, .int .u32 a.hop, .int .i64 a.med, .int .i64 a.loc, .int .i64 a.aggrAs, .int .u32 a.aggrId, vc, vo] 35 #[.int .i64 t] 3
  rw [← hW0]
  clear hW0
  have c2 : W0.cell? ⟨w.heap.size, 2, none⟩ = some (.slice sa a.path.length cap) := row_cell q0 2
  have t0 : W0.cell? ⟨w.heap.size + 1, 0, none⟩ = some (.int .i64 t) := row_cell q1 0
  have CF := Lib.hid (at_ContainsF _ a.path (w.heap.size + 1) t W0 (HP.out.below hb0) t0)
  clear q0 q1
  go_wp2_with fail
  refine CF.out.mono ?_
  rintro e w1 ⟨rfl, hb⟩
  have hb2 := Lib.hid (below_on hb0 hb)
  clear hb c2 t0 hb0 CF
  go_wp2_with fail
  go_ret
  exact ⟨rfl, hb2.out⟩
end Go.Proofs.Ytadlecnlgkhneaa

/-
  ATTRIBUTES AS VALUES: ten cells; how they are stored into a node of a trie.
-/
namespace Go.Proofs.Ytadlecnlgkhneaa
open Go.RowKit

/-- attributes as the program has them: numbers and three slices. -/
structure AV where
  has : Int
  origin : Int
  ps : Option Addr
  pn : Nat
  pc : Nat
  hop : Nat
  med : Int
  loc : Int
  aggrAs : Int
  aggrId : Nat
  cs : Option Addr
  cn : Nat
  cc : Nat
  os : Option Addr
  on : Nat
  oc : Nat
abbrev AV.C (v : AV) : Array Value := #[.int .i64 v.has, .int .i64 v.origin, .slice v.ps v.pn v.pc, .int .u32 v.hop, .int .i64 v.med, .int .i64 v.loc, .int .i64 v.aggrAs, .int .u32 v.aggrId, .slice v.cs v.cn v.cc, .slice v.os v.on v.oc]
abbrev AV.V (v : AV) : Value := .agg #[.int .i64 v.has, .int .i64 v.origin, .slice v.ps v.pn v.pc, .int .u32 v.hop, .int .i64 v.med, .int .i64 v.loc, .int .i64 v.aggrAs, .int .u32 v.aggrId, .slice v.cs v.cn v.cc, .slice v.os v.on v.oc]
def av0 : AV := ⟨0, 0, none, 0, 0, 0, 0, 0, 0, 0, none, 0, 0, none, 0, 0⟩
/-- a node's row. -/
abbrev nodeR (k0 k1 h : Value) (v : AV) : Array Value := #[k0, k1, h, .int .i64 v.has, .int .i64 v.origin, .slice v.ps v.pn v.pc, .int .u32 v.hop, .int .i64 v.med, .int .i64 v.loc, .int .i64 v.aggrAs, .int .u32 v.aggrId, .slice v.cs v.cn v.cc, .slice v.os v.on v.oc]
/-- attributes stored into a node. -/
def setAV (W : World) (b : Nat) (v : AV) : World :=
  (((((((((W.setCell ⟨b, 3, none⟩ (.int .i64 v.has)).setCell ⟨b, 4, none⟩ (.int .i64 v.origin)).setCell ⟨b, 5, none⟩ (.slice v.ps v.pn v.pc)).setCell ⟨b, 6, none⟩ (.int .u32 v.hop)).setCell ⟨b, 7, none⟩ (.int .i64 v.med)).setCell ⟨b, 8, none⟩ (.int .i64 v.loc)).setCell ⟨b, 9, none⟩ (.int .i64 v.aggrAs)).setCell ⟨b, 10, none⟩ (.int .u32 v.aggrId)).setCell ⟨b, 11, none⟩ (.slice v.cs v.cn v.cc)).setCell ⟨b, 12, none⟩ (.slice v.os v.on v.oc)
theorem AV.one (v : AV) : (v.C.all (·.oneCell')) = true := by simp [AV.C, Value.oneCell']
theorem setAV_eq (W : World) (b : Nat) (v : AV) : W.setCells b 3 v.C.toList = setAV W b v := rfl
theorem setAV_row {W : World} {b : Nat} {k0 k1 h : Value} {u : AV} {tN : TypeId} (hb : W.heap[b]? = some (.cells (nodeR k0 k1 h u) tN (0, 0))) (v : AV) : (setAV W b v).heap[b]? = some (.cells (nodeR k0 k1 h v) tN (0, 0)) := by
  unfold setAV
  rw [set_same (set_same (set_same (set_same (set_same (set_same (set_same (set_same (set_same (set_same hb _ _) _ _) _ _) _ _) _ _) _ _) _ _) _ _) _ _) _ _]
  simp only [List.setIfInBounds_toArray, List.set_cons_succ, List.set_cons_zero]
theorem setAV_other {W : World} {b g : Nat} (h : g ≠ b) (v : AV) : (setAV W b v).heap[g]? = W.heap[g]? := by
  unfold setAV
  rw [set_other _ _ _ h, set_other _ _ _ h, set_other _ _ _ h, set_other _ _ _ h, set_other _ _ _ h, set_other _ _ _ h, set_other _ _ _ h, set_other _ _ _ h, set_other _ _ _ h, set_other _ _ _ h]
theorem node_cells {W : World} {b : Nat} {k0 k1 h : Value} {u : AV} {tN : TypeId} (hb : W.heap[b]? = some (.cells (nodeR k0 k1 h u) tN (0, 0))) :
    W.cell? ⟨b, 3, none⟩ = some (.int .i64 u.has) ∧ W.cell? ⟨b, 4, none⟩ = some (.int .i64 u.origin) ∧ W.cell? ⟨b, 5, none⟩ = some (.slice u.ps u.pn u.pc) ∧ W.cell? ⟨b, 6, none⟩ = some (.int .u32 u.hop) ∧ W.cell? ⟨b, 7, none⟩ = some (.int .i64 u.med) ∧ W.cell? ⟨b, 8, none⟩ = some (.int .i64 u.loc) ∧ W.cell? ⟨b, 9, none⟩ = some (.int .i64 u.aggrAs) ∧ W.cell? ⟨b, 10, none⟩ = some (.int .u32 u.aggrId) ∧ W.cell? ⟨b, 11, none⟩ = some (.slice u.cs u.cn u.cc) ∧ W.cell? ⟨b, 12, none⟩ = some (.slice u.os u.on u.oc) :=
  ⟨row_cell hb 3, row_cell hb 4, row_cell hb 5, row_cell hb 6, row_cell hb 7, row_cell hb 8, row_cell hb 9, row_cell hb 10, row_cell hb 11, row_cell hb 12⟩
theorem node_flag {W : World} {b : Nat} {k0 k1 h : Value} {u : AV} {tN : TypeId} (hb : W.heap[b]? = some (.cells (nodeR k0 k1 h u) tN (0, 0))) (h' : Value) : (W.setCell ⟨b, 2, none⟩ h').drew.heap[b]? = some (.cells (nodeR k0 k1 h' u) tN (0, 0)) := by
  show (W.setCell ⟨b, 2, none⟩ h').heap[b]? = _
  rw [set_same hb]
  simp only [List.setIfInBounds_toArray, List.set_cons_succ, List.set_cons_zero]
theorem exec_ldm {P : Program} {oi : Oper} {ev : Operand → Value} {w : World} (ty : TypeId) (x : Operand) (ho : oi.op = .load ty x) (b o : Nat) (hx : ev x = .pointer (some ⟨b, o, none⟩)) (cs : List Value) (d : TypeDesc) (hc : w.rangeAt b o cs)
    (hu : P.underlying ty = some d) (hd : d.isRow = true) (hi : (P.info? ty).map (·.size) = some cs.length) : (execOp ev oi).run P w = .ok (.value (.agg cs.toArray)) w := by
  unfold execOp
  simp only [ho, hx, Instr.loadAt, Instr.sureAddr, Sem.run_bind, Sem.run_pure, Result.andThen_ok, run_loadVar_mid w b o ty cs d hc hu hd hi]
theorem still_ld {P : Program} {ops : Array Oper} {w : World} {Q : Act → Prop} {a : Act} {o : Oper} {rest : List Oper} (hgd : Region.wanted o (yielded ops a.tmps) = true) {v : Value} (he : (execOp a.eval o).run P w = .ok (.value v) w) (h : wpStill P ops w Q rest (a.put o.dst v)) : wpStill P ops w Q (o :: rest) a := by
  unfold wpStill
  rw [if_pos hgd]
  unfold Oper.still
  rw [he, Oper.stillUpon_value]
  exact h
theorem ldm_at {P : Program} {ops : Array Oper} {rest : List Oper} {o : Oper} {a : Act} {w : World} {Q : Exit → Act → World → Prop} (hgd : Region.wanted o (yielded ops a.tmps) = true) (ty : TypeId) (x : Operand) (ho : o.op = .load ty x)
    (b off : Nat) (hx : a.eval x = .pointer (some ⟨b, off, none⟩)) (cs : List Value) (d : TypeDesc) (hc : w.rangeAt b off cs) (hu : P.underlying ty = some d) (hd : d.isRow = true) (hi : (P.info? ty).map (·.size) = some cs.length)
    (h : wpList P ops Q rest (a.put o.dst (.agg cs.toArray)) w) : wpList P ops Q (o :: rest) a w := by
  unfold wpList
  rw [if_pos hgd]
  exact .inl (wp_load_mid ty x ho b off hx cs d hc hu hd hi h)
theorem node_there {W : World} {b : Nat} {k0 k1 h : Value} {u : AV} {tN : TypeId} (hb : W.heap[b]? = some (.cells (nodeR k0 k1 h u) tN (0, 0))) : W.there b 3 10 := fun j hj => by
  refine ⟨?_, row_free hb _⟩
  rw [row_cell hb, Array.getElem?_eq_getElem (by simp; omega)]
  rfl
theorem node_range {W : World} {b : Nat} {k0 k1 h : Value} {u : AV} {tN : TypeId} (hb : W.heap[b]? = some (.cells (nodeR k0 k1 h u) tN (0, 0))) : W.rangeAt b 3 u.C.toList := fun j v hv => by
  rw [row_cell hb]
  have hj : j < 10 := by have := (List.getElem?_eq_some_iff.1 hv).1; simpa using this
  match j, hj with
  | 0, _ => simpa using hv
  | 1, _ => simpa using hv
  | 2, _ => simpa using hv
  | 3, _ => simpa using hv
  | 4, _ => simpa using hv
  | 5, _ => simpa using hv
  | 6, _ => simpa using hv
  | 7, _ => simpa using hv
  | 8, _ => simpa using hv
  | 9, _ => simpa using hv
end Go.Proofs.Ytadlecnlgkhneaa

/-
  A TRIE IN MEMORY: which nodes there are, what stands at which; what a store turns.
-/
namespace Go.Proofs.Ytadlecnlgkhneaa
open Go.RowKit

abbrev ptrN (o : Option Nat) : Value := .pointer (o.map fun b => ⟨b, 0, none⟩)
/-- a node's cells. -/
abbrev nodeC (z : AV) (N : Nat → Option Nat) (S : List (Nat × AV)) (k : Nat) : Array Value := nodeR (ptrN (N (2 * k))) (ptrN (N (2 * k + 1))) (.bool (getL S k).isSome) ((getL S k).getD z)
abbrev trieC (N : Nat → Option Nat) (S : List (Nat × AV)) (most : Int) : Array Value := #[ptrN (N 1), .int .i64 most, .int .i64 S.length]
structure TrieAt (tT tN : TypeId) (z : AV) (W : World) (tb : Nat) (N : Nat → Option Nat) (S : List (Nat × AV)) (most : Int) : Prop where
  row : W.heap[tb]? = some (.cells (trieC N S most) tT (0, 0))
  node : ∀ k b, N k = some b → W.heap[b]? = some (.cells (nodeC z N S k) tN (0, 0))
  inj : ∀ k k' b, N k = some b → N k' = some b → k = k'
  top : ∀ k, N k ≠ some tb
  up : ∀ k, 2 ≤ k → (N k).isSome → (N (k / 2)).isSome
  pos : N 0 = none
  dom : ∀ p ∈ S, (N p.1).isSome
  deep : ∀ k, 2 ^ 33 ≤ k → N k = none
  ap : KeysApart S
/-- a trie's own blocks. -/
def TOwn (tb : Nat) (N : Nat → Option Nat) (b : Nat) : Prop := b = tb ∨ ∃ k, N k = some b
section
variable {tT tN : TypeId} {z : AV} {W W' : World} {tb : Nat} {N : Nat → Option Nat} {S : List (Nat × AV)} {most : Int}
theorem TrieAt.lt (h : TrieAt tT tN z W tb N S most) : tb < W.heap.size := row_lt h.row
theorem TrieAt.nlt (h : TrieAt tT tN z W tb N S most) {k b : Nat} (hb : N k = some b) : b < W.heap.size := row_lt (h.node k b hb)
theorem TrieAt.own_lt (h : TrieAt tT tN z W tb N S most) {b : Nat} (hb : TOwn tb N b) : b < W.heap.size := by
  rcases hb with rfl | ⟨k, hb⟩
  · exact h.lt
  · exact h.nlt hb
theorem TrieAt.of_blocks (h : TrieAt tT tN z W tb N S most) (hb : ∀ b, TOwn tb N b → W'.heap[b]? = W.heap[b]?) : TrieAt tT tN z W' tb N S most :=
  ⟨(hb tb (.inl rfl)).trans h.row, fun k b hk => (hb b (.inr ⟨k, hk⟩)).trans (h.node k b hk), h.inj, h.top, h.up, h.pos, h.dom, h.deep, h.ap⟩
theorem TrieAt.below (h : TrieAt tT tN z W tb N S most) (hb : Below W.heap.size W W') : TrieAt tT tN z W' tb N S most := h.of_blocks fun _ ho => hb.block _ (h.own_lt ho)
theorem TrieAt.kept {F : Nat → Prop} (h : TrieAt tT tN z W tb N S most) (hk : Kept F W W') (hF : ∀ b, TOwn tb N b → ¬ F b) : TrieAt tT tN z W' tb N S most := h.of_blocks fun b ho => hk.block b (h.own_lt ho) (hF b ho)
theorem ptrN_some (b : Nat) : ptrN (some b) = .pointer (some ⟨b, 0, none⟩) := rfl
theorem TrieAt.cells (h : TrieAt tT tN z W tb N S most) : W.cell? ⟨tb, 0, none⟩ = some (ptrN (N 1)) ∧ W.cell? ⟨tb, 1, none⟩ = some (.int .i64 most) ∧ W.cell? ⟨tb, 2, none⟩ = some (.int .i64 S.length) :=
  ⟨row_cell h.row 0, row_cell h.row 1, row_cell h.row 2⟩
theorem TrieAt.ncells (h : TrieAt tT tN z W tb N S most) {k b : Nat} (hb : N k = some b) : W.cell? ⟨b, 0, none⟩ = some (ptrN (N (2 * k))) ∧ W.cell? ⟨b, 1, none⟩ = some (ptrN (N (2 * k + 1))) ∧ W.cell? ⟨b, 2, none⟩ = some (.bool (getL S k).isSome) :=
  ⟨row_cell (h.node k b hb) 0, row_cell (h.node k b hb) 1, row_cell (h.node k b hb) 2⟩
theorem TrieAt.dom' (h : TrieAt tT tN z W tb N S most) {k : Nat} (hk : (getL S k).isSome = true) : ∃ b, N k = some b := by
  obtain ⟨v, hv⟩ := Option.isSome_iff_exists.1 hk
  exact Option.isSome_iff_exists.1 (h.dom _ (getL_mem hv))
theorem TrieAt.none_of (h : TrieAt tT tN z W tb N S most) {k : Nat} (hk : N k = none) : getL S k = none := by
  cases hg : getL S k with
  | none => rfl
  | some v => obtain ⟨b, hb⟩ := h.dom' (k := k) (by rw [hg]; rfl); rw [hk] at hb; cases hb
theorem TrieAt.up_none (h : TrieAt tT tN z W tb N S most) {k : Nat} (hk : N k = none) (h1 : 1 ≤ k) : N (2 * k) = none ∧ N (2 * k + 1) = none := by
  constructor
  · cases hg : N (2 * k) with
    | none => rfl
    | some v =>
      have := h.up (2 * k) (by omega) (by rw [hg]; rfl)
      rw [show 2 * k / 2 = k by omega, hk] at this; cases this
  · cases hg : N (2 * k + 1) with
    | none => rfl
    | some v =>
      have := h.up (2 * k + 1) (by omega) (by rw [hg]; rfl)
      rw [show (2 * k + 1) / 2 = k by omega, hk] at this; cases this
/-- where a node hangs. -/
def SlotAt (tb : Nat) (N : Nat → Option Nat) (κ : Nat) (ad : Addr) : Prop := (κ = 1 ∧ ad = ⟨tb, 0, none⟩) ∨ (2 ≤ κ ∧ ∃ b, N (κ / 2) = some b ∧ ad = ⟨b, κ % 2, none⟩)
theorem SlotAt.cell {κ : Nat} {ad : Addr} (h : TrieAt tT tN z W tb N S most) (hs : SlotAt tb N κ ad) : W.cell? ad = some (ptrN (N κ)) ∧ W.frozen? ad = false := by
  rcases hs with ⟨rfl, rfl⟩ | ⟨h2, b, hb, rfl⟩
  · exact ⟨h.cells.1, row_free h.row 0⟩
  · refine ⟨?_, row_free (h.node _ _ hb) _⟩
    obtain ⟨c0, c1, _⟩ := h.ncells hb
    rcases Nat.mod_two_eq_zero_or_one κ with e | e
    · rw [e, c0, show 2 * (κ / 2) = κ by omega]
    · rw [e, c1, show 2 * (κ / 2) + 1 = κ by omega]
def updN (N : Nat → Option Nat) (κ : Nat) (o : Option Nat) : Nat → Option Nat := fun k => if k = κ then o else N k
theorem updN_same (N : Nat → Option Nat) (κ : Nat) (o : Option Nat) : updN N κ o κ = o := if_pos rfl
theorem updN_ne (N : Nat → Option Nat) {κ k : Nat} (o : Option Nat) (h : k ≠ κ) : updN N κ o k = N k := if_neg h
/-- a slot is turned: the node that hangs there is another one. -/
theorem TrieAt.hang {W1 : World} {κ : Nat} {ad : Addr} {o : Option Nat} (h : TrieAt tT tN z W tb N S most) (hB : Below W.heap.size W W1) (hs : SlotAt tb N κ ad) (h1 : 1 ≤ κ) (hd : κ < 2 ^ 33)
    (hold : N κ = none ∨ o = none) (hk0 : getL S κ = none) (hl : N (2 * κ) = none) (hr : N (2 * κ + 1) = none) (hnew : ∀ nb, o = some nb → W.heap.size ≤ nb ∧ W1.heap[nb]? = some (.cells (nodeR (.pointer none) (.pointer none) (.bool false) z) tN (0, 0))) :
    TrieAt tT tN z (W1.setCell ad (ptrN o)) tb (updN N κ o) S most := by
  have g := h.below hB
  have hne : ∀ nb, o = some nb → nb ≠ tb ∧ ∀ k, N k ≠ some nb := fun nb e => ⟨by have := (hnew nb e).1; have := h.lt; omega, fun k hk => by have := (hnew nb e).1; have := h.nlt hk; omega⟩
  have hub : ∀ k b, updN N κ o k = some b → (k = κ ∧ o = some b) ∨ (k ≠ κ ∧ N k = some b) := by
    intro k b hk
    by_cases e : k = κ
    · subst e; rw [updN_same] at hk; exact .inl ⟨rfl, hk⟩
    · rw [updN_ne _ _ e] at hk; exact .inr ⟨e, hk⟩
  -- how a node's row turns
  have hrow : ∀ k b, k ≠ κ → N k = some b → (W1.setCell ad (ptrN o)).heap[b]? = some (.cells (nodeC z (updN N κ o) S k) tN (0, 0)) := by
    intro k b hk hb
    by_cases e : κ / 2 = k ∧ 2 ≤ κ
    · obtain ⟨e, e2⟩ := e
      rcases hs with ⟨rfl, _⟩ | ⟨_, b', hb', rfl⟩
      · omega
      rw [e] at hb'
      obtain rfl : b' = b := by rw [hb] at hb'; exact (Option.some.inj hb').symm
      rw [set_same (g.node k b' hb)]
      congr 2
      rcases Nat.mod_two_eq_zero_or_one κ with m | m
      · obtain rfl : κ = 2 * k := by omega
        rw [m]
        simp [nodeC, updN_same, updN_ne]
      · obtain rfl : κ = 2 * k + 1 := by omega
        rw [m]
        simp [nodeC, updN_same, updN_ne]
    · have hbo : b ≠ ad.block := by
        rcases hs with ⟨rfl, rfl⟩ | ⟨h2, b', hb', rfl⟩
        · intro e'
          simp only at e'
          subst e'
          exact h.top k hb
        · intro e'
          simp only at e'
          subst e'
          exact e ⟨(h.inj _ _ _ hb' hb), h2⟩
      have hcell : (W1.setCell ad (ptrN o)).heap[b]? = W1.heap[b]? := Deep.blk_setCell_other W1 ad (ptrN o) b hbo
      rw [hcell, g.node k b hb]
      have e2 : 2 * k ≠ κ := fun x => by
        by_cases k0 : k = 0
        · subst k0; omega
        · exact e ⟨by omega, by omega⟩
      have e3 : 2 * k + 1 ≠ κ := fun x => by
        by_cases k0 : k = 0
        · subst k0; rw [h.pos] at hb; cases hb
        · exact e ⟨by omega, by omega⟩
      simp only [nodeC, updN_ne _ _ e2, updN_ne _ _ e3]
  refine ⟨?_, ?_, ?_, ?_, ?_, ?_, ?_, ?_, h.ap⟩
  · rcases hs with ⟨rfl, rfl⟩ | ⟨h2, b', hb', rfl⟩
    · rw [set_same g.row]
      simp [trieC, updN_same]
    · rw [set_other _ _ _ (fun e => h.top _ (e ▸ hb')), g.row]
      simp only [trieC, updN_ne N o (show 1 ≠ κ by omega)]
  · intro k b hk
    rcases hub k b hk with ⟨rfl, ho⟩ | ⟨e, hb⟩
    · have hbo : b ≠ ad.block := by
        rcases hs with ⟨_, rfl⟩ | ⟨_, b', hb', rfl⟩
        · exact (hne b ho).1
        · intro e'
          simp only at e'
          subst e'
          exact (hne b ho).2 _ hb'
      have hcell : (W1.setCell ad (ptrN o)).heap[b]? = W1.heap[b]? := Deep.blk_setCell_other W1 ad (ptrN o) b hbo
      rw [hcell, (hnew b ho).2]
      simp only [nodeC, updN_ne N o (show 2 * k ≠ k by omega), updN_ne N o (show 2 * k + 1 ≠ k by omega), hl, hr, hk0]
      rfl
    · exact hrow k b e hb
  · intro k k' b hk hk'
    rcases hub k b hk with ⟨rfl, ho⟩ | ⟨e, hb⟩ <;> rcases hub k' b hk' with ⟨rfl, ho'⟩ | ⟨e', hb'⟩
    · rfl
    · exact absurd hb' ((hne b ho).2 _)
    · exact absurd hb ((hne b ho').2 _)
    · exact h.inj _ _ _ hb hb'
  · intro k hk
    rcases hub k tb hk with ⟨rfl, ho⟩ | ⟨e, hb⟩
    · exact (hne tb ho).1 rfl
    · exact h.top k hb
  · intro k h2 hk
    by_cases e : k / 2 = κ
    · have e2 : k ≠ κ := by omega
      rw [updN_ne _ _ e2] at hk
      have : k = 2 * κ ∨ k = 2 * κ + 1 := by omega
      rcases this with rfl | rfl
      · rw [hl] at hk; cases hk
      · rw [hr] at hk; cases hk
    · rw [updN_ne _ _ e]
      by_cases e2 : k = κ
      · subst e2
        rcases hs with ⟨rfl, _⟩ | ⟨_, b', hb', _⟩
        · omega
        · rw [hb']; rfl
      · rw [updN_ne _ _ e2] at hk
        exact h.up k h2 hk
  · rw [updN_ne _ _ (by omega)]; exact h.pos
  · intro p hp
    have e : p.1 ≠ κ := by
      intro e
      have := getL_none.1 hk0 p hp
      exact this e
    rw [updN_ne _ _ e]
    exact h.dom p hp
  · intro k hk
    rw [updN_ne _ _ (by omega)]
    exact h.deep k hk
/-- what stands at a node is turned. -/
theorem TrieAt.turn {κ b : Nat} {S' : List (Nat × AV)} (h : TrieAt tT tN z W tb N S most) (hb : N κ = some b) (hrow : W'.heap[tb]? = some (.cells (trieC N S' most) tT (0, 0))) (hnode : W'.heap[b]? = some (.cells (nodeC z N S' κ) tN (0, 0)))
    (hoth : ∀ g, g ≠ tb → g ≠ b → W'.heap[g]? = W.heap[g]?) (hg : ∀ k, k ≠ κ → getL S' k = getL S k) (hap : KeysApart S') : TrieAt tT tN z W' tb N S' most := by
  refine ⟨hrow, ?_, h.inj, h.top, h.up, h.pos, ?_, h.deep, hap⟩
  · intro k c hk
    by_cases e : k = κ
    · subst e
      rw [hb] at hk
      obtain rfl := Option.some.inj hk
      exact hnode
    · rw [hoth c (fun x => h.top k (x ▸ hk)) (fun x => e (h.inj _ _ _ hk (x ▸ hb))), h.node k c hk]
      simp only [nodeC, hg k e]
  · intro p hp
    by_cases e : p.1 = κ
    · rw [e, hb]; rfl
    · have : getL S p.1 = some p.2 := by rw [← hg p.1 e]; exact getL_of_mem hap hp
      exact h.dom _ (getL_mem this)
theorem getL_snoc (S : List (Nat × AV)) (κ k : Nat) (v : AV) : getL (delL S κ ++ [(κ, v)]) k = if k = κ then some v else getL S k := by
  rw [getL_append, getL_del]
  by_cases e : k = κ
  · subst e; simp [getL]
  · rw [if_neg e, if_neg e]
    simp [getL, Ne.symm e]
theorem apart_snoc {S : List (Nat × AV)} (h : KeysApart S) (κ : Nat) (v : AV) : KeysApart (delL S κ ++ [(κ, v)]) := by
  unfold KeysApart
  rw [List.pairwise_append]
  refine ⟨apart_del h κ, by simp, ?_⟩
  intro p hp q hq
  simp at hq
  subst hq
  exact (mem_del.1 hp).2
theorem len_snoc {S : List (Nat × AV)} (h : KeysApart S) (κ : Nat) (v : AV) : (delL S κ ++ [(κ, v)]).length = if (getL S κ).isSome then S.length else S.length + 1 := by
  rw [List.length_append, len_del h]
  cases hg : getL S κ with
  | none => simp
  | some x =>
    have : 0 < S.length := List.length_pos_of_mem (getL_mem hg)
    simp; omega
theorem TrieAt.putNew {κ b : Nat} (h : TrieAt tT tN z W tb N S most) (hb : N κ = some b) (hno : getL S κ = none) (v : AV) :
    TrieAt tT tN z (setAV ((W.setCell ⟨b, 2, none⟩ (.bool true)).setCell ⟨tb, 2, none⟩ (.int .i64 ((S.length : Int) + 1))) b v) tb N (delL S κ ++ [(κ, v)]) most := by
  have hne : b ≠ tb := fun e => h.top κ (e ▸ hb)
  refine h.turn hb ?_ ?_ ?_ ?_ (apart_snoc h.ap κ v)
  · rw [setAV_other (Ne.symm hne), set_same ((set_other _ _ _ (Ne.symm hne)).trans h.row)]
    congr 2
    have e := len_snoc h.ap κ v
    rw [hno] at e
    simp only [trieC, e]
    rfl
  · have r1 := set_same (h.node κ b hb) 2 (.bool true)
    have r2 : ((W.setCell ⟨b, 2, none⟩ (.bool true)).setCell ⟨tb, 2, none⟩ (.int .i64 ((S.length : Int) + 1))).heap[b]? = _ := (set_other _ _ _ hne).trans r1
    rw [setAV_row r2]
    simp [nodeC, getL_snoc]
  · intro g h1 h2
    rw [setAV_other h2, set_other _ _ _ h1, set_other _ _ _ h2]
  · intro k hk
    rw [getL_snoc, if_neg hk]
theorem TrieAt.putOld {κ b : Nat} (h : TrieAt tT tN z W tb N S most) (hb : N κ = some b) (hy : (getL S κ).isSome = true) (v : AV) :
    TrieAt tT tN z (setAV W b v) tb N (delL S κ ++ [(κ, v)]) most := by
  have hne : b ≠ tb := fun e => h.top κ (e ▸ hb)
  refine h.turn hb ?_ ?_ ?_ ?_ (apart_snoc h.ap κ v)
  · rw [setAV_other (Ne.symm hne), h.row, trieC, trieC, len_snoc h.ap, hy]
    rfl
  · rw [setAV_row (h.node κ b hb)]
    simp [nodeC, getL_snoc, hy]
  · intro g h1 h2
    rw [setAV_other h2]
  · intro k hk
    rw [getL_snoc, if_neg hk]
theorem TrieAt.dropAt {κ b : Nat} (h : TrieAt tT tN z W tb N S most) (hb : N κ = some b) (hy : (getL S κ).isSome = true) (hrow : W'.heap[b]? = some (.cells (nodeR (ptrN (N (2 * κ))) (ptrN (N (2 * κ + 1))) (.bool false) z) tN (0, 0))) (hoth : ∀ g, g < W.heap.size → g ≠ b → W'.heap[g]? = W.heap[g]?) :
    TrieAt tT tN z (W'.setCell ⟨tb, 2, none⟩ (.int .i64 ((S.length : Int) - 1))) tb N (delL S κ) most := by
  have hne : b ≠ tb := fun e => h.top κ (e ▸ hb)
  refine ⟨?_, ?_, h.inj, h.top, h.up, h.pos, ?_, h.deep, apart_del h.ap κ⟩
  · rw [set_same ((hoth _ h.lt (Ne.symm hne)).trans h.row)]
    congr 2
    have hp : 0 < S.length := by
      obtain ⟨v, hv⟩ := Option.isSome_iff_exists.1 hy
      exact List.length_pos_of_mem (getL_mem hv)
    have e := len_del h.ap κ
    rw [hy] at e
    simp only [if_true] at e
    simp only [trieC, e]
    simp
    omega
  · intro k c hk
    have hct : c ≠ tb := fun x => h.top k (x ▸ hk)
    rw [set_other _ _ _ hct]
    by_cases e : k = κ
    · subst e
      rw [hb] at hk
      obtain rfl := Option.some.inj hk
      rw [hrow]
      simp [nodeC, getL_del]
    · rw [hoth c (h.nlt hk) (fun x => e (h.inj _ _ _ hk (x ▸ hb))), h.node k c hk]
      simp only [nodeC, getL_del, if_neg e]
  · intro p hp
    exact h.dom _ (mem_del.1 hp).1
end
end Go.Proofs.Ytadlecnlgkhneaa
