/-
  ATTRIBUTES: what they hold, in memory; attributes that a caller hands in, opened.
-/
import Derived.Test.YtadlecnlgkhneaaSl
namespace Go.Proofs.Ytadlecnlgkhneaa
open Go.RowKit Go.ChangeShapes Go.WideShapes

abbrev Sg := Bool × List Int
abbrev Oth := Int × List Nat
structure At where
  has : Int
  origin : Int
  path : List Sg
  hop : Nat
  med : Int
  loc : Int
  aggrAs : Int
  aggrId : Nat
  comms : List Int
  others : List Oth
def ByteC (n : Nat) (cs : List Value) : Prop := cs = [.int .u8 n] ∧ n < 256
abbrev BytesAt (w : World) (v : Value) (xs : List Nat) : Prop := SlAt w 1 ByteC v xs
def SegC (w : World) (s : Sg) (cs : List Value) : Prop := ∃ u, cs = [.bool s.1, u] ∧ IntsAt w u s.2
def OthC (w : World) (o : Oth) (cs : List Value) : Prop := ∃ u, cs = [.int .i64 o.1, u] ∧ I64r o.1 ∧ BytesAt w u o.2
abbrev PathAt (w : World) (v : Value) (p : List Sg) : Prop := SlAt w 2 (SegC w) v p
abbrev OthersAt (w : World) (v : Value) (os : List Oth) : Prop := SlAt w 2 (OthC w) v os
theorem BytesAt.below {w w' : World} {v : Value} {xs : List Nat} (h : BytesAt w v xs) (hb : Below w.heap.size w w') : BytesAt w' v xs := SlAt.below h hb fun _ _ h => h
theorem SegC.below {w w' : World} {s : Sg} {cs : List Value} (h : SegC w s cs) (hb : Below w.heap.size w w') : SegC w' s cs := by
  obtain ⟨u, h1, h2⟩ := h; exact ⟨u, h1, h2.below hb⟩
theorem OthC.below {w w' : World} {s : Oth} {cs : List Value} (h : OthC w s cs) (hb : Below w.heap.size w w') : OthC w' s cs := by
  obtain ⟨u, h1, h2, h3⟩ := h; exact ⟨u, h1, h2, h3.below hb⟩
theorem PathAt.below {w w' : World} {v : Value} {p : List Sg} (h : PathAt w v p) (hb : Below w.heap.size w w') : PathAt w' v p := SlAt.below h hb fun _ _ h => h.below hb
theorem OthersAt.below {w w' : World} {v : Value} {p : List Oth} (h : OthersAt w v p) (hb : Below w.heap.size w w') : OthersAt w' v p := SlAt.below h hb fun _ _ h => h.below hb
/-- the values of attributes: three of them are slices. -/
def atV (a : At) (vp vc vo : Value) : List Value := [.int .i64 a.has, .int .i64 a.origin, vp, .int .u32 a.hop, .int .i64 a.med, .int .i64 a.loc, .int .i64 a.aggrAs, .int .u32 a.aggrId, vc, vo]
def At.Rng (a : At) : Prop := I64r a.has ∧ I64r a.origin ∧ a.hop < 4294967296 ∧ I64r a.med ∧ I64r a.loc ∧ I64r a.aggrAs ∧ a.aggrId < 4294967296
def AtL (w : World) (a : At) (vp vc vo : Value) : Prop := PathAt w vp a.path ∧ IntsAt w vc a.comms ∧ OthersAt w vo a.others
theorem AtL.below {w w' : World} {a : At} {vp vc vo : Value} (h : AtL w a vp vc vo) (hb : Below w.heap.size w w') : AtL w' a vp vc vo := ⟨h.1.below hb, h.2.1.below hb, h.2.2.below hb⟩
def AtC (w : World) (a : At) (cs : List Value) : Prop := ∃ vp vc vo, cs = atV a vp vc vo ∧ a.Rng ∧ AtL w a vp vc vo
theorem AtC.below {w w' : World} {a : At} {cs : List Value} (h : AtC w a cs) (hb : Below w.heap.size w w') : AtC w' a cs := by
  obtain ⟨vp, vc, vo, h1, h2, h3⟩ := h; exact ⟨vp, vc, vo, h1, h2, h3.below hb⟩
section
variable {H : Type} {enc : TypeId × Value → H} {w : World} {base : Nat} {spare : Nat → Bool} {held : Bool}
theorem sl_u32 {f : Nat} {c : List Value} {y : DataW H × List MemPlace} (h : DataW.trod enc Try.prog w base spare held f 27 c = some y) : ∃ n : Nat, c = [.int .u32 n] ∧ n < 4294967296 := by
  obtain ⟨n, h1, _, h2⟩ := DataW.trod_int Try.underlying27 h
  simp [Lit.wf, IntKind.min, IntKind.max, IntKind.bits, IntKind.signed] at h2
  obtain ⟨m, rfl⟩ := Int.eq_ofNat_of_zero_le (show 0 ≤ n by omega)
  exact ⟨m, h1, by omega⟩
theorem sl_u8 {f : Nat} {c : List Value} {y : DataW H × List MemPlace} (h : DataW.trod enc Try.prog w base spare held f 5 c = some y) : ∃ n : Nat, ByteC n c := by
  obtain ⟨n, h1, _, h2⟩ := DataW.trod_int Try.underlying5 h
  simp [Lit.wf, IntKind.min, IntKind.max, IntKind.bits, IntKind.signed] at h2
  obtain ⟨m, rfl⟩ := Int.eq_ofNat_of_zero_le (show 0 ≤ n by omega)
  exact ⟨m, h1, by omega⟩
theorem sl_ints {f : Nat} {c : List Value} {y : DataW H × List MemPlace} (h : DataW.trod enc Try.prog w base spare held f 32 c = some y) : ∃ v xs, c = [v] ∧ IntsAt w v xs :=
  open_sl Try.underlying32 (by kernel_rfl) (by decide) (fun _ _ _ h => sl_i64 h) h
theorem sl_bytes {f : Nat} {c : List Value} {y : DataW H × List MemPlace} (h : DataW.trod enc Try.prog w base spare held f 95 c = some y) : ∃ v xs, c = [v] ∧ BytesAt w v xs :=
  open_sl Try.underlying95 (by kernel_rfl) (by decide) (fun _ _ _ h => sl_u8 h) h
set_option maxRecDepth 100000 in
theorem sl_seg {f : Nat} {cs : List Value} {x : DataW H × List MemPlace} (h : DataW.trod enc Try.prog w base spare held f 54 cs = some x) : ∃ s : Sg, SegC w s cs := by
  obtain ⟨xs, n, _, _, hl, hxl, hf⟩ := DataW.trod_struct Try.underlying54 h
  have hc2 : Try.prog.cellsOf 54 = 2 := by kernel_rfl
  have hcb : Try.prog.cellsOf 4 = 1 := by kernel_rfl
  have hci : Try.prog.cellsOf 32 = 1 := by kernel_rfl
  rw [hc2] at hl
  match cs, hl with
  | [c0, c1], _ =>
    match xs, hxl with
    | [x0, x1], _ =>
      have e0 := hf 0 _ rfl
      have e1 := hf 1 _ rfl
      simp [hcb, hci] at e0 e1
      obtain ⟨s, hs, _⟩ := DataW.trod_bool Try.underlying4 e0
      obtain ⟨v, l, hv, hi⟩ := sl_ints e1
      simp at hs hv
      subst hs; subst hv
      exact ⟨(s, l), c1, rfl, hi⟩
set_option maxRecDepth 100000 in
theorem sl_other {f : Nat} {cs : List Value} {x : DataW H × List MemPlace} (h : DataW.trod enc Try.prog w base spare held f 97 cs = some x) : ∃ s : Oth, OthC w s cs := by
  obtain ⟨xs, n, _, _, hl, hxl, hf⟩ := DataW.trod_struct Try.underlying97 h
  have hc2 : Try.prog.cellsOf 97 = 2 := by kernel_rfl
  have hcb : Try.prog.cellsOf 3 = 1 := by kernel_rfl
  have hci : Try.prog.cellsOf 95 = 1 := by kernel_rfl
  rw [hc2] at hl
  match cs, hl with
  | [c0, c1], _ =>
    match xs, hxl with
    | [x0, x1], _ =>
      have e0 := hf 0 _ rfl
      have e1 := hf 1 _ rfl
      simp [hcb, hci] at e0 e1
      obtain ⟨s, hs, ir⟩ := sl_i64 e0
      obtain ⟨v, l, hv, hi⟩ := sl_bytes e1
      simp at hs hv
      subst hs; subst hv
      exact ⟨(s, l), c1, rfl, ir, hi⟩
set_option maxRecDepth 100000 in
theorem sl_attrs {f : Nat} {cs : List Value} {x : DataW H × List MemPlace} (h : DataW.trod enc Try.prog w base spare held f 35 cs = some x) : ∃ a : At, AtC w a cs := by
  obtain ⟨xs, n, _, _, hl, hxl, hf⟩ := DataW.trod_struct Try.underlying35 h
  have hc : Try.prog.cellsOf 35 = 10 := by kernel_rfl
  have hc0 : Try.prog.cellsOf 3 = 1 := by kernel_rfl
  have hc1 : Try.prog.cellsOf 31 = 1 := by kernel_rfl
  have hc2 : Try.prog.cellsOf 27 = 1 := by kernel_rfl
  have hc3 : Try.prog.cellsOf 32 = 1 := by kernel_rfl
  have hc4 : Try.prog.cellsOf 33 = 1 := by kernel_rfl
  rw [hc] at hl
  match cs, hl with
  | [c0, c1, c2, c3, c4, c5, c6, c7, c8, c9], _ =>
    match xs, hxl with
    | [x0, x1, x2, x3, x4, x5, x6, x7, x8, x9], _ =>
      have e0 := hf 0 _ rfl
      have e1 := hf 1 _ rfl
      have e2 := hf 2 _ rfl
      have e3 := hf 3 _ rfl
      have e4 := hf 4 _ rfl
      have e5 := hf 5 _ rfl
      have e6 := hf 6 _ rfl
      have e7 := hf 7 _ rfl
      have e8 := hf 8 _ rfl
      have e9 := hf 9 _ rfl
      simp [hc0, hc1, hc2, hc3, hc4] at e0 e1 e2 e3 e4 e5 e6 e7 e8 e9
      obtain ⟨has, q0, i0⟩ := sl_i64 e0
      obtain ⟨origin, q1, i1⟩ := sl_i64 e1
      obtain ⟨vp, path, q2, i2⟩ := open_sl (k := 2) (R := SegC w) Try.underlying31 (by kernel_rfl) (by decide) (fun _ _ _ h => sl_seg h) e2
      obtain ⟨hop, q3, i3⟩ := sl_u32 e3
      obtain ⟨med, q4, i4⟩ := sl_i64 e4
      obtain ⟨loc, q5, i5⟩ := sl_i64 e5
      obtain ⟨aggrAs, q6, i6⟩ := sl_i64 e6
      obtain ⟨aggrId, q7, i7⟩ := sl_u32 e7
      obtain ⟨vc, comms, q8, i8⟩ := sl_ints e8
      obtain ⟨vo, others, q9, i9⟩ := open_sl (k := 2) (R := OthC w) Try.underlying33 (by kernel_rfl) (by decide) (fun _ _ _ h => sl_other h) e9
      simp at q0 q1 q2 q3 q4 q5 q6 q7 q8 q9
      subst q0; subst q1; subst q2; subst q3; subst q4; subst q5; subst q6; subst q7; subst q8; subst q9
      exact ⟨⟨has, origin, path, hop, med, loc, aggrAs, aggrId, comms, others⟩, c2, c8, c9, rfl, ⟨i0, i1, i3, i4, i5, i6, i7⟩, i2, i8, i9⟩
end
end Go.Proofs.Ytadlecnlgkhneaa
