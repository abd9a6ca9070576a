/- Texts of one proof, one behind another. -/
import Derived.Test.YtkoidahgbbabiaaGreatLv13
import Derived.Test.YtkoidahgbbabiaaGreatLv11
import Derived.Test.YtkoidahgbbabiaaGreatLv1
/-
  WHAT PEERS SAY, HANDED IN: messages, lists of them, each with the reach of its attributes' slices.
-/
namespace Go.Proofs.YtkoidahgbbabiaaGreat
open Go.RowKit Go.ChangeShapes Go.WideShapes

/-- a message, and what it says. -/
structure Ms where
  m : MV
  gone : List Pf
  nets : List Pf
  a : At
structure MsAt (W : World) (x : Ms) : Prop where
  gone : PsAt W x.m.G x.gone
  nets : PsAt W x.m.N x.nets
  a : AvAt W x.a x.m.a
theorem MsAt.below {W W' : World} {x : Ms} (h : MsAt W x) (hb : Below W.heap.size W W') : MsAt W' x := ⟨PsAt.below h.gone hb, PsAt.below h.nets hb, h.a.below hb⟩
def MsC (W : World) (x : Ms) (cs : List Value) : Prop := cs = x.m.C.toList ∧ MsAt W x
structure MsSz (x : Ms) : Prop where
  a : AtSz x.a
  rng : x.a.Rng
section
variable {H : Type} {enc : TypeId × Value → H} {w : World} {base : Nat} {spare : Nat → Bool} {held : Bool}
set_option maxRecDepth 100000 in
theorem pf_cells {f : Nat} {cs : List Value} {x : DataW H × List MemPlace} (h : DataW.trod enc Tryz.prog w base spare held f 53 cs = some x) : ∃ p : Pf, PfC p cs := by
  obtain ⟨xs, n, _, _, hl, hxl, hf⟩ := DataW.trod_struct Tryz.underlying53 h
  have hc2 : Tryz.prog.cellsOf 53 = 2 := by kernel_rfl
  have hc1 : Tryz.prog.cellsOf 3 = 1 := by kernel_rfl
  have hca : Tryz.prog.cellsOf 36 = 1 := by kernel_rfl
  rw [hc2] at hl
  match cs, hl with
  | [c0, c1], _ =>
    match xs, hxl with
    | [x0, x1], _ =>
      have e0 := hf 0 _ rfl
      have e1 := hf 1 _ rfl
      simp [hc1, hca] at e0 e1
      obtain ⟨a, ha, _, ia⟩ := DataW.trod_int Tryz.underlying36 e0
      obtain ⟨m, hm, _⟩ := DataW.trod_int Tryz.underlying3 e1
      simp [Lit.wf, IntKind.min, IntKind.max, IntKind.bits, IntKind.signed] at ia
      simp at ha hm
      subst ha; subst hm
      exact ⟨(a, m), rfl, by unfold OkP; simp only; omega⟩
set_option maxRecDepth 100000 in
theorem sl_pfs {f : Nat} {c : List Value} {y : DataW H × List MemPlace} (h : DataW.trod enc Tryz.prog w base spare held f 23 c = some y) : ∃ v xs, c = [v] ∧ PsAt w v xs :=
  open_sl Tryz.underlying23 (by kernel_rfl) (by decide) (fun _ _ _ h => pf_cells h) h
set_option maxHeartbeats 1600000 in
set_option maxRecDepth 100000 in
theorem sl_msg_sz {f : Nat} {cs : List Value} {x : DataW H × List MemPlace} (h : DataW.trod enc Tryz.prog w base spare held f 46 cs = some x) (hz : Sz Tryz.prog 46 x.1) : ∃ m : Ms, MsC w m cs ∧ MsSz m := by
  obtain ⟨xs, n, _, hxe, hl, hxl, hf⟩ := DataW.trod_struct Tryz.underlying46 h
  rw [hxe] at hz
  have hc : Tryz.prog.cellsOf 46 = 20 := by kernel_rfl
  have hc0 : Tryz.prog.cellsOf 3 = 1 := by kernel_rfl
  have hc1 : Tryz.prog.cellsOf 36 = 1 := by kernel_rfl
  have hc2 : Tryz.prog.cellsOf 37 = 1 := by kernel_rfl
  have hc3 : Tryz.prog.cellsOf 23 = 1 := by kernel_rfl
  have hc4 : Tryz.prog.cellsOf 42 = 10 := by kernel_rfl
  have hc5 : Tryz.prog.cellsOf 44 = 3 := by kernel_rfl
  rw [hc] at hl
  match cs, hl with
  | [c0, c1, c2, c3, c4, c5, c6, c7, c8, c9, c10, c11, c12, c13, c14, c15, c16, c17, c18, c19], _ =>
    match xs, hxl with
    | [x0, x1, x2, x3, x4, x5, x6, x7, x8], _ =>
      have e0 := hf 0 _ rfl
      have e1 := hf 1 _ rfl
      have e2 := hf 2 _ rfl
      have e3 := hf 3 _ rfl
      have e4 := hf 4 _ rfl
      have e5 := hf 5 _ rfl
      have e6 := hf 6 _ rfl
      have e7 := hf 7 _ rfl
      have e8 := hf 8 _ rfl
      simp [hc0, hc1, hc2, hc3, hc4, hc5] at e0 e1 e2 e3 e4 e5 e6 e7 e8
      obtain ⟨kind, q0, i0⟩ := sl_i64 e0
      obtain ⟨as_, q1, i1⟩ := sl_i64 e1
      obtain ⟨hold, q2, i2⟩ := sl_i64 e2
      obtain ⟨pid, q3, i3⟩ := sl_u32 e3
      obtain ⟨vk, ks, q4, i4⟩ := open_sl (k := Tryz.prog.cellsOf 288) (R := fun (_ : Unit) _ => True) Tryz.underlying37 rfl (of_decide_eq_true (by kernel_rfl)) (fun _ _ _ _ => ⟨(), trivial⟩) e4
      obtain ⟨vg, gone, q5, i5⟩ := sl_pfs e5
      obtain ⟨a, ⟨vp, vc, vo, q6, ir, iA⟩, zA⟩ := sl_attrs_sz e6 (sz_field Tryz.underlying46 hz (j := 6) rfl rfl)
      obtain ⟨vn, nets, q7, i7⟩ := sl_pfs e7
      obtain ⟨ys, _, _, _, _, hyl, hg⟩ := DataW.trod_struct Tryz.underlying44 e8
      obtain ⟨sk, ck, rfl, -⟩ := i4
      obtain ⟨sg, cg, rfl, jg⟩ := id i5
      obtain ⟨sn, cn, rfl, jn⟩ := id i7
      obtain ⟨⟨sp, cp, rfl, jp⟩, ⟨sc, cc, rfl, jc⟩, ⟨so, co, rfl, jo⟩⟩ := id iA
      match ys, hyl with
      | [y0, y1, y2], _ =>
        have g0 := hg 0 _ rfl
        have g1 := hg 1 _ rfl
        have g2 := hg 2 _ rfl
        have hcs : Tryz.prog.cellsOf 9 = 1 := by kernel_rfl
        simp [hc0, hcs] at g0 g1 g2
        obtain ⟨fc, r0, _⟩ := sl_i64 g0
        obtain ⟨fs, r1, _⟩ := sl_i64 g1
        obtain ⟨fd, r2, _⟩ := DataW.trod_string Tryz.underlying9 g2
        simp at q0 q1 q2 q3 q4 q5 q6 q7 r0 r1 r2
        subst q0; subst q1; subst q2; subst q3; subst q4; subst q5; subst q7; subst r0; subst r1; subst r2
        refine ⟨⟨⟨kind, as_, hold, pid, sk, ks.length, ck, sg, gone.length, cg, avOf a sp cp sc cc so co, sn, nets.length, cn, fc, fs, fd⟩, gone, nets, a⟩, ⟨?_, i5, i7, ⟨sp, cp, sc, cc, so, co, rfl, iA⟩⟩, ⟨zA, ir⟩⟩
        simp [atV] at q6
        obtain ⟨h0, h1, h2, h3, h4, h5, h6, h7, h8, h9⟩ := q6
        subst h0; subst h1; subst h2; subst h3; subst h4; subst h5; subst h6; subst h7; subst h8; subst h9
        rfl
end
end Go.Proofs.YtkoidahgbbabiaaGreat
