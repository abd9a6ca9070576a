/-
  CANDIDATES in memory; candidates that a caller hands in, opened.
-/
import Derived.Test.YtfkplbkllmnfeaaChR
import Derived.Test.YtfkplbkllmnfeaaAtK
namespace Go.Proofs.Ytfkplbkllmnfeaa
open Go.RowKit Go.ChangeShapes Go.WideShapes

def Cd.Rng (c : Cd) : Prop := I64r c.peer ∧ c.na < 4294967296 ∧ I64r c.nl ∧ c.a.Rng ∧ c.id < 4294967296
def CdC (w : World) (c : Cd) (cs : List Value) : Prop := ∃ vp vc vo, cs = (cdA c vp vc vo).toList ∧ c.Rng ∧ AtL w c.a vp vc vo
theorem CdC.below {w w' : World} {c : Cd} {cs : List Value} (h : CdC w c cs) (hb : Below w.heap.size w w') : CdC w' c cs := by
  obtain ⟨vp, vc, vo, h1, h2, h3⟩ := h; exact ⟨vp, vc, vo, h1, h2, h3.below hb⟩
abbrev CdsAt (w : World) (v : Value) (xs : List Cd) : Prop := SlAt w 14 (CdC w) v xs
theorem CdsAt.below {w w' : World} {v : Value} {xs : List Cd} (h : CdsAt w v xs) (hb : Below w.heap.size w w') : CdsAt w' v xs := SlAt.below h hb fun _ _ h => h.below hb
section
variable {H : Type} {enc : TypeId × Value → H} {w : World} {base : Nat} {spare : Nat → Bool} {held : Bool}
theorem sl_pref {f : Nat} {cs : List Value} {x : DataW H × List MemPlace} (h : DataW.trod enc Try.prog w base spare held f 26 cs = some x) : ∃ (a : Nat) (n : Int), a < 4294967296 ∧ I64r n ∧ cs = [.int .u32 a, .int .i64 n] := by
  obtain ⟨xs, n, _, _, hl, hxl, hf⟩ := DataW.trod_struct Try.underlying26 h
  have hc2 : Try.prog.cellsOf 26 = 2 := by kernel_rfl
  have hcb : Try.prog.cellsOf 3 = 1 := by kernel_rfl
  have hci : Try.prog.cellsOf 24 = 1 := by kernel_rfl
  rw [hc2] at hl
  match cs, hl with
  | [c0, c1], _ =>
    match xs, hxl with
    | [x0, x1], _ =>
      have e0 := hf 0 _ rfl
      have e1 := hf 1 _ rfl
      simp [hcb, hci] at e0 e1
      obtain ⟨a, ha, ir⟩ := sl_u32 e0
      obtain ⟨m, hm, im⟩ := sl_i64 e1
      simp at ha hm
      subst ha; subst hm
      exact ⟨a, m, ir, im, rfl⟩
theorem sl_cand {f : Nat} {cs : List Value} {x : DataW H × List MemPlace} (h : DataW.trod enc Try.prog w base spare held f 35 cs = some x) : ∃ c : Cd, CdC w c cs := by
  obtain ⟨xs, n, _, _, hl, hxl, hf⟩ := DataW.trod_struct Try.underlying35 h
  have hc14 : Try.prog.cellsOf 35 = 14 := by kernel_rfl
  have hcr : Try.prog.cellsOf 33 = 13 := by kernel_rfl
  have hci : Try.prog.cellsOf 24 = 1 := by kernel_rfl
  have hcb : Try.prog.cellsOf 3 = 1 := by kernel_rfl
  have hc2 : Try.prog.cellsOf 26 = 2 := by kernel_rfl
  have hca : Try.prog.cellsOf 31 = 10 := by kernel_rfl
  rw [hc14] at hl
  match cs, hl with
  | [c0, c1, c2, c3, c4, c5, c6, c7, c8, c9, c10, c11, c12, c13], _ =>
    match xs, hxl with
    | [x0, x1], _ =>
      have e0 := hf 0 _ rfl
      have e1 := hf 1 _ rfl
      simp [hcr, hci] at e0 e1
      obtain ⟨id, hid, iid⟩ := sl_u32 e1
      simp at hid
      obtain ⟨ys, m, _, _, _, hyl, hg⟩ := DataW.trod_struct Try.underlying33 e0
      match ys, hyl with
      | [y0, y1, y2], _ =>
        have g0 := hg 0 _ rfl
        have g1 := hg 1 _ rfl
        have g2 := hg 2 _ rfl
        simp [hcb, hc2, hca] at g0 g1 g2
        obtain ⟨peer, hp, ip⟩ := sl_i64 g0
        obtain ⟨na, nl, ia, il, hn⟩ := sl_pref g1
        obtain ⟨a, vp, vc, vo, ha, ra, la⟩ := sl_attrs g2
        simp [atV] at hp hn ha
        obtain ⟨rfl, rfl⟩ := hn
        obtain ⟨rfl, rfl, rfl, rfl, rfl, rfl, rfl, rfl, rfl, rfl⟩ := ha
        subst hp; subst hid
        exact ⟨⟨peer, na, nl, a, id⟩, c5, c11, c12, rfl, ⟨ip, ia, il, ra, iid⟩, la⟩
theorem open_cands {v : Value} {d : DataW H} {p : List MemPlace} {r : Reach} {b0 : Nat} (hv : Value.okWide Try.prog w r b0 40 v) (h : DataW.Trod enc Try.prog w base spare held 40 v d p) : ∃ xs : List Cd, CdsAt w v xs := by
  obtain ⟨fuel, h⟩ := h
  have hvc : v.cells.toList = [v] := by
    simp only [Value.okWide, Try.underlying40] at hv
    cases v <;> first | rfl | (simp [Cell.okWide, Cell.ok, Try.underlying40] at hv)
  rw [hvc] at h
  obtain ⟨v', xs, hv', hS⟩ := open_sl (k := 14) (R := CdC w) Try.underlying40 (by kernel_rfl) (by decide) (fun _ _ _ h => sl_cand h) h
  injection hv' with hv' _
  subst hv'
  exact ⟨xs, hS⟩
end
/-- the cells of a candidate in a slice. -/
theorem cd_cells {w : World} {b off i : Nat} {c : Cd} {vp vc vo : Value} (hc : ∀ (j : Nat) (u : Value), (cdA c vp vc vo).toList[j]? = some u → w.cell? ⟨b, off + i * 14 + j, none⟩ = some u) :
    w.cell? ⟨b, off + i * 14, none⟩ = some (.int .i64 c.peer) ∧ w.cell? ⟨b, off + i * 14 + 1, none⟩ = some (.int .u32 c.na) ∧ w.cell? ⟨b, off + i * 14 + 2, none⟩ = some (.int .i64 c.nl) ∧ w.cell? ⟨b, off + i * 14 + 3, none⟩ = some (.int .i64 c.a.has) ∧ w.cell? ⟨b, off + i * 14 + 4, none⟩ = some (.int .i64 c.a.origin) ∧
    w.cell? ⟨b, off + i * 14 + 5, none⟩ = some vp ∧ w.cell? ⟨b, off + i * 14 + 6, none⟩ = some (.int .u32 c.a.hop) ∧ w.cell? ⟨b, off + i * 14 + 7, none⟩ = some (.int .i64 c.a.med) ∧ w.cell? ⟨b, off + i * 14 + 8, none⟩ = some (.int .i64 c.a.loc) ∧ w.cell? ⟨b, off + i * 14 + 9, none⟩ = some (.int .i64 c.a.aggrAs) ∧
    w.cell? ⟨b, off + i * 14 + 10, none⟩ = some (.int .u32 c.a.aggrId) ∧ w.cell? ⟨b, off + i * 14 + 11, none⟩ = some vc ∧ w.cell? ⟨b, off + i * 14 + 12, none⟩ = some vo ∧ w.cell? ⟨b, off + i * 14 + 13, none⟩ = some (.int .u32 c.id) :=
  ⟨hc 0 _ rfl, hc 1 _ rfl, hc 2 _ rfl, hc 3 _ rfl, hc 4 _ rfl, hc 5 _ rfl, hc 6 _ rfl, hc 7 _ rfl, hc 8 _ rfl, hc 9 _ rfl, hc 10 _ rfl, hc 11 _ rfl, hc 12 _ rfl, hc 13 _ rfl⟩
theorem cd_row {W : World} {b : Nat} {c : Cd} {vp vc vo : Value} {T : TypeId} (q : W.heap[b]? = some (.cells (cdA c vp vc vo) T (0, 0))) :
    W.cell? ⟨b, 0, none⟩ = some (.int .i64 c.peer) ∧ W.cell? ⟨b, 1, none⟩ = some (.int .u32 c.na) ∧ W.cell? ⟨b, 2, none⟩ = some (.int .i64 c.nl) ∧ W.cell? ⟨b, 3, none⟩ = some (.int .i64 c.a.has) ∧ W.cell? ⟨b, 4, none⟩ = some (.int .i64 c.a.origin) ∧ W.cell? ⟨b, 5, none⟩ = some vp ∧ W.cell? ⟨b, 6, none⟩ = some (.int .u32 c.a.hop) ∧ W.cell? ⟨b, 7, none⟩ = some (.int .i64 c.a.med) ∧ W.cell? ⟨b, 8, none⟩ = some (.int .i64 c.a.loc) ∧ W.cell? ⟨b, 9, none⟩ = some (.int .i64 c.a.aggrAs) ∧ W.cell? ⟨b, 10, none⟩ = some (.int .u32 c.a.aggrId) ∧ W.cell? ⟨b, 11, none⟩ = some vc ∧ W.cell? ⟨b, 12, none⟩ = some vo ∧ W.cell? ⟨b, 13, none⟩ = some (.int .u32 c.id) :=
  ⟨row_cell q 0, row_cell q 1, row_cell q 2, row_cell q 3, row_cell q 4, row_cell q 5, row_cell q 6, row_cell q 7, row_cell q 8, row_cell q 9, row_cell q 10, row_cell q 11, row_cell q 12, row_cell q 13⟩
end Go.Proofs.Ytfkplbkllmnfeaa
