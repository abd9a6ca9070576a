/-
  CANDIDATES that a caller hands in, opened, with the reach of their slices.
-/
import Derived.Test.YtfkplbkllmnfeaaChD
import Derived.Test.YtfkplbkllmnfeaaSz
namespace Go.Proofs.Ytfkplbkllmnfeaa
open Go.RowKit Go.ChangeShapes Go.WideShapes

section
variable {H : Type} {enc : TypeId × Value → H} {w : World} {base : Nat} {spare : Nat → Bool} {held : Bool}
theorem sl_cand_sz {f : Nat} {cs : List Value} {x : DataW H × List MemPlace} (h : DataW.trod enc Try.prog w base spare held f 35 cs = some x) (hz : Sz Try.prog 35 x.1) : ∃ c : Cd, CdC w c cs ∧ AtSz c.a := by
  obtain ⟨xs, n, _, hxe, hl, hxl, hf⟩ := DataW.trod_struct Try.underlying35 h
  rw [hxe] at hz
  have hc14 : Try.prog.cellsOf 35 = 14 := by kernel_rfl
  have hcr : Try.prog.cellsOf 33 = 13 := by kernel_rfl
  have hci : Try.prog.cellsOf 24 = 1 := by kernel_rfl
  have hcb : Try.prog.cellsOf 3 = 1 := by kernel_rfl
  have hc2 : Try.prog.cellsOf 26 = 2 := by kernel_rfl
  have hca : Try.prog.cellsOf 31 = 10 := by kernel_rfl
  rw [hc14] at hl
  match cs, hl with
  | [c0, c1, c2, c3, c4, c5, c6, c7, c8, c9, c10, c11, c12, c13], _ =>
    match xs, hxl with
    | [x0, x1], _ =>
      have e0 := hf 0 _ rfl
      have e1 := hf 1 _ rfl
      simp [hcr, hci] at e0 e1
      obtain ⟨id, hid, iid⟩ := sl_u32 e1
      simp at hid
      have hz0 := sz_field Try.underlying35 hz (j := 0) rfl rfl
      obtain ⟨ys, m, _, hye, _, hyl, hg⟩ := DataW.trod_struct Try.underlying33 e0
      rw [hye] at hz0
      match ys, hyl with
      | [y0, y1, y2], _ =>
        have g0 := hg 0 _ rfl
        have g1 := hg 1 _ rfl
        have g2 := hg 2 _ rfl
        simp [hcb, hc2, hca] at g0 g1 g2
        obtain ⟨peer, hp, ip⟩ := sl_i64 g0
        obtain ⟨na, nl, ia, il, hn⟩ := sl_pref g1
        obtain ⟨a, ⟨vp, vc, vo, ha, ra, la⟩, sa⟩ := sl_attrs_sz g2 (sz_field Try.underlying33 hz0 (j := 2) rfl rfl)
        simp [atV] at hp hn ha
        obtain ⟨rfl, rfl⟩ := hn
        obtain ⟨rfl, rfl, rfl, rfl, rfl, rfl, rfl, rfl, rfl, rfl⟩ := ha
        subst hp; subst hid
        exact ⟨⟨peer, na, nl, a, id⟩, ⟨c5, c11, c12, rfl, ⟨ip, ia, il, ra, iid⟩, la⟩, sa⟩
theorem open_cands_sz {v : Value} {d : DataW H} {p : List MemPlace} {r : Reach} {b0 : Nat} (hv : Value.okWide Try.prog w r b0 40 v) (h : DataW.Trod enc Try.prog w base spare held 40 v d p) (hz : Sz Try.prog 40 d) : ∃ xs : List Cd, CdsAt w v xs ∧ ∀ c ∈ xs, AtSz c.a := by
  obtain ⟨fuel, h⟩ := h
  have hvc : v.cells.toList = [v] := by
    simp only [Value.okWide, Try.underlying40] at hv
    cases v <;> first | rfl | (simp [Cell.okWide, Cell.ok, Try.underlying40] at hv)
  rw [hvc] at h
  obtain ⟨v', xs, hv', hS, _, hZ⟩ := open_sl_sz (k := 14) (bs := Try.prog.bytesOf 35) (R := CdC w) (S := fun c => AtSz c.a) Try.underlying40 (by kernel_rfl) rfl (by decide) (fun _ _ _ h hz => sl_cand_sz h hz) h hz
  injection hv' with hv' _
  subst hv'
  exact ⟨xs, hS, hZ⟩
end
end Go.Proofs.Ytfkplbkllmnfeaa
