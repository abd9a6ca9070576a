/-
  HeadGets: any field's number of any header, and whether all fit; for every header and every number of a field. The condition: the table of widths is as the program's text lays it, which the card ties.
-/
import Derived.Test.YtbodkbaafaamlaaDoorGetsWalk
import Derived.Test.YtbodkbaafaamlaaDoorCards
import Derived.Test.YtbodkbaafaamlaaDoorTie
import Derived.Deep.DeepHandedRow
namespace Go.Proofs.YtbodkbaafaamlaaDoor
open Go.RowKit

theorem open_field {w : World} {r : Reach} {b : Nat} {v : Value} (h : Value.okWide Tryd.prog w r b 22 v) : ∃ n, v = .int .i64 n ∧ -9223372036854775808 ≤ n ∧ n ≤ 9223372036854775807 := by
  simp only [Value.okWide, Tryd.underlying22] at h
  obtain ⟨n, rfl, hn⟩ := cell_int Tryd.underlying22 h
  exact ⟨n, rfl, has_i64 hn⟩
theorem open_header {w : World} {r : Reach} {b : Nat} {v : Value} (h : Value.okWide Tryd.prog w r b 33 v) : ∃ x : Hdr, v = hdrV x ∧ x.Ok := by
  simp only [Value.okWide, Tryd.underlying33] at h
  obtain ⟨cs, rfl, hsz, ts, hts, _, hc⟩ := h
  have e : Tryd.prog.cellTypes Tryd.prog.depth 33 = some [3, 5, 5, 5, 5, 5, 5, 5, 5, 5, 5, 5, 5, 3, 31, 31, 3, 3, 3] := by kernel_rfl
  rw [e] at hts
  obtain rfl := Option.some.inj hts
  have hn : Tryd.prog.cellsOf 33 = 19 := by kernel_rfl
  rw [hn] at hsz
  have hb : ∀ v : Value, Cell.okWide Tryd.prog w r b 5 v → ∃ n, v = .int .u8 n ∧ Byte n := fun v hv => by
    obtain ⟨n, rfl, hn⟩ := cell_int Tryd.underlying5 hv
    refine ⟨n, rfl, ?_⟩
    simp [IntKind.has, IntKind.min, IntKind.max, IntKind.bits, IntKind.signed] at hn
    unfold Byte; omega
  have hi : ∀ v : Value, Cell.okWide Tryd.prog w r b 3 v → ∃ n, v = .int .i64 n ∧ I64 n := fun v hv => by
    obtain ⟨n, rfl, hn⟩ := cell_int Tryd.underlying3 hv
    exact ⟨n, rfl, has_i64 hn⟩
  have ha : ∀ v : Value, Cell.okWide Tryd.prog w r b 31 v → ∃ n, v = .int .u32 n ∧ U32 n := fun v hv => by
    obtain ⟨n, rfl, hn⟩ := cell_int Tryd.underlying31 hv
    refine ⟨n, rfl, ?_⟩
    simp [IntKind.has, IntKind.min, IntKind.max, IntKind.bits, IntKind.signed] at hn
    unfold U32; omega
  match cs, hsz with
  | ⟨[v0, v1, v2, v3, v4, v5, v6, v7, v8, v9, v10, v11, v12, v13, v14, v15, v16, v17, v18]⟩, _ =>
    obtain ⟨u0, hu0, g0⟩ := hc 0 v0 (by simp)
    simp at hu0
    subst hu0
    obtain ⟨b0, rfl, k0⟩ := hi _ g0
    obtain ⟨u1, hu1, g1⟩ := hc 1 v1 (by simp)
    simp at hu1
    subst hu1
    obtain ⟨b1, rfl, k1⟩ := hb _ g1
    obtain ⟨u2, hu2, g2⟩ := hc 2 v2 (by simp)
    simp at hu2
    subst hu2
    obtain ⟨b2, rfl, k2⟩ := hb _ g2
    obtain ⟨u3, hu3, g3⟩ := hc 3 v3 (by simp)
    simp at hu3
    subst hu3
    obtain ⟨b3, rfl, k3⟩ := hb _ g3
    obtain ⟨u4, hu4, g4⟩ := hc 4 v4 (by simp)
    simp at hu4
    subst hu4
    obtain ⟨b4, rfl, k4⟩ := hb _ g4
    obtain ⟨u5, hu5, g5⟩ := hc 5 v5 (by simp)
    simp at hu5
    subst hu5
    obtain ⟨b5, rfl, k5⟩ := hb _ g5
    obtain ⟨u6, hu6, g6⟩ := hc 6 v6 (by simp)
    simp at hu6
    subst hu6
    obtain ⟨b6, rfl, k6⟩ := hb _ g6
    obtain ⟨u7, hu7, g7⟩ := hc 7 v7 (by simp)
    simp at hu7
    subst hu7
    obtain ⟨b7, rfl, k7⟩ := hb _ g7
    obtain ⟨u8, hu8, g8⟩ := hc 8 v8 (by simp)
    simp at hu8
    subst hu8
    obtain ⟨b8, rfl, k8⟩ := hb _ g8
    obtain ⟨u9, hu9, g9⟩ := hc 9 v9 (by simp)
    simp at hu9
    subst hu9
    obtain ⟨b9, rfl, k9⟩ := hb _ g9
    obtain ⟨u10, hu10, g10⟩ := hc 10 v10 (by simp)
    simp at hu10
    subst hu10
    obtain ⟨b10, rfl, k10⟩ := hb _ g10
    obtain ⟨u11, hu11, g11⟩ := hc 11 v11 (by simp)
    simp at hu11
    subst hu11
    obtain ⟨b11, rfl, k11⟩ := hb _ g11
    obtain ⟨u12, hu12, g12⟩ := hc 12 v12 (by simp)
    simp at hu12
    subst hu12
    obtain ⟨b12, rfl, k12⟩ := hb _ g12
    obtain ⟨u13, hu13, g13⟩ := hc 13 v13 (by simp)
    simp at hu13
    subst hu13
    obtain ⟨b13, rfl, k13⟩ := hi _ g13
    obtain ⟨u14, hu14, g14⟩ := hc 14 v14 (by simp)
    simp at hu14
    subst hu14
    obtain ⟨b14, rfl, k14⟩ := ha _ g14
    obtain ⟨u15, hu15, g15⟩ := hc 15 v15 (by simp)
    simp at hu15
    subst hu15
    obtain ⟨b15, rfl, k15⟩ := ha _ g15
    obtain ⟨u16, hu16, g16⟩ := hc 16 v16 (by simp)
    simp at hu16
    subst hu16
    obtain ⟨b16, rfl, k16⟩ := hi _ g16
    obtain ⟨u17, hu17, g17⟩ := hc 17 v17 (by simp)
    simp at hu17
    subst hu17
    obtain ⟨b17, rfl, k17⟩ := hi _ g17
    obtain ⟨u18, hu18, g18⟩ := hc 18 v18 (by simp)
    simp at hu18
    subst hu18
    obtain ⟨b18, rfl, k18⟩ := hi _ g18
    exact ⟨⟨b0, b1, b2, b3, b4, b5, b6, b7, b8, b9, b10, b11, b12, b13, b14, b15, b16, b17, b18⟩, rfl, ⟨k0, ⟨k1, k2, k3, k4, k5, k6⟩, ⟨k7, k8, k9, k10, k11, k12⟩, k13, k14, k15, k16, k17, k18⟩⟩
namespace headGets
open Go.ChangeShapes Go.WideShapes Go.ChangeAt Go.RowKit
set_option linter.unusedVariables false
set_option maxRecDepth 100000 in
theorem contract (H : Type) (enc : TypeId × Value → H) (W : World) (base : Nat) (args : Array Value) (ds gs : List (DataW H)) (before : List MemPlace)
    (hval : ∀ (j : Nat) t v, Tryd.f5.params[j]? = some t → args[j]? = some v → Value.okWide Tryd.prog W .any base t v)
    (hW : DataW.Whole enc Tryd.prog Tryd.f5.params.toList Rows.headGetsSpec.vars false W args.toList ds gs before) (hL : laidMetH Tryd.prog Rows.headGetsRow.laid W) :
    Calls Tryd.prog 5 args W fun e W' => ∃ v, e = .returned v ∧ Rows.headGetsSpec.post enc Tryd.prog Tryd.f5 false true false false W args v W' := by
  have hW' := hW
  obtain ⟨p, q, hA0, hV, rfl, hfz, hnd⟩ := hW
  have hA : DataW.TrodAll enc Tryd.prog W 0 (fun _ => true) true Tryd.f5.params.toList args.toList ds p := hA0
  rw [Tryd.params5] at hA hval
  obtain ⟨v0, vs0, d0, ds0, p0, q0, hargs, rfl, rfl, h0, r0⟩ := trodAll_cons hA
  obtain ⟨v1, vs1, d1, ds1, p1, q1, rfl, rfl, rfl, h1, r1⟩ := trodAll_cons r0
  obtain ⟨rfl, rfl, rfl⟩ := trodAll_nil r1
  obtain rfl : args = #[v0, v1] := by cases args; simp_all
  obtain ⟨rfl, rfl⟩ := trodVars_none hV
  have lt0 : ∀ x ∈ p0, x.block < W.heap.size := by obtain ⟨m, hm⟩ := h0; exact DataW.trod_lt m _ _ _ hm
  have lt1 : ∀ x ∈ p1, x.block < W.heap.size := by obtain ⟨m, hm⟩ := h1; exact DataW.trod_lt m _ _ _ hm
  obtain ⟨x, rfl, ox⟩ := open_header (hval 0 33 v0 rfl rfl)
  obtain ⟨f, rfl, f0, f1⟩ := open_field (hval 1 22 v1 rfl rfl)
  clear hA0
  have hT : Wid W := Lib.tabIs_of_head (rest := []) gWid gWidType Tryd.underlying52 Tryd.underlying3 cellsInt cellsArr9 hL
  refine (law_HeadGets x f W hT ox).mono fun e W' ⟨he, bel⟩ => ?_
  subst he
  exact ⟨_, rfl, _, _, _, [], _, [], hW', trodAll_mk1 (shut_bool Tryd.underlying4 _), (trodAll_cons_mk (Below.trod fr_laidOut (by kernel_rfl) (of_decide_eq_true (by kernel_rfl)) h0 bel lt0) (trodAll_cons_mk (Below.trod fr_laidOut (by kernel_rfl) (of_decide_eq_true (by kernel_rfl)) h1 bel lt1) trodAll_mk0)), rfl, bel.frame _, fun h => by cases h⟩
/-- A world for the witness. -/
noncomputable def laidWorld (os : Os) : World := { World.holding Tryd.prog os ⟨#[], #[], []⟩ with heap := (World.holding Tryd.prog os ⟨#[], #[], []⟩).heap.modify 0 (fun | .cells _ t frozen => .cells #[.int .i64 8, .int .i64 48, .int .i64 48, .int .i64 16, .int .i64 32, .int .i64 32, .int .i64 8, .int .i64 16, .int .i64 16] t frozen | o => o) }
theorem laid_met (os : Os) : laidMet Tryd.prog Rows.headGetsRow.laid ((laidWorld os).forCall (fun _ _ => 0) ⟨#[], #[.agg #[.int .i64 0, .int .u8 0, .int .u8 0, .int .u8 0, .int .u8 0, .int .u8 0, .int .u8 0, .int .u8 0, .int .u8 0, .int .u8 0, .int .u8 0, .int .u8 0, .int .u8 0, .int .i64 0, .int .u32 0, .int .u32 0, .int .i64 0, .int .i64 0, .int .i64 0], .int .i64 0], []⟩).memory := laidMet_of_run' 8 (by kernel_rfl) (by kernel_rfl)
theorem reads (os : Os) {H : Type} (enc : TypeId × Value → H) : DataW.whole enc Tryd.prog ((laidWorld os).forCall (fun _ _ => 0) ⟨#[], #[.agg #[.int .i64 0, .int .u8 0, .int .u8 0, .int .u8 0, .int .u8 0, .int .u8 0, .int .u8 0, .int .u8 0, .int .u8 0, .int .u8 0, .int .u8 0, .int .u8 0, .int .u8 0, .int .i64 0, .int .u32 0, .int .u32 0, .int .i64 0, .int .i64 0, .int .i64 0], .int .i64 0], []⟩).memory Tryd.f5.params.toList Rows.headGetsSpec.vars false (#[.agg #[.int .i64 0, .int .u8 0, .int .u8 0, .int .u8 0, .int .u8 0, .int .u8 0, .int .u8 0, .int .u8 0, .int .u8 0, .int .u8 0, .int .u8 0, .int .u8 0, .int .u8 0, .int .i64 0, .int .u32 0, .int .u32 0, .int .i64 0, .int .i64 0, .int .i64 0], .int .i64 0] : Array Value).toList 8 = some ([.agg [.lit (.int .i64 0), .agg [.lit (.int .u8 0), .lit (.int .u8 0), .lit (.int .u8 0), .lit (.int .u8 0), .lit (.int .u8 0), .lit (.int .u8 0)], .agg [.lit (.int .u8 0), .lit (.int .u8 0), .lit (.int .u8 0), .lit (.int .u8 0), .lit (.int .u8 0), .lit (.int .u8 0)], .lit (.int .i64 0), .lit (.int .u32 0), .lit (.int .u32 0), .lit (.int .i64 0), .lit (.int .i64 0), .lit (.int .i64 0)], .lit (.int .i64 0)], [], []) := by kernel_rfl
set_option maxRecDepth 100000 in
theorem lifted (os : Os) (started : os.Started) (H : Type) (enc : TypeId × Value → H) (F : Stop.Interp) :
    ReturnsInHanded {} Tryd.checked os 5 .any ((OpenSpec.ofChange Rows.headGetsSpec).preRow enc Tryd.prog Tryd.f5 Rows.headGetsRow.domain false Rows.headGetsRow.laid) (((OpenSpec.ofChange Rows.headGetsSpec).at F).post enc Tryd.prog Tryd.f5 false true false false) := by
  refine returnsInHanded_of_row (C := Tryd.checked) (s := OpenSpec.ofChange Rows.headGetsSpec) fr_own started (by kernel_rfl) Tryd.func5
    (witness_row_at (enc := enc) (C := Tryd.checked) false (laidWorld os) #[.agg #[.int .i64 0, .int .u8 0, .int .u8 0, .int .u8 0, .int .u8 0, .int .u8 0, .int .u8 0, .int .u8 0, .int .u8 0, .int .u8 0, .int .u8 0, .int .u8 0, .int .u8 0, .int .i64 0, .int .u32 0, .int .u32 0, .int .i64 0, .int .i64 0, .int .i64 0], .int .i64 0] rfl (by kernel_rfl) (by kernel_rfl) (by kernel_rfl)
      (OpenSpec.preRow_of_cond 8 (reads os enc) (by kernel_rfl) (fun k hk => by cases hk) (by kernel_rfl) (laid_met os))) ?_
  intro W base args ds gs before hval hW _ _ _ hL _ _
  exact contract H enc W base args ds gs before hval hW hL
theorem said : Rows.HeadGetsSaid :=
  OpenClaim.holds_of_cond 5 Tryd.f5 rfl rfl rfl rfl rfl rfl rfl ⟨rfl, rfl, rfl, rfl, rfl⟩ rfl rfl rfl rfl rfl (by kernel_rfl) Tryd.func5 (by kernel_rfl)
    (of_decide_eq_true (by kernel_rfl)) (by unfold Func.isWrapper; first | (rw [if_pos (by decide +kernel)]; kernel_rfl) | (rw [if_neg (by decide +kernel)]; exact ⟨rfl, rfl⟩))
    (fun os started H enc _ F => by rw [OpenClaim.pre_eq_preRow]; exact lifted os started H enc F)
theorem plain (f : FuncId) (fn : Func) (hf : Tryd.pinned.checked.prog.funcNamed "carrefour/carrefourlaw04.HeadGets" = some f) (hfn : Tryd.pinned.checked.prog.funcs[f]? = some fn) :
    false = Tryd.pinned.checked.prog.looks [] ∧ ∀ (j : Nat) t, fn.params[j]? = some t → Tryd.pinned.checked.prog.wantsStandIn t = false := by
  obtain rfl : f = 5 := Option.some.inj ((show Tryd.prog.funcNamed "carrefour/carrefourlaw04.HeadGets" = some 5 by kernel_rfl).symm.trans hf) |>.symm
  obtain rfl : fn = Tryd.f5 := (Option.some.inj (Tryd.func5.symm.trans hfn)).symm
  refine ⟨by kernel_rfl, fun j t ht => ?_⟩
  rw [Tryd.params5] at ht
  have hm : t ∈ [33, 22] := by have := Array.mem_of_getElem? ht; simpa using this
  have hall : ∀ t ∈ [33, 22], Tryd.prog.wantsStandIn t = false := by
    intro t ht
    simp only [List.mem_cons, List.not_mem_nil, or_false] at ht
    rcases ht with rfl | rfl <;> kernel_rfl
  exact hall t hm
/-- THE CARD HeadGets. -/
theorem proved : Rows.HeadGetsCardSaid :=
  Claim7.holds_tied_plain_at .later [] _ _ _ _ said (fun _ h => by cases h) (by kernel_rfl) (fun _ h => by cases h) headGets_row_tie rfl ⟨rfl, rfl⟩ (by kernel_rfl) rfl plain (by kernel_rfl)
#print axioms proved
end headGets
end Go.Proofs.YtbodkbaafaamlaaDoor
