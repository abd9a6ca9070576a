/-
  HeadGets: any field's number of any header, and whether all fit; for every header and every number of a field. The condition: the table of widths is as the program's text lays it, which the card ties.
-/
import Derived.Test.YtbodkbaafaamlaaDoorNums
namespace Go.Proofs.YtbodkbaafaamlaaDoor
open Go.RowKit

def hdr7 : Hdr := ⟨0, 0, 0, 0, 0, 0, 0, 0, 0, 0, 0, 0, 0, 7, 0, 0, 0, 0, 0⟩
def hdr256 : Hdr := ⟨256, 0, 0, 0, 0, 0, 0, 0, 0, 0, 0, 0, 0, 0, 0, 0, 0, 0, 0⟩
theorem hdr7_ok : hdr7.Ok := by constructor <;> simp [hdr7, I64, U32, Byte]
theorem hdr256_ok : hdr256.Ok := by constructor <;> simp [hdr256, I64, U32, Byte]
theorem fits_iff (f n m : Int) (hf : fullI f = m - 1) : fitsB f n = (decide (0 ≤ n) && decide (n < m)) := by
  unfold fitsB; rw [hf]
  congr 1
  by_cases h : n < m
  · rw [decide_eq_true h, decide_eq_true (by omega)]
  · rw [decide_eq_false h, decide_eq_false (by omega)]

theorem wpList_load_on {P : Program} {ops : Array Oper} {rest : List Oper} {o : Oper} {a : Act} {w : World} {Q : Exit → Act → World → Prop} (hgd : Region.wanted o (yielded ops a.tmps) = true) (ty : TypeId) (x : Operand) (ho : o.op = .load ty x)
    (g : Nat) (hx : a.eval x = .pointer (some ⟨g, 0, none⟩)) (t : TypeId) (cs : Array Value) (fr : Nat × Nat) (d : TypeDesc) (hg : w.heap[g]? = some (.cells cs t fr))
    (hu : P.underlying ty = some d) (hd : (match d with | .struct _ | .array _ _ => true | _ => false) = true) (hi : (P.info? ty).map (·.size) = some cs.size)
    (h : wpList P ops Q rest (a.put o.dst (.agg cs)) w) : wpList P ops Q (o :: rest) a w := by
  unfold wpList
  rw [if_pos hgd]
  exact .inl (wp_load_row ty x ho g hx t cs fr d hg hu hd hi h)
theorem checkB_iff (h : Hdr) : checkB h = (decide (0 ≤ h.port) && decide (h.port < 256) && (decide (0 ≤ h.ty) && decide (h.ty < 65536) && (decide (0 ≤ h.proto) && decide (h.proto < 256) && (decide (0 ≤ h.sp) && decide (h.sp < 65536) && (decide (0 ≤ h.dp) && decide (h.dp < 65536)))))) := by
  unfold checkB
  rw [fits_iff 0 h.port 256 (by decide), fits_iff 3 h.ty 65536 (by decide), fits_iff 6 h.proto 256 (by decide), fits_iff 7 h.sp 65536 (by decide), fits_iff 8 h.dp 65536 (by decide)]
theorem right_cases (h : Hdr) : (0 ≤ h.port ∧ h.port < 256 ∧ 0 ≤ h.ty ∧ h.ty < 65536 ∧ 0 ≤ h.proto ∧ h.proto < 256 ∧ 0 ≤ h.sp ∧ h.sp < 65536 ∧ 0 ≤ h.dp ∧ h.dp < 65536 ∧ errI (checkB h) = 0)
    ∨ (h.port < 0 ∧ errI (checkB h) = 1)
    ∨ (0 ≤ h.port ∧ 256 ≤ h.port ∧ errI (checkB h) = 1)
    ∨ (0 ≤ h.port ∧ h.port < 256 ∧ h.ty < 0 ∧ errI (checkB h) = 1)
    ∨ (0 ≤ h.port ∧ h.port < 256 ∧ 0 ≤ h.ty ∧ 65536 ≤ h.ty ∧ errI (checkB h) = 1)
    ∨ (0 ≤ h.port ∧ h.port < 256 ∧ 0 ≤ h.ty ∧ h.ty < 65536 ∧ h.proto < 0 ∧ errI (checkB h) = 1)
    ∨ (0 ≤ h.port ∧ h.port < 256 ∧ 0 ≤ h.ty ∧ h.ty < 65536 ∧ 0 ≤ h.proto ∧ 256 ≤ h.proto ∧ errI (checkB h) = 1)
    ∨ (0 ≤ h.port ∧ h.port < 256 ∧ 0 ≤ h.ty ∧ h.ty < 65536 ∧ 0 ≤ h.proto ∧ h.proto < 256 ∧ h.sp < 0 ∧ errI (checkB h) = 1)
    ∨ (0 ≤ h.port ∧ h.port < 256 ∧ 0 ≤ h.ty ∧ h.ty < 65536 ∧ 0 ≤ h.proto ∧ h.proto < 256 ∧ 0 ≤ h.sp ∧ 65536 ≤ h.sp ∧ errI (checkB h) = 1)
    ∨ (0 ≤ h.port ∧ h.port < 256 ∧ 0 ≤ h.ty ∧ h.ty < 65536 ∧ 0 ≤ h.proto ∧ h.proto < 256 ∧ 0 ≤ h.sp ∧ h.sp < 65536 ∧ h.dp < 0 ∧ errI (checkB h) = 1)
    ∨ (0 ≤ h.port ∧ h.port < 256 ∧ 0 ≤ h.ty ∧ h.ty < 65536 ∧ 0 ≤ h.proto ∧ h.proto < 256 ∧ 0 ≤ h.sp ∧ h.sp < 65536 ∧ 0 ≤ h.dp ∧ 65536 ≤ h.dp ∧ errI (checkB h) = 1) := by
  have hy : (0 ≤ h.port ∧ h.port < 256 ∧ 0 ≤ h.ty ∧ h.ty < 65536 ∧ 0 ≤ h.proto ∧ h.proto < 256 ∧ 0 ≤ h.sp ∧ h.sp < 65536 ∧ 0 ≤ h.dp ∧ h.dp < 65536) → errI (checkB h) = 0 := fun a => by
    rw [checkB_iff]; simp [a, errI]
  have hn : ¬ (0 ≤ h.port ∧ h.port < 256 ∧ 0 ≤ h.ty ∧ h.ty < 65536 ∧ 0 ≤ h.proto ∧ h.proto < 256 ∧ 0 ≤ h.sp ∧ h.sp < 65536 ∧ 0 ≤ h.dp ∧ h.dp < 65536) → errI (checkB h) = 1 := fun a => by
    have : checkB h = false := by
      rw [checkB_iff]
      cases hc : (decide (0 ≤ h.port) && decide (h.port < 256) && (decide (0 ≤ h.ty) && decide (h.ty < 65536) && (decide (0 ≤ h.proto) && decide (h.proto < 256) && (decide (0 ≤ h.sp) && decide (h.sp < 65536) && (decide (0 ≤ h.dp) && decide (h.dp < 65536)))))) with
      | false => rfl
      | true => exfalso; simp at hc; omega
    rw [this]; rfl
  by_cases a0 : 0 ≤ h.port
  rotate_left 1
  · exact .inr (.inl ⟨by omega, hn (by omega)⟩)
  by_cases a1 : h.port < 256
  rotate_left 1
  · exact .inr (.inr (.inl ⟨by omega, by omega, hn (by omega)⟩))
  by_cases a2 : 0 ≤ h.ty
  rotate_left 1
  · exact .inr (.inr (.inr (.inl ⟨by omega, by omega, by omega, hn (by omega)⟩)))
  by_cases a3 : h.ty < 65536
  rotate_left 1
  · exact .inr (.inr (.inr (.inr (.inl ⟨by omega, by omega, by omega, by omega, hn (by omega)⟩))))
  by_cases a4 : 0 ≤ h.proto
  rotate_left 1
  · exact .inr (.inr (.inr (.inr (.inr (.inl ⟨by omega, by omega, by omega, by omega, by omega, hn (by omega)⟩)))))
  by_cases a5 : h.proto < 256
  rotate_left 1
  · exact .inr (.inr (.inr (.inr (.inr (.inr (.inl ⟨by omega, by omega, by omega, by omega, by omega, by omega, hn (by omega)⟩))))))
  by_cases a6 : 0 ≤ h.sp
  rotate_left 1
  · exact .inr (.inr (.inr (.inr (.inr (.inr (.inr (.inl ⟨by omega, by omega, by omega, by omega, by omega, by omega, by omega, hn (by omega)⟩)))))))
  by_cases a7 : h.sp < 65536
  rotate_left 1
  · exact .inr (.inr (.inr (.inr (.inr (.inr (.inr (.inr (.inl ⟨by omega, by omega, by omega, by omega, by omega, by omega, by omega, by omega, hn (by omega)⟩))))))))
  by_cases a8 : 0 ≤ h.dp
  rotate_left 1
  · exact .inr (.inr (.inr (.inr (.inr (.inr (.inr (.inr (.inr (.inl ⟨by omega, by omega, by omega, by omega, by omega, by omega, by omega, by omega, by omega, hn (by omega)⟩)))))))))
  by_cases a9 : h.dp < 65536
  rotate_left 1
  · exact .inr (.inr (.inr (.inr (.inr (.inr (.inr (.inr (.inr (.inr ⟨by omega, by omega, by omega, by omega, by omega, by omega, by omega, by omega, by omega, by omega, hn (by omega)⟩)))))))))
  exact .inl ⟨a0, a1, a2, a3, a4, a5, a6, a7, a8, a9, hy ⟨a0, a1, a2, a3, a4, a5, a6, a7, a8, a9⟩⟩

set_option maxRecDepth 100000 in
set_option maxHeartbeats 6400000 in
theorem law_HeadGets (h : Hdr) (f : Int) (w : World) (hT : Wid w) (ok : h.Ok) :
    Calls Tryd.prog 5 #[hdrV h, .int .i64 f] w fun e w' => e = .returned (.bool true) ∧ Below w.heap.size w w' := by
  have HT := Lib.hid hT
  clear hT
  have OK := Lib.hid ok
  clear ok
  have z1 : getI hdr7 3 = 7 := by decide
  have z2 : errI (checkB hdr256) = 1 := by decide
  go_enter Tryd.func5, Tryd.ntmps5
  go_wp2_with fail
  obtain ⟨W0, hW0, hx, hB⟩ := boxH w h
  rw [← hW0]; clear hW0
  have hT := HT.out.below hB
  refine (head_Get hdr7 3 _ hT hdr7_ok).mono ?_
  rintro e w1 ⟨rfl, hb⟩
  have hT := hT.below hb; have hx := hx.below hb; have hB := below_on hB hb; clear hb
  have HT := Lib.hid hT; clear hT
  have HX := Lib.hid hx; clear hx
  rw [z1]
  go_wp2_with fail
  refine (head_Check hdr256 _ HT.out hdr256_ok).mono ?_
  rintro e w2 ⟨rfl, hb⟩
  rw [z2]
  have hT := HT.out
  have hx := HX.out
  have hT := hT.below hb; have hx := hx.below hb; have hB := below_on hB hb; clear hb
  clear z1 z2
  have HT := Lib.hid hT; clear hT
  have HX := Lib.hid hx; clear hx
  have hl := HX.out.load
  clear hl
  rcases (by omega : f < 0 ∨ 9 ≤ f ∨ (0 ≤ f ∧ f < 9)) with hf | hf | ⟨hf0, hf9⟩
  · have EG := getI_out (h := h) (.inl hf)
    obtain ⟨c0, c1, c2, c3, c4, c5, c6, c7, c8, c9, c10, c11, c12, c13, c14, c15, c16, c17, c18⟩ := HX.out.cells
    clear c1 c2 c3 c4 c5 c6 c7 c8 c9 c10 c11 c12 c14 c15
    rcases right_cases h with ⟨h0, h1, h2, h3, h4, h5, h6, h7, h8, h9, hr⟩ | ⟨h0, hr⟩ | ⟨h0, h1, hr⟩ | ⟨h0, h1, h2, hr⟩ | ⟨h0, h1, h2, h3, hr⟩ | ⟨h0, h1, h2, h3, h4, hr⟩ | ⟨h0, h1, h2, h3, h4, h5, hr⟩ | ⟨h0, h1, h2, h3, h4, h5, h6, hr⟩ | ⟨h0, h1, h2, h3, h4, h5, h6, h7, hr⟩ | ⟨h0, h1, h2, h3, h4, h5, h6, h7, h8, hr⟩ | ⟨h0, h1, h2, h3, h4, h5, h6, h7, h8, h9, hr⟩
    all_goals
      have HR := Lib.hid hr; clear hr
      try have hd : decide (h.dp < 65536) = false := decide_eq_false (by omega)
      go_wp2_with (first | (go_at_call 12; refine (head_Get h f _ HT.out OK.out).mono ?_; rintro e w4 ⟨rfl, hb⟩; have hT := HT.out; have hx := HX.out; have hT := hT.below hb; have hx := hx.below hb; have hB := below_on hB hb; clear hb; have HT := Lib.hid hT; clear hT; have HX := Lib.hid hx; clear hx) | (go_at_call 13; refine (head_Check h _ HT.out OK.out).mono ?_; rintro e w4 ⟨rfl, hb⟩; have hT := HT.out; have hx := HX.out; rw [HR.out]; have hT := hT.below hb; have hx := hx.below hb; have hB := below_on hB hb; clear hb; have HT := Lib.hid hT; clear hT; have HX := Lib.hid hx; clear hx) | (refine wpList_load_on (by rfl) 33 _ rfl _ rfl 33 _ (0, 0) _ HX.out Tryd.underlying33 rfl (by kernel_rfl) ?_))
      go_ret
      exact ⟨ret_bool (by simp), hB⟩
  · have EG := getI_out (h := h) (.inr hf)
    obtain ⟨c0, c1, c2, c3, c4, c5, c6, c7, c8, c9, c10, c11, c12, c13, c14, c15, c16, c17, c18⟩ := HX.out.cells
    clear c1 c2 c3 c4 c5 c6 c7 c8 c9 c10 c11 c12 c14 c15
    rcases right_cases h with ⟨h0, h1, h2, h3, h4, h5, h6, h7, h8, h9, hr⟩ | ⟨h0, hr⟩ | ⟨h0, h1, hr⟩ | ⟨h0, h1, h2, hr⟩ | ⟨h0, h1, h2, h3, hr⟩ | ⟨h0, h1, h2, h3, h4, hr⟩ | ⟨h0, h1, h2, h3, h4, h5, hr⟩ | ⟨h0, h1, h2, h3, h4, h5, h6, hr⟩ | ⟨h0, h1, h2, h3, h4, h5, h6, h7, hr⟩ | ⟨h0, h1, h2, h3, h4, h5, h6, h7, h8, hr⟩ | ⟨h0, h1, h2, h3, h4, h5, h6, h7, h8, h9, hr⟩
    all_goals
      have HR := Lib.hid hr; clear hr
      try have hd : decide (h.dp < 65536) = false := decide_eq_false (by omega)
      go_wp2_with (first | (go_at_call 12; refine (head_Get h f _ HT.out OK.out).mono ?_; rintro e w4 ⟨rfl, hb⟩; have hT := HT.out; have hx := HX.out; have hT := hT.below hb; have hx := hx.below hb; have hB := below_on hB hb; clear hb; have HT := Lib.hid hT; clear hT; have HX := Lib.hid hx; clear hx) | (go_at_call 13; refine (head_Check h _ HT.out OK.out).mono ?_; rintro e w4 ⟨rfl, hb⟩; have hT := HT.out; have hx := HX.out; rw [HR.out]; have hT := hT.below hb; have hx := hx.below hb; have hB := below_on hB hb; clear hb; have HT := Lib.hid hT; clear hT; have HX := Lib.hid hx; clear hx) | (refine wpList_load_on (by rfl) 33 _ rfl _ rfl 33 _ (0, 0) _ HX.out Tryd.underlying33 rfl (by kernel_rfl) ?_))
      go_ret
      exact ⟨ret_bool (by simp), hB⟩
  · have hI : ∀ W : World, (Instr.index 39 (.agg (numC h)) (.int .i64 f)).run Tryd.prog W = .ok (.int .u64 (getI h f)) W := fun W => by
      rcases (by omega : f = 0 ∨ f = 1 ∨ f = 2 ∨ f = 3 ∨ f = 4 ∨ f = 5 ∨ f = 6 ∨ f = 7 ∨ f = 8) with rfl | rfl | rfl | rfl | rfl | rfl | rfl | rfl | rfl <;> kernel_rfl
    go_wp2_with (refine wpList_load_row rfl 33 _ rfl _ rfl 33 _ (0, 0) _ HX.out Tryd.underlying33 rfl (by kernel_rfl) ?_)
    refine (law_numbers h _ OK.out).mono ?_
    rintro e w3 ⟨rfl, hb⟩
    have hT := HT.out
    have hx := HX.out
    have hT := hT.below hb; have hx := hx.below hb; have hB := below_on hB hb; clear hb
    have HT := Lib.hid hT; clear hT
    have HX := Lib.hid hx; clear hx
    obtain ⟨c0, c1, c2, c3, c4, c5, c6, c7, c8, c9, c10, c11, c12, c13, c14, c15, c16, c17, c18⟩ := HX.out.cells
    clear c1 c2 c3 c4 c5 c6 c7 c8 c9 c10 c11 c12 c14 c15
    rcases right_cases h with ⟨h0, h1, h2, h3, h4, h5, h6, h7, h8, h9, hr⟩ | ⟨h0, hr⟩ | ⟨h0, h1, hr⟩ | ⟨h0, h1, h2, hr⟩ | ⟨h0, h1, h2, h3, hr⟩ | ⟨h0, h1, h2, h3, h4, hr⟩ | ⟨h0, h1, h2, h3, h4, h5, hr⟩ | ⟨h0, h1, h2, h3, h4, h5, h6, hr⟩ | ⟨h0, h1, h2, h3, h4, h5, h6, h7, hr⟩ | ⟨h0, h1, h2, h3, h4, h5, h6, h7, h8, hr⟩ | ⟨h0, h1, h2, h3, h4, h5, h6, h7, h8, h9, hr⟩
    all_goals
      have HR := Lib.hid hr; clear hr
      try have hd : decide (h.dp < 65536) = false := decide_eq_false (by omega)
      go_wp2_with (first | (go_at_call 12; refine (head_Get h f _ HT.out OK.out).mono ?_; rintro e w4 ⟨rfl, hb⟩; have hT := HT.out; have hx := HX.out; have hT := hT.below hb; have hx := hx.below hb; have hB := below_on hB hb; clear hb; have HT := Lib.hid hT; clear hT; have HX := Lib.hid hx; clear hx) | (go_at_call 13; refine (head_Check h _ HT.out OK.out).mono ?_; rintro e w4 ⟨rfl, hb⟩; have hT := HT.out; have hx := HX.out; rw [HR.out]; have hT := hT.below hb; have hx := hx.below hb; have hB := below_on hB hb; clear hb; have HT := Lib.hid hT; clear hT; have HX := Lib.hid hx; clear hx) | (refine wpList_load_on (by rfl) 33 _ rfl _ rfl 33 _ (0, 0) _ HX.out Tryd.underlying33 rfl (by kernel_rfl) ?_))
      go_ret
      exact ⟨ret_bool (by simp), hB⟩
end Go.Proofs.YtbodkbaafaamlaaDoor
