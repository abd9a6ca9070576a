/-
  CHOOSE: the document's example.
-/
import Derived.Test.YtfkplbkllmnfeaaChE
namespace Go.Proofs.Ytfkplbkllmnfeaa
open Go.RowKit
set_option maxHeartbeats 3200000 in
set_option maxRecDepth 100000 in
theorem law_head (w : World) : Calls Try.prog 8 #[] w fun e w' => e = .returned (.bool true) ∧ Below w.heap.size w w' := by
  have R1 := Lib.hid (law_route 2 1 2 w (by decide +kernel) (by decide +kernel))
  have R2 := Lib.hid (fun w => law_route 1 2 9 w (by decide +kernel) (by decide +kernel))
  have R3 := Lib.hid (fun w => law_route 1 3 4 w (by decide +kernel) (by decide +kernel))
  go_enter Try.func8, Try.ntmps8
  go_wp2_with fail
  refine R1.out.mono ?_
  rintro e w1 ⟨p1, rfl, P1, hb1⟩
  have P1 := Lib.hid P1
  go_wp2_with fail
  refine (R2.out _).mono ?_
  rintro e w2 ⟨p2, rfl, P2, hb2⟩
  have P1 := Lib.hid (P1.out.below hb2)
  have P2 := Lib.hid P2
  go_wp2_with fail
  refine (R3.out _).mono ?_
  rintro e w3 ⟨p3, rfl, P3, hb3⟩
  have P1 := Lib.hid (P1.out.below hb3)
  have P2 := Lib.hid (P2.out.below hb3)
  have P3 := Lib.hid P3
  have B3 := Lib.hid (below_on (below_on hb1 hb2) hb3)
  clear hb1 hb2 hb3 R1 R2 R3
  go_wp2_with fail
  show Calls Try.prog 11 #[.slice (some ⟨w3.heap.size, 0, none⟩) 3 3] (w3.alloc (.cells ((([⟨cdR 2 1 2, p1, .slice none 0 0, .slice none 0 0⟩, ⟨cdR 1 2 9, p2, .slice none 0 0, .slice none 0 0⟩, ⟨cdR 1 3 4, p3, .slice none 0 0, .slice none 0 0⟩] : List Ce).flatMap ceL).toArray) 35)) _
  have h4 := heap_alloc_new w3 (.cells ((([⟨cdR 2 1 2, p1, .slice none 0 0, .slice none 0 0⟩, ⟨cdR 1 2 9, p2, .slice none 0 0, .slice none 0 0⟩, ⟨cdR 1 3 4, p3, .slice none 0 0, .slice none 0 0⟩] : List Ce).flatMap ceL).toArray) 35)
  have hb4 : Below w3.heap.size w3 (w3.alloc (.cells ((([⟨cdR 2 1 2, p1, .slice none 0 0, .slice none 0 0⟩, ⟨cdR 1 2 9, p2, .slice none 0 0, .slice none 0 0⟩, ⟨cdR 1 3 4, p3, .slice none 0 0, .slice none 0 0⟩] : List Ce).flatMap ceL).toArray) 35)) := (Below.refl _ _).alloc (Nat.le_refl _) _
  generalize w3.alloc (.cells ((([⟨cdR 2 1 2, p1, .slice none 0 0, .slice none 0 0⟩, ⟨cdR 1 2 9, p2, .slice none 0 0, .slice none 0 0⟩, ⟨cdR 1 3 4, p3, .slice none 0 0, .slice none 0 0⟩] : List Ce).flatMap ceL).toArray) 35) = W4 at h4 hb4 ⊢
  have CD : CdsAt W4 (.slice (some ⟨w3.heap.size, 0, none⟩) 3 3) [cdR 2 1 2, cdR 1 2 9, cdR 1 3 4] := lit_cds (L := [⟨cdR 2 1 2, p1, .slice none 0 0, .slice none 0 0⟩, ⟨cdR 1 2 9, p2, .slice none 0 0, .slice none 0 0⟩, ⟨cdR 1 3 4, p3, .slice none 0 0, .slice none 0 0⟩]) h4 (by simp [maxLen]) (by
    intro x hx
    simp at hx
    rcases hx with rfl | rfl | rfl
    · exact (ce_ok P1.out ⟨by decide, by decide⟩ (by decide)).below hb4
    · exact (ce_ok P2.out ⟨by decide, by decide⟩ (by decide)).below hb4
    · exact (ce_ok P3.out ⟨by decide, by decide⟩ (by decide)).below hb4)
  have B4 := Lib.hid (below_on B3.out hb4)
  have HB := Lib.hid (ch_Best _ _ W4 CD (by decide +kernel) (by
    intro c hc
    simp at hc
    rcases hc with rfl | rfl | rfl <;> decide +kernel))
  rw [show bestI [cdR 2 1 2, cdR 1 2 9, cdR 1 3 4] = 2 by decide +kernel] at HB
  have HN := Lib.hid (fun W => ch_Best (.slice none 0 0) [] W SlAt.nil (by decide +kernel) (by simp))
  rw [show bestI [] = -1 from rfl] at HN
  clear h4 hb4 CD B3 P1 P2 P3
  refine HB.out.mono ?_
  rintro e w5 ⟨rfl, hb5⟩
  have B5 := Lib.hid (below_on B4.out hb5)
  clear hb5 B4 HB
  go_wp2_with fail
  refine (HN.out _).mono ?_
  rintro e w6 ⟨rfl, hb6⟩
  have B6 := Lib.hid (below_on B5.out hb6)
  clear hb6 B5 HN
  go_wp2_with fail
  go_ret
  exact ⟨rfl, B6.out⟩
end Go.Proofs.Ytfkplbkllmnfeaa
