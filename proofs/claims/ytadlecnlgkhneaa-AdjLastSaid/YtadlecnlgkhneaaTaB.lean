/-
  A TRIE OF ATTRIBUTES: Below, All.
-/
import Derived.Test.YtadlecnlgkhneaaTaW
import Derived.Deep.RegionWith
namespace Go.Proofs.Ytadlecnlgkhneaa
open Go.RowKit Go.Lib
set_option linter.unusedVariables false
section
variable {tb : Nat} {N : Nat → Option Nat} {S : List (Nat × AV)} {most : Int} {g : Nat} {lb : Array Value} {cont : List Itm → Bool} {Inv : (Nat → Prop) → List Itm → World → Prop}
set_option maxRecDepth 100000 in
theorem neq_func (g : Nat) (lb : Array Value) (w : World) : (binOp .neq 105 (.func (.func g) #[] lb) .nilFunc).run Try.prog w = .ok (.bool true) w := by
  first | rfl | kernel_rfl | simp [binOp, go_sem]
set_option maxHeartbeats 400000 in
theorem walk_nilp (A i : Int) (g : Nat) (lb : Array Value) (w : World) : Calls Try.prog 70 #[.pointer none, .agg #[.int .u32 A, .int .i64 i], .func (.func g) #[] lb] w fun e w' => e = .returned (.bool true) ∧ Below w.heap.size w w' := by
  go_enter Try.func70, Try.ntmps70
  go_wp2_with fail
  go_ret
  exact ⟨rfl, (Below.refl _ _).alloc (Nat.le_refl _) _⟩
def BelowPost (Inv : (Nat → Prop) → List Itm → World → Prop) (P : Nat → Prop) (w : World) (L : List Itm) (e : Ending) (w' : World) : Prop :=
  e = .returned (.tuple #[]) ∧ Inv P L w' ∧ Kept (fun b => ¬ P b) w w'
set_option maxHeartbeats 1600000 in
set_option maxRecDepth 100000 in
theorem trI_Below (E : EachOk tb N S most g lb cont Inv) (A i : Nat) (L : List Itm) (P : Nat → Prop) (w : World) (ha : A < 4294967296) (hR : rightB A i = true) (hI : Inv P L w) :
    Calls Try.prog 64 #[.pointer (some ⟨tb, 0, none⟩), .agg #[.int .u32 A, .int .i64 i], .func (.func g) #[] lb] w (BelowPost Inv P w (runL cont L (goP S (32 - i) A i)).1) := by
  have hi := (right_mod.1 hR).2
  have EE := Lib.hid E
  have HI := Lib.hid hI
  have FD := Lib.hid (fun W h => trI_find (tb := tb) (N := N) (S := S) (most := most) A i W h ha hR)
  have WK := Lib.hid (fun P L W h => trI_walk E (32 - i) A i L P W (by omega) ha hR h)
  clear E hI
  have nf := fun W => neq_func g lb W
  go_enter Try.func64, Try.ntmps64
  go_wp2_with fail
  obtain ⟨W0, hW0, c0, c1, hB⟩ := box2 w (.int .u32 A) (.int .i64 i) 29
  have hz : W0.heap.size = w.heap.size + 1 := by rw [hW0]; simp
  rw [← hW0]; clear hW0
  have S0 : Hid (WSt Inv P w A i L W0) := Lib.hid ⟨EE.out.stab _ _ _ _ _ HI.out hB (fun b h => h.imp_right (fun e => by omega)), c0, c1, Kept.of_below hB⟩
  clear hz
  have SD : Hid (WSt Inv P w A i L W0.drew) := Lib.hid (S0.out.below EE.out (Below.refl _ _).drew)
  go_region_with (first
    | (go_at_call 59; refine (FD.out _ (EE.out.tri _ _ _ SD.out.1)).mono ?_; rintro e w1 ⟨rfl, hb⟩; have S1 := Lib.hid (SD.out.below EE.out hb); have c0 := S1.out.2.1; have c1 := S1.out.2.2.1)
    | (go_at_call 70; refine (WK.out _ _ _ S1.out.1).mono ?_; rintro e w2 ⟨rfl, I2, K2⟩; have SE := Lib.hid (S1.out.step I2 K2)))
  all_goals
    go_wp2_with fail
    go_end0
    exact ⟨rfl, EE.out.stab _ _ _ _ _ SE.out.1 (Below.refl _ _) (fun _ h => .inl (.inl h)), SE.out.2.2.2⟩
set_option maxHeartbeats 1600000 in
set_option maxRecDepth 100000 in
theorem trI_All (E : EachOk tb N S most g lb cont Inv) (L : List Itm) (P : Nat → Prop) (w : World) (hI : Inv P L w) :
    Calls Try.prog 48 #[.pointer (some ⟨tb, 0, none⟩), .func (.func g) #[] lb] w (BelowPost Inv P w (runL cont L (goP S 32 0 0)).1) := by
  have BL := Lib.hid (trI_Below E 0 0 L P w (by decide) (by decide +kernel) hI)
  go_enter Try.func48, Try.ntmps48
  go_wp2_with fail
  refine BL.out.mono ?_
  rintro e w1 ⟨rfl, I1, K1⟩
  have J1 := Lib.hid (And.intro I1 K1)
  clear I1 K1
  go_wp2_with fail
  go_end0
  exact ⟨rfl, J1.out.1, J1.out.2⟩
set_option maxHeartbeats 1600000 in
theorem trI_Below_nil (A i : Int) (w : World) : Calls Try.prog 64 #[.pointer none, .agg #[.int .u32 A, .int .i64 i], .func (.func g) #[] lb] w fun e w' => e = .returned (.tuple #[]) ∧ Below w.heap.size w w' := by
  have nf := fun W => neq_func g lb W
  go_enter Try.func64, Try.ntmps64
  go_wp2_with fail
  obtain ⟨W0, hW0, c0, c1, hB⟩ := box2 w (.int .u32 A) (.int .i64 i) 29
  rw [← hW0]; clear hW0
  go_region_with (first
    | (go_at_call 59; refine (trI_find_nil A i _).mono ?_; rintro e w1 ⟨rfl, hb⟩; have hB1 := hB.drew.trans (hb.mono hB.size); have c0 := cell_below (W := W0.drew) c0 hb; have c1 := cell_below (W := W0.drew) c1 hb; clear hb)
    | (go_at_call 70; refine (walk_nilp A i g lb _).mono ?_; rintro e w2 ⟨rfl, hb⟩; have hB2 := hB1.trans (hb.mono hB1.size); clear hb))
  all_goals
    go_wp2_with fail
    go_end0
    exact ⟨rfl, hB2⟩
set_option maxHeartbeats 1600000 in
theorem trI_All_nil (w : World) : Calls Try.prog 48 #[.pointer none, .func (.func g) #[] lb] w fun e w' => e = .returned (.tuple #[]) ∧ Below w.heap.size w w' := by
  go_enter Try.func48, Try.ntmps48
  go_wp2_with fail
  refine (trI_Below_nil 0 0 _).mono ?_
  rintro e w1 ⟨rfl, hb⟩
  go_wp2_with fail
  go_end0
  exact ⟨rfl, hb⟩
end
end Go.Proofs.Ytadlecnlgkhneaa
