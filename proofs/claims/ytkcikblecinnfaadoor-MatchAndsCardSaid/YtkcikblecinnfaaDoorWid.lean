/-
  THE WIDTHS OF A HEADER's FIELDS: the table of package head as memory holds it; Width and Full.
-/
import Derived.Test.YtkcikblecinnfaaDoorRows
import Derived.Test.YtkcikblecinnfaaDoorRg
import Derived.Lib.LaidTab
import Derived.Lib.SmallJoins
namespace Go.Proofs.YtkcikblecinnfaaDoor
open Go.RowKit

def widL : List Int := [8, 48, 48, 16, 32, 32, 8, 16, 16]
/-- the table lies in memory as the program's text lays it. -/
def Wid (w : World) : Prop := Lib.TabIs Tryd.prog w "carrefour/head.widths" .i64 widL
theorem gWid : Tryd.prog.globalNamed "carrefour/head.widths" = some 0 := by kernel_rfl
theorem gWidType : (Tryd.prog.globals[0]?).map (·.type) = some 63 := by kernel_rfl
theorem cellsArr9 : Tryd.prog.cellsOf 63 = 9 := by kernel_rfl
theorem cellsInt : Tryd.prog.cellsOf 3 = 1 := by kernel_rfl
theorem Wid.cell {w : World} (h : Wid w) (j : Nat) (hj : j < 9) : w.cell? ⟨0, j, none⟩ = some (.int .i64 (widL.getD j 0)) := Lib.TabIs.cell h gWid j (by simpa [widL] using hj)
theorem Wid.below {w w' : World} (h : Wid w) (hb : Below w.heap.size w w') : Wid w' := Joins.tab_stays gWid h hb (Nat.le_refl _)

/-- how many bits a field has. -/
def widthI (f : Int) : Int := if 0 ≤ f ∧ f < 9 then widL.getD f.toNat 0 else 0
theorem widthI_out {f : Int} (h : f < 0 ∨ 9 ≤ f) : widthI f = 0 := if_neg (by omega)
theorem field_cases (f : Int) : f < 0 ∨ 9 ≤ f ∨ f = 0 ∨ f = 1 ∨ f = 2 ∨ f = 3 ∨ f = 4 ∨ f = 5 ∨ f = 6 ∨ f = 7 ∨ f = 8 := by omega
set_option maxHeartbeats 800000 in
theorem head_Width (f : Int) (w : World) (hT : Wid w) :
    Calls Tryd.prog 24 #[.int .i64 f] w fun e w' => e = .returned (.int .i64 (widthI f)) ∧ w = w' := by
  have HT := Lib.hid hT
  clear hT
  rcases field_cases f with h | h | rfl | rfl | rfl | rfl | rfl | rfl | rfl | rfl | rfl
  · have E := Lib.hid (widthI_out (.inl h))
    go_enter Tryd.func24, Tryd.ntmps24
    go_wp2
    go_ret
    exact ⟨ret_int E.out.symm, rfl⟩
  · have E := Lib.hid (widthI_out (.inr h))
    have h' : ¬ f < 0 := by omega
    go_enter Tryd.func24, Tryd.ntmps24
    go_wp2
    go_ret
    exact ⟨ret_int E.out.symm, rfl⟩
  · have hc : w.cell? ⟨0, 0, none⟩ = some (.int .i64 (widL.getD 0 0)) := HT.out.cell 0 (by decide)
    go_enter Tryd.func24, Tryd.ntmps24
    go_wp2
    go_ret
    exact ⟨ret_int rfl, rfl⟩
  · have hc : w.cell? ⟨0, 1, none⟩ = some (.int .i64 (widL.getD 1 0)) := HT.out.cell 1 (by decide)
    go_enter Tryd.func24, Tryd.ntmps24
    go_wp2
    go_ret
    exact ⟨ret_int rfl, rfl⟩
  · have hc : w.cell? ⟨0, 2, none⟩ = some (.int .i64 (widL.getD 2 0)) := HT.out.cell 2 (by decide)
    go_enter Tryd.func24, Tryd.ntmps24
    go_wp2
    go_ret
    exact ⟨ret_int rfl, rfl⟩
  · have hc : w.cell? ⟨0, 3, none⟩ = some (.int .i64 (widL.getD 3 0)) := HT.out.cell 3 (by decide)
    go_enter Tryd.func24, Tryd.ntmps24
    go_wp2
    go_ret
    exact ⟨ret_int rfl, rfl⟩
  · have hc : w.cell? ⟨0, 4, none⟩ = some (.int .i64 (widL.getD 4 0)) := HT.out.cell 4 (by decide)
    go_enter Tryd.func24, Tryd.ntmps24
    go_wp2
    go_ret
    exact ⟨ret_int rfl, rfl⟩
  · have hc : w.cell? ⟨0, 5, none⟩ = some (.int .i64 (widL.getD 5 0)) := HT.out.cell 5 (by decide)
    go_enter Tryd.func24, Tryd.ntmps24
    go_wp2
    go_ret
    exact ⟨ret_int rfl, rfl⟩
  · have hc : w.cell? ⟨0, 6, none⟩ = some (.int .i64 (widL.getD 6 0)) := HT.out.cell 6 (by decide)
    go_enter Tryd.func24, Tryd.ntmps24
    go_wp2
    go_ret
    exact ⟨ret_int rfl, rfl⟩
  · have hc : w.cell? ⟨0, 7, none⟩ = some (.int .i64 (widL.getD 7 0)) := HT.out.cell 7 (by decide)
    go_enter Tryd.func24, Tryd.ntmps24
    go_wp2
    go_ret
    exact ⟨ret_int rfl, rfl⟩
  · have hc : w.cell? ⟨0, 8, none⟩ = some (.int .i64 (widL.getD 8 0)) := HT.out.cell 8 (by decide)
    go_enter Tryd.func24, Tryd.ntmps24
    go_wp2
    go_ret
    exact ⟨ret_int rfl, rfl⟩

/-- the number whose lowest bits are 1, as many as a field has. -/
def fullI (f : Int) : Int := 2 ^ (widthI f).toNat - 1
theorem widthI_cases (f : Int) : widthI f = 0 ∨ widthI f = 8 ∨ widthI f = 16 ∨ widthI f = 32 ∨ widthI f = 48 := by
  rcases field_cases f with h | h | rfl | rfl | rfl | rfl | rfl | rfl | rfl | rfl | rfl
  · exact .inl (widthI_out (.inl h))
  · exact .inl (widthI_out (.inr h))
  all_goals decide
theorem fullI_of {f n : Int} (h : widthI f = n) : fullI f = 2 ^ n.toNat - 1 := by unfold fullI; rw [h]
set_option maxHeartbeats 800000 in
theorem head_Full (f : Int) (w : World) (hT : Wid w) :
    Calls Tryd.prog 13 #[.int .i64 f] w fun e w' => e = .returned (.int .u64 (fullI f)) ∧ w = w' := by
  have HT := Lib.hid hT
  clear hT
  rcases widthI_cases f with h | h | h | h | h
  all_goals
    have E := Lib.hid (fullI_of h)
    go_enter Tryd.func13, Tryd.ntmps13
    go_wp2_with (go_at_call 24; refine (head_Width _ _ HT.out).mono ?_; rintro e w1 ⟨rfl, rfl⟩)
    go_ret
    exact ⟨ret_int (by rw [E.out]; rfl), rfl⟩
theorem fullI_lo (f : Int) : 0 ≤ fullI f := by rcases widthI_cases f with h | h | h | h | h <;> rw [fullI_of h] <;> decide
theorem fullI_hi (f : Int) : fullI f < 281474976710656 := by rcases widthI_cases f with h | h | h | h | h <;> rw [fullI_of h] <;> decide
end Go.Proofs.YtkcikblecinnfaaDoor
