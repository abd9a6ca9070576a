/-
  THE REFERENCE's LISTS: Longest; less.
-/
import Derived.Test.YtaafeekkllomhaaItD
namespace Go.Proofs.Ytaafeekkllomhaa
open Go.RowKit

/-- is the item longer than the best so far? -/
def longer (l : List It3) (b : Int) (x : It3) : Bool := decide (b < 0) || (match l[b.toNat]? with | some y => decide (y.2.1 < x.2.1) | none => false)
def lgF (a : Nat) (l : List It3) : Nat → Int
  | 0 => -1
  | k + 1 => match l[k]? with
    | some x => if hasB (x.1 : Int) x.2.1 (a : Int) && longer l (lgF a l k) x then (k : Int) else lgF a l k
    | none => lgF a l k
theorem lgF_step {a : Nat} {l : List It3} {k : Nat} {x : It3} {f : Int} (hx : l[k]? = some x) (hf : lgF a l k = f) : lgF a l (k + 1) = if hasB (x.1 : Int) x.2.1 (a : Int) && longer l f x then (k : Int) else f := by
  subst hf
  conv => lhs; unfold lgF
  rw [hx]
theorem lgF_rng (a : Nat) (l : List It3) : ∀ k, k ≤ l.length → -1 ≤ lgF a l k ∧ lgF a l k < k
  | 0, _ => by simp [lgF]
  | k + 1, h => by
    have ih := lgF_rng a l k (by omega)
    unfold lgF
    split
    · split <;> omega
    · omega
def refLong (l : List It3) (a : Nat) : Int := lgF a l l.length
/-- every address is one of 32 bits. -/
def ItsOk (l : List It3) : Prop := ∀ (i : Nat) (x : It3), l[i]? = some x → x.1 < 4294967296

def lessI (x y : It3) : Bool := decide ((x.1 : Int) < (y.1 : Int)) || (((x.1 : Int) == (y.1 : Int)) && decide (x.2.1 < y.2.1))
set_option maxHeartbeats 800000 in
theorem ref_less (x y : It3) (w : World) : Calls Try.prog 44 #[.agg #[.int .u32 x.1, .int .i64 x.2.1, .int .i64 x.2.2], .agg #[.int .u32 y.1, .int .i64 y.2.1, .int .i64 y.2.2]] w fun e w' => e = .returned (.bool (lessI x y)) ∧ Below w.heap.size w w' := by
  obtain ⟨xa, xn, xv⟩ := x
  obtain ⟨ya, yn, yv⟩ := y
  have HL := Lib.hid (show lessI (xa, xn, xv) (ya, yn, yv) = (decide ((xa : Int) < (ya : Int)) || (((xa : Int) == (ya : Int)) && decide (xn < yn))) from rfl)
  simp only
  go_enter Try.func44, Try.ntmps44
  go_wp2_with fail
  all_goals
    go_ret
    refine ⟨ret_bool ?_, ((Below.refl _ _).alloc (Nat.le_refl _) _).alloc (by simp) _⟩
    rw [HL.out]
  all_goals first | (simp [*]; done) | (simp [*]; omega) | (simp [*]; intro h; omega)
end Go.Proofs.Ytaafeekkllomhaa
