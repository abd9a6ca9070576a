/-
  MatchAnds, walks: what is held in memory.
-/
import Derived.Test.YtkcikblecinnfaaDoorAndLaws2
import Derived.Test.YtkcikblecinnfaaDoorWithLaws
import Derived.Test.YtkcikblecinnfaaDoorRgS
namespace Go.Proofs.YtkcikblecinnfaaDoor
open Go.RowKit

attribute [go_sem ↓] run_neq_match run_eql_match run_neq_matchZ
theorem box_hd {w : World} (h : Hdr) {p : World → Prop} (H : ∀ W0, HBox W0 w.heap.size h → Below w.heap.size w W0 → p W0) : p (w.alloc (.cells (hdrC h) 31)) :=
  H _ (heap_alloc_new w _) ((Below.refl _ _).alloc (Nat.le_refl _) _)
theorem xor_top (x : Nat) (hx : x < 18446744073709551616) : bits .xor .u64 18446744073709551615 (x : Int) = ((18446744073709551615 - x : Nat) : Int) := by
  have h := u64_xor_nat 18446744073709551615 x (by decide) hx
  rw [show (18446744073709551615 : Int) = ((18446744073709551615 : Nat) : Int) from rfl, h]
  congr 1
  rw [eq_bits]
  intro i
  rw [Nat.testBit_xor, compl_bit x i hx, show (18446744073709551615 : Nat) = 2 ^ 64 - 1 from rfl, Nat.testBit_two_pow_sub_one]
  cases hb : x.testBit i
  · simp
  · have := bit_lt (n := 64) hb (by simpa using hx)
    simp [this]
theorem xor_max (x : Nat) (hx : x < 18446744073709551616) : bits .xor .u64 IntKind.u64.max (x : Int) = ((18446744073709551615 - x : Nat) : Int) := xor_top x hx
theorem wit_set {m n : Mt} (gn : Good n) (H : Hdr) (k : Nat) (hk : k < 9) (oH : H.Ok) (hj : ∀ j, j < k → getN H j = witN m n j) :
    withOk k (witN m n k) = true ∧ (setH H k (witN m n k)).Ok ∧ ∀ j, j < k + 1 → getN (setH H k (witN m n k)) j = witN m n j := by
  have hw : withOk k (witN m n k) = true := (withOk_iff _ _).2 ⟨by omega, by omega, wit_full gn k hk⟩
  have ok2 : (setH H k (witN m n k)).Ok := setH_ok oH (by omega) hw
  refine ⟨hw, ok2, fun j hj2 => ?_⟩
  have e := getN_eq _ j ok2
  by_cases h : j = k
  · subst h
    rw [getI_set (by omega) hw] at e
    omega
  · rw [getI_other H k _ j (by omega) (by omega) (by omega) (by omega) (by omega), ← getN_eq H j oH, hj j (by omega)] at e
    omega
theorem wit_end {m n : Mt} (gm : Good m) (gn : Good n) (H : Hdr) (oH : H.Ok) (hj : ∀ j, j < 9 → getN H j = witN m n j) (hno : coversM m n = false) : hitsM n H = true ∧ hitsM m H = false := by
  constructor
  · rw [hits_iff gn H oH]
    intro j h9
    rw [hj j h9]
    exact wit_hits gm gn j h9
  · cases hh : hitsM m H with
    | false => rfl
    | true =>
      exfalso
      have a := (hits_iff gm H oH).1 hh
      have : coversM m n = true := (cov_iff gm gn).2 fun j h9 => by
        apply Classical.byContradiction
        intro hc
        have := a j h9
        rw [hj j h9] at this
        exact wit_miss gm gn j h9 hc this
      rw [this] at hno; cases hno
theorem w_with {H H2 : Hdr} {k v : Nat} (e : setH H k v = H2) (hw : withOk k v = true) (W : World) (hT : Wid W) :
    Calls Tryd.prog 22 #[hdrV H, .int .i64 k, .int .u64 v] W fun e w' => e = .returned (.tuple #[hdrV H2, .int .i64 0]) ∧ Below W.heap.size W w' := by
  refine (head_With H k v W hT (by omega)).mono ?_
  rintro e w1 ⟨rfl, hb⟩
  refine ⟨?_, hb⟩
  unfold withH
  rw [hw, if_pos rfl, e]
  rfl
theorem hz_ok : hdr0.Ok := by constructor <;> simp [I64, U32, Byte]
theorem w_full (k : Nat) (W : World) (hT : Wid W) : Calls Tryd.prog 13 #[.int .i64 k] W fun e w' => e = .returned (.int .u64 (fullN k : Nat)) ∧ Below W.heap.size W w' := by
  have := head_Full k W hT
  rw [← fullN_eq] at this
  exact calls_below this
abbrev Mem3 (w : World) (m n : Mt) (h : Hdr) (W : World) : Prop := Below w.heap.size w W ∧ Wid W ∧ MBox W w.heap.size m ∧ MBox W (w.heap.size + 1) n ∧ HBox W (w.heap.size + 2) h
theorem mem3_below {w : World} {m n : Mt} {h : Hdr} {W W' : World} (c : Mem3 w m n h W) (hb : Below W.heap.size W W') : Mem3 w m n h W' :=
  ⟨below_on c.1 hb, c.2.1.below hb, c.2.2.1.below hb, c.2.2.2.1.below hb, c.2.2.2.2.below hb⟩
theorem mem3_first (w : World) (m n : Mt) (h : Hdr) (hT : Wid w) : ∃ W, W = ((w.alloc (.cells (mtC m) 25)).alloc (.cells (mtC n) 25)).alloc (.cells (hdrC h) 31) ∧ Mem3 w m n h W := by
  obtain ⟨W0, hW0, hm, hB⟩ := boxM w m
  have hs : W0.heap.size = w.heap.size + 1 := by rw [hW0]; simp
  obtain ⟨W1, hW1, hn, hb⟩ := boxM W0 n
  have hs1 : W1.heap.size = w.heap.size + 2 := by rw [hW1]; simp [hs]
  rw [hs] at hn
  obtain ⟨W2, hW2, hx, hb2⟩ := boxH W1 h
  rw [hs1] at hx
  have hB2 := below_on (below_on hB hb) hb2
  exact ⟨W2, by rw [hW2, hW1, hW0], hB2, hT.below hB2, (hm.below hb).below hb2, hn.below hb2, hx⟩
section
variable {ops : Array Oper} {rest : List Oper} {o : Oper} {a : Act} {W : World} {Q : Exit → Act → World → Prop}
theorem ld_mt {g : Nat} {x : Operand} {c : Mt} (hm : MBox W g c) (hgd : Region.wanted o (yielded ops a.tmps) = true) (ho : o.op = .load 25 x) (hx : a.eval x = .pointer (some ⟨g, 0, none⟩))
    (h : wpList Tryd.prog ops Q rest (a.put o.dst (mtV c)) W) : wpList Tryd.prog ops Q (o :: rest) a W := ld_at hgd 25 x ho g hx 25 (mtC c) (0, 0) _ hm Tryd.underlying25 rfl (by kernel_rfl) h
theorem ld_hd {g : Nat} {x : Operand} {c : Hdr} (hm : HBox W g c) (hgd : Region.wanted o (yielded ops a.tmps) = true) (ho : o.op = .load 31 x) (hx : a.eval x = .pointer (some ⟨g, 0, none⟩))
    (h : wpList Tryd.prog ops Q rest (a.put o.dst (hdrV c)) W) : wpList Tryd.prog ops Q (o :: rest) a W := ld_at hgd 31 x ho g hx 31 (hdrC c) (0, 0) _ hm Tryd.underlying31 rfl (by kernel_rfl) h
end
end Go.Proofs.YtkcikblecinnfaaDoor
