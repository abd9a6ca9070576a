/- Texts of one proof, one behind another. -/
import Derived.Test.YtadlecnlgkhneaaRu4
import Derived.Shelf.GgClosure.Gives
import Derived.Deep.RegionWith
import Derived.Test.YtadlecnlgkhneaaRu3
/-
  A TRIE OF ATTRIBUTES: what lies below a node, in order; walk, Below, All.
-/
namespace Go.Proofs.Ytadlecnlgkhneaa
open Go.RowKit Go.Lib
set_option linter.unusedVariables false

abbrev Itm := (Nat × Nat) × AV
def hereP (S : List (Nat × AV)) (A i : Nat) : List Itm := match getL S (keyN A i) with | some v => [((A, i), v)] | none => []
/-- what stands at a net and below it, d bits deeper at most, in order. -/
def goP (S : List (Nat × AV)) : Nat → Nat → Nat → List Itm
  | 0, A, i => hereP S A i
  | d + 1, A, i => hereP S A i ++ (goP S d A (i + 1) ++ goP S d (A + 2 ^ (31 - i)) (i + 1))
/-- one after the other, as long as it goes on. -/
def runL (cont : List Itm → Bool) (L : List Itm) : List Itm → List Itm × Bool
  | [] => (L, true)
  | x :: xs => if cont (L ++ [x]) then runL cont (L ++ [x]) xs else (L ++ [x], false)
theorem runL_append (cont : List Itm → Bool) : ∀ (L xs ys : List Itm), runL cont L (xs ++ ys) = if (runL cont L xs).2 then runL cont (runL cont L xs).1 ys else runL cont L xs
  | L, [], ys => by simp [runL]
  | L, x :: xs, ys => by
    simp only [List.cons_append, runL]
    split
    · exact runL_append cont _ xs ys
    · simp
theorem runL_all (cont : List Itm → Bool) (h : ∀ L, cont L = true) : ∀ (L xs : List Itm), runL cont L xs = (L ++ xs, true)
  | L, [] => by simp [runL]
  | L, x :: xs => by simp [runL, h, runL_all cont h]
theorem key_left {A i : Nat} (hi : i < 32) (hr : A % 2 ^ (32 - i) = 0) : keyN A (i + 1) = 2 * keyN A i := by
  rw [keyN_succ A i hi]
  have : A / 2 ^ (31 - i) % 2 = 0 := by
    rw [show 32 - i = (31 - i) + 1 by omega, Nat.pow_succ, Nat.mod_mul] at hr
    have h1 := Nat.pow_pos (n := 31 - i) (show 0 < 2 by decide)
    rcases Nat.mod_two_eq_zero_or_one (A / 2 ^ (31 - i)) with m | m
    · exact m
    · rw [m] at hr; omega
  omega
theorem key_right {A i : Nat} (hi : i < 32) (hr : A % 2 ^ (32 - i) = 0) : keyN (A + 2 ^ (31 - i)) (i + 1) = 2 * keyN A i + 1 := by
  have hl := key_left hi hr
  unfold keyN at hl ⊢
  rw [show 32 - (i + 1) = 31 - i by omega] at hl ⊢
  rw [Nat.add_div_right _ (Nat.pow_pos (by decide))]
  omega
theorem right_mod {A i : Nat} : rightB (A : Int) (i : Int) = true ↔ A % 2 ^ (32 - i) = 0 ∧ i ≤ 32 := by
  rw [rightB_iff]
  constructor
  · rintro ⟨h1, h2, h3⟩
    rw [lowN_of _ h2 h3, show (32 - (i : Int)).toNat = 32 - i by omega] at h1
    refine ⟨?_, by omega⟩
    have : ((A % 2 ^ (32 - i) : Nat) : Int) = 0 := by rw [← h1]; simp
    omega
  · rintro ⟨h1, h2⟩
    rw [lowN_of _ (by omega) (by omega), show (32 - (i : Int)).toNat = 32 - i by omega]
    refine ⟨?_, by omega, by omega⟩
    have : ((A % 2 ^ (32 - i) : Nat) : Int) = 0 := by rw [h1]; rfl
    rw [← this]; simp
theorem mod_left {A i : Nat} (hi : i < 32) (hr : A % 2 ^ (32 - i) = 0) : A % 2 ^ (32 - (i + 1)) = 0 := by
  rw [show 32 - i = (32 - (i + 1)) + 1 by omega, Nat.pow_succ, Nat.mod_mul] at hr
  omega
theorem mod_right {A i : Nat} (hi : i < 32) (hr : A % 2 ^ (32 - i) = 0) : (A + 2 ^ (31 - i)) % 2 ^ (32 - (i + 1)) = 0 := by
  rw [show 31 - i = 32 - (i + 1) by omega, Nat.add_mod_right]
  exact mod_left hi hr
theorem lt_right {A i : Nat} (hi : i < 32) (ha : A < 4294967296) (hr : A % 2 ^ (32 - i) = 0) : A + 2 ^ (31 - i) < 4294967296 := by
  obtain ⟨q, rfl⟩ := Nat.dvd_of_mod_eq_zero hr
  have e : (4294967296 : Nat) = 2 ^ (32 - i) * 2 ^ i := by rw [← Nat.pow_add, show 32 - i + i = 32 by omega]
  have e2 : 2 ^ (32 - i) = 2 ^ (31 - i) * 2 := by rw [show 32 - i = (31 - i) + 1 by omega, Nat.pow_succ]
  have hq : q < 2 ^ i := by
    rw [e] at ha
    exact Nat.lt_of_mul_lt_mul_left ha
  have h3 : 2 ^ (32 - i) * (q + 1) ≤ 2 ^ (32 - i) * 2 ^ i := Nat.mul_le_mul_left _ hq
  rw [← e, Nat.mul_add] at h3
  have h1 := Nat.pow_pos (n := 31 - i) (show 0 < 2 by decide)
  omega
theorem goP_none {tT tN : TypeId} {z : AV} {W : World} {tb : Nat} {N : Nat → Option Nat} {S : List (Nat × AV)} {most : Int} (h : TrieAt tT tN z W tb N S most) : ∀ (d A i : Nat), i + d = 32 → A % 2 ^ (32 - i) = 0 → N (keyN A i) = none → goP S d A i = []
  | 0, A, i, _, _, hn => by unfold goP hereP; rw [h.none_of hn]
  | d + 1, A, i, hi, hr, hn => by
    obtain ⟨u1, u2⟩ := h.up_none hn (keyN_pos A i)
    unfold goP hereP
    rw [h.none_of hn, goP_none h d A (i + 1) (by omega) (mod_left (by omega) hr) (by rw [key_left (by omega) hr]; exact u1),
      goP_none h d (A + 2 ^ (31 - i)) (i + 1) (by omega) (mod_right (by omega) hr) (by rw [key_right (by omega) hr]; exact u2)]
    rfl
theorem hereP_no {S : List (Nat × AV)} {A i : Nat} (h : getL S (keyN A i) = none) : hereP S A i = [] := by unfold hereP; rw [h]
theorem hereP_yes {S : List (Nat × AV)} {A i : Nat} {v : AV} (h : getL S (keyN A i) = some v) : hereP S A i = [((A, i), v)] := by unfold hereP; rw [h]
/-- what is asked of the function that is called at each. -/
structure EachOk (tb : Nat) (N : Nat → Option Nat) (S : List (Nat × AV)) (most : Int) (g : Nat) (lb : Array Value) (cont : List Itm → Bool) (Inv : (Nat → Prop) → List Itm → World → Prop) : Prop where
  ent : ∀ args w, (callFunc g args).run Try.prog w = .ok (.enter g args) w
  stab : ∀ P P' L W W', Inv P L W → Below W.heap.size W W' → (∀ b, P' b → P b ∨ (W.heap.size ≤ b ∧ b < W'.heap.size)) → Inv P' L W'
  tri : ∀ P L W, Inv P L W → TrI W tb N S most
  call : ∀ P L W (A i : Nat) v, Inv P L W → A < 4294967296 → rightB A i = true → getL S (keyN A i) = some v →
    Calls Try.prog g (#[.agg #[.int .u32 A, .int .i64 i], v.V] ++ lb) W fun e w' => e = .returned (.bool (cont (L ++ [((A, i), v)]))) ∧ Inv P (L ++ [((A, i), v)]) w' ∧ Kept (fun b => ¬ P b) W w'
def WalkPost (cont : List Itm → Bool) (Inv : (Nat → Prop) → List Itm → World → Prop) (P : Nat → Prop) (w : World) (r : List Itm × Bool) (e : Ending) (w' : World) : Prop :=
  e = .returned (.bool r.2) ∧ Inv P r.1 w' ∧ Kept (fun b => ¬ P b) w w'
theorem WalkPost.of {cont : List Itm → Bool} {Inv : (Nat → Prop) → List Itm → World → Prop} {P : Nat → Prop} {w w' : World} {r : List Itm × Bool} {L : List Itm} {c : Bool} (h : r = (L, c)) (hI : Inv P L w') (hK : Kept (fun b => ¬ P b) w w') : WalkPost cont Inv P w r (.returned (.bool c)) w' := by
  subst h; exact ⟨rfl, hI, hK⟩
theorem half_0 (A i : Nat) (ha : A < 4294967296) (hi : i < 32) (hr : rightB A i = true) (w : World) : Calls Try.prog 83 #[.agg #[.int .u32 A, .int .i64 i], .int .i64 0] w fun e w' => e = .returned (.tuple #[.agg #[.int .u32 A, .int .i64 (i + 1 : Nat)], .int .i64 0]) ∧ Below w.heap.size w w' := by
  have := ip_Half (A : Int) (i : Int) 0 w (by omega) (by omega) hr (by omega)
  rw [halfI_0] at this
  exact this
theorem half_1 (A i : Nat) (ha : A < 4294967296) (hi : i < 32) (hr : rightB A i = true) (w : World) : Calls Try.prog 83 #[.agg #[.int .u32 A, .int .i64 i], .int .i64 1] w fun e w' => e = .returned (.tuple #[.agg #[.int .u32 (A + 2 ^ (31 - i) : Nat), .int .i64 (i + 1 : Nat)], .int .i64 0]) ∧ Below w.heap.size w w' := by
  have := ip_Half (A : Int) (i : Int) 1 w (by omega) (by omega) hr (by omega)
  rw [halfI_1 _ _ _ (by decide)] at this
  have e : (A : Int) + sizeI ((i : Int) + 1) = ((A + 2 ^ (31 - i) : Nat) : Int) := by
    unfold sizeI
    rw [lowN_of _ (by omega) (by omega), show (32 - ((i : Int) + 1)).toNat = 31 - i by omega]
    simp
  rw [e] at this
  exact this
theorem half_32 (A i : Nat) (hi : i = 32) (t : Int) (ha : A < 4294967296) (w : World) : Calls Try.prog 83 #[.agg #[.int .u32 A, .int .i64 i], .int .i64 t] w fun e w' => e = .returned (.tuple #[.agg #[.int .u32 0, .int .i64 0], .int .i64 1]) ∧ Below w.heap.size w w' :=
  ip_Half_bad (A : Int) i t w (by omega) (by omega) (.inr (by subst hi; rfl))
section
variable {tb : Nat} {N : Nat → Option Nat} {S : List (Nat × AV)} {most : Int} {g : Nat} {lb : Array Value} {cont : List Itm → Bool} {Inv : (Nat → Prop) → List Itm → World → Prop}

set_option maxHeartbeats 1600000 in
set_option maxRecDepth 100000 in
theorem walk_nil (E : EachOk tb N S most g lb cont Inv) (d A i : Nat) (L : List Itm) (P : Nat → Prop) (w : World) (hi : i + d = 32) (hr : A % 2 ^ (32 - i) = 0) (hI : Inv P L w) (hn : N (keyN A i) = none) :
    Calls Try.prog 70 #[.pointer none, .agg #[.int .u32 A, .int .i64 i], .func (.func g) #[] lb] w (WalkPost cont Inv P w (runL cont L (goP S d A i))) := by
  have G := Lib.hid (show runL cont L (goP S d A i) = (L, true) by rw [goP_none (E.tri _ _ _ hI) d A i hi hr hn]; rfl)
  have HB : ∀ o, Below w.heap.size w (w.alloc o) := fun o => (Below.refl _ _).alloc (Nat.le_refl _) _
  have I2 := Lib.hid (fun o => E.stab P P L w (w.alloc o) hI (HB o) (fun b h => .inl h))
  clear hn hI
  go_enter Try.func70, Try.ntmps70
  go_wp2_with fail
  go_ret
  exact WalkPost.of G.out (I2.out _) (Kept.of_below (HB _))

/-- what holds on the way. -/
def WSt (Inv : (Nat → Prop) → List Itm → World → Prop) (P : Nat → Prop) (w : World) (A i : Nat) (L : List Itm) (W : World) : Prop :=
  Inv (fun b => P b ∨ b = w.heap.size) L W ∧ W.cell? ⟨w.heap.size, 0, none⟩ = some (.int .u32 A) ∧ W.cell? ⟨w.heap.size, 1, none⟩ = some (.int .i64 i) ∧ Kept (fun b => ¬ P b) w W
theorem WSt.below (E : EachOk tb N S most g lb cont Inv) {P : Nat → Prop} {w W W' : World} {A i : Nat} {L : List Itm} (h : WSt Inv P w A i L W) (hb : Below W.heap.size W W') : WSt Inv P w A i L W' :=
  ⟨E.stab _ _ _ _ _ h.1 hb (fun _ h => .inl h), cell_below h.2.1 hb, cell_below h.2.2.1 hb, h.2.2.2.grow hb⟩
theorem WSt.step {P : Nat → Prop} {w W W' : World} {A i : Nat} {L L' : List Itm} (h : WSt Inv P w A i L W) (hI : Inv (fun b => P b ∨ b = w.heap.size) L' W') (hk : Kept (fun b => ¬ (P b ∨ b = w.heap.size)) W W') : WSt Inv P w A i L' W' :=
  ⟨hI, hk.cell h.2.1 (fun h => h (.inr rfl)), hk.cell h.2.2.1 (fun h => h (.inr rfl)), h.2.2.2.trans (hk.imp (fun k h hp => h (.inl hp)))⟩
theorem WSt.done (E : EachOk tb N S most g lb cont Inv) {P : Nat → Prop} {w W : World} {A i : Nat} {L : List Itm} {r : List Itm × Bool} {c : Bool} (h : WSt Inv P w A i L W) (hr : r = (L, c)) : WalkPost cont Inv P w r (.returned (.bool c)) W :=
  WalkPost.of hr (E.stab _ _ _ _ _ h.1 (Below.refl _ _) (fun _ h => .inl (.inl h))) h.2.2.2

set_option maxHeartbeats 3200000 in
set_option maxRecDepth 100000 in
theorem walk_0 (E : EachOk tb N S most g lb cont Inv) (A i : Nat) (h32 : i = 32) (L : List Itm) (P : Nat → Prop) (w : World) (ha : A < 4294967296) (hR : rightB A i = true) (hI : Inv P L w) {b : Nat} (hn : N (keyN A i) = some b) :
    Calls Try.prog 70 #[.pointer (some ⟨b, 0, none⟩), .agg #[.int .u32 A, .int .i64 i], .func (.func g) #[] lb] w (WalkPost cont Inv P w (runL cont L (goP S 0 A i))) := by
  have HF := Lib.hid (fun t W => half_32 A i h32 t ha W)
  clear h32
  have eg := E.ent
  have HN := Lib.hid hn
  have HI := Lib.hid hI
  have EE := Lib.hid E
  have HR := Lib.hid hR
  clear hn hI E
  cases hg : getL S (keyN A i) with
  | none =>
    have G := Lib.hid (hereP_no hg)
    have HG := Lib.hid hg
    clear hg
    go_enter Try.func70, Try.ntmps70
    go_wp2_with fail
    obtain ⟨W0, hW0, c0, c1, hB⟩ := box2 w (.int .u32 A) (.int .i64 i) 29
    have hz : W0.heap.size = w.heap.size + 1 := by rw [hW0]; simp
    rw [← hW0]; clear hW0
    have S0 : Hid (WSt Inv P w A i L W0) := Lib.hid ⟨EE.out.stab _ _ _ _ _ HI.out hB (fun b h => h.imp_right (fun e => by omega)), c0, c1, Kept.of_below hB⟩
    clear hz
    obtain ⟨_, _, d2⟩ := (EE.out.tri _ _ _ S0.out.1).ncells HN.out
    rw [HG.out] at d2
    replace d2 : W0.cell? ⟨b, 2, none⟩ = some (.bool false) := d2
    go_quiet (fail)
    obtain ⟨Wc, hWc⟩ : ∃ Wc, Wc = W0.drewN nq := ⟨_, rfl⟩
    have SC : Hid (WSt Inv P w A i L Wc) := Lib.hid (by rw [hWc]; exact S0.out.below EE.out (below_drewN (Below.refl _ _) nq))
    rw [← hWc]
    clear hWc S0 d2 c0 c1 hB
    obtain ⟨L1, hL1⟩ : ∃ L1, L1 = L := ⟨_, rfl⟩
    have GR : Hid (∀ xs, runL cont L (hereP S A i ++ xs) = runL cont L1 xs) := Lib.hid (fun xs => by rw [G.out, hL1]; rfl)
    rw [← hL1] at SC
    clear hL1
    go_wp2_with fail
    refine wp_loop_rounds 3 ?_
    rw [rounds_succ]
    have c0 := SC.out.2.1
    have c1 := SC.out.2.2.1
    go_wp2_with fail
    refine (HF.out 0 _).mono ?_
    rintro e w3 ⟨rfl, hb⟩
    have SC := Lib.hid (SC.out.below EE.out hb)
    clear hb c0 c1
    go_wp2_with fail
    obtain ⟨W4, hW4, h0, h1, hb4⟩ := box2 w3 (.int .u32 0) (.int .i64 0) 29
    rw [← hW4]; clear hW4
    have SC := Lib.hid (SC.out.below EE.out hb4)
    clear hb4 h0 h1
    go_quiet (fail)
    obtain ⟨W5, hW5⟩ : ∃ W5, W5 = W4.drewN nq := ⟨_, rfl⟩
    have SC : Hid (WSt Inv P w A i L1 W5) := Lib.hid (by rw [hW5]; exact SC.out.below EE.out (below_drewN (Below.refl _ _) nq))
    rw [← hW5]
    clear hW5
    go_wp2_with fail
    rw [rounds_succ]
    have c0 := SC.out.2.1
    have c1 := SC.out.2.2.1
    go_wp2_with fail
    refine (HF.out 1 _).mono ?_
    rintro e w3 ⟨rfl, hb⟩
    have SC := Lib.hid (SC.out.below EE.out hb)
    clear hb c0 c1
    go_wp2_with fail
    obtain ⟨W4, hW4, h0, h1, hb4⟩ := box2 w3 (.int .u32 0) (.int .i64 0) 29
    rw [← hW4]; clear hW4
    have SC := Lib.hid (SC.out.below EE.out hb4)
    clear hb4 h0 h1
    go_quiet (fail)
    obtain ⟨W5, hW5⟩ : ∃ W5, W5 = W4.drewN nq := ⟨_, rfl⟩
    have SC : Hid (WSt Inv P w A i L1 W5) := Lib.hid (by rw [hW5]; exact SC.out.below EE.out (below_drewN (Below.refl _ _) nq))
    rw [← hW5]
    clear hW5
    go_wp2_with fail
    rw [rounds_succ]
    go_wp2_with fail
    go_ret
    exact SC.out.done EE.out (by rw [show goP S 0 A i = hereP S A i ++ [] by rw [List.append_nil]; rfl, GR.out]; rfl)
  | some v =>
    have G := Lib.hid (hereP_yes hg)
    have HG := Lib.hid hg
    clear hg
    have EC := Lib.hid (fun W (h : WSt Inv P w A i L W) => EE.out.call _ L W A i v h.1 ha HR.out HG.out)
    generalize hcc : cont (L ++ [((A, i), v)]) = cc at EC
    go_enter Try.func70, Try.ntmps70
    go_wp2_with fail
    obtain ⟨W0, hW0, c0, c1, hB⟩ := box2 w (.int .u32 A) (.int .i64 i) 29
    have hz : W0.heap.size = w.heap.size + 1 := by rw [hW0]; simp
    rw [← hW0]; clear hW0
    have S0 : Hid (WSt Inv P w A i L W0) := Lib.hid ⟨EE.out.stab _ _ _ _ _ HI.out hB (fun b h => h.imp_right (fun e => by omega)), c0, c1, Kept.of_below hB⟩
    clear hz
    obtain ⟨_, _, d2⟩ := (EE.out.tri _ _ _ S0.out.1).ncells HN.out
    have d3 := node_range ((EE.out.tri _ _ _ S0.out.1).node _ _ HN.out)
    rw [HG.out] at d2 d3
    replace d2 : W0.cell? ⟨b, 2, none⟩ = some (.bool true) := d2
    replace d3 : Hid (W0.drew.rangeAt b 3 v.C.toList) := Lib.hid d3
    refine reg_tail 11 (by kernel_rfl) (by kernel_rfl) ?_
    simp only [List.take_succ_cons, List.take_zero, List.drop_succ_cons, List.drop_zero]
    repeat still_step
    refine still_ld (by rfl) (exec_ldm 35 (.tmp 21) rfl b 3 ?_ v.C.toList _ d3.out Try.underlying35 rfl (by kernel_rfl)) ?_
    · rfl
    refine wpStill_nil ?_
    go_wp2_with fail
    refine (EC.out _ (S0.out.below EE.out (Below.refl _ _).drew)).mono ?_
    rintro e Wc ⟨rfl, I1, K1⟩
    have SC : Hid (WSt Inv P w A i (L ++ [((A, i), v)]) Wc) := Lib.hid ((S0.out.below EE.out (Below.refl _ _).drew).step I1 K1)
    clear I1 K1 S0 d2 d3 c0 c1 hB EC
    cases hcc2 : cc
    · have GF : Hid (∀ xs, runL cont L (hereP S A i ++ xs) = (L ++ [((A, i), v)], false)) := Lib.hid (fun xs => by
        rw [G.out]
        simp only [List.cons_append, List.nil_append, runL]
        rw [hcc, hcc2]; exact if_neg (by decide))
      clear hcc hcc2
      go_wp2_with fail
      go_ret
      exact SC.out.done EE.out (by rw [show goP S 0 A i = hereP S A i ++ [] by rw [List.append_nil]; rfl]; exact GF.out _)
    · have GR : Hid (∀ xs, runL cont L (hereP S A i ++ xs) = runL cont (L ++ [((A, i), v)]) xs) := Lib.hid (fun xs => by
        rw [G.out]
        simp only [List.cons_append, List.nil_append, runL]
        rw [hcc, hcc2]; exact if_pos rfl)
      clear hcc hcc2
      generalize L ++ [((A, i), v)] = L1 at SC GR
      go_wp2_with fail
      refine wp_loop_rounds 3 ?_
      rw [rounds_succ]
      have c0 := SC.out.2.1
      have c1 := SC.out.2.2.1
      go_wp2_with fail
      refine (HF.out 0 _).mono ?_
      rintro e w3 ⟨rfl, hb⟩
      have SC := Lib.hid (SC.out.below EE.out hb)
      clear hb c0 c1
      go_wp2_with fail
      obtain ⟨W4, hW4, h0, h1, hb4⟩ := box2 w3 (.int .u32 0) (.int .i64 0) 29
      rw [← hW4]; clear hW4
      have SC := Lib.hid (SC.out.below EE.out hb4)
      clear hb4 h0 h1
      go_quiet (fail)
      obtain ⟨W5, hW5⟩ : ∃ W5, W5 = W4.drewN nq := ⟨_, rfl⟩
      have SC : Hid (WSt Inv P w A i L1 W5) := Lib.hid (by rw [hW5]; exact SC.out.below EE.out (below_drewN (Below.refl _ _) nq))
      rw [← hW5]
      clear hW5
      go_wp2_with fail
      rw [rounds_succ]
      have c0 := SC.out.2.1
      have c1 := SC.out.2.2.1
      go_wp2_with fail
      refine (HF.out 1 _).mono ?_
      rintro e w3 ⟨rfl, hb⟩
      have SC := Lib.hid (SC.out.below EE.out hb)
      clear hb c0 c1
      go_wp2_with fail
      obtain ⟨W4, hW4, h0, h1, hb4⟩ := box2 w3 (.int .u32 0) (.int .i64 0) 29
      rw [← hW4]; clear hW4
      have SC := Lib.hid (SC.out.below EE.out hb4)
      clear hb4 h0 h1
      go_quiet (fail)
      obtain ⟨W5, hW5⟩ : ∃ W5, W5 = W4.drewN nq := ⟨_, rfl⟩
      have SC : Hid (WSt Inv P w A i L1 W5) := Lib.hid (by rw [hW5]; exact SC.out.below EE.out (below_drewN (Below.refl _ _) nq))
      rw [← hW5]
      clear hW5
      go_wp2_with fail
      rw [rounds_succ]
      go_wp2_with fail
      go_ret
      exact SC.out.done EE.out (by rw [show goP S 0 A i = hereP S A i ++ [] by rw [List.append_nil]; rfl, GR.out]; rfl)
set_option maxHeartbeats 3200000 in
set_option maxRecDepth 100000 in
theorem walk_S (E : EachOk tb N S most g lb cont Inv) (d A i : Nat) (hi : i + (d + 1) = 32) (IH : ∀ (A i : Nat) (L : List Itm) (P : Nat → Prop) (w : World), i + d = 32 → A < 4294967296 → rightB A i = true → Inv P L w → Calls Try.prog 70 #[ptrN (N (keyN A i)), .agg #[.int .u32 A, .int .i64 i], .func (.func g) #[] lb] w (WalkPost cont Inv P w (runL cont L (goP S d A i)))) (L : List Itm) (P : Nat → Prop) (w : World) (ha : A < 4294967296) (hR : rightB A i = true) (hI : Inv P L w) {b : Nat} (hn : N (keyN A i) = some b) :
    Calls Try.prog 70 #[.pointer (some ⟨b, 0, none⟩), .agg #[.int .u32 A, .int .i64 i], .func (.func g) #[] lb] w (WalkPost cont Inv P w (runL cont L (goP S (d + 1) A i))) := by
  have hm := (right_mod.1 hR).1
  have GO := Lib.hid (show goP S (d + 1) A i = hereP S A i ++ (goP S d A (i + 1) ++ goP S d (A + 2 ^ (31 - i)) (i + 1)) from rfl)
  have HF0 : Hid (∀ W, Calls Try.prog 83 #[.agg #[.int .u32 A, .int .i64 i], .int .i64 0] W fun e w' => e = .returned (.tuple #[.agg #[.int .u32 A, .int .i64 ((i : Int) + 1)], .int .i64 0]) ∧ Below W.heap.size W w') := Lib.hid (half_0 A i ha (by omega) hR)
  have HF1 := Lib.hid (half_1 A i ha (by omega) hR)
  have KL := Lib.hid (key_left (show i < 32 by omega) hm)
  have KR := Lib.hid (key_right (show i < 32 by omega) hm)
  have IH0 : Hid (∀ L P w, Inv P L w → Calls Try.prog 70 #[ptrN (N (keyN A (i + 1))), .agg #[.int .u32 A, .int .i64 ((i : Int) + 1)], .func (.func g) #[] lb] w (WalkPost cont Inv P w (runL cont L (goP S d A (i + 1))))) := Lib.hid (fun L P w h => IH A (i + 1) L P w (by omega) ha (right_mod.2 ⟨mod_left (by omega) hm, by omega⟩) h)
  have IH1 := Lib.hid (fun L P w h => IH (A + 2 ^ (31 - i)) (i + 1) L P w (by omega) (lt_right (by omega) ha hm) (right_mod.2 ⟨mod_right (by omega) hm, by omega⟩) h)
  generalize A + 2 ^ (31 - i) = B at GO HF1 KR IH1
  have HF1 : Hid (∀ W, Calls Try.prog 83 #[.agg #[.int .u32 A, .int .i64 i], .int .i64 1] W fun e w' => e = .returned (.tuple #[.agg #[.int .u32 B, .int .i64 ((i : Int) + 1)], .int .i64 0]) ∧ Below W.heap.size W w') := Lib.hid HF1.out
  have IH1 : Hid (∀ L P w, Inv P L w → Calls Try.prog 70 #[ptrN (N (keyN B (i + 1))), .agg #[.int .u32 B, .int .i64 ((i : Int) + 1)], .func (.func g) #[] lb] w (WalkPost cont Inv P w (runL cont L (goP S d B (i + 1))))) := Lib.hid IH1.out
  clear IH hm
  have eg := E.ent
  have HN := Lib.hid hn
  have HI := Lib.hid hI
  have EE := Lib.hid E
  have HR := Lib.hid hR
  clear hn hI E
  cases hg : getL S (keyN A i) with
  | none =>
    have G := Lib.hid (hereP_no hg)
    have HG := Lib.hid hg
    clear hg
    go_enter Try.func70, Try.ntmps70
    go_wp2_with fail
    obtain ⟨W0, hW0, c0, c1, hB⟩ := box2 w (.int .u32 A) (.int .i64 i) 29
    have hz : W0.heap.size = w.heap.size + 1 := by rw [hW0]; simp
    rw [← hW0]; clear hW0
    have S0 : Hid (WSt Inv P w A i L W0) := Lib.hid ⟨EE.out.stab _ _ _ _ _ HI.out hB (fun b h => h.imp_right (fun e => by omega)), c0, c1, Kept.of_below hB⟩
    clear hz
    obtain ⟨_, _, d2⟩ := (EE.out.tri _ _ _ S0.out.1).ncells HN.out
    rw [HG.out] at d2
    replace d2 : W0.cell? ⟨b, 2, none⟩ = some (.bool false) := d2
    go_quiet (fail)
    obtain ⟨Wc, hWc⟩ : ∃ Wc, Wc = W0.drewN nq := ⟨_, rfl⟩
    have SC : Hid (WSt Inv P w A i L Wc) := Lib.hid (by rw [hWc]; exact S0.out.below EE.out (below_drewN (Below.refl _ _) nq))
    rw [← hWc]
    clear hWc S0 d2 c0 c1 hB
    obtain ⟨L1, hL1⟩ : ∃ L1, L1 = L := ⟨_, rfl⟩
    have GR : Hid (∀ xs, runL cont L (hereP S A i ++ xs) = runL cont L1 xs) := Lib.hid (fun xs => by rw [G.out, hL1]; rfl)
    rw [← hL1] at SC
    clear hL1
    go_wp2_with fail
    refine wp_loop_rounds 3 ?_
    rw [rounds_succ]
    have c0 := SC.out.2.1
    have c1 := SC.out.2.2.1
    go_wp2_with fail
    refine (HF0.out _).mono ?_
    rintro e w3 ⟨rfl, hb⟩
    have SC := Lib.hid (SC.out.below EE.out hb)
    clear hb c0 c1
    go_wp2_with fail
    obtain ⟨W4, hW4, h0, h1, hb4⟩ := box2 w3 (.int .u32 A) (.int .i64 ((i : Int) + 1)) 29
    rw [← hW4]; clear hW4
    have SC := Lib.hid (SC.out.below EE.out hb4)
    clear hb4
    obtain ⟨q0, q1, _⟩ := (EE.out.tri _ _ _ SC.out.1).ncells HN.out
    rw [← KL.out] at q0
    rw [← KR.out] at q1
    refine reg_tail 11 (by kernel_rfl) (by kernel_rfl) ?_
    simp only [List.take_succ_cons, List.take_zero, List.drop_succ_cons, List.drop_zero]
    repeat still_step
    refine wpStill_nil ?_
    go_wp2_with fail
    have SD := Lib.hid (SC.out.below EE.out (Below.refl _ _).drew)
    refine (IH0.out _ _ _ SD.out.1).mono ?_
    rintro e w5 ⟨rfl, I5, K5⟩
    have SC := Lib.hid (SD.out.step I5 K5)
    clear I5 K5 SD q0 q1 h0 h1
    obtain ⟨⟨L2, c2⟩, h2⟩ : ∃ r, r = runL cont L1 (goP S d A (i + 1)) := ⟨_, rfl⟩
    rw [← h2] at SC ⊢
    have H2 := Lib.hid h2
    clear h2
    cases c2
    · go_wp2_with fail
      go_ret
      exact SC.out.done EE.out (by rw [GO.out, GR.out, runL_append, ← H2.out]; rfl)
    go_wp2_with fail
    rw [rounds_succ]
    have c0 := SC.out.2.1
    have c1 := SC.out.2.2.1
    go_wp2_with fail
    refine (HF1.out _).mono ?_
    rintro e w3 ⟨rfl, hb⟩
    have SC := Lib.hid (SC.out.below EE.out hb)
    clear hb c0 c1
    go_wp2_with fail
    obtain ⟨W4, hW4, h0, h1, hb4⟩ := box2 w3 (.int .u32 B) (.int .i64 ((i : Int) + 1)) 29
    rw [← hW4]; clear hW4
    have SC := Lib.hid (SC.out.below EE.out hb4)
    clear hb4
    obtain ⟨q0, q1, _⟩ := (EE.out.tri _ _ _ SC.out.1).ncells HN.out
    rw [← KL.out] at q0
    rw [← KR.out] at q1
    refine reg_tail 11 (by kernel_rfl) (by kernel_rfl) ?_
    simp only [List.take_succ_cons, List.take_zero, List.drop_succ_cons, List.drop_zero]
    repeat still_step
    refine wpStill_nil ?_
    go_wp2_with fail
    have SD := Lib.hid (SC.out.below EE.out (Below.refl _ _).drew)
    refine (IH1.out _ _ _ SD.out.1).mono ?_
    rintro e w5 ⟨rfl, I5, K5⟩
    have SC := Lib.hid (SD.out.step I5 K5)
    clear I5 K5 SD q0 q1 h0 h1
    obtain ⟨⟨L3, c3⟩, h3⟩ : ∃ r, r = runL cont L2 (goP S d B (i + 1)) := ⟨_, rfl⟩
    rw [← h3] at SC ⊢
    have H3 := Lib.hid h3
    clear h3
    cases c3
    · go_wp2_with fail
      go_ret
      exact SC.out.done EE.out (by rw [GO.out, GR.out, runL_append, ← H2.out]; exact H3.out.symm)
    go_wp2_with fail
    rw [rounds_succ]
    go_wp2_with fail
    go_ret
    exact SC.out.done EE.out (by rw [GO.out, GR.out, runL_append, ← H2.out]; exact H3.out.symm)
  | some v =>
    have G := Lib.hid (hereP_yes hg)
    have HG := Lib.hid hg
    clear hg
    have EC := Lib.hid (fun W (h : WSt Inv P w A i L W) => EE.out.call _ L W A i v h.1 ha HR.out HG.out)
    generalize hcc : cont (L ++ [((A, i), v)]) = cc at EC
    go_enter Try.func70, Try.ntmps70
    go_wp2_with fail
    obtain ⟨W0, hW0, c0, c1, hB⟩ := box2 w (.int .u32 A) (.int .i64 i) 29
    have hz : W0.heap.size = w.heap.size + 1 := by rw [hW0]; simp
    rw [← hW0]; clear hW0
    have S0 : Hid (WSt Inv P w A i L W0) := Lib.hid ⟨EE.out.stab _ _ _ _ _ HI.out hB (fun b h => h.imp_right (fun e => by omega)), c0, c1, Kept.of_below hB⟩
    clear hz
    obtain ⟨_, _, d2⟩ := (EE.out.tri _ _ _ S0.out.1).ncells HN.out
    have d3 := node_range ((EE.out.tri _ _ _ S0.out.1).node _ _ HN.out)
    rw [HG.out] at d2 d3
    replace d2 : W0.cell? ⟨b, 2, none⟩ = some (.bool true) := d2
    replace d3 : Hid (W0.drew.rangeAt b 3 v.C.toList) := Lib.hid d3
    refine reg_tail 11 (by kernel_rfl) (by kernel_rfl) ?_
    simp only [List.take_succ_cons, List.take_zero, List.drop_succ_cons, List.drop_zero]
    repeat still_step
    refine still_ld (by rfl) (exec_ldm 35 (.tmp 21) rfl b 3 ?_ v.C.toList _ d3.out Try.underlying35 rfl (by kernel_rfl)) ?_
    · rfl
    refine wpStill_nil ?_
    go_wp2_with fail
    refine (EC.out _ (S0.out.below EE.out (Below.refl _ _).drew)).mono ?_
    rintro e Wc ⟨rfl, I1, K1⟩
    have SC : Hid (WSt Inv P w A i (L ++ [((A, i), v)]) Wc) := Lib.hid ((S0.out.below EE.out (Below.refl _ _).drew).step I1 K1)
    clear I1 K1 S0 d2 d3 c0 c1 hB EC
    cases hcc2 : cc
    · have GF : Hid (∀ xs, runL cont L (hereP S A i ++ xs) = (L ++ [((A, i), v)], false)) := Lib.hid (fun xs => by
        rw [G.out]
        simp only [List.cons_append, List.nil_append, runL]
        rw [hcc, hcc2]; exact if_neg (by decide))
      clear hcc hcc2
      go_wp2_with fail
      go_ret
      exact SC.out.done EE.out (by rw [GO.out]; exact GF.out _)
    · have GR : Hid (∀ xs, runL cont L (hereP S A i ++ xs) = runL cont (L ++ [((A, i), v)]) xs) := Lib.hid (fun xs => by
        rw [G.out]
        simp only [List.cons_append, List.nil_append, runL]
        rw [hcc, hcc2]; exact if_pos rfl)
      clear hcc hcc2
      generalize L ++ [((A, i), v)] = L1 at SC GR
      go_wp2_with fail
      refine wp_loop_rounds 3 ?_
      rw [rounds_succ]
      have c0 := SC.out.2.1
      have c1 := SC.out.2.2.1
      go_wp2_with fail
      refine (HF0.out _).mono ?_
      rintro e w3 ⟨rfl, hb⟩
      have SC := Lib.hid (SC.out.below EE.out hb)
      clear hb c0 c1
      go_wp2_with fail
      obtain ⟨W4, hW4, h0, h1, hb4⟩ := box2 w3 (.int .u32 A) (.int .i64 ((i : Int) + 1)) 29
      rw [← hW4]; clear hW4
      have SC := Lib.hid (SC.out.below EE.out hb4)
      clear hb4
      obtain ⟨q0, q1, _⟩ := (EE.out.tri _ _ _ SC.out.1).ncells HN.out
      rw [← KL.out] at q0
      rw [← KR.out] at q1
      refine reg_tail 11 (by kernel_rfl) (by kernel_rfl) ?_
      simp only [List.take_succ_cons, List.take_zero, List.drop_succ_cons, List.drop_zero]
      repeat still_step
      refine wpStill_nil ?_
      go_wp2_with fail
      have SD := Lib.hid (SC.out.below EE.out (Below.refl _ _).drew)
      refine (IH0.out _ _ _ SD.out.1).mono ?_
      rintro e w5 ⟨rfl, I5, K5⟩
      have SC := Lib.hid (SD.out.step I5 K5)
      clear I5 K5 SD q0 q1 h0 h1
      obtain ⟨⟨L2, c2⟩, h2⟩ : ∃ r, r = runL cont L1 (goP S d A (i + 1)) := ⟨_, rfl⟩
      rw [← h2] at SC ⊢
      have H2 := Lib.hid h2
      clear h2
      cases c2
      · go_wp2_with fail
        go_ret
        exact SC.out.done EE.out (by rw [GO.out, GR.out, runL_append, ← H2.out]; rfl)
      go_wp2_with fail
      rw [rounds_succ]
      have c0 := SC.out.2.1
      have c1 := SC.out.2.2.1
      go_wp2_with fail
      refine (HF1.out _).mono ?_
      rintro e w3 ⟨rfl, hb⟩
      have SC := Lib.hid (SC.out.below EE.out hb)
      clear hb c0 c1
      go_wp2_with fail
      obtain ⟨W4, hW4, h0, h1, hb4⟩ := box2 w3 (.int .u32 B) (.int .i64 ((i : Int) + 1)) 29
      rw [← hW4]; clear hW4
      have SC := Lib.hid (SC.out.below EE.out hb4)
      clear hb4
      obtain ⟨q0, q1, _⟩ := (EE.out.tri _ _ _ SC.out.1).ncells HN.out
      rw [← KL.out] at q0
      rw [← KR.out] at q1
      refine reg_tail 11 (by kernel_rfl) (by kernel_rfl) ?_
      simp only [List.take_succ_cons, List.take_zero, List.drop_succ_cons, List.drop_zero]
      repeat still_step
      refine wpStill_nil ?_
      go_wp2_with fail
      have SD := Lib.hid (SC.out.below EE.out (Below.refl _ _).drew)
      refine (IH1.out _ _ _ SD.out.1).mono ?_
      rintro e w5 ⟨rfl, I5, K5⟩
      have SC := Lib.hid (SD.out.step I5 K5)
      clear I5 K5 SD q0 q1 h0 h1
      obtain ⟨⟨L3, c3⟩, h3⟩ : ∃ r, r = runL cont L2 (goP S d B (i + 1)) := ⟨_, rfl⟩
      rw [← h3] at SC ⊢
      have H3 := Lib.hid h3
      clear h3
      cases c3
      · go_wp2_with fail
        go_ret
        exact SC.out.done EE.out (by rw [GO.out, GR.out, runL_append, ← H2.out]; exact H3.out.symm)
      go_wp2_with fail
      rw [rounds_succ]
      go_wp2_with fail
      go_ret
      exact SC.out.done EE.out (by rw [GO.out, GR.out, runL_append, ← H2.out]; exact H3.out.symm)
theorem trI_walk (E : EachOk tb N S most g lb cont Inv) : ∀ (d A i : Nat) (L : List Itm) (P : Nat → Prop) (w : World), i + d = 32 → A < 4294967296 → rightB A i = true → Inv P L w →
    Calls Try.prog 70 #[ptrN (N (keyN A i)), .agg #[.int .u32 A, .int .i64 i], .func (.func g) #[] lb] w (WalkPost cont Inv P w (runL cont L (goP S d A i)))
  | 0, A, i, L, P, w, hi, ha, hR, hI => by
    obtain rfl : i = 32 := by omega
    cases hn : N (keyN A 32) with
    | none => exact walk_nil E 0 A 32 L P w rfl (right_mod.1 hR).1 hI hn
    | some b => exact walk_0 E A 32 rfl L P w ha hR hI hn
  | d + 1, A, i, L, P, w, hi, ha, hR, hI => by
    cases hn : N (keyN A i) with
    | none => exact walk_nil E (d + 1) A i L P w hi (right_mod.1 hR).1 hI hn
    | some b => exact walk_S E d A i hi (trI_walk E d) L P w ha hR hI hn
end
end Go.Proofs.Ytadlecnlgkhneaa

/-
  A TRIE OF ATTRIBUTES: Below, All.
-/
namespace Go.Proofs.Ytadlecnlgkhneaa
open Go.RowKit Go.Lib
set_option linter.unusedVariables false
section
variable {tb : Nat} {N : Nat → Option Nat} {S : List (Nat × AV)} {most : Int} {g : Nat} {lb : Array Value} {cont : List Itm → Bool} {Inv : (Nat → Prop) → List Itm → World → Prop}
set_option maxRecDepth 100000 in
theorem neq_func (g : Nat) (lb : Array Value) (w : World) : (binOp .neq 105 (.func (.func g) #[] lb) .nilFunc).run Try.prog w = .ok (.bool true) w := by
  first | rfl | kernel_rfl | simp [binOp, go_sem]
set_option maxHeartbeats 400000 in
theorem walk_nilp (A i : Int) (g : Nat) (lb : Array Value) (w : World) : Calls Try.prog 70 #[.pointer none, .agg #[.int .u32 A, .int .i64 i], .func (.func g) #[] lb] w fun e w' => e = .returned (.bool true) ∧ Below w.heap.size w w' := by
  go_enter Try.func70, Try.ntmps70
  go_wp2_with fail
  go_ret
  exact ⟨rfl, (Below.refl _ _).alloc (Nat.le_refl _) _⟩
def BelowPost (Inv : (Nat → Prop) → List Itm → World → Prop) (P : Nat → Prop) (w : World) (L : List Itm) (e : Ending) (w' : World) : Prop :=
  e = .returned (.tuple #[]) ∧ Inv P L w' ∧ Kept (fun b => ¬ P b) w w'
set_option maxHeartbeats 1600000 in
set_option maxRecDepth 100000 in
theorem trI_Below (E : EachOk tb N S most g lb cont Inv) (A i : Nat) (L : List Itm) (P : Nat → Prop) (w : World) (ha : A < 4294967296) (hR : rightB A i = true) (hI : Inv P L w) :
    Calls Try.prog 64 #[.pointer (some ⟨tb, 0, none⟩), .agg #[.int .u32 A, .int .i64 i], .func (.func g) #[] lb] w (BelowPost Inv P w (runL cont L (goP S (32 - i) A i)).1) := by
  have hi := (right_mod.1 hR).2
  have EE := Lib.hid E
  have HI := Lib.hid hI
  have FD := Lib.hid (fun W h => trI_find (tb := tb) (N := N) (S := S) (most := most) A i W h ha hR)
  have WK := Lib.hid (fun P L W h => trI_walk E (32 - i) A i L P W (by omega) ha hR h)
  clear E hI
  have nf := fun W => neq_func g lb W
  go_enter Try.func64, Try.ntmps64
  go_wp2_with fail
  obtain ⟨W0, hW0, c0, c1, hB⟩ := box2 w (.int .u32 A) (.int .i64 i) 29
  have hz : W0.heap.size = w.heap.size + 1 := by rw [hW0]; simp
  rw [← hW0]; clear hW0
  have S0 : Hid (WSt Inv P w A i L W0) := Lib.hid ⟨EE.out.stab _ _ _ _ _ HI.out hB (fun b h => h.imp_right (fun e => by omega)), c0, c1, Kept.of_below hB⟩
  clear hz
  have SD : Hid (WSt Inv P w A i L W0.drew) := Lib.hid (S0.out.below EE.out (Below.refl _ _).drew)
  go_region_with (first
    | (go_at_call 59; refine (FD.out _ (EE.out.tri _ _ _ SD.out.1)).mono ?_; rintro e w1 ⟨rfl, hb⟩; have S1 := Lib.hid (SD.out.below EE.out hb); have c0 := S1.out.2.1; have c1 := S1.out.2.2.1)
    | (go_at_call 70; refine (WK.out _ _ _ S1.out.1).mono ?_; rintro e w2 ⟨rfl, I2, K2⟩; have SE := Lib.hid (S1.out.step I2 K2)))
  all_goals
    go_wp2_with fail
    go_end0
    exact ⟨rfl, EE.out.stab _ _ _ _ _ SE.out.1 (Below.refl _ _) (fun _ h => .inl (.inl h)), SE.out.2.2.2⟩
set_option maxHeartbeats 1600000 in
set_option maxRecDepth 100000 in
theorem trI_All (E : EachOk tb N S most g lb cont Inv) (L : List Itm) (P : Nat → Prop) (w : World) (hI : Inv P L w) :
    Calls Try.prog 48 #[.pointer (some ⟨tb, 0, none⟩), .func (.func g) #[] lb] w (BelowPost Inv P w (runL cont L (goP S 32 0 0)).1) := by
  have BL := Lib.hid (trI_Below E 0 0 L P w (by decide) (by decide +kernel) hI)
  go_enter Try.func48, Try.ntmps48
  go_wp2_with fail
  refine BL.out.mono ?_
  rintro e w1 ⟨rfl, I1, K1⟩
  have J1 := Lib.hid (And.intro I1 K1)
  clear I1 K1
  go_wp2_with fail
  go_end0
  exact ⟨rfl, J1.out.1, J1.out.2⟩
set_option maxHeartbeats 1600000 in
theorem trI_Below_nil (A i : Int) (w : World) : Calls Try.prog 64 #[.pointer none, .agg #[.int .u32 A, .int .i64 i], .func (.func g) #[] lb] w fun e w' => e = .returned (.tuple #[]) ∧ Below w.heap.size w w' := by
  have nf := fun W => neq_func g lb W
  go_enter Try.func64, Try.ntmps64
  go_wp2_with fail
  obtain ⟨W0, hW0, c0, c1, hB⟩ := box2 w (.int .u32 A) (.int .i64 i) 29
  rw [← hW0]; clear hW0
  go_region_with (first
    | (go_at_call 59; refine (trI_find_nil A i _).mono ?_; rintro e w1 ⟨rfl, hb⟩; have hB1 := hB.drew.trans (hb.mono hB.size); have c0 := cell_below (W := W0.drew) c0 hb; have c1 := cell_below (W := W0.drew) c1 hb; clear hb)
    | (go_at_call 70; refine (walk_nilp A i g lb _).mono ?_; rintro e w2 ⟨rfl, hb⟩; have hB2 := hB1.trans (hb.mono hB1.size); clear hb))
  all_goals
    go_wp2_with fail
    go_end0
    exact ⟨rfl, hB2⟩
set_option maxHeartbeats 1600000 in
theorem trI_All_nil (w : World) : Calls Try.prog 48 #[.pointer none, .func (.func g) #[] lb] w fun e w' => e = .returned (.tuple #[]) ∧ Below w.heap.size w w' := by
  go_enter Try.func48, Try.ntmps48
  go_wp2_with fail
  refine (trI_Below_nil 0 0 _).mono ?_
  rintro e w1 ⟨rfl, hb⟩
  go_wp2_with fail
  go_end0
  exact ⟨rfl, hb⟩
end
end Go.Proofs.Ytadlecnlgkhneaa

/-
  WHAT LIES BELOW A NODE, IN ORDER: plain laws.
-/
namespace Go.Proofs.Ytadlecnlgkhneaa
open Go.RowKit

theorem here_mem {S : List (Nat × AV)} {A i : Nat} {x : Itm} : x ∈ hereP S A i ↔ x.1 = (A, i) ∧ getL S (keyN A i) = some x.2 := by
  unfold hereP
  cases hg : getL S (keyN A i) with
  | none => simp
  | some v =>
    obtain ⟨y, u⟩ := x
    simp only [List.mem_singleton, Prod.mk.injEq, Option.some.injEq]
    constructor
    · rintro ⟨rfl, rfl⟩; exact ⟨rfl, rfl⟩
    · rintro ⟨rfl, rfl⟩; exact ⟨rfl, rfl⟩
theorem pow_half {i : Nat} (hi : i < 32) : 2 ^ (32 - i) = 2 ^ (31 - i) * 2 ∧ 2 ^ (32 - (i + 1)) = 2 ^ (31 - i) := by
  refine ⟨by rw [show 32 - i = (31 - i) + 1 by omega, Nat.pow_succ], by rw [show 32 - (i + 1) = 31 - i by omega]⟩
/-- what an item below a net is. -/
structure ItemIn (S : List (Nat × AV)) (A i : Nat) (x : Itm) : Prop where
  form : x.1.1 % 2 ^ (32 - x.1.2) = 0
  le32 : x.1.2 ≤ 32
  deep : i ≤ x.1.2
  lo : A ≤ x.1.1
  hi : x.1.1 < A + 2 ^ (32 - i)
  at_ : getL S (keyN x.1.1 x.1.2) = some x.2
theorem goP_in {S : List (Nat × AV)} : ∀ (d A i : Nat), i + d = 32 → A % 2 ^ (32 - i) = 0 → ∀ x ∈ goP S d A i, ItemIn S A i x
  | 0, A, i, hi, hr, x, hx => by
    obtain ⟨h1, h2⟩ := here_mem.1 hx
    obtain ⟨⟨B, j⟩, v⟩ := x
    cases h1
    exact ⟨hr, by simp only; omega, Nat.le_refl _, Nat.le_refl _, Nat.lt_add_of_pos_right (Nat.pow_pos (by decide)), h2⟩
  | d + 1, A, i, hi, hr, x, hx => by
    obtain ⟨q1, q2⟩ := pow_half (show i < 32 by omega)
    have q3 := Nat.pow_pos (n := 31 - i) (show 0 < 2 by decide)
    unfold goP at hx
    rw [List.mem_append, List.mem_append] at hx
    rcases hx with hx | hx | hx
    · obtain ⟨h1, h2⟩ := here_mem.1 hx
      obtain ⟨⟨B, j⟩, v⟩ := x
      cases h1
      exact ⟨hr, by simp only; omega, Nat.le_refl _, Nat.le_refl _, Nat.lt_add_of_pos_right (Nat.pow_pos (by decide)), h2⟩
    · obtain ⟨a1, a2, a3, a4, a5, a6⟩ := goP_in d A (i + 1) (by omega) (mod_left (by omega) hr) x hx
      exact ⟨a1, a2, by omega, a4, by rw [q2] at a5; omega, a6⟩
    · obtain ⟨a1, a2, a3, a4, a5, a6⟩ := goP_in d (A + 2 ^ (31 - i)) (i + 1) (by omega) (mod_right (by omega) hr) x hx
      exact ⟨a1, a2, by omega, by omega, by rw [q2] at a5; omega, a6⟩
/-- two multiples of a size that lie within it are one. -/
theorem same_block {A B M : Nat} (ha : A % M = 0) (hb : B % M = 0) (h1 : A ≤ B) (h2 : B < A + M) : B = A := by
  obtain ⟨p, rfl⟩ := Nat.dvd_of_mod_eq_zero ha
  obtain ⟨q, rfl⟩ := Nat.dvd_of_mod_eq_zero hb
  have hM : 0 < M := by
    rcases Nat.eq_zero_or_pos M with h | h
    · subst h; simp at h2
    · exact h
  have : q < p + 1 := by
    have : M * q < M * (p + 1) := by rw [Nat.mul_add, Nat.mul_one]; exact h2
    exact Nat.lt_of_mul_lt_mul_left this
  have : p ≤ q := Nat.le_of_mul_le_mul_left h1 hM
  have e : q = p := by omega
  rw [e]
theorem goP_mem {S : List (Nat × AV)} {B j : Nat} {v : AV} (hb : B % 2 ^ (32 - j) = 0) (hj : j ≤ 32) (hg : getL S (keyN B j) = some v) : ∀ (d A i : Nat), i + d = 32 → A % 2 ^ (32 - i) = 0 → i ≤ j → A ≤ B → B < A + 2 ^ (32 - i) → ((B, j), v) ∈ goP S d A i
  | 0, A, i, hi, hr, h1, h2, h3 => by
    obtain rfl : j = i := by omega
    obtain rfl := same_block hr hb h2 h3
    exact here_mem.2 ⟨rfl, hg⟩
  | d + 1, A, i, hi, hr, h1, h2, h3 => by
    obtain ⟨q1, q2⟩ := pow_half (show i < 32 by omega)
    unfold goP
    rw [List.mem_append, List.mem_append]
    by_cases e : j = i
    · subst e
      obtain rfl := same_block hr hb h2 h3
      exact .inl (here_mem.2 ⟨rfl, hg⟩)
    · by_cases hh : B < A + 2 ^ (31 - i)
      · exact .inr (.inl (goP_mem hb hj hg d A (i + 1) (by omega) (mod_left (by omega) hr) (by omega) h2 (by rw [q2]; exact hh)))
      · exact .inr (.inr (goP_mem hb hj hg d (A + 2 ^ (31 - i)) (i + 1) (by omega) (mod_right (by omega) hr) (by omega) (by omega) (by rw [q2]; omega)))
/-- the order of nets. -/
def itLt (x y : Itm) : Prop := x.1.1 < y.1.1 ∨ (x.1.1 = y.1.1 ∧ x.1.2 < y.1.2)
theorem goP_sorted {S : List (Nat × AV)} : ∀ (d A i : Nat), i + d = 32 → A % 2 ^ (32 - i) = 0 → (goP S d A i).Pairwise itLt
  | 0, A, i, hi, hr => by
    unfold goP hereP
    split <;> simp
  | d + 1, A, i, hi, hr => by
    obtain ⟨q1, q2⟩ := pow_half (show i < 32 by omega)
    have q3 := Nat.pow_pos (n := 31 - i) (show 0 < 2 by decide)
    have hl := mod_left (show i < 32 by omega) hr
    have hrr := mod_right (show i < 32 by omega) hr
    unfold goP
    rw [List.pairwise_append, List.pairwise_append]
    refine ⟨?_, ⟨goP_sorted d A (i + 1) (by omega) hl, goP_sorted d _ (i + 1) (by omega) hrr, ?_⟩, ?_⟩
    · unfold hereP; split <;> simp
    · intro x hx y hy
      have hx := goP_in d A (i + 1) (by omega) hl x hx
      have hy := goP_in d _ (i + 1) (by omega) hrr y hy
      have := hx.hi
      rw [q2] at this
      have := hy.lo
      exact .inl (by omega)
    · intro x hx y hy
      obtain ⟨h1, h2⟩ := here_mem.1 hx
      rcases List.mem_append.1 hy with hy | hy
      · have hy := goP_in d A (i + 1) (by omega) hl y hy
        have a1 := hy.lo
        have a2 := hy.deep
        unfold itLt
        rw [h1]
        simp only
        omega
      · have hy := goP_in d _ (i + 1) (by omega) hrr y hy
        have a1 := hy.lo
        unfold itLt
        rw [h1]
        simp only
        omega
theorem key_block {A B i : Nat} (ha : A % 2 ^ (32 - i) = 0) (hb : B % 2 ^ (32 - i) = 0) (h : A / 2 ^ (32 - i) = B / 2 ^ (32 - i)) : A = B := by
  have h1 := Nat.div_add_mod A (2 ^ (32 - i))
  have h2 := Nat.div_add_mod B (2 ^ (32 - i))
  rw [ha] at h1
  rw [hb, ← h] at h2
  omega
/-- every key is a net's. -/
def KeysOk (S : List (Nat × AV)) : Prop := ∀ κ v, getL S κ = some v → ∃ B j : Nat, B < 4294967296 ∧ j ≤ 32 ∧ B % 2 ^ (32 - j) = 0 ∧ κ = keyN B j
theorem goP_len {S : List (Nat × AV)} (hd : KeysApart S) (hk : KeysOk S) : (goP S 32 0 0).length = S.length := by
  have hin := goP_in (S := S) 32 0 0 rfl (by decide)
  have hso := goP_sorted (S := S) 32 0 0 rfl (by decide)
  have lt32 : ∀ x ∈ goP S 32 0 0, x.1.1 < 4294967296 := fun x hx => by have := (hin x hx).hi; simpa using this
  have nd : ((goP S 32 0 0).map fun x => keyN x.1.1 x.1.2).Nodup := by
    unfold List.Nodup
    rw [List.pairwise_map]
    refine List.Pairwise.imp_of_mem ?_ hso
    intro x y hx hy hlt e
    have ix := hin x hx
    have iy := hin y hy
    obtain ⟨e1, e2⟩ := keyN_inj (lt32 x hx) (lt32 y hy) ix.le32 iy.le32 e
    have fx := ix.form
    have fy := iy.form
    rw [← e1] at fy
    have := key_block fx fy e2
    unfold itLt at hlt
    omega
  have nd2 : (S.map (·.1)).Nodup := by
    unfold List.Nodup
    rw [List.pairwise_map]
    exact hd
  have p : ((goP S 32 0 0).map fun x => keyN x.1.1 x.1.2).Perm (S.map (·.1)) := by
    rw [List.perm_ext_iff_of_nodup nd nd2]
    intro κ
    rw [List.mem_map, List.mem_map]
    constructor
    · rintro ⟨x, hx, rfl⟩
      exact ⟨_, getL_mem (hin x hx).at_, rfl⟩
    · rintro ⟨q, hq, rfl⟩
      have hg := getL_of_mem hd (show (q.1, q.2) ∈ S from hq)
      obtain ⟨B, j, hB, hj, hf, e⟩ := hk _ _ hg
      rw [e] at hg
      exact ⟨((B, j), q.2), goP_mem hf hj hg 32 0 0 rfl (by decide) (Nat.zero_le _) (Nat.zero_le _) (by simpa using hB), e.symm⟩
  have := p.length_eq
  simpa using this
end Go.Proofs.Ytadlecnlgkhneaa

/-
  SETS OF PREFIXES, the plain side: the strict order of prefixes; rows in strict order; neighbours that are one struck out.
-/
namespace Go.Proofs.Ytadlecnlgkhneaa
open Go.RowKit

abbrev Pf := Int × Int
def pcmp (p q : Pf) : Int := prefCmp p.1 p.2 q.1 q.2
def plt (p q : Pf) : Prop := p.1 < q.1 ∨ (p.1 = q.1 ∧ p.2 < q.2)
instance (p q : Pf) : Decidable (plt p q) := by unfold plt; infer_instance
theorem pcmp_val (p q : Pf) : pcmp p q = if plt p q then -1 else if plt q p then 1 else 0 := by
  unfold pcmp prefCmp orI cmpI plt
  repeat' split
  all_goals first | rfl | omega
theorem pcmp_lt {p q : Pf} : pcmp p q < 0 ↔ plt p q := by
  rw [pcmp_val]
  split
  · rename_i h
    simp [h]
  · rename_i h
    split <;> simp [h]
theorem plt_irrefl (p : Pf) : ¬ plt p p := by unfold plt; omega
theorem plt_trans {p q r : Pf} (h : plt p q) (k : plt q r) : plt p r := by unfold plt at *; omega
theorem plt_asymm {p q : Pf} (h : plt p q) : ¬ plt q p := fun k => plt_irrefl p (plt_trans h k)
theorem plt_total {p q : Pf} (h : ¬ plt p q) (k : ¬ plt q p) : p = q := by
  unfold plt at *
  obtain ⟨a, b⟩ := p
  obtain ⟨c, d⟩ := q
  simp only [Prod.mk.injEq] at *
  omega
theorem pcmp_eq {p q : Pf} : pcmp p q = 0 ↔ p = q := by
  rw [pcmp_val]
  split
  · rename_i h
    exact ⟨fun k => absurd k (by decide), fun k => by subst k; exact absurd h (plt_irrefl p)⟩
  · rename_i h
    split
    · rename_i h2
      exact ⟨fun k => absurd k (by decide), fun k => by subst k; exact absurd h2 (plt_irrefl p)⟩
    · rename_i h2
      exact ⟨fun _ => plt_total h h2, fun _ => rfl⟩
theorem pcmp_gt {p q : Pf} : 0 < pcmp p q ↔ plt q p := by
  rw [pcmp_val]
  split
  · rename_i h
    exact ⟨fun k => absurd k (by decide), fun k => absurd k (plt_asymm h)⟩
  · split
    · rename_i h
      exact ⟨fun _ => h, fun _ => by decide⟩
    · rename_i h
      exact ⟨fun k => absurd k (by decide), fun k => absurd k h⟩
theorem pcmp_swap (p q : Pf) : pcmp p q = -pcmp q p := by
  rw [pcmp_val, pcmp_val q p]
  by_cases h : plt p q
  · rw [if_pos h, if_neg (plt_asymm h), if_pos h]; first | done | rfl
  · rw [if_neg h]
    by_cases k : plt q p
    · rw [if_pos k, if_pos k]; first | done | rfl
    · rw [if_neg k, if_neg k, if_neg h]; first | done | rfl
/-- strictly in order. -/
abbrev Srt (l : List Pf) : Prop := l.Pairwise plt
theorem srt_ext : ∀ {l m : List Pf}, Srt l → Srt m → (∀ p, p ∈ l ↔ p ∈ m) → l = m
  | [], [], _, _, _ => rfl
  | [], q :: m, _, _, h => by have := (h q).2 (List.mem_cons_self ..); simp at this
  | p :: l, [], _, _, h => by have := (h p).1 (List.mem_cons_self ..); simp at this
  | p :: l, q :: m, hl, hm, h => by
    rw [Srt, List.pairwise_cons] at hl hm
    have e : p = q := by
      have h1 := (h p).1 (List.mem_cons_self ..)
      have h2 := (h q).2 (List.mem_cons_self ..)
      rcases List.mem_cons.1 h1 with h1 | h1
      · exact h1
      · rcases List.mem_cons.1 h2 with h2 | h2
        · exact h2.symm
        · exact absurd (hl.1 q h2) (plt_asymm (hm.1 p h1))
    subst e
    have := srt_ext hl.2 hm.2 fun x => by
      have hx := h x
      rw [List.mem_cons, List.mem_cons] at hx
      constructor
      · intro k
        rcases hx.1 (.inr k) with e | e
        · subst e; exact absurd (hl.1 _ k) (plt_irrefl _)
        · exact e
      · intro k
        rcases hx.2 (.inr k) with e | e
        · subst e; exact absurd (hm.1 _ k) (plt_irrefl _)
        · exact e
    rw [this]
theorem srt_nodup {l : List Pf} (h : Srt l) : l.Nodup := h.imp fun k e => by subst e; exact plt_irrefl _ k
theorem srt_lt {l : List Pf} (h : Srt l) {i j : Nat} {p q : Pf} (hi : l[i]? = some p) (hj : l[j]? = some q) (hij : i < j) : plt p q := by
  obtain ⟨h1, rfl⟩ := List.getElem?_eq_some_iff.1 hi
  obtain ⟨h2, rfl⟩ := List.getElem?_eq_some_iff.1 hj
  exact List.pairwise_iff_getElem.1 h i j h1 h2 hij
/-! ### neighbours that are one -/
def cstep (acc : List Pf) (x : Pf) : List Pf := if acc.getLast? = some x then acc else acc ++ [x]
def comp (l : List Pf) : List Pf := l.foldl cstep []
theorem comp_snoc (l : List Pf) (x : Pf) : comp (l ++ [x]) = cstep (comp l) x := by unfold comp; rw [List.foldl_append]; rfl
theorem cstep_last (acc : List Pf) (x : Pf) : (cstep acc x).getLast? = some x := by
  unfold cstep
  split
  · assumption
  · simp
theorem comp_last_from : ∀ (l acc : List Pf), (l.foldl cstep acc).getLast? = l.getLast?.or acc.getLast?
  | [], acc => by simp
  | x :: l, acc => by
    rw [List.foldl_cons, comp_last_from l, cstep_last, List.getLast?_cons]
    cases l.getLast? <;> simp
theorem comp_last (l : List Pf) : (comp l).getLast? = l.getLast? := by
  unfold comp
  rw [comp_last_from]; simp
theorem comp_next {l : List Pf} {k : Nat} {x y : Pf} (hx : l[k]? = some x) (hy : l[k + 1]? = some y) : comp (l.take (k + 2)) = if x = y then comp (l.take (k + 1)) else comp (l.take (k + 1)) ++ [y] := by
  have h1 : l.take (k + 2) = l.take (k + 1) ++ [y] := by rw [List.take_add_one, hy]; rfl
  have h2 : (l.take (k + 1)).getLast? = some x := by rw [List.take_add_one, hx]; simp
  rw [h1, comp_snoc]
  unfold cstep
  rw [comp_last, h2]
  simp only [Option.some.injEq]
theorem comp_one {l : List Pf} {x : Pf} (hx : l[0]? = some x) : comp (l.take 1) = [x] := by
  rw [List.take_add_one, hx]; rfl
theorem comp_len_from : ∀ (l acc : List Pf), acc.length ≤ (l.foldl cstep acc).length ∧ (l.foldl cstep acc).length ≤ acc.length + l.length
  | [], acc => by simp
  | x :: l, acc => by
    have h := comp_len_from l (cstep acc x)
    have h2 : acc.length ≤ (cstep acc x).length ∧ (cstep acc x).length ≤ acc.length + 1 := by unfold cstep; split <;> simp
    rw [List.foldl_cons, List.length_cons]; omega
theorem comp_len (l : List Pf) : (comp l).length ≤ l.length := by have := (comp_len_from l []).2; unfold comp; simpa using this
/-- so far no two neighbours are one: nothing was struck. -/
theorem comp_whole {l : List Pf} (k : Nat) (h : ∀ (i : Nat) (x y : Pf), i + 1 < k → l[i]? = some x → l[i + 1]? = some y → x ≠ y) (hk : k ≤ l.length) : comp (l.take k) = l.take k := by
  induction k with
  | zero => rfl
  | succ k ih =>
    cases k with
    | zero =>
      obtain ⟨x, hx⟩ : ∃ x, l[0]? = some x := ⟨_, List.getElem?_eq_getElem (by omega)⟩
      rw [comp_one hx, List.take_add_one, hx]; rfl
    | succ k =>
      obtain ⟨x, hx⟩ : ∃ x, l[k]? = some x := ⟨_, List.getElem?_eq_getElem (by omega)⟩
      obtain ⟨y, hy⟩ : ∃ y, l[k + 1]? = some y := ⟨_, List.getElem?_eq_getElem (by omega)⟩
      rw [comp_next hx hy, if_neg (h k x y (by omega) hx hy), ih (fun i x y hi => h i x y (by omega)) (by omega), List.take_add_one (i := k + 1), hy]; rfl
theorem comp_sub_from : ∀ (l acc : List Pf) (p : Pf), p ∈ l.foldl cstep acc → p ∈ acc ∨ p ∈ l
  | [], acc, p, h => .inl h
  | x :: l, acc, p, h => by
    rcases comp_sub_from l (cstep acc x) p h with h | h
    · unfold cstep at h
      split at h
      · exact .inl h
      · rcases List.mem_append.1 h with h | h
        · exact .inl h
        · exact .inr (by rw [List.mem_singleton.1 h]; exact List.mem_cons_self ..)
    · exact .inr (List.mem_cons_of_mem _ h)
theorem comp_sub {l : List Pf} {p : Pf} (h : p ∈ comp l) : p ∈ l := (comp_sub_from l [] p h).resolve_left (by simp)
theorem comp_srt_from : ∀ (l acc : List Pf), Srt acc → (∀ a ∈ acc, ∀ x ∈ l, ¬ plt x a) → l.Pairwise (fun x y => ¬ plt y x) → Srt (l.foldl cstep acc) ∧ ∀ p, p ∈ l.foldl cstep acc ↔ p ∈ acc ∨ p ∈ l
  | [], acc, h, _, _ => ⟨h, fun p => by simp⟩
  | x :: l, acc, h, ha, hl => by
    rw [List.pairwise_cons] at hl
    rw [List.foldl_cons]
    by_cases e : acc.getLast? = some x
    · rw [show cstep acc x = acc by unfold cstep; rw [if_pos e]]
      have ih := comp_srt_from l acc h (fun a h1 y h2 => ha a h1 y (List.mem_cons_of_mem _ h2)) hl.2
      refine ⟨ih.1, fun p => ?_⟩
      rw [ih.2, List.mem_cons]
      constructor
      · rintro (k | k)
        · exact .inl k
        · exact .inr (.inr k)
      · rintro (k | rfl | k)
        · exact .inl k
        · exact .inl (List.mem_of_getLast? e)
        · exact .inr k
    · rw [show cstep acc x = acc ++ [x] by unfold cstep; rw [if_neg e]]
      have hs : Srt (acc ++ [x]) := by
        rw [Srt, List.pairwise_append]
        refine ⟨h, List.pairwise_singleton _ _, fun a h1 y h2 => ?_⟩
        obtain rfl := List.mem_singleton.1 h2
        have h3 := ha a h1 y (List.mem_cons_self ..)
        by_cases h4 : plt a y
        · exact h4
        · exfalso
          obtain rfl := plt_total h4 h3
          obtain ⟨i, hi⟩ := List.mem_iff_getElem?.1 h1
          have hlast : acc[acc.length - 1]? = acc.getLast? := (List.getLast?_eq_getElem? ..).symm
          obtain ⟨hil, -⟩ := List.getElem?_eq_some_iff.1 hi
          obtain ⟨z, hz⟩ : ∃ z, acc[acc.length - 1]? = some z := ⟨_, List.getElem?_eq_getElem (by omega)⟩
          by_cases hi2 : i = acc.length - 1
          · subst hi2
            rw [← hlast, hi] at e
            exact e rfl
          · have h5 := srt_lt h hi hz (by omega)
            exact ha z (List.mem_of_getElem? hz) a (List.mem_cons_self ..) h5
      have ih := comp_srt_from l (acc ++ [x]) hs (fun a h1 y h2 => by
        rcases List.mem_append.1 h1 with h1 | h1
        · exact ha a h1 y (List.mem_cons_of_mem _ h2)
        · obtain rfl := List.mem_singleton.1 h1
          exact hl.1 y h2) hl.2
      refine ⟨ih.1, fun p => ?_⟩
      rw [ih.2, List.mem_append, List.mem_singleton, List.mem_cons, or_assoc]
theorem comp_srt {l : List Pf} (hl : l.Pairwise (fun x y => ¬ plt y x)) : Srt (comp l) ∧ ∀ p, p ∈ comp l ↔ p ∈ l := by
  have h := comp_srt_from l [] List.Pairwise.nil (fun a h => by simp at h) hl
  exact ⟨h.1, fun p => by have := h.2 p; simpa [comp] using this⟩
end Go.Proofs.Ytadlecnlgkhneaa
