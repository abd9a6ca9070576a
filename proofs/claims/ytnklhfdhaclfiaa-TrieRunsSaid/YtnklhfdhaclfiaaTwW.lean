/-
  THE WALK ONCE MORE: the called function may ask for a bound of what it was called with.
-/
import Derived.Test.YtnklhfdhaclfiaaTrQ
import Derived.Deep.RegionWith
import Derived.Shelf.GgClosure.Gives
namespace Go.Proofs.Ytnklhfdhaclfiaa
open Go.RowKit Go.Lib
set_option linter.unusedVariables false

def Ln (d : Nat) (L : List Itm) : Prop := L.length + 2 ^ (d + 1) ≤ 8589934592
def LnS (d : Nat) (L : List Itm) : Prop := L.length + 2 ^ (d + 1) + 2 ^ (d + 1) ≤ 8589934592 + 1
theorem goP_short (S : List (Nat × Value)) : ∀ (d A i : Nat), (goP S d A i).length + 1 ≤ 2 ^ (d + 1)
  | 0, A, i => by unfold goP hereP; split <;> simp
  | d + 1, A, i => by
    have h1 := goP_short S d A (i + 1)
    have h2 := goP_short S d (A + 2 ^ (31 - i)) (i + 1)
    have h3 : (hereP S A i).length ≤ 1 := by unfold hereP; split <;> simp
    have e : goP S (d + 1) A i = hereP S A i ++ (goP S d A (i + 1) ++ goP S d (A + 2 ^ (31 - i)) (i + 1)) := rfl
    rw [e, List.length_append, List.length_append, show 2 ^ (d + 1 + 1) = 2 ^ (d + 1) * 2 from rfl]
    omega
theorem runL_short (cont : List Itm → Bool) : ∀ (L xs : List Itm), (runL cont L xs).1.length ≤ L.length + xs.length
  | L, [] => by simp [runL]
  | L, x :: xs => by
    simp only [runL]
    split
    · have := runL_short cont (L ++ [x]) xs
      simp at this ⊢; omega
    · simp
theorem ln_lt {d : Nat} {L : List Itm} (h : Ln d L) : L.length < 8589934592 := by
  unfold Ln at h; have := Nat.pow_pos (n := d + 1) (show 0 < 2 by decide); omega
theorem lnS_0 {d : Nat} {L : List Itm} (h : Ln (d + 1) L) : LnS d L := by
  unfold Ln at h; unfold LnS
  rw [show 2 ^ (d + 1 + 1) = 2 ^ (d + 1) * 2 from rfl] at h
  omega
theorem lnS_x {d : Nat} {L : List Itm} {x : Itm} (h : Ln (d + 1) L) : LnS d (L ++ [x]) := by
  unfold Ln at h; unfold LnS
  rw [show 2 ^ (d + 1 + 1) = 2 ^ (d + 1) * 2 from rfl] at h
  simp only [List.length_append, List.length_cons, List.length_nil]
  omega
theorem lnS_1 {d : Nat} {L : List Itm} (h : LnS d L) : Ln d L := by
  unfold LnS at h; unfold Ln; have := Nat.pow_pos (n := d + 1) (show 0 < 2 by decide); omega
theorem lnS_2 {d : Nat} {L L2 : List Itm} {c : Bool} {cont : List Itm → Bool} {S : List (Nat × Value)} {A i : Nat} (h : LnS d L) (h2 : (L2, c) = runL cont L (goP S d A i)) : Ln d L2 := by
  have h3 := runL_short cont L (goP S d A i)
  rw [← h2] at h3
  have h4 := goP_short S d A i
  unfold LnS at h; unfold Ln
  simp only at h3
  omega
/-- what is asked of the function that is called at each. -/
structure EachOkN (tb : Nat) (N : Nat → Option Nat) (S : List (Nat × Value)) (most : Int) (g : Nat) (lb : Array Value) (cont : List Itm → Bool) (Inv : (Nat → Prop) → List Itm → World → Prop) : Prop where
  ent : ∀ args w, (callFunc g args).run Try.prog w = .ok (.enter g args) w
  stab : ∀ P P' L W W', Inv P L W → Below W.heap.size W W' → (∀ b, P' b → P b ∨ (W.heap.size ≤ b ∧ b < W'.heap.size)) → Inv P' L W'
  tri : ∀ P L W, Inv P L W → TrI W tb N S most
  call : ∀ P L W (A i : Nat) v, Inv P L W → A < 4294967296 → rightB A i = true → getL S (keyN A i) = some v → L.length < 8589934592 →
    Calls Try.prog g (#[.agg #[.int .u32 A, .int .i64 i], v] ++ lb) W fun e w' => e = .returned (.bool (cont (L ++ [((A, i), v)]))) ∧ Inv P (L ++ [((A, i), v)]) w' ∧ Kept (fun b => ¬ P b) W w'
section
variable {tb : Nat} {N : Nat → Option Nat} {S : List (Nat × Value)} {most : Int} {g : Nat} {lb : Array Value} {cont : List Itm → Bool} {Inv : (Nat → Prop) → List Itm → World → Prop}

set_option maxHeartbeats 1600000 in
set_option maxRecDepth 100000 in
theorem walk_nilN (E : EachOkN tb N S most g lb cont Inv) (d A i : Nat) (L : List Itm) (P : Nat → Prop) (w : World) (hi : i + d = 32) (hr : A % 2 ^ (32 - i) = 0) (hI : Inv P L w) (hn : N (keyN A i) = none) :
    Calls Try.prog 44 #[.pointer none, .agg #[.int .u32 A, .int .i64 i], .func (.func g) #[] lb] w (WalkPost cont Inv P w (runL cont L (goP S d A i))) := by
  have G := Lib.hid (show runL cont L (goP S d A i) = (L, true) by rw [goP_none (E.tri _ _ _ hI) d A i hi hr hn]; rfl)
  have HB : ∀ o, Below w.heap.size w (w.alloc o) := fun o => (Below.refl _ _).alloc (Nat.le_refl _) _
  have I2 := Lib.hid (fun o => E.stab P P L w (w.alloc o) hI (HB o) (fun b h => .inl h))
  clear hn hI
  go_enter Try.func44, Try.ntmps44
  go_wp2_with fail
  go_ret
  exact WalkPost.of G.out (I2.out _) (Kept.of_below (HB _))

theorem WSt.belowN (E : EachOkN tb N S most g lb cont Inv) {P : Nat → Prop} {w W W' : World} {A i : Nat} {L : List Itm} (h : WSt Inv P w A i L W) (hb : Below W.heap.size W W') : WSt Inv P w A i L W' :=
  ⟨E.stab _ _ _ _ _ h.1 hb (fun _ h => .inl h), cell_below h.2.1 hb, cell_below h.2.2.1 hb, h.2.2.2.grow hb⟩
theorem WSt.doneN (E : EachOkN tb N S most g lb cont Inv) {P : Nat → Prop} {w W : World} {A i : Nat} {L : List Itm} {r : List Itm × Bool} {c : Bool} (h : WSt Inv P w A i L W) (hr : r = (L, c)) : WalkPost cont Inv P w r (.returned (.bool c)) W :=
  WalkPost.of hr (E.stab _ _ _ _ _ h.1 (Below.refl _ _) (fun _ h => .inl (.inl h))) h.2.2.2

set_option maxHeartbeats 3200000 in
set_option maxRecDepth 100000 in
theorem walk_0N (E : EachOkN tb N S most g lb cont Inv) (A i : Nat) (h32 : i = 32) (L : List Itm) (P : Nat → Prop) (w : World) (ha : A < 4294967296) (hR : rightB A i = true) (hI : Inv P L w) (hLn : Ln 0 L) {b : Nat} (hn : N (keyN A i) = some b) :
    Calls Try.prog 44 #[.pointer (some ⟨b, 0, none⟩), .agg #[.int .u32 A, .int .i64 i], .func (.func g) #[] lb] w (WalkPost cont Inv P w (runL cont L (goP S 0 A i))) := by
  have HF := Lib.hid (fun t W => half_32 A i h32 t ha W)
  clear h32
  have eg := E.ent
  have HN := Lib.hid hn
  have HI := Lib.hid hI
  have EE := Lib.hid E
  have HR := Lib.hid hR
  clear hn hI E
  cases hg : getL S (keyN A i) with
  | none =>
    have G := Lib.hid (hereP_no hg)
    have HG := Lib.hid hg
    clear hg
    go_enter Try.func44, Try.ntmps44
    go_wp2_with fail
    obtain ⟨W0, hW0, c0, c1, hB⟩ := box2 w (.int .u32 A) (.int .i64 i) 31
    have hz : W0.heap.size = w.heap.size + 1 := by rw [hW0]; simp
    rw [← hW0]; clear hW0
    have S0 : Hid (WSt Inv P w A i L W0) := Lib.hid ⟨EE.out.stab _ _ _ _ _ HI.out hB (fun b h => h.imp_right (fun e => by omega)), c0, c1, Kept.of_below hB⟩
    clear hz
    obtain ⟨_, _, d2, _⟩ := (EE.out.tri _ _ _ S0.out.1).ncells HN.out
    rw [HG.out] at d2
    replace d2 : W0.cell? ⟨b, 2, none⟩ = some (.bool false) := d2
    go_quiet (fail)
    obtain ⟨Wc, hWc⟩ : ∃ Wc, Wc = W0.drewN nq := ⟨_, rfl⟩
    have SC : Hid (WSt Inv P w A i L Wc) := Lib.hid (by rw [hWc]; exact S0.out.belowN EE.out (below_drewN (Below.refl _ _) nq))
    rw [← hWc]
    clear hWc S0 d2 c0 c1 hB
    obtain ⟨L1, hL1⟩ : ∃ L1, L1 = L := ⟨_, rfl⟩
    have GR : Hid (∀ xs, runL cont L (hereP S A i ++ xs) = runL cont L1 xs) := Lib.hid (fun xs => by rw [G.out, hL1]; rfl)
    rw [← hL1] at SC
    clear hL1
    go_wp2_with fail
    refine wp_loop_rounds 3 ?_
    rw [rounds_succ]
    have c0 := SC.out.2.1
    have c1 := SC.out.2.2.1
    go_wp2_with fail
    refine (HF.out 0 _).mono ?_
    rintro e w3 ⟨rfl, hb⟩
    have SC := Lib.hid (SC.out.belowN EE.out hb)
    clear hb c0 c1
    go_wp2_with fail
    obtain ⟨W4, hW4, h0, h1, hb4⟩ := box2 w3 (.int .u32 0) (.int .i64 0) 31
    rw [← hW4]; clear hW4
    have SC := Lib.hid (SC.out.belowN EE.out hb4)
    clear hb4 h0 h1
    go_quiet (fail)
    obtain ⟨W5, hW5⟩ : ∃ W5, W5 = W4.drewN nq := ⟨_, rfl⟩
    have SC : Hid (WSt Inv P w A i L1 W5) := Lib.hid (by rw [hW5]; exact SC.out.belowN EE.out (below_drewN (Below.refl _ _) nq))
    rw [← hW5]
    clear hW5
    go_wp2_with fail
    rw [rounds_succ]
    have c0 := SC.out.2.1
    have c1 := SC.out.2.2.1
    go_wp2_with fail
    refine (HF.out 1 _).mono ?_
    rintro e w3 ⟨rfl, hb⟩
    have SC := Lib.hid (SC.out.belowN EE.out hb)
    clear hb c0 c1
    go_wp2_with fail
    obtain ⟨W4, hW4, h0, h1, hb4⟩ := box2 w3 (.int .u32 0) (.int .i64 0) 31
    rw [← hW4]; clear hW4
    have SC := Lib.hid (SC.out.belowN EE.out hb4)
    clear hb4 h0 h1
    go_quiet (fail)
    obtain ⟨W5, hW5⟩ : ∃ W5, W5 = W4.drewN nq := ⟨_, rfl⟩
    have SC : Hid (WSt Inv P w A i L1 W5) := Lib.hid (by rw [hW5]; exact SC.out.belowN EE.out (below_drewN (Below.refl _ _) nq))
    rw [← hW5]
    clear hW5
    go_wp2_with fail
    rw [rounds_succ]
    go_wp2_with fail
    go_ret
    exact SC.out.doneN EE.out (by rw [show goP S 0 A i = hereP S A i ++ [] by rw [List.append_nil]; rfl, GR.out]; rfl)
  | some v =>
    have G := Lib.hid (hereP_yes hg)
    have HG := Lib.hid hg
    clear hg
    have EC := Lib.hid (fun W (h : WSt Inv P w A i L W) => EE.out.call _ L W A i v h.1 ha HR.out HG.out (ln_lt hLn))
    generalize hcc : cont (L ++ [((A, i), v)]) = cc at EC
    go_enter Try.func44, Try.ntmps44
    go_wp2_with fail
    obtain ⟨W0, hW0, c0, c1, hB⟩ := box2 w (.int .u32 A) (.int .i64 i) 31
    have hz : W0.heap.size = w.heap.size + 1 := by rw [hW0]; simp
    rw [← hW0]; clear hW0
    have S0 : Hid (WSt Inv P w A i L W0) := Lib.hid ⟨EE.out.stab _ _ _ _ _ HI.out hB (fun b h => h.imp_right (fun e => by omega)), c0, c1, Kept.of_below hB⟩
    clear hz
    obtain ⟨_, _, d2, d3⟩ := (EE.out.tri _ _ _ S0.out.1).ncells HN.out
    rw [HG.out] at d2 d3
    replace d2 : W0.cell? ⟨b, 2, none⟩ = some (.bool true) := d2
    replace d3 : W0.cell? ⟨b, 3, none⟩ = some v := d3
    refine reg_tail 11 (by kernel_rfl) (by kernel_rfl) ?_
    simp only [List.take_succ_cons, List.take_zero, List.drop_succ_cons, List.drop_zero]
    repeat still_step
    refine wpStill_nil ?_
    go_wp2_with fail
    refine (EC.out _ (S0.out.belowN EE.out (Below.refl _ _).drew)).mono ?_
    rintro e Wc ⟨rfl, I1, K1⟩
    have SC : Hid (WSt Inv P w A i (L ++ [((A, i), v)]) Wc) := Lib.hid ((S0.out.belowN EE.out (Below.refl _ _).drew).step I1 K1)
    clear I1 K1 S0 d2 d3 c0 c1 hB EC
    cases hcc2 : cc
    · have GF : Hid (∀ xs, runL cont L (hereP S A i ++ xs) = (L ++ [((A, i), v)], false)) := Lib.hid (fun xs => by
        rw [G.out]
        simp only [List.cons_append, List.nil_append, runL]
        rw [hcc, hcc2]; exact if_neg (by decide))
      clear hcc hcc2
      go_wp2_with fail
      go_ret
      exact SC.out.doneN EE.out (by rw [show goP S 0 A i = hereP S A i ++ [] by rw [List.append_nil]; rfl]; exact GF.out _)
    · have GR : Hid (∀ xs, runL cont L (hereP S A i ++ xs) = runL cont (L ++ [((A, i), v)]) xs) := Lib.hid (fun xs => by
        rw [G.out]
        simp only [List.cons_append, List.nil_append, runL]
        rw [hcc, hcc2]; exact if_pos rfl)
      clear hcc hcc2
      generalize L ++ [((A, i), v)] = L1 at SC GR
      go_wp2_with fail
      refine wp_loop_rounds 3 ?_
      rw [rounds_succ]
      have c0 := SC.out.2.1
      have c1 := SC.out.2.2.1
      go_wp2_with fail
      refine (HF.out 0 _).mono ?_
      rintro e w3 ⟨rfl, hb⟩
      have SC := Lib.hid (SC.out.belowN EE.out hb)
      clear hb c0 c1
      go_wp2_with fail
      obtain ⟨W4, hW4, h0, h1, hb4⟩ := box2 w3 (.int .u32 0) (.int .i64 0) 31
      rw [← hW4]; clear hW4
      have SC := Lib.hid (SC.out.belowN EE.out hb4)
      clear hb4 h0 h1
      go_quiet (fail)
      obtain ⟨W5, hW5⟩ : ∃ W5, W5 = W4.drewN nq := ⟨_, rfl⟩
      have SC : Hid (WSt Inv P w A i L1 W5) := Lib.hid (by rw [hW5]; exact SC.out.belowN EE.out (below_drewN (Below.refl _ _) nq))
      rw [← hW5]
      clear hW5
      go_wp2_with fail
      rw [rounds_succ]
      have c0 := SC.out.2.1
      have c1 := SC.out.2.2.1
      go_wp2_with fail
      refine (HF.out 1 _).mono ?_
      rintro e w3 ⟨rfl, hb⟩
      have SC := Lib.hid (SC.out.belowN EE.out hb)
      clear hb c0 c1
      go_wp2_with fail
      obtain ⟨W4, hW4, h0, h1, hb4⟩ := box2 w3 (.int .u32 0) (.int .i64 0) 31
      rw [← hW4]; clear hW4
      have SC := Lib.hid (SC.out.belowN EE.out hb4)
      clear hb4 h0 h1
      go_quiet (fail)
      obtain ⟨W5, hW5⟩ : ∃ W5, W5 = W4.drewN nq := ⟨_, rfl⟩
      have SC : Hid (WSt Inv P w A i L1 W5) := Lib.hid (by rw [hW5]; exact SC.out.belowN EE.out (below_drewN (Below.refl _ _) nq))
      rw [← hW5]
      clear hW5
      go_wp2_with fail
      rw [rounds_succ]
      go_wp2_with fail
      go_ret
      exact SC.out.doneN EE.out (by rw [show goP S 0 A i = hereP S A i ++ [] by rw [List.append_nil]; rfl, GR.out]; rfl)
set_option maxHeartbeats 3200000 in
set_option maxRecDepth 100000 in
theorem walk_SN (E : EachOkN tb N S most g lb cont Inv) (d A i : Nat) (hi : i + (d + 1) = 32) (IH : ∀ (A i : Nat) (L : List Itm) (P : Nat → Prop) (w : World), i + d = 32 → A < 4294967296 → rightB A i = true → Inv P L w → Ln d L → Calls Try.prog 44 #[ptrN (N (keyN A i)), .agg #[.int .u32 A, .int .i64 i], .func (.func g) #[] lb] w (WalkPost cont Inv P w (runL cont L (goP S d A i)))) (L : List Itm) (P : Nat → Prop) (w : World) (ha : A < 4294967296) (hR : rightB A i = true) (hI : Inv P L w) (hLn : Ln (d + 1) L) {b : Nat} (hn : N (keyN A i) = some b) :
    Calls Try.prog 44 #[.pointer (some ⟨b, 0, none⟩), .agg #[.int .u32 A, .int .i64 i], .func (.func g) #[] lb] w (WalkPost cont Inv P w (runL cont L (goP S (d + 1) A i))) := by
  have hm := (right_mod.1 hR).1
  have GO := Lib.hid (show goP S (d + 1) A i = hereP S A i ++ (goP S d A (i + 1) ++ goP S d (A + 2 ^ (31 - i)) (i + 1)) from rfl)
  have HF0 : Hid (∀ W, Calls Try.prog 53 #[.agg #[.int .u32 A, .int .i64 i], .int .i64 0] W fun e w' => e = .returned (.tuple #[.agg #[.int .u32 A, .int .i64 ((i : Int) + 1)], .int .i64 0]) ∧ Below W.heap.size W w') := Lib.hid (half_0 A i ha (by omega) hR)
  have HF1 := Lib.hid (half_1 A i ha (by omega) hR)
  have KL := Lib.hid (key_left (show i < 32 by omega) hm)
  have KR := Lib.hid (key_right (show i < 32 by omega) hm)
  have IH0 : Hid (∀ L P w, Inv P L w → Ln d L → Calls Try.prog 44 #[ptrN (N (keyN A (i + 1))), .agg #[.int .u32 A, .int .i64 ((i : Int) + 1)], .func (.func g) #[] lb] w (WalkPost cont Inv P w (runL cont L (goP S d A (i + 1))))) := Lib.hid (fun L P w h hl => IH A (i + 1) L P w (by omega) ha (right_mod.2 ⟨mod_left (by omega) hm, by omega⟩) h hl)
  have IH1 := Lib.hid (fun L P w h hl => IH (A + 2 ^ (31 - i)) (i + 1) L P w (by omega) (lt_right (by omega) ha hm) (right_mod.2 ⟨mod_right (by omega) hm, by omega⟩) h hl)
  generalize A + 2 ^ (31 - i) = B at GO HF1 KR IH1
  have HF1 : Hid (∀ W, Calls Try.prog 53 #[.agg #[.int .u32 A, .int .i64 i], .int .i64 1] W fun e w' => e = .returned (.tuple #[.agg #[.int .u32 B, .int .i64 ((i : Int) + 1)], .int .i64 0]) ∧ Below W.heap.size W w') := Lib.hid HF1.out
  have IH1 : Hid (∀ L P w, Inv P L w → Ln d L → Calls Try.prog 44 #[ptrN (N (keyN B (i + 1))), .agg #[.int .u32 B, .int .i64 ((i : Int) + 1)], .func (.func g) #[] lb] w (WalkPost cont Inv P w (runL cont L (goP S d B (i + 1))))) := Lib.hid IH1.out
  clear IH hm
  have eg := E.ent
  have HN := Lib.hid hn
  have HI := Lib.hid hI
  have EE := Lib.hid E
  have HR := Lib.hid hR
  clear hn hI E
  cases hg : getL S (keyN A i) with
  | none =>
    have G := Lib.hid (hereP_no hg)
    have HG := Lib.hid hg
    clear hg
    go_enter Try.func44, Try.ntmps44
    go_wp2_with fail
    obtain ⟨W0, hW0, c0, c1, hB⟩ := box2 w (.int .u32 A) (.int .i64 i) 31
    have hz : W0.heap.size = w.heap.size + 1 := by rw [hW0]; simp
    rw [← hW0]; clear hW0
    have S0 : Hid (WSt Inv P w A i L W0) := Lib.hid ⟨EE.out.stab _ _ _ _ _ HI.out hB (fun b h => h.imp_right (fun e => by omega)), c0, c1, Kept.of_below hB⟩
    clear hz
    obtain ⟨_, _, d2, _⟩ := (EE.out.tri _ _ _ S0.out.1).ncells HN.out
    rw [HG.out] at d2
    replace d2 : W0.cell? ⟨b, 2, none⟩ = some (.bool false) := d2
    go_quiet (fail)
    obtain ⟨Wc, hWc⟩ : ∃ Wc, Wc = W0.drewN nq := ⟨_, rfl⟩
    have SC : Hid (WSt Inv P w A i L Wc) := Lib.hid (by rw [hWc]; exact S0.out.belowN EE.out (below_drewN (Below.refl _ _) nq))
    rw [← hWc]
    clear hWc S0 d2 c0 c1 hB
    obtain ⟨L1, hL1⟩ : ∃ L1, L1 = L := ⟨_, rfl⟩
    have GR : Hid (∀ xs, runL cont L (hereP S A i ++ xs) = runL cont L1 xs) := Lib.hid (fun xs => by rw [G.out, hL1]; rfl)
    rw [← hL1] at SC
    have N1 : Hid (LnS d L1) := Lib.hid (by rw [hL1]; exact lnS_0 hLn)
    clear hL1
    go_wp2_with fail
    refine wp_loop_rounds 3 ?_
    rw [rounds_succ]
    have c0 := SC.out.2.1
    have c1 := SC.out.2.2.1
    go_wp2_with fail
    refine (HF0.out _).mono ?_
    rintro e w3 ⟨rfl, hb⟩
    have SC := Lib.hid (SC.out.belowN EE.out hb)
    clear hb c0 c1
    go_wp2_with fail
    obtain ⟨W4, hW4, h0, h1, hb4⟩ := box2 w3 (.int .u32 A) (.int .i64 ((i : Int) + 1)) 31
    rw [← hW4]; clear hW4
    have SC := Lib.hid (SC.out.belowN EE.out hb4)
    clear hb4
    obtain ⟨q0, q1, _, _⟩ := (EE.out.tri _ _ _ SC.out.1).ncells HN.out
    rw [← KL.out] at q0
    rw [← KR.out] at q1
    refine reg_tail 11 (by kernel_rfl) (by kernel_rfl) ?_
    simp only [List.take_succ_cons, List.take_zero, List.drop_succ_cons, List.drop_zero]
    repeat still_step
    refine wpStill_nil ?_
    go_wp2_with fail
    have SD := Lib.hid (SC.out.belowN EE.out (Below.refl _ _).drew)
    refine (IH0.out _ _ _ SD.out.1 (lnS_1 N1.out)).mono ?_
    rintro e w5 ⟨rfl, I5, K5⟩
    have SC := Lib.hid (SD.out.step I5 K5)
    clear I5 K5 SD q0 q1 h0 h1
    obtain ⟨⟨L2, c2⟩, h2⟩ : ∃ r, r = runL cont L1 (goP S d A (i + 1)) := ⟨_, rfl⟩
    rw [← h2] at SC ⊢
    have H2 := Lib.hid h2
    clear h2
    cases c2
    · go_wp2_with fail
      go_ret
      exact SC.out.doneN EE.out (by rw [GO.out, GR.out, runL_append, ← H2.out]; rfl)
    go_wp2_with fail
    rw [rounds_succ]
    have c0 := SC.out.2.1
    have c1 := SC.out.2.2.1
    go_wp2_with fail
    refine (HF1.out _).mono ?_
    rintro e w3 ⟨rfl, hb⟩
    have SC := Lib.hid (SC.out.belowN EE.out hb)
    clear hb c0 c1
    go_wp2_with fail
    obtain ⟨W4, hW4, h0, h1, hb4⟩ := box2 w3 (.int .u32 B) (.int .i64 ((i : Int) + 1)) 31
    rw [← hW4]; clear hW4
    have SC := Lib.hid (SC.out.belowN EE.out hb4)
    clear hb4
    obtain ⟨q0, q1, _, _⟩ := (EE.out.tri _ _ _ SC.out.1).ncells HN.out
    rw [← KL.out] at q0
    rw [← KR.out] at q1
    refine reg_tail 11 (by kernel_rfl) (by kernel_rfl) ?_
    simp only [List.take_succ_cons, List.take_zero, List.drop_succ_cons, List.drop_zero]
    repeat still_step
    refine wpStill_nil ?_
    go_wp2_with fail
    have SD := Lib.hid (SC.out.belowN EE.out (Below.refl _ _).drew)
    refine (IH1.out _ _ _ SD.out.1 (lnS_2 N1.out H2.out)).mono ?_
    rintro e w5 ⟨rfl, I5, K5⟩
    have SC := Lib.hid (SD.out.step I5 K5)
    clear I5 K5 SD q0 q1 h0 h1
    obtain ⟨⟨L3, c3⟩, h3⟩ : ∃ r, r = runL cont L2 (goP S d B (i + 1)) := ⟨_, rfl⟩
    rw [← h3] at SC ⊢
    have H3 := Lib.hid h3
    clear h3
    cases c3
    · go_wp2_with fail
      go_ret
      exact SC.out.doneN EE.out (by rw [GO.out, GR.out, runL_append, ← H2.out]; exact H3.out.symm)
    go_wp2_with fail
    rw [rounds_succ]
    go_wp2_with fail
    go_ret
    exact SC.out.doneN EE.out (by rw [GO.out, GR.out, runL_append, ← H2.out]; exact H3.out.symm)
  | some v =>
    have G := Lib.hid (hereP_yes hg)
    have HG := Lib.hid hg
    clear hg
    have EC := Lib.hid (fun W (h : WSt Inv P w A i L W) => EE.out.call _ L W A i v h.1 ha HR.out HG.out (ln_lt hLn))
    generalize hcc : cont (L ++ [((A, i), v)]) = cc at EC
    go_enter Try.func44, Try.ntmps44
    go_wp2_with fail
    obtain ⟨W0, hW0, c0, c1, hB⟩ := box2 w (.int .u32 A) (.int .i64 i) 31
    have hz : W0.heap.size = w.heap.size + 1 := by rw [hW0]; simp
    rw [← hW0]; clear hW0
    have S0 : Hid (WSt Inv P w A i L W0) := Lib.hid ⟨EE.out.stab _ _ _ _ _ HI.out hB (fun b h => h.imp_right (fun e => by omega)), c0, c1, Kept.of_below hB⟩
    clear hz
    obtain ⟨_, _, d2, d3⟩ := (EE.out.tri _ _ _ S0.out.1).ncells HN.out
    rw [HG.out] at d2 d3
    replace d2 : W0.cell? ⟨b, 2, none⟩ = some (.bool true) := d2
    replace d3 : W0.cell? ⟨b, 3, none⟩ = some v := d3
    refine reg_tail 11 (by kernel_rfl) (by kernel_rfl) ?_
    simp only [List.take_succ_cons, List.take_zero, List.drop_succ_cons, List.drop_zero]
    repeat still_step
    refine wpStill_nil ?_
    go_wp2_with fail
    refine (EC.out _ (S0.out.belowN EE.out (Below.refl _ _).drew)).mono ?_
    rintro e Wc ⟨rfl, I1, K1⟩
    have SC : Hid (WSt Inv P w A i (L ++ [((A, i), v)]) Wc) := Lib.hid ((S0.out.belowN EE.out (Below.refl _ _).drew).step I1 K1)
    clear I1 K1 S0 d2 d3 c0 c1 hB EC
    cases hcc2 : cc
    · have GF : Hid (∀ xs, runL cont L (hereP S A i ++ xs) = (L ++ [((A, i), v)], false)) := Lib.hid (fun xs => by
        rw [G.out]
        simp only [List.cons_append, List.nil_append, runL]
        rw [hcc, hcc2]; exact if_neg (by decide))
      clear hcc hcc2
      go_wp2_with fail
      go_ret
      exact SC.out.doneN EE.out (by rw [GO.out]; exact GF.out _)
    · have GR : Hid (∀ xs, runL cont L (hereP S A i ++ xs) = runL cont (L ++ [((A, i), v)]) xs) := Lib.hid (fun xs => by
        rw [G.out]
        simp only [List.cons_append, List.nil_append, runL]
        rw [hcc, hcc2]; exact if_pos rfl)
      clear hcc hcc2
      have N1 : Hid (LnS d (L ++ [((A, i), v)])) := Lib.hid (lnS_x hLn)
      generalize L ++ [((A, i), v)] = L1 at SC GR N1
      go_wp2_with fail
      refine wp_loop_rounds 3 ?_
      rw [rounds_succ]
      have c0 := SC.out.2.1
      have c1 := SC.out.2.2.1
      go_wp2_with fail
      refine (HF0.out _).mono ?_
      rintro e w3 ⟨rfl, hb⟩
      have SC := Lib.hid (SC.out.belowN EE.out hb)
      clear hb c0 c1
      go_wp2_with fail
      obtain ⟨W4, hW4, h0, h1, hb4⟩ := box2 w3 (.int .u32 A) (.int .i64 ((i : Int) + 1)) 31
      rw [← hW4]; clear hW4
      have SC := Lib.hid (SC.out.belowN EE.out hb4)
      clear hb4
      obtain ⟨q0, q1, _, _⟩ := (EE.out.tri _ _ _ SC.out.1).ncells HN.out
      rw [← KL.out] at q0
      rw [← KR.out] at q1
      refine reg_tail 11 (by kernel_rfl) (by kernel_rfl) ?_
      simp only [List.take_succ_cons, List.take_zero, List.drop_succ_cons, List.drop_zero]
      repeat still_step
      refine wpStill_nil ?_
      go_wp2_with fail
      have SD := Lib.hid (SC.out.belowN EE.out (Below.refl _ _).drew)
      refine (IH0.out _ _ _ SD.out.1 (lnS_1 N1.out)).mono ?_
      rintro e w5 ⟨rfl, I5, K5⟩
      have SC := Lib.hid (SD.out.step I5 K5)
      clear I5 K5 SD q0 q1 h0 h1
      obtain ⟨⟨L2, c2⟩, h2⟩ : ∃ r, r = runL cont L1 (goP S d A (i + 1)) := ⟨_, rfl⟩
      rw [← h2] at SC ⊢
      have H2 := Lib.hid h2
      clear h2
      cases c2
      · go_wp2_with fail
        go_ret
        exact SC.out.doneN EE.out (by rw [GO.out, GR.out, runL_append, ← H2.out]; rfl)
      go_wp2_with fail
      rw [rounds_succ]
      have c0 := SC.out.2.1
      have c1 := SC.out.2.2.1
      go_wp2_with fail
      refine (HF1.out _).mono ?_
      rintro e w3 ⟨rfl, hb⟩
      have SC := Lib.hid (SC.out.belowN EE.out hb)
      clear hb c0 c1
      go_wp2_with fail
      obtain ⟨W4, hW4, h0, h1, hb4⟩ := box2 w3 (.int .u32 B) (.int .i64 ((i : Int) + 1)) 31
      rw [← hW4]; clear hW4
      have SC := Lib.hid (SC.out.belowN EE.out hb4)
      clear hb4
      obtain ⟨q0, q1, _, _⟩ := (EE.out.tri _ _ _ SC.out.1).ncells HN.out
      rw [← KL.out] at q0
      rw [← KR.out] at q1
      refine reg_tail 11 (by kernel_rfl) (by kernel_rfl) ?_
      simp only [List.take_succ_cons, List.take_zero, List.drop_succ_cons, List.drop_zero]
      repeat still_step
      refine wpStill_nil ?_
      go_wp2_with fail
      have SD := Lib.hid (SC.out.belowN EE.out (Below.refl _ _).drew)
      refine (IH1.out _ _ _ SD.out.1 (lnS_2 N1.out H2.out)).mono ?_
      rintro e w5 ⟨rfl, I5, K5⟩
      have SC := Lib.hid (SD.out.step I5 K5)
      clear I5 K5 SD q0 q1 h0 h1
      obtain ⟨⟨L3, c3⟩, h3⟩ : ∃ r, r = runL cont L2 (goP S d B (i + 1)) := ⟨_, rfl⟩
      rw [← h3] at SC ⊢
      have H3 := Lib.hid h3
      clear h3
      cases c3
      · go_wp2_with fail
        go_ret
        exact SC.out.doneN EE.out (by rw [GO.out, GR.out, runL_append, ← H2.out]; exact H3.out.symm)
      go_wp2_with fail
      rw [rounds_succ]
      go_wp2_with fail
      go_ret
      exact SC.out.doneN EE.out (by rw [GO.out, GR.out, runL_append, ← H2.out]; exact H3.out.symm)
theorem trI_walkN (E : EachOkN tb N S most g lb cont Inv) : ∀ (d A i : Nat) (L : List Itm) (P : Nat → Prop) (w : World), i + d = 32 → A < 4294967296 → rightB A i = true → Inv P L w → Ln d L →
    Calls Try.prog 44 #[ptrN (N (keyN A i)), .agg #[.int .u32 A, .int .i64 i], .func (.func g) #[] lb] w (WalkPost cont Inv P w (runL cont L (goP S d A i)))
  | 0, A, i, L, P, w, hi, ha, hR, hI, hLn => by
    obtain rfl : i = 32 := by omega
    cases hn : N (keyN A 32) with
    | none => exact walk_nilN E 0 A 32 L P w rfl (right_mod.1 hR).1 hI hn
    | some b => exact walk_0N E A 32 rfl L P w ha hR hI hLn hn
  | d + 1, A, i, L, P, w, hi, ha, hR, hI, hLn => by
    cases hn : N (keyN A i) with
    | none => exact walk_nilN E (d + 1) A i L P w hi (right_mod.1 hR).1 hI hn
    | some b => exact walk_SN E d A i hi (trI_walkN E d) L P w ha hR hI hLn hn
theorem ln_less {d k : Nat} {L : List Itm} (h : Ln d L) (hk : k ≤ d) : Ln k L := by
  unfold Ln at h ⊢
  have : 2 ^ (k + 1) ≤ 2 ^ (d + 1) := Nat.pow_le_pow_right (by decide) (by omega)
  omega
set_option maxHeartbeats 1600000 in
set_option maxRecDepth 100000 in
theorem trI_BelowN (E : EachOkN tb N S most g lb cont Inv) (A i : Nat) (L : List Itm) (P : Nat → Prop) (w : World) (ha : A < 4294967296) (hR : rightB A i = true) (hI : Inv P L w) (hLn : Ln 32 L) :
    Calls Try.prog 16 #[.pointer (some ⟨tb, 0, none⟩), .agg #[.int .u32 A, .int .i64 i], .func (.func g) #[] lb] w (BelowPost Inv P w (runL cont L (goP S (32 - i) A i)).1) := by
  have hi := (right_mod.1 hR).2
  have EE := Lib.hid E
  have HI := Lib.hid hI
  have FD := Lib.hid (fun W h => trI_find (tb := tb) (N := N) (S := S) (most := most) A i W h ha hR)
  have WK := Lib.hid (fun P W h => trI_walkN E (32 - i) A i L P W (by omega) ha hR h (ln_less hLn (by omega)))
  clear E hI
  have nf := fun W => neq_func g lb W
  go_enter Try.func16, Try.ntmps16
  go_wp2_with fail
  obtain ⟨W0, hW0, c0, c1, hB⟩ := box2 w (.int .u32 A) (.int .i64 i) 31
  have hz : W0.heap.size = w.heap.size + 1 := by rw [hW0]; simp
  rw [← hW0]; clear hW0
  have S0 : Hid (WSt Inv P w A i L W0) := Lib.hid ⟨EE.out.stab _ _ _ _ _ HI.out hB (fun b h => h.imp_right (fun e => by omega)), c0, c1, Kept.of_below hB⟩
  clear hz
  have SD : Hid (WSt Inv P w A i L W0.drew) := Lib.hid (S0.out.belowN EE.out (Below.refl _ _).drew)
  go_region_with (first
    | (go_at_call 42; refine (FD.out _ (EE.out.tri _ _ _ SD.out.1)).mono ?_; rintro e w1 ⟨rfl, hb⟩; have S1 := Lib.hid (SD.out.belowN EE.out hb); have c0 := S1.out.2.1; have c1 := S1.out.2.2.1)
    | (go_at_call 44; refine (WK.out _ _ S1.out.1).mono ?_; rintro e w2 ⟨rfl, I2, K2⟩; have SE := Lib.hid (S1.out.step I2 K2)))
  all_goals
    go_wp2_with fail
    go_end0
    exact ⟨rfl, EE.out.stab _ _ _ _ _ SE.out.1 (Below.refl _ _) (fun _ h => .inl (.inl h)), SE.out.2.2.2⟩
set_option maxHeartbeats 1600000 in
set_option maxRecDepth 100000 in
theorem trI_AllN (E : EachOkN tb N S most g lb cont Inv) (L : List Itm) (P : Nat → Prop) (w : World) (hI : Inv P L w) (hLn : Ln 32 L) :
    Calls Try.prog 19 #[.pointer (some ⟨tb, 0, none⟩), .func (.func g) #[] lb] w (BelowPost Inv P w (runL cont L (goP S 32 0 0)).1) := by
  have BL := Lib.hid (trI_BelowN E 0 0 L P w (by decide) (by decide +kernel) hI hLn)
  go_enter Try.func19, Try.ntmps19
  go_wp2_with fail
  refine BL.out.mono ?_
  rintro e w1 ⟨rfl, I1, K1⟩
  have J1 := Lib.hid (And.intro I1 K1)
  clear I1 K1
  go_wp2_with fail
  go_end0
  exact ⟨rfl, J1.out.1, J1.out.2⟩
theorem trI_BelowAN (E : EachOkN tb N S most g lb cont Inv) (a : Nat) (n : Int) (L : List Itm) (P : Nat → Prop) (w : World) (ha : a < 4294967296) (hI : Inv P L w) (hLn : Ln 32 L) :
    Calls Try.prog 16 #[.pointer (some ⟨tb, 0, none⟩), .agg #[.int .u32 a, .int .i64 n], .func (.func g) #[] lb] w (BelowPost Inv P w (runL cont L (goB S (a, n))).1) := by
  by_cases hR : rightB a n = true
  · obtain ⟨m, rfl⟩ := Int.eq_ofNat_of_zero_le (rightB_range hR).1
    have e : goB S (a, (m : Int)) = goP S (32 - m) a m := if_pos hR
    rw [e]
    exact trI_BelowN E a m L P w ha hR hI hLn
  · refine (trI_Below_no ⟨tb, 0, none⟩ a n w (by omega) (by omega) (by simpa using hR)).mono ?_
    rintro e w' ⟨rfl, hb⟩
    have e : goB S (a, n) = [] := if_neg hR
    rw [e]
    exact ⟨rfl, E.stab _ _ _ _ _ hI hb (fun _ h => .inl h), Kept.of_below hb⟩
end
end Go.Proofs.Ytnklhfdhaclfiaa
