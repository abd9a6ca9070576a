/- Texts of one proof, one behind another. -/
import Derived.Test.YtkoidahgbbabiaaGreatFt12
import Derived.Test.YtkoidahgbbabiaaGreatFt11
import Derived.Test.YtkoidahgbbabiaaGreatFt7
import Derived.Deep.RegionWith
import Derived.Shelf.GgClosure.Gives
import Derived.Test.YtkoidahgbbabiaaGreatFt1
import Derived.Test.YtkoidahgbbabiaaGreatFt5
import Derived.Great.BuildSlice
namespace Go.Proofs.YtkoidahgbbabiaaGreat
open Go.RowKit
theorem own_lt {w : World} {B k n : Nat} {e : TypeId} {v : Value} {xs : List Value} (h : w.ownsRow B e k v n xs) : ∀ g, v.ownBlock = some g → g < w.heap.size := by
 obtain ⟨_, ⟨rfl, _⟩ | ⟨g, cap, cur, rfl, _, hg, _⟩⟩ := h
 ·intro g hg; cases hg
 ·intro g' hg'; cases hg'; exact jE hg
theorem OwnPs.kept {w w' : World} {B : Nat} {v : Value} {xs : List Pf} {F : Nat → Prop} (h : OwnPs w B v xs) (hk : Kept F w w') (hF : ∀ g, v.ownBlock = some g → ¬ F g) : OwnPs w' B v xs :=
 ⟨((own_on h.1).kept hk fun k _ hl => hF k hl).self, h.2⟩
theorem psAt_new (W : World) (x : Pf) (T : TypeId) (hx : OkP x) : PsAt (W.alloc (.cells #[.int .u32 x.1, .int .i64 x.2] T)) (.slice (some ⟨W.heap.size, 0, none⟩) 1 1) [x] := by
 refine ⟨_, 1, rfl, Nat.le_refl _, by simp [maxLen], fun _ => ⟨W.heap.size, 0, rfl, fun i y hy => ?_⟩⟩
 match i, hy with
 | 0, hy =>
  simp at hy
  subst hy
  refine ⟨encP x, rfl, ⟨rfl, hx⟩, fun j c hc => ?_⟩
  rw [jB (heap_alloc_new W _)]
  simpa [encP] using hc
theorem Kept.belowOn {F : Nat → Prop} {w w1 w2 : World} (h : Kept F w w1) (hb : Below w.heap.size w1 w2) : Kept F w w2 :=
 ⟨hb.os.trans h.os, hb.tape.trans h.tape, hb.output.trans h.output, Nat.le_trans h.size hb.size, fun k hk hf => (hb.block k hk).trans (h.block k hk hf)⟩
theorem turn_none {R : Rts} {E : List Ent} {ns : List Pf} {a : At} {x : Pf} (hg : getL R x = getL (rts E) x) (hf : findE E x = none) : turnB R ns a x = decide (x ∈ ns) := by
 unfold turnB
 rw [hg, find_rts, hf]
 rfl
theorem turn_some {R : Rts} {E : List Ent} {ns : List Pf} {a : At} {x : Pf} {e : Ent} (hg : getL R x = getL (rts E) x) (hf : findE E x = some e) : turnB R ns a x = (!(decide (x ∈ ns)) || !(sameA e.a a)) := by
 unfold turnB
 rw [hg, find_rts, hf]
 rfl
section
variable {rb tb : Nat} {N : Nat → Option Nat} {E : List Ent} {peer own most : Int} {F : Nat → Prop}
theorem rib_drop (p : Pf) (W : World) (h : RibIn W rb tb N E peer own most F) (hp : RgtP p) :
  Calls Tryz.prog 99 #[.pointer (some ⟨tb, 0, none⟩), .agg #[.int .u32 p.1, .int .i64 p.2]] W fun e w' => ∃ N' c, e = .returned (.bool c) ∧ RibIn w' rb tb N' (delE E p) peer own most F ∧ Kept (TOwn tb N) W w' := by
 have hp0 := hp
 obtain ⟨a, n, rfl, ha, hn, -, hr'⟩ := hp.nat
 have hl : (kvs E).length ≤ 4096 := by rw [List.length_map]; have := h.room; have := h.most1; omega
 refine (trI_Drop a n W h.tri hl ha hr').mono ?_
 rintro e w' ⟨N', rfl, ht, hs, hk⟩
 exact ⟨N', _, rfl, h.drop hp0 ht hs hk, hk⟩
theorem rib_put (p : Pf) (a : At) (v : AV) (lo : Nat) (W : World) (h : RibIn W rb tb N E peer own most F) (hp : RgtP p) (hz : AtSz a) (hon : Fresh lo W (fun W => AvAt W a v)) (hlo : ∀ b, TOwn tb N b ∨ b = rb → b < lo) (hr : ((delE E p).length : Int) + 1 ≤ most) :
  Calls Tryz.prog 100 #[.pointer (some ⟨tb, 0, none⟩), .agg #[.int .u32 p.1, .int .i64 p.2], v.V] W fun e w' => ∃ N' c, e = .returned (.int .i64 c) ∧ RibIn w' rb tb N' (delE E p ++ [⟨p, a, v, lo, W.heap.size⟩]) peer own most (fun b => (F b ∨ (lo ≤ b ∧ b < W.heap.size)) ∨ (W.heap.size ≤ b ∧ b < w'.heap.size)) ∧ Kept (TOwn tb N) W w' := by
 have hp0 := hp
 obtain ⟨x, n, rfl, ha, hn, -, hr'⟩ := hp.nat
 have key := find_kvs h.rgt hp0
 have m1 := h.most1
 have R : putR (kvs E) most (keyN x n) v = (0, delL (kvs E) (keyN x n) ++ [(keyN x n, v)]) := by
  cases hg : getL (kvs E) (keyN x n) with
  | none =>
   refine putR_new hg ?_
   have e : delE E ((x : Int), (n : Int)) = E := by
    unfold delE
    rw [List.filter_eq_self]
    intro e he
    simp only [Bool.not_eq_true', decide_eq_false_iff_not]
    intro hx
    have : findE E ((x : Int), (n : Int)) = none := by
     have k2 : getL (kvs E) (pKey ((x : Int), (n : Int))) = none := hg
     rw [key] at k2
     simpa using k2
    unfold findE at this
    rw [List.find?_eq_none] at this
    exact this e he (by simpa using hx)
   rw [e] at hr
   rw [List.length_map]
   omega
  | some u => exact putR_old (by rw [hg]; rfl)
 refine (trI_Put x n v W h.tri (by omega) ha hr').mono ?_
 rintro e w' ⟨N', rfl, ht, hs, hk⟩
 rw [R] at ht
 refine ⟨N', _, rfl, ?_, hk⟩
 have hw : RibIn W rb tb N E peer own most (fun b => F b ∨ (lo ≤ b ∧ b < W.heap.size)) := h.wide fun k hk => .inl hk
 exact hw.put hp0 hz (hon.wide fun k hk hl => ⟨hk, hl⟩) (Nat.le_refl _) (fun b hb hx => by have := hlo b hb; omega) (fun k h1 h2 => .inr ⟨h1, h2⟩) ht hs.2 hk hr
theorem rib_put2 {F0 : Nat → Prop} {w0 : Nat} (p : Pf) (a : At) (v : AV) (lo : Nat) (W W1 : World) (h : RibIn W1 rb tb N E peer own most F) (hb : Below W1.heap.size W1 W) (hF : ∀ b, F b → F0 b ∨ (w0 ≤ b ∧ b < W1.heap.size)) (hw0 : w0 ≤ W1.heap.size)
  (hp : RgtP p) (hz : AtSz a) (hlo : W1.heap.size ≤ lo) (hon : Fresh lo W (fun W => AvAt W a v)) (hr : (E.length : Int) + 1 ≤ most) :
  Calls Tryz.prog 100 #[.pointer (some ⟨tb, 0, none⟩), .agg #[.int .u32 p.1, .int .i64 p.2], v.V] W fun e w' => ∃ N' E' F' c, e = .returned (.int .i64 c) ∧ RibIn w' rb tb N' E' peer own most F' ∧ rts E' = putP (rts E) p a ∧ (∀ b, F' b → F0 b ∨ (w0 ≤ b ∧ b < w'.heap.size)) ∧ Kept (TOwn tb N) W w' := by
 have hd : (delE E p).length ≤ E.length := List.length_filter_le ..
 refine (rib_put p a v lo W (h.below hb) hp hz hon (fun b hb' => ?_) (by omega)).mono ?_
 ·have := jE h.row
  rcases hb' with hb' | rfl
  ·have := h.tri.own_lt hb'; omega
  ·omega
 ·rintro e w' ⟨N', c, rfl, hi, hk⟩
  refine ⟨N', _, _, c, rfl, hi, ?_, ?_, hk⟩
  ·rw [rts, List.map_append]
   unfold putP
   rw [del_rts]
   rfl
  ·have h1 := hk.size
   have h2 := hb.size
   rintro b ((hb | hb) | hb)
   ·exact (hF b hb).imp_right fun h => by omega
   ·exact .inr (by omega)
   ·exact .inr (by omega)
end
theorem put_room {R : Rts} {said ns : List Pf} {a : At} {most : Int} {k : Nat} (hs : Srt ns) (hsub : ∀ p ∈ ns, p ∈ said) (hk : k < ns.length) (hc : ((dropAll R said).length : Int) + ns.length ≤ most) {E : List Ent} (hE : rts E = putAll (dropAll R said) (ns.take k) a) : (E.length : Int) + 1 ≤ most := by
 have h1 := len_putAll a (ns.take k) (dropAll R said) ((srt_nodup hs).sublist (List.take_sublist k ns)) (fun p hp => by
  rw [getL_dropAll, if_pos (hsub p (List.mem_of_mem_take hp))])
 rw [← hE, List.length_map, List.length_take] at h1
 omega
open Go.RowKit Go.Lib
set_option linter.unusedVariables false
def Ln (d : Nat) (L : List Itm) : Prop := L.length + 2 ^ (d + 1) ≤ 8589934592
def LnS (d : Nat) (L : List Itm) : Prop := L.length + 2 ^ (d + 1) + 2 ^ (d + 1) ≤ 8589934592 + 1
theorem goP_short (S : List (Nat × AV)) : ∀ (d A i : Nat), (goP S d A i).length + 1 ≤ 2 ^ (d + 1)
 | 0, A, i => by unfold goP hereP; split <;> simp
 | d + 1, A, i => by
  have h1 := goP_short S d A (i + 1)
  have h2 := goP_short S d (A + 2 ^ (31 - i)) (i + 1)
  have h3 : (hereP S A i).length ≤ 1 := by unfold hereP; split <;> simp
  have e : goP S (d + 1) A i = hereP S A i ++ (goP S d A (i + 1) ++ goP S d (A + 2 ^ (31 - i)) (i + 1)) := rfl
  rw [e, List.length_append, List.length_append, show 2 ^ (d + 1 + 1) = 2 ^ (d + 1) * 2 from rfl]
  omega
theorem runL_short (cont : List Itm → Bool) : ∀ (L xs : List Itm), (runL cont L xs).1.length ≤ L.length + xs.length
 | L, [] => by simp [runL]
 | L, x :: xs => by
  simp only [runL]
  split
  ·have := runL_short cont (L ++ [x]) xs
   simp at this ⊢; omega
  ·simp
theorem ln_lt {d : Nat} {L : List Itm} (h : Ln d L) : L.length < 8589934592 := by
 unfold Ln at h; have := Nat.pow_pos (n := d + 1) (show 0 < 2 by decide); omega
theorem lnS_0 {d : Nat} {L : List Itm} (h : Ln (d + 1) L) : LnS d L := by
 unfold Ln at h; unfold LnS
 rw [show 2 ^ (d + 1 + 1) = 2 ^ (d + 1) * 2 from rfl] at h
 omega
theorem lnS_x {d : Nat} {L : List Itm} {x : Itm} (h : Ln (d + 1) L) : LnS d (L ++ [x]) := by
 unfold Ln at h; unfold LnS
 rw [show 2 ^ (d + 1 + 1) = 2 ^ (d + 1) * 2 from rfl] at h
 simp only [List.length_append, List.length_cons, List.length_nil]
 omega
theorem lnS_1 {d : Nat} {L : List Itm} (h : LnS d L) : Ln d L := by
 unfold LnS at h; unfold Ln; have := Nat.pow_pos (n := d + 1) (show 0 < 2 by decide); omega
theorem lnS_2 {d : Nat} {L L2 : List Itm} {c : Bool} {cont : List Itm → Bool} {S : List (Nat × AV)} {A i : Nat} (h : LnS d L) (h2 : (L2, c) = runL cont L (goP S d A i)) : Ln d L2 := by
 have h3 := runL_short cont L (goP S d A i)
 rw [← h2] at h3
 have h4 := goP_short S d A i
 unfold LnS at h; unfold Ln
 simp only at h3
 omega
structure EachOkN (tb : Nat) (N : Nat → Option Nat) (S : List (Nat × AV)) (most : Int) (g : Nat) (lb : Array Value) (cont : List Itm → Bool) (Inv : (Nat → Prop) → List Itm → World → Prop) : Prop where
 ent : ∀ args w, (callFunc g args).run Tryz.prog w = .ok (.enter g args) w
 stab : ∀ P P' L W W', Inv P L W → Below W.heap.size W W' → (∀ b, P' b → P b ∨ (W.heap.size ≤ b ∧ b < W'.heap.size)) → Inv P' L W'
 tri : ∀ P L W, Inv P L W → TrI W tb N S most
 call : ∀ P L W (A i : Nat) v, Inv P L W → A < 4294967296 → rightB A i = true → getL S (keyN A i) = some v → L.length < 8589934592 →
  Calls Tryz.prog g (#[.agg #[.int .u32 A, .int .i64 i], v.V] ++ lb) W fun e w' => e = .returned (.bool (cont (L ++ [((A, i), v)]))) ∧ Inv P (L ++ [((A, i), v)]) w' ∧ Kept (fun b => ¬ P b) W w'
section
variable {tb : Nat} {N : Nat → Option Nat} {S : List (Nat × AV)} {most : Int} {g : Nat} {lb : Array Value} {cont : List Itm → Bool} {Inv : (Nat → Prop) → List Itm → World → Prop}
set_option maxHeartbeats 1600000 in
set_option maxRecDepth 100000 in
theorem walk_nilN (E : EachOkN tb N S most g lb cont Inv) (d A i : Nat) (L : List Itm) (P : Nat → Prop) (w : World) (hi : i + d = 32) (hr : A % 2 ^ (32 - i) = 0) (hI : Inv P L w) (hn : N (keyN A i) = none) :
  Calls Tryz.prog 169 #[.pointer none, .agg #[.int .u32 A, .int .i64 i], .func (.func g) #[] lb] w (WalkPost cont Inv P w (runL cont L (goP S d A i))) := by
 have G := jh (show runL cont L (goP S d A i) = (L, true) by rw [goP_none (E.tri _ _ _ hI) d A i hi hr hn]; rfl)
 have HB : ∀ o, Below w.heap.size w (w.alloc o) := fun o => (Below.refl _ _).alloc (Nat.le_refl _) _
 have I2 := jh (fun o => E.stab P P L w (w.alloc o) hI (HB o) (fun b h => .inl h))
 clear hn hI
 go_enter Tryz.func169, Tryz.ntmps169
 go_wp2_with fail
 go_ret
 exact WalkPost.of G.out (I2.out _) (Kept.of_below (HB _))
theorem WSt.belowN (E : EachOkN tb N S most g lb cont Inv) {P : Nat → Prop} {w W W' : World} {A i : Nat} {L : List Itm} (h : WSt Inv P w A i L W) (hb : Below W.heap.size W W') : WSt Inv P w A i L W' :=
 ⟨E.stab _ _ _ _ _ h.1 hb (fun _ h => .inl h), jA h.2.1 hb, jA h.2.2.1 hb, h.2.2.2.grow hb⟩
theorem WSt.doneN (E : EachOkN tb N S most g lb cont Inv) {P : Nat → Prop} {w W : World} {A i : Nat} {L : List Itm} {r : List Itm × Bool} {c : Bool} (h : WSt Inv P w A i L W) (hr : r = (L, c)) : WalkPost cont Inv P w r (.returned (.bool c)) W :=
 WalkPost.of hr (E.stab _ _ _ _ _ h.1 (Below.refl _ _) (fun _ h => .inl (.inl h))) h.2.2.2
set_option maxHeartbeats 3200000 in
set_option maxRecDepth 100000 in
theorem walk_0N (E : EachOkN tb N S most g lb cont Inv) (A i : Nat) (h32 : i = 32) (L : List Itm) (P : Nat → Prop) (w : World) (ha : A < 4294967296) (hR : rightB A i = true) (hI : Inv P L w) (hLn : Ln 0 L) {b : Nat} (hn : N (keyN A i) = some b) :
  Calls Tryz.prog 169 #[.pointer (some ⟨b, 0, none⟩), .agg #[.int .u32 A, .int .i64 i], .func (.func g) #[] lb] w (WalkPost cont Inv P w (runL cont L (goP S 0 A i))) := by
 have HF := jh (fun t W => half_32 A i h32 t ha W)
 clear h32
 have eg := E.ent
 have HN := jh hn
 have HI := jh hI
 have EE := jh E
 have HR := jh hR
 clear hn hI E
 cases hg : getL S (keyN A i) with
 | none =>
  have G := jh (hereP_no hg)
  have HG := jh hg
  clear hg
  go_enter Tryz.func169, Tryz.ntmps169
  go_wp2_with fail
  obtain ⟨W0, hW0, c0, c1, hB⟩ := box2 w (.int .u32 A) (.int .i64 i) 53
  have hz : W0.heap.size = w.heap.size + 1 := by rw [hW0]; simp
  rw [← hW0]; clear hW0
  have S0 : Hid (WSt Inv P w A i L W0) := jh ⟨EE.out.stab _ _ _ _ _ HI.out hB (fun b h => h.imp_right (fun e => by omega)), c0, c1, Kept.of_below hB⟩
  clear hz
  obtain ⟨_, _, d2⟩ := (EE.out.tri _ _ _ S0.out.1).ncells HN.out
  rw [HG.out] at d2
  replace d2 : W0.cell? ⟨b, 2, none⟩ = some (.bool false) := d2
  go_quiet (fail)
  obtain ⟨Wc, hWc⟩ : ∃ Wc, Wc = W0.drewN nq := ⟨_, rfl⟩
  have SC : Hid (WSt Inv P w A i L Wc) := jh (by rw [hWc]; exact S0.out.belowN EE.out (jS (Below.refl _ _) nq))
  rw [← hWc]
  clear hWc S0 d2 c0 c1 hB
  obtain ⟨L1, hL1⟩ : ∃ L1, L1 = L := ⟨_, rfl⟩
  have GR : Hid (∀ xs, runL cont L (hereP S A i ++ xs) = runL cont L1 xs) := jh (fun xs => by rw [G.out, hL1]; rfl)
  rw [← hL1] at SC
  clear hL1
  go_wp2_with fail
  refine wp_loop_rounds 3 ?_
  rw [rounds_succ]
  have c0 := SC.out.2.1
  have c1 := SC.out.2.2.1
  go_wp2_with fail
  refine (HF.out 0 _).mono ?_
  rintro e w3 ⟨rfl, hb⟩
  have SC := jh (SC.out.belowN EE.out hb)
  clear hb c0 c1
  go_wp2_with fail
  obtain ⟨W4, hW4, h0, h1, hb4⟩ := box2 w3 (.int .u32 0) (.int .i64 0) 53
  rw [← hW4]; clear hW4
  have SC := jh (SC.out.belowN EE.out hb4)
  clear hb4 h0 h1
  go_quiet (fail)
  obtain ⟨W5, hW5⟩ : ∃ W5, W5 = W4.drewN nq := ⟨_, rfl⟩
  have SC : Hid (WSt Inv P w A i L1 W5) := jh (by rw [hW5]; exact SC.out.belowN EE.out (jS (Below.refl _ _) nq))
  rw [← hW5]
  clear hW5
  go_wp2_with fail
  rw [rounds_succ]
  have c0 := SC.out.2.1
  have c1 := SC.out.2.2.1
  go_wp2_with fail
  refine (HF.out 1 _).mono ?_
  rintro e w3 ⟨rfl, hb⟩
  have SC := jh (SC.out.belowN EE.out hb)
  clear hb c0 c1
  go_wp2_with fail
  obtain ⟨W4, hW4, h0, h1, hb4⟩ := box2 w3 (.int .u32 0) (.int .i64 0) 53
  rw [← hW4]; clear hW4
  have SC := jh (SC.out.belowN EE.out hb4)
  clear hb4 h0 h1
  go_quiet (fail)
  obtain ⟨W5, hW5⟩ : ∃ W5, W5 = W4.drewN nq := ⟨_, rfl⟩
  have SC : Hid (WSt Inv P w A i L1 W5) := jh (by rw [hW5]; exact SC.out.belowN EE.out (jS (Below.refl _ _) nq))
  rw [← hW5]
  clear hW5
  go_wp2_with fail
  rw [rounds_succ]
  go_wp2_with fail
  go_ret
  exact SC.out.doneN EE.out (by rw [show goP S 0 A i = hereP S A i ++ [] by rw [List.append_nil]; rfl, GR.out]; rfl)
 | some v =>
  have G := jh (hereP_yes hg)
  have HG := jh hg
  clear hg
  have EC := jh (fun W (h : WSt Inv P w A i L W) => EE.out.call _ L W A i v h.1 ha HR.out HG.out (ln_lt hLn))
  generalize hcc : cont (L ++ [((A, i), v)]) = cc at EC
  go_enter Tryz.func169, Tryz.ntmps169
  go_wp2_with fail
  obtain ⟨W0, hW0, c0, c1, hB⟩ := box2 w (.int .u32 A) (.int .i64 i) 53
  have hz : W0.heap.size = w.heap.size + 1 := by rw [hW0]; simp
  rw [← hW0]; clear hW0
  have S0 : Hid (WSt Inv P w A i L W0) := jh ⟨EE.out.stab _ _ _ _ _ HI.out hB (fun b h => h.imp_right (fun e => by omega)), c0, c1, Kept.of_below hB⟩
  clear hz
  obtain ⟨_, _, d2⟩ := (EE.out.tri _ _ _ S0.out.1).ncells HN.out
  have d3 := node_range ((EE.out.tri _ _ _ S0.out.1).node _ _ HN.out)
  rw [HG.out] at d2 d3
  replace d2 : W0.cell? ⟨b, 2, none⟩ = some (.bool true) := d2
  replace d3 : Hid (W0.drew.rangeAt b 3 v.C.toList) := jh d3
  refine reg_tail 11 (by kernel_rfl) (by kernel_rfl) ?_
  simp only [List.take_succ_cons, List.take_zero, List.drop_succ_cons, List.drop_zero]
  repeat still_step
  refine still_ld (by rfl) (exec_ldm 42 (.tmp 21) rfl b 3 ?_ v.C.toList _ d3.out Tryz.underlying42 rfl (by kernel_rfl)) ?_
  ·rfl
  refine wpStill_nil ?_
  go_wp2_with fail
  refine (EC.out _ (S0.out.belowN EE.out (Below.refl _ _).drew)).mono ?_
  rintro e Wc ⟨rfl, I1, K1⟩
  have SC : Hid (WSt Inv P w A i (L ++ [((A, i), v)]) Wc) := jh ((S0.out.belowN EE.out (Below.refl _ _).drew).step I1 K1)
  clear I1 K1 S0 d2 d3 c0 c1 hB EC
  cases hcc2 : cc
  ·have GF : Hid (∀ xs, runL cont L (hereP S A i ++ xs) = (L ++ [((A, i), v)], false)) := jh (fun xs => by
    rw [G.out]
    simp only [List.cons_append, List.nil_append, runL]
    rw [hcc, hcc2]; exact if_neg (by decide))
   clear hcc hcc2
   go_wp2_with fail
   go_ret
   exact SC.out.doneN EE.out (by rw [show goP S 0 A i = hereP S A i ++ [] by rw [List.append_nil]; rfl]; exact GF.out _)
  ·have GR : Hid (∀ xs, runL cont L (hereP S A i ++ xs) = runL cont (L ++ [((A, i), v)]) xs) := jh (fun xs => by
    rw [G.out]
    simp only [List.cons_append, List.nil_append, runL]
    rw [hcc, hcc2]; exact if_pos rfl)
   clear hcc hcc2
   generalize L ++ [((A, i), v)] = L1 at SC GR
   go_wp2_with fail
   refine wp_loop_rounds 3 ?_
   rw [rounds_succ]
   have c0 := SC.out.2.1
   have c1 := SC.out.2.2.1
   go_wp2_with fail
   refine (HF.out 0 _).mono ?_
   rintro e w3 ⟨rfl, hb⟩
   have SC := jh (SC.out.belowN EE.out hb)
   clear hb c0 c1
   go_wp2_with fail
   obtain ⟨W4, hW4, h0, h1, hb4⟩ := box2 w3 (.int .u32 0) (.int .i64 0) 53
   rw [← hW4]; clear hW4
   have SC := jh (SC.out.belowN EE.out hb4)
   clear hb4 h0 h1
   go_quiet (fail)
   obtain ⟨W5, hW5⟩ : ∃ W5, W5 = W4.drewN nq := ⟨_, rfl⟩
   have SC : Hid (WSt Inv P w A i L1 W5) := jh (by rw [hW5]; exact SC.out.belowN EE.out (jS (Below.refl _ _) nq))
   rw [← hW5]
   clear hW5
   go_wp2_with fail
   rw [rounds_succ]
   have c0 := SC.out.2.1
   have c1 := SC.out.2.2.1
   go_wp2_with fail
   refine (HF.out 1 _).mono ?_
   rintro e w3 ⟨rfl, hb⟩
   have SC := jh (SC.out.belowN EE.out hb)
   clear hb c0 c1
   go_wp2_with fail
   obtain ⟨W4, hW4, h0, h1, hb4⟩ := box2 w3 (.int .u32 0) (.int .i64 0) 53
   rw [← hW4]; clear hW4
   have SC := jh (SC.out.belowN EE.out hb4)
   clear hb4 h0 h1
   go_quiet (fail)
   obtain ⟨W5, hW5⟩ : ∃ W5, W5 = W4.drewN nq := ⟨_, rfl⟩
   have SC : Hid (WSt Inv P w A i L1 W5) := jh (by rw [hW5]; exact SC.out.belowN EE.out (jS (Below.refl _ _) nq))
   rw [← hW5]
   clear hW5
   go_wp2_with fail
   rw [rounds_succ]
   go_wp2_with fail
   go_ret
   exact SC.out.doneN EE.out (by rw [show goP S 0 A i = hereP S A i ++ [] by rw [List.append_nil]; rfl, GR.out]; rfl)
set_option maxHeartbeats 3200000 in
set_option maxRecDepth 100000 in
theorem walk_SN (E : EachOkN tb N S most g lb cont Inv) (d A i : Nat) (hi : i + (d + 1) = 32) (IH : ∀ (A i : Nat) (L : List Itm) (P : Nat → Prop) (w : World), i + d = 32 → A < 4294967296 → rightB A i = true → Inv P L w → Ln d L → Calls Tryz.prog 169 #[ptrN (N (keyN A i)), .agg #[.int .u32 A, .int .i64 i], .func (.func g) #[] lb] w (WalkPost cont Inv P w (runL cont L (goP S d A i)))) (L : List Itm) (P : Nat → Prop) (w : World) (ha : A < 4294967296) (hR : rightB A i = true) (hI : Inv P L w) (hLn : Ln (d + 1) L) {b : Nat} (hn : N (keyN A i) = some b) :
  Calls Tryz.prog 169 #[.pointer (some ⟨b, 0, none⟩), .agg #[.int .u32 A, .int .i64 i], .func (.func g) #[] lb] w (WalkPost cont Inv P w (runL cont L (goP S (d + 1) A i))) := by
 have hm := (right_mod.1 hR).1
 have GO := jh (show goP S (d + 1) A i = hereP S A i ++ (goP S d A (i + 1) ++ goP S d (A + 2 ^ (31 - i)) (i + 1)) from rfl)
 have HF0 : Hid (∀ W, Calls Tryz.prog 189 #[.agg #[.int .u32 A, .int .i64 i], .int .i64 0] W fun e w' => e = .returned (.tuple #[.agg #[.int .u32 A, .int .i64 ((i : Int) + 1)], .int .i64 0]) ∧ Below W.heap.size W w') := jh (half_0 A i ha (by omega) hR)
 have HF1 := jh (half_1 A i ha (by omega) hR)
 have KL := jh (key_left (show i < 32 by omega) hm)
 have KR := jh (key_right (show i < 32 by omega) hm)
 have IH0 : Hid (∀ L P w, Inv P L w → Ln d L → Calls Tryz.prog 169 #[ptrN (N (keyN A (i + 1))), .agg #[.int .u32 A, .int .i64 ((i : Int) + 1)], .func (.func g) #[] lb] w (WalkPost cont Inv P w (runL cont L (goP S d A (i + 1))))) := jh (fun L P w h hl => IH A (i + 1) L P w (by omega) ha (right_mod.2 ⟨mod_left (by omega) hm, by omega⟩) h hl)
 have IH1 := jh (fun L P w h hl => IH (A + 2 ^ (31 - i)) (i + 1) L P w (by omega) (lt_right (by omega) ha hm) (right_mod.2 ⟨mod_right (by omega) hm, by omega⟩) h hl)
 generalize A + 2 ^ (31 - i) = B at GO HF1 KR IH1
 have HF1 : Hid (∀ W, Calls Tryz.prog 189 #[.agg #[.int .u32 A, .int .i64 i], .int .i64 1] W fun e w' => e = .returned (.tuple #[.agg #[.int .u32 B, .int .i64 ((i : Int) + 1)], .int .i64 0]) ∧ Below W.heap.size W w') := jh HF1.out
 have IH1 : Hid (∀ L P w, Inv P L w → Ln d L → Calls Tryz.prog 169 #[ptrN (N (keyN B (i + 1))), .agg #[.int .u32 B, .int .i64 ((i : Int) + 1)], .func (.func g) #[] lb] w (WalkPost cont Inv P w (runL cont L (goP S d B (i + 1))))) := jh IH1.out
 clear IH hm
 have eg := E.ent
 have HN := jh hn
 have HI := jh hI
 have EE := jh E
 have HR := jh hR
 clear hn hI E
 cases hg : getL S (keyN A i) with
 | none =>
  have G := jh (hereP_no hg)
  have HG := jh hg
  clear hg
  go_enter Tryz.func169, Tryz.ntmps169
  go_wp2_with fail
  obtain ⟨W0, hW0, c0, c1, hB⟩ := box2 w (.int .u32 A) (.int .i64 i) 53
  have hz : W0.heap.size = w.heap.size + 1 := by rw [hW0]; simp
  rw [← hW0]; clear hW0
  have S0 : Hid (WSt Inv P w A i L W0) := jh ⟨EE.out.stab _ _ _ _ _ HI.out hB (fun b h => h.imp_right (fun e => by omega)), c0, c1, Kept.of_below hB⟩
  clear hz
  obtain ⟨_, _, d2⟩ := (EE.out.tri _ _ _ S0.out.1).ncells HN.out
  rw [HG.out] at d2
  replace d2 : W0.cell? ⟨b, 2, none⟩ = some (.bool false) := d2
  go_quiet (fail)
  obtain ⟨Wc, hWc⟩ : ∃ Wc, Wc = W0.drewN nq := ⟨_, rfl⟩
  have SC : Hid (WSt Inv P w A i L Wc) := jh (by rw [hWc]; exact S0.out.belowN EE.out (jS (Below.refl _ _) nq))
  rw [← hWc]
  clear hWc S0 d2 c0 c1 hB
  obtain ⟨L1, hL1⟩ : ∃ L1, L1 = L := ⟨_, rfl⟩
  have GR : Hid (∀ xs, runL cont L (hereP S A i ++ xs) = runL cont L1 xs) := jh (fun xs => by rw [G.out, hL1]; rfl)
  rw [← hL1] at SC
  have N1 : Hid (LnS d L1) := jh (by rw [hL1]; exact lnS_0 hLn)
  clear hL1
  go_wp2_with fail
  refine wp_loop_rounds 3 ?_
  rw [rounds_succ]
  have c0 := SC.out.2.1
  have c1 := SC.out.2.2.1
  go_wp2_with fail
  refine (HF0.out _).mono ?_
  rintro e w3 ⟨rfl, hb⟩
  have SC := jh (SC.out.belowN EE.out hb)
  clear hb c0 c1
  go_wp2_with fail
  obtain ⟨W4, hW4, h0, h1, hb4⟩ := box2 w3 (.int .u32 A) (.int .i64 ((i : Int) + 1)) 53
  rw [← hW4]; clear hW4
  have SC := jh (SC.out.belowN EE.out hb4)
  clear hb4
  obtain ⟨q0, q1, _⟩ := (EE.out.tri _ _ _ SC.out.1).ncells HN.out
  rw [← KL.out] at q0
  rw [← KR.out] at q1
  refine reg_tail 11 (by kernel_rfl) (by kernel_rfl) ?_
  simp only [List.take_succ_cons, List.take_zero, List.drop_succ_cons, List.drop_zero]
  repeat still_step
  refine wpStill_nil ?_
  go_wp2_with fail
  have SD := jh (SC.out.belowN EE.out (Below.refl _ _).drew)
  refine (IH0.out _ _ _ SD.out.1 (lnS_1 N1.out)).mono ?_
  rintro e w5 ⟨rfl, I5, K5⟩
  have SC := jh (SD.out.step I5 K5)
  clear I5 K5 SD q0 q1 h0 h1
  obtain ⟨⟨L2, c2⟩, h2⟩ : ∃ r, r = runL cont L1 (goP S d A (i + 1)) := ⟨_, rfl⟩
  rw [← h2] at SC ⊢
  have H2 := jh h2
  clear h2
  cases c2
  ·go_wp2_with fail
   go_ret
   exact SC.out.doneN EE.out (by rw [GO.out, GR.out, runL_append, ← H2.out]; rfl)
  go_wp2_with fail
  rw [rounds_succ]
  have c0 := SC.out.2.1
  have c1 := SC.out.2.2.1
  go_wp2_with fail
  refine (HF1.out _).mono ?_
  rintro e w3 ⟨rfl, hb⟩
  have SC := jh (SC.out.belowN EE.out hb)
  clear hb c0 c1
  go_wp2_with fail
  obtain ⟨W4, hW4, h0, h1, hb4⟩ := box2 w3 (.int .u32 B) (.int .i64 ((i : Int) + 1)) 53
  rw [← hW4]; clear hW4
  have SC := jh (SC.out.belowN EE.out hb4)
  clear hb4
  obtain ⟨q0, q1, _⟩ := (EE.out.tri _ _ _ SC.out.1).ncells HN.out
  rw [← KL.out] at q0
  rw [← KR.out] at q1
  refine reg_tail 11 (by kernel_rfl) (by kernel_rfl) ?_
  simp only [List.take_succ_cons, List.take_zero, List.drop_succ_cons, List.drop_zero]
  repeat still_step
  refine wpStill_nil ?_
  go_wp2_with fail
  have SD := jh (SC.out.belowN EE.out (Below.refl _ _).drew)
  refine (IH1.out _ _ _ SD.out.1 (lnS_2 N1.out H2.out)).mono ?_
  rintro e w5 ⟨rfl, I5, K5⟩
  have SC := jh (SD.out.step I5 K5)
  clear I5 K5 SD q0 q1 h0 h1
  obtain ⟨⟨L3, c3⟩, h3⟩ : ∃ r, r = runL cont L2 (goP S d B (i + 1)) := ⟨_, rfl⟩
  rw [← h3] at SC ⊢
  have H3 := jh h3
  clear h3
  cases c3
  ·go_wp2_with fail
   go_ret
   exact SC.out.doneN EE.out (by rw [GO.out, GR.out, runL_append, ← H2.out]; exact H3.out.symm)
  go_wp2_with fail
  rw [rounds_succ]
  go_wp2_with fail
  go_ret
  exact SC.out.doneN EE.out (by rw [GO.out, GR.out, runL_append, ← H2.out]; exact H3.out.symm)
 | some v =>
  have G := jh (hereP_yes hg)
  have HG := jh hg
  clear hg
  have EC := jh (fun W (h : WSt Inv P w A i L W) => EE.out.call _ L W A i v h.1 ha HR.out HG.out (ln_lt hLn))
  generalize hcc : cont (L ++ [((A, i), v)]) = cc at EC
  go_enter Tryz.func169, Tryz.ntmps169
  go_wp2_with fail
  obtain ⟨W0, hW0, c0, c1, hB⟩ := box2 w (.int .u32 A) (.int .i64 i) 53
  have hz : W0.heap.size = w.heap.size + 1 := by rw [hW0]; simp
  rw [← hW0]; clear hW0
  have S0 : Hid (WSt Inv P w A i L W0) := jh ⟨EE.out.stab _ _ _ _ _ HI.out hB (fun b h => h.imp_right (fun e => by omega)), c0, c1, Kept.of_below hB⟩
  clear hz
  obtain ⟨_, _, d2⟩ := (EE.out.tri _ _ _ S0.out.1).ncells HN.out
  have d3 := node_range ((EE.out.tri _ _ _ S0.out.1).node _ _ HN.out)
  rw [HG.out] at d2 d3
  replace d2 : W0.cell? ⟨b, 2, none⟩ = some (.bool true) := d2
  replace d3 : Hid (W0.drew.rangeAt b 3 v.C.toList) := jh d3
  refine reg_tail 11 (by kernel_rfl) (by kernel_rfl) ?_
  simp only [List.take_succ_cons, List.take_zero, List.drop_succ_cons, List.drop_zero]
  repeat still_step
  refine still_ld (by rfl) (exec_ldm 42 (.tmp 21) rfl b 3 ?_ v.C.toList _ d3.out Tryz.underlying42 rfl (by kernel_rfl)) ?_
  ·rfl
  refine wpStill_nil ?_
  go_wp2_with fail
  refine (EC.out _ (S0.out.belowN EE.out (Below.refl _ _).drew)).mono ?_
  rintro e Wc ⟨rfl, I1, K1⟩
  have SC : Hid (WSt Inv P w A i (L ++ [((A, i), v)]) Wc) := jh ((S0.out.belowN EE.out (Below.refl _ _).drew).step I1 K1)
  clear I1 K1 S0 d2 d3 c0 c1 hB EC
  cases hcc2 : cc
  ·have GF : Hid (∀ xs, runL cont L (hereP S A i ++ xs) = (L ++ [((A, i), v)], false)) := jh (fun xs => by
    rw [G.out]
    simp only [List.cons_append, List.nil_append, runL]
    rw [hcc, hcc2]; exact if_neg (by decide))
   clear hcc hcc2
   go_wp2_with fail
   go_ret
   exact SC.out.doneN EE.out (by rw [GO.out]; exact GF.out _)
  ·have GR : Hid (∀ xs, runL cont L (hereP S A i ++ xs) = runL cont (L ++ [((A, i), v)]) xs) := jh (fun xs => by
    rw [G.out]
    simp only [List.cons_append, List.nil_append, runL]
    rw [hcc, hcc2]; exact if_pos rfl)
   clear hcc hcc2
   have N1 : Hid (LnS d (L ++ [((A, i), v)])) := jh (lnS_x hLn)
   generalize L ++ [((A, i), v)] = L1 at SC GR N1
   go_wp2_with fail
   refine wp_loop_rounds 3 ?_
   rw [rounds_succ]
   have c0 := SC.out.2.1
   have c1 := SC.out.2.2.1
   go_wp2_with fail
   refine (HF0.out _).mono ?_
   rintro e w3 ⟨rfl, hb⟩
   have SC := jh (SC.out.belowN EE.out hb)
   clear hb c0 c1
   go_wp2_with fail
   obtain ⟨W4, hW4, h0, h1, hb4⟩ := box2 w3 (.int .u32 A) (.int .i64 ((i : Int) + 1)) 53
   rw [← hW4]; clear hW4
   have SC := jh (SC.out.belowN EE.out hb4)
   clear hb4
   obtain ⟨q0, q1, _⟩ := (EE.out.tri _ _ _ SC.out.1).ncells HN.out
   rw [← KL.out] at q0
   rw [← KR.out] at q1
   refine reg_tail 11 (by kernel_rfl) (by kernel_rfl) ?_
   simp only [List.take_succ_cons, List.take_zero, List.drop_succ_cons, List.drop_zero]
   repeat still_step
   refine wpStill_nil ?_
   go_wp2_with fail
   have SD := jh (SC.out.belowN EE.out (Below.refl _ _).drew)
   refine (IH0.out _ _ _ SD.out.1 (lnS_1 N1.out)).mono ?_
   rintro e w5 ⟨rfl, I5, K5⟩
   have SC := jh (SD.out.step I5 K5)
   clear I5 K5 SD q0 q1 h0 h1
   obtain ⟨⟨L2, c2⟩, h2⟩ : ∃ r, r = runL cont L1 (goP S d A (i + 1)) := ⟨_, rfl⟩
   rw [← h2] at SC ⊢
   have H2 := jh h2
   clear h2
   cases c2
   ·go_wp2_with fail
    go_ret
    exact SC.out.doneN EE.out (by rw [GO.out, GR.out, runL_append, ← H2.out]; rfl)
   go_wp2_with fail
   rw [rounds_succ]
   have c0 := SC.out.2.1
   have c1 := SC.out.2.2.1
   go_wp2_with fail
   refine (HF1.out _).mono ?_
   rintro e w3 ⟨rfl, hb⟩
   have SC := jh (SC.out.belowN EE.out hb)
   clear hb c0 c1
   go_wp2_with fail
   obtain ⟨W4, hW4, h0, h1, hb4⟩ := box2 w3 (.int .u32 B) (.int .i64 ((i : Int) + 1)) 53
   rw [← hW4]; clear hW4
   have SC := jh (SC.out.belowN EE.out hb4)
   clear hb4
   obtain ⟨q0, q1, _⟩ := (EE.out.tri _ _ _ SC.out.1).ncells HN.out
   rw [← KL.out] at q0
   rw [← KR.out] at q1
   refine reg_tail 11 (by kernel_rfl) (by kernel_rfl) ?_
   simp only [List.take_succ_cons, List.take_zero, List.drop_succ_cons, List.drop_zero]
   repeat still_step
   refine wpStill_nil ?_
   go_wp2_with fail
   have SD := jh (SC.out.belowN EE.out (Below.refl _ _).drew)
   refine (IH1.out _ _ _ SD.out.1 (lnS_2 N1.out H2.out)).mono ?_
   rintro e w5 ⟨rfl, I5, K5⟩
   have SC := jh (SD.out.step I5 K5)
   clear I5 K5 SD q0 q1 h0 h1
   obtain ⟨⟨L3, c3⟩, h3⟩ : ∃ r, r = runL cont L2 (goP S d B (i + 1)) := ⟨_, rfl⟩
   rw [← h3] at SC ⊢
   have H3 := jh h3
   clear h3
   cases c3
   ·go_wp2_with fail
    go_ret
    exact SC.out.doneN EE.out (by rw [GO.out, GR.out, runL_append, ← H2.out]; exact H3.out.symm)
   go_wp2_with fail
   rw [rounds_succ]
   go_wp2_with fail
   go_ret
   exact SC.out.doneN EE.out (by rw [GO.out, GR.out, runL_append, ← H2.out]; exact H3.out.symm)
theorem trI_walkN (E : EachOkN tb N S most g lb cont Inv) : ∀ (d A i : Nat) (L : List Itm) (P : Nat → Prop) (w : World), i + d = 32 → A < 4294967296 → rightB A i = true → Inv P L w → Ln d L →
  Calls Tryz.prog 169 #[ptrN (N (keyN A i)), .agg #[.int .u32 A, .int .i64 i], .func (.func g) #[] lb] w (WalkPost cont Inv P w (runL cont L (goP S d A i)))
 | 0, A, i, L, P, w, hi, ha, hR, hI, hLn => by
  obtain rfl : i = 32 := by omega
  cases hn : N (keyN A 32) with
  | none => exact walk_nilN E 0 A 32 L P w rfl (right_mod.1 hR).1 hI hn
  | some b => exact walk_0N E A 32 rfl L P w ha hR hI hLn hn
 | d + 1, A, i, L, P, w, hi, ha, hR, hI, hLn => by
  cases hn : N (keyN A i) with
  | none => exact walk_nilN E (d + 1) A i L P w hi (right_mod.1 hR).1 hI hn
  | some b => exact walk_SN E d A i hi (trI_walkN E d) L P w ha hR hI hLn hn
theorem ln_less {d k : Nat} {L : List Itm} (h : Ln d L) (hk : k ≤ d) : Ln k L := by
 unfold Ln at h ⊢
 have : 2 ^ (k + 1) ≤ 2 ^ (d + 1) := Nat.pow_le_pow_right (by decide) (by omega)
 omega
set_option maxHeartbeats 1600000 in
set_option maxRecDepth 100000 in
theorem trI_BelowN (E : EachOkN tb N S most g lb cont Inv) (A i : Nat) (L : List Itm) (P : Nat → Prop) (w : World) (ha : A < 4294967296) (hR : rightB A i = true) (hI : Inv P L w) (hLn : Ln 32 L) :
  Calls Tryz.prog 132 #[.pointer (some ⟨tb, 0, none⟩), .agg #[.int .u32 A, .int .i64 i], .func (.func g) #[] lb] w (BelowPost Inv P w (runL cont L (goP S (32 - i) A i)).1) := by
 have hi := (right_mod.1 hR).2
 have EE := jh E
 have HI := jh hI
 have FD := jh (fun W h => trI_find (tb := tb) (N := N) (S := S) (most := most) A i W h ha hR)
 have WK := jh (fun P W h => trI_walkN E (32 - i) A i L P W (by omega) ha hR h (ln_less hLn (by omega)))
 clear E hI
 have nf := fun W => neq_func g lb W
 go_enter Tryz.func132, Tryz.ntmps132
 go_wp2_with fail
 obtain ⟨W0, hW0, c0, c1, hB⟩ := box2 w (.int .u32 A) (.int .i64 i) 53
 have hz : W0.heap.size = w.heap.size + 1 := by rw [hW0]; simp
 rw [← hW0]; clear hW0
 have S0 : Hid (WSt Inv P w A i L W0) := jh ⟨EE.out.stab _ _ _ _ _ HI.out hB (fun b h => h.imp_right (fun e => by omega)), c0, c1, Kept.of_below hB⟩
 clear hz
 have SD : Hid (WSt Inv P w A i L W0.drew) := jh (S0.out.belowN EE.out (Below.refl _ _).drew)
 go_region_with (first
  | (go_at_call 136; refine (FD.out _ (EE.out.tri _ _ _ SD.out.1)).mono ?_; rintro e w1 ⟨rfl, hb⟩; have S1 := jh (SD.out.belowN EE.out hb); have c0 := S1.out.2.1; have c1 := S1.out.2.2.1)
  | (go_at_call 169; refine (WK.out _ _ S1.out.1).mono ?_; rintro e w2 ⟨rfl, I2, K2⟩; have SE := jh (S1.out.step I2 K2)))
 all_goals
  go_wp2_with fail
  go_end0
  exact ⟨rfl, EE.out.stab _ _ _ _ _ SE.out.1 (Below.refl _ _) (fun _ h => .inl (.inl h)), SE.out.2.2.2⟩
set_option maxHeartbeats 1600000 in
set_option maxRecDepth 100000 in
theorem trI_AllN (E : EachOkN tb N S most g lb cont Inv) (L : List Itm) (P : Nat → Prop) (w : World) (hI : Inv P L w) (hLn : Ln 32 L) :
  Calls Tryz.prog 88 #[.pointer (some ⟨tb, 0, none⟩), .func (.func g) #[] lb] w (BelowPost Inv P w (runL cont L (goP S 32 0 0)).1) := by
 have BL := jh (trI_BelowN E 0 0 L P w (by decide) (by decide +kernel) hI hLn)
 go_enter Tryz.func88, Tryz.ntmps88
 go_wp2_with fail
 refine BL.out.mono ?_
 rintro e w1 ⟨rfl, I1, K1⟩
 have J1 := jh (And.intro I1 K1)
 clear I1 K1
 go_wp2_with fail
 go_end0
 exact ⟨rfl, J1.out.1, J1.out.2⟩
end
open Go.RowKit
section
variable {P : Program} {ops : Array Oper} {Q : Exit → Act → World → Prop} {md : Region.Mode} {S : World → Prop}
theorem rg_call3 {i j k : Nat} {oi oj ok : Oper} {fuel : Nat} {listed : Array Bool} {a : Act} {w : World} (hi : ops[i]? = some oi) (hj : ops[j]? = some oj) (hk : ops[k]? = some ok)
  (hr : Region.ready md ops listed = [i, j, k]) (hw : Region.wanted oi (yielded ops a.tmps) = true) (hv : Region.wanted oj (yielded ops a.tmps) = true) (hu : Region.wanted ok (yielded ops a.tmps) = true)
  (h : ∀ K' : Act → World → Prop, Shut (∀ a w, S w → (S w → wpAnyH P md ops Q S fuel (listed.setIfInBounds i true) a w) → K' a w) → Oper.wp P oi a w K' Q)
  (h2 : ∀ K' : Act → World → Prop, Shut (∀ a w, S w → (S w → wpAnyH P md ops Q S fuel (listed.setIfInBounds j true) a w) → K' a w) → Oper.wp P oj a w K' Q)
  (h3 : ∀ K' : Act → World → Prop, Shut (∀ a w, S w → (S w → wpAnyH P md ops Q S fuel (listed.setIfInBounds k true) a w) → K' a w) → Oper.wp P ok a w K' Q) : wpAnyH P md ops Q S (fuel + 1) listed a w :=
 wpAnyH_ready (rs := [i, j, k]) hr (by simp) (AllReadyH.cons hi (fun K hK => by rw [if_pos hw]; exact h K hK) (AllReadyH.cons hj (fun K hK => by rw [if_pos hv]; exact h2 K hK) (AllReadyH.cons hk (fun K hK => by rw [if_pos hu]; exact h3 K hK) AllReadyH.nil)))
end
open Go.RowKit Go.Lib
structure RE where
 p : Pf
 a : At
 v : AV
 lo : Nat
 hi : Nat
def rtL (peer : Int) (x : RE) : List Value := (rtC peer x.p x.v).toList
theorem rtL_len (peer : Int) (x : RE) : (rtL peer x).length = 13 := rfl
theorem rtL_one (peer : Int) (x : RE) : ∀ u ∈ rtL peer x, u.oneCell' = true := by
 intro u hu
 have := rt_one peer x.p x.v
 rw [Array.all_eq_true_iff_forall_mem] at this
 exact this u (by simpa [rtL] using hu)
def itP (x : Itm) : Pf := ((x.1.1 : Int), (x.1.2 : Int))
structure REs (W : World) (lo : Nat) (peer : Int) (R : List (Pf × At)) (v : Value) (vs : List RE) : Prop where
 own : W.ownsRow lo 61 13 v vs.length (vs.flatMap (rtL peer))
 has : ∀ x ∈ vs, getL R x.p = some x.a ∧ OkP x.p
 ent : ∀ x ∈ vs, lo ≤ x.lo ∧ x.hi ≤ W.heap.size ∧ On (fun k => x.lo ≤ k ∧ k < x.hi) W (fun W => AvU W x.a x.v)
 apt : ∀ x ∈ vs, ∀ g, v.ownBlock = some g → ¬ (x.lo ≤ g ∧ g < x.hi)
theorem REs.kept {W W' : World} {lo : Nat} {peer : Int} {R : List (Pf × At)} {v : Value} {vs : List RE} {G : Nat → Prop} (h : REs W lo peer R v vs) (hk : Kept G W W') (hG : ∀ k, G k → (∀ g, v.ownBlock = some g → k ≠ g) ∧ ∀ x ∈ vs, ¬ (x.lo ≤ k ∧ k < x.hi)) : REs W' lo peer R v vs :=
 ⟨((own_on h.own).kept hk fun k _ ho hg => (hG k hg).1 k ho rfl).self, h.has, fun x hx => ⟨(h.ent x hx).1, Nat.le_trans (h.ent x hx).2.1 hk.size, (h.ent x hx).2.2.kept hk fun k _ hF hg => (hG k hg).2 x hx hF⟩, h.apt⟩
theorem REs.below {W W' : World} {lo : Nat} {peer : Int} {R : List (Pf × At)} {v : Value} {vs : List RE} (h : REs W lo peer R v vs) (hb : Below W.heap.size W W') : REs W' lo peer R v vs := h.kept (G := fun _ => False) (Kept.of_below hb) fun _ h => h.elim
structure AI (w : World) (rb tb : Nat) (N : Nat → Option Nat) (E : List Ent) (peer own most : Int) (F : Nat → Prop) (ab rx : Nat) (P : Nat → Prop) (L : List Itm) (W : World) : Prop where
 bel : Below w.heap.size w W
 rib : RibIn W rb tb N E peer own most F
 rxc : W.cell? ⟨rx, 0, none⟩ = some (.pointer (some ⟨rb, 0, none⟩))
 lo : w.heap.size ≤ ab ∧ rx ≠ ab
 flt : ∀ k, F k → k < w.heap.size
 sl : ∃ v vs, W.heap[ab]? = some (.cells #[v] 57 (0, 0)) ∧ REs W w.heap.size peer (rts E) v vs ∧ vs.map (·.p) = L.map itP ∧ (∀ x ∈ vs, ¬ (x.lo ≤ ab ∧ ab < x.hi)) ∧ (∀ g, v.ownBlock = some g → ¬ P g ∧ g ≠ ab ∧ g ≠ rx)
 pab : ¬ P ab
 prx : w.heap.size ≤ rx
 plt : ∀ b, P b → b < W.heap.size
section
variable {w W W' : World} {rb tb : Nat} {N : Nat → Option Nat} {E : List Ent} {peer own most : Int} {F P : Nat → Prop} {ab rx : Nat} {L : List Itm}
theorem AI.stab {P' : Nat → Prop} (h : AI w rb tb N E peer own most F ab rx P L W) (hb : Below W.heap.size W W') (hP : ∀ b, P' b → P b ∨ (W.heap.size ≤ b ∧ b < W'.heap.size)) : AI w rb tb N E peer own most F ab rx P' L W' := by
 obtain ⟨v, vs, h1, h2, h3, h4, h5⟩ := h.sl
 refine ⟨jC h.bel hb, h.rib.below hb, jA h.rxc hb, h.lo, h.flt, ⟨v, vs, (hb.block _ (jE h1)).trans h1, h2.below hb, h3, h4, fun g hg => ⟨fun hp => ?_, (h5 g hg).2⟩⟩, fun hp => ?_, h.prx, fun b hp => ?_⟩
 ·rcases hP g hp with hp | hp
  ·exact (h5 g hg).1 hp
  ·have := own_lt h2.own g hg; omega
 ·rcases hP ab hp with hp | hp
  ·exact h.pab hp
  ·have := jE h1; omega
 ·rcases hP b hp with hp | hp
  ·exact Nat.lt_of_lt_of_le (h.plt b hp) hb.size
  ·exact hp.2
theorem AI.step {w1 w2 w3 : World} {v0 v3 : Value} {vs : List RE} {p : Pf} {a : At} {u : AV} {lo : Nat} {it : Itm} (h : AI w rb tb N E peer own most F ab rx P L W) (hab : W.heap[ab]? = some (.cells #[v0] 57 (0, 0))) (hre : REs W w.heap.size peer (rts E) v0 vs) (hmp : vs.map (·.p) = L.map itP)
  (hpx : ∀ x ∈ vs, ¬ (x.lo ≤ ab ∧ ab < x.hi)) (hog : ∀ g, v0.ownBlock = some g → ¬ P g ∧ g ≠ ab ∧ g ≠ rx) (hp : itP it = p) (hgt : getL (rts E) p = some a) (hok : OkP p) (b01 : Below W.heap.size W w1) (hlo : W.heap.size ≤ lo) (fr : Fresh lo w1 (fun W => AvU W a u)) (b12 : Below w1.heap.size w1 w2)
  (h2 : w3.ownsRow w.heap.size 61 13 v3 (vs.length + 1) (vs.flatMap (rtL peer) ++ (rtC peer p u).toList)) (hk3 : Kept (fun k => v0.ownBlock = some k) w2 w3) (hat : v3.ownBlock = v0.ownBlock ∨ v3.ownBlock = some w2.heap.size) :
  AI w rb tb N E peer own most F ab rx P (L ++ [it]) (w3.setCell ⟨ab, 0, none⟩ v3) ∧ Kept (fun b => ¬ P b) W (w3.setCell ⟨ab, 0, none⟩ v3) := by
 have hablt := jE hab
 have o0 := own_lt hre.own
 have o1 := jJ hre.own
 have s1 := b01.size
 have s2 := b12.size
 have ws := h.bel.size
 have b02 := jC b01 b12
 have Kt : Kept (fun k => k = ab ∨ v0.ownBlock = some k) W (w3.setCell ⟨ab, 0, none⟩ v3) := (((Kept.of_below b02).trans (hk3.imp fun k hk => .inr hk)).put _ _ (.inl (.inl rfl)))
 have K1 : Kept (fun k => k = ab ∨ v0.ownBlock = some k) w1 (w3.setCell ⟨ab, 0, none⟩ v3) := (((Kept.of_below b12).trans (hk3.imp fun k hk => .inr hk)).put _ _ (.inl (.inl rfl)))
 have n3 : ∀ g, v3.ownBlock = some g → (v0.ownBlock = some g) ∨ g = w2.heap.size := fun g hg => by
  rcases hat with e | e
  ·exact .inl (e ▸ hg)
  ·rw [e] at hg; exact .inr (Option.some.inj hg).symm
 have n3ab : ∀ g, v3.ownBlock = some g → g ≠ ab := fun g hg e => by
  rcases n3 g hg with h1 | h1
  ·exact (hog g h1).2.1 e
  ·omega
 have hrow : w3.heap[ab]? = some (.cells #[v0] 57 (0, 0)) := (hk3.block ab (by omega) (fun h => (hog ab h).2.1 rfl)).trans ((b02.block ab hablt).trans hab)
 refine ⟨⟨h.bel.trans (Kt.below ws fun k hk => ?_), h.rib.kept Kt fun k hl hF hG => ?_, Kt.cell h.rxc fun hG => ?_, h.lo, h.flt, ⟨v3, vs ++ [⟨p, a, u, lo, w1.heap.size⟩], ?_, ⟨?_, ?_, ?_, ?_⟩, ?_, ?_, ?_⟩, h.pab, h.prx, fun b hb => Nat.lt_of_lt_of_le (h.plt b hb) Kt.size⟩, Kt.imp fun k hk hp => ?_⟩
 ·rcases hk with rfl | hk
  ·exact h.lo.1
  ·exact o1 k hk
 ·have := h.flt k hF
  have := h.lo.1
  rcases hG with rfl | hG
  ·omega
  ·have := o1 k hG; omega
 ·rcases hG with hG | hG
  ·exact h.lo.2 hG
  ·exact (hog _ hG).2.2 rfl
 ·rw [jO hrow]; rfl
 ·have e1 : (vs ++ [⟨p, a, u, lo, w1.heap.size⟩] : List RE).flatMap (rtL peer) = vs.flatMap (rtL peer) ++ (rtC peer p u).toList := by rw [List.flatMap_append]; simp [rtL]
  have e2 : (vs ++ [⟨p, a, u, lo, w1.heap.size⟩] : List RE).length = vs.length + 1 := by simp
  rw [e1, e2]
  exact ((own_on h2).kept (Kept.setCell (F := fun k => k = ab) _ _ rfl) fun k _ ho e => n3ab k ho e).self
 ·intro x hx
  rcases List.mem_append.1 hx with hx | hx
  ·exact hre.has x hx
  ·simp at hx; subst hx; exact ⟨hgt, hok⟩
 ·intro x hx
  rcases List.mem_append.1 hx with hx | hx
  ·obtain ⟨e1, e2, e3⟩ := hre.ent x hx
   exact ⟨e1, Nat.le_trans e2 Kt.size, e3.kept Kt fun k _ hF hG => by
    rcases hG with rfl | hG
    ·exact hpx x hx hF
    ·exact hre.apt x hx k hG hF⟩
  ·simp at hx; subst hx
   refine ⟨by simp only; omega, K1.size, (fr.wide fun k hk hl => ⟨hk, hl⟩).kept K1 fun k _ hF hG => ?_⟩
   simp only at hF
   rcases hG with rfl | hG
   ·omega
   ·have := o0 k hG; omega
 ·intro x hx g hg hF
  rcases List.mem_append.1 hx with hx | hx
  ·rcases n3 g hg with h1 | h1
   ·exact hre.apt x hx g h1 hF
   ·have := (hre.ent x hx).2.1; omega
  ·simp at hx; subst hx
   simp only at hF
   rcases n3 g hg with h1 | h1
   ·have := o0 g h1; omega
   ·omega
 ·rw [List.map_append, List.map_append, hmp]; simp [hp]
 ·intro x hx hF
  rcases List.mem_append.1 hx with hx | hx
  ·exact hpx x hx hF
  ·simp at hx; subst hx; simp only at hF; omega
 ·intro g hg
  rcases n3 g hg with h1 | h1
  ·exact hog g h1
  ·subst h1
   refine ⟨fun hp => ?_, by omega, fun e => ?_⟩
   ·have := h.plt _ hp; omega
   ·have := jH h.rxc; omega
 ·rcases hk with rfl | hk
  ·exact h.pab hp
  ·exact (hog k hk).1 hp
end
section
variable {P : Program} {w : World}
theorem wp_append_at {o : Oper} {a : Act} {K : Act → World → Prop} {Q : Exit → Act → World → Prop} (s x : Operand) (t : TypeId)
  (ho : o.op = .call { callee := .builtin .append, args := #[s, x], argTypes := #[t, t] })
  (base : Nat) (e : TypeId) (i : TypeInfo) (z : Value) (size bytes : Nat) (ht : P.underlying t = some (.slice e)) (hi : P.info? e = some i) (hz : i.zero = some z)
  (hsize : i.size = size) (hby : i.bytes = bytes) (hzs : z.cells.size = size) (hsz : 0 < size)
  (v : Value) (n : Nat) (xs : List Value) (hs : a.eval s = v) (hown : w.ownsRow base e size v n xs)
  (ad : Addr) (m c : Nat) (news : List Value) (hx : a.eval x = .slice (some ad) m c) (hl : news.length = m * size) (hnews : ∀ j u, news[j]? = some u → w.cell? (ad.add j) = some u) (h1 : ∀ u ∈ news, u.oneCell' = true)
  (h63 : n + m ≤ maxLen) (hbytes : (n + m) * bytes ≤ 140737488355328) (hbase : base ≤ w.heap.size)
  (h : ∀ v' w', w'.ownsRow base e size v' (n + m) (xs ++ news) → w.grownBy w' v.ownBlock → (v'.ownBlock = v.ownBlock ∨ v'.ownBlock = some w.heap.size) → K (a.put o.dst v') w') : o.wp P a w K Q := by
 obtain ⟨v', w', hr, h2, h3, _, h5⟩ := run_append_own_at (P := P) w base t o.type e i z size bytes ht hi hz hsize hby hzs hsz v n xs hown ad m c news hl hnews h1 h63 hbytes hbase
 unfold Oper.wp execOp
 simp only [ho, resolve, invoke, builtin, Sem.run_bind, Sem.run_pure, Result.andThen_ok, List.map_toArray, List.map_cons, List.map_nil, hs, hx, hr]
 exact h v' w' h2 h3 h5
end
theorem info_route : (Tryz.prog.info? 61).map (fun i => (i.zero, i.size, i.bytes)) = some (some (.agg #[.int .i64 0, .int .u32 0, .int .i64 0, .int .i64 0, .int .i64 0, .slice none 0 0, .int .u32 0, .int .i64 0, .int .i64 0, .int .i64 0, .int .u32 0, .slice none 0 0, .slice none 0 0]), 13, 152) := by kernel_rfl
theorem rt_one_k {W : World} {q : World → Prop} {peer : Int} {p : Pf} {v : AV} (h : ∀ w1 : World, (∀ (j : Nat) (c : Value), ((rtC peer p v).toList)[j]? = some c → w1.cell? ((⟨W.heap.size, 0, none⟩ : Addr).add j) = some c) → Below W.heap.size W w1 → q w1) : q (W.alloc (.cells (rtC peer p v) 61)) :=
 h _ (new_cells W _ _) ((Below.refl _ _).alloc (Nat.le_refl _) _)
theorem item_ent {E : List Ent} (hE : ∀ e ∈ E, RgtP e.p) {A i : Nat} {v : AV} (hA : A < 4294967296) (hR : rightB A i = true) (hg : getL (kvs E) (keyN A i) = some v) : ∃ e ∈ E, e.p = itP ((A, i), v) ∧ e.v = v ∧ getL (rts E) (itP ((A, i), v)) = some e.a := by
 have hp : RgtP ((A : Int), (i : Int)) := ⟨⟨by simp only; omega, by simp only; omega⟩, hR⟩
 have key := find_kvs hE hp
 have e1 : pKey ((A : Int), (i : Int)) = keyN A i := rfl
 rw [e1, hg] at key
 cases hf : findE E ((A : Int), (i : Int)) with
 | none => rw [hf] at key; cases key
 | some e =>
  rw [hf] at key
  obtain ⟨h1, h2⟩ := findE_mem hf
  refine ⟨e, h1, h2, (Option.some.inj key).symm, ?_⟩
  show getL (rts E) ((A : Int), (i : Int)) = _
  rw [find_rts, hf]; rfl
open Go.RowKit
structure CV where
 c : Cd
 v : AV
abbrev cvA (x : CV) : Array Value := #[.int .i64 x.c.peer, .int .u32 x.c.na, .int .i64 x.c.nl, .int .i64 x.v.has, .int .i64 x.v.origin, .slice x.v.ps x.v.pn x.v.pc, .int .u32 x.v.hop, .int .i64 x.v.med, .int .i64 x.v.loc, .int .i64 x.v.aggrAs, .int .u32 x.v.aggrId, .slice x.v.cs x.v.cn x.v.cc, .slice x.v.os x.v.on x.v.oc, .int .u32 x.c.id]
def cvL (x : CV) : List Value := (cvA x).toList
theorem cvL_len (x : CV) : (cvL x).length = 14 := rfl
theorem cv_one (x : CV) : (cvA x).all (·.oneCell') = true := by simp [Value.oneCell']
theorem cvL_one (x : CV) : ∀ u ∈ cvL x, u.oneCell' = true := by
 intro u hu
 have := cv_one x
 rw [Array.all_eq_true_iff_forall_mem] at this
 exact this u (by simpa [cvL] using hu)
def CvsAt (W : World) (v : Value) (xs : List CV) : Prop := SlAt W 14 (fun x cs => cs = cvL x) v xs ∧ ∀ x ∈ xs, AvAt W x.c.a x.v
def OkC (c : Cd) : Prop := I64r c.peer ∧ c.na < 4294967296 ∧ I64r c.nl ∧ c.id < 4294967296 ∧ GoodA c.a
theorem CvsAt.below {W W' : World} {v : Value} {xs : List CV} (h : CvsAt W v xs) (hb : Below W.heap.size W W') : CvsAt W' v xs := ⟨SlAt.below h.1 hb fun _ _ h => h, fun x hx => (h.2 x hx).below hb⟩
theorem cv_c {W : World} {x : CV} (h : AvAt W x.c.a x.v) (ho : OkC x.c) : CdC W x.c (cvL x) := by
 obtain ⟨ps, pc, cs, cc, os, oc, e, hl⟩ := h
 refine ⟨.slice ps x.c.a.path.length pc, .slice cs x.c.a.comms.length cc, .slice os x.c.a.others.length oc, ?_, ⟨ho.1, ho.2.1, ho.2.2.1, ho.2.2.2.2.rng, ho.2.2.2.1⟩, hl⟩
 obtain ⟨c, v⟩ := x
 simp only at e
 subst e
 rfl
theorem CvsAt.cds {W : World} {v : Value} {xs : List CV} (h : CvsAt W v xs) (ho : ∀ x ∈ xs, OkC x.c) : CdsAt W v (xs.map (·.c)) := by
 obtain ⟨⟨sa, cap, h1, h2, h3, h4⟩, hm⟩ := h
 refine ⟨sa, cap, by rw [List.length_map]; exact h1, by rw [List.length_map]; exact h2, h3, fun h0 => ?_⟩
 obtain ⟨b, off, h5, h6⟩ := h4 (by rwa [List.length_map] at h0)
 refine ⟨b, off, h5, fun i c hc => ?_⟩
 rw [List.getElem?_map] at hc
 cases hx : xs[i]? with
 | none => rw [hx] at hc; simp at hc
 | some x =>
  rw [hx] at hc
  simp at hc; subst hc
  obtain ⟨cs, g1, rfl, g3⟩ := h6 i x hx
  have hxm := List.mem_of_getElem? hx
  exact ⟨cvL x, g1, cv_c (hm x hxm) (ho x hxm), g3⟩
theorem cvs_at {W : World} {s : Option Addr} {n c : Nat} {xs : List CV} (h : CvsAt W (.slice s n c) xs) {i : Nat} {x : CV} (hx : xs[i]? = some x) : ∃ g o, s = some ⟨g, o, none⟩ ∧ W.rangeAt g (o + i * 14) (cvL x) ∧ AvAt W x.c.a x.v := by
 obtain ⟨⟨s', c', e, h1, h2, h3⟩, hm⟩ := h
 injection e with e _ _
 subst e
 have hi := (List.getElem?_eq_some_iff.1 hx).1
 obtain ⟨b, off, rfl, h4⟩ := h3 (by omega)
 obtain ⟨cs, -, rfl, hc⟩ := h4 i x hx
 exact ⟨b, off, rfl, fun j v hv => hc j v hv, hm x (List.mem_of_getElem? hx)⟩
structure OwnCv (w : World) (B : Nat) (v : Value) (xs : List CV) (A : Nat → Prop) : Prop where
 own : w.ownsRow B 99 14 v xs.length (xs.flatMap cvL)
 mem : On A w (fun W => ∀ x ∈ xs, AvAt W x.c.a x.v)
 lt : ∀ k, A k → B ≤ k ∧ k < w.heap.size
 apt : ∀ g, v.ownBlock = some g → ¬ A g
section
variable {w w1 w2 w3 : World} {B : Nat} {v : Value} {xs : List CV} {A : Nat → Prop}
theorem OwnCv.below (h : OwnCv w B v xs A) (hb : Below w.heap.size w w1) : OwnCv w1 B v xs A :=
 ⟨jQ h.own hb, h.mem.below hb, fun k hk => ⟨(h.lt k hk).1, Nat.lt_of_lt_of_le (h.lt k hk).2 hb.size⟩, h.apt⟩
theorem OwnCv.nil (w : World) (B : Nat) : OwnCv w B (.slice none 0 0) [] (fun _ => False) :=
 ⟨⟨by simp, .inl ⟨rfl, rfl⟩⟩, fun _ _ x hx => (by cases hx), fun _ h => h.elim, fun _ h => (by cases h)⟩
theorem OwnCv.at (h : OwnCv w B v xs A) : CvsAt w v xs := ⟨own_slat cvL_len h.own, h.mem.self⟩
theorem OwnCv.fresh (h : OwnCv w B v xs A) : Fresh B w (fun W => CvsAt W v xs) := by
 have h1 := own_fresh h.own
 have h2 : Fresh B w (fun W => ∀ x ∈ xs, AvAt W x.c.a x.v) := h.mem.wide fun k hk _ => (h.lt k hk).1
 exact (h1.and h2).imp fun W h => ⟨own_slat cvL_len h.1, h.2⟩
theorem OwnCv.step (h : OwnCv w B v xs A) {x : CV} {v' : Value} {lo : Nat} (b01 : Below w.heap.size w w1) (hlo : w.heap.size ≤ lo) (hB : B ≤ w.heap.size) (fr : Fresh lo w1 (fun W => AvAt W x.c.a x.v)) (b12 : Below w1.heap.size w1 w2)
  (h2 : w3.ownsRow B 99 14 v' (xs.length + 1) (xs.flatMap cvL ++ cvL x)) (hg : w2.grownBy w3 v.ownBlock) (hat : v'.ownBlock = v.ownBlock ∨ v'.ownBlock = some w2.heap.size) : OwnCv w3 B v' (xs ++ [x]) (fun k => A k ∨ (lo ≤ k ∧ k < w1.heap.size)) := by
 have hk : Kept (fun b => v.ownBlock = some b) w2 w3 := ⟨hg.os, hg.tape, hg.output, hg.size, fun k hk hF => hg.block k hk (fun e => hF e.symm)⟩
 have ol := own_lt h.own
 have s1 := b01.size
 have s2 := b12.size
 have s3 := hk.size
 refine ⟨?_, ?_, ?_, ?_⟩
 ·rw [List.length_append, List.flatMap_append]
  simpa using h2
 ·have m1 := ((h.mem.below (b01.trans (b12.mono s1))).kept hk fun k _ hA hg => h.apt k hg hA)
  have m2 := ((fr.below b12).kept hk fun k _ hl hg => by have := ol k hg; omega)
  refine ((m1.wide (G := fun k => A k ∨ (lo ≤ k ∧ k < w1.heap.size)) fun k hA _ => .inl hA).and (R := fun W => AvAt W x.c.a x.v) ?_).imp fun W h y hy => ?_
  ·intro W hW
   refine fr W fun k hk' hl => ?_
   have e1 := hW k (.inr ⟨hk', hl⟩) (by omega)
   exact e1.trans ((hk.block k (by omega) (fun hg => by have := ol k hg; omega)).trans (b12.block k hl))
  ·rcases List.mem_append.1 hy with hy | hy
   ·exact h.1 y hy
   ·simp at hy; subst hy; exact h.2
 ·rintro k (hk' | hk')
  ·have := h.lt k hk'; omega
  ·omega
 ·rintro g hg (hA | hA)
  ·rcases hat with e | e
   ·rw [e] at hg; exact h.apt g hg hA
   ·rw [e] at hg; injection hg with hg; have := (h.lt g hA).2; omega
  ·rcases hat with e | e
   ·rw [e] at hg; have := ol g hg; omega
   ·rw [e] at hg; injection hg with hg; omega
end
open Go.RowKit
def cvZ : CV := ⟨⟨0, 0, 0, ⟨0, 0, [], 0, 0, 0, 0, 0, [], []⟩, 0⟩, av0⟩
set_option maxRecDepth 100000 in
theorem info_cand : (Tryz.prog.info? 99).map (fun i => (i.zero, i.size, i.bytes)) = some (some (.agg (cvA cvZ)), 14, 160) := by kernel_rfl
theorem cv_built (peer : Int) (p : Pf) (v : AV) (n : Nat) (id : Nat) (a : At) (hp : p.1 = (n : Int)) : Tryz.prog.built 99 [(0, .agg (rtC peer p v)), (1, .int .u32 id)] = some (cvA ⟨⟨peer, n, p.2, a, id⟩, v⟩) := by
 obtain ⟨q, l⟩ := p
 simp only at hp
 subst hp
 kernel_rfl
theorem wp_cv1 {o : Oper} {a : Act} {w : World} {K : Act → World → Prop} {Q : Exit → Act → World → Prop} (x : Operand) (ho : o.op = .buildSlice 96 1 #[(0, x)]) (y : CV) (hx : a.eval x = .agg (cvA y))
  (h : ∀ w2 : World, (∀ (j : Nat) (u : Value), (cvL y)[j]? = some u → w2.cell? ((⟨w.heap.size, 0, none⟩ : Addr).add j) = some u) → Below w.heap.size w w2 → K (a.put o.dst (.slice (some ⟨w.heap.size, 0, none⟩) 1 1)) w2) : o.wp Tryz.prog a w K Q := by
 obtain ⟨i0, hii, hz0, hz1, hz2⟩ := info_parts info_cand
 refine wp_buildSlice 96 99 1 _ ho (cvA y) i0 _ Tryz.underlying96 hii hz0 (by rw [hz1]; decide) (by rw [hz1]; decide) ?_ (h _ (new_cells w _ _) ((Below.refl _ _).alloc (Nat.le_refl _) _))
 rw [hz1]
 simp only [List.map_toArray, List.map_cons, List.map_nil, hx]
 kernel_rfl
theorem box_zrt {W : World} {p : World → Prop} (h : ∀ w1 : World, w1.heap[W.heap.size]? = some (.cells (rtC 0 (0, 0) av0) 61 (0, 0)) → Below W.heap.size W w1 → p w1) : p (W.alloc (.cells #[.int .i64 0, .int .u32 0, .int .i64 0, .int .i64 0, .int .i64 0, .slice none 0 0, .int .u32 0, .int .i64 0, .int .i64 0, .int .i64 0, .int .u32 0, .slice none 0 0, .slice none 0 0] 61)) :=
 h _ (heap_alloc_new W _) ((Below.refl _ _).alloc (Nat.le_refl _) _)
section
variable {W : World} {rho : Nat → Role} {sb fb : Nat} {ls : List Pl} {S : Sv}
theorem SrvM.pf (h : SrvM W rho sb fb ls S) {i : Nat} {m : Pm} (hm : S.ms[i]? = some m) {p : Pf} {a : At} (hp : getL m.R p = some a) : RgtP p ∧ GoodA a := by
 obtain ⟨l, -, hM⟩ := h.get hm
 refine ⟨?_, hM.good p a hp⟩
 obtain ⟨tb, N, E, hI, he⟩ := hM.rib
 rw [he, find_rts] at hp
 cases hf : findE E p with
 | none => rw [hf] at hp; cases hp
 | some e =>
  obtain ⟨h1, rfl⟩ := findE_mem hf
  exact hI.rgt e h1
theorem SrvM.saidOk (h : SrvM W rho sb fb ls S) {p : Pf} : ∀ c ∈ saidS S.ms p, OkC c := by
 intro c hc
 obtain ⟨k, m, a, hm, hg, rfl⟩ := saidS_mem hc
 obtain ⟨hr, hga⟩ := h.pf hm hg
 obtain ⟨l, -, hM⟩ := h.get hm
 have hk := (List.getElem?_eq_some_iff.1 hm).1
 have few := h.bod.few
 obtain ⟨x, n, rfl, hx, hn, -⟩ := hr.nat
 refine ⟨?_, ?_, ?_, hM.ids.2, hga⟩
 ·unfold cdOf I64r; simp only; omega
 ·unfold cdOf; simp only; omega
 ·unfold cdOf I64r; simp only; omega
end
end Go.Proofs.YtkoidahgbbabiaaGreat
