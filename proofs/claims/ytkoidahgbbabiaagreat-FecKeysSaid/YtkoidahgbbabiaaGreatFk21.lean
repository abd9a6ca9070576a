/- Texts of one proof, one behind another. -/
import Derived.Test.YtkoidahgbbabiaaGreatFk19
import Derived.Test.YtkoidahgbbabiaaGreatFk9
import Derived.Test.YtkoidahgbbabiaaGreatFk20
import Derived.Test.YtkoidahgbbabiaaGreatFk18
import Derived.Test.YtkoidahgbbabiaaGreatFk5
import Derived.Lib.SliceRun
import Derived.Test.YtkoidahgbbabiaaGreatFk4
import Derived.Test.YtkoidahgbbabiaaGreatFk8
import Derived.Test.YtkoidahgbbabiaaGreatFk1
namespace Go.Proofs.YtkoidahgbbabiaaGreat
open Go.RowKit
def sdsN (n : Nat) : List Sd := (List.range n).map fun (i : Nat) => (((65001 + (i : Int)), i + 1) : Sd)
theorem sdsN_len (n : Nat) : (sdsN n).length = n := by simp [sdsN]
theorem sdsN_succ (n : Nat) : sdsN (n + 1) = sdsN n ++ [((65001 + (n : Int)), n + 1)] := by simp [sdsN, List.range_succ]
theorem sdsN_get {n i : Nat} (h : i < n) : (sdsN n)[i]? = some ((65001 + (i : Int)), i + 1) := by simp [sdsN, h]
theorem info_side : (Tryz.prog.info? 75).map (fun i => (i.zero, i.size, i.bytes)) = some (some (.agg #[.int .i64 0, .int .u32 0]), 2, 16) := by kernel_rfl
theorem sd_one (x : Sd) : ∀ u ∈ sdL x, u.oneCell' = true := by
 intro u hu
 unfold sdL at hu
 simp at hu
 rcases hu with rfl | rfl <;> rfl
set_option maxHeartbeats 1600000 in
set_option maxRecDepth 100000 in
theorem l_sides21 (n : Nat) (hn : n ≤ 16) (w : World) : Calls Tryz.prog 106 #[.int .i64 n] w fun e w' => ∃ (s : Option Addr) (c : Nat), e = .returned (.slice s n c) ∧ w'.ownsRow w.heap.size 75 2 (.slice s n c) n ((sdsN n).flatMap sdL) ∧ Below w.heap.size w w' := by
 obtain ⟨i0, hii, hz0, hz1, hz2⟩ := info_parts info_side
 have O0 : Hid ((w.alloc (.cells #[] 75)).ownsRow w.heap.size 75 2 (.slice (some ⟨w.heap.size, 0, none⟩) 0 0) 0 ((sdsN 0).flatMap sdL)) := zh (own_empty (Nat.le_refl _))
 have B0 : Hid (Below w.heap.size w (w.alloc (.cells #[] 75))) := zh ((Below.refl _ _).alloc (Nat.le_refl _) _)
 go_enter Tryz.func106, Tryz.ntmps106
 go_wp2_with fail
 go_loopw [3, 4] (fun t3 t4 wr => ∃ (k : Nat) (s : Option Addr) (c : Nat), k ≤ n ∧ t4 = .int .i64 k ∧ t3 = .slice s k c ∧ Hid (wr.ownsRow w.heap.size 75 2 (.slice s k c) k ((sdsN k).flatMap sdL)) ∧ Hid (Below w.heap.size w wr)) (fun _ t4 _ => n - (intOf t4).toNat)
 case atStart => exact ⟨0, _, 0, by omega, rfl, rfl, O0, B0⟩
 case round =>
  clear O0 B0
  obtain ⟨k, s, c, hk, rfl, rfl, OW, BV⟩ := hrel
  by_cases hkn : k < n
  ·have d0 : decide ((k : Int) < (n : Int)) = true := by simp; omega
   have z1 : IntKind.i64.wrap ((65001 : Int) + (k : Int)) = 65001 + (k : Int) := by rw [IntWalk.i64_in _ (by omega)]
   have z2 : IntKind.i64.wrap ((k : Int) + 1) = (k : Int) + 1 := by rw [IntWalk.i64_in _ (by omega)]
   have z3 : IntKind.u32.wrap ((k : Int) + 1) = (k : Int) + 1 := by unfold IntKind.wrap IntKind.bits IntKind.signed; simp; omega
   obtain ⟨ab, hab⟩ : ∃ ab, ab = wr.heap.size := ⟨_, rfl⟩
   have hal : Below wr.heap.size wr (wr.alloc (.cells #[.int .i64 (65001 + (k : Int)), .int .u32 ((k : Int) + 1)] 75)) := (Below.refl _ _).alloc (Nat.le_refl _) _
   have OA := zh (zQ OW.out hal)
   have NC := zh (new_cells wr #[.int .i64 (65001 + (k : Int)), .int .u32 ((k : Int) + 1)] 75)
   have BA := zh (zC BV.out hal)
   clear hal OW BV hab
   go_wp2_with (at_builtin; refine wpList_append_own_at _ rfl _ _ 29 rfl w.heap.size 75 i0 _ 2 16 Tryz.underlying29 hii hz0 hz1 hz2 rfl (by decide) (.slice s k c) k ((sdsN k).flatMap sdL) rfl OA.out ⟨wr.heap.size, 0, none⟩ 1 1 [.int .i64 (65001 + (k : Int)), .int .u32 ((k : Int) + 1)] rfl rfl NC.out (sd_one (65001 + (k : Int), k + 1)) (by unfold maxLen; omega) (by omega) (by have := BA.out.size; omega) ?_)
   intro v3 w5 h2 h3 _ hat
   obtain ⟨s3, c3, hv3, -⟩ := zV h2
   subst hv3
   have O3 : Hid (w5.ownsRow w.heap.size 75 2 (.slice s3 (k + 1) c3) (k + 1) ((sdsN (k + 1)).flatMap sdL)) := zh (by rw [sdsN_succ, List.flatMap_append]; exact h2)
   have B3 : Hid (Below w.heap.size w w5) := zh (BA.out.trans ((kept_gr h3).below BA.out.size fun g hg => zJ OA.out g hg))
   clear h2 h3 hat OA NC BA
   go_wp2_with fail
   exact ⟨⟨k + 1, s3, c3, by omega, by go_num, rfl, O3, B3⟩, by simp [intOf]; omega⟩
  ·obtain rfl : k = n := by omega
   have d0 : decide ((k : Int) < (k : Int)) = false := by simp
   have O1 := zh OW.out
   have B1 := zh BV.out
   clear OW BV
   go_wp2_with fail
   go_ret
   exact ⟨s, c, rfl, O1.out, B1.out⟩
def netP (n : Nat) : Pf := ((n * 16777216 : Nat), 8)
theorem netP_ok {n : Nat} (h : n < 256) : OkP (netP n) := by unfold netP OkP; simp only; omega
set_option maxHeartbeats 400000 in
theorem l_net21 (n : Nat) (h : n < 256) (w : World) : Calls Tryz.prog 49 #[.int .i64 n] w fun e w' => e = .returned (.agg #[.int .u32 (netP n).1, .int .i64 (netP n).2]) ∧ Below w.heap.size w w' := by
 have z1 : IntKind.u32.wrap (n : Int) = n := by unfold IntKind.wrap IntKind.bits IntKind.signed; simp; omega
 go_enter Tryz.func49, Tryz.ntmps49
 go_wp2_with fail
 exact bodyPost_ret (v := .agg #[.int .u32 ((n : Int) * 16777216), .int .i64 8]) (by simp [results, Tryz.results49, go_sem]) rfl ⟨by unfold netP; simp, (Below.refl _ _).alloc (Nat.le_refl _) _⟩
def hopL (n : Nat) : List Int := (List.range n).map fun (i : Nat) => (100 : Int) + (i : Int)
def atP (n : Nat) : At := ⟨14, 0, [(false, hopL n)], 167772161, 0, 0, 0, 0, [], []⟩
open Go.RowKit
structure LSv (w W : World) (rho : Nat → Role) (sb fb : Nat) (ls : List Pl) (A : Ab) : Prop where
 srv : ∃ S, SrvM W rho sb fb ls S ∧ IsAb S A
 low : ∀ k, rho k ≠ .no → w.heap.size ≤ k
 bel : Below w.heap.size w W
section
variable {w W W' : World} {rho rho' : Nat → Role} {sb fb : Nat} {ls : List Pl} {A A' : Ab}
theorem LSv.step (h : LSv w W rho sb fb ls A) {S' : Sv} (hs : SrvM W' rho' sb fb ls S') (ha : IsAb S' A') (st : Step rho rho' W W') : LSv w W' rho' sb fb ls A' :=
 ⟨⟨S', hs, ha⟩, fun k hk => by
  have hb := h.bel.size
  by_cases hl : k < W.heap.size
  ·rw [st.same k hl] at hk; exact h.low k hk
  ·omega, h.bel.trans (st.kept.below h.bel.size h.low)⟩
theorem LSv.below (h : LSv w W rho sb fb ls A) (hb : Below W.heap.size W W') : LSv w W' rho sb fb ls A := by
 obtain ⟨S, h1, h2⟩ := h.srv
 exact h.step (h1.below hb) h2 (Step.below hb)
theorem LSv.out {G : Nat → Prop} (h : LSv w W rho sb fb ls A) (hk : Kept G W W') (hG : ∀ k, G k → rho k = .no) (hw : ∀ k, G k → w.heap.size ≤ k) : LSv w W' rho sb fb ls A := by
 obtain ⟨S, h1, h2⟩ := h.srv
 exact ⟨⟨S, h1.out (hk.imp hG), h2⟩, h.low, h.bel.trans (hk.below h.bel.size hw)⟩
theorem LSv.new (h : LSv w W rho sb fb ls A) {k : Nat} (hk : W.heap.size ≤ k) : rho k = .no := by
 obtain ⟨S, h1, -⟩ := h.srv
 exact h1.newNo hk
theorem LSv.old (h : LSv w W rho sb fb ls A) {k : Nat} (hk : k < w.heap.size) : rho k = .no := by
 cases hr : rho k with
 | no => rfl
 | _ => exact absurd (h.low k (by rw [hr]; intro e; cases e)) (by omega)
theorem LSv.few (h : LSv w W rho sb fb ls A) : A.V.length ≤ 16 := by
 obtain ⟨S, h1, h2⟩ := h.srv
 rw [← h2.len]; exact h1.bod.few
theorem LSv.handed {Q : World → Prop} (h : LSv w W rho sb fb ls A) (hq : On (fun k => k < w.heap.size) w Q) : On (fun k => rho k = .no) W Q := fun V hV =>
 hq V fun k hk _ => (hV k (h.old hk) (Nat.lt_of_lt_of_le hk h.bel.size)).trans (h.bel.block k hk)
theorem ls_New (own most : Int) (v : Value) (xs : List Sd) (w W : World) (hB : Below w.heap.size w W) (hxs : SdsAt W v xs) (hc : newCd own xs = 0) :
  Calls Tryz.prog 14 #[.int .i64 own, v, .int .i64 most] W fun e w' => ∃ (rho : Nat → Role) (sb fb : Nat) (ls : List Pl), e = .returned (.tuple #[.pointer (some ⟨sb, 0, none⟩), .int .i64 0]) ∧ LSv w w' rho sb fb ls (newA own most xs) ∧ (∀ k, rho k ≠ .no → W.heap.size ≤ k) ∧ Below W.heap.size W w' := by
 refine (sv_New own most v xs W hxs).mono ?_
 rintro e w' (⟨h0, -⟩ | ⟨-, rho, sb, fb, ls, rfl, hs, hl, hb⟩)
 ·exact absurd hc h0
 ·exact ⟨rho, sb, fb, ls, rfl, ⟨⟨_, hs, newA_is own most xs⟩, fun k hk => Nat.le_trans hB.size (hl k hk), zC hB hb⟩, hl, hb⟩
theorem ls_Join (h : LSv w W rho sb fb ls A) {i : Nat} (hi : i < A.V.length) (ht : A.th i = false) :
  Calls Tryz.prog 18 #[.pointer (some ⟨sb, 0, none⟩), .int .i64 i] W fun e w' => e = .returned (.int .i64 0) ∧ LSv w w' rho sb fb ls (A.join i) ∧ Step rho rho W w' := by
 obtain ⟨S, h1, h2⟩ := h.srv
 obtain ⟨m, hm⟩ := h2.at hi
 refine (sv_Join h1 hm ((h2.mem i m hm).1.trans ht)).mono ?_
 rintro e w' ⟨rfl, hs, st⟩
 exact ⟨rfl, h.step hs (h2.join hi) st, st⟩
def PsOn (rho : Nat → Role) (W : World) (s : Option Addr) (c : Nat) (L : List Pf) : Prop := On (fun k => rho k = .no) W fun W => PsAt W (.slice s L.length c) L
def Ab.updI (A : Ab) (n : Int) (kind : Int) (gone nets : List Pf) (a : At) : Ab := if (0 ≤ n ∧ n < (A.V.length : Int)) ∧ A.th n.toNat = true then A.upd n.toNat kind gone nets a else A
theorem ls_Update (h : LSv w W rho sb fb ls A) {i : Nat} (hi : i < A.V.length) (ht : A.th i = true) (x : Ms) (hx : On (fun k => rho k = .no) W (fun W => MsAt W x)) (hg : GoodA x.a) (hz : x.gone.length + x.nets.length ≤ 656) :
  Calls Tryz.prog 20 #[.pointer (some ⟨sb, 0, none⟩), .int .i64 i, x.m.V] W fun e w' => ∃ (rho' : Nat → Role) (s : Option Addr) (c : Nat), e = .returned (.tuple #[.slice s (A.updR i x.m.kind x.gone x.nets x.a).2.1.length c, .int .i64 (A.updR i x.m.kind x.gone x.nets x.a).1]) ∧
   LSv w w' rho' sb fb ls (A.upd i x.m.kind x.gone x.nets x.a) ∧ Step rho rho' W w' ∧ PsOn rho' w' s c (A.updR i x.m.kind x.gone x.nets x.a).2.1 := by
 obtain ⟨S, h1, h2⟩ := h.srv
 obtain ⟨m, hm⟩ := h2.at hi
 have e : updP S.own S.most m.R x.m.kind x.gone x.nets x.a = A.updR i x.m.kind x.gone x.nets x.a := by
  unfold Ab.updR
  rw [h2.own, h2.most, (h2.get hm).2]
 have hU := sv_Update h1 hm ((h2.mem i m hm).1.trans ht) x hx hg hz
 rw [e] at hU
 refine hU.mono ?_
 rintro e w' ⟨rho', v, rfl, hs, st, hp⟩
 obtain ⟨s, c, rfl, -⟩ := id hp.self
 exact ⟨rho', s, c, rfl, h.step hs (h2.upd hm ..) st, st, hp⟩
theorem ls_Update_off (h : LSv w W rho sb fb ls A) {i : Nat} (hi : i < A.V.length) (ht : A.th i = false) (x : MV) :
  Calls Tryz.prog 20 #[.pointer (some ⟨sb, 0, none⟩), .int .i64 i, x.V] W fun e w' => e = .returned (.tuple #[.slice none 0 0, .int .i64 7]) ∧ Below W.heap.size W w' := by
 obtain ⟨S, h1, h2⟩ := h.srv
 obtain ⟨m, hm⟩ := h2.at hi
 exact sv_Update_off h1 hm ((h2.mem i m hm).1.trans ht) x
theorem ls_Update_no (h : LSv w W rho sb fb ls A) {n : Int} (hn : ¬ (0 ≤ n ∧ n < (A.V.length : Int))) (x : MV) : Calls Tryz.prog 20 #[.pointer (some ⟨sb, 0, none⟩), .int .i64 n, x.V] W fun e w' => e = .returned (.tuple #[.slice none 0 0, .int .i64 1]) ∧ Below W.heap.size W w' := by
 obtain ⟨S, h1, h2⟩ := h.srv
 exact sv_Update_no h1 (by rw [h2.len]; exact hn) x
theorem ls_UpdateI (h : LSv w W rho sb fb ls A) (n : Int) (x : Ms) (hx : On (fun k => rho k = .no) W (fun W => MsAt W x)) (hg : GoodA x.a) (hz : x.gone.length + x.nets.length ≤ 656) :
  Calls Tryz.prog 20 #[.pointer (some ⟨sb, 0, none⟩), .int .i64 n, x.m.V] W fun e w' => ∃ (rho' : Nat → Role) (v : Value) (c : Int), e = .returned (.tuple #[v, .int .i64 c]) ∧ LSv w w' rho' sb fb ls (A.updI n x.m.kind x.gone x.nets x.a) ∧ Step rho rho' W w' := by
 by_cases hn : 0 ≤ n ∧ n < (A.V.length : Int)
 ·obtain ⟨i, rfl⟩ := Int.eq_ofNat_of_zero_le hn.1
  have hi : i < A.V.length := by omega
  cases ht : A.th i with
  | true =>
   refine (ls_Update h hi ht x hx hg hz).mono ?_
   rintro e w' ⟨rho', s, c, rfl, hl, st, -⟩
   refine ⟨rho', _, _, rfl, ?_, st⟩
   unfold Ab.updI
   rw [if_pos ⟨hn, by simpa using ht⟩]
   exact hl
  | false =>
   refine (ls_Update_off h hi ht x.m).mono ?_
   rintro e w' ⟨rfl, hb⟩
   refine ⟨rho, _, _, rfl, ?_, Step.below hb⟩
   unfold Ab.updI
   rw [if_neg (by rintro ⟨-, h2⟩; simp at h2; rw [ht] at h2; cases h2)]
   exact h.below hb
 ·refine (ls_Update_no h hn x.m).mono ?_
  rintro e w' ⟨rfl, hb⟩
  refine ⟨rho, _, _, rfl, ?_, Step.below hb⟩
  unfold Ab.updI
  rw [if_neg (fun h2 => hn h2.1)]
  exact h.below hb
theorem ls_Best (h : LSv w W rho sb fb ls A) {i : Nat} (hi : i < A.V.length) (p : Pf) (hp : KOk p) :
  Calls Tryz.prog 27 #[.pointer (some ⟨sb, 0, none⟩), .int .i64 i, .agg #[.int .u32 p.1, .int .i64 p.2]] W (BestPost (A.best i p) p W) := by
 obtain ⟨S, h1, h2⟩ := h.srv
 obtain ⟨m, hm⟩ := h2.at hi
 rw [← h2.best i p (by rw [h2.len]; exact hi)]
 exact sv_Best h1 hm p hp
end
open Go.RowKit
def OldOf (w V : World) : Prop := ∀ k, k < w.heap.size → V.heap[k]? = w.heap[k]?
theorem OldOf.cell {w V : World} (h : OldOf w V) {a : Addr} {c : Value} (hc : w.cell? a = some c) : V.cell? a = some c := by
 rw [World.cell?_of_block (h a.block (World.block_lt_of_cell? w a hc))]; exact hc
theorem slat_old {α : Type} {w V : World} {k : Nat} {R R' : α → List Value → Prop} {v : Value} {xs : List α} (h : SlAt w k R v xs) (ho : OldOf w V) (hR : ∀ x cs, R x cs → R' x cs) : SlAt V k R' v xs := by
 obtain ⟨sa, cap, h1, h2, h3, h4⟩ := h
 refine ⟨sa, cap, h1, h2, h3, fun h0 => ?_⟩
 obtain ⟨b, off, h5, h6⟩ := h4 h0
 refine ⟨b, off, h5, fun i x hx => ?_⟩
 obtain ⟨cs, c1, c2, c3⟩ := h6 i x hx
 exact ⟨cs, c1, hR _ _ c2, fun j c hc => ho.cell (c3 j c hc)⟩
theorem atl_old {w V : World} {a : At} {vp vc vo : Value} (h : AtL w a vp vc vo) (ho : OldOf w V) : AtL V a vp vc vo :=
 ⟨slat_old h.1 ho fun s cs hs => by obtain ⟨u, h1, h2⟩ := hs; exact ⟨u, h1, slat_old h2 ho fun _ _ h => h⟩, slat_old h.2.1 ho fun _ _ h => h, slat_old h.2.2 ho fun s cs hs => by obtain ⟨u, h1, h2, h3⟩ := hs; exact ⟨u, h1, h2, slat_old h3 ho fun _ _ h => h⟩⟩
theorem avat_old {w V : World} {a : At} {v : AV} (h : AvAt w a v) (ho : OldOf w V) : AvAt V a v := by
 obtain ⟨ps, pc, cs, cc, os, oc, rfl, h⟩ := h
 exact ⟨ps, pc, cs, cc, os, oc, rfl, atl_old h ho⟩
theorem msat_old {w V : World} {x : Ms} (h : MsAt w x) (ho : OldOf w V) : MsAt V x := ⟨slat_old h.gone ho fun _ _ h => h, slat_old h.nets ho fun _ _ h => h, avat_old h.a ho⟩
section
variable {w W : World} {rho : Nat → Role} {sb fb : Nat} {ls : List Pl} {A : Ab}
theorem LSv.oldOf (h : LSv w W rho sb fb ls A) {V : World} (hV : ∀ k, rho k = .no → k < W.heap.size → V.heap[k]? = W.heap[k]?) : OldOf w V := fun k hk => (hV k (h.old hk) (Nat.lt_of_lt_of_le hk h.bel.size)).trans (h.bel.block k hk)
theorem LSv.ms (h : LSv w W rho sb fb ls A) {x : Ms} (hx : MsAt w x) : On (fun k => rho k = .no) W fun W => MsAt W x := fun _ hV => msat_old hx (h.oldOf hV)
theorem LSv.ps (h : LSv w W rho sb fb ls A) {v : Value} {ps : List Pf} (hx : PsAt w v ps) : On (fun k => rho k = .no) W fun W => PsAt W v ps := fun _ hV => slat_old hx (h.oldOf hV) fun _ _ h => h
theorem LSv.fresh {W' : World} {Q : World → Prop} (h : LSv w W rho sb fb ls A) (hq : Fresh W.heap.size W' Q) : On (fun k => rho k = .no) W' Q := hq.wide fun _ hk _ => h.new hk
end
theorem new_one (W : World) (x : Pf) (T : TypeId) (hx : OkP x) : PsAt (W.alloc (.cells #[.int .u32 x.1, .int .i64 x.2] T)) (.slice (some ⟨W.heap.size, 0, none⟩) 1 1) [x] := by
 refine ⟨_, 1, rfl, Nat.le_refl _, by simp [maxLen], fun _ => ⟨W.heap.size, 0, rfl, fun i z hz => ?_⟩⟩
 match i, hz with
 | 0, hz =>
  simp at hz
  subst hz
  refine ⟨encP x, rfl, ⟨rfl, hx⟩, fun j c hc => ?_⟩
  rw [zB (heap_alloc_new W _)]
  match j, hc with
  | 0, hc => simpa [encP] using hc
  | 1, hc => simpa [encP] using hc
theorem sds_own {w : World} {B n : Nat} {s : Option Addr} {c : Nat} (h : w.ownsRow B 75 2 (.slice s n c) n ((sdsN n).flatMap sdL)) (hn : n ≤ 16 := by decide) : SdsAt w (.slice s n c) (sdsN n) := by
 have e := sdsN_len n
 have h3 : w.ownsRow B 75 2 (.slice s n c) (sdsN n).length ((sdsN n).flatMap sdL) := by rw [e]; exact h
 have := own_slat (C := sdL) (fun _ => rfl) h3
 refine this.imp fun y cs hy hc => ⟨hc, ?_⟩
 obtain ⟨i, hi, rfl⟩ := List.mem_map.1 hy
 have := List.mem_range.1 hi
 unfold I64r; simp only; omega
def hA0 : Ab := newA 65000 9 (sdsN 3)
def hA1 : Ab := ((hA0.join 0).join 1).join 2
def hA2 : Ab := hA1.upd 0 2 [] [netP 9] (atP 2)
theorem one_fresh (W : World) (x : Pf) (T : TypeId) (hx : OkP x) : Fresh W.heap.size (W.alloc (.cells #[.int .u32 x.1, .int .i64 x.2] T)) (fun V => PsAt V (.slice (some ⟨W.heap.size, 0, none⟩) 1 1) [x]) := fun V hV => by
 have h := new_one W x T hx
 have q : V.heap[W.heap.size]? = some (.cells #[.int .u32 x.1, .int .i64 x.2] T (0, 0)) := by
  rw [hV _ (Nat.le_refl _) (by simp)]; exact heap_alloc_new W _
 refine ⟨_, 1, rfl, Nat.le_refl _, by simp [maxLen], fun _ => ⟨W.heap.size, 0, rfl, fun i z hz => ?_⟩⟩
 match i, hz with
 | 0, hz =>
  simp at hz
  subst hz
  refine ⟨encP x, rfl, ⟨rfl, hx⟩, fun j c hc => ?_⟩
  rw [zB q]
  match j, hc with
  | 0, hc => simpa [encP] using hc
  | 1, hc => simpa [encP] using hc
open Go.RowKit
def bigM (x : Ms) : Bool := decide (20 < x.gone.length) || (decide (20 < x.nets.length) || (decide (6 < x.a.path.length) || (decide (40 < x.a.comms.length) || (decide (5 < x.a.others.length) || checkI x.a != 0))))
theorem hops_le : ∀ (p : List Sg) (B : Nat), (∀ s ∈ p, s.2.length ≤ B) → 1 ≤ B → hopsN p ≤ p.length * B
 | [], _, _, _ => by simp [hopsN]
 | s :: p, B, h, hB => by
  have h1 := hops_le p B (fun t ht => h t (List.mem_cons_of_mem _ ht)) hB
  have h2 := h s (List.mem_cons_self ..)
  unfold hopsN
  rw [List.length_cons, Nat.add_mul, Nat.one_mul]
  split <;> omega
theorem bigM_no {x : Ms} (h : bigM x = false) (hz : MsSz x) : GoodA x.a ∧ x.gone.length + x.nets.length ≤ 656 := by
 unfold bigM at h
 simp only [Bool.or_eq_false_iff, decide_eq_false_iff_not] at h
 obtain ⟨h1, h2, h3, -⟩ := h
 refine ⟨⟨?_, hz.rng, hz.a⟩, by omega⟩
 have := hops_le x.a.path 17592186043904 (fun s hs => by have := hz.a.segs s hs; unfold SgSz at this; omega) (by decide)
 have h4 : x.a.path.length * 17592186043904 ≤ 6 * 17592186043904 := Nat.mul_le_mul_right _ (by omega)
 omega
theorem av_Check (a : At) (v : AV) (w : World) (hA : AvAt w a v) : Calls Tryz.prog 60 #[v.V] w fun e w' => e = .returned (.int .i64 (checkI a)) ∧ Below w.heap.size w w' := by
 obtain ⟨vp, vc, vo, e, h⟩ := hA.form
 rw [e]
 exact at_Check a vp vc vo w h
theorem dgt (n k : Nat) {b : Bool} (h : decide (k < n) = b) : decide ((n : Int) > (k : Int)) = b := by
 rw [← h]
 by_cases e : k < n
 ·simp [e]
 ·simp [e]
set_option maxHeartbeats 6400000 in
set_option maxRecDepth 100000 in
theorem l_big21 (x : Ms) (w : World) (hx : MsAt w x) : Calls Tryz.prog 107 #[x.m.V] w fun e w' => e = .returned (.bool (bigM x)) ∧ Below w.heap.size w w' := by
 obtain ⟨s1, c1, e1, -⟩ := id hx.gone
 obtain ⟨s2, c2, e2, -⟩ := id hx.nets
 obtain ⟨ps, pc, cs, cc, os, oc, ea, -⟩ := id hx.a
 have CK := zh (fun W (hb : Below w.heap.size w W) => av_Check x.a x.m.a W (hx.a.below hb))
 have G1 : x.m.gn = x.gone.length := by injection e1
 have G2 : x.m.nn = x.nets.length := by injection e2
 have G3 : x.m.a.pn = x.a.path.length := by rw [ea]; rfl
 have G4 : x.m.a.cn = x.a.comms.length := by rw [ea]; rfl
 have G5 : x.m.a.on = x.a.others.length := by rw [ea]; rfl
 have H := zh (And.intro G1 (And.intro G2 (And.intro G3 (And.intro G4 G5))))
 clear hx e1 e2 ea G1 G2 G3 G4 G5
 go_enter Tryz.func107, Tryz.ntmps107
 go_upto_region 1 with (fail)
 obtain ⟨W0, hW0, q0, hB, -⟩ := box_msg w x.m
 rw [← hW0]
 have c5 : W0.cell? ⟨w.heap.size, 5, none⟩ = some (.slice x.m.gs x.m.gn x.m.gc) := zB q0 5
 have c16 : W0.cell? ⟨w.heap.size, 16, none⟩ = some (.slice x.m.ns x.m.nn x.m.nc) := zB q0 16
 have c8 : W0.cell? ⟨w.heap.size, 8, none⟩ = some (.slice x.m.a.ps x.m.a.pn x.m.a.pc) := zB q0 8
 have c14 : W0.cell? ⟨w.heap.size, 14, none⟩ = some (.slice x.m.a.cs x.m.a.cn x.m.a.cc) := zB q0 14
 have c15 : W0.cell? ⟨w.heap.size, 15, none⟩ = some (.slice x.m.a.os x.m.a.on x.m.a.oc) := zB q0 15
 have RG := zh (msg_range q0)
 have B0 := zh hB
 obtain ⟨mb, hmb⟩ : ∃ mb, mb = w.heap.size := ⟨_, rfl⟩
 rw [H.out.1, ← hmb] at c5
 rw [H.out.2.1, ← hmb] at c16
 rw [H.out.2.2.1, ← hmb] at c8
 rw [H.out.2.2.2.1, ← hmb] at c14
 rw [H.out.2.2.2.2, ← hmb] at c15
 rw [← hmb] at RG ⊢
 have CK0 := zh (CK.out W0 B0.out)
 clear hW0 hB q0 hmb H CK
 obtain ⟨b1, hb1⟩ : ∃ b, decide (20 < x.gone.length) = b := ⟨_, rfl⟩
 obtain ⟨b2, hb2⟩ : ∃ b, decide (20 < x.nets.length) = b := ⟨_, rfl⟩
 obtain ⟨b3, hb3⟩ : ∃ b, decide (6 < x.a.path.length) = b := ⟨_, rfl⟩
 obtain ⟨b4, hb4⟩ : ∃ b, decide (40 < x.a.comms.length) = b := ⟨_, rfl⟩
 obtain ⟨b5, hb5⟩ : ∃ b, decide (5 < x.a.others.length) = b := ⟨_, rfl⟩
 have BE : Hid (bigM x = (b1 || (b2 || (b3 || (b4 || (b5 || checkI x.a != 0)))))) := zh (by unfold bigM; rw [hb1, hb2, hb3, hb4, hb5])
 have d1 : decide ((x.gone.length : Int) > 20) = b1 := dgt _ 20 hb1
 have d2 : decide ((x.nets.length : Int) > 20) = b2 := dgt _ 20 hb2
 have d3 : decide ((x.a.path.length : Int) > 6) = b3 := dgt _ 6 hb3
 have d4 : decide ((x.a.comms.length : Int) > 40) = b4 := dgt _ 40 hb4
 have d5 : decide ((x.a.others.length : Int) > 5) = b5 := dgt _ 5 hb5
 clear hb1 hb2 hb3 hb4 hb5
 rcases b1 with _ | _
 ·rcases b2 with _ | _
  ·rcases b3 with _ | _
   ·rcases b4 with _ | _
    ·rcases b5 with _ | _
     ·go_wp2_with ((with_reducible refine zM (X := .load 42 (.tmp 35)) ?_ ?_); (· rfl))
      unfold Halt
      refine ldm_at (by rfl) 42 (.tmp 35) rfl mb 6 rfl x.m.a.C.toList _ RG.out Tryz.underlying42 rfl sz_avS ?_
      go_wp2_with fail
      refine CK0.out.mono ?_
      rintro e w1 ⟨rfl, hb⟩
      have B1 := zh (zC B0.out hb)
      clear hb CK0 c5 c16 c8 c14 c15
      go_wp2_with fail
      go_ret
      exact ⟨by rw [BE.out]; rfl, B1.out⟩
     ·go_wp2_with fail
      go_ret
      exact ⟨by rw [BE.out]; rfl, B0.out⟩
    ·go_wp2_with fail
     go_ret
     exact ⟨by rw [BE.out]; rfl, B0.out⟩
   ·go_wp2_with fail
    go_ret
    exact ⟨by rw [BE.out]; rfl, B0.out⟩
  ·go_wp2_with fail
   go_ret
   exact ⟨by rw [BE.out]; rfl, B0.out⟩
 ·go_wp2_with fail
  go_ret
  exact ⟨by rw [BE.out]; rfl, B0.out⟩
section
variable {w W : World} {rho : Nat → Role} {sb fb : Nat} {ls : List Pl} {A : Ab} {S : Sv}
end
open Go.RowKit Go.ChangeShapes Go.WideShapes
structure Stp where
 k : Int
 n : Int
 to_ : Int
 on : Bool
 x : Ms
abbrev Stp.C (s : Stp) : Array Value := #[.int .i64 s.k, .int .i64 s.n, .int .i64 s.to_, .bool s.on, .int .i64 s.x.m.kind, .int .i64 s.x.m.as_, .int .i64 s.x.m.hold, .int .u32 s.x.m.id, .slice s.x.m.ks s.x.m.kn s.x.m.kc, .slice s.x.m.gs s.x.m.gn s.x.m.gc,
 .int .i64 s.x.m.a.has, .int .i64 s.x.m.a.origin, .slice s.x.m.a.ps s.x.m.a.pn s.x.m.a.pc, .int .u32 s.x.m.a.hop, .int .i64 s.x.m.a.med, .int .i64 s.x.m.a.loc, .int .i64 s.x.m.a.aggrAs, .int .u32 s.x.m.a.aggrId, .slice s.x.m.a.cs s.x.m.a.cn s.x.m.a.cc, .slice s.x.m.a.os s.x.m.a.on s.x.m.a.oc,
 .slice s.x.m.ns s.x.m.nn s.x.m.nc, .int .i64 s.x.m.fc, .int .i64 s.x.m.fs, .string s.x.m.fd]
structure StpOk (s : Stp) : Prop where
 k : I64r s.k
 n : I64r s.n
 to_ : I64r s.to_
abbrev Stp.C21 (s : Stp) : Array Value := #[.int .i64 s.n, .int .i64 s.to_, .bool s.on, .int .i64 s.x.m.kind, .int .i64 s.x.m.as_, .int .i64 s.x.m.hold, .int .u32 s.x.m.id, .slice s.x.m.ks s.x.m.kn s.x.m.kc, .slice s.x.m.gs s.x.m.gn s.x.m.gc,
 .int .i64 s.x.m.a.has, .int .i64 s.x.m.a.origin, .slice s.x.m.a.ps s.x.m.a.pn s.x.m.a.pc, .int .u32 s.x.m.a.hop, .int .i64 s.x.m.a.med, .int .i64 s.x.m.a.loc, .int .i64 s.x.m.a.aggrAs, .int .u32 s.x.m.a.aggrId, .slice s.x.m.a.cs s.x.m.a.cn s.x.m.a.cc, .slice s.x.m.a.os s.x.m.a.on s.x.m.a.oc,
 .slice s.x.m.ns s.x.m.nn s.x.m.nc, .int .i64 s.x.m.fc, .int .i64 s.x.m.fs, .string s.x.m.fd]
def StpC21 (W : World) (s : Stp) (cs : List Value) : Prop := cs = s.C21.toList ∧ StpOk s ∧ MsAt W s.x
section
variable {H : Type} {enc : TypeId × Value → H} {w : World} {base : Nat} {spare : Nat → Bool} {held : Bool}
set_option maxHeartbeats 1600000 in
set_option maxRecDepth 100000 in
theorem sl_said_sz {f : Nat} {cs : List Value} {x : DataW H × List MemPlace} (h : DataW.trod enc Tryz.prog w base spare held f 183 cs = some x) (hz : Sz Tryz.prog 183 x.1) : ∃ s : Stp, StpC21 w s cs ∧ MsSz s.x := by
 obtain ⟨xs, n, _, hxe, hl, hxl, hf⟩ := DataW.trod_struct Tryz.underlying183 h
 rw [hxe] at hz
 have hc : Tryz.prog.cellsOf 183 = 23 := by kernel_rfl
 have hc0 : Tryz.prog.cellsOf 3 = 1 := by kernel_rfl
 have hc1 : Tryz.prog.cellsOf 4 = 1 := by kernel_rfl
 have hc2 : Tryz.prog.cellsOf 46 = 20 := by kernel_rfl
 rw [hc] at hl
 match cs, hl with
 | [c1, c2, c3, c4, c5, c6, c7, c8, c9, c10, c11, c12, c13, c14, c15, c16, c17, c18, c19, c20, c21, c22, c23], _ =>
  match xs, hxl with
  | [x1, x2, x3, x4], _ =>
   have e1 := hf 0 _ rfl
   have e2 := hf 1 _ rfl
   have e3 := hf 2 _ rfl
   have e4 := hf 3 _ rfl
   simp [hc0, hc1, hc2] at e1 e2 e3 e4
   obtain ⟨n, q1, i1⟩ := sl_i64 e1
   obtain ⟨t, q2, i2⟩ := sl_i64 e2
   obtain ⟨b, q3, -⟩ := DataW.trod_bool Tryz.underlying4 e3
   obtain ⟨m, ⟨q4, hm⟩, hz4⟩ := sl_msg_sz e4 (sz_field Tryz.underlying183 hz (j := 3) rfl rfl)
   simp at q1 q2 q3
   subst q1; subst q2; subst q3
   refine ⟨⟨0, n, t, b, m⟩, ⟨?_, ⟨by unfold I64r; simp, i1, i2⟩, hm⟩, hz4⟩
   simp at q4
   obtain ⟨r0, r1, r2, r3, r4, r5, r6, r7, r8, r9, r10, r11, r12, r13, r14, r15, r16, r17, r18, r19⟩ := q4
   subst r0; subst r1; subst r2; subst r3; subst r4; subst r5; subst r6; subst r7; subst r8; subst r9; subst r10; subst r11; subst r12; subst r13; subst r14; subst r15; subst r16; subst r17; subst r18; subst r19
   rfl
abbrev SaidsAt (w : World) (v : Value) (xs : List Stp) : Prop := SlAt w 23 (StpC21 w) v xs
set_option maxRecDepth 100000 in
theorem open_saids_sz {v : Value} {d : DataW H} {p : List MemPlace} {r : Reach} {b0 : Nat} (hv : Value.okWide Tryz.prog w r b0 110 v) (h : DataW.Trod enc Tryz.prog w base spare held 110 v d p) (hz : Sz Tryz.prog 110 d) : ∃ xs : List Stp, SaidsAt w v xs ∧ ∀ x ∈ xs, MsSz x.x := by
 obtain ⟨fuel, h⟩ := h
 have hvc : v.cells.toList = [v] := by
  simp only [Value.okWide, Tryz.underlying110] at hv
  cases v <;> first | rfl | (simp [Cell.okWide, Cell.ok, Tryz.underlying110] at hv)
 rw [hvc] at h
 obtain ⟨v', xs, e, hs, _, hx⟩ := open_sl_sz (k := 23) (bs := Tryz.prog.bytesOf 183) (R := StpC21 w) (S := fun s => MsSz s.x) Tryz.underlying110 (by kernel_rfl) rfl (by decide) (fun _ _ _ h hz => sl_said_sz h hz) h hz
 injection e with e _
 subst e
 exact ⟨xs, hs, hx⟩
end
open Go.RowKit
def joinN (A : Ab) (k : Nat) : Ab := (List.range k).foldl Ab.join A
theorem joinN_succ (A : Ab) (k : Nat) : joinN A (k + 1) = (joinN A k).join k := by unfold joinN; rw [List.range_succ, List.foldl_append]; rfl
theorem joinN_V (A : Ab) : ∀ k, (joinN A k).V = A.V ∧ (joinN A k).own = A.own ∧ (joinN A k).bl = A.bl ∧ (joinN A k).most = A.most
 | 0 => ⟨rfl, rfl, rfl, rfl⟩
 | k + 1 => by rw [joinN_succ]; exact joinN_V A k
theorem joinN_th (A : Ab) : ∀ k i, (joinN A k).th i = if i < k then true else A.th i
 | 0, i => by rw [if_neg (by omega)]; rfl
 | k + 1, i => by
  rw [joinN_succ]
  show setF (joinN A k).th k true i = _
  unfold setF
  rw [joinN_th A k i]
  by_cases h : i = k
  ·subst h; rw [if_pos rfl, if_pos (by omega)]
  ·rw [if_neg h]
   by_cases h2 : i < k
   ·rw [if_pos h2, if_pos (by omega)]
   ·rw [if_neg h2, if_neg (by omega)]
def Ab.say (A : Ab) (s : Stp) : Ab := if bigM s.x then A else A.updI s.n s.x.m.kind s.x.gone s.x.nets s.x.a
def Ab.says (A : Ab) (xs : List Stp) : Ab := xs.foldl Ab.say A
structure SameTh (A B : Ab) : Prop where
 len : B.V.length = A.V.length
 th : B.th = A.th
 own : B.own = A.own
 most : B.most = A.most
 bl : B.bl = A.bl
theorem SameTh.refl (A : Ab) : SameTh A A := ⟨rfl, rfl, rfl, rfl, rfl⟩
theorem SameTh.trans {A B C : Ab} (h : SameTh A B) (k : SameTh B C) : SameTh A C := ⟨k.len.trans h.len, k.th.trans h.th, k.own.trans h.own, k.most.trans h.most, k.bl.trans h.bl⟩
theorem same_upd (A : Ab) (i : Nat) (kind : Int) (gone nets : List Pf) (a : At) : SameTh A (A.upd i kind gone nets a) := by
 unfold Ab.upd
 split
 ·exact ⟨setV_len .., rfl, rfl, rfl, rfl⟩
 ·exact SameTh.refl A
theorem same_updI (A : Ab) (n : Int) (kind : Int) (gone nets : List Pf) (a : At) : SameTh A (A.updI n kind gone nets a) := by
 unfold Ab.updI
 split
 ·exact same_upd ..
 ·exact SameTh.refl A
theorem plt_nodup {L : List Pf} (h : L.Pairwise plt) : L.Nodup := by
 rw [List.nodup_iff_pairwise_ne]
 refine h.imp ?_
 intro x y hxy e
 subst e
 exact plt_irrefl x hxy
theorem newA_len (own most : Int) (n : Nat) : (newA own most (sdsN n)).V.length = n := by simp [newA, sdsN]
theorem newCd_sds {n : Nat} (h0 : 0 < n) (h : n ≤ 16) : newCd 65000 (sdsN n) = 0 := by
 refine newCd_ok ?_ (by rw [sdsN_len]; omega) (all_ok fun i x hi hx => ?_)
 ·rw [sdsN_len]
  rintro (h1 | h1)
  ·revert h1; decide
  ·omega
 ·rw [sdsN_len] at hi
  rw [sdsN_get hi] at hx
  injection hx with hx
  subst hx
  unfold sdB sysB
  simp
  omega
theorem range_below {W W' : World} {g o : Nat} {l : List Value} (h : W.rangeAt g o l) (hb : Below W.heap.size W W') : W'.rangeAt g o l := fun j v hv => zA (h j v hv) hb
open Go.RowKit
section
variable {w W : World} {rho : Nat → Role} {sb fb : Nat} {ls : List Pl} {S : Sv} {A : Ab}
theorem ls_Bests (h : LSv w W rho sb fb ls A) {i : Nat} (hi : i < A.V.length) : Calls Tryz.prog 25 #[.pointer (some ⟨sb, 0, none⟩), .int .i64 i] W (BestsPost (A.best i) W) := by
 obtain ⟨S, h1, h2⟩ := h.srv
 obtain ⟨m, hm⟩ := h2.at hi
 have e : A.best i = S.best i := by
  funext p
  exact (h2.best i p (by rw [h2.len]; exact hi)).symm
 rw [e]
 exact sv_Bests h1 hm
end
theorem best_from {A : Ab} {i : Nat} {p : Pf} {j : Int} {a : At} (h : A.best i p = some (j, a)) : ∃ (n : Nat) (v : VM), j = (n : Int) ∧ A.V[n]? = some v ∧ getL v.2.2 p = some a ∧ n ≠ i := by
 unfold Ab.best bestV bestS at h
 have hne : offS A.own A.bl (A.V.map pmV) i p ≠ [] := by
  intro e
  rw [pickB_none.2 e] at h
  cases h
 obtain ⟨k, c, h1, -, h3⟩ := pickB_some hne
 rw [h3] at h
 injection h with h
 injection h with e1 e2
 have hm := List.mem_of_getElem? h1
 unfold offS offL at hm
 obtain ⟨h4, h5⟩ := List.mem_filter.1 hm
 obtain ⟨n, m, b, g1, g2, rfl⟩ := saidS_mem h4
 rw [List.getElem?_map] at g1
 cases hv : A.V[n]? with
 | none => rw [hv] at g1; simp at g1
 | some v =>
  rw [hv] at g1; simp at g1; subst g1
  refine ⟨n, v, e1.symm, hv, ?_, ?_⟩
  ·rw [← e2]; exact g2
  ·unfold goesC goesB cdOf at h5
   simp only [Int.toNat_natCast] at h5
   intro e
   subst e
   simp at h5
open Go.RowKit
theorem filter_step {α : Type} (q : α → Bool) {l : List α} {k : Nat} {x : α} (h : l[k]? = some x) : (l.take (k + 1)).filter q = (l.take k).filter q ++ (if q x then [x] else []) := by
 obtain ⟨h1, h2⟩ := List.getElem?_eq_some_iff.1 h
 rw [List.take_succ_eq_append_getElem h1, List.filter_append, h2]
 congr 1
 cases hb : q x <;> simp [List.filter, hb]
set_option maxHeartbeats 1600000 in
set_option maxRecDepth 100000 in
theorem ch_del (r : Rk) (tb : Nat) (t : Int) (w : World) (ht : w.cell? ⟨tb, 0, none⟩ = some (.int .i64 t)) : Calls Tryz.prog 123 #[.agg (rkA r), .pointer (some ⟨tb, 0, none⟩)] w fun e w' => e = .returned (.bool (r.place == t)) ∧ Below w.heap.size w w' := by
 go_enter Tryz.func123, Tryz.ntmps123
 go_upto_region 1 with (fail)
 obtain ⟨W0, hW0, q0, hb0, -⟩ := boxK w r
 rw [← hW0]
 clear hW0
 have c0 : W0.cell? ⟨w.heap.size, 0, none⟩ = some (.int .i64 r.place) := zB q0 0
 have t0 := zA ht hb0
 clear q0 ht
 go_wp2_with fail
 go_ret
 exact ⟨rfl, hb0⟩
def idxF (t : Int) : List Rk → Nat → Int
 | [], _ => -1
 | r :: rs, k => if r.place = t then (k : Int) else idxF t rs (k + 1)
theorem idxF_step {t : Int} {rs : List Rk} {k : Nat} {r : Rk} (h : rs[k]? = some r) : idxF t (rs.drop k) k = if r.place = t then (k : Int) else idxF t (rs.drop (k + 1)) (k + 1) := by
 obtain ⟨h1, h2⟩ := List.getElem?_eq_some_iff.1 h
 rw [List.drop_eq_getElem_cons h1, h2]; rfl
set_option maxHeartbeats 3200000 in
set_option maxRecDepth 100000 in
theorem ch_Index (v : Value) (rs : List Rk) (tb : Nat) (t : Int) (w : World) (h : RksAt w v rs) (ht : w.cell? ⟨tb, 0, none⟩ = some (.int .i64 t)) :
  Calls Tryz.prog 167 #[v, .func (.func 123) #[] #[.pointer (some ⟨tb, 0, none⟩)]] w fun e w' => e = .returned (.int .i64 (idxF t rs 0)) ∧ Below w.heap.size w w' := by
 obtain ⟨sa, cap, rfl, hlc, hcm, hV⟩ := h
 have HV := zh hV
 have HT := zh ht
 have DL := zh (fun r W h => ch_del r tb t W h)
 unfold maxLen at hcm
 clear hV ht
 go_enter Tryz.func167, Tryz.ntmps167
 go_wp2_with fail
 go_loopw [8] (fun i wr => ∃ k : Nat, k ≤ rs.length ∧ i = .int .i64 k ∧ Hid (idxF t rs 0 = idxF t (rs.drop k) k) ∧ Hid (Below w.heap.size w wr)) (fun i _ => rs.length - (intOf i).toNat)
 case atStart => exact ⟨0, by omega, rfl, zh rfl, zh (Below.refl _ _)⟩
 case round =>
  obtain ⟨k, hk, rfl, E, B⟩ := hrel
  by_cases hlt : k < rs.length
  ·obtain ⟨r, hr⟩ : ∃ r, rs[k]? = some r := ⟨_, List.getElem?_eq_getElem hlt⟩
   obtain ⟨b, off, hsa, hP⟩ := HV.out (by omega)
   subst hsa
   obtain ⟨cs, _, hR, hc⟩ := hP k r hr
   obtain ⟨x0, x1, x2, x3, x4, x5, x6, x7⟩ := rk_cells hR hc
   have x0 := (B.out.cell (zH x0)).trans x0
   have x1 := (B.out.cell (zH x1)).trans x1
   have x2 := (B.out.cell (zH x2)).trans x2
   have x3 := (B.out.cell (zH x3)).trans x3
   have x4 := (B.out.cell (zH x4)).trans x4
   have x5 := (B.out.cell (zH x5)).trans x5
   have x6 := (B.out.cell (zH x6)).trans x6
   have x7 := (B.out.cell (zH x7)).trans x7
   have t0 := zh ((B.out.cell (zH HT.out)).trans HT.out)
   have E2 : Hid (idxF t rs 0 = if r.place = t then (k : Int) else idxF t (rs.drop (k + 1)) (k + 1)) := zh (by rw [E.out, idxF_step hr])
   have j0 : (0 : Int) ≤ (k : Int) := by omega
   have j1 : (k : Int) < (rs.length : Int) := by omega
   clear hP hR hc hr E
   go_wp2_with fail
   refine (DL.out r _ t0.out).mono ?_
   rintro e w2 ⟨rfl, hb2⟩
   have B2 := zh (zC B.out hb2)
   clear hb2 B x0 x1 x2 x3 x4 x5 x6 x7 t0
   by_cases hp : r.place = t
   ·have z : (r.place == t) = true := by simpa using hp
    have E3 : Hid (idxF t rs 0 = (k : Int)) := zh (by rw [E2.out, if_pos hp])
    clear hp E2
    go_wp2_with fail
    go_ret
    exact ⟨zU E3.out.symm, B2.out⟩
   ·have z : (r.place == t) = false := by simpa using hp
    have E3 : Hid (idxF t rs 0 = idxF t (rs.drop (k + 1)) (k + 1)) := zh (by rw [E2.out, if_neg hp])
    clear hp E2
    go_wp2_with fail
    exact ⟨⟨k + 1, by omega, by go_num, E3, B2⟩, by simp [intOf]; omega⟩
  ·obtain rfl : rs.length = k := by omega
   have E3 : Hid (idxF t rs 0 = -1) := zh (by rw [E.out, List.drop_length]; rfl)
   clear E
   go_wp2_with fail
   go_ret
   exact ⟨zU E3.out.symm, B.out⟩
theorem run_clear_ranks (w : World) (g o n c : Nat) (hn : 0 < n) (ht : w.there g o (n * 8)) :
  ∃ L : List Value, L.length = n * 8 ∧ ∀ ty, (Builtin.clear_ #[197] ty #[.slice (some ⟨g, o, none⟩) n c]).run Tryz.prog w = .ok (.tuple #[]) (w.setCells g o L) := by
 have hlen : (Builtin.zeroCells rkZA n).toList.length = n * 8 := by rw [Array.length_toList, size_zeroCells]; rfl
 refine ⟨(Builtin.zeroCells rkZA n).toList, hlen, fun ty => ?_⟩
 have hst := run_storeCells_cells (P := Tryz.prog) g o (Builtin.zeroCells rkZA n).toList 0 w (fun j hj => by rw [Nat.add_zero]; exact (ht j (by rw [hlen] at hj; exact hj)).1) (fun j hj => by rw [Nat.add_zero]; exact (ht j (by rw [hlen] at hj; exact hj)).2)
  (zeroCells_one rkZA (by intro v hv; simp at hv; rcases hv with rfl | rfl | rfl <;> rfl) (by decide) n)
 simp only [Nat.add_zero] at hst
 obtain ⟨m, rfl⟩ : ∃ m, n = m + 1 := ⟨n - 1, by omega⟩
 simp [Builtin.clear_, run_underlying Tryz.underlying197, Value.cells, hst]
theorem kept_cells {F : Nat → Prop} {g : Nat} (hF : F g) : ∀ (vs : List Value) (o : Nat) (w : World), Kept F w (w.setCells g o vs)
 | [], _, _ => Kept.refl F _
 | v :: r, o, _ => (Kept.setCell ⟨g, o, none⟩ v hF).trans (kept_cells hF r (o + 1) _)
theorem there_from {w : World} {g n k : Nat} (h : w.there g 0 (n * 8)) (hk : k ≤ n) : w.there g (k * 8) ((n - k) * 8) := by
 intro j hj
 have := h (k * 8 + j) (by omega)
 rw [Nat.zero_add] at this
 exact this
def keepP (t : Int) (r : Rk) : Bool := !(r.place == t)
def kpL (t : Int) (rs : List Rk) (j : Nat) : List Rk := (rs.take j).filter (keepP t)
theorem kpL_step (t : Int) {rs : List Rk} {j : Nat} {r : Rk} (h : rs[j]? = some r) : kpL t rs (j + 1) = kpL t rs j ++ (if keepP t r then [r] else []) := filter_step _ h
theorem idx_none {t : Int} : ∀ (rs : List Rk) (k : Nat), idxF t rs k = -1 → ∀ r ∈ rs, keepP t r = true
 | [], _, _, r, hr => by simp at hr
 | x :: rs, k, h, r, hr => by
  unfold idxF at h
  split at h
  ·omega
  ·next hx =>
   rcases List.mem_cons.1 hr with rfl | hr
   ·unfold keepP; simpa using hx
   ·exact idx_none rs (k + 1) h r hr
theorem idx_some {t : Int} : ∀ (rs : List Rk) (k : Nat), idxF t rs k ≠ -1 → ∃ i, idxF t rs k = ((k + i : Nat) : Int) ∧ i < rs.length ∧ (rs.take i).filter (keepP t) = rs.take i ∧ ∃ r, rs[i]? = some r ∧ keepP t r = false
 | [], _, h => absurd rfl h
 | x :: rs, k, h => by
  unfold idxF at h ⊢
  by_cases hx : x.place = t
  ·rw [if_pos hx]
   exact ⟨0, rfl, by simp, by simp, x, rfl, by unfold keepP; simpa using hx⟩
  ·rw [if_neg hx] at h ⊢
   obtain ⟨i, h1, h2, h3, r, h4, h5⟩ := idx_some rs (k + 1) h
   refine ⟨i + 1, by rw [h1]; congr 1; omega, by simp; omega, ?_, r, by simpa using h4, h5⟩
   rw [List.take_succ_cons, List.filter_cons_of_pos (by unfold keepP; simpa using hx), h3]
set_option maxHeartbeats 6400000 in
set_option maxRecDepth 100000 in
theorem ch_Delete (g n : Nat) (rs : List Rk) (tb : Nat) (t : Int) (w : World) (R : RkRow w g n rs) (hln : rs.length ≤ n) (hn : n ≤ 100000) (ht : w.cell? ⟨tb, 0, none⟩ = some (.int .i64 t)) (hne : tb ≠ g) :
  Calls Tryz.prog 122 #[.slice (some ⟨g, 0, none⟩) rs.length n, .func (.func 123) #[] #[.pointer (some ⟨tb, 0, none⟩)]] w fun e w' => e = .returned (.slice (some ⟨g, 0, none⟩) (rs.filter (keepP t)).length n) ∧ RkRow w' g n (rs.filter (keepP t)) ∧ Kept (fun b => b = g) w w' := by
 have hat : RksAt w (.slice (some ⟨g, 0, none⟩) rs.length n) rs := ⟨_, _, rfl, hln, by unfold maxLen; omega, fun _ => ⟨g, 0, rfl, fun i x hx => ⟨rkL x, rfl, rfl, fun j c hc => by rw [Nat.zero_add]; exact R.1 i x hx j c hc⟩⟩⟩
 have IX := zh (ch_Index _ rs tb t w hat ht)
 have HR := zh R
 have HT := zh ht
 have DL := zh (fun r W h => ch_del r tb t W h)
 have NG := zh hne
 clear hat R ht hne
 by_cases hi : idxF t rs 0 = -1
 ·have E : Hid (rs.filter (keepP t) = rs) := zh (List.filter_eq_self.2 (idx_none rs 0 hi))
  rw [hi] at IX
  rw [E.out]
  clear hi E
  go_enter Tryz.func122, Tryz.ntmps122
  go_wp2_with fail
  refine IX.out.mono ?_
  rintro e w1 ⟨rfl, hb1⟩
  have R1 := zh (HR.out.below hb1)
  have K1 := zh (Kept.of_below (F := fun b => b = g) hb1)
  clear hb1 IX HR
  go_wp2_with fail
  go_ret
  exact ⟨rfl, R1.out, K1.out⟩
 ·obtain ⟨i, h1, h2, h3, r0, h4, h5⟩ := idx_some rs 0 hi
  rw [Nat.zero_add] at h1
  rw [h1] at IX
  have KI : Hid (kpL t rs (i + 1) = rs.take i) := zh (by
   rw [kpL_step t h4, h5]
   unfold kpL
   rw [h3]; simp)
  have H4 := zh h4
  clear hi h1 h3 h4 h5
  have n1 : ((i : Int) == -1) = false := by rw [beq_eq_false_iff_ne]; omega
  go_enter Tryz.func122, Tryz.ntmps122
  go_wp2_with fail
  refine IX.out.mono ?_
  rintro e w1 ⟨rfl, hb1⟩
  have R1 := HR.out.below hb1
  have K1 := zh (Kept.of_below (F := fun b => b = g) hb1)
  have F1 : Hid (Filled w1 g 8 rkL (kpL t rs (i + 1))) := zh (by
   rw [KI.out]
   intro q x hx
   have hq := (List.getElem?_eq_some_iff.1 hx).1
   rw [List.getElem?_take_of_lt (by simp at hq; omega)] at hx
   exact R1.1 q x hx)
  have T1 := zh R1.2
  have S1 : Hid (∀ (q : Nat) (x : Rk), i + 1 ≤ q → rs[q]? = some x → w1.rangeAt g (q * 8) (rkL x)) := zh (fun q x _ hx => R1.1 q x hx)
  have LK : Hid ((kpL t rs (i + 1)).length + 1 ≤ i + 1) := zh (by rw [KI.out, List.length_take]; omega)
  have E0 : Hid ((kpL t rs (i + 1)).length = i) := zh (by rw [KI.out, List.length_take]; omega)
  clear hb1 R1 IX HR H4 KI
  go_wp2_with fail
  go_loopw [5, 6] (fun vi vj wr => ∃ j : Nat, i + 1 ≤ j ∧ j ≤ rs.length ∧ vj = .int .i64 j ∧ vi = .int .i64 ((kpL t rs j).length : Nat) ∧ Hid (Filled wr g 8 rkL (kpL t rs j)) ∧ Hid (wr.there g 0 (n * 8)) ∧ Hid (∀ (q : Nat) (x : Rk), j ≤ q → rs[q]? = some x → wr.rangeAt g (q * 8) (rkL x)) ∧ Hid (Kept (fun b => b = g) w wr) ∧ Hid ((kpL t rs j).length + 1 ≤ j)) (fun _ vj _ => rs.length - (intOf vj).toNat)
  case atStart => exact ⟨i + 1, by omega, by omega, by go_num, by rw [E0.out], F1, T1, S1, K1, LK⟩
  case round =>
   clear F1 T1 S1 K1 LK E0
   obtain ⟨j, hj1, hj2, rfl, rfl, F, T, S, K, LK⟩ := hrel
   by_cases hlt : j < rs.length
   ·obtain ⟨r, hr⟩ : ∃ r, rs[j]? = some r := ⟨_, List.getElem?_eq_getElem hlt⟩
    have hc := S.out j r (Nat.le_refl _) hr
    have x0 : wr.cell? ⟨g, j * 8, none⟩ = some (.int .i64 r.place) := hc 0 _ rfl
    have x1 : wr.cell? ⟨g, j * 8 + 1, none⟩ = some (.int .i64 r.loc) := hc 1 _ rfl
    have x2 : wr.cell? ⟨g, j * 8 + 2, none⟩ = some (.int .i64 r.hops) := hc 2 _ rfl
    have x3 : wr.cell? ⟨g, j * 8 + 3, none⟩ = some (.int .i64 r.origin) := hc 3 _ rfl
    have x4 : wr.cell? ⟨g, j * 8 + 4, none⟩ = some (.int .i64 r.first) := hc 4 _ rfl
    have x5 : wr.cell? ⟨g, j * 8 + 5, none⟩ = some (.int .i64 r.med) := hc 5 _ rfl
    have x6 : wr.cell? ⟨g, j * 8 + 6, none⟩ = some (.int .u32 r.id) := hc 6 _ rfl
    have x7 : wr.cell? ⟨g, j * 8 + 7, none⟩ = some (.int .i64 r.peer) := hc 7 _ rfl
    have TC := zh (K.out.cell HT.out NG.out)
    have ST := zh (kpL_step t hr)
    have j0 : (0 : Int) ≤ (j : Int) := by omega
    have j1 : (j : Int) < (rs.length : Int) := by omega
    have GL : Hid (g < wr.heap.size) := zh (zH x0)
    clear hc hr
    go_upto_region 8 with (fail)
    obtain ⟨W4, hW4, q4, hb4, -⟩ := boxK wr r
    rw [← hW4]
    clear hW4 x0 x1 x2 x3 x4 x5 x6 x7
    have F4 := zh (F.out.below hb4)
    have T4 := zh (there_below T.out hb4)
    have S4 : Hid (∀ (q : Nat) (x : Rk), j ≤ q → rs[q]? = some x → W4.rangeAt g (q * 8) (rkL x)) := zh (fun q x h1 h2 k v hv => zA (S.out q x h1 h2 k v hv) hb4)
    have K4 := zh (K.out.trans (Kept.of_below hb4))
    have TC4 := zh (zA TC.out hb4)
    have NB : Hid (wr.heap.size ≠ g) := zh (by have := GL.out; omega)
    have Q4 := zh q4
    obtain ⟨y0, y1, y2, y3, y4, y5, y6, y7⟩ := rk_row q4
    clear q4 hb4 F T S K TC GL
    generalize wr.heap.size = rb at Q4 NB y0 y1 y2 y3 y4 y5 y6 y7 ⊢
    go_wp2_with fail
    refine (DL.out r _ TC4.out).mono ?_
    rintro e w5 ⟨rfl, hb5⟩
    have F5 := zh (F4.out.below hb5)
    have T5 := zh (there_below T4.out hb5)
    have S5 : Hid (∀ (q : Nat) (x : Rk), j ≤ q → rs[q]? = some x → w5.rangeAt g (q * 8) (rkL x)) := zh (fun q x h1 h2 k v hv => zA (S4.out q x h1 h2 k v hv) hb5)
    have K5 := zh (K4.out.trans (Kept.of_below hb5))
    have Q5 := zh ((hb5.block _ (zE Q4.out)).trans Q4.out)
    clear hb5 F4 T4 S4 K4 TC4 Q4 y0 y1 y2 y3 y4 y5 y6 y7
    obtain ⟨y0, y1, y2, y3, y4, y5, y6, y7⟩ := rk_row Q5.out
    by_cases hp : (r.place == t) = true
    ·have ST2 : Hid (kpL t rs (j + 1) = kpL t rs j) := zh (by rw [ST.out]; unfold keepP; rw [hp]; simp)
     have LK2 : Hid ((kpL t rs (j + 1)).length + 1 ≤ j + 1) := zh (by rw [ST2.out]; have := LK.out; omega)
     rw [← ST2.out] at F5
     have EV : Hid (Value.int .i64 ((kpL t rs j).length : Nat) = .int .i64 ((kpL t rs (j + 1)).length : Nat)) := zh (by rw [ST2.out])
     have S6 : Hid (∀ (q : Nat) (x : Rk), j + 1 ≤ q → rs[q]? = some x → w5.rangeAt g (q * 8) (rkL x)) := zh (fun q x h1 h2 => S5.out q x (by omega) h2)
     clear ST ST2 S5 LK
     go_wp2_with fail
     exact ⟨⟨j + 1, by omega, by omega, by go_num, EV.out, F5, T5, S6, K5, LK2⟩, by simp [intOf]; omega⟩
    ·have hp2 : (r.place == t) = false := by simpa using hp
     have ST2 : Hid (kpL t rs (j + 1) = kpL t rs j ++ [r]) := zh (by rw [ST.out]; unfold keepP; rw [hp2]; rfl)
     have LK2 : Hid ((kpL t rs (j + 1)).length + 1 ≤ j + 1) := zh (by rw [ST2.out, List.length_append]; have := LK.out; simp; omega)
     have lk := LK.out
     have EV : Hid (Value.int .i64 ((kpL t rs j).length + 1 : Nat) = .int .i64 ((kpL t rs (j + 1)).length : Nat)) := zh (by rw [ST2.out, List.length_append]; rfl)
     have Fss := zh (Filled.set (C := rkL) rkL_len F5.out T5.out (show (kpL t rs j).length < n by omega) r)
     have S6 : Hid (∀ (q : Nat) (x : Rk), j + 1 ≤ q → rs[q]? = some x → (w5.setCells g ((kpL t rs j).length * 8) (rkL r)).rangeAt g (q * 8) (rkL x)) := zh (fun q x h1 h2 => World.rangeAt_setCells_apart (S5.out q x (by omega) h2) _ _ _ (.inr (.inr (by show _ + 8 ≤ _; omega))))
     rw [← ST2.out] at Fss
     clear ST ST2 S5 LK hp
     generalize hm : (kpL t rs j).length = m at *
     clear hm
     have m0 : (0 : Int) ≤ (m : Int) := by omega
     have m1 : (m : Int) < (rs.length : Int) := by omega
     go_wp2_with (with_reducible refine zM (X := .store 200 (.tmp 33) (.tmp 32)) ?_ ?_; (· rfl))
     unfold Halt
     refine wpList_store_mid rfl 200 (.tmp 33) (.tmp 32) rfl g (m * 8) (rkA r) rfl rfl (there_part T5.out (show m < n by omega)) (by kernel_rfl) (rk_one _) ?_
     have K6 := zh (K5.out.trans (kept_cells (F := fun b => b = g) rfl (rkL r) (m * 8) w5))
     obtain ⟨W6, hW6⟩ : ∃ W6, W6 = w5.setCells g (m * 8) (rkL r) := ⟨_, rfl⟩
     have hW7 : w5.setCells g (m * 8) (rkA r).toList = W6 := hW6.symm
     rw [hW7]
     rw [← hW6] at Fss S6 K6
     clear hW6 hW7 K5 T5 F5 Q5 y0 y1 y2 y3 y4 y5 y6 y7 lk
     go_wp2_with fail
     exact ⟨⟨j + 1, by omega, by omega, by go_num, EV.out, zh Fss.out.1, zh Fss.out.2, S6, K6, LK2⟩, by simp [intOf]; omega⟩
   ·obtain rfl : j = rs.length := by omega
    have EF : Hid (kpL t rs rs.length = rs.filter (keepP t)) := zh (by unfold kpL; rw [List.take_length])
    have lk := LK.out
    rw [EF.out] at F LK lk
    rw [EF.out]
    clear EF S hlt LK
    generalize hm : (rs.filter (keepP t)).length = m at *
    have m0 : (0 : Int) ≤ (m : Int) := by omega
    have m1 : (m : Int) ≤ (rs.length : Int) := by omega
    obtain ⟨L, hL, hcl⟩ := run_clear_ranks wr g (m * 8) (rs.length - m) (n - m) (by omega) (fun q hq => there_from T.out (show m ≤ n by omega) q (by omega))
    have K6 := zh (K.out.trans (kept_cells (F := fun b => b = g) rfl L (m * 8) wr))
    have R6 : Hid (RkRow (wr.setCells g (m * 8) L) g n (rs.filter (keepP t))) := zh ⟨fun q x hx => World.rangeAt_setCells_apart (F.out q x hx) _ _ _ (.inr (.inl (by
     have := (List.getElem?_eq_some_iff.1 hx).1
     show q * 8 + 8 ≤ m * 8
     omega))), World.there_setCells T.out _ _ _⟩
    clear hL F T K
    go_wp2_with (simp only [hcl])
    go_ret
    exact ⟨by rw [hm]; rfl, R6.out, K6.out⟩
open Go.RowKit
theorem own_type {w : World} {B k n rb : Nat} {e T : TypeId} {v : Value} {xs : List Value} {C : Array Value} {fr : Nat × Nat} (h : w.ownsRow B e k v n xs) (q : w.heap[rb]? = some (.cells C T fr)) (hne : T ≠ e) : v.ownBlock ≠ some rb := by
 obtain ⟨_, ⟨rfl, _⟩ | ⟨g, cap, cur, rfl, _, hg, _⟩⟩ := h
 ·intro h; cases h
 ·intro h'
  cases h'
  rw [hg] at q
  injection q with q
  injection q with _ q _
  exact hne q.symm
def leftOf (R : List Rk) (gone : List Int) : List Rk := R.filter fun r => !gone.contains r.place
structure OrdSt (R left : List Rk) (out : List Int) : Prop where
 eq : left = leftOf R out
 len : left.length + out.length = R.length
 best : ∀ (p : Nat) (k : Int), out[p]? = some k → ∃ r, r.place = k ∧ IsBest (leftOf R (out.take p)) r
theorem OrdSt.init (R : List Rk) : OrdSt R R [] := ⟨(List.filter_eq_self.2 fun _ _ => rfl).symm, by simp, fun p k h => by simp at h⟩
theorem filter_one {T : Rk} : ∀ {l : List Rk}, l.Pairwise (fun a b => a.place ≠ b.place) → T ∈ l → (l.filter (keepP T.place)).length + 1 = l.length
 | [], _, h => by simp at h
 | x :: l, hp, h => by
  obtain ⟨h1, h2⟩ := List.pairwise_cons.1 hp
  rcases List.mem_cons.1 h with rfl | h
  ·rw [List.filter_cons_of_neg (by unfold keepP; simp), List.filter_eq_self.2 (fun y hy => by unfold keepP; have := h1 y hy; simpa using fun e => this e.symm)]
   rfl
  ·rw [List.filter_cons_of_pos (by unfold keepP; simpa using h1 T h), List.length_cons, filter_one h2 h]
   rfl
theorem left_snoc (R : List Rk) (out : List Int) (t : Int) : leftOf R (out ++ [t]) = (leftOf R out).filter (keepP t) := by
 unfold leftOf
 rw [List.filter_filter]
 congr 1
 funext r
 unfold keepP
 rw [Bool.and_comm]
 by_cases h : r.place = t <;> simp [h]
theorem OrdSt.step {R rs : List Rk} {r : Rk} {out : List Int} (hR : R.Pairwise (fun a b => a.place ≠ b.place)) (h : OrdSt R (r :: rs) out) :
  OrdSt R ((r :: rs).filter (keepP (bestR r rs).place)) (out ++ [(bestR r rs).place]) := by
 have hb := best_spec r rs
 have h1 := h.eq
 have hp : (r :: rs).Pairwise (fun a b => a.place ≠ b.place) := by rw [h1]; exact hR.filter _
 have hl := filter_one hp hb.mem
 refine ⟨by rw [left_snoc, ← h1], by have := h.len; rw [List.length_append]; simp only [List.length_cons, List.length_nil] at *; omega, fun p k hk => ?_⟩
 by_cases hlt : p < out.length
 ·rw [List.getElem?_append_left hlt] at hk
  rw [List.take_append_of_le_length (by omega)]
  exact h.best p k hk
 ·rw [List.getElem?_append_right (by omega)] at hk
  have e : p = out.length := by
   have := (List.getElem?_eq_some_iff.1 hk).1
   simp at this; omega
  subst e
  simp at hk
  rw [List.take_left]
  exact ⟨_, hk, h1 ▸ hb⟩
theorem rks_apart (xs : List Cd) : (rksOf xs).Pairwise (fun a b => a.place ≠ b.place) := by
 rw [List.pairwise_iff_getElem]
 intro i j hi hj hij
 unfold rksOf at *
 simp only [List.getElem_mapIdx]
 show (i : Int) ≠ (j : Int)
 omega
theorem RkRow.belowB {w w' : World} {B g n : Nat} {rs : List Rk} (h : RkRow w g n rs) (hb : Below B w w') (hg : g < B) : RkRow w' g n rs := by
 refine ⟨fun i x hx j v hv => ?_, fun j hj => ?_⟩
 ·rw [hb.cell hg]; exact h.1 i x hx j v hv
 ·obtain ⟨h1, h2⟩ := h.2 j hj
  exact ⟨by rw [hb.cell hg]; exact h1, (hb.frozen (p := ⟨g, 0 + j, none⟩) hg).trans h2⟩
theorem RkRow.rks {w : World} {g n : Nat} {rs : List Rk} (h : RkRow w g n rs) (hl : rs.length ≤ n) (hm : n ≤ maxLen) : RksAt w (.slice (some ⟨g, 0, none⟩) rs.length n) rs :=
 ⟨_, _, rfl, hl, hm, fun _ => ⟨g, 0, rfl, fun i x hx => ⟨rkL x, rfl, rfl, fun j c hc => by rw [Nat.zero_add]; exact h.1 i x hx j c hc⟩⟩⟩
theorem own_kept {F : Nat → Prop} {w w' : World} {B k : Nat} {e : TypeId} {n : Nat} {v : Value} {xs : List Value} (h : w.ownsRow B e k v n xs) (hk : Kept F w w') (hne : ∀ g, v.ownBlock = some g → ¬ F g) : w'.ownsRow B e k v n xs := by
 obtain ⟨h1, h2⟩ := h
 refine ⟨h1, h2.imp_right ?_⟩
 rintro ⟨g, cap, cur, h3, h4, h5, h6⟩
 exact ⟨g, cap, cur, h3, h4, (hk.block g (zE h5) (hne g (by rw [h3]; rfl))).trans h5, h6⟩
theorem Kept.on {F : Nat → Prop} {a b c : World} (h : Kept F a b) (k : Below a.heap.size b c) : Kept F a c :=
 ⟨k.os.trans h.os, k.tape.trans h.tape, k.output.trans h.output, Nat.le_trans h.size k.size, fun i hi hf => (k.block i hi).trans (h.block i hi hf)⟩
theorem own_nil {w : World} {B k : Nat} {e : TypeId} : w.ownsRow B e k (.slice none 0 0) 0 [] := ⟨by simp, .inl ⟨rfl, rfl⟩⟩
def sliceLen : Value → Nat | .slice _ n _ => n | _ => 0
def OrderPost (w : World) (R : List Rk) (e : Ending) (w' : World) : Prop := ∃ v' out, e = .returned v' ∧ OrdSt R [] out ∧ SlAt w' 1 (fun x cs => cs = intL x) v' out ∧ Below w.heap.size w w'
set_option maxHeartbeats 6400000 in
set_option maxRecDepth 100000 in
theorem ch_Order (v : Value) (xs : List Cd) (w : World) (h : CdsAt w v xs) (hn : xs.length ≤ 100000) (hh : ∀ c ∈ xs, hopsN c.a.path ≤ 4611686018427387904) : Calls Tryz.prog 74 #[v] w (OrderPost w (rksOf xs)) := by
 obtain ⟨i0, hii, hz0, hz1, hz2⟩ := info_parts info_int
 have RK := zh (ch_ranks v xs w h hn hh)
 have FI := zh (cds_first h)
 have HF : Hid (∀ q ∈ rksOf xs, I64r q.first) := zh (fun q hq => by
  obtain ⟨i, d, hi, rfl⟩ := rksOf_mem.1 hq
  exact FI.out d (List.mem_of_getElem? hi))
 have HL := zh (rksOf_len xs)
 have AP := zh (rks_apart xs)
 have I0 := zh (OrdSt.init (rksOf xs))
 generalize rksOf xs = R at RK HF HL AP I0 ⊢
 generalize xs.length = n at hn RK HL
 clear h hh FI
 have n0 : ((n : Int) > 0) ∨ n = 0 := by omega
 go_enter Tryz.func74, Tryz.ntmps74
 go_wp2_with fail
 refine RK.out.mono ?_
 rintro e w1 ⟨g, rfl, R1, hg, hb1⟩
 by_cases hz : n = 0
 ·subst hz
  have e0 : R = [] := List.length_eq_zero_iff.1 HL.out
  subst e0
  clear RK R1
  go_wp2_with fail
  go_loopw [3, 4] (fun vl vo wr => vl = .slice (some ⟨g, 0, none⟩) 0 0 ∧ vo = .slice none 0 0 ∧ wr = w1) (fun _ _ _ => 0)
  case atStart => exact ⟨rfl, rfl, rfl⟩
  case round =>
   obtain ⟨rfl, rfl, rfl⟩ := hrel
   go_wp2_with fail
   go_ret
   exact ⟨_, [], rfl, I0.out, SlAt.nil, hb1⟩
 ·have GL : Hid (g < w1.heap.size) := zh (by
   obtain ⟨h1, _⟩ := R1.2 0 (by omega)
   obtain ⟨u, hu⟩ := Option.isSome_iff_exists.1 h1
   exact zH hu)
  have R1 := zh R1
  have B1 := zh hb1
  have GG := zh hg
  clear RK hb1 hg n0
  go_wp2_with fail
  go_loopw [3, 4] (fun vl vo wr => ∃ left out, vl = .slice (some ⟨g, 0, none⟩) left.length n ∧ left.length ≤ n ∧ out.length ≤ n ∧ Hid (OrdSt R left out) ∧ Hid (RkRow wr g n left) ∧ Hid (wr.ownsRow w1.heap.size 3 1 vo out.length (out.flatMap intL)) ∧ Hid (Kept (fun b => b = g) w1 wr)) (fun vl _ _ => sliceLen vl)
  case atStart => exact ⟨R, [], by rw [HL.out], by rw [HL.out]; omega, by simp, I0, R1, zh own_nil, zh (Kept.refl _ _)⟩
  case round =>
   clear I0 R1
   obtain ⟨left, out, rfl, hl1, hl2, OS, RR, O, K⟩ := hrel
   cases left with
   | nil =>
    have SL := zh (own_slat (C := intL) (xs := out) intL_len O.out)
    have BB := zh (B1.out.trans (K.out.below B1.out.size (fun k hk => by rw [hk]; exact GG.out)))
    clear RR O K
    go_wp2_with fail
    go_ret
    exact ⟨_, out, rfl, OS.out, SL.out, BB.out⟩
   | cons r rs =>
    have hlr : rs.length ≤ 100000 := by simp only [List.length_cons] at hl1; omega
    have OK : ∀ q ∈ r :: rs, I64r q.first := fun q hq => by
     rw [OS.out.eq] at hq
     exact HF.out q (List.mem_filter.1 hq).1
    have BE := zh (ch_best _ r rs wr (RR.out.rks hl1 (by unfold maxLen; omega)) hlr OK (left_ne r rs))
    have OS2 := zh (OS.out.step AP.out)
    have T1 : (bestR r rs) ∈ r :: rs := (best_spec r rs).mem
    have HD := zh (fun tb W R ht hne => ch_Delete g n (r :: rs) tb (bestR r rs).place W R hl1 hn ht hne)
    have HL2 : Hid (((r :: rs).filter (keepP (bestR r rs).place)).length + 1 = (r :: rs).length) := zh (by
     have a := OS2.out.len
     have b := OS.out.len
     rw [List.length_append] at a
     simp only [List.length_cons, List.length_nil] at *; omega)
    have OL : Hid (out.length + 1 ≤ n) := zh (by
     have b := OS.out.len
     have := HL.out
     simp only [List.length_cons] at b; omega)
    generalize (r :: rs).filter (keepP (bestR r rs).place) = lf at OS2 HD HL2
    generalize bestR r rs = T at BE OS2 HD
    have m0 : (((r :: rs).length : Nat) : Int) > 0 := by simp only [List.length_cons]; omega
    generalize hm : (r :: rs).length = m at *
    clear OK T1 OS hlr
    go_wp2_with fail
    refine BE.out.mono ?_
    rintro e w2 ⟨rfl, hb2⟩
    have RR2 := zh (RR.out.below hb2)
    have O2 := zh (zQ O.out hb2)
    have K2 := zh (K.out.trans (Kept.of_below hb2))
    clear BE hb2 RR O K
    go_upto_region 5 with (fail)
    obtain ⟨W4, hW4, q4, hb4, hs4⟩ := boxK w2 T
    rw [← hW4]
    clear hW4
    have NB : Hid (w2.heap.size ≠ g) := zh (by have := GL.out; have := K2.out.size; omega)
    have GE : Hid (w1.heap.size ≤ w2.heap.size) := zh K2.out.size
    have RR4 := zh (RR2.out.below hb4)
    have O4 := zh (zQ O2.out hb4)
    have K4 := zh (K2.out.trans (Kept.of_below hb4))
    have Q4 := zh q4
    have OB := zh (own_type O4.out q4 (by decide))
    obtain ⟨x0, -⟩ := rk_row q4
    have X4 := zh x0
    clear q4 hb4 hs4 RR2 O2 K2
    generalize w2.heap.size = tb at Q4 NB GE OB X4 x0 ⊢
    go_wp2_with (at_builtin; refine wpList_append_own_at _ rfl _ _ 39 rfl w1.heap.size 3 i0 _ 1 8 Tryz.underlying39 hii hz0 hz1 hz2 rfl (by decide) _ out.length (out.flatMap intL) rfl (O4.out.alloc _) ⟨W4.heap.size, 0, none⟩ 1 1 (intL T.place) rfl ?ar1 ?br1 ?cr1 ?dr1 ?er1 ?fr1 ?_)
    case ar1 => rfl
    case br1 => exact new_cells _ _ _
    case cr1 => intro u hu; simp at hu; subst hu; rfl
    case dr1 => have := OL.out; unfold maxLen; omega
    case er1 => have := OL.out; omega
    case fr1 => have := K4.out.size; simp; omega
    intro v' w5 hown hgrow _ _
    have O5 : Hid (w5.ownsRow w1.heap.size 3 1 v' (out ++ [T.place]).length ((out ++ [T.place]).flatMap intL)) := zh (by
     rw [List.length_append, flat_snoc]
     exact hown)
    have B5 : Below w1.heap.size W4 w5 := ((Below.refl _ _).alloc K4.out.size _).grown hgrow (by have := K4.out.size; simp; omega) (zJ O4.out)
    have RR5 := zh (RR4.out.belowB B5 GL.out)
    have K5 := zh (K4.out.on B5)
    have tl : tb < W4.heap.size := zE Q4.out
    have X5 : w5.cell? ⟨tb, 0, none⟩ = some (.int .i64 T.place) := by
     rw [World.cell?_of_block (hgrow.block tb (by simp; omega) (Ne.symm OB.out))]
     exact zA X4.out ((Below.refl _ _).alloc (Nat.le_refl _) _)
    have HD2 := zh (HD.out tb w5 RR5.out X5 NB.out)
    clear hown hgrow B5 tl X5 X4 x0 Q4 RR4 O4 K4 OB HD RR5
    go_wp2_with fail
    refine HD2.out.mono ?_
    rintro e w6 ⟨rfl, RR6, K6⟩
    have O6 := zh (own_kept O5.out K6 (fun j hj hjg => by
     have a := zJ O5.out j hj
     have b := GL.out
     omega))
    have K7 := zh (K5.out.trans K6)
    have RR6 := zh RR6
    clear HD2 O5 K5 K6
    go_wp2_with fail
    exact ⟨⟨lf, out ++ [T.place], rfl, by have := HL2.out; omega, by rw [List.length_append]; exact OL.out, OS2, RR6, O6, K7⟩, by have := HL2.out; unfold sliceLen; simp only; omega⟩
open Go.RowKit
theorem said_cs {W : World} {rho : Nat → Role} {sb fb : Nat} {ls : List Pl} {S : Sv} (h : SrvM W rho sb fb ls S) {p : Pf} {xs : List CV} (hx : xs.map (·.c) = saidS S.ms p) : (∀ x ∈ xs, OkC x.c) ∧ (∀ x ∈ xs, ∃ j : Nat, j < 16 ∧ x.c.peer = (j : Int)) ∧ xs.length ≤ 16 := by
 have hm : ∀ x ∈ xs, x.c ∈ saidS S.ms p := fun x hm => by rw [← hx]; exact List.mem_map.2 ⟨x, hm, rfl⟩
 refine ⟨fun x hxm => h.saidOk _ (hm x hxm), fun x hxm => ?_, ?_⟩
 ·obtain ⟨k, m, b, hk, -, e⟩ := saidS_mem (hm x hxm)
  have := (List.getElem?_eq_some_iff.1 hk).1
  have := h.bod.few
  exact ⟨k, by omega, by rw [e]; rfl⟩
 ·have h1 := congrArg List.length hx
  rw [List.length_map] at h1
  rw [h1]
  exact Nat.le_trans (saidS_len ..) h.bod.few
theorem said_net {S : Sv} {p : Pf} {xs : List CV} (hp : OkP p) (hx : xs.map (·.c) = saidS S.ms p) : ∀ x ∈ xs, (x.c.na : Int) = p.1 ∧ x.c.nl = p.2 := fun x hm => by
 have h1 : x.c ∈ saidS S.ms p := by rw [← hx]; exact List.mem_map.2 ⟨x, hm, rfl⟩
 obtain ⟨k, m, b, hk, -, e⟩ := saidS_mem h1
 rw [e]
 exact ⟨Int.toNat_of_nonneg hp.1, rfl⟩
theorem ord_perm {l : List Cd} {ord : List Int} (h : OrdSt (rksOf l) [] ord) : ord.Perm ((List.range l.length).map fun (i : Nat) => (i : Int)) := by
 have hlen : ord.length = l.length := by
  have := h.len
  rw [rksOf_len] at this
  simpa using this
 have hin : ∀ (p : Nat) (k : Int), ord[p]? = some k → ∃ i : Nat, i < l.length ∧ k = (i : Int) ∧ k ∉ ord.take p := fun p k hk => by
  obtain ⟨r, rfl, hb⟩ := h.best p k hk
  have hm := hb.mem
  unfold leftOf at hm
  obtain ⟨h1, h2⟩ := List.mem_filter.1 hm
  obtain ⟨i, c, hi, rfl⟩ := rksOf_mem.1 h1
  refine ⟨i, (List.getElem?_eq_some_iff.1 hi).1, rfl, ?_⟩
  simpa using h2
 have hnd : ord.Nodup := by
  rw [List.nodup_iff_pairwise_ne, List.pairwise_iff_getElem]
  intro i j hi hj hij e
  obtain ⟨-, -, -, h4⟩ := hin j ord[j] (List.getElem?_eq_getElem hj)
  apply h4
  rw [← e]
  exact List.mem_take_iff_getElem.2 ⟨i, by omega, rfl⟩
 refine perm_len _ _ hnd (fun k hk => ?_) (by simp [hlen])
 obtain ⟨p, hp⟩ := List.getElem?_of_mem hk
 obtain ⟨i, h1, h2, -⟩ := hin p k hp
 exact List.mem_map.2 ⟨i, List.mem_range.2 h1, h2.symm⟩
theorem ord_first {l : List Cd} {ord : List Int} (h : OrdSt (rksOf l) [] ord) {k : Int} (hk : ord[0]? = some k) : bestI l = k := by
 obtain ⟨r, rfl, hb⟩ := h.best 0 k hk
 have e : leftOf (rksOf l) (ord.take 0) = rksOf l := by
  unfold leftOf
  rw [List.filter_eq_self]
  intro x _
  simp
 rw [e] at hb
 obtain ⟨i, c, hi, rfl⟩ := rksOf_mem.1 hb.mem
 exact bestI_of hi hb
def pickCV (ys : List CV) (p : Pf) (k : Int) : BE := match ys[k.toNat]? with | some y => ⟨y.c.peer, p, y.c.a, y.v⟩ | none => ⟨0, p, ⟨0, 0, [], 0, 0, 0, 0, 0, [], []⟩, av0⟩
def beC (x : BE) : Int × At := (x.peer, x.a)
theorem pick_perm {ys : List CV} {p : Pf} {ord : List Int} (h : ord.Perm ((List.range ys.length).map fun (i : Nat) => (i : Int))) : ((ord.map (pickCV ys p)).map beC).Perm (ys.map fun y => (y.c.peer, y.c.a)) := by
 have h1 := (h.map (pickCV ys p)).map beC
 refine h1.trans ?_
 rw [List.map_map, List.map_map]
 have : (List.range ys.length).map (beC ∘ pickCV ys p ∘ fun (i : Nat) => (i : Int)) = ys.map fun y => (y.c.peer, y.c.a) := by
  apply List.ext_getElem?
  intro i
  rw [List.getElem?_map, List.getElem?_map]
  by_cases hi : i < ys.length
  ·rw [List.getElem?_range hi, List.getElem?_eq_getElem hi]
   simp [pickCV, beC, hi]
  ·rw [List.getElem?_eq_none (by simpa using hi), List.getElem?_eq_none (by omega)]
   rfl
 show (List.map (beC ∘ pickCV ys p ∘ fun (i : Nat) => (i : Int)) (List.range ys.length)).Perm _
 rw [this]
abbrev OwnOf := OwnR 61 13 beL (fun x W => AvAt W x.a x.v)
def OffersPost (l : List Cd) (p : Pf) (W : World) (e : Ending) (w' : World) : Prop :=
 ∃ (s : Option Addr) (c : Nat) (L : List BE) (A : Nat → Prop), e = .returned (.slice s L.length c) ∧ OwnOf w' W.heap.size (.slice s L.length c) L A ∧ (L.map beC).Perm (l.map fun c => (c.peer, c.a)) ∧ (∀ x ∈ L, x.p = p) ∧ (∀ x, L[0]? = some x → pickB l = some (x.peer, x.a)) ∧ Below W.heap.size W w'
section
variable {W : World} {rho : Nat → Role} {sb fb : Nat} {ls : List Pl} {S : Sv}
set_option maxHeartbeats 1600000 in
set_option maxRecDepth 100000 in
theorem offers_none (p : Pf) {f : Value} (n : Int) (W : World) (MB : ∀ w1, Below W.heap.size W w1 → Calls Tryz.prog 58 #[f, .int .i64 n] w1 fun e w2 => e = .returned (.pointer none) ∧ w1 = w2) :
  Calls Tryz.prog 30 #[f, .int .i64 n, .agg #[.int .u32 p.1, .int .i64 p.2]] W fun e w' => e = .returned (.slice none 0 0) ∧ Below W.heap.size W w' := by
 have MB := zh MB
 go_enter Tryz.func30, Tryz.ntmps30
 go_upto_region 1 with (fail)
 obtain ⟨W0, hW0, c0, c1, hB⟩ := box2 W (.int .u32 p.1) (.int .i64 p.2) 53
 rw [← hW0]
 have B0 := zh hB
 clear hW0 hB
 go_wp2_with fail
 refine (MB.out _ B0.out).mono ?_
 rintro e w1 ⟨rfl, rfl⟩
 go_wp2_with fail
 go_ret
 exact ⟨rfl, B0.out⟩
theorem sv_Offers_no (h : SrvM W rho sb fb ls S) {n : Int} (hn : ¬ (0 ≤ n ∧ n < (S.ms.length : Int))) (p : Pf) : Calls Tryz.prog 30 #[.pointer (some ⟨sb, 0, none⟩), .int .i64 n, .agg #[.int .u32 p.1, .int .i64 p.2]] W fun e w' => e = .returned (.slice none 0 0) ∧ Below W.heap.size W w' :=
 offers_none p n W fun _ hb => sv_member_no (h.below hb) hn
theorem iL_at {w : World} {s : Option Addr} {n c : Nat} {xs : List Int} (h : SlAt w 1 (fun x cs => cs = intL x) (.slice s n c) xs) {i : Nat} {x : Int} (hx : xs[i]? = some x) : ∃ g o, s = some ⟨g, o, none⟩ ∧ w.cell? ⟨g, o + i, none⟩ = some (.int .i64 x) := by
 obtain ⟨s', c', e, h1, h2, h3⟩ := h
 injection e with e _ _
 subst e
 have hi := (List.getElem?_eq_some_iff.1 hx).1
 obtain ⟨b, off, rfl, h4⟩ := h3 (by omega)
 obtain ⟨cs, -, rfl, hc⟩ := h4 i x hx
 have := hc 0 _ rfl
 rw [Nat.mul_one] at this
 exact ⟨b, off, rfl, this⟩
set_option maxHeartbeats 6400000 in
set_option maxRecDepth 100000 in
theorem sv_Offers (h : SrvM W rho sb fb ls S) {i : Nat} {m : Pm} (hm : S.ms[i]? = some m) (p : Pf) (hp : KOk p) :
  Calls Tryz.prog 30 #[.pointer (some ⟨sb, 0, none⟩), .int .i64 i, .agg #[.int .u32 p.1, .int .i64 p.2]] W (OffersPost (offS S.own S.bl S.ms i p) p W) := by
 obtain ⟨l, hl, hM⟩ := h.get hm
 have HS := zh h
 have HM := zh hm
 have HP := zh hp
 have MB := zh (fun w' (hb : Below W.heap.size W w') => sv_member (h.below hb) hl)
 have AS : Hid (asOf S.ms i = m.as_) := zh (by unfold asOf; rw [hm]; rfl)
 obtain ⟨i0, hii, hz0, hz1, hz2⟩ := info_parts info_rtB
 clear h hm hl hM hp
 go_enter Tryz.func30, Tryz.ntmps30
 go_upto_region 1 with (fail)
 obtain ⟨W0, hW0, c0, c1, hB⟩ := box2 W (.int .u32 p.1) (.int .i64 p.2) 53
 rw [← hW0]
 obtain ⟨pb, hpb⟩ : ∃ pb, pb = W.heap.size := ⟨_, rfl⟩
 rw [← hpb] at c0 c1 ⊢
 have B0 := zh hB
 have HS0 := zh (HS.out.below hB)
 have SD := zh (sv_said HS0.out p HP.out.1)
 clear hW0 hB hpb
 go_wp2_with fail
 refine (MB.out _ B0.out).mono ?_
 rintro e w1 ⟨rfl, rfl⟩
 go_wp2_with fail
 refine SD.out.mono ?_
 rintro e w2 ⟨sx, cx, xs, A, rfl, ox, xe, hb2⟩
 have HS2 := zh (HS0.out.below hb2)
 have AC := zh (said_cs HS2.out xe)
 have XE := zh xe
 have XO := zh ox
 have B2 := zh (zC B0.out hb2)
 have OF := zh (sv_offered HS2.out HM.out (.slice sx xs.length cx) xs ox.at AC.out.2.1 AC.out.2.2)
 clear ox xe hb2 SD c0 c1 HS0 MB
 go_wp2_with fail
 refine OF.out.mono ?_
 rintro e w3 ⟨so, co, rfl, fo, hb3⟩
 obtain ⟨ys, hys⟩ : ∃ ys, goL S.own S.bl i m.as_ xs = ys := ⟨_, rfl⟩
 rw [hys] at fo ⊢
 have YE : Hid (ys.map (·.c) = offS S.own S.bl S.ms i p) := zh (by
  rw [← hys, goL_c]
  unfold offS
  rw [AS.out, ← XE.out])
 have YM : Hid (∀ y ∈ ys, y ∈ xs) := zh (by rw [← hys]; intro y hy; exact (List.mem_filter.1 hy).1)
 have YL : Hid (ys.length ≤ 16) := zh (by rw [← hys]; exact Nat.le_trans (List.length_filter_le ..) AC.out.2.2)
 have X3 := zh (XO.out.below hb3)
 have CY : Hid (CvsAt w3 (.slice so ys.length co) ys) := zh ⟨fo.self, fun y hy => X3.out.mem.self y (YM.out y hy)⟩
 have OKY : Hid (∀ y ∈ ys, OkC y.c) := zh fun y hy => AC.out.1 y (YM.out y hy)
 have B3 := zh (zC B2.out hb3)
 have OD := zh (ch_Order (.slice so ys.length co) (ys.map (·.c)) w3 (CY.out.cds OKY.out) (by rw [List.length_map]; have := YL.out; omega) (fun c hc => by
  obtain ⟨y, hy, rfl⟩ := List.mem_map.1 hc
  exact (OKY.out y hy).2.2.2.2.hops))
 clear fo hys hb3 OF XO HS2
 go_wp2_with fail
 refine OD.out.mono ?_
 rintro e w4 ⟨vo, ord, rfl, os, oi, hb4⟩
 obtain ⟨si, ci, rfl, oil, -⟩ := id oi
 have OP := zh (ord_perm os)
 have OS1 := zh os
 have OI := zh oi
 have B4 := zh (zC B3.out hb4)
 have X4 := zh (X3.out.below hb4)
 have CY4 := zh (CY.out.below hb4)
 have OL : Hid (ord.length = ys.length) := zh (by have := OP.out.length_eq; simpa using this)
 have ol : ord.length ≤ 16 := by rw [OL.out]; exact YL.out
 have A4 : Hid (∀ k, A k → k < w4.heap.size) := zh (fun k hk => (X4.out.lt k hk).2)
 clear os oi oil hb4 OD X3 CY B3
 have O0 : Hid (w4.ownsRow w4.heap.size 61 13 (.slice none 0 0) 0 (((ord.take 0).map (pickCV ys p)).flatMap beL)) := zh ⟨by simp, .inl ⟨rfl, rfl⟩⟩
 go_wp2_with fail
 go_loopw [24, 8] (fun t24 t8 wr => ∃ (j : Nat) (s : Option Addr) (c : Nat), j ≤ ord.length ∧ t24 = .int .i64 j ∧ t8 = .slice s j c ∧ Hid (wr.ownsRow w4.heap.size 61 13 (.slice s j c) j (((ord.take j).map (pickCV ys p)).flatMap beL)) ∧ Hid (Below w4.heap.size w4 wr)) (fun t24 _ _ => ord.length - (intOf t24).toNat)
 case atStart => exact ⟨0, none, 0, by omega, rfl, rfl, O0, zh (Below.refl _ _)⟩
 case round =>
  clear O0
  obtain ⟨j, s, c, hj, rfl, rfl, OW, BV⟩ := hrel
  by_cases hjl : j < ord.length
  ·obtain ⟨k, hk⟩ : ∃ k, ord[j]? = some k := ⟨_, List.getElem?_eq_getElem hjl⟩
   obtain ⟨q, hq, rfl⟩ : ∃ q : Nat, q < ys.length ∧ k = (q : Int) := by
    have := OP.out.mem_iff.1 (List.mem_of_getElem? hk)
    obtain ⟨q, hq, rfl⟩ := List.mem_map.1 this
    exact ⟨q, by simpa using hq, rfl⟩
   obtain ⟨y, hy⟩ : ∃ y, ys[q]? = some y := ⟨_, List.getElem?_eq_getElem hq⟩
   obtain ⟨gi, oi, rfl, ci0⟩ := iL_at (SlAt.below OI.out BV.out fun _ _ h => h) hk
   obtain ⟨gy, oy, rfl, hr, -⟩ := cvs_at (CY4.out.below BV.out) hy
   have RR := zh (cv_rt hr (said_net HP.out.1 XE.out y (YM.out y (List.mem_of_getElem? hy))).1 (said_net HP.out.1 XE.out y (YM.out y (List.mem_of_getElem? hy))).2)
   have PK : Hid (pickCV ys p (q : Int) = ⟨y.c.peer, p, y.c.a, y.v⟩) := zh (by unfold pickCV; rw [Int.toNat_natCast, hy])
   have TK : Hid (ord.take (j + 1) = ord.take j ++ [(q : Int)]) := zh (take_snoc hk)
   have j0 : (0 : Int) ≤ (j : Int) := by omega
   have j1 : (j : Int) < (ord.length : Int) := by omega
   have q0 : (0 : Int) ≤ (q : Int) := by omega
   have q1 : (q : Int) < (ys.length : Int) := by omega
   clear hk hy hr hq
   go_wp2_with ((with_reducible refine zM (X := .load 61 (.tmp 32)) ?_ ?_); (· rfl))
   unfold Halt
   refine ldm_at (by rfl) 61 (.tmp 32) rfl gy (oy + q * 14) rfl (rtC y.c.peer p y.v).toList _ RR.out Tryz.underlying61 rfl sz_rt ?_
   go_wp2_with ((with_reducible refine wpList_rt1 (.tmp 33) rfl ?_ y.c.peer p y.v ?_ ?_); (· rfl); (· rfl))
   intro w7 hc7 hb7 hz7
   have O7 := zh (zQ OW.out hb7)
   have BV7 := zh (zC BV.out hb7)
   clear hb7 hz7 BV OW RR
   refine wpList_append_own_at _ rfl (.tmp 28) (.tmp 34) 57 rfl w4.heap.size 61 i0 _ 13 152 Tryz.underlying57 hii hz0 hz1 hz2 rfl (by decide) (.slice s j c) j (((ord.take j).map (pickCV ys p)).flatMap beL) rfl O7.out ⟨wr.heap.size, 0, none⟩ 1 1 (rtC y.c.peer p y.v).toList rfl rfl (fun j y hy => by have h := hc7 j y hy; unfold Addr.add; split; (· rename_i e; subst e; exact h); (· simpa using h)) (beL_one ⟨y.c.peer, p, y.c.a, y.v⟩) (by unfold maxLen; omega) (by omega) BV7.out.size ?_
   intro v8 w8 h2 h3 _ hat
   obtain ⟨s8, c8, hv8, -⟩ := zV h2
   subst hv8
   have O8 : Hid (w8.ownsRow w4.heap.size 61 13 (.slice s8 (j + 1) c8) (j + 1) (((ord.take (j + 1)).map (pickCV ys p)).flatMap beL)) := zh (by
    rw [TK.out, List.map_append, List.flatMap_append]
    have e : ([(q : Int)].map (pickCV ys p)).flatMap beL = (rtC y.c.peer p y.v).toList := by
     rw [List.map_cons, List.map_nil, PK.out]; rfl
    rw [e]
    exact h2)
   have BV8 := zh (BV7.out.trans ((kept_gr h3).below BV7.out.size fun g hg => zJ O7.out g hg))
   clear h2 h3 hat hc7 O7 BV7
   go_wp2_with fail
   exact ⟨⟨j + 1, s8, c8, by omega, by go_num, rfl, O8, BV8⟩, by simp [intOf]; omega⟩
  ·obtain rfl : j = ord.length := by omega
   have FIN : Hid (OffersPost (offS S.own S.bl S.ms i p) p W (.returned (.slice s ord.length c)) wr) := zh (by
    have hw := OW.out
    rw [List.take_length] at hw
    have el : (ord.map (pickCV ys p)).length = ord.length := List.length_map ..
    have hmm : ∀ x ∈ ord.map (pickCV ys p), ∃ y ∈ ys, x = ⟨y.c.peer, p, y.c.a, y.v⟩ := fun x hx => by
     obtain ⟨k, hk, rfl⟩ := List.mem_map.1 hx
     obtain ⟨q, hq, rfl⟩ := List.mem_map.1 (OP.out.mem_iff.1 hk)
     have hq : q < ys.length := by simpa using hq
     exact ⟨ys[q], List.getElem_mem hq, by unfold pickCV; rw [Int.toNat_natCast, List.getElem?_eq_getElem hq]⟩
    refine ⟨s, c, ord.map (pickCV ys p), A, by rw [el], ⟨?_, ?_, fun k hk => ⟨Nat.le_trans B0.out.size (X4.out.lt k hk).1, Nat.lt_of_lt_of_le (A4.out k hk) BV.out.size⟩, fun g hg hA => ?_⟩, ?_, fun x hx => ?_, fun x hx => ?_, zC B4.out BV.out⟩
    ·rw [el]; exact own_base hw B4.out.size
    ·refine (X4.out.mem.below BV.out).imp fun V hV x hx => ?_
     obtain ⟨y, hy, rfl⟩ := hmm x hx
     exact hV y (YM.out y hy)
    ·rw [el] at hg
     have h1 := zJ hw g hg
     have h2 := A4.out g hA
     omega
    ·have := pick_perm (p := p) (by have h1 := OP.out; simpa only [List.length_map] using h1)
     rw [← YE.out, List.map_map (l := ys)]
     exact this
    ·obtain ⟨y, -, rfl⟩ := hmm x hx
     rfl
    ·rw [List.getElem?_map] at hx
     cases hk : ord[0]? with
     | none => rw [hk] at hx; simp at hx
     | some k =>
      rw [hk] at hx; simp at hx
      have hb := ord_first OS1.out hk
      obtain ⟨q, hq, rfl⟩ := List.mem_map.1 (OP.out.mem_iff.1 (List.mem_of_getElem? hk))
      have hq : q < ys.length := by simpa using hq
      have hy : ys[q]? = some ys[q] := List.getElem?_eq_getElem hq
      rw [← YE.out]
      unfold pickB
      rw [hb, if_neg (by omega), Int.toNat_natCast, List.getElem?_map, hy]
      rw [← hx]
      unfold pickCV
      rw [Int.toNat_natCast, hy]
      rfl)
   clear OW BV
   go_wp2_with fail
   go_ret
   exact FIN.out
end
end Go.Proofs.YtkoidahgbbabiaaGreat
