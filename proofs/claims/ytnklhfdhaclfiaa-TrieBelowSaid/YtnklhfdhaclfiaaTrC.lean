/-
  TrieBelow: the two functions that are called at each.
-/
import Derived.Test.YtnklhfdhaclfiaaTrQ
import Derived.Test.YtnklhfdhaclfiaaRgS
import Derived.Shelf.Abstract
namespace Go.Proofs.Ytnklhfdhaclfiaa
open Go.RowKit

/-- a count as the program keeps it. -/
def cnt : Nat → Int
  | 0 => 0
  | k + 1 => wrap64 (cnt k + 1)
theorem cnt_eq : ∀ k : Nat, k ≤ 1000000 → cnt k = k
  | 0, _ => rfl
  | k + 1, h => by
    rw [cnt, cnt_eq k (by omega)]
    rw [IntWalk.wrap64_in _ ⟨by omega, by omega⟩]
    omega
/-- what lies there while one goes through all. -/
structure FxB (Wf : World) (tb : Nat) (N : Nat → Option Nat) (S : List (Nat × Value)) (xs : List Pf) (sa : Option Addr) (cap pb psb ab pa : Nat) (pn : Int) (a : Nat) : Prop where
  tri : TrI Wf tb N S 100
  p0 : Wf.cell? ⟨pb, 0, none⟩ = some (.int .u32 pa)
  p1 : Wf.cell? ⟨pb, 1, none⟩ = some (.int .i64 pn)
  hs : Wf.cell? ⟨psb, 0, none⟩ = some (.slice sa xs.length cap)
  a0 : Wf.cell? ⟨ab, 0, none⟩ = some (.int .u32 a)
  el : 0 < xs.length → ∃ b off : Nat, sa = some ⟨b, off, none⟩ ∧ PfsIn Wf b off xs
  idx : ∀ κ v, getL S κ = some v → ∃ (k : Nat) (p : Pf), xs[k]? = some p ∧ PfOk p ∧ pRight p = true ∧ pKey p = κ ∧ v = .int .i64 k
  len : xs.length ≤ 40
  pa32 : pa < 4294967296
  a32 : a < 4294967296
theorem pf_eq {p q : Pf} (hp : PfOk p) (hq : PfOk q) (rp : pRight p = true) (rq : pRight q = true) (h : pKey p = pKey q) : p = q := by
  have h2 := right_len hp hq rp rq h
  obtain ⟨a, n⟩ := p
  obtain ⟨b, m⟩ := q
  simp only at h2
  subst h2
  obtain ⟨k, rfl⟩ := Int.eq_ofNat_of_zero_le (rightB_range rp).1
  have m1 := right_mod.1 rp
  have m2 := right_mod.1 rq
  obtain ⟨_, e⟩ := keyN_inj hp.1 hq.1 m1.2 m1.2 h
  have := key_block m1.1 m2.1 e
  simp only at this
  rw [this]
structure BI1 (Wf : World) (nb rb : Nat) (p : Pf) (P : Nat → Prop) (L : List Itm) (W : World) : Prop where
  bel : Below Wf.heap.size Wf W
  n : W.heap[nb]? = some (.cells #[.int .i64 (cnt L.length)] 3 (0, 0))
  r : W.heap[rb]? = some (.cells #[.bool (L.all (covX p))] 4 (0, 0))
  hn : Wf.heap.size ≤ nb
  hr : Wf.heap.size ≤ rb
  ne : nb ≠ rb
  fn : ¬ P nb
  fr : ¬ P rb
theorem BI1.last {Wf W W1 w1 : World} {nb rb : Nat} {p : Pf} {P : Nat → Prop} {L : List Itm} {x : Itm} {r0 c : Bool} (h : BI1 Wf nb rb p P L W) (b1 : Below Wf.heap.size Wf W1) (n1 : W1.heap[nb]? = some (.cells #[.int .i64 (cnt (L.length + 1))] 3 (0, 0))) (r1 : W1.heap[rb]? = some (.cells #[.bool r0] 4 (0, 0)))
    (k1 : Kept (fun b => ¬ P b) W W1) (hb : Below W1.heap.size W1 w1) (hc : c = (L.all (covX p) && covX p x)) : BI1 Wf nb rb p P (L ++ [x]) (w1.setCell ⟨rb, 0, none⟩ (.bool c)) ∧ Kept (fun b => ¬ P b) W (w1.setCell ⟨rb, 0, none⟩ (.bool c)) := by
  refine ⟨⟨?_, ?_, ?_, h.hn, h.hr, h.ne, h.fn, h.fr⟩, (k1.grow hb).put _ _ (.inl h.fr)⟩
  · exact (b1.trans (hb.mono b1.size)).setCell h.hr _
  · rw [set_other _ _ _ h.ne, hb.block nb (row_lt n1), n1]
    simp
  · rw [set_same ((hb.block rb (row_lt r1)).trans r1), hc]
    simp

def RowB (rb : Nat) (w : World) : Prop := ∃ u : Value, w.heap[rb]? = some (.cells #[u] 4 (0, 0))
theorem RowB.below {rb : Nat} {w w' : World} (h : RowB rb w) (hb : Below w.heap.size w w') : RowB rb w' := by
  obtain ⟨u, h⟩ := h
  exact ⟨u, (hb.block rb (row_lt h)).trans h⟩
theorem RowB.set {rb : Nat} {w : World} (h : RowB rb w) (v : Value) : RowB rb (w.setCell ⟨rb, 0, none⟩ v) := by
  obtain ⟨u, h⟩ := h
  exact ⟨v, set_same h 0 v⟩

set_option maxHeartbeats 3200000 in
set_option maxRecDepth 100000 in
theorem each1_call {Wf : World} {tb : Nat} {N : Nat → Option Nat} {S : List (Nat × Value)} {xs : List Pf} {sa : Option Addr} {cap pb psb ab pa : Nat} {pn : Int} {a : Nat} (F : FxB Wf tb N S xs sa cap pb psb ab pa pn a) (nb rb : Nat) (P : Nat → Prop) (L : List Itm) (W : World) (A i : Nat) (v : Value) (h : BI1 Wf nb rb (pa, pn) P L W) (hA : A < 4294967296) (hR : rightB A i = true) (hg : getL S (keyN A i) = some v) :
    Calls Try.prog 17 #[.agg #[.int .u32 A, .int .i64 i], v, .pointer (some ⟨nb, 0, none⟩), .pointer (some ⟨rb, 0, none⟩), .pointer (some ⟨pb, 0, none⟩), .pointer (some ⟨psb, 0, none⟩)] W fun e w' => e = .returned (.bool true) ∧ BI1 Wf nb rb (pa, pn) P (L ++ [((A, i), v)]) w' ∧ Kept (fun b => ¬ P b) W w' := by
  obtain ⟨k, q, hq, hqok, hqr, hqk, rfl⟩ := F.idx _ _ hg
  have hAi : PfOk (A, (i : Int)) := ⟨hA, by have := (right_mod.1 hR).2; simp only; omega, by have := (right_mod.1 hR).2; simp only; omega⟩
  obtain rfl : q = (A, (i : Int)) := pf_eq hqok hAi hqr hR hqk
  have hk : k < xs.length := (List.getElem?_eq_some_iff.1 hq).1
  obtain ⟨bb, off, hsa, hP⟩ := F.el (by omega)
  obtain ⟨_, e0, e1⟩ := hP k _ hq
  simp only at e0 e1
  have hk40 := F.len
  have CV := Lib.hid (fun W => ip_Covers (pa : Int) pn (A : Int) (i : Int) W (by omega) (by have := F.pa32; omega) (by omega) (by omega))
  have HX : Hid (∀ r0 c : Bool, L.all (covX (pa, pn)) = r0 → coversB (pa : Int) pn (A : Int) (i : Int) = c → (r0 && c) = (L.all (covX (pa, pn)) && covX (pa, pn) ((A, i), .int .i64 k))) := Lib.hid fun r0 c h1 h2 => by rw [h1]; unfold covX; rw [h2]
  generalize hr0 : L.all (covX (pa, pn)) = r0
  generalize hc0 : coversB (pa : Int) pn (A : Int) (i : Int) = c0 at CV
  have HC := Lib.hid (HX.out r0 c0 hr0 hc0)
  have H := Lib.hid h
  have hrow : Hid (W.heap[rb]? = some (.cells #[.bool r0] 4 (0, 0))) := Lib.hid (by rw [← hr0]; exact h.r)
  have FF := Lib.hid F
  have NEL : Hid (bb < Wf.heap.size) := Lib.hid (size_lt e0)
  have E0 := Lib.hid e0
  have E1 := Lib.hid e1
  have HSA := Lib.hid hsa
  have z1 : (((k : Nat) : Int) < (xs.length : Int)) := by omega
  have z0 : (0 : Int) ≤ ((k : Nat) : Int) := by omega
  clear hg hq hqok hqr hqk hAi hP e0 e1 h F HX hr0 hc0 hsa hR
  generalize hx : cnt L.length = x
  have HN : Hid (W.heap[nb]? = some (.cells #[.int .i64 x] 3 (0, 0)) ∧ cnt (L.length + 1) = wrap64 (x + 1)) := Lib.hid ⟨by rw [← hx]; exact H.out.n, by rw [cnt, hx]⟩
  clear hx
  go_enter Try.func17, Try.ntmps17
  go_upto_region 1 with (fail)
  obtain ⟨W0, hW0, q0, q1, hb⟩ := box2 W (.int .u32 A) (.int .i64 i) 31
  rw [← hW0]; clear hW0
  have n0 := (hb.block nb (row_lt HN.out.1)).trans HN.out.1
  have r0' := (hb.block rb (row_lt hrow.out)).trans hrow.out
  have c0 : W0.cell? ⟨nb, 0, none⟩ = some (.int .i64 x) := row_cell n0 0
  have f0 := row_free n0 0
  have B0 := Lib.hid (H.out.bel.trans (hb.mono H.out.bel.size))
  have K0 := Lib.hid (Kept.of_below (F := fun b => ¬ P b) hb)
  have N0 := Lib.hid n0
  have R0 := Lib.hid r0'
  have NQ : Hid (rb < W.heap.size) := Lib.hid (row_lt hrow.out)
  have qn : ¬ W.heap.size = nb := by have := row_lt HN.out.1; omega
  clear n0 r0' hb
  go_upto_region 2 with (fail)
  obtain ⟨W1, hW1⟩ : ∃ W1, W1 = W0.setCell ⟨nb, 0, none⟩ (.int .i64 (wrap64 (x + 1))) := ⟨_, rfl⟩
  have KN : Kept (fun b => b = nb) W0 W1 := by rw [hW1]; exact (Kept.refl _ W0).put _ _ (.inl rfl)
  have B1 := Lib.hid (show Below Wf.heap.size Wf W1 by rw [hW1]; exact B0.out.setCell H.out.hn _)
  have N1 : Hid (W1.heap[nb]? = some (.cells #[.int .i64 (cnt (L.length + 1))] 3 (0, 0))) := Lib.hid (by rw [hW1, set_same N0.out, HN.out.2]; rfl)
  have R1 : Hid (W1.heap[rb]? = some (.cells #[.bool r0] 4 (0, 0))) := Lib.hid (by rw [hW1, set_other _ _ _ (Ne.symm H.out.ne)]; exact R0.out)
  have K1 : Hid (Kept (fun b => ¬ P b) W W1) := Lib.hid (by rw [hW1]; exact K0.out.put _ _ (.inl H.out.fn))
  have q0 := KN.cell q0 qn
  have q1 := KN.cell q1 qn
  have rc : W1.cell? ⟨rb, 0, none⟩ = some (.bool r0) := row_cell R1.out 0
  have rf := row_free R1.out 0
  have p0 := (B1.out.cell (size_lt FF.out.p0)).trans FF.out.p0
  have p1 := (B1.out.cell (size_lt FF.out.p1)).trans FF.out.p1
  have hs := (B1.out.cell (size_lt FF.out.hs)).trans FF.out.hs
  have e0 := (B1.out.cell (size_lt E0.out)).trans E0.out
  have e1 := (B1.out.cell (size_lt E1.out)).trans E1.out
  have sa' := HSA.out
  rw [sa'] at hs
  rw [← hW1]
  clear hW1 KN N0 R0 K0 B0 c0 f0 qn sa' E0 E1 HSA HN hrow
  have LS := Lib.hid (fun (w1 : World) (hb : Below W1.heap.size W1 w1) c (hc : c = _) => H.out.last (x := ((A, i), .int .i64 k)) B1.out N1.out R1.out K1.out hb (c := c) hc)
  have np : ¬ pb = rb := by have := size_lt FF.out.p0; have := H.out.hr; omega
  have nps : ¬ psb = rb := by have := size_lt FF.out.hs; have := H.out.hr; omega
  have nel : ¬ bb = rb := by have := NEL.out; have := H.out.hr; omega
  have nq : ¬ W.heap.size = rb := by have := NQ.out; omega
  cases r0
  · have HC : Hid (false = (L.all (covX (pa, pn)) && covX (pa, pn) ((A, i), .int .i64 k))) := Lib.hid (by have := HC.out; simpa using this)
    refine reg_tail 24 (by kernel_rfl) (by kernel_rfl) ?_
    simp only [List.take_succ_cons, List.take_zero, List.drop_succ_cons, List.drop_zero]
    repeat still_step
    refine wpStill_nil ?_
    go_wp2_with fail
    go_ret
    exact ⟨rfl, LS.out _ (Below.refl _ _).drew _ HC.out⟩
  · have RB1 : Hid (RowB rb W1) := Lib.hid ⟨_, R1.out⟩
    have i4 : ((k : Nat) : Int).toNat = k := Int.toNat_natCast k
    cases c0
    · have HC : Hid (false = (L.all (covX (pa, pn)) && covX (pa, pn) ((A, i), .int .i64 k))) := Lib.hid (by have := HC.out; simpa using this)
      refine wp_region_held_drew (S := fun w' => Kept (fun b => b = rb) W1 w' ∧ RowB rb w') (by kernel_rfl) ?_ (fun hHeld => ?_)
      · exact ⟨(Kept.refl _ W1).drew, RB1.out.below (Below.refl _ _).drew⟩
      refine rg_call (i := 0) at0 (by kernel_rfl) ?_ (fun K hK => ?_); (· rfl); (try clear hb); go_simp; go_wp2_with fail; refine hK.out _ _ ?_ (fun hHeld => ?_); (· exact hHeld); clear hK K
      try simp only [Act.put, List.setIfInBounds_toArray, List.set_cons_zero, List.set_cons_succ]
      refine rg_yes (i := 1) (v := ?_) (atS at0) (by kernel_rfl) (by kernel_rfl) (by kernel_rfl) (fun _ _ _ h => h) ?_ ?_ hHeld ?_; rotate_left 1; (· rfl); (· intro w' hSw; (try dsimp only at hSw); (try clear hHeld); go_simp; try with_reducible rfl)
      try simp only [Act.put, List.setIfInBounds_toArray, List.set_cons_zero, List.set_cons_succ]
      first | (refine rg_no (i := 2) (atS (atS at0)) (by kernel_rfl) (by kernel_rfl) (by kernel_rfl) (fun _ _ _ h => h) ?_ hHeld ?_; (· rfl)) | (refine rg_yes (i := 2) (v := ?_) (atS (atS at0)) (by kernel_rfl) (by kernel_rfl) (by kernel_rfl) (fun _ _ _ h => h) ?_ ?_ hHeld ?_; rotate_left 1; (· rfl); (· intro w' hSw; (try dsimp only at hSw); have p0 := hSw.1.cell p0 np; have p1 := hSw.1.cell p1 np; have q0 := hSw.1.cell q0 nq; have q1 := hSw.1.cell q1 nq; have hs := hSw.1.cell hs nps; have e0 := hSw.1.cell e0 nel; have e1 := hSw.1.cell e1 nel; (try clear hHeld); go_simp; try with_reducible rfl))
      try simp only [Act.put, List.setIfInBounds_toArray, List.set_cons_zero, List.set_cons_succ]
      first | (refine rg_no (i := 3) (atS (atS (atS at0))) (by kernel_rfl) (by kernel_rfl) (by kernel_rfl) (fun _ _ _ h => h) ?_ hHeld ?_; (· rfl)) | (refine rg_yes (i := 3) (v := ?_) (atS (atS (atS at0))) (by kernel_rfl) (by kernel_rfl) (by kernel_rfl) (fun _ _ _ h => h) ?_ ?_ hHeld ?_; rotate_left 1; (· rfl); (· intro w' hSw; (try dsimp only at hSw); have p0 := hSw.1.cell p0 np; have p1 := hSw.1.cell p1 np; have q0 := hSw.1.cell q0 nq; have q1 := hSw.1.cell q1 nq; have hs := hSw.1.cell hs nps; have e0 := hSw.1.cell e0 nel; have e1 := hSw.1.cell e1 nel; (try clear hHeld); go_simp; try with_reducible rfl))
      try simp only [Act.put, List.setIfInBounds_toArray, List.set_cons_zero, List.set_cons_succ]
      first | (refine rg_no (i := 4) (atS (atS (atS (atS at0)))) (by kernel_rfl) (by kernel_rfl) (by kernel_rfl) (fun _ _ _ h => h) ?_ hHeld ?_; (· rfl)) | (refine rg_call (i := 4) (atS (atS (atS (atS at0)))) (by kernel_rfl) ?_ (fun K hK => ?_); (· rfl); (try clear hb); go_simp; (refine (CV.out _).mono ?_; rintro e w1 ⟨rfl, hb⟩); have hbs := (Below.refl W1.heap.size W1).drew.trans hb; go_wp2_with fail; refine hK.out _ _ ?_ (fun hHeld => ?_); (· exact ⟨hHeld.1.grow hb, hHeld.2.below hb⟩); clear hK K)
      try simp only [Act.put, List.setIfInBounds_toArray, List.set_cons_zero, List.set_cons_succ]
      refine rg_yes (i := 5) (v := ?_) (atS (atS (atS (atS (atS at0))))) (by kernel_rfl) (by kernel_rfl) (by kernel_rfl) (fun _ _ _ h => h) ?_ ?_ hHeld ?_; rotate_left 1; (· rfl); (· intro w' hSw; (try dsimp only at hSw); (try clear hHeld); go_simp; try with_reducible rfl)
      try simp only [Act.put, List.setIfInBounds_toArray, List.set_cons_zero, List.set_cons_succ]
      refine rg_yes (i := 6) (v := ?_) (atS (atS (atS (atS (atS (atS at0)))))) (by kernel_rfl) (by kernel_rfl) (by kernel_rfl) (fun _ _ _ h => h) ?_ ?_ hHeld ?_; rotate_left 1; (· rfl); (· intro w' hSw; (try dsimp only at hSw); (try clear hHeld); go_simp; try with_reducible rfl)
      try simp only [Act.put, List.setIfInBounds_toArray, List.set_cons_zero, List.set_cons_succ]
      first | (refine rg_no (i := 7) (atS (atS (atS (atS (atS (atS (atS at0))))))) (by kernel_rfl) (by kernel_rfl) (by kernel_rfl) (fun _ _ _ h => h) ?_ hHeld ?_; (· rfl)) | (refine rg_yes (i := 7) (v := ?_) (atS (atS (atS (atS (atS (atS (atS at0))))))) (by kernel_rfl) (by kernel_rfl) (by kernel_rfl) (fun _ _ _ h => h) ?_ ?_ hHeld ?_; rotate_left 1; (· rfl); (· intro w' hSw; (try dsimp only at hSw); (try clear hHeld); go_simp; try with_reducible rfl))
      try simp only [Act.put, List.setIfInBounds_toArray, List.set_cons_zero, List.set_cons_succ]
      first | (refine rg_no (i := 8) (atS (atS (atS (atS (atS (atS (atS (atS at0)))))))) (by kernel_rfl) (by kernel_rfl) (by kernel_rfl) (fun _ _ _ h => h) ?_ hHeld ?_; (· rfl)) | (refine rg_yes (i := 8) (v := ?_) (atS (atS (atS (atS (atS (atS (atS (atS at0)))))))) (by kernel_rfl) (by kernel_rfl) (by kernel_rfl) (fun _ _ _ h => h) ?_ ?_ hHeld ?_; rotate_left 1; (· rfl); (· intro w' hSw; (try dsimp only at hSw); (try clear hHeld); go_simp; try with_reducible rfl))
      try simp only [Act.put, List.setIfInBounds_toArray, List.set_cons_zero, List.set_cons_succ]
      refine rg_yes (i := 9) (v := ?_) (atS (atS (atS (atS (atS (atS (atS (atS (atS at0))))))))) (by kernel_rfl) (by kernel_rfl) (by kernel_rfl) (fun _ _ _ h => h) ?_ ?_ hHeld ?_; rotate_left 1; (· rfl); (· intro w' hSw; (try dsimp only at hSw); (try clear hHeld); go_simp; try with_reducible rfl)
      try simp only [Act.put, List.setIfInBounds_toArray, List.set_cons_zero, List.set_cons_succ]
      refine rg_yes (i := 10) (v := ?_) (atS (atS (atS (atS (atS (atS (atS (atS (atS (atS at0)))))))))) (by kernel_rfl) (by kernel_rfl) (by kernel_rfl) (fun _ _ _ h => h) ?_ ?_ hHeld ?_; rotate_left 1; (· rfl); (· intro w' hSw; (try dsimp only at hSw); (try clear hHeld); go_simp; try with_reducible rfl)
      try simp only [Act.put, List.setIfInBounds_toArray, List.set_cons_zero, List.set_cons_succ]
      first | (refine rg_no (i := 11) (atS (atS (atS (atS (atS (atS (atS (atS (atS (atS (atS at0))))))))))) (by kernel_rfl) (by kernel_rfl) (by kernel_rfl) (fun _ _ _ h => h) ?_ hHeld ?_; (· rfl)) | (refine rg_yes (i := 11) (v := ?_) (atS (atS (atS (atS (atS (atS (atS (atS (atS (atS (atS at0))))))))))) (by kernel_rfl) (by kernel_rfl) (by kernel_rfl) (fun _ _ _ h => h) ?_ ?_ hHeld ?_; rotate_left 1; (· rfl); (· intro w' hSw; (try dsimp only at hSw); (try clear hHeld); go_simp; try with_reducible rfl))
      try simp only [Act.put, List.setIfInBounds_toArray, List.set_cons_zero, List.set_cons_succ]
      first | (refine rg_no (i := 12) (atS (atS (atS (atS (atS (atS (atS (atS (atS (atS (atS (atS at0)))))))))))) (by kernel_rfl) (by kernel_rfl) (by kernel_rfl) (fun _ _ _ h => h) ?_ hHeld ?_; (· rfl)) | (refine rg_yes (i := 12) (v := ?_) (atS (atS (atS (atS (atS (atS (atS (atS (atS (atS (atS (atS at0)))))))))))) (by kernel_rfl) (by kernel_rfl) (by kernel_rfl) (fun _ _ _ h => h) ?_ ?_ hHeld ?_; rotate_left 1; (· rfl); (· intro w' hSw; (try dsimp only at hSw); have p0 := hSw.1.cell p0 np; have p1 := hSw.1.cell p1 np; have q0 := hSw.1.cell q0 nq; have q1 := hSw.1.cell q1 nq; have hs := hSw.1.cell hs nps; have e0 := hSw.1.cell e0 nel; have e1 := hSw.1.cell e1 nel; (try clear hHeld); go_simp; try with_reducible rfl))
      try simp only [Act.put, List.setIfInBounds_toArray, List.set_cons_zero, List.set_cons_succ]
      first | (refine rg_no (i := 13) (atS (atS (atS (atS (atS (atS (atS (atS (atS (atS (atS (atS (atS at0))))))))))))) (by kernel_rfl) (by kernel_rfl) (by kernel_rfl) (fun _ _ _ h => h) ?_ hHeld ?_; (· rfl)) | (refine rg_yes (i := 13) (v := ?_) (atS (atS (atS (atS (atS (atS (atS (atS (atS (atS (atS (atS (atS at0))))))))))))) (by kernel_rfl) (by kernel_rfl) (by kernel_rfl) (fun _ _ _ h => h) ?_ ?_ hHeld ?_; rotate_left 1; (· rfl); (· intro w' hSw; (try dsimp only at hSw); (try clear hHeld); go_simp; try with_reducible rfl))
      try simp only [Act.put, List.setIfInBounds_toArray, List.set_cons_zero, List.set_cons_succ]
      first | (refine rg_no (i := 14) (atS (atS (atS (atS (atS (atS (atS (atS (atS (atS (atS (atS (atS (atS at0)))))))))))))) (by kernel_rfl) (by kernel_rfl) (by kernel_rfl) (fun _ _ _ h => h) ?_ hHeld ?_; (· rfl)) | (refine rg_yes (i := 14) (v := ?_) (atS (atS (atS (atS (atS (atS (atS (atS (atS (atS (atS (atS (atS (atS at0)))))))))))))) (by kernel_rfl) (by kernel_rfl) (by kernel_rfl) (fun _ _ _ h => h) ?_ ?_ hHeld ?_; rotate_left 1; (· rfl); (· intro w' hSw; (try dsimp only at hSw); (try clear hHeld); go_simp; try with_reducible rfl))
      try simp only [Act.put, List.setIfInBounds_toArray, List.set_cons_zero, List.set_cons_succ]
      refine rg_yes (i := 15) (v := ?_) (atS (atS (atS (atS (atS (atS (atS (atS (atS (atS (atS (atS (atS (atS (atS at0))))))))))))))) (by kernel_rfl) (by kernel_rfl) (by kernel_rfl) (fun _ _ _ h => h) ?_ ?_ hHeld ?_; rotate_left 1; (· rfl); (· intro w' hSw; (try dsimp only at hSw); (try clear hHeld); go_simp; try with_reducible rfl)
      try simp only [Act.put, List.setIfInBounds_toArray, List.set_cons_zero, List.set_cons_succ]
      refine rg_yes (i := 16) (v := ?_) (atS (atS (atS (atS (atS (atS (atS (atS (atS (atS (atS (atS (atS (atS (atS (atS at0)))))))))))))))) (by kernel_rfl) (by kernel_rfl) (by kernel_rfl) (fun _ _ _ h => h) ?_ ?_ hHeld ?_; rotate_left 1; (· rfl); (· intro w' hSw; (try dsimp only at hSw); (try clear hHeld); go_simp; try with_reducible rfl)
      try simp only [Act.put, List.setIfInBounds_toArray, List.set_cons_zero, List.set_cons_succ]
      first | (refine rg_no (i := 17) (atS (atS (atS (atS (atS (atS (atS (atS (atS (atS (atS (atS (atS (atS (atS (atS (atS at0))))))))))))))))) (by kernel_rfl) (by kernel_rfl) (by kernel_rfl) (fun _ _ _ h => h) ?_ hHeld ?_; (· rfl)) | (refine rg_yes (i := 17) (v := ?_) (atS (atS (atS (atS (atS (atS (atS (atS (atS (atS (atS (atS (atS (atS (atS (atS (atS at0))))))))))))))))) (by kernel_rfl) (by kernel_rfl) (by kernel_rfl) (fun _ _ _ h => h) ?_ ?_ hHeld ?_; rotate_left 1; (· rfl); (· intro w' hSw; (try dsimp only at hSw); have p0 := hSw.1.cell p0 np; have p1 := hSw.1.cell p1 np; have q0 := hSw.1.cell q0 nq; have q1 := hSw.1.cell q1 nq; have hs := hSw.1.cell hs nps; have e0 := hSw.1.cell e0 nel; have e1 := hSw.1.cell e1 nel; (try clear hHeld); go_simp; try with_reducible rfl))
      try simp only [Act.put, List.setIfInBounds_toArray, List.set_cons_zero, List.set_cons_succ]
      first | (refine rg_no (i := 18) (atS (atS (atS (atS (atS (atS (atS (atS (atS (atS (atS (atS (atS (atS (atS (atS (atS (atS at0)))))))))))))))))) (by kernel_rfl) (by kernel_rfl) (by kernel_rfl) (fun _ _ _ h => h) ?_ hHeld ?_; (· rfl)) | (refine rg_yes (i := 18) (v := ?_) (atS (atS (atS (atS (atS (atS (atS (atS (atS (atS (atS (atS (atS (atS (atS (atS (atS (atS at0)))))))))))))))))) (by kernel_rfl) (by kernel_rfl) (by kernel_rfl) (fun _ _ _ h => h) ?_ ?_ hHeld ?_; rotate_left 1; (· rfl); (· intro w' hSw; (try dsimp only at hSw); (try clear hHeld); go_simp; try with_reducible rfl))
      try simp only [Act.put, List.setIfInBounds_toArray, List.set_cons_zero, List.set_cons_succ]
      first | (refine rg_no (i := 19) (atS (atS (atS (atS (atS (atS (atS (atS (atS (atS (atS (atS (atS (atS (atS (atS (atS (atS (atS at0))))))))))))))))))) (by kernel_rfl) (by kernel_rfl) (by kernel_rfl) (fun _ _ _ h => h) ?_ hHeld ?_; (· rfl)) | (refine rg_yes (i := 19) (v := ?_) (atS (atS (atS (atS (atS (atS (atS (atS (atS (atS (atS (atS (atS (atS (atS (atS (atS (atS (atS at0))))))))))))))))))) (by kernel_rfl) (by kernel_rfl) (by kernel_rfl) (fun _ _ _ h => h) ?_ ?_ hHeld ?_; rotate_left 1; (· rfl); (· intro w' hSw; (try dsimp only at hSw); have p0 := hSw.1.cell p0 np; have p1 := hSw.1.cell p1 np; have q0 := hSw.1.cell q0 nq; have q1 := hSw.1.cell q1 nq; have hs := hSw.1.cell hs nps; have e0 := hSw.1.cell e0 nel; have e1 := hSw.1.cell e1 nel; (try clear hHeld); go_simp; try with_reducible rfl))
      try simp only [Act.put, List.setIfInBounds_toArray, List.set_cons_zero, List.set_cons_succ]
      first | (refine rg_no (i := 20) (atS (atS (atS (atS (atS (atS (atS (atS (atS (atS (atS (atS (atS (atS (atS (atS (atS (atS (atS (atS at0)))))))))))))))))))) (by kernel_rfl) (by kernel_rfl) (by kernel_rfl) (fun _ _ _ h => h) ?_ hHeld ?_; (· rfl)) | (refine rg_yes (i := 20) (v := ?_) (atS (atS (atS (atS (atS (atS (atS (atS (atS (atS (atS (atS (atS (atS (atS (atS (atS (atS (atS (atS at0)))))))))))))))))))) (by kernel_rfl) (by kernel_rfl) (by kernel_rfl) (fun _ _ _ h => h) ?_ ?_ hHeld ?_; rotate_left 1; (· rfl); (· intro w' hSw; (try dsimp only at hSw); have p0 := hSw.1.cell p0 np; have p1 := hSw.1.cell p1 np; have q0 := hSw.1.cell q0 nq; have q1 := hSw.1.cell q1 nq; have hs := hSw.1.cell hs nps; have e0 := hSw.1.cell e0 nel; have e1 := hSw.1.cell e1 nel; (try clear hHeld); go_simp; try with_reducible rfl))
      try simp only [Act.put, List.setIfInBounds_toArray, List.set_cons_zero, List.set_cons_succ]
      first | (refine rg_no (i := 21) (atS (atS (atS (atS (atS (atS (atS (atS (atS (atS (atS (atS (atS (atS (atS (atS (atS (atS (atS (atS (atS at0))))))))))))))))))))) (by kernel_rfl) (by kernel_rfl) (by kernel_rfl) (fun _ _ _ h => h) ?_ hHeld ?_; (· rfl)) | (refine rg_yes (i := 21) (v := ?_) (atS (atS (atS (atS (atS (atS (atS (atS (atS (atS (atS (atS (atS (atS (atS (atS (atS (atS (atS (atS (atS at0))))))))))))))))))))) (by kernel_rfl) (by kernel_rfl) (by kernel_rfl) (fun _ _ _ h => h) ?_ ?_ hHeld ?_; rotate_left 1; (· rfl); (· intro w' hSw; (try dsimp only at hSw); have p0 := hSw.1.cell p0 np; have p1 := hSw.1.cell p1 np; have q0 := hSw.1.cell q0 nq; have q1 := hSw.1.cell q1 nq; have hs := hSw.1.cell hs nps; have e0 := hSw.1.cell e0 nel; have e1 := hSw.1.cell e1 nel; (try clear hHeld); go_simp; try with_reducible rfl))
      try simp only [Act.put, List.setIfInBounds_toArray, List.set_cons_zero, List.set_cons_succ]
      first | (refine rg_no (i := 22) (atS (atS (atS (atS (atS (atS (atS (atS (atS (atS (atS (atS (atS (atS (atS (atS (atS (atS (atS (atS (atS (atS at0)))))))))))))))))))))) (by kernel_rfl) (by kernel_rfl) (by kernel_rfl) (fun _ _ _ h => h) ?_ hHeld ?_; (· rfl)) | (refine rg_yes (i := 22) (v := ?_) (atS (atS (atS (atS (atS (atS (atS (atS (atS (atS (atS (atS (atS (atS (atS (atS (atS (atS (atS (atS (atS (atS at0)))))))))))))))))))))) (by kernel_rfl) (by kernel_rfl) (by kernel_rfl) (fun _ _ _ h => h) ?_ ?_ hHeld ?_; rotate_left 1; (· rfl); (· intro w' hSw; (try dsimp only at hSw); (try clear hHeld); go_simp; try with_reducible rfl))
      try simp only [Act.put, List.setIfInBounds_toArray, List.set_cons_zero, List.set_cons_succ]
      refine rg_yes (i := 23) (v := ?_) (atS (atS (atS (atS (atS (atS (atS (atS (atS (atS (atS (atS (atS (atS (atS (atS (atS (atS (atS (atS (atS (atS (atS at0))))))))))))))))))))))) (by kernel_rfl) (by kernel_rfl) (by kernel_rfl) (fun _ _ _ h => h) ?_ ?_ hHeld ?_; rotate_left 1; (· rfl); (· intro w' hSw; (try dsimp only at hSw); (try clear hHeld); go_simp; try with_reducible rfl)
      try simp only [Act.put, List.setIfInBounds_toArray, List.set_cons_zero, List.set_cons_succ]
      refine rg_call (i := 24) (atS (atS (atS (atS (atS (atS (atS (atS (atS (atS (atS (atS (atS (atS (atS (atS (atS (atS (atS (atS (atS (atS (atS (atS at0)))))))))))))))))))))))) (by kernel_rfl) ?_ (fun K hK => ?_); (· rfl); (try clear hb); obtain ⟨u, hu⟩ := hHeld.2; have rc := row_cell hu 0; have rf := row_free hu 0; go_simp; go_wp2_with fail; refine hK.out _ _ ?_ (fun hHeld => ?_); (· exact ⟨hHeld.1.put _ _ (.inl rfl), hHeld.2.set _⟩); clear hK K
      try simp only [Act.put, List.setIfInBounds_toArray, List.set_cons_zero, List.set_cons_succ]
      refine wpAnyH_done (by kernel_rfl) ?_ _
      go_wp2_with fail
      go_ret
      exact ⟨rfl, LS.out _ hbs _ HC.out⟩
    · have HC : Hid (true = (L.all (covX (pa, pn)) && covX (pa, pn) ((A, i), .int .i64 k))) := Lib.hid (by have := HC.out; simpa using this)
      refine wp_region_held_drew (S := fun w' => Kept (fun b => b = rb) W1 w' ∧ RowB rb w') (by kernel_rfl) ?_ (fun hHeld => ?_)
      · exact ⟨(Kept.refl _ W1).drew, RB1.out.below (Below.refl _ _).drew⟩
      refine rg_call (i := 0) at0 (by kernel_rfl) ?_ (fun K hK => ?_); (· rfl); (try clear hb); go_simp; go_wp2_with fail; refine hK.out _ _ ?_ (fun hHeld => ?_); (· exact hHeld); clear hK K
      try simp only [Act.put, List.setIfInBounds_toArray, List.set_cons_zero, List.set_cons_succ]
      refine rg_yes (i := 1) (v := ?_) (atS at0) (by kernel_rfl) (by kernel_rfl) (by kernel_rfl) (fun _ _ _ h => h) ?_ ?_ hHeld ?_; rotate_left 1; (· rfl); (· intro w' hSw; (try dsimp only at hSw); (try clear hHeld); go_simp; try with_reducible rfl)
      try simp only [Act.put, List.setIfInBounds_toArray, List.set_cons_zero, List.set_cons_succ]
      first | (refine rg_no (i := 2) (atS (atS at0)) (by kernel_rfl) (by kernel_rfl) (by kernel_rfl) (fun _ _ _ h => h) ?_ hHeld ?_; (· rfl)) | (refine rg_yes (i := 2) (v := ?_) (atS (atS at0)) (by kernel_rfl) (by kernel_rfl) (by kernel_rfl) (fun _ _ _ h => h) ?_ ?_ hHeld ?_; rotate_left 1; (· rfl); (· intro w' hSw; (try dsimp only at hSw); have p0 := hSw.1.cell p0 np; have p1 := hSw.1.cell p1 np; have q0 := hSw.1.cell q0 nq; have q1 := hSw.1.cell q1 nq; have hs := hSw.1.cell hs nps; have e0 := hSw.1.cell e0 nel; have e1 := hSw.1.cell e1 nel; (try clear hHeld); go_simp; try with_reducible rfl))
      try simp only [Act.put, List.setIfInBounds_toArray, List.set_cons_zero, List.set_cons_succ]
      first | (refine rg_no (i := 3) (atS (atS (atS at0))) (by kernel_rfl) (by kernel_rfl) (by kernel_rfl) (fun _ _ _ h => h) ?_ hHeld ?_; (· rfl)) | (refine rg_yes (i := 3) (v := ?_) (atS (atS (atS at0))) (by kernel_rfl) (by kernel_rfl) (by kernel_rfl) (fun _ _ _ h => h) ?_ ?_ hHeld ?_; rotate_left 1; (· rfl); (· intro w' hSw; (try dsimp only at hSw); have p0 := hSw.1.cell p0 np; have p1 := hSw.1.cell p1 np; have q0 := hSw.1.cell q0 nq; have q1 := hSw.1.cell q1 nq; have hs := hSw.1.cell hs nps; have e0 := hSw.1.cell e0 nel; have e1 := hSw.1.cell e1 nel; (try clear hHeld); go_simp; try with_reducible rfl))
      try simp only [Act.put, List.setIfInBounds_toArray, List.set_cons_zero, List.set_cons_succ]
      first | (refine rg_no (i := 4) (atS (atS (atS (atS at0)))) (by kernel_rfl) (by kernel_rfl) (by kernel_rfl) (fun _ _ _ h => h) ?_ hHeld ?_; (· rfl)) | (refine rg_call (i := 4) (atS (atS (atS (atS at0)))) (by kernel_rfl) ?_ (fun K hK => ?_); (· rfl); (try clear hb); go_simp; (refine (CV.out _).mono ?_; rintro e w1 ⟨rfl, hb⟩); have hbs := (Below.refl W1.heap.size W1).drew.trans hb; go_wp2_with fail; refine hK.out _ _ ?_ (fun hHeld => ?_); (· exact ⟨hHeld.1.grow hb, hHeld.2.below hb⟩); clear hK K)
      try simp only [Act.put, List.setIfInBounds_toArray, List.set_cons_zero, List.set_cons_succ]
      refine rg_yes (i := 5) (v := ?_) (atS (atS (atS (atS (atS at0))))) (by kernel_rfl) (by kernel_rfl) (by kernel_rfl) (fun _ _ _ h => h) ?_ ?_ hHeld ?_; rotate_left 1; (· rfl); (· intro w' hSw; (try dsimp only at hSw); (try clear hHeld); go_simp; try with_reducible rfl)
      try simp only [Act.put, List.setIfInBounds_toArray, List.set_cons_zero, List.set_cons_succ]
      refine rg_yes (i := 6) (v := ?_) (atS (atS (atS (atS (atS (atS at0)))))) (by kernel_rfl) (by kernel_rfl) (by kernel_rfl) (fun _ _ _ h => h) ?_ ?_ hHeld ?_; rotate_left 1; (· rfl); (· intro w' hSw; (try dsimp only at hSw); (try clear hHeld); go_simp; try with_reducible rfl)
      try simp only [Act.put, List.setIfInBounds_toArray, List.set_cons_zero, List.set_cons_succ]
      first | (refine rg_no (i := 7) (atS (atS (atS (atS (atS (atS (atS at0))))))) (by kernel_rfl) (by kernel_rfl) (by kernel_rfl) (fun _ _ _ h => h) ?_ hHeld ?_; (· rfl)) | (refine rg_yes (i := 7) (v := ?_) (atS (atS (atS (atS (atS (atS (atS at0))))))) (by kernel_rfl) (by kernel_rfl) (by kernel_rfl) (fun _ _ _ h => h) ?_ ?_ hHeld ?_; rotate_left 1; (· rfl); (· intro w' hSw; (try dsimp only at hSw); (try clear hHeld); go_simp; try with_reducible rfl))
      try simp only [Act.put, List.setIfInBounds_toArray, List.set_cons_zero, List.set_cons_succ]
      first | (refine rg_no (i := 8) (atS (atS (atS (atS (atS (atS (atS (atS at0)))))))) (by kernel_rfl) (by kernel_rfl) (by kernel_rfl) (fun _ _ _ h => h) ?_ hHeld ?_; (· rfl)) | (refine rg_yes (i := 8) (v := ?_) (atS (atS (atS (atS (atS (atS (atS (atS at0)))))))) (by kernel_rfl) (by kernel_rfl) (by kernel_rfl) (fun _ _ _ h => h) ?_ ?_ hHeld ?_; rotate_left 1; (· rfl); (· intro w' hSw; (try dsimp only at hSw); (try clear hHeld); go_simp; try with_reducible rfl))
      try simp only [Act.put, List.setIfInBounds_toArray, List.set_cons_zero, List.set_cons_succ]
      refine rg_yes (i := 9) (v := ?_) (atS (atS (atS (atS (atS (atS (atS (atS (atS at0))))))))) (by kernel_rfl) (by kernel_rfl) (by kernel_rfl) (fun _ _ _ h => h) ?_ ?_ hHeld ?_; rotate_left 1; (· rfl); (· intro w' hSw; (try dsimp only at hSw); (try clear hHeld); go_simp; try with_reducible rfl)
      try simp only [Act.put, List.setIfInBounds_toArray, List.set_cons_zero, List.set_cons_succ]
      refine rg_yes (i := 10) (v := ?_) (atS (atS (atS (atS (atS (atS (atS (atS (atS (atS at0)))))))))) (by kernel_rfl) (by kernel_rfl) (by kernel_rfl) (fun _ _ _ h => h) ?_ ?_ hHeld ?_; rotate_left 1; (· rfl); (· intro w' hSw; (try dsimp only at hSw); (try clear hHeld); go_simp; try with_reducible rfl)
      try simp only [Act.put, List.setIfInBounds_toArray, List.set_cons_zero, List.set_cons_succ]
      first | (refine rg_no (i := 11) (atS (atS (atS (atS (atS (atS (atS (atS (atS (atS (atS at0))))))))))) (by kernel_rfl) (by kernel_rfl) (by kernel_rfl) (fun _ _ _ h => h) ?_ hHeld ?_; (· rfl)) | (refine rg_yes (i := 11) (v := ?_) (atS (atS (atS (atS (atS (atS (atS (atS (atS (atS (atS at0))))))))))) (by kernel_rfl) (by kernel_rfl) (by kernel_rfl) (fun _ _ _ h => h) ?_ ?_ hHeld ?_; rotate_left 1; (· rfl); (· intro w' hSw; (try dsimp only at hSw); (try clear hHeld); go_simp; try with_reducible rfl))
      try simp only [Act.put, List.setIfInBounds_toArray, List.set_cons_zero, List.set_cons_succ]
      first | (refine rg_no (i := 12) (atS (atS (atS (atS (atS (atS (atS (atS (atS (atS (atS (atS at0)))))))))))) (by kernel_rfl) (by kernel_rfl) (by kernel_rfl) (fun _ _ _ h => h) ?_ hHeld ?_; (· rfl)) | (refine rg_yes (i := 12) (v := ?_) (atS (atS (atS (atS (atS (atS (atS (atS (atS (atS (atS (atS at0)))))))))))) (by kernel_rfl) (by kernel_rfl) (by kernel_rfl) (fun _ _ _ h => h) ?_ ?_ hHeld ?_; rotate_left 1; (· rfl); (· intro w' hSw; (try dsimp only at hSw); have p0 := hSw.1.cell p0 np; have p1 := hSw.1.cell p1 np; have q0 := hSw.1.cell q0 nq; have q1 := hSw.1.cell q1 nq; have hs := hSw.1.cell hs nps; have e0 := hSw.1.cell e0 nel; have e1 := hSw.1.cell e1 nel; (try clear hHeld); go_simp; try with_reducible rfl))
      try simp only [Act.put, List.setIfInBounds_toArray, List.set_cons_zero, List.set_cons_succ]
      first | (refine rg_no (i := 13) (atS (atS (atS (atS (atS (atS (atS (atS (atS (atS (atS (atS (atS at0))))))))))))) (by kernel_rfl) (by kernel_rfl) (by kernel_rfl) (fun _ _ _ h => h) ?_ hHeld ?_; (· rfl)) | (refine rg_yes (i := 13) (v := ?_) (atS (atS (atS (atS (atS (atS (atS (atS (atS (atS (atS (atS (atS at0))))))))))))) (by kernel_rfl) (by kernel_rfl) (by kernel_rfl) (fun _ _ _ h => h) ?_ ?_ hHeld ?_; rotate_left 1; (· rfl); (· intro w' hSw; (try dsimp only at hSw); (try clear hHeld); go_simp; try with_reducible rfl))
      try simp only [Act.put, List.setIfInBounds_toArray, List.set_cons_zero, List.set_cons_succ]
      first | (refine rg_no (i := 14) (atS (atS (atS (atS (atS (atS (atS (atS (atS (atS (atS (atS (atS (atS at0)))))))))))))) (by kernel_rfl) (by kernel_rfl) (by kernel_rfl) (fun _ _ _ h => h) ?_ hHeld ?_; (· rfl)) | (refine rg_yes (i := 14) (v := ?_) (atS (atS (atS (atS (atS (atS (atS (atS (atS (atS (atS (atS (atS (atS at0)))))))))))))) (by kernel_rfl) (by kernel_rfl) (by kernel_rfl) (fun _ _ _ h => h) ?_ ?_ hHeld ?_; rotate_left 1; (· rfl); (· intro w' hSw; (try dsimp only at hSw); (try clear hHeld); go_simp; try with_reducible rfl))
      try simp only [Act.put, List.setIfInBounds_toArray, List.set_cons_zero, List.set_cons_succ]
      refine rg_yes (i := 15) (v := ?_) (atS (atS (atS (atS (atS (atS (atS (atS (atS (atS (atS (atS (atS (atS (atS at0))))))))))))))) (by kernel_rfl) (by kernel_rfl) (by kernel_rfl) (fun _ _ _ h => h) ?_ ?_ hHeld ?_; rotate_left 1; (· rfl); (· intro w' hSw; (try dsimp only at hSw); (try clear hHeld); go_simp; try with_reducible rfl)
      try simp only [Act.put, List.setIfInBounds_toArray, List.set_cons_zero, List.set_cons_succ]
      refine rg_yes (i := 16) (v := ?_) (atS (atS (atS (atS (atS (atS (atS (atS (atS (atS (atS (atS (atS (atS (atS (atS at0)))))))))))))))) (by kernel_rfl) (by kernel_rfl) (by kernel_rfl) (fun _ _ _ h => h) ?_ ?_ hHeld ?_; rotate_left 1; (· rfl); (· intro w' hSw; (try dsimp only at hSw); (try clear hHeld); go_simp; try with_reducible rfl)
      try simp only [Act.put, List.setIfInBounds_toArray, List.set_cons_zero, List.set_cons_succ]
      first | (refine rg_no (i := 17) (atS (atS (atS (atS (atS (atS (atS (atS (atS (atS (atS (atS (atS (atS (atS (atS (atS at0))))))))))))))))) (by kernel_rfl) (by kernel_rfl) (by kernel_rfl) (fun _ _ _ h => h) ?_ hHeld ?_; (· rfl)) | (refine rg_yes (i := 17) (v := ?_) (atS (atS (atS (atS (atS (atS (atS (atS (atS (atS (atS (atS (atS (atS (atS (atS (atS at0))))))))))))))))) (by kernel_rfl) (by kernel_rfl) (by kernel_rfl) (fun _ _ _ h => h) ?_ ?_ hHeld ?_; rotate_left 1; (· rfl); (· intro w' hSw; (try dsimp only at hSw); have p0 := hSw.1.cell p0 np; have p1 := hSw.1.cell p1 np; have q0 := hSw.1.cell q0 nq; have q1 := hSw.1.cell q1 nq; have hs := hSw.1.cell hs nps; have e0 := hSw.1.cell e0 nel; have e1 := hSw.1.cell e1 nel; (try clear hHeld); go_simp; try with_reducible rfl))
      try simp only [Act.put, List.setIfInBounds_toArray, List.set_cons_zero, List.set_cons_succ]
      first | (refine rg_no (i := 18) (atS (atS (atS (atS (atS (atS (atS (atS (atS (atS (atS (atS (atS (atS (atS (atS (atS (atS at0)))))))))))))))))) (by kernel_rfl) (by kernel_rfl) (by kernel_rfl) (fun _ _ _ h => h) ?_ hHeld ?_; (· rfl)) | (refine rg_yes (i := 18) (v := ?_) (atS (atS (atS (atS (atS (atS (atS (atS (atS (atS (atS (atS (atS (atS (atS (atS (atS (atS at0)))))))))))))))))) (by kernel_rfl) (by kernel_rfl) (by kernel_rfl) (fun _ _ _ h => h) ?_ ?_ hHeld ?_; rotate_left 1; (· rfl); (· intro w' hSw; (try dsimp only at hSw); (try clear hHeld); go_simp; try with_reducible rfl))
      try simp only [Act.put, List.setIfInBounds_toArray, List.set_cons_zero, List.set_cons_succ]
      first | (refine rg_no (i := 19) (atS (atS (atS (atS (atS (atS (atS (atS (atS (atS (atS (atS (atS (atS (atS (atS (atS (atS (atS at0))))))))))))))))))) (by kernel_rfl) (by kernel_rfl) (by kernel_rfl) (fun _ _ _ h => h) ?_ hHeld ?_; (· rfl)) | (refine rg_yes (i := 19) (v := ?_) (atS (atS (atS (atS (atS (atS (atS (atS (atS (atS (atS (atS (atS (atS (atS (atS (atS (atS (atS at0))))))))))))))))))) (by kernel_rfl) (by kernel_rfl) (by kernel_rfl) (fun _ _ _ h => h) ?_ ?_ hHeld ?_; rotate_left 1; (· rfl); (· intro w' hSw; (try dsimp only at hSw); have p0 := hSw.1.cell p0 np; have p1 := hSw.1.cell p1 np; have q0 := hSw.1.cell q0 nq; have q1 := hSw.1.cell q1 nq; have hs := hSw.1.cell hs nps; have e0 := hSw.1.cell e0 nel; have e1 := hSw.1.cell e1 nel; (try clear hHeld); go_simp; try with_reducible rfl))
      try simp only [Act.put, List.setIfInBounds_toArray, List.set_cons_zero, List.set_cons_succ]
      first | (refine rg_no (i := 20) (atS (atS (atS (atS (atS (atS (atS (atS (atS (atS (atS (atS (atS (atS (atS (atS (atS (atS (atS (atS at0)))))))))))))))))))) (by kernel_rfl) (by kernel_rfl) (by kernel_rfl) (fun _ _ _ h => h) ?_ hHeld ?_; (· rfl)) | (refine rg_yes (i := 20) (v := ?_) (atS (atS (atS (atS (atS (atS (atS (atS (atS (atS (atS (atS (atS (atS (atS (atS (atS (atS (atS (atS at0)))))))))))))))))))) (by kernel_rfl) (by kernel_rfl) (by kernel_rfl) (fun _ _ _ h => h) ?_ ?_ hHeld ?_; rotate_left 1; (· rfl); (· intro w' hSw; (try dsimp only at hSw); have p0 := hSw.1.cell p0 np; have p1 := hSw.1.cell p1 np; have q0 := hSw.1.cell q0 nq; have q1 := hSw.1.cell q1 nq; have hs := hSw.1.cell hs nps; have e0 := hSw.1.cell e0 nel; have e1 := hSw.1.cell e1 nel; (try clear hHeld); go_simp; try with_reducible rfl))
      try simp only [Act.put, List.setIfInBounds_toArray, List.set_cons_zero, List.set_cons_succ]
      first | (refine rg_no (i := 21) (atS (atS (atS (atS (atS (atS (atS (atS (atS (atS (atS (atS (atS (atS (atS (atS (atS (atS (atS (atS (atS at0))))))))))))))))))))) (by kernel_rfl) (by kernel_rfl) (by kernel_rfl) (fun _ _ _ h => h) ?_ hHeld ?_; (· rfl)) | (refine rg_yes (i := 21) (v := ?_) (atS (atS (atS (atS (atS (atS (atS (atS (atS (atS (atS (atS (atS (atS (atS (atS (atS (atS (atS (atS (atS at0))))))))))))))))))))) (by kernel_rfl) (by kernel_rfl) (by kernel_rfl) (fun _ _ _ h => h) ?_ ?_ hHeld ?_; rotate_left 1; (· rfl); (· intro w' hSw; (try dsimp only at hSw); have p0 := hSw.1.cell p0 np; have p1 := hSw.1.cell p1 np; have q0 := hSw.1.cell q0 nq; have q1 := hSw.1.cell q1 nq; have hs := hSw.1.cell hs nps; have e0 := hSw.1.cell e0 nel; have e1 := hSw.1.cell e1 nel; (try clear hHeld); go_simp; try with_reducible rfl))
      try simp only [Act.put, List.setIfInBounds_toArray, List.set_cons_zero, List.set_cons_succ]
      first | (refine rg_no (i := 22) (atS (atS (atS (atS (atS (atS (atS (atS (atS (atS (atS (atS (atS (atS (atS (atS (atS (atS (atS (atS (atS (atS at0)))))))))))))))))))))) (by kernel_rfl) (by kernel_rfl) (by kernel_rfl) (fun _ _ _ h => h) ?_ hHeld ?_; (· rfl)) | (refine rg_yes (i := 22) (v := ?_) (atS (atS (atS (atS (atS (atS (atS (atS (atS (atS (atS (atS (atS (atS (atS (atS (atS (atS (atS (atS (atS (atS at0)))))))))))))))))))))) (by kernel_rfl) (by kernel_rfl) (by kernel_rfl) (fun _ _ _ h => h) ?_ ?_ hHeld ?_; rotate_left 1; (· rfl); (· intro w' hSw; (try dsimp only at hSw); (try clear hHeld); go_simp; try with_reducible rfl))
      try simp only [Act.put, List.setIfInBounds_toArray, List.set_cons_zero, List.set_cons_succ]
      refine rg_yes (i := 23) (v := ?_) (atS (atS (atS (atS (atS (atS (atS (atS (atS (atS (atS (atS (atS (atS (atS (atS (atS (atS (atS (atS (atS (atS (atS at0))))))))))))))))))))))) (by kernel_rfl) (by kernel_rfl) (by kernel_rfl) (fun _ _ _ h => h) ?_ ?_ hHeld ?_; rotate_left 1; (· rfl); (· intro w' hSw; (try dsimp only at hSw); (try clear hHeld); go_simp; try with_reducible rfl)
      try simp only [Act.put, List.setIfInBounds_toArray, List.set_cons_zero, List.set_cons_succ]
      refine rg_call (i := 24) (atS (atS (atS (atS (atS (atS (atS (atS (atS (atS (atS (atS (atS (atS (atS (atS (atS (atS (atS (atS (atS (atS (atS (atS at0)))))))))))))))))))))))) (by kernel_rfl) ?_ (fun K hK => ?_); (· rfl); (try clear hb); obtain ⟨u, hu⟩ := hHeld.2; have rc := row_cell hu 0; have rf := row_free hu 0; go_simp; go_wp2_with fail; refine hK.out _ _ ?_ (fun hHeld => ?_); (· exact ⟨hHeld.1.put _ _ (.inl rfl), hHeld.2.set _⟩); clear hK K
      try simp only [Act.put, List.setIfInBounds_toArray, List.set_cons_zero, List.set_cons_succ]
      refine wpAnyH_done (by kernel_rfl) ?_ _
      go_wp2_with fail
      go_ret
      exact ⟨rfl, LS.out _ hbs _ HC.out⟩
end Go.Proofs.Ytnklhfdhaclfiaa
