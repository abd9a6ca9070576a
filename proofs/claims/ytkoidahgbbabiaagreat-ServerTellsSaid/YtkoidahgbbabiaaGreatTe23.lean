/- Texts of one proof, one behind another. -/
import Derived.Test.YtkoidahgbbabiaaGreatTe5
import Derived.Lib.SliceRun
import Derived.Test.YtkoidahgbbabiaaGreatTe4
import Derived.Test.YtkoidahgbbabiaaGreatTe22
import Derived.Test.YtkoidahgbbabiaaGreatTe9
import Derived.Test.YtkoidahgbbabiaaGreatTe1
/-
  CHOOSE: slices.IndexFunc, slices.DeleteFunc over ranks, by place; Order.
-/
namespace Go.Proofs.YtkoidahgbbabiaaGreat
open Go.RowKit
def keepP (t : Int) (r : Rk) : Bool := !(r.place == t)
end Go.Proofs.YtkoidahgbbabiaaGreat
/-
  CHOOSE: Order: all, the best first.
-/
namespace Go.Proofs.YtkoidahgbbabiaaGreat
open Go.RowKit
def leftOf (R : List Rk) (gone : List Int) : List Rk := R.filter fun r => !gone.contains r.place
structure OrdSt (R left : List Rk) (out : List Int) : Prop where
  eq : left = leftOf R out
  len : left.length + out.length = R.length
  best : ∀ (p : Nat) (k : Int), out[p]? = some k → ∃ r, r.place = k ∧ IsBest (leftOf R (out.take p)) r
theorem filter_one {T : Rk} : ∀ {l : List Rk}, l.Pairwise (fun a b => a.place ≠ b.place) → T ∈ l → (l.filter (keepP T.place)).length + 1 = l.length
  | [], _, h => by simp at h
  | x :: l, hp, h => by
    obtain ⟨h1, h2⟩ := List.pairwise_cons.1 hp
    rcases List.mem_cons.1 h with rfl | h
    · rw [List.filter_cons_of_neg (by unfold keepP; simp), List.filter_eq_self.2 (fun y hy => by unfold keepP; have := h1 y hy; simpa using fun e => this e.symm)]
      rfl
    · rw [List.filter_cons_of_pos (by unfold keepP; simpa using h1 T h), List.length_cons, filter_one h2 h]
      rfl
theorem left_snoc (R : List Rk) (out : List Int) (t : Int) : leftOf R (out ++ [t]) = (leftOf R out).filter (keepP t) := by
  unfold leftOf
  rw [List.filter_filter]
  congr 1
  funext r
  unfold keepP
  rw [Bool.and_comm]
  by_cases h : r.place = t <;> simp [h]
theorem OrdSt.step {R rs : List Rk} {r : Rk} {out : List Int} (hR : R.Pairwise (fun a b => a.place ≠ b.place)) (h : OrdSt R (r :: rs) out) :
    OrdSt R ((r :: rs).filter (keepP (bestR r rs).place)) (out ++ [(bestR r rs).place]) := by
  have hb := best_spec r rs
  have h1 := h.eq
  have hp : (r :: rs).Pairwise (fun a b => a.place ≠ b.place) := by rw [h1]; exact hR.filter _
  have hl := filter_one hp hb.mem
  refine ⟨by rw [left_snoc, ← h1], by have := h.len; rw [List.length_append]; simp only [List.length_cons, List.length_nil] at *; omega, fun p k hk => ?_⟩
  by_cases hlt : p < out.length
  · rw [List.getElem?_append_left hlt] at hk
    rw [List.take_append_of_le_length (by omega)]
    exact h.best p k hk
  · rw [List.getElem?_append_right (by omega)] at hk
    have e : p = out.length := by
      have := (List.getElem?_eq_some_iff.1 hk).1
      simp at this; omega
    subst e
    simp at hk
    rw [List.take_left]
    exact ⟨_, hk, h1 ▸ hb⟩
theorem Kept.on {F : Nat → Prop} {a b c : World} (h : Kept F a b) (k : Below a.heap.size b c) : Kept F a c :=
  ⟨k.os.trans h.os, k.tape.trans h.tape, k.output.trans h.output, Nat.le_trans h.size k.size, fun i hi hf => (k.block i hi).trans (h.block i hi hf)⟩
end Go.Proofs.YtkoidahgbbabiaaGreat
/-
  THE SERVER: all routes to a prefix that may be a receiver's, the best first.
-/
namespace Go.Proofs.YtkoidahgbbabiaaGreat
open Go.RowKit
def beC (x : BE) : Int × At := (x.peer, x.a)
section
variable {W : World} {rho : Nat → Role} {sb fb : Nat} {ls : List Pl} {S : Sv}
end
end Go.Proofs.YtkoidahgbbabiaaGreat
/-
  THE SERVER: whether a participant's route goes to another one; whether two routes are one.
-/
namespace Go.Proofs.YtkoidahgbbabiaaGreat
open Go.RowKit
def sameBE (x y : BE) : Bool := x.peer == y.peer && (decide (x.p = y.p) && sameA x.a y.a)
theorem sameBE_iff {x y : BE} : sameBE x y = true ↔ x.peer = y.peer ∧ x.p = y.p ∧ x.a = y.a := by
  unfold sameBE
  simp [sameA_iff]
set_option maxHeartbeats 1600000 in
set_option maxRecDepth 100000 in
theorem l_same14 (x y : BE) (w : World) (hx : AvAt w x.a x.v) (hy : AvAt w y.a y.v) : Calls Tryz.prog 29 #[.agg (rtC x.peer x.p x.v), .agg (rtC y.peer y.p y.v)] w fun e w' => e = .returned (.bool (sameBE x y)) ∧ Below w.heap.size w w' := by
  have SM := Lib.hid (fun W (hb : Below w.heap.size w W) => av_Same x.a y.a x.v y.v W (hx.below hb) (hy.below hb))
  clear hx hy
  go_enter Tryz.func29, Tryz.ntmps29
  go_upto_region 1 with (fail)
  obtain ⟨W0, hW0, q0, q1, hB⟩ := boxTwo w (rtC x.peer x.p x.v) 61 (rtC y.peer y.p y.v) 61
  rw [← hW0]
  have x0 : W0.cell? ⟨w.heap.size, 0, none⟩ = some (.int .i64 x.peer) := row_cell q0 0
  have x1 : W0.cell? ⟨w.heap.size, 1, none⟩ = some (.int .u32 x.p.1) := row_cell q0 1
  have x2 : W0.cell? ⟨w.heap.size, 2, none⟩ = some (.int .i64 x.p.2) := row_cell q0 2
  have y0 : W0.cell? ⟨w.heap.size + 1, 0, none⟩ = some (.int .i64 y.peer) := row_cell q1 0
  have y1 : W0.cell? ⟨w.heap.size + 1, 1, none⟩ = some (.int .u32 y.p.1) := row_cell q1 1
  have y2 : W0.cell? ⟨w.heap.size + 1, 2, none⟩ = some (.int .i64 y.p.2) := row_cell q1 2
  have RX := Lib.hid (rt_range q0)
  have RY := Lib.hid (rt_range q1)
  have B0 := Lib.hid hB
  obtain ⟨b0, hb0⟩ : ∃ b, b = w.heap.size := ⟨_, rfl⟩
  obtain ⟨b1, hb1⟩ : ∃ b, b = w.heap.size + 1 := ⟨_, rfl⟩
  rw [← hb1, ← hb0]
  rw [← hb1] at y0 y1 y2 RY
  rw [← hb0] at x0 x1 x2 RX
  clear hW0 q0 q1 hB hb0 hb1
  by_cases h1 : x.peer = y.peer
  · have e1 : (x.peer == y.peer) = true := by simpa using h1
    have e2 : (x.peer = y.peer) = True := eq_true h1
    by_cases h2 : x.p = y.p
    · have e3 : (x.p.1 == y.p.1 && x.p.2 == y.p.2) = true := by rw [h2]; simp
      have e4 : x.p.1 == y.p.1 := by rw [h2]; simp
      have e5 : x.p.2 == y.p.2 := by rw [h2]; simp
      have SV : Hid (sameBE x y = sameA x.a y.a) := Lib.hid (by unfold sameBE; rw [e1, decide_eq_true h2]; rfl)
      clear h1 h2
      go_wp2_with ((with_reducible refine halt_at (X := .load 42 (.tmp 18)) ?_ ?_); (· rfl))
      unfold Halt
      refine ldm_at (by rfl) 42 (.tmp 18) rfl b0 3 rfl x.v.C.toList _ RX.out Tryz.underlying42 rfl sz_avS ?_
      go_wp2_with ((with_reducible refine halt_at (X := .load 42 (.tmp 20)) ?_ ?_); (· rfl))
      unfold Halt
      refine ldm_at (by rfl) 42 (.tmp 20) rfl b1 3 rfl y.v.C.toList _ RY.out Tryz.underlying42 rfl sz_avS ?_
      go_wp2_with fail
      refine (SM.out W0 B0.out).mono ?_
      rintro e w1 ⟨rfl, hb⟩
      have B1 := Lib.hid (below_on B0.out hb)
      clear hb SM x0 x1 x2 y0 y1 y2 e3
      go_wp2_with fail
      go_ret
      exact ⟨by rw [SV.out]; rfl, B1.out⟩
    · have e3 : (x.p.1 == y.p.1 && x.p.2 == y.p.2) = false := by
        rw [Bool.eq_false_iff]
        intro h
        simp at h
        exact h2 (Prod.ext h.1 h.2)
      have SV : Hid (sameBE x y = false) := Lib.hid (by unfold sameBE; rw [decide_eq_false h2]; simp)
      clear h1 h2
      go_wp2_with fail
      go_ret
      exact ⟨by rw [SV.out]; rfl, B0.out⟩
  · have e1 : (x.peer == y.peer) = false := by simpa using h1
    have e2 : (x.peer = y.peer) = False := eq_false h1
    have SV : Hid (sameBE x y = false) := Lib.hid (by unfold sameBE; rw [e1]; rfl)
    clear h1
    go_wp2_with fail
    go_ret
    exact ⟨by rw [SV.out]; rfl, B0.out⟩
def goesS (own : Int) (bl : Nat → Bool) (R : Rts) (i j : Nat) (t : Int) (p : Pf) : Bool := match getL R p with | none => false | some a => goesB own bl a i j t
section
variable {W : World} {rho : Nat → Role} {sb fb : Nat} {ls : List Pl} {S : Sv}
end
end Go.Proofs.YtkoidahgbbabiaaGreat
/-
  THE SERVER: what is blocked between two participants.
-/
namespace Go.Proofs.YtkoidahgbbabiaaGreat
open Go.RowKit
def setBl (S : Sv) (i j : Nat) (b : Bool) : Sv := { S with bl := setWay S.bl (i * 16 + j) b }
def renew1 (j : Nat) (S : Sv) (p : Pf) : Sv := renewP S j p (saidS S.ms p)
def blockL (S : Sv) (j : Nat) (ps : List Pf) : Sv := ps.foldl (renew1 j) S
theorem blockL_snoc (S : Sv) (j : Nat) (ps : List Pf) (p : Pf) : blockL S j (ps ++ [p]) = renew1 j (blockL S j ps) p := by unfold blockL; rw [List.foldl_append]; rfl
theorem kin_block (j : Nat) : ∀ (ps : List Pf) (S : Sv), SvKin S (blockL S j ps)
  | [], S => SvKin.refl S
  | p :: ps, S => (kin_renew S j p _).trans (kin_block j ps (renew1 j S p))
theorem renewP_best (S : Sv) (j : Nat) (p : Pf) (l : List Cd) (k : Nat) (q : Pf) : (renewP S j p l).best k q = if k = j ∧ q = p then newBest S j l else S.best k q := rfl
theorem blockL_best (j : Nat) : ∀ (ps : List Pf) (S : Sv) (k : Nat) (q : Pf), (blockL S j ps).best k q = if k = j ∧ q ∈ ps then bestIn S j q else S.best k q
  | [], S, k, q => by rw [if_neg (by simp)]; rfl
  | p :: ps, S, k, q => by
    show (blockL (renew1 j S p) j ps).best k q = _
    rw [blockL_best j ps]
    have hk : SvKin S (renew1 j S p) := kin_renew S j p _
    rw [hk.bestIn]
    unfold renew1
    rw [renewP_best, newBest_said]
    by_cases e1 : k = j
    · by_cases e2 : q ∈ ps
      · rw [if_pos ⟨e1, e2⟩, if_pos ⟨e1, List.mem_cons_of_mem _ e2⟩]
      · rw [if_neg (fun h => e2 h.2)]
        by_cases e3 : q = p
        · subst e3; rw [if_pos ⟨e1, rfl⟩, if_pos ⟨e1, List.mem_cons_self ..⟩]
        · rw [if_neg (fun h => e3 h.2), if_neg (by simp [e2, e3])]
    · rw [if_neg (fun h => e1 h.1), if_neg (fun h => e1 h.1), if_neg (fun h => e1 h.1)]
theorem renewP_ms (S : Sv) (j : Nat) (p : Pf) (l : List Cd) (k : Nat) : (renewP S j p l).ms[k]? = (S.ms[k]?).map fun m => if k = j then m.mark p (m.there && !sameB (S.best j p) (newBest S j l)) else m := by
  unfold renewP
  rw [markS_get]
  rfl
theorem blockL_news (j : Nat) : ∀ (ps : List Pf) (S : Sv) (k : Nat) (m : Pm), S.ms[k]? = some m → ∃ n, (blockL S j ps).ms[k]? = some n ∧ n.there = m.there ∧ ∀ q, n.news q = (m.news q || (decide (k = j) && (m.there && (decide (q ∈ ps) && !sameB (S.best j q) (bestIn S j q)))))
  | [], S, k, m, hm => ⟨m, hm, rfl, fun q => by simp⟩
  | p :: ps, S, k, m, hm => by
    have h1 := renewP_ms S j p (saidS S.ms p) k
    rw [hm] at h1
    simp only [Option.map_some] at h1
    obtain ⟨n, n1, n2, n3⟩ := blockL_news j ps (renew1 j S p) k _ h1
    refine ⟨n, n1, ?_, fun q => ?_⟩
    · rw [n2]; split <;> rfl
    · rw [n3 q]
      have hk : SvKin S (renew1 j S p) := kin_renew S j p _
      rw [hk.bestIn]
      have hb : (renew1 j S p).best j q = if q = p then bestIn S j q else S.best j q := by
        unfold renew1
        rw [renewP_best, newBest_said]
        by_cases e : q = p
        · subst e; rw [if_pos ⟨rfl, rfl⟩, if_pos rfl]
        · rw [if_neg (fun h => e h.2), if_neg e]
      rw [hb]
      by_cases e : k = j
      · simp only [e, if_true, decide_true, Bool.true_and]
        rw [mark_news, newBest_said]
        have hth : (m.mark p (m.there && !sameB (S.best j p) (bestIn S j p))).there = m.there := rfl
        rw [hth]
        by_cases e2 : q = p
        · subst e2
          have : sameB (bestIn S j q) (bestIn S j q) = true := (sameB_iff _ _).2 rfl
          simp [this]
        · have h3 : decide (q ∈ p :: ps) = decide (q ∈ ps) := by simp [e2]
          rw [if_neg e2, h3]
          simp [e2]
      · simp [e]
theorem rt_at {w : World} {s : Option Addr} {n c i : Nat} {xs : List RE} (h : SlAt w 13 (fun x cs => cs = rtL i x) (.slice s n c) xs) {k : Nat} {x : RE} (hx : xs[k]? = some x) : ∃ g o, s = some ⟨g, o, none⟩ ∧ w.rangeAt g (o + k * 13) (rtL i x) := by
  obtain ⟨s', c', e, h1, h2, h3⟩ := h
  injection e with e _ _
  subst e
  have hi := (List.getElem?_eq_some_iff.1 hx).1
  obtain ⟨b, off, rfl, h4⟩ := h3 (by omega)
  obtain ⟨cs, -, rfl, hc⟩ := h4 k x hx
  exact ⟨b, off, rfl, fun j v hv => hc j v hv⟩
section
variable {w W W2 : World} {rho : Nat → Role} {sb fb : Nat} {ls : List Pl} {S : Sv} {A : Ab}
theorem IsAb.block (h : IsAb S A) (few : A.V.length ≤ 16) {i j : Nat} (hi : i < A.V.length) (hj : j < A.V.length) (b : Bool) (ps : List Pf) (hps : ∀ p, p ∈ ps ↔ (getL (A.R i) p).isSome = true) : IsAb (blockL (setBl S i j b) j ps) (A.block i j b) := by
  have hk := kin_block j ps (setBl S i j b)
  have hV : RV (blockL (setBl S i j b) j ps) = A.V := by rw [hk.RV]; exact h.V
  have hin : ∀ k q, bestIn (setBl S i j b) k q = bestV A.own (setWay A.bl (i * 16 + j) b) A.V k q := fun k q => by
    rw [bestIn_V]
    show bestV S.own (setWay S.bl (i * 16 + j) b) (RV S) k q = _
    rw [h.own, h.bl, h.V]
  have hold : ∀ k q, k < A.V.length → ¬ (k = j ∧ q ∈ ps) → A.best k q = bestV A.own (setWay A.bl (i * 16 + j) b) A.V k q := fun k q hkl hq => by
    refine bestV_congr rfl (fun n v v' hv hv' => ?_) fun n v a hv hg => ?_
    · rw [hv] at hv'; injection hv' with hv'; subst hv'; exact ⟨rfl, rfl, rfl⟩
    · unfold setWay
      rw [if_neg]
      intro e
      have hn := (List.getElem?_eq_some_iff.1 hv).1
      have e1 : n = i := by omega
      have e2 : k = j := by omega
      subst e1
      refine hq ⟨e2, (hps q).2 ?_⟩
      unfold Ab.R
      rw [hv]
      show (getL v.2.2 q).isSome = true
      rw [hg]; rfl
  have hbl : (blockL (setBl S i j b) j ps).bl = setWay A.bl (i * 16 + j) b := by
    rw [hk.bl]
    show setWay S.bl (i * 16 + j) b = _
    rw [h.bl]
  refine ⟨hk.own.trans h.own, hk.most.trans h.most, hbl, hV, ?_, ?_⟩
  · intro k n hn
    obtain ⟨m, hm, -⟩ := hk.back hn
    obtain ⟨n', g1, g2, g3⟩ := blockL_news j ps _ k m hm
    rw [hn] at g1; injection g1 with g1; subst g1
    have hm : S.ms[k]? = some m := hm
    obtain ⟨h1, h2⟩ := h.mem k m hm
    refine ⟨g2.trans h1, fun q => ?_⟩
    rw [g3 q, h2 q, h1]
    unfold Ab.block Ab.turn
    simp only
    have hkl : k < A.V.length := by rw [← h.len]; exact (List.getElem?_eq_some_iff.1 hm).1
    by_cases e : k = j ∧ q ∈ ps
    · obtain ⟨rfl, hq⟩ := e
      have hb : (setBl S i k b).best k q = A.best k q := h.best k q (by rw [h.len]; exact hkl)
      rw [hb, hin]
      simp [hq]
    · have e2 : sameB (A.best k q) (bestV A.own (setWay A.bl (i * 16 + j) b) A.V k q) = true := (sameB_iff _ _).2 (hold k q hkl e)
      rw [e2]
      by_cases e3 : k = j
      · have : ¬ q ∈ ps := fun h => e ⟨e3, h⟩
        simp [this]
      · simp [e3]
  · intro k q hkl
    rw [hk.len] at hkl
    have hkl : k < S.ms.length := hkl
    rw [blockL_best]
    show _ = bestV A.own (setWay A.bl (i * 16 + j) b) A.V k q
    by_cases e : k = j ∧ q ∈ ps
    · rw [if_pos e, hin, e.1]
    · rw [if_neg e]
      exact (h.best k q hkl).trans (hold k q (by rw [← h.len]; exact hkl) e)
theorem SrvM.setFil (h : SrvM W rho sb fb ls S) {bl' : Nat → Bool} (hk : Kept (fun k => k = fb) W W2) (hf : FilAt W2 fb S.own bl') : SrvM W2 rho sb fb ls { S with bl := bl' } ∧ Step rho rho W W2 := by
  have rf := h.bod.rfb
  refine ⟨⟨(h.top.kept hk fun k _ hF e => by
    have e : k = fb := e
    rw [e, rf] at hF; cases hF), ⟨hf, rf, h.bod.len, h.bod.few, ?_, fun k hk' => Nat.lt_of_lt_of_le (h.dom k hk') hk.size, h.bod.own1⟩, h.rsb⟩, ⟨fun _ _ => rfl, hk.imp fun k e => by
    have e : k = fb := e
    rw [e, rf]; intro e; cases e⟩⟩
  intro i m l hm hl
  exact (h.bod.mem i m l hm hl).kept (fun _ _ => rfl) hk fun k _ ho e => by
    have e : k = fb := e
    rw [e, rf] at ho
    rcases ho with e | e | e | e | e <;> cases e
set_option maxRecDepth 100000 in
theorem sv_Block_no (h : SrvM W rho sb fb ls S) {n k : Int} (hn : ¬ ((0 ≤ n ∧ n < (S.ms.length : Int)) ∧ (0 ≤ k ∧ k < (S.ms.length : Int)))) (b : Bool) : Calls Tryz.prog 26 #[.pointer (some ⟨sb, 0, none⟩), .int .i64 n, .int .i64 k, .bool b] W fun e w' => e = .returned (.int .i64 1) ∧ W = w' := by
  by_cases h1 : 0 ≤ n ∧ n < (S.ms.length : Int)
  · obtain ⟨i, rfl⟩ := Int.eq_ofNat_of_zero_le h1.1
    obtain ⟨m, hm⟩ : ∃ m, S.ms[i]? = some m := ⟨_, List.getElem?_eq_getElem (by omega)⟩
    obtain ⟨l, hl, -⟩ := h.get hm
    have MB := Lib.hid (sv_member h hl)
    have MB2 := Lib.hid (sv_member_no h (n := k) (fun h2 => hn ⟨h1, h2⟩))
    clear h hn h1 hm hl
    go_enter Tryz.func26, Tryz.ntmps26
    go_wp2_with fail
    refine MB.out.mono ?_
    rintro e w1 ⟨rfl, rfl⟩
    go_wp2_with fail
    refine MB2.out.mono ?_
    rintro e w1 ⟨rfl, rfl⟩
    go_wp2_with fail
    go_ret
    exact ⟨rfl, rfl⟩
  · have MB := Lib.hid (sv_member_no h h1)
    clear h hn h1
    go_enter Tryz.func26, Tryz.ntmps26
    go_wp2_with fail
    refine MB.out.mono ?_
    rintro e w1 ⟨rfl, rfl⟩
    go_wp2_with fail
    go_ret
    exact ⟨rfl, rfl⟩
def BlockPost (sb fb : Nat) (ls : List Pl) (S : Sv) (i j : Nat) (m : Pm) (b : Bool) (rho : Nat → Role) (W : World) (e : Ending) (w' : World) : Prop :=
  ∃ (rho' : Nat → Role) (ps : List Pf), e = .returned (.int .i64 0) ∧ (∀ p, p ∈ ps ↔ (getL m.R p).isSome = true) ∧ SrvM w' rho' sb fb ls (blockL (setBl S i j b) j ps) ∧ Step rho rho' W w'
set_option maxHeartbeats 6400000 in
set_option maxRecDepth 100000 in
theorem sv_Block (h : SrvM W rho sb fb ls S) {i j : Nat} {m n : Pm} (hm : S.ms[i]? = some m) (hn : S.ms[j]? = some n) (b : Bool) :
    Calls Tryz.prog 26 #[.pointer (some ⟨sb, 0, none⟩), .int .i64 i, .int .i64 j, .bool b] W (BlockPost sb fb ls S i j m b rho W) := by
  obtain ⟨l, hl, hM⟩ := h.get hm
  obtain ⟨l2, hl2, -⟩ := h.get hn
  obtain ⟨s, cap, -, cf, -⟩ := h.cells
  have few := h.bod.few
  have hi : i < 16 := by have := (List.getElem?_eq_some_iff.1 hm).1; omega
  have hj : j < 16 := by have := (List.getElem?_eq_some_iff.1 hn).1; omega
  have HS := Lib.hid h
  have HM := Lib.hid hm
  have HN := Lib.hid hn
  have HL := Lib.hid hl
  have MB := Lib.hid (sv_member h hl)
  have MB2 := Lib.hid (sv_member h hl2)
  have Fss := Lib.hid (ex_Set fb S.own S.bl i j b hi hj W h.bod.fil)
  clear h hm hn hl hl2 hM hi hj few
  go_enter Tryz.func26, Tryz.ntmps26
  go_wp2_with fail
  refine MB.out.mono ?_
  rintro e w1 ⟨rfl, rfl⟩
  go_wp2_with fail
  refine MB2.out.mono ?_
  rintro e w1 ⟨rfl, rfl⟩
  go_wp2_with fail
  refine Fss.out.mono ?_
  rintro e w2 ⟨rfl, hf, hk⟩
  have D := Lib.hid (HS.out.setFil hk hf)
  clear hf hk Fss cf MB MB2
  obtain ⟨S1, hS1⟩ : ∃ S1, setBl S i j b = S1 := ⟨_, rfl⟩
  have D1 : Hid (SrvM w2 rho sb fb ls S1 ∧ Step rho rho W w2) := Lib.hid (by rw [← hS1]; exact D.out)
  have HM1 : Hid (S1.ms[i]? = some m) := Lib.hid (by rw [← hS1]; exact HM.out)
  have HN1 : Hid (S1.ms[j]? = some n) := Lib.hid (by rw [← hS1]; exact HN.out)
  have E1 := Lib.hid hS1
  clear D hS1
  have hM1 := D1.out.1.bod.mem i m l HM1.out HL.out
  have m3 : w2.cell? ⟨l.mb, 3, none⟩ = some (.pointer (some ⟨l.rb, 0, none⟩)) := row_cell hM1.row 3
  have AL := Lib.hid (ad_All w2 hM1.rib)
  have RGT : Hid (∀ p, (getL m.R p).isSome = true → RgtP p) := Lib.hid (fun p hp => rts_right hM1.rib hp)
  clear hM1
  go_wp2_with fail
  refine AL.out.mono ?_
  rintro e w3 ⟨v, vs, rfl, re, -, rm, hb3⟩
  obtain ⟨sv, cv, rfl, -⟩ := own_form re.own
  have D3 := Lib.hid (And.intro (D1.out.1.below hb3) (D1.out.2.grow hb3))
  have RW : Hid (On (fun k => rho k = .no) w3 (fun W => SlAt W 13 (fun x cs => cs = rtL i x) (.slice sv vs.length cv) vs)) := Lib.hid (((own_fresh re.own).wide (G := fun k => rho k = .no) fun k hk _ => D1.out.1.newNo hk).imp fun V hV => own_slat (rtL_len i) hV)
  have RM := Lib.hid rm
  have vl : vs.length ≤ 9223372036854775807 := by
    obtain ⟨sa, cap, -, g1, g2, -⟩ := RW.out.self
    exact Nat.le_trans g1 g2
  have S0 : Hid (SrvM w3 rho sb fb ls (blockL S1 j ((vs.map (·.p)).take 0))) := Lib.hid D3.out.1
  have T0 := Lib.hid D3.out.2
  clear re rm hb3 AL m3 D3
  go_wp2_with fail
  go_loopw [41] (fun t41 wr => ∃ (k : Nat) (rho1 : Nat → Role), k ≤ vs.length ∧ t41 = .int .i64 k ∧ Hid (SrvM wr rho1 sb fb ls (blockL S1 j ((vs.map (·.p)).take k))) ∧ Hid (Step rho rho1 W wr) ∧ Hid (Step rho rho1 w3 wr)) (fun t41 _ => vs.length - (intOf t41).toNat)
  case atStart => exact ⟨0, rho, by omega, rfl, S0, T0, Lib.hid Step.refl⟩
  case round =>
    clear S0 T0
    obtain ⟨k, rho1, hk, rfl, SK, TK, T3⟩ := hrel
    by_cases hkl : k < vs.length
    · obtain ⟨x, hx⟩ : ∃ x, vs[k]? = some x := ⟨_, List.getElem?_eq_getElem hkl⟩
      obtain ⟨g, o, rfl, hrg⟩ := rt_at (T3.out.free RW.out).self hx
      have RG := Lib.hid hrg
      have HP := Lib.hid (RGT.out x.p ((RM.out x.p).1 (List.mem_map.2 ⟨x, List.mem_of_getElem? hx, rfl⟩)))
      have NX : Hid (blockL S1 j ((vs.map (·.p)).take (k + 1)) = renew1 j (blockL S1 j ((vs.map (·.p)).take k)) x.p) := Lib.hid (by
        rw [take_snoc (x := x.p) (by rw [List.getElem?_map, hx]; rfl), blockL_snoc])
      obtain ⟨T, hT⟩ : ∃ T, blockL S1 j ((vs.map (·.p)).take k) = T := ⟨_, rfl⟩
      rw [hT] at SK NX
      obtain ⟨n', hn'⟩ : ∃ n', T.ms[j]? = some n' := by
        obtain ⟨n', h1, -⟩ := (kin_block j ((vs.map (·.p)).take k) S1).mem j n HN1.out
        rw [hT] at h1
        exact ⟨n', h1⟩
      have HN2 := Lib.hid hn'
      have k0 : (0 : Int) ≤ (k : Int) := by omega
      have k1 : (k : Int) < (vs.length : Int) := by omega
      clear hx hrg hT hn'
      go_wp2_with ((with_reducible refine halt_at (X := .load 61 (.tmp 43)) ?_ ?_); (· rfl))
      unfold Halt
      refine ldm_at (by rfl) 61 (.tmp 43) rfl g (o + k * 13) rfl (rtL i x) _ RG.out Tryz.underlying61 rfl sz_rt ?_
      go_wp2_with ((with_reducible refine halt_at (X := .store 61 (.tmp 12) (.tmp 44)) ?_ ?_); (· rfl))
      unfold Halt
      refine st_fresh rfl 61 (.tmp 12) (.tmp 44) rfl rfl _ (rtC i x.p x.v) rfl sz_rt rfl (rt_one _ _ _) ?_
      obtain ⟨w4, hw4, q4, hb4, -⟩ := box1 wr (rtC i x.p x.v) 61
      rw [← hw4]
      obtain ⟨pb, hpb⟩ : ∃ pb, pb = wr.heap.size := ⟨_, rfl⟩
      rw [← hpb] at q4 ⊢
      have c0 : w4.cell? ⟨pb, 1, none⟩ = some (.int .u32 x.p.1) := row_cell q4 1
      have c1 : w4.cell? ⟨pb, 2, none⟩ = some (.int .i64 x.p.2) := row_cell q4 2
      have SK4 := Lib.hid (SK.out.below hb4)
      have TK4 := Lib.hid (TK.out.grow hb4)
      have T34 := Lib.hid (T3.out.grow hb4)
      have NPB : Hid (¬ (rho1 pb ≠ .no)) := Lib.hid (fun h => h (SK.out.newNo (Nat.le_of_eq hpb.symm)))
      have SKD := Lib.hid (SK4.out.below (Below.refl w4.heap.size w4).drew)
      clear hw4 q4 hb4 SK TK T3 RG hpb
      simp only [Act.put]
      go_upto_region 10 with (fail)
      refine wp_region_held_drew (S := fun w' => Kept (fun k => rho1 k ≠ .no) w4 w') (by kernel_rfl) ?_ (fun hHeld => ?_)
      · exact (Kept.refl _ _).drew
      generalize World.drew w4 = wd at SKD hHeld ⊢
      refine qy 0 ?_ ?_ ?_ hHeld ?_; rotate_left 1; (· rfl); (· intro w' hSw; (try clear hHeld); go_simp; try with_reducible rfl)
      try simp only [zp1, zp3, zp4, zp5]
      refine qy 1 ?_ ?_ ?_ hHeld ?_; rotate_left 1; (· rfl); (· intro w' hSw; (try clear hHeld); go_simp; try with_reducible rfl)
      try simp only [zp1, zp3, zp4, zp5]
      refine qy 2 ?_ ?_ ?_ hHeld ?_; rotate_left 1; (· rfl); (· intro w' hSw; (try clear hHeld); go_simp; try with_reducible rfl)
      try simp only [zp1, zp3, zp4, zp5]
      refine qy 3 ?_ ?_ ?_ hHeld ?_; rotate_left 1; (· rfl); (· intro w' hSw; have c0 := hSw.cell c0 NPB.out; have c1 := hSw.cell c1 NPB.out; (try clear hHeld); go_simp; try with_reducible rfl)
      try simp only [zp1, zp3, zp4, zp5]
      refine qy 4 ?_ ?_ ?_ hHeld ?_; rotate_left 1; (· rfl); (· intro w' hSw; (try clear hHeld); go_simp; try with_reducible rfl)
      try simp only [zp1, zp3, zp4, zp5]
      refine qy 5 ?_ ?_ ?_ hHeld ?_; rotate_left 1; (· rfl); (· intro w' hSw; (try clear hHeld); go_simp; try with_reducible rfl)
      try simp only [zp1, zp3, zp4, zp5]
      refine qy 6 ?_ ?_ ?_ hHeld ?_; rotate_left 1; (· rfl); (· intro w' hSw; have c0 := hSw.cell c0 NPB.out; have c1 := hSw.cell c1 NPB.out; (try clear hHeld); go_simp; try with_reducible rfl)
      try simp only [zp1, zp3, zp4, zp5]
      refine rg_call (i := 7) (atN rfl) (by kernel_rfl) ?_ (fun K hK => ?_); (· rfl); (try clear hb); go_simp; refine (sv_said SKD.out x.p HP.out.1).mono ?_; rintro e wq ⟨sx, cx, xs, A, rfl, ox, xe, hbq⟩; have SKQ := Lib.hid (SKD.out.below hbq); have AC := Lib.hid (said_all SKQ.out HP.out xe); have XE := Lib.hid xe; have XN := Lib.hid (ox.fresh.wide (G := fun k => rho1 k = .no) fun k hk _ => SKD.out.newNo hk); have STD := Lib.hid (hHeld.grow hbq); go_wp2_with fail; refine hK.out _ _ ?_ (fun hHeld => ?_); (· exact hHeld.grow hbq); clear hK K
      try simp only [zp1, zp3, zp4, zp5]
      refine rg_call (i := 8) (atN rfl) (by kernel_rfl) ?_ (fun K hK => ?_); (· rfl); (try clear hb); go_simp; refine (sv_renew SKQ.out HN2.out x.p HP.out (.slice sx xs.length cx) xs XN.out AC.out).mono ?_; rintro e wz ⟨rho3, rfl, hs3, st3⟩; go_wp2_with fail; refine hK.out _ _ ?_ (fun hHeld => ?_); (· exact hHeld.trans st3.kept); clear hK K
      try simp only [zp1, zp3, zp4, zp5]
      refine wpAnyH_done (by kernel_rfl) ?_ _
      have SF : Hid (SrvM wz rho3 sb fb ls (blockL S1 j ((vs.map (·.p)).take (k + 1)))) := Lib.hid (by
        rw [NX.out]
        unfold renew1
        rw [← XE.out]
        exact hs3)
      have SD : Hid (Step rho1 rho3 w4 wz) := Lib.hid ⟨fun k hk => st3.same k (Nat.lt_of_lt_of_le hk STD.out.size), STD.out.trans st3.kept⟩
      have TF := Lib.hid (TK4.out.trans SD.out)
      have TF3 := Lib.hid (T34.out.trans SD.out)
      clear hHeld hs3 st3 SD STD XN SKQ SKD c0 c1
      go_wp2_with fail
      exact ⟨⟨k + 1, rho3, by omega, by go_num, SF, TF, TF3⟩, by simp [intOf]; omega⟩
    · obtain rfl : k = vs.length := by omega
      have e : (vs.map (·.p)).take vs.length = vs.map (·.p) := List.take_of_length_le (by rw [List.length_map]; exact Nat.le_refl _)
      rw [e] at SK
      have SF := Lib.hid SK.out
      clear SK hk hkl
      go_wp2_with fail
      refine bodyPost_ret (v := .int .i64 0) (by simp [results, Tryz.results26, go_sem]) rfl ⟨rho1, _, rfl, fun p => RM.out p, by rw [E1.out]; exact SF.out, TK.out⟩
end
end Go.Proofs.YtkoidahgbbabiaaGreat
/-
  THE SERVER, IN SHORT: who offers a route; what blocking makes of it.
-/
namespace Go.Proofs.YtkoidahgbbabiaaGreat
open Go.RowKit
def Ab.as_ (A : Ab) (j : Nat) : Int := ((A.V[j]?).map (·.1)).getD 0
def Ab.goes (A : Ab) (i j : Nat) (p : Pf) : Bool := goesS A.own A.bl (A.R i) i j (A.as_ j) p
section
variable {w W : World} {rho : Nat → Role} {sb fb : Nat} {ls : List Pl} {S : Sv} {A : Ab}
theorem IsAb.asO (h : IsAb S A) {j : Nat} {m : Pm} (hm : S.ms[j]? = some m) : A.as_ j = m.as_ := by
  unfold Ab.as_
  rw [(h.get hm).1]
  rfl
theorem ls_Block (h : LSv w W rho sb fb ls A) {i j : Nat} (hi : i < A.V.length) (hj : j < A.V.length) (b : Bool) :
    Calls Tryz.prog 26 #[.pointer (some ⟨sb, 0, none⟩), .int .i64 i, .int .i64 j, .bool b] W fun e w' => ∃ rho' : Nat → Role, e = .returned (.int .i64 0) ∧ LSv w w' rho' sb fb ls (A.block i j b) ∧ Step rho rho' W w' := by
  obtain ⟨S, h1, h2⟩ := h.srv
  obtain ⟨m, hm⟩ := h2.at hi
  obtain ⟨n, hn⟩ := h2.at hj
  refine (sv_Block h1 hm hn b).mono ?_
  rintro e w' ⟨rho', ps, rfl, hps, hs, st⟩
  exact ⟨rho', rfl, h.step hs (h2.block h.few hi hj b ps (fun p => by rw [(h2.get hm).2]; exact hps p)) st, st⟩
theorem ls_Block_no (h : LSv w W rho sb fb ls A) {n k : Int} (hn : ¬ ((0 ≤ n ∧ n < (A.V.length : Int)) ∧ (0 ≤ k ∧ k < (A.V.length : Int)))) (b : Bool) : Calls Tryz.prog 26 #[.pointer (some ⟨sb, 0, none⟩), .int .i64 n, .int .i64 k, .bool b] W fun e w' => e = .returned (.int .i64 1) ∧ W = w' := by
  obtain ⟨S, h1, h2⟩ := h.srv
  exact sv_Block_no h1 (by rw [h2.len]; exact hn) b
end
theorem best_offs (A : Ab) (r : Nat) (p : Pf) : A.best r p = pickB (A.offs r p) := rfl
structure ToldOf (A : Ab) (r : Nat) (p : Pf) (L : List BE) : Prop where
  perm : (L.map beC).Perm ((A.offs r p).map fun c => (c.peer, c.a))
  net : ∀ x ∈ L, x.p = p
theorem ToldOf.of {A : Ab} {r : Nat} {p : Pf} {L : List BE} (h : ToldOf A r p L) {x : BE} (hx : x ∈ L) : ∃ c ∈ A.offs r p, c.peer = x.peer ∧ c.a = x.a := by
  have := h.perm.mem_iff.1 (List.mem_map.2 ⟨x, hx, rfl⟩)
  obtain ⟨c, hc, e⟩ := List.mem_map.1 this
  injection e with e1 e2
  exact ⟨c, hc, e1, e2⟩
theorem ToldOf.all {A : Ab} {r : Nat} {p : Pf} {L : List BE} (h : ToldOf A r p L) {c : Cd} (hc : c ∈ A.offs r p) : ∃ x ∈ L, x.peer = c.peer ∧ x.a = c.a := by
  have := h.perm.mem_iff.2 (List.mem_map.2 ⟨c, hc, rfl⟩)
  obtain ⟨x, hx, e⟩ := List.mem_map.1 this
  injection e with e1 e2
  exact ⟨x, hx, e1, e2⟩
theorem ToldOf.none {A : Ab} {r : Nat} {p : Pf} {L : List BE} (h : ToldOf A r p L) : A.best r p = .none ↔ L = [] := by
  rw [best_offs, pickB_none]
  have := h.perm.length_eq
  rw [List.length_map, List.length_map] at this
  constructor
  · intro e; rw [e] at this; exact List.length_eq_zero_iff.1 this
  · intro e; rw [e] at this; exact List.length_eq_zero_iff.1 this.symm
def blocks (A : Ab) (r : Nat) (L : List BE) : Ab := L.foldl (fun A x => A.block x.peer.toNat r true) A
end Go.Proofs.YtkoidahgbbabiaaGreat
/-
  ServerTells, plain: what a participant was told, as long as nothing is to be told, is what is best for it.
-/
namespace Go.Proofs.YtkoidahgbbabiaaGreat
open Go.RowKit
def knV (l : List (Pf × BE)) (p : Pf) : Option (Int × At) := (getL l p).map fun x => (x.peer, x.a)
structure KnT (l : List (Pf × BE)) : Prop where
  apart : KeysApart l
  net : ∀ x ∈ l, x.2.p = x.1
  rgt : ∀ x ∈ l, RgtP x.1
def KnOk (A : Ab) (i : Nat) (l : List (Pf × BE)) : Prop := A.th i = true → ∀ p, A.nw i p = false → knV l p = A.best i p
theorem KnOk.turn {A : Ab} {i : Nat} {l : List (Pf × BE)} (h : KnOk A i l) (bl : Nat → Bool) (V : List VM) : KnOk (A.turn bl V) i l := by
  intro ht p hn
  have ht' : A.th i = true := ht
  have hn' : (A.nw i p || (A.th i && !sameB (A.best i p) (bestV A.own bl V i p))) = false := hn
  rw [ht', Bool.or_eq_false_iff] at hn'
  have h2 : sameB (A.best i p) (bestV A.own bl V i p) = true := by simpa using hn'.2
  exact (h ht' p hn'.1).trans ((sameB_iff _ _).1 h2)
theorem KnOk.join_self (A : Ab) (i : Nat) : KnOk (A.join i) i [] := by
  intro _ p hn
  have hn' : setF A.nw i (fun p => A.nw i p || (A.best i p).isSome) i p = false := hn
  rw [setF_same, Bool.or_eq_false_iff] at hn'
  have : A.best i p = none := by cases hb : A.best i p with
    | none => rfl
    | some x => rw [hb] at hn'; cases hn'.2
  show none = A.best i p
  rw [this]
theorem KnOk.join {A : Ab} {k : Nat} {l : List (Pf × BE)} (h : KnOk A k l) {i : Nat} (hk : k ≠ i) : KnOk (A.join i) k l := by
  intro ht p hn
  have ht' : setF A.th i true k = true := ht
  have hn' : setF A.nw i (fun p => A.nw i p || (A.best i p).isSome) k p = false := hn
  rw [setF_other _ hk] at ht' hn'
  exact h ht' p hn'
theorem KnOk.away {A : Ab} {k : Nat} {l : List (Pf × BE)} (h : KnOk A k l) (i : Nat) : KnOk (A.away i) k l := by
  intro ht p hn
  have ht' : setF A.th i false k = true := ht
  have hn' : setF A.nw i (fun _ => false) k p = false := hn
  by_cases e : k = i
  · subst e; rw [setF_same] at ht'; cases ht'
  · rw [setF_other _ e] at ht' hn'
    exact h ht' p hn'
theorem KnOk.leave {A : Ab} {k : Nat} {l : List (Pf × BE)} (h : KnOk A k l) (i : Nat) : KnOk (A.leave i) k l := (h.away i).turn _ _
theorem KnOk.upd {A : Ab} {k : Nat} {l : List (Pf × BE)} (h : KnOk A k l) (i : Nat) (kind : Int) (gone nets : List Pf) (a : At) : KnOk (A.upd i kind gone nets a) k l := by
  unfold Ab.upd
  split
  · exact h.turn _ _
  · exact h
theorem KnOk.updI {A : Ab} {k : Nat} {l : List (Pf × BE)} (h : KnOk A k l) (n : Int) (kind : Int) (gone nets : List Pf) (a : At) : KnOk (A.updI n kind gone nets a) k l := by
  unfold Ab.updI
  split
  · exact h.upd _ kind gone nets a
  · exact h
theorem KnOk.block {A : Ab} {k : Nat} {l : List (Pf × BE)} (h : KnOk A k l) (i j : Nat) (b : Bool) : KnOk (A.block i j b) k l := h.turn _ _
theorem KnOk.hush {A : Ab} {k : Nat} {l : List (Pf × BE)} (h : KnOk A k l) {i : Nat} (hk : k ≠ i) : KnOk (A.hush i) k l := by
  intro ht p hn
  have hn' : setF A.nw i (fun _ => false) k p = false := hn
  rw [setF_other _ hk] at hn'
  exact h ht p hn'
theorem KnOk.new (own most : Int) (xs : List Sd) (i : Nat) : KnOk (newA own most xs) i [] := fun ht => by cases ht
def tell1 (l : List (Pf × BE)) (p : Pf) (b : Option BE) : List (Pf × BE) := match b with
  | some x => putL l p x
  | none => delL l p
theorem KnT.nil : KnT [] := ⟨List.Pairwise.nil, fun x hx => (by cases hx), fun x hx => by cases hx⟩
theorem KnT.tell1 {l : List (Pf × BE)} (h : KnT l) (p : Pf) (hp : RgtP p) (b : Option BE) (hb : ∀ x, b = some x → x.p = p) : KnT (tell1 l p b) := by
  cases b with
  | none => exact ⟨apart_del h.apart p, fun x hx => h.net x (mem_del.1 hx).1, fun x hx => h.rgt x (mem_del.1 hx).1⟩
  | some y =>
    refine ⟨apart_put h.apart p y, fun x hx => ?_, fun x hx => ?_⟩
    · rcases mem_put hx with ⟨h1, -⟩ | rfl
      · exact h.net x h1
      · exact hb y rfl
    · rcases mem_put hx with ⟨h1, -⟩ | rfl
      · exact h.rgt x h1
      · exact hp
theorem knV_tell1 (l : List (Pf × BE)) (p q : Pf) (b : Option BE) : knV (tell1 l p b) q = if q = p then b.map (fun x => (x.peer, x.a)) else knV l q := by
  unfold knV
  cases b with
  | none =>
    show (getL (delL l p) q).map _ = _
    rw [getL_del]
    split <;> rfl
  | some y =>
    show (getL (putL l p y) q).map _ = _
    rw [getL_put]
    split <;> rfl
theorem KnOk.told {A : Ab} {i : Nat} {l l' : List (Pf × BE)} (h : KnOk A i l) {L : List Pf} (hL : ∀ p, p ∈ L ↔ A.nw i p = true) (hk : ∀ p, knV l' p = if p ∈ L then A.best i p else knV l p) : KnOk (A.hush i) i l' := by
  intro ht p _
  show knV l' p = A.best i p
  rw [hk p]
  by_cases hp : p ∈ L
  · rw [if_pos hp]
  · rw [if_neg hp]
    refine h ht p ?_
    cases hn : A.nw i p with
    | false => rfl
    | true => exact absurd ((hL p).2 hn) hp
theorem KnOk.all {A : Ab} {i : Nat} {l : List (Pf × BE)} (h : KnOk A i l) (ht : A.th i = true) (hn : ∀ p, A.nw i p = false) (p : Pf) : knV l p = A.best i p := h ht p (hn p)
theorem kn_len {l : List (Pf × BE)} (hl : KnT l) {best : Pf → Option (Int × At)} (hk : ∀ p, knV l p = best p) {L : List BE} (h1 : (L.map (·.p)).Pairwise plt) (h2 : ∀ x ∈ L, best x.p = some (x.peer, x.a)) (h3 : ∀ p b, best p = some b → p ∈ L.map (·.p)) : l.length = L.length := by
  have hd : (l.map (·.1)).Nodup := by
    rw [List.nodup_iff_pairwise_ne, List.pairwise_map]
    exact hl.apart
  have := nodup_len hd (plt_nodup h1) fun p => by
    constructor
    · intro hp
      obtain ⟨x, hx, rfl⟩ := List.mem_map.1 hp
      have hg : getL l x.1 = some x.2 := getL_of_mem hl.apart hx
      have : best x.1 = some (x.2.peer, x.2.a) := by rw [← hk]; unfold knV; rw [hg]; rfl
      exact h3 _ _ this
    · intro hp
      obtain ⟨x, hx, rfl⟩ := List.mem_map.1 hp
      have hb := h2 x hx
      rw [← hk] at hb
      unfold knV at hb
      cases hg : getL l x.p with
      | none => rw [hg] at hb; cases hb
      | some y => exact List.mem_map.2 ⟨_, getL_mem hg, rfl⟩
  simpa using this
theorem kn_same {l : List (Pf × BE)} (hl : KnT l) {best : Pf → Option (Int × At)} (hk : ∀ p, knV l p = best p) {x : BE} (hx : best x.p = some (x.peer, x.a)) : ∃ y, getL l x.p = some y ∧ sameBE y x = true ∧ (x.p, y) ∈ l := by
  rw [← hk] at hx
  unfold knV at hx
  cases hg : getL l x.p with
  | none => rw [hg] at hx; cases hx
  | some y =>
    rw [hg] at hx
    injection hx with hx
    have hm := getL_mem hg
    exact ⟨y, rfl, sameBE_iff.2 ⟨congrArg Prod.fst hx, hl.net _ hm, congrArg Prod.snd hx⟩, hm⟩
end Go.Proofs.YtkoidahgbbabiaaGreat
/-
  ServerTells, in memory: a row of maps, each with what a participant was told.
-/
namespace Go.Proofs.YtkoidahgbbabiaaGreat
open Go.RowKit
abbrev beV (x : BE) : Value := .agg (rtC x.peer x.p x.v)
def mpV (b : Nat) : Value := .map (some b)
structure KnM (W : World) (rho : Nat → Role) (B g c : Nat) (T : TypeId) (bs : List Nat) (ls : List (List (Pf × BE))) (D : Nat → Prop) : Prop where
  own : W.ownsRow B T 1 (.slice (some ⟨g, 0, none⟩) bs.length c) bs.length (bs.map mpV)
  len : ls.length = bs.length
  map : ∀ (i b : Nat) l, bs[i]? = some b → ls[i]? = some l → MapT pfV beV KOk W b l ∧ KnT l
  val : On D W (fun W => ∀ l ∈ ls, ∀ x ∈ l, AvAt W x.2.a x.2.v)
  apt : (g :: bs).Nodup
  hi : ∀ k ∈ g :: bs, B ≤ k
  no : ∀ k, (k ∈ g :: bs ∨ D k) → rho k = .no ∧ k < W.heap.size
  dis : ∀ k, D k → k ∉ g :: bs
section
variable {W W1 W2 : World} {rho rho' : Nat → Role} {B g c : Nat} {T : TypeId} {bs : List Nat} {ls : List (List (Pf × BE))} {D : Nat → Prop}
theorem KnM.step (h : KnM W rho B g c T bs ls D) (st : Step rho rho' W W1) : KnM W1 rho' B g c T bs ls D := by
  have hno : ∀ k, (k ∈ g :: bs ∨ D k) → W1.heap[k]? = W.heap[k]? := fun k hk => st.block (h.no k hk).2 (h.no k hk).1
  refine ⟨own_on h.own W1 (fun k hk _ => by injection hk with hk; subst hk; exact hno _ (.inl (List.mem_cons_self ..))), h.len, fun i b l h1 h2 => ?_, ?_, h.apt, h.hi, fun k hk => ?_, h.dis⟩
  · obtain ⟨m1, m2⟩ := h.map i b l h1 h2
    exact ⟨m1.of_block (hno b (.inl (List.mem_cons_of_mem _ (List.mem_of_getElem? h1)))), m2⟩
  · exact h.val.kept st.kept fun k _ hD hn => hn (h.no k (.inr hD)).1
  · exact ⟨(st.same k (h.no k hk).2).trans (h.no k hk).1, Nat.lt_of_lt_of_le (h.no k hk).2 st.kept.size⟩
theorem KnM.below (h : KnM W rho B g c T bs ls D) (hb : Below W.heap.size W W1) : KnM W1 rho B g c T bs ls D := h.step (Step.below hb)
theorem KnM.out {G : Nat → Prop} (h : KnM W rho B g c T bs ls D) (hk : Kept G W W1) (hG : ∀ k, (k ∈ g :: bs ∨ D k) → ¬ G k) : KnM W1 rho B g c T bs ls D := by
  have hno : ∀ k, (k ∈ g :: bs ∨ D k) → W1.heap[k]? = W.heap[k]? := fun k hk' => hk.block k (h.no k hk').2 (hG k hk')
  refine ⟨own_on h.own W1 (fun k hk _ => by injection hk with hk; subst hk; exact hno _ (.inl (List.mem_cons_self ..))), h.len, fun i b l h1 h2 => ?_, ?_, h.apt, h.hi, fun k hk' => ?_, h.dis⟩
  · obtain ⟨m1, m2⟩ := h.map i b l h1 h2
    exact ⟨m1.of_block (hno b (.inl (List.mem_cons_of_mem _ (List.mem_of_getElem? h1)))), m2⟩
  · exact h.val.kept hk fun k _ hD => hG k (.inr hD)
  · exact ⟨(h.no k hk').1, Nat.lt_of_lt_of_le (h.no k hk').2 hk.size⟩
theorem KnM.at (h : KnM W rho B g c T bs ls D) {i : Nat} (hi : i < bs.length) : ∃ (b : Nat) (l : List (Pf × BE)), bs[i]? = some b ∧ ls[i]? = some l ∧ (W.cell? ⟨g, i, none⟩ = some (.map (some b)) ∧ W.frozen? ⟨g, i, none⟩ = false) ∧ MapT pfV beV KOk W b l ∧ KnT l ∧ b ≠ g := by
  have h1 : bs[i]? = some bs[i] := List.getElem?_eq_getElem hi
  have h2 : ls[i]? = some (ls[i]'(by rw [h.len]; exact hi)) := List.getElem?_eq_getElem _
  have hc := own_row_cell h.own rfl (j := i) (u := mpV bs[i]) (by rw [List.getElem?_map, h1]; rfl)
  refine ⟨_, _, h1, h2, ⟨hc.1, hc.2.1⟩, (h.map i _ _ h1 h2).1, (h.map i _ _ h1 h2).2, fun e => ?_⟩
  have := (List.nodup_cons.1 h.apt).1
  exact this (e ▸ List.getElem_mem hi)
theorem KnM.anew (h : KnM W rho B g c T bs ls D) {i b' : Nat} (hi : i < bs.length) (hb : Below W.heap.size W W1) (hm : MapT pfV beV KOk W1 b' []) (hn : W.heap.size ≤ b') (hno : rho b' = .no) (hB : B ≤ W.heap.size)
    (hW2 : W2 = W1.setCell ⟨g, i, none⟩ (.map (some b'))) : KnM W2 rho B g c T (bs.set i b') (ls.set i []) D := by
  have hlt : ∀ k, (k ∈ g :: bs ∨ D k) → k < W.heap.size := fun k hk => (h.no k hk).2
  have hsub : ∀ k, k ∈ g :: bs.set i b' → k ∈ g :: bs ∨ k = b' := fun k hk => by
    rcases List.mem_cons.1 hk with rfl | hk
    · exact .inl (List.mem_cons_self ..)
    · rcases List.mem_or_eq_of_mem_set hk with hk | rfl
      · exact .inl (List.mem_cons_of_mem _ hk)
      · exact .inr rfl
  have hb1 := h.below hb
  have hk : Kept (fun k => k = g) W1 W2 := by rw [hW2]; exact Kept.setCell _ _ rfl
  have gne : b' ≠ g := by have := hlt g (.inl (List.mem_cons_self ..)); omega
  refine ⟨?_, by simp [h.len], fun j b l hj hl => ?_, ?_, ?_, fun k hk' => ?_, fun k hk' => ?_, fun k hD hk' => ?_⟩
  · have h1 := own_set hb1.own rfl i (mpV b')
    rw [hW2, List.map_set, List.length_set]
    exact h1
  · rw [List.getElem?_set] at hj hl
    by_cases e : i = j
    · subst e
      rw [if_pos rfl, if_pos hi] at hj
      rw [if_pos rfl, if_pos (by rw [h.len]; exact hi)] at hl
      injection hj with hj; subst hj
      injection hl with hl; subst hl
      exact ⟨hm.kept hk gne, KnT.nil⟩
    · rw [if_neg e] at hj hl
      obtain ⟨m1, m2⟩ := hb1.map j b l hj hl
      exact ⟨m1.kept hk fun e2 => (List.nodup_cons.1 h.apt).1 (e2 ▸ List.mem_of_getElem? hj), m2⟩
  · refine (hb1.val.kept hk fun k _ hD e => h.dis k hD (e ▸ List.mem_cons_self ..)).imp fun W hW l hl x hx => ?_
    rcases List.mem_or_eq_of_mem_set hl with hl | rfl
    · exact hW l hl x hx
    · cases hx
  · rw [List.nodup_cons]
    constructor
    · intro hg
      rcases List.mem_or_eq_of_mem_set hg with hg | hg
      · exact (List.nodup_cons.1 h.apt).1 hg
      · exact gne hg.symm
    · have hnd := (List.nodup_cons.1 h.apt).2
      rw [List.nodup_iff_pairwise_ne, List.pairwise_iff_getElem] at hnd ⊢
      intro j k hj hk' hjk
      rw [List.length_set] at hj hk'
      rw [List.getElem_set, List.getElem_set]
      have lt1 : ∀ (m : Nat) (hm : m < bs.length), bs[m] < W.heap.size := fun m hm => hlt _ (.inl (List.mem_cons_of_mem _ (List.getElem_mem hm)))
      by_cases e1 : i = j
      · have e2 : ¬ i = k := by omega
        rw [if_pos e1, if_neg e2]
        have := lt1 k hk'; omega
      · rw [if_neg e1]
        by_cases e2 : i = k
        · rw [if_pos e2]
          have := lt1 j hj; omega
        · rw [if_neg e2]
          exact hnd j k hj hk' hjk
  · rcases hsub k hk' with hk' | rfl
    · exact h.hi k hk'
    · omega
  · have : k ∈ g :: bs ∨ D k → rho k = .no ∧ k < W2.heap.size := fun hx => ⟨(h.no k hx).1, Nat.lt_of_lt_of_le (h.no k hx).2 (Nat.le_trans hb.size hk.size)⟩
    rcases hk' with hk' | hk'
    · rcases hsub k hk' with hk' | rfl
      · exact this (.inl hk')
      · exact ⟨hno, Nat.lt_of_lt_of_le hm.lt hk.size⟩
    · exact this (.inr hk')
  · rcases hsub k hk' with hk' | rfl
    · exact h.dis k hD hk'
    · have := hlt k (.inr hD); omega
theorem KnM.change (h : KnM W rho B g c T bs ls D) {i b : Nat} {l' : List (Pf × BE)} {D' : Nat → Prop} (hb : bs[i]? = some b) (hk : Kept (fun k => k = b) W W2) (hm : MapT pfV beV KOk W2 b l') (ht : KnT l')
    (hv : On D' W2 (fun W => ∀ x ∈ l', AvAt W x.2.a x.2.v)) (hD : ∀ k, D' k → rho k = .no ∧ k < W2.heap.size ∧ k ∉ g :: bs) : KnM W2 rho B g c T bs (ls.set i l') (fun k => D k ∨ D' k) := by
  have hmem : b ∈ bs := List.mem_of_getElem? hb
  have hi : i < bs.length := (List.getElem?_eq_some_iff.1 hb).1
  have gne : g ≠ b := fun e => (List.nodup_cons.1 h.apt).1 (e ▸ hmem)
  refine ⟨((own_on h.own).kept hk fun k _ e e2 => by injection e with e; exact gne (e.trans e2)).self, by simp [h.len], fun j c l hj hl => ?_, ?_, h.apt, h.hi, fun k hk' => ?_, fun k hk' => ?_⟩
  · rw [List.getElem?_set] at hl
    by_cases e : i = j
    · subst e
      rw [if_pos rfl, if_pos (by rw [h.len]; exact hi)] at hl
      rw [hb] at hj
      injection hj with hj; subst hj
      injection hl with hl; subst hl
      exact ⟨hm, ht⟩
    · rw [if_neg e] at hl
      obtain ⟨m1, m2⟩ := h.map j c l hj hl
      refine ⟨m1.kept hk fun e2 => ?_, m2⟩
      subst e2
      have hnd := (List.nodup_cons.1 h.apt).2
      exact e ((List.getElem?_inj hi hnd).1 (hb.trans hj.symm))
  · have h1 := h.val.kept hk fun k _ hDk e => h.dis k hDk (e ▸ List.mem_cons_of_mem _ hmem)
    refine ((h1.wide (G := fun k => D k ∨ D' k) fun _ h _ => .inl h).and (hv.wide fun _ h _ => .inr h)).imp fun W hW l hl x hx => ?_
    rcases List.mem_or_eq_of_mem_set hl with hl | rfl
    · exact hW.1 l hl x hx
    · exact hW.2 x hx
  · rcases hk' with hk' | hk' | hk'
    · exact ⟨(h.no k (.inl hk')).1, Nat.lt_of_lt_of_le (h.no k (.inl hk')).2 hk.size⟩
    · exact ⟨(h.no k (.inr hk')).1, Nat.lt_of_lt_of_le (h.no k (.inr hk')).2 hk.size⟩
    · exact ⟨(hD k hk').1, (hD k hk').2.1⟩
  · rcases hk' with hk' | hk'
    · exact h.dis k hk'
    · exact (hD k hk').2.2
end
end Go.Proofs.YtkoidahgbbabiaaGreat
/-
  ServerTells, walked: the row of maps is made.
-/
namespace Go.Proofs.YtkoidahgbbabiaaGreat
open Go.RowKit
theorem info_mapPR : (Tryz.prog.info? 64).map (fun i => (i.zero, i.size, i.bytes)) = some (some (.map none), 1, 8) := by kernel_rfl
theorem mp_one (b : Nat) : ∀ u ∈ [mpV b], u.oneCell' = true := by
  intro u hu
  rw [List.mem_singleton.1 hu]; rfl
structure MadeM (W : World) (B : Nat) (v : Value) (bs : List Nat) : Prop where
  own : W.ownsRow B 64 1 v bs.length (bs.map mpV)
  map : ∀ b ∈ bs, MapT pfV beV KOk W b ([] : List (Pf × BE)) ∧ B ≤ b ∧ v.ownBlock ≠ some b
  nd : bs.Nodup
theorem MadeM.below {W W' : World} {B : Nat} {v : Value} {bs : List Nat} (h : MadeM W B v bs) (hb : Below W.heap.size W W') : MadeM W' B v bs :=
  ⟨own_below h.own hb, fun b hm => ⟨(h.map b hm).1.below hb, (h.map b hm).2⟩, h.nd⟩
theorem MadeM.more {W W1 W2 : World} {B : Nat} {v v' : Value} {bs : List Nat} (h : MadeM W B v bs) (hB : B ≤ W.heap.size) (hb : Below W.heap.size W W1) (hm : MapT pfV beV KOk W1 W.heap.size ([] : List (Pf × BE)))
    (ho : W2.ownsRow B 64 1 v' (bs.length + 1) (bs.map mpV ++ [mpV W.heap.size])) (hk : Kept (fun b => v.ownBlock = some b) W1 W2) (hat : v'.ownBlock = v.ownBlock ∨ v'.ownBlock = some W1.heap.size) : MadeM W2 B v' (bs ++ [W.heap.size]) := by
  have ol := own_lt h.own
  have hm1 := hm.lt
  refine ⟨by simpa using ho, fun b hmem => ?_, ?_⟩
  · rcases List.mem_append.1 hmem with hmem | hmem
    · obtain ⟨m1, m2, m3⟩ := h.map b hmem
      have := m1.lt
      refine ⟨(m1.below hb).kept hk m3, m2, fun e => ?_⟩
      rcases hat with e2 | e2
      · exact m3 (e2.symm.trans e)
      · rw [e2] at e; injection e with e; have := hb.size; omega
    · rw [List.mem_singleton] at hmem
      subst hmem
      refine ⟨hm.kept hk fun e => ?_, hB, fun e => ?_⟩
      · have := ol _ e; omega
      · rcases hat with e2 | e2
        · rw [e2] at e; have := ol _ e; omega
        · rw [e2] at e; injection e with e; omega
  · rw [List.nodup_append]
    refine ⟨h.nd, by simp, fun a ha b hb' e => ?_⟩
    rw [List.mem_singleton] at hb'
    have := (h.map a ha).1.lt
    omega
theorem MadeM.kn {W : World} {B c : Nat} {s : Option Addr} {bs : List Nat} (h : MadeM W B (.slice s bs.length c) bs) (hn : 0 < bs.length) {rho : Nat → Role} (hr : ∀ k, B ≤ k → rho k = .no) :
    ∃ g, s = some ⟨g, 0, none⟩ ∧ KnM W rho B g c 64 bs (List.replicate bs.length []) (fun _ => False) := by
  obtain ⟨j, hj⟩ : ∃ j, bs.length = j + 1 := ⟨bs.length - 1, by omega⟩
  obtain ⟨g, c', e⟩ : ∃ g c', Value.slice s bs.length c = .slice (some ⟨g, 0, none⟩) bs.length c' := by
    have ho := h.own
    obtain ⟨_, ⟨e, _⟩ | ⟨g, cap, cur, e, _⟩⟩ := ho
    · injection e with _ e _; omega
    · exact ⟨g, cap, e⟩
  injection e with e1 _ e3
  subst e1
  have hrow := own_row_cell h.own rfl (j := 0) (u := mpV (bs[0]'hn)) (by rw [List.getElem?_map, List.getElem?_eq_getElem hn]; rfl)
  refine ⟨g, rfl, h.own, by simp, fun i b l hb hl => ?_, fun W' _ l hl x hx => ?_, ?_, fun k hk => ?_, fun k hk => ?_, fun k hk => hk.elim⟩
  · rw [List.getElem?_replicate] at hl
    split at hl
    · injection hl with hl; subst hl
      exact ⟨(h.map b (List.mem_of_getElem? hb)).1, KnT.nil⟩
    · cases hl
  · rw [List.mem_replicate] at hl
    rw [hl.2] at hx; cases hx
  · rw [List.nodup_cons]
    exact ⟨fun hg => (h.map g hg).2.2 rfl, h.nd⟩
  · rcases List.mem_cons.1 hk with rfl | hk
    · exact hrow.2.2.1
    · exact (h.map k hk).2.1
  · rcases hk with hk | hk
    · rcases List.mem_cons.1 hk with rfl | hk
      · exact ⟨hr _ hrow.2.2.1, hrow.2.2.2⟩
      · exact ⟨hr _ (h.map k hk).2.1, (h.map k hk).1.lt⟩
    · exact hk.elim
end Go.Proofs.YtkoidahgbbabiaaGreat
/-
  ServerTells: one prefix more is told; News with its own row.
-/
namespace Go.Proofs.YtkoidahgbbabiaaGreat
open Go.RowKit
theorem kn_next {best : Pf → Option (Int × At)} {l' lr : List (Pf × BE)} {L : List Pf} {z : Nat} {p : Pf} {b : Option BE} (h : ∀ q, knV l' q = if q ∈ L.take z then best q else knV lr q) (hp : L[z]? = some p) (hb : b.map (fun x => (x.peer, x.a)) = best p) :
    ∀ q, knV (tell1 l' p b) q = if q ∈ L.take (z + 1) then best q else knV lr q := by
  intro q
  rw [knV_tell1, take_snoc hp]
  by_cases e : q = p
  · subst e
    rw [if_pos rfl, if_pos (List.mem_append_right _ (List.mem_singleton.2 rfl)), hb]
  · rw [if_neg e, h q]
    by_cases hq : q ∈ L.take z
    · rw [if_pos hq, if_pos (List.mem_append_left _ hq)]
    · rw [if_neg hq, if_neg (fun h2 => by
        rcases List.mem_append.1 h2 with h2 | h2
        · exact hq h2
        · exact e (List.mem_singleton.1 h2))]
section
variable {W W1 W2 : World} {rho : Nat → Role} {B g c : Nat} {T : TypeId} {bs : List Nat} {ls : List (List (Pf × BE))} {D : Nat → Prop} {i b : Nat} {l : List (Pf × BE)} {p : Pf}
theorem KnM.len_i (h : KnM W rho B g c T bs ls D) (hi : i < bs.length) : ∃ l, ls[i]? = some l := ⟨_, List.getElem?_eq_getElem (by rw [h.len]; exact hi)⟩
theorem KnM.bno (h : KnM W rho B g c T bs ls D) (hb : bs[i]? = some b) : rho b = .no ∧ b < W.heap.size ∧ B ≤ b :=
  ⟨(h.no b (.inl (List.mem_cons_of_mem _ (List.mem_of_getElem? hb)))).1, (h.no b (.inl (List.mem_cons_of_mem _ (List.mem_of_getElem? hb)))).2, h.hi b (List.mem_cons_of_mem _ (List.mem_of_getElem? hb))⟩
theorem KnM.valK (h : KnM W rho B g c T bs ls D) (hb : bs[i]? = some b) (hl : ls[i]? = some l) (hk : Kept (fun k => k = b) W W2) : On D W2 (fun W => ∀ x ∈ l, AvAt W x.2.a x.2.v) :=
  (h.val.kept hk fun k _ hD e => h.dis k hD (e ▸ List.mem_cons_of_mem _ (List.mem_of_getElem? hb))).imp fun _ hW x hx => hW l (List.mem_of_getElem? hl) x hx
theorem KnM.del (h : KnM W rho B g c T bs ls D) (hb : bs[i]? = some b) (hl : ls[i]? = some l) (hp : RgtP p) (hk : Kept (fun k => k = b) W W2) (hm : MapT pfV beV KOk W2 b (delL l p)) :
    KnM W2 rho B g c T bs (ls.set i (tell1 l p none)) (fun k => D k ∨ D k) := by
  have hm' : MapT pfV beV KOk W2 b (tell1 l p none) := hm
  refine h.change hb hk hm' ((h.map i b l hb hl).2.tell1 p hp none fun x hx => by cases hx) ((h.valK hb hl hk).imp fun _ hW x hx => hW x (mem_del.1 hx).1) fun k hk' => ?_
  exact ⟨(h.no k (.inr hk')).1, Nat.lt_of_lt_of_le (h.no k (.inr hk')).2 hk.size, h.dis k hk'⟩
theorem KnM.put (h : KnM W rho B g c T bs ls D) (hb : bs[i]? = some b) (hl : ls[i]? = some l) (hp : RgtP p) {y : BE} (hy : y.p = p) (b01 : Below W.heap.size W W1) (fr : Fresh W.heap.size W1 (fun W => AvAt W y.a y.v)) (hr : ∀ k, W.heap.size ≤ k → rho k = .no)
    (hk : Kept (fun k => k = b) W1 W2) (hm : MapT pfV beV KOk W2 b (putL l p y)) :
    KnM W2 rho B g c T bs (ls.set i (tell1 l p (some y))) (fun k => D k ∨ (D k ∨ (W.heap.size ≤ k ∧ k < W1.heap.size))) := by
  have hm' : MapT pfV beV KOk W2 b (tell1 l p (some y)) := hm
  have h1 := h.below b01
  have bl := (h.bno hb).2.1
  refine h1.change (D' := fun k => D k ∨ (W.heap.size ≤ k ∧ k < W1.heap.size)) hb hk hm' ((h.map i b l hb hl).2.tell1 p hp (some y) fun x hx => by injection hx with hx; rw [← hx]; exact hy) ?_ fun k hk' => ?_
  · have v1 := (h1.valK hb hl hk).wide (G := fun k => D k ∨ (W.heap.size ≤ k ∧ k < W1.heap.size)) fun _ h _ => .inl h
    have v2 := ((fresh_hi fr).kept hk fun k _ hF e => by omega).wide (G := fun k => D k ∨ (W.heap.size ≤ k ∧ k < W1.heap.size)) fun _ h _ => .inr h
    refine (v1.and v2).imp fun _ hW x hx => ?_
    rcases mem_put hx with ⟨h2, -⟩ | rfl
    · exact hW.1 x h2
    · exact hW.2
  · rcases hk' with hk' | hk'
    · exact ⟨(h1.no k (.inr hk')).1, Nat.lt_of_lt_of_le (h1.no k (.inr hk')).2 hk.size, h.dis k hk'⟩
    · refine ⟨hr k hk'.1, Nat.lt_of_lt_of_le hk'.2 hk.size, fun hm => ?_⟩
      have := (h.no k (.inl hm)).2
      omega
theorem kn_set {P : Nat → List (Pf × BE) → Prop} {ls : List (List (Pf × BE))} {i : Nat} {l : List (Pf × BE)} (h1 : P i l) (h2 : ∀ (j : Nat) m, j ≠ i → ls[j]? = some m → P j m) : ∀ (j : Nat) m, (ls.set i l)[j]? = some m → P j m := by
  intro j m hm
  rw [List.getElem?_set] at hm
  by_cases e : i = j
  · subst e
    rw [if_pos rfl] at hm
    split at hm
    · injection hm with hm; subst hm; exact h1
    · cases hm
  · rw [if_neg e] at hm
    exact h2 j m (fun e2 => e e2.symm) hm
theorem kn_at {ls : List (List (Pf × BE))} {i : Nat} {l m : List (Pf × BE)} (h : (ls.set i l)[i]? = some m) : m = l := by
  rw [List.getElem?_set, if_pos rfl] at h
  split at h
  · injection h with h; exact h.symm
  · cases h
theorem set_set' {ls : List (List (Pf × BE))} {i : Nat} {l m : List (Pf × BE)} : (ls.set i l).set i m = ls.set i m := by simp
theorem set_self {ls : List (List (Pf × BE))} {i : Nat} {l : List (Pf × BE)} (h : ls[i]? = some l) : ls.set i l = ls := by
  apply List.ext_getElem?
  intro j
  rw [List.getElem?_set]
  by_cases e : i = j
  · subst e
    have hi := (List.getElem?_eq_some_iff.1 h).1
    rw [if_pos rfl, if_pos hi, h]
  · rw [if_neg e]
end
section
variable {w W : World} {rho : Nat → Role} {sb fb : Nat} {ls : List Pl} {A : Ab}
theorem ls_NewsO (h : LSv w W rho sb fb ls A) {i : Nat} (hi : i < A.V.length) : Calls Tryz.prog 17 #[.pointer (some ⟨sb, 0, none⟩), .int .i64 i] W fun e w' =>
    ∃ (s : Option Addr) (c : Nat) (L : List Pf), e = .returned (.slice s L.length c) ∧ OwnPs w' W.heap.size (.slice s L.length c) L ∧ L.Pairwise plt ∧ (∀ p, p ∈ L ↔ A.nw i p = true) ∧ (∀ p ∈ L, RgtP p) ∧ LSv w w' rho sb fb ls (A.hush i) ∧ Step rho rho W w' := by
  obtain ⟨S, h1, h2⟩ := h.srv
  obtain ⟨m, hm⟩ := h2.at hi
  refine (sv_News h1 hm).mono ?_
  rintro e w' ⟨s, c, L, rfl, ho, hp, hL, hr, hs, st⟩
  exact ⟨s, c, L, rfl, ho, hp, fun p => by rw [hL p, (h2.mem i m hm).2 p], hr, h.step hs (h2.hush i) st, st⟩
theorem be_at {w : World} {s : Option Addr} {n c : Nat} {xs : List BE} (h : SlAt w 13 (fun x cs => cs = beL x) (.slice s n c) xs) {i : Nat} {x : BE} (hx : xs[i]? = some x) : ∃ g o, s = some ⟨g, o, none⟩ ∧ w.rangeAt g (o + i * 13) (beL x) := by
  obtain ⟨s', c', e, h1, h2, h3⟩ := h
  injection e with e _ _
  subst e
  have hi := (List.getElem?_eq_some_iff.1 hx).1
  obtain ⟨b, off, rfl, h4⟩ := h3 (by omega)
  obtain ⟨cs, -, rfl, hc⟩ := h4 i x hx
  exact ⟨b, off, rfl, fun j v hv => hc j v hv⟩
theorem ownPs_len {w : World} {B : Nat} {v : Value} {xs : List Pf} (h : OwnPs w B v xs) : xs.length ≤ 9223372036854775807 := by
  have := ps_len h.at
  unfold maxLen at this
  exact this
end
end Go.Proofs.YtkoidahgbbabiaaGreat
