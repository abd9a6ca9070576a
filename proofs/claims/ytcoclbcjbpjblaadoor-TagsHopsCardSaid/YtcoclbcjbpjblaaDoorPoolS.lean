/-
  DROP AND SWEEP: a tag is free again.
-/
import Derived.Test.YtcoclbcjbpjblaaDoorPoolA
import Derived.Deep.QuietTactic
import Derived.BigQuiet
namespace Go.Proofs.YtcoclbcjbpjblaaDoor
open Go.RowKit
theorem pool_free {W : World} {g a b : Nat} {p : Pl} (h : PoolAt W g a b p) (t : Int) (ht : I64 t) (k : Ky) (hk : KyOk k) :
    Calls Tryd.prog 16 #[pt g, .int .i64 t, kyV k] W fun e w' => e = .returned (.tuple #[]) ∧ PoolAt w' g a b { p with tg := delL p.tg k, hd := delL p.hd t } ∧ Kept (Of2 a b) W w' ∧ (∀ r left, RangeT nV slV I64 W b r p.hd left → RangeT nV slV I64 w' b r (delL p.hd t) (delL left t)) := by
  obtain ⟨k1, k2, k3⟩ := k
  obtain ⟨W0, hW0, ⟨d0, d1, d2⟩, hB⟩ := boxK W (k1, k2, k3)
  have h0 := h.below hB
  obtain ⟨c0, c1, c2⟩ := h0.cell
  obtain ⟨o1, hs1, hm1⟩ := h0.hd.drop int_enc Tryd.underlying49 t ht W0 rfl
  have HR : Hid (∀ r left, RangeT nV slV I64 W b r p.hd left → RangeT nV slV I64 (ChangeMaps.setBlock W0 b o1) b r (delL p.hd t) (delL left t)) := Lib.hid fun r left hr => (hr.below hB).drop' int_enc Tryd.underlying49 t ht hs1
  simp only [nV] at hs1
  obtain ⟨e0, e1, e2⟩ := h.cell
  have hlt := h.lt
  have HW := Lib.hid hW0
  rw [hW0] at hs1
  clear hW0 c0 c1 c2
  go_enter Tryd.func16, Tryd.ntmps16
  go_wp2_with fail
  rw [← HW.out]
  obtain ⟨hp, hkp⟩ := pool_hd h0 (below_same W0) hm1
  have hof : ¬ Of2 a b W.heap.size := by
    have l1 := h.tg.lt
    have l2 := h.hd.lt
    rintro (e | e) <;> omega
  have hkw : Kept (Of2 a b) W (ChangeMaps.setBlock W0 b o1) := (Kept.of_below hB).trans hkp
  replace d0 := hkp.cell d0 hof
  replace d1 := hkp.cell d1 hof
  replace d2 := hkp.cell d2 hof
  clear hs1 hm1 hkp hB h0 e0 e1 e2 hlt HW
  generalize ChangeMaps.setBlock W0 b o1 = W3 at HR hp hkw d0 d1 d2 ⊢
  obtain ⟨c0, c1, c2⟩ := hp.cell
  obtain ⟨o2, hs2, hm2⟩ := hp.tg.drop key_enc Tryd.underlying48 (k1, k2, k3) hk W3.drew rfl
  refine region_tail 5 (by kernel_rfl) (by kernel_rfl) ?_
  simp only [List.take_succ_cons, List.take_zero, List.drop_succ_cons, List.drop_zero]
  repeat still_step
  refine wpStill_nil ?_
  go_wp2
  go_end0
  obtain ⟨q1, q2⟩ := pool_tg hp (below_same W3).drew hm2
  refine ⟨rfl, q1, hkw.trans q2, fun r left hr => ?_⟩
  have h3 := HR.out r left hr
  have hk3 : Kept (fun k => k = a) W3 (ChangeMaps.setBlock W3.drew a o2) := (Kept.refl _ W3).drew.trans (Kept.setBlock o2 rfl)
  exact h3.kept hk3 (fun e => hp.ne e.symm) (h3.ne_map hp.tg)
/-! ### Sweep -/
def goneB (left : List (Int × Sl)) (e : Int × Sl) : Bool := e.2.2 == 0 && !left.any fun x => x.1 == e.1
def hdS (hd left : List (Int × Sl)) : List (Int × Sl) := hd.filter fun e => !goneB left e
def tgS (tg : List (Ky × Int)) (hd left : List (Int × Sl)) : List (Ky × Int) := tg.filter fun q => !hd.any fun e => goneB left e && e.2.1 == q.1
def nS (hd left : List (Int × Sl)) : Nat := (hd.filter (goneB left)).length
theorem gone_all {hd : List (Int × Sl)} {e : Int × Sl} (he : e ∈ hd) : goneB hd e = false := by
  unfold goneB
  have : hd.any (fun x => x.1 == e.1) = true := List.any_eq_true.2 ⟨e, he, by simp⟩
  rw [this]; simp
theorem hdS_start (hd : List (Int × Sl)) : hdS hd hd = hd := by
  unfold hdS; rw [List.filter_eq_self]; intro e he; rw [gone_all he]; rfl
theorem tgS_start (tg : List (Ky × Int)) (hd : List (Int × Sl)) : tgS tg hd hd = tg := by
  unfold tgS; rw [List.filter_eq_self]; intro q _
  have : (hd.any fun e => goneB hd e && e.2.1 == q.1) = false := by
    rw [List.any_eq_false]; intro e he; rw [gone_all he]; simp
  rw [this]; rfl
theorem nS_start (hd : List (Int × Sl)) : nS hd hd = 0 := by
  unfold nS
  have : hd.filter (goneB hd) = [] := by rw [List.filter_eq_nil_iff]; intro e he; rw [gone_all he]; simp
  rw [this]; rfl
theorem any_erase {left : List (Int × Sl)} (hl : KeysApart left) {i : Nat} {p : Int × Sl} (hi : left[i]? = some p) (t : Int) : ((left.eraseIdx i).any fun x => x.1 == t) = ((left.any fun x => x.1 == t) && !(t == p.1)) := by
  have hf : left.eraseIdx i = left.filter (fun x => !(x.1 == p.1)) := (ChangeMaps.filter_eq_eraseIdx (fun x : Int × Sl => x.1 == p.1) left i p hi (by simp) (hl.imp fun {x y} hne ⟨e1, e2⟩ => hne ((beq_iff_eq.1 e1).trans (beq_iff_eq.1 e2).symm))).symm
  rw [hf, Bool.eq_iff_iff]
  simp only [List.any_eq_true, List.mem_filter, Bool.and_eq_true, beq_iff_eq, Bool.not_eq_true', beq_eq_false_iff_ne]
  constructor
  · rintro ⟨x, ⟨h1, h2⟩, rfl⟩; exact ⟨⟨x, h1, rfl⟩, h2⟩
  · rintro ⟨⟨x, h1, rfl⟩, h2⟩; exact ⟨x, ⟨h1, h2⟩, rfl⟩
theorem gone_step {hd left : List (Int × Sl)} (hh : KeysApart hd) (hl : KeysApart left) {i : Nat} {p : Int × Sl} (hi : left[i]? = some p) (hp : p ∈ hd) {e : Int × Sl} (he : e ∈ hd) : goneB (left.eraseIdx i) e = (goneB left e || (p.2.2 == 0 && e.1 == p.1)) := by
  unfold goneB
  rw [any_erase hl hi]
  by_cases h1 : e.1 = p.1
  · have : e = p := by
      have g1 := getL_of_mem hh (a := e.1) (v := e.2) he
      have g2 := getL_of_mem hh (a := p.1) (v := p.2) hp
      rw [h1, g2] at g1
      injection g1 with g1
      exact Prod.ext h1 g1.symm
    subst this
    have hin : (left.any fun x => x.1 == e.1) = true := List.any_eq_true.2 ⟨e, List.mem_of_getElem? hi, by simp⟩
    rw [hin]; simp
  · have h2 : (e.1 == p.1) = false := by rw [beq_eq_false_iff_ne]; exact h1
    rw [h2]; simp
theorem hdS_keep {hd left : List (Int × Sl)} (hh : KeysApart hd) (hl : KeysApart left) {i : Nat} {p : Int × Sl} (hi : left[i]? = some p) (hp : p ∈ hd) (hu : p.2.2 ≠ 0) (tg : List (Ky × Int)) :
    hdS hd (left.eraseIdx i) = hdS hd left ∧ tgS tg hd (left.eraseIdx i) = tgS tg hd left ∧ nS hd (left.eraseIdx i) = nS hd left := by
  have key : ∀ e ∈ hd, goneB (left.eraseIdx i) e = goneB left e := fun e he => by
    rw [gone_step hh hl hi hp he]; simp [hu]
  refine ⟨?_, ?_, ?_⟩
  · unfold hdS; exact List.filter_congr fun e he => by rw [key e he]
  · unfold tgS; refine List.filter_congr fun q _ => ?_
    congr 1
    rw [Bool.eq_iff_iff]
    simp only [List.any_eq_true, Bool.and_eq_true]
    constructor
    · rintro ⟨e, he, h⟩; rw [key e he] at h; exact ⟨e, he, h⟩
    · rintro ⟨e, he, h⟩; rw [← key e he] at h; exact ⟨e, he, h⟩
  · unfold nS; rw [List.filter_congr fun e he => key e he]
theorem hdS_drop {hd left : List (Int × Sl)} (hh : KeysApart hd) (hl : KeysApart left) {i : Nat} {p : Int × Sl} (hi : left[i]? = some p) (hp : p ∈ hd) (hu : p.2.2 = 0) (tg : List (Ky × Int)) :
    hdS hd (left.eraseIdx i) = delL (hdS hd left) p.1 ∧ tgS tg hd (left.eraseIdx i) = delL (tgS tg hd left) p.2.1 ∧ nS hd (left.eraseIdx i) = nS hd left + 1 ∧ delL (left.eraseIdx i) p.1 = left.eraseIdx i := by
  have key : ∀ e ∈ hd, goneB (left.eraseIdx i) e = (goneB left e || e.1 == p.1) := fun e he => by
    rw [gone_step hh hl hi hp he]; simp [hu]
  have same : ∀ e ∈ hd, e.1 = p.1 → e = p := fun e he h1 => by
    have g1 := getL_of_mem hh (a := e.1) (v := e.2) he
    have g2 := getL_of_mem hh (a := p.1) (v := p.2) hp
    rw [h1, g2] at g1
    injection g1 with g1
    exact Prod.ext h1 g1.symm
  have gp : goneB left p = false := by
    unfold goneB
    have hin : (left.any fun x => x.1 == p.1) = true := List.any_eq_true.2 ⟨p, List.mem_of_getElem? hi, by simp⟩
    rw [hin]; simp
  refine ⟨?_, ?_, ?_, ?_⟩
  · unfold hdS delL
    rw [List.filter_filter]
    refine List.filter_congr fun e he => ?_
    rw [key e he]
    by_cases h : e.1 = p.1 <;> simp [h]
  · unfold tgS delL
    rw [List.filter_filter]
    refine List.filter_congr fun q _ => ?_
    rw [Bool.eq_iff_iff]
    simp only [Bool.not_eq_true', List.any_eq_false, Bool.and_eq_true, decide_eq_false_iff_not, beq_iff_eq, not_and]
    constructor
    · intro h
      refine ⟨fun e => h p hp (by rw [key p hp]; simp) e.symm, fun e he hg => h e he (by rw [key e he, hg]; rfl)⟩
    · rintro ⟨h1, h2⟩ e he hg e1
      rw [key e he] at hg
      cases hge : goneB left e
      · rw [hge] at hg
        have := same e he (by simpa using hg)
        subst this
        exact h1 e1.symm
      · exact h2 e he hge e1
  · unfold nS
    have hperm : ((hd.filter (goneB (left.eraseIdx i))).length) = (hd.filter (goneB left)).length + 1 := by
      have aux : ∀ (L : List (Int × Sl)), KeysApart L → (∀ e ∈ L, e ∈ hd) → (L.filter (goneB (left.eraseIdx i))).length = (L.filter (goneB left)).length + if p ∈ L then 1 else 0 := by
        intro L
        induction L with
        | nil => intro _ _; simp
        | cons x L ih =>
          intro hL hsub
          obtain ⟨a1, a2⟩ := List.pairwise_cons.1 hL
          have ih := ih a2 fun e he => hsub e (List.mem_cons_of_mem _ he)
          have hx := hsub x (by simp)
          simp only [List.filter_cons]
          rw [key x hx]
          by_cases hxp : x = p
          · subst hxp
            have hn : x ∉ L := fun hm => a1 x hm rfl
            rw [if_neg hn] at ih
            simp [gp, ih]
          · have hne : (x.1 == p.1) = false := by
              rw [beq_eq_false_iff_ne]; exact fun e => hxp (same x hx e)
            have hmem : (p ∈ x :: L) ↔ p ∈ L := ⟨fun h => by rcases List.mem_cons.1 h with e | h; exact absurd e.symm hxp; exact h, List.mem_cons_of_mem _⟩
            rw [hne, Bool.or_false]
            cases goneB left x
            · simp only [Bool.false_eq_true, if_false, hmem]; exact ih
            · simp only [if_true, List.length_cons, hmem]; omega
      have := aux hd hh fun e he => he
      rw [if_pos hp] at this
      exact this
    exact hperm
  · unfold delL
    rw [List.filter_eq_self]
    intro e he
    have := any_erase hl hi p.1
    simp only [beq_self_eq_true, Bool.not_true, Bool.and_false] at this
    have h2 := List.any_eq_false.1 this e he
    simpa using h2
theorem sweep_end (tg : List (Ky × Int)) (hd : List (Int × Sl)) : hdS hd [] = hd.filter (fun e => !(e.2.2 == 0)) ∧ tgS tg hd [] = tg.filter (fun q => !hd.any fun e => e.2.2 == 0 && e.2.1 == q.1) ∧ nS hd [] = (hd.filter fun e => e.2.2 == 0).length := by
  have : goneB [] = fun e : Int × Sl => e.2.2 == 0 := by funext e; unfold goneB; simp
  unfold hdS tgS nS
  rw [this]
  exact ⟨rfl, rfl, rfl⟩
set_option maxHeartbeats 1600000 in
theorem pool_Sweep {W : World} {g a b : Nat} {p : Pl} (h : PoolAt W g a b p) (hlen : p.hd.length ≤ 1000000) (hkeys : ∀ e ∈ p.hd, KyOk e.2.1) :
    Calls Tryd.prog 13 #[pt g] W fun e w' => e = .returned (.int .i64 (nS p.hd [])) ∧ PoolAt w' g a b { p with tg := tgS p.tg p.hd [], hd := hdS p.hd [] } ∧ Kept (Of2 a b) W w' := by
  obtain ⟨c0, c1, c2⟩ := h.cell
  obtain ⟨W0, hr, hR, hB, hz⟩ := h.hd.range Tryd.underlying49
  have h0 := h.below hB
  have D0 := Lib.hid (⟨h0, Kept.of_below hB, hR⟩ : PoolAt W0 g a b p ∧ Kept (Of2 a b) W W0 ∧ RangeT nV slV I64 W0 b W.heap.size p.hd p.hd)
  have HK := Lib.hid hkeys
  have HL := Lib.hid hlen
  have HD := Lib.hid (h.hd.apart)
  have hb := h.hd.lt
  clear h0 hB hz hR hkeys hlen
  go_enter Tryd.func13, Tryd.ntmps13
  go_wp2
  clear hr c0 c1 c2
  go_loopw [3] (fun n wr => ∃ left : List (Int × Sl), KeysApart left ∧ n = .int .i64 (nS p.hd left) ∧ PoolAt wr g a b { p with tg := tgS p.tg p.hd left, hd := hdS p.hd left } ∧ Kept (Of2 a b) W wr ∧ RangeT nV slV I64 wr b W.heap.size (hdS p.hd left) left) (fun _ wr => wr.rangeLeft b W.heap.size)
  case atStart =>
    obtain ⟨x1, x2, x3⟩ := D0.out
    exact ⟨p.hd, HD.out, by rw [nS_start]; rfl, by rw [hdS_start, tgS_start]; exact x1, x2, by rw [hdS_start]; exact x3⟩
  case round =>
    obtain ⟨left, hl, rfl, hp, hk, hR⟩ := hrel
    clear D0
    have hlen := HL.out
    have hgl := h.lt
    have hal := h.tg.lt
    have hns : nS p.hd left ≤ p.hd.length := List.length_filter_le _ _
    rcases hR.next (P := Tryd.prog) 0 with ⟨rfl, hn⟩ | ⟨i, q, W1, hi, hq, hn, hR1, hk1, hz1, hen⟩
    · have hn' : ∀ ty, (Instr.next (.pointer (some ⟨W.heap.size, 0, none⟩)) false ty).run Tryd.prog wr = .ok (.tuple #[.bool false]) wr := fun _ => hn
      clear hn
      go_wp2
      go_ret
      exact ⟨rfl, hp, hk⟩
    · have hqh : q ∈ p.hd := (List.mem_filter.1 hq).1
      have hkq := HK.out q hqh
      have htq : I64 q.1 := h.hd.oks q hqh
      have hrl := hR.left_eq
      have hrl1 := hR1.left_eq
      have hle : (left.eraseIdx i).length + 1 = left.length := by
        have := (List.getElem?_eq_some_iff.1 hi).1
        rw [List.length_eraseIdx_of_lt this]; omega
      have hp1 : PoolAt W1 g a b { p with tg := tgS p.tg p.hd left, hd := hdS p.hd left } := hp.kept hk1 (fun e => by have : g = W.heap.size := e; omega) (fun e => by have : a = W.heap.size := e; omega) (fun e => by have : b = W.heap.size := e; omega)
      have hkw1 : Kept (Of2 a b) W W1 := by
        refine ⟨hk1.os.trans hk.os, hk1.tape.trans hk.tape, hk1.output.trans hk.output, Nat.le_trans hk.size hk1.size, fun j hj hf => (hk1.block j (Nat.lt_of_lt_of_le hj hk.size) (fun e => by have : j = W.heap.size := e; omega)).trans (hk.block j hj hf)⟩
      have hl' : KeysApart (left.eraseIdx i) := List.Pairwise.sublist (List.eraseIdx_sublist _ _) hl
      by_cases hu : q.2.2 = 0
      · obtain ⟨f1, f2, f3, f4⟩ := hdS_drop HD.out hl hi hqh hu p.tg
        obtain ⟨t, ⟨k1, k2, k3⟩, u⟩ := q
        simp only at hu
        subst hu
        simp only [slV, slC, nV] at hn hen
        have hn' : ∀ ty, (Instr.next (.pointer (some ⟨W.heap.size, 0, none⟩)) false ty).run Tryd.prog wr = .ok (.tuple #[.bool true, .int .i64 t, .agg #[.int .i64 k1, .int .i64 k2, .int .i64 k3, .int .i64 0]]) W1 := fun _ => hn
        have hb2 : Below W1.heap.size W1 (W1.alloc (.cells #[.int .i64 k1, .int .i64 k2, .int .i64 k3, .int .i64 0] 53)) := (Below.refl _ _).alloc (Nat.le_refl _) _
        have hw : IntKind.i64.wrap ((nS p.hd left : Int) + 1) = ((nS p.hd left + 1 : Nat) : Int) := by rw [IntWalk.i64_in _ (by omega)]; omega
        have HI := Lib.hid hi
        have HQ := Lib.hid (And.intro hq hqh)
        have HF := Lib.hid (⟨f1, f2, f3, f4, hrl, hrl1, hle, hz1⟩ : _ ∧ _ ∧ _ ∧ _ ∧ _ ∧ _ ∧ _ ∧ _)
        clear hn hi hq hqh f1 f2 f3 f4 hrl hrl1 hle hz1
        go_wp2_with fail
        refine (pool_free (hp1.below hb2) t htq (k1, k2, k3) hkq).mono ?_
        rintro e w2 ⟨rfl, hp2, hk2, hR2⟩
        go_wp2
        obtain ⟨f1, f2, f3, f4, hrl, hrl1, hle, hz1⟩ := HF.out
        have hR3 := hR2 _ _ (hR1.below hb2)
        have hR4 : RangeT nV slV I64 w2 b W.heap.size (hdS p.hd (left.eraseIdx i)) (left.eraseIdx i) := by rw [f1]; rw [f4] at hR3; exact hR3
        refine ⟨⟨left.eraseIdx i, hl', by rw [f3]; rfl, by rw [f1, f2]; exact hp2, (hkw1.trans (Kept.of_below hb2)).trans hk2, hR4⟩, ?_⟩
        rw [hR4.left_eq, hrl]; omega
      · obtain ⟨f1, f2, f3⟩ := hdS_keep HD.out hl hi hqh hu p.tg
        obtain ⟨t, ⟨k1, k2, k3⟩, u⟩ := q
        simp only at hu
        simp only [slV, slC, nV] at hn hen
        have hne : (u == 0) = false := by rw [beq_eq_false_iff_ne]; exact hu
        have hn' : ∀ ty, (Instr.next (.pointer (some ⟨W.heap.size, 0, none⟩)) false ty).run Tryd.prog wr = .ok (.tuple #[.bool true, .int .i64 t, .agg #[.int .i64 k1, .int .i64 k2, .int .i64 k3, .int .i64 u]]) W1 := fun _ => hn
        have hb2 : Below W1.heap.size W1 (W1.alloc (.cells #[.int .i64 k1, .int .i64 k2, .int .i64 k3, .int .i64 u] 53)) := (Below.refl _ _).alloc (Nat.le_refl _) _
        have HI := Lib.hid hi
        have HQ := Lib.hid (And.intro hq hqh)
        have HF := Lib.hid (⟨f1, f2, f3, hrl, hrl1, hle, hz1⟩ : _ ∧ _ ∧ _ ∧ _ ∧ _ ∧ _ ∧ _)
        clear hn hi hq hqh f1 f2 f3 hrl hrl1 hle hz1
        go_wp2
        obtain ⟨f1, f2, f3, hrl, hrl1, hle, hz1⟩ := HF.out
        have hR4 := hR1.below hb2
        refine ⟨⟨left.eraseIdx i, hl', by rw [f3], by rw [f1, f2]; exact hp1.below hb2, hkw1.trans (Kept.of_below hb2), by rw [f1]; exact hR4⟩, ?_⟩
        rw [hR4.left_eq, hrl]; omega
end Go.Proofs.YtcoclbcjbpjblaaDoor
