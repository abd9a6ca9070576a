/-
  TrieBelow: what lies below a net is what it covers; the longest for any address lies below what covers it; for all nets and addresses; no condition.
-/
import Derived.Test.YtnklhfdhaclfiaaTrJ
namespace Go.Proofs.Ytnklhfdhaclfiaa
open Go.RowKit

section
variable {Wf : World} {tb : Nat} {N : Nat → Option Nat} {S : List (Nat × Value)} {xs : List Pf} {sa : Option Addr} {cap pb psb ab pa : Nat} {pn : Int} {a : Nat}
theorem each1_ok (F : FxB Wf tb N S xs sa cap pb psb ab pa pn a) (nb rb : Nat) : EachOk tb N S 100 17 #[.pointer (some ⟨nb, 0, none⟩), .pointer (some ⟨rb, 0, none⟩), .pointer (some ⟨pb, 0, none⟩), .pointer (some ⟨psb, 0, none⟩)] (fun _ => true) (BI1 Wf nb rb (pa, pn)) where
  ent := enters_of Try.func17 (by kernel_rfl) rfl
  stab := fun P P' L W W' h hb hP => ⟨h.bel.trans (hb.mono h.bel.size), (hb.block nb (row_lt h.n)).trans h.n, (hb.block rb (row_lt h.r)).trans h.r, h.hn, h.hr, h.ne,
    fun hp => (hP nb hp).elim h.fn (fun h1 => by have := row_lt h.n; omega), fun hp => (hP rb hp).elim h.fr (fun h1 => by have := row_lt h.r; omega)⟩
  tri := fun _ _ _ h => F.tri.below h.bel
  call := fun P L W A i v h hA hR hg => each1_call F nb rb P L W A i v h hA hR hg
theorem each2_ok (F : FxB Wf tb N S xs sa cap pb psb ab pa pn a) (nb rb : Nat) : EachOk tb N S 100 20 #[.pointer (some ⟨pb, 0, none⟩), .pointer (some ⟨nb, 0, none⟩), .pointer (some ⟨ab, 0, none⟩), .pointer (some ⟨rb, 0, none⟩)] (fun _ => true) (BI2 Wf nb rb (pa, pn) a) where
  ent := enters_of Try.func20 (by kernel_rfl) rfl
  stab := fun P P' L W W' h hb hP => ⟨h.bel.trans (hb.mono h.bel.size), (hb.block nb (row_lt h.n)).trans h.n, (hb.block rb (row_lt h.r)).trans h.r, h.hn, h.hr, h.ne,
    fun hp => (hP nb hp).elim h.fn (fun h1 => by have := row_lt h.n; omega), fun hp => (hP rb hp).elim h.fr (fun h1 => by have := row_lt h.r; omega)⟩
  tri := fun _ _ _ h => F.tri.below h.bel
  call := fun P L W A i v h hA hR _ => each2_call F nb rb P L W A i v h hA hR
end
theorem FxB.on {Wf W : World} {tb : Nat} {N : Nat → Option Nat} {S : List (Nat × Value)} {xs : List Pf} {sa : Option Addr} {cap pb psb ab pa : Nat} {pn : Int} {a : Nat} (F : FxB Wf tb N S xs sa cap pb psb ab pa pn a) (hb : Below Wf.heap.size Wf W) : FxB W tb N S xs sa cap pb psb ab pa pn a :=
  { tri := F.tri.below hb, p0 := cell_below F.p0 hb, p1 := cell_below F.p1 hb, hs := cell_below F.hs hb, a0 := cell_below F.a0 hb,
    el := fun h => by
      obtain ⟨b, off, h1, h2⟩ := F.el h
      exact ⟨b, off, h1, fun i p hi => by
        obtain ⟨g1, g2, g3⟩ := h2 i p hi
        exact ⟨g1, cell_below g2 hb, cell_below g3 hb⟩⟩
    idx := F.idx, len := F.len, pa32 := F.pa32, a32 := F.a32 }
theorem goB_all (S : List (Nat × Value)) {p : Pf} (hp : PfOk p) : (goB S p).all (covX p) = true := by
  rw [← goB_filter S hp, List.all_eq_true]
  intro x hx
  exact (List.mem_filter.1 hx).2
/-- the place of a net stands there. -/
def Idx (xs : List Pf) (k : Nat) (S : List (Nat × Value)) : Prop := (∀ κ v, getL S κ = some v → ∃ (j : Nat) (p : Pf), j < k ∧ xs[j]? = some p ∧ PfOk p ∧ pRight p = true ∧ pKey p = κ ∧ v = .int .i64 j) ∧ S.length ≤ k
theorem Idx.put {xs : List Pf} {k : Nat} {S : List (Nat × Value)} {p : Pf} {v : Int} (h : Idx xs k S) (hd : KeysApart S) (hp : xs[k]? = some p) (hok : PfOk p) (hv : v = k) : Idx xs (k + 1) (putA S 100 p (.int .i64 v)).2 := by
  subst hv
  have hold : Idx xs (k + 1) S := ⟨fun κ v hv => by
    obtain ⟨j, q, h1, h2⟩ := h.1 κ v hv
    exact ⟨j, q, by omega, h2⟩, by have := h.2; omega⟩
  unfold putA
  by_cases hr : pRight p = true
  · rw [if_pos hr]
    have hs : Idx xs (k + 1) (delL S (pKey p) ++ [(pKey p, .int .i64 (k : Int))]) := by
      refine ⟨fun κ v hv => ?_, ?_⟩
      · rw [getL_snoc] at hv
        by_cases e : κ = pKey p
        · rw [if_pos e] at hv
          cases hv
          exact ⟨k, p, by omega, hp, hok, hr, e.symm, rfl⟩
        · rw [if_neg e] at hv; exact hold.1 κ v hv
      · rw [len_snoc hd]; have := h.2; split <;> omega
    unfold putR
    split
    · exact hs
    · split
      · exact hold
      · exact hs
  · rw [if_neg hr]; exact hold
theorem idx_keys {xs : List Pf} {k : Nat} {S : List (Nat × Value)} (h : Idx xs k S) : KeysOk S := fun κ v hv => by
  obtain ⟨j, p, _, _, hok, hr, hk, _⟩ := h.1 κ v hv
  have r := rightB_range hr
  have e2 : p.2 = ((p.2.toNat : Nat) : Int) := (Int.toNat_of_nonneg r.1).symm
  have hm : rightB (p.1 : Int) ((p.2.toNat : Nat) : Int) = true := by rw [← e2]; exact hr
  exact ⟨p.1, p.2.toNat, hok.1, by omega, (right_mod.1 hm).1, hk.symm⟩

/-- three boxes at the call's beginning. -/
theorem box3 (w : World) (s p0 p1 a : Value) (T U V : TypeId) : ∃ W0, W0 = ((w.alloc (.cells #[s] T)).alloc (.cells #[p0, p1] U)).alloc (.cells #[a] V) ∧ W0.cell? ⟨w.heap.size, 0, none⟩ = some s ∧ W0.cell? ⟨w.heap.size + 1, 0, none⟩ = some p0 ∧ W0.cell? ⟨w.heap.size + 1, 1, none⟩ = some p1 ∧ W0.cell? ⟨w.heap.size + 2, 0, none⟩ = some a ∧ Below w.heap.size w W0 := by
  have b1 : Below w.heap.size w (w.alloc (.cells #[s] T)) := (Below.refl _ _).alloc (Nat.le_refl _) _
  have s1 : (w.alloc (.cells #[s] T)).cell? ⟨w.heap.size, 0, none⟩ = some s := by simp
  have z1 : (w.alloc (.cells #[s] T)).heap.size = w.heap.size + 1 := by simp
  obtain ⟨W1, hW1⟩ : ∃ W1, W1 = w.alloc (.cells #[s] T) := ⟨_, rfl⟩
  rw [← hW1] at b1 s1 z1
  obtain ⟨W2, hW2, p0', p1', b2⟩ := box2 W1 p0 p1 U
  have z2 : W2.heap.size = w.heap.size + 2 := by rw [hW2]; simp [z1]
  have b3 : Below W2.heap.size W2 (W2.alloc (.cells #[a] V)) := (Below.refl _ _).alloc (Nat.le_refl _) _
  have a1 : (W2.alloc (.cells #[a] V)).cell? ⟨W2.heap.size, 0, none⟩ = some a := by simp
  rw [z1] at p0' p1'
  rw [z2] at a1
  exact ⟨W2.alloc (.cells #[a] V), by rw [hW2, hW1], cell_below (cell_below s1 b2) b3, cell_below p0' b3, cell_below p1' b3, a1, below_on (below_on b1 b2) b3⟩

set_option maxHeartbeats 800000 in
theorem below_long (sa : Option Addr) (len cap : Nat) (pa pn a : Int) (w : World) (hl : 40 < len) (hm : len ≤ maxLen) : Calls Try.prog 4 #[.slice sa len cap, .agg #[.int .u32 pa, .int .i64 pn], .int .u32 a] w fun e w' => e = .returned (.bool true) ∧ Below w.heap.size w w' := by
  unfold maxLen at hm
  go_enter Try.func4, Try.ntmps4
  go_wp2_with fail
  obtain ⟨W0, hW0, s0, _, _, _, hB⟩ := box3 w (.slice sa len cap) (.int .u32 pa) (.int .i64 pn) (.int .u32 a) 22 31 29
  rw [← hW0]; clear hW0
  refine (law_head _).mono ?_
  rintro e w1 ⟨rfl, hb⟩
  have hB := below_on hB hb
  have s0 := cell_below s0 hb
  go_wp2_with fail
  go_ret
  exact ⟨rfl, hB⟩

set_option maxHeartbeats 6400000 in
set_option maxRecDepth 100000 in
theorem below_short (sa : Option Addr) (xs : List Pf) (cap : Nat) (pa : Nat) (pn : Int) (a : Nat) (w : World) (hpo : PfOk (pa, pn)) (ha : a < 4294967296) (hl : xs.length ≤ 40) (hP : 0 < xs.length → ∃ b off : Nat, sa = some ⟨b, off, none⟩ ∧ PfsIn w b off xs) :
    Calls Try.prog 4 #[.slice sa xs.length cap, .agg #[.int .u32 pa, .int .i64 pn], .int .u32 a] w fun e w' => e = .returned (.bool true) ∧ Below w.heap.size w w' := by
  have HP := Lib.hid hP
  have HPO := Lib.hid hpo
  clear hP hpo
  go_enter Try.func4, Try.ntmps4
  go_wp2_with fail
  obtain ⟨W0, hW0, s0, p0, p1, a0, hB⟩ := box3 w (.slice sa xs.length cap) (.int .u32 pa) (.int .i64 pn) (.int .u32 a) 22 31 29
  rw [← hW0]; clear hW0
  have HB := Lib.hid hB
  have HZ := Lib.hid (show w.heap.size ≤ W0.heap.size from hB.size)
  have HP0 : Hid (0 < xs.length → ∃ b off : Nat, sa = some ⟨b, off, none⟩ ∧ PfsIn W0 b off xs) := Lib.hid fun h => by
    obtain ⟨b, off, h1, h2⟩ := HP.out h
    exact ⟨b, off, h1, fun i p hi => by
      obtain ⟨g1, g2, g3⟩ := h2 i p hi
      exact ⟨g1, (hB.cell (size_lt g2)).trans g2, (hB.cell (size_lt g3)).trans g3⟩⟩
  clear HP hB
  have S0 := Lib.hid s0
  have A0 := Lib.hid a0
  have P0 := Lib.hid (And.intro p0 p1)
  refine (law_head _).mono ?_
  rintro e w1 ⟨rfl, hb⟩
  have s0 := cell_below s0 hb
  clear p0 p1 a0
  go_wp2_with fail
  refine (trI_New 100 _).mono ?_
  rintro e w2 ⟨rfl, T, hb2⟩
  have X := Lib.hid (LSt.made (w := W0) hb (show TrI w2 w1.heap.size (fun _ => none) [] 100 from T) hb2)
  have s0 := cell_below s0 hb2
  clear T hb hb2
  generalize (fun _ => none : Nat → Option Nat) = N0 at X
  generalize w1.heap.size = tx at X ⊢
  generalize hb0 : w.heap.size = B0 at *
  have HB0 := Lib.hid hb0
  clear hb0
  go_wp2_with fail
  clear s0
  go_loopw [24] (fun i wr => ∃ (k : Nat) (Nx : Nat → Option Nat) (Sx : List (Nat × Value)), k ≤ xs.length ∧ i = .int .i64 k ∧ Hid (LSt W0 wr tx Nx Sx 100 ∧ Idx xs k Sx)) (fun i _ => xs.length - (intOf i).toNat)
  case atStart => exact ⟨0, N0, [], by omega, rfl, Lib.hid ⟨X.out, fun κ v h => by simp [getL] at h, by simp⟩⟩
  case round =>
    clear X
    obtain ⟨k, Nx, Sx, hk, rfl, T⟩ := hrel
    have s0 := (T.out.1.bel.cell (size_lt S0.out)).trans S0.out
    by_cases hlt : k < xs.length
    · obtain ⟨b, off, hsa, hP⟩ := HP0.out (by omega)
      subst hsa
      obtain ⟨p, hp⟩ : ∃ p, xs[k]? = some p := ⟨_, List.getElem?_eq_getElem hlt⟩
      obtain ⟨hok, d0, d1⟩ := hP k p hp
      have IX := Lib.hid (T.out.2.put T.out.1.tri.ap hp hok (v := k) rfl)
      obtain ⟨qa, qn⟩ := p
      simp only at d0 d1
      have d0 := (T.out.1.bel.cell (size_lt d0)).trans d0
      have d1 := (T.out.1.bel.cell (size_lt d1)).trans d1
      have PP := Lib.hid (fun W h => trI_PutA (tb := tx) (N := Nx) (S := Sx) (most := 100) qa qn k W h (by decide) hok.1)
      clear hP hok hp
      have i0 : (0 : Int) ≤ (k : Int) := by omega
      have i1 : (k : Int) < (xs.length : Int) := by omega
      go_wp2_with fail
      refine (PP.out _ T.out.1.tri).mono ?_
      intro e w4 hpp
      obtain ⟨N4, rfl, T4, _, _⟩ := hpp.st T.out.1
      have T4 := Lib.hid T4
      clear hpp T PP d0 d1 s0
      go_wp2_with fail
      exact ⟨⟨k + 1, N4, _, by omega, by go_num, Lib.hid ⟨T4.out, IX.out⟩⟩, by simp [intOf]; omega⟩
    · obtain rfl : k = xs.length := by omega
      have hmf : ∀ (fn : Fn) (first cap : Array Value) (w : World), (Instr.makeFunc fn first cap).run Try.prog w = .ok (.func fn first cap) w := fun _ _ _ _ => rfl
      have LT := Lib.hid T.out.1
      have IX := Lib.hid T.out.2
      have F1 : Hid (FxB wr tx Nx Sx xs sa cap (B0 + 1) B0 (B0 + 2) pa pn a) := Lib.hid
        { tri := T.out.1.tri, p0 := (T.out.1.bel.cell (size_lt P0.out.1)).trans P0.out.1, p1 := (T.out.1.bel.cell (size_lt P0.out.2)).trans P0.out.2, hs := s0, a0 := (T.out.1.bel.cell (size_lt A0.out)).trans A0.out,
          el := fun h => by
            obtain ⟨b, off, h1, h2⟩ := HP0.out h
            exact ⟨b, off, h1, fun i p hi => by
              obtain ⟨g1, g2, g3⟩ := h2 i p hi
              exact ⟨g1, (T.out.1.bel.cell (size_lt g2)).trans g2, (T.out.1.bel.cell (size_lt g3)).trans g3⟩⟩
          idx := fun κ v hv => by
            obtain ⟨j, p, _, h2⟩ := T.out.2.1 κ v hv
            exact ⟨j, p, h2⟩
          len := hl, pa32 := HPO.out.1, a32 := ha }
      clear T
      go_upto_region 13 with (fail)
      obtain ⟨W5, hW5, n5, r5, hb5, hz5⟩ : ∃ W5, W5 = (wr.alloc (.cells #[.int .i64 0] 3)).alloc (.cells #[.bool true] 4) ∧ W5.heap[wr.heap.size]? = some (.cells #[.int .i64 0] 3 (0, 0)) ∧ W5.heap[wr.heap.size + 1]? = some (.cells #[.bool true] 4 (0, 0)) ∧ Below wr.heap.size wr W5 ∧ W5.heap.size = wr.heap.size + 2 := by
        refine ⟨_, rfl, ?_, ?_, ((Below.refl _ _).alloc (Nat.le_refl _) _).alloc (by simp) _, by simp⟩
        · have h1 := heap_alloc_new wr (.cells #[.int .i64 0] 3)
          have h2 : Below (wr.alloc (.cells #[.int .i64 0] 3)).heap.size (wr.alloc (.cells #[.int .i64 0] 3)) ((wr.alloc (.cells #[.int .i64 0] 3)).alloc (.cells #[.bool true] 4)) := (Below.refl _ _).alloc (Nat.le_refl _) _
          rw [h2.block _ (row_lt h1)]; exact h1
        · have := heap_alloc_new (wr.alloc (.cells #[.int .i64 0] 3)) (.cells #[.bool true] 4)
          simpa using this
      rw [← hW5]
      clear hW5
      have I5 : BI1 wr wr.heap.size (wr.heap.size + 1) (pa, pn) (fun b => b < wr.heap.size) [] W5 := ⟨hb5, n5, r5, Nat.le_refl _, by omega, by omega, by simp, by simp⟩
      have BL := Lib.hid (trI_BelowA (each1_ok F1.out wr.heap.size (wr.heap.size + 1)) pa pn [] _ W5 HPO.out.1 I5)
      have L5 := Lib.hid (LT.out.below hb5)
      have p0 := (hb5.cell (size_lt F1.out.p0)).trans F1.out.p0
      have p1 := (hb5.cell (size_lt F1.out.p1)).trans F1.out.p1
      clear n5 r5 I5 hb5 hz5 s0
      generalize hnb : wr.heap.size = nb at BL ⊢
      have HNB := Lib.hid hnb
      clear hnb
      go_wp2_with fail
      refine BL.out.mono ?_
      rintro e w6 ⟨rfl, I6, K6⟩
      rw [runL_all _ (fun _ => rfl), List.nil_append] at I6
      have I6 := Lib.hid I6
      have K6 := Lib.hid K6
      clear BL p0 p1
      go_upto_region 16 with (fail)
      obtain ⟨W7, hW7, m7, q7, hb7, hz7⟩ : ∃ W7, W7 = (w6.alloc (.cells #[.int .i64 0] 3)).alloc (.cells #[.int .i64 (-1)] 3) ∧ W7.heap[w6.heap.size]? = some (.cells #[.int .i64 0] 3 (0, 0)) ∧ W7.heap[w6.heap.size + 1]? = some (.cells #[.int .i64 (-1)] 3 (0, 0)) ∧ Below w6.heap.size w6 W7 ∧ W7.heap.size = w6.heap.size + 2 := by
        refine ⟨_, rfl, ?_, ?_, ((Below.refl _ _).alloc (Nat.le_refl _) _).alloc (by simp) _, by simp⟩
        · have h1 := heap_alloc_new w6 (.cells #[.int .i64 0] 3)
          have h2 : Below (w6.alloc (.cells #[.int .i64 0] 3)).heap.size (w6.alloc (.cells #[.int .i64 0] 3)) ((w6.alloc (.cells #[.int .i64 0] 3)).alloc (.cells #[.int .i64 (-1)] 3)) := (Below.refl _ _).alloc (Nat.le_refl _) _
          rw [h2.block _ (row_lt h1)]; exact h1
        · have := heap_alloc_new (w6.alloc (.cells #[.int .i64 0] 3)) (.cells #[.int .i64 (-1)] 3)
          simpa using this
      rw [← hW7]
      clear hW7
      have F2 := Lib.hid (F1.out.on I6.out.bel)
      have I7 : BI2 w6 w6.heap.size (w6.heap.size + 1) (pa, pn) a (fun b => b < w6.heap.size) [] W7 := ⟨hb7, m7, q7, Nat.le_refl _, by omega, by omega, by simp, by simp⟩
      have AL := Lib.hid (trI_All (each2_ok F2.out w6.heap.size (w6.heap.size + 1)) [] _ W7 I7)
      have B7 : Hid (Below W0.heap.size W0 W7) := Lib.hid ((LT.out.bel.trans (I6.out.bel.mono LT.out.bel.size)).trans (hb7.mono (Nat.le_trans LT.out.bel.size I6.out.bel.size)))
      clear m7 q7 I7 hb7 hz7 L5 K6
      generalize hmb : w6.heap.size = mb at AL ⊢
      have HMB := Lib.hid hmb
      clear hmb
      go_wp2_with fail
      refine AL.out.mono ?_
      rintro e w8 ⟨rfl, I8, K8⟩
      rw [runL_all _ (fun _ => rfl), List.nil_append] at I8
      have I8 := Lib.hid I8
      have B8 : Hid (Below W0.heap.size W0 w8) := Lib.hid ((LT.out.bel.trans (I6.out.bel.mono LT.out.bel.size)).trans (I8.out.bel.mono (Nat.le_trans LT.out.bel.size I6.out.bel.size)))
      clear AL K8 B7
      -- what the law reads
      have hmn : (cnt ((goP Sx 32 0 0).filter (covX (pa, pn))).length) = cnt (goB Sx (pa, pn)).length := by rw [goB_filter Sx HPO.out]
      have n8 : w8.heap[nb]? = some (.cells #[.int .i64 (cnt (goB Sx (pa, pn)).length)] 3 (0, 0)) := by rw [← I6.out.n]; exact I8.out.bel.block _ (row_lt I6.out.n)
      have r8 : w8.heap[nb + 1]? = some (.cells #[.bool true] 4 (0, 0)) := by
        have h1 := I6.out.r
        rw [goB_all Sx HPO.out] at h1
        rw [← h1]; exact I8.out.bel.block _ (row_lt I6.out.r)
      have m8 : w8.heap[mb]? = some (.cells #[.int .i64 (cnt (goB Sx (pa, pn)).length)] 3 (0, 0)) := by rw [← hmn]; exact I8.out.n
      have q8 := I8.out.r
      rw [best_bst ha] at q8
      clear hmn
      generalize cnt (goB Sx (pa, pn)).length = nv at n8 m8
      have T8 := Lib.hid (F2.out.tri.below I8.out.bel)
      have a8 := (I8.out.bel.cell (size_lt F2.out.a0)).trans F2.out.a0
      have LG := Lib.hid (fun W h => trI_Longest (tb := tx) (N := Nx) (S := Sx) (most := 100) a W h ha)
      have LS := Lib.hid (fun κ v hv => (F2.out.idx κ v hv))
      clear I6 I8 F1 F2 IX LT
      cases hbst : bst Sx a 33 with
      | none =>
        rw [hbst] at q8
        replace q8 : w8.heap[mb + 1]? = some (.cells #[.int .i64 (-1)] 3 (0, 0)) := q8
        have hE := longE_no hbst
        have LG : Hid (∀ W, TrI W tx Nx Sx 100 → Calls Try.prog 22 #[.pointer (some ⟨tx, 0, none⟩), .int .u32 a] W fun e w' => e = .returned (.tuple #[.agg #[.int .u32 0, .int .i64 0], .int .i64 0, .bool false]) ∧ Below W.heap.size W w') := Lib.hid fun W h => by
          have := LG.out W h
          rw [← hE] at this
          exact this
        clear hE hbst
        go_wp2_with fail
        refine (LG.out _ T8.out).mono ?_
        rintro e w9 ⟨rfl, hb⟩
        have B9 := Lib.hid (B8.out.trans (hb.mono B8.out.size))
        have nc := cell_below (row_cell n8 0) hb
        have rc := cell_below (row_cell r8 0) hb
        have mc := cell_below (row_cell m8 0) hb
        have qc := cell_below (row_cell q8 0) hb
        clear hb LG T8 a8 n8 r8 m8 q8 B8
        go_upto_region 18 with (fail)
        obtain ⟨Wa, hWa, u0, u1, hb⟩ := box2 w9 (.int .u32 0) (.int .i64 0) 31
        rw [← hWa]; clear hWa
        have Ba := Lib.hid (B9.out.trans (hb.mono B9.out.size))
        have nc := cell_below nc hb
        have rc := cell_below rc hb
        have mc := cell_below mc hb
        have qc := cell_below qc hb
        clear hb B9
        go_wp2_with fail
        go_ret
        exact ⟨rfl, by rw [HB0.out]; exact HB.out.trans (Ba.out.mono HZ.out)⟩
      | some j =>
        rw [hbst] at q8
        replace q8 : w8.heap[mb + 1]? = some (.cells #[.int .i64 (j : Int)] 3 (0, 0)) := q8
        obtain ⟨hj, hs⟩ := bst_lt hbst
        obtain ⟨v, hv⟩ := Option.isSome_iff_exists.1 hs
        obtain ⟨kk, _, _, _, _, _, rfl⟩ := LS.out _ v hv
        have hE := longE_yes (v := .int .i64 (kk : Int)) hbst (by rw [hv]; rfl)
        have LG : Hid (∀ W, TrI W tx Nx Sx 100 → Calls Try.prog 22 #[.pointer (some ⟨tx, 0, none⟩), .int .u32 a] W fun e w' => e = .returned (.tuple #[.agg #[.int .u32 (keepI a j), .int .i64 j], .int .i64 kk, .bool true]) ∧ Below W.heap.size W w') := Lib.hid fun W h => by
          have := LG.out W h
          rw [← hE] at this
          exact this
        have HK : Hid (∀ W, Calls Try.prog 21 #[.agg #[.int .u32 (keepI a j), .int .i64 j], .int .u32 a] W fun e w' => e = .returned (.bool true) ∧ Below W.heap.size W w') := Lib.hid fun W => by
          have := ip_Has (keepI a j) (j : Int) (a : Int) W (keepI_lo _ _ (by omega)) (by have := keepI_le (a : Int) (j : Int); omega) (by omega) (by omega)
          have hk := has_keep (a : Int) (j : Int)
          rw [cl_of _ (by omega) (by omega)] at hk
          rw [hk] at this
          exact this
        clear hE hbst hs hv
        generalize keepI (a : Int) (j : Int) = ka at LG HK
        have j0 : (0 : Int) ≤ (j : Int) := by omega
        go_wp2_with fail
        refine (LG.out _ T8.out).mono ?_
        rintro e w9 ⟨rfl, hb⟩
        have B9 := Lib.hid (B8.out.trans (hb.mono B8.out.size))
        have nc := cell_below (row_cell n8 0) hb
        have rc := cell_below (row_cell r8 0) hb
        have mc := cell_below (row_cell m8 0) hb
        have qc := cell_below (row_cell q8 0) hb
        have a9 := cell_below a8 hb
        clear hb LG T8 a8 n8 r8 m8 q8 B8
        go_upto_region 18 with (fail)
        obtain ⟨Wa, hWa, u0, u1, hb⟩ := box2 w9 (.int .u32 ka) (.int .i64 j) 31
        rw [← hWa]; clear hWa
        have Ba := Lib.hid (B9.out.trans (hb.mono B9.out.size))
        have nc := cell_below nc hb
        have rc := cell_below rc hb
        have mc := cell_below mc hb
        have qc := cell_below qc hb
        have a9 := cell_below a9 hb
        clear hb B9
        go_wp2_with fail
        refine (HK.out _).mono ?_
        rintro e wb ⟨rfl, hb⟩
        have Bb := Lib.hid (Ba.out.trans (hb.mono Ba.out.size))
        clear hb nc rc mc qc a9 u0 u1
        go_wp2_with fail
        go_ret
        exact ⟨rfl, by rw [HB0.out]; exact HB.out.trans (Bb.out.mono HZ.out)⟩

theorem law_TrieBelow (v : Value) (xs : List Pf) (pa pn a : Int) (w : World) (hS : PrefsAt w v xs) (p0 : 0 ≤ pa) (p1 : pa < 4294967296) (q0 : -9223372036854775808 ≤ pn) (q1 : pn ≤ 9223372036854775807) (h0 : 0 ≤ a) (h1 : a < 4294967296) : Calls Try.prog 4 #[v, .agg #[.int .u32 pa, .int .i64 pn], .int .u32 a] w fun e w' => e = .returned (.bool true) ∧ Below w.heap.size w w' := by
  obtain ⟨sa, cap, rfl, hm, hP⟩ := hS
  obtain ⟨x, rfl⟩ := Int.eq_ofNat_of_zero_le h0
  obtain ⟨y, rfl⟩ := Int.eq_ofNat_of_zero_le p0
  by_cases hl : 40 < xs.length
  · exact below_long sa _ cap _ _ _ w hl hm
  · exact below_short sa xs cap y pn x w ⟨by simp only; omega, q0, q1⟩ (by omega) (by omega) hP

namespace trieBelow
open Go.ChangeShapes Go.WideShapes Go.ChangeAt Go.RowKit
set_option linter.unusedVariables false
set_option maxRecDepth 100000 in
theorem lifted (os : Os) (started : os.Started) (H : Type) (enc : TypeId × Value → H) :
    ReturnsInHanded {} Try.checked os 4 .any (Rows.trieBelowSpec.pre6 enc Try.prog Try.f4 Rows.trieBelowRow.domain false) (Rows.trieBelowSpec.post enc Try.prog Try.f4 false true false false) := by
  refine returnsInHanded_of_change (C := Try.checked) fr_own started (by kernel_rfl) Try.func4
    (ChangeSpec.witness6 (enc := enc) (C := Try.checked) false ⟨#[], #[.slice none 0 0, .agg #[.int .u32 0, .int .i64 0], .int .u32 0], []⟩ 8 (by kernel_rfl) (by kernel_rfl) (by kernel_rfl) (by kernel_rfl)) ?_
  intro W base args ds gs before hval0 hW hcnd _
  have hval : ∀ (j : Nat) t v, Try.f4.params[j]? = some t → args[j]? = some v → Value.okWide Try.prog W .any base t v := hval0
  have hW' := hW
  obtain ⟨p, q, hA0, hV, rfl, hfz, hnd⟩ := hW
  have hA : DataW.TrodAll enc Try.prog W 0 (fun _ => true) true Try.f4.params.toList args.toList ds p := hA0
  rw [Try.params4] at hA hval
  obtain ⟨v0, vs0, d0, ds0, p0, q0, hargs, rfl, rfl, h0, r0⟩ := trodAll_cons hA
  obtain ⟨v1, vs1, d1, ds1, p1, q1, rfl, rfl, rfl, h1, r1⟩ := trodAll_cons r0
  obtain ⟨v2, vs2, d2, ds2, p2, q2, rfl, rfl, rfl, h2, r2⟩ := trodAll_cons r1
  obtain ⟨rfl, rfl, rfl⟩ := trodAll_nil r2
  obtain rfl : args = #[v0, v1, v2] := by cases args; simp_all
  obtain ⟨rfl, rfl⟩ := trodVars_none hV
  have lt0 : ∀ x ∈ p0, x.block < W.heap.size := by obtain ⟨m, hm⟩ := h0; exact DataW.trod_lt m _ _ _ hm
  have lt1 : ∀ x ∈ p1, x.block < W.heap.size := by obtain ⟨m, hm⟩ := h1; exact DataW.trod_lt m _ _ _ hm
  have lt2 : ∀ x ∈ p2, x.block < W.heap.size := by obtain ⟨m, hm⟩ := h2; exact DataW.trod_lt m _ _ _ hm
  obtain ⟨xs, hS⟩ := open_prefs (hval 0 22 v0 rfl rfl) h0
  obtain ⟨b, n, rfl, hb0, hb1, hn0, hn1⟩ := open_pref (hval 1 31 v1 rfl rfl)
  obtain ⟨a, rfl, ha0, ha1⟩ := open_u32 (hval 2 29 v2 rfl rfl)
  clear hA0 hval0
  refine (law_TrieBelow _ xs b n a W hS hb0 hb1 hn0 hn1 ha0 ha1).mono fun e W' ⟨he, bel⟩ => ?_
  subst he
  exact ⟨_, rfl, _, _, _, [], _, [], hW', trodAll_mk1 (shut_bool Try.underlying4 _), (trodAll_cons_mk (Below.trod fr_laidOut (by kernel_rfl) (of_decide_eq_true (by kernel_rfl)) h0 bel lt0) (trodAll_cons_mk (Below.trod fr_laidOut (by kernel_rfl) (of_decide_eq_true (by kernel_rfl)) h1 bel lt1) (trodAll_cons_mk (Below.trod fr_laidOut (by kernel_rfl) (of_decide_eq_true (by kernel_rfl)) h2 bel lt2) trodAll_mk0))), rfl, bel.frame _, fun h => by cases h⟩
theorem over : Rows.trieBelowRow.holds Try.pinned (OpenSpec.ofChange Rows.trieBelowSpec) :=
  OpenClaim.holds_of_wide 4 Try.f4 rfl rfl rfl rfl rfl rfl rfl ⟨rfl, rfl, rfl, rfl, rfl⟩ rfl rfl rfl rfl rfl (by kernel_rfl) Try.func4 (by kernel_rfl)
    (of_decide_eq_true (by kernel_rfl)) (by unfold Func.isWrapper; first | (rw [if_pos (by decide +kernel)]; kernel_rfl) | (rw [if_neg (by decide +kernel)]; exact ⟨rfl, rfl⟩))
    (fun os started H enc _ => lifted os started H enc)
/-- THE STATEMENT TrieBelow. -/
theorem proved : Rows.TrieBelowSaid := over
#print axioms proved
end trieBelow
end Go.Proofs.Ytnklhfdhaclfiaa
