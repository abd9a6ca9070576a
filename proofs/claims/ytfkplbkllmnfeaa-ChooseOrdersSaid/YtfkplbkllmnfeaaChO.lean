/-
  CHOOSE: slices.IndexFunc, slices.DeleteFunc over ranks, by place; Order.
-/
import Derived.Test.YtfkplbkllmnfeaaChG
import Derived.Lib.SliceRun
import Derived.Test.YtfkplbkllmnfeaaMapT
namespace Go.Proofs.Ytfkplbkllmnfeaa
open Go.RowKit

set_option maxHeartbeats 1600000 in
set_option maxRecDepth 100000 in
theorem ch_del (r : Rk) (tb : Nat) (t : Int) (w : World) (ht : w.cell? ⟨tb, 0, none⟩ = some (.int .i64 t)) : Calls Try.prog 30 #[.agg (rkA r), .pointer (some ⟨tb, 0, none⟩)] w fun e w' => e = .returned (.bool (r.place == t)) ∧ Below w.heap.size w w' := by
  go_enter Try.func30, Try.ntmps30
  go_upto_region 1 with (fail)
  obtain ⟨W0, hW0, q0, hb0, -⟩ := boxK w r
  rw [← hW0]
  clear hW0
  have c0 : W0.cell? ⟨w.heap.size, 0, none⟩ = some (.int .i64 r.place) := row_cell q0 0
  have t0 := cell_below ht hb0
  clear q0 ht
  go_wp2_with fail
  go_ret
  exact ⟨rfl, hb0⟩
/-- the first whose place is t; -1: none. -/
def idxF (t : Int) : List Rk → Nat → Int
  | [], _ => -1
  | r :: rs, k => if r.place = t then (k : Int) else idxF t rs (k + 1)
theorem idxF_step {t : Int} {rs : List Rk} {k : Nat} {r : Rk} (h : rs[k]? = some r) : idxF t (rs.drop k) k = if r.place = t then (k : Int) else idxF t (rs.drop (k + 1)) (k + 1) := by
  obtain ⟨h1, h2⟩ := List.getElem?_eq_some_iff.1 h
  rw [List.drop_eq_getElem_cons h1, h2]; rfl
set_option maxHeartbeats 3200000 in
set_option maxRecDepth 100000 in
theorem ch_Index (v : Value) (rs : List Rk) (tb : Nat) (t : Int) (w : World) (h : RksAt w v rs) (ht : w.cell? ⟨tb, 0, none⟩ = some (.int .i64 t)) :
    Calls Try.prog 38 #[v, .func (.func 30) #[] #[.pointer (some ⟨tb, 0, none⟩)]] w fun e w' => e = .returned (.int .i64 (idxF t rs 0)) ∧ Below w.heap.size w w' := by
  obtain ⟨sa, cap, rfl, hlc, hcm, hV⟩ := h
  have HV := Lib.hid hV
  have HT := Lib.hid ht
  have DL := Lib.hid (fun r W h => ch_del r tb t W h)
  unfold maxLen at hcm
  clear hV ht
  go_enter Try.func38, Try.ntmps38
  go_wp2_with fail
  go_loopw [8] (fun i wr => ∃ k : Nat, k ≤ rs.length ∧ i = .int .i64 k ∧ Hid (idxF t rs 0 = idxF t (rs.drop k) k) ∧ Hid (Below w.heap.size w wr)) (fun i _ => rs.length - (intOf i).toNat)
  case atStart => exact ⟨0, by omega, rfl, Lib.hid rfl, Lib.hid (Below.refl _ _)⟩
  case round =>
    obtain ⟨k, hk, rfl, E, B⟩ := hrel
    by_cases hlt : k < rs.length
    · obtain ⟨r, hr⟩ : ∃ r, rs[k]? = some r := ⟨_, List.getElem?_eq_getElem hlt⟩
      obtain ⟨b, off, hsa, hP⟩ := HV.out (by omega)
      subst hsa
      obtain ⟨cs, _, hR, hc⟩ := hP k r hr
      obtain ⟨x0, x1, x2, x3, x4, x5, x6, x7⟩ := rk_cells hR hc
      have x0 := (B.out.cell (size_lt x0)).trans x0
      have x1 := (B.out.cell (size_lt x1)).trans x1
      have x2 := (B.out.cell (size_lt x2)).trans x2
      have x3 := (B.out.cell (size_lt x3)).trans x3
      have x4 := (B.out.cell (size_lt x4)).trans x4
      have x5 := (B.out.cell (size_lt x5)).trans x5
      have x6 := (B.out.cell (size_lt x6)).trans x6
      have x7 := (B.out.cell (size_lt x7)).trans x7
      have t0 := Lib.hid ((B.out.cell (size_lt HT.out)).trans HT.out)
      have E2 : Hid (idxF t rs 0 = if r.place = t then (k : Int) else idxF t (rs.drop (k + 1)) (k + 1)) := Lib.hid (by rw [E.out, idxF_step hr])
      have j0 : (0 : Int) ≤ (k : Int) := by omega
      have j1 : (k : Int) < (rs.length : Int) := by omega
      clear hP hR hc hr E
      go_wp2_with fail
      refine (DL.out r _ t0.out).mono ?_
      rintro e w2 ⟨rfl, hb2⟩
      have B2 := Lib.hid (below_on B.out hb2)
      clear hb2 B x0 x1 x2 x3 x4 x5 x6 x7 t0
      by_cases hp : r.place = t
      · have z : (r.place == t) = true := by simpa using hp
        have E3 : Hid (idxF t rs 0 = (k : Int)) := Lib.hid (by rw [E2.out, if_pos hp])
        clear hp E2
        go_wp2_with fail
        go_ret
        exact ⟨ret_int E3.out.symm, B2.out⟩
      · have z : (r.place == t) = false := by simpa using hp
        have E3 : Hid (idxF t rs 0 = idxF t (rs.drop (k + 1)) (k + 1)) := Lib.hid (by rw [E2.out, if_neg hp])
        clear hp E2
        go_wp2_with fail
        exact ⟨⟨k + 1, by omega, by go_num, E3, B2⟩, by simp [intOf]; omega⟩
    · obtain rfl : rs.length = k := by omega
      have E3 : Hid (idxF t rs 0 = -1) := Lib.hid (by rw [E.out, List.drop_length]; rfl)
      clear E
      go_wp2_with fail
      go_ret
      exact ⟨ret_int E3.out.symm, B.out⟩
theorem zero_rank (w : World) : (zeroValue 54).run Try.prog w = .ok (.agg rkZA) w := by kernel_rfl
theorem zeroCells_one (z : Array Value) (hz : ∀ v ∈ z, v.oneCell' = true) (h0 : 0 < z.size) (n : Nat) : ∀ v ∈ (Builtin.zeroCells z n).toList, v.oneCell' = true := by
  intro v hv
  unfold Builtin.zeroCells at hv
  simp only [Array.toList_map, List.mem_map] at hv
  obtain ⟨i, _, rfl⟩ := hv
  have hlt : i % z.size < z.size := Nat.mod_lt _ h0
  rw [getElem!_pos z _ hlt]
  exact hz _ (Array.getElem_mem hlt)
/-- clear of a part of a row of ranks. -/
theorem run_clear_ranks (w : World) (g o n c : Nat) (hn : 0 < n) (ht : w.there g o (n * 8)) :
    ∃ L : List Value, L.length = n * 8 ∧ ∀ ty, (Builtin.clear_ #[56] ty #[.slice (some ⟨g, o, none⟩) n c]).run Try.prog w = .ok (.tuple #[]) (w.setCells g o L) := by
  have hlen : (Builtin.zeroCells rkZA n).toList.length = n * 8 := by rw [Array.length_toList, size_zeroCells]; rfl
  refine ⟨(Builtin.zeroCells rkZA n).toList, hlen, fun ty => ?_⟩
  have hst := run_storeCells_cells (P := Try.prog) g o (Builtin.zeroCells rkZA n).toList 0 w (fun j hj => by rw [Nat.add_zero]; exact (ht j (by rw [hlen] at hj; exact hj)).1) (fun j hj => by rw [Nat.add_zero]; exact (ht j (by rw [hlen] at hj; exact hj)).2)
    (zeroCells_one rkZA (by intro v hv; simp at hv; rcases hv with rfl | rfl | rfl <;> rfl) (by decide) n)
  simp only [Nat.add_zero] at hst
  obtain ⟨m, rfl⟩ : ∃ m, n = m + 1 := ⟨n - 1, by omega⟩
  simp [Builtin.clear_, run_underlying Try.underlying56, Value.cells, hst]
theorem kept_cells {F : Nat → Prop} {g : Nat} (hF : F g) : ∀ (vs : List Value) (o : Nat) (w : World), Kept F w (w.setCells g o vs)
  | [], _, _ => Kept.refl F _
  | v :: r, o, _ => (Kept.setCell ⟨g, o, none⟩ v hF).trans (kept_cells hF r (o + 1) _)
theorem there_from {w : World} {g n k : Nat} (h : w.there g 0 (n * 8)) (hk : k ≤ n) : w.there g (k * 8) ((n - k) * 8) := by
  intro j hj
  have := h (k * 8 + j) (by omega)
  rw [Nat.zero_add] at this
  exact this
def keepP (t : Int) (r : Rk) : Bool := !(r.place == t)
def kpL (t : Int) (rs : List Rk) (j : Nat) : List Rk := (rs.take j).filter (keepP t)
theorem kpL_step (t : Int) {rs : List Rk} {j : Nat} {r : Rk} (h : rs[j]? = some r) : kpL t rs (j + 1) = kpL t rs j ++ (if keepP t r then [r] else []) := filter_step _ h
theorem idx_none {t : Int} : ∀ (rs : List Rk) (k : Nat), idxF t rs k = -1 → ∀ r ∈ rs, keepP t r = true
  | [], _, _, r, hr => by simp at hr
  | x :: rs, k, h, r, hr => by
    unfold idxF at h
    split at h
    · omega
    · next hx =>
      rcases List.mem_cons.1 hr with rfl | hr
      · unfold keepP; simpa using hx
      · exact idx_none rs (k + 1) h r hr
theorem idx_some {t : Int} : ∀ (rs : List Rk) (k : Nat), idxF t rs k ≠ -1 → ∃ i, idxF t rs k = ((k + i : Nat) : Int) ∧ i < rs.length ∧ (rs.take i).filter (keepP t) = rs.take i ∧ ∃ r, rs[i]? = some r ∧ keepP t r = false
  | [], _, h => absurd rfl h
  | x :: rs, k, h => by
    unfold idxF at h ⊢
    by_cases hx : x.place = t
    · rw [if_pos hx]
      exact ⟨0, rfl, by simp, by simp, x, rfl, by unfold keepP; simpa using hx⟩
    · rw [if_neg hx] at h ⊢
      obtain ⟨i, h1, h2, h3, r, h4, h5⟩ := idx_some rs (k + 1) h
      refine ⟨i + 1, by rw [h1]; congr 1; omega, by simp; omega, ?_, r, by simpa using h4, h5⟩
      rw [List.take_succ_cons, List.filter_cons_of_pos (by unfold keepP; simpa using hx), h3]
set_option maxHeartbeats 6400000 in
set_option maxRecDepth 100000 in
theorem ch_Delete (g n : Nat) (rs : List Rk) (tb : Nat) (t : Int) (w : World) (R : RkRow w g n rs) (hln : rs.length ≤ n) (hn : n ≤ 100000) (ht : w.cell? ⟨tb, 0, none⟩ = some (.int .i64 t)) (hne : tb ≠ g) :
    Calls Try.prog 29 #[.slice (some ⟨g, 0, none⟩) rs.length n, .func (.func 30) #[] #[.pointer (some ⟨tb, 0, none⟩)]] w fun e w' => e = .returned (.slice (some ⟨g, 0, none⟩) (rs.filter (keepP t)).length n) ∧ RkRow w' g n (rs.filter (keepP t)) ∧ Kept (fun b => b = g) w w' := by
  have hat : RksAt w (.slice (some ⟨g, 0, none⟩) rs.length n) rs := ⟨_, _, rfl, hln, by unfold maxLen; omega, fun _ => ⟨g, 0, rfl, fun i x hx => ⟨rkL x, rfl, rfl, fun j c hc => by rw [Nat.zero_add]; exact R.1 i x hx j c hc⟩⟩⟩
  have IX := Lib.hid (ch_Index _ rs tb t w hat ht)
  have HR := Lib.hid R
  have HT := Lib.hid ht
  have DL := Lib.hid (fun r W h => ch_del r tb t W h)
  have NG := Lib.hid hne
  clear hat R ht hne
  by_cases hi : idxF t rs 0 = -1
  · have E : Hid (rs.filter (keepP t) = rs) := Lib.hid (List.filter_eq_self.2 (idx_none rs 0 hi))
    rw [hi] at IX
    rw [E.out]
    clear hi E
    go_enter Try.func29, Try.ntmps29
    go_wp2_with fail
    refine IX.out.mono ?_
    rintro e w1 ⟨rfl, hb1⟩
    have R1 := Lib.hid (HR.out.below hb1)
    have K1 := Lib.hid (Kept.of_below (F := fun b => b = g) hb1)
    clear hb1 IX HR
    go_wp2_with fail
    go_ret
    exact ⟨rfl, R1.out, K1.out⟩
  · obtain ⟨i, h1, h2, h3, r0, h4, h5⟩ := idx_some rs 0 hi
    rw [Nat.zero_add] at h1
    rw [h1] at IX
    have KI : Hid (kpL t rs (i + 1) = rs.take i) := Lib.hid (by
      rw [kpL_step t h4, h5]
      unfold kpL
      rw [h3]; simp)
    have H4 := Lib.hid h4
    clear hi h1 h3 h4 h5
    have n1 : ((i : Int) == -1) = false := by rw [beq_eq_false_iff_ne]; omega
    go_enter Try.func29, Try.ntmps29
    go_wp2_with fail
    refine IX.out.mono ?_
    rintro e w1 ⟨rfl, hb1⟩
    have R1 := HR.out.below hb1
    have K1 := Lib.hid (Kept.of_below (F := fun b => b = g) hb1)
    have F1 : Hid (Filled w1 g 8 rkL (kpL t rs (i + 1))) := Lib.hid (by
      rw [KI.out]
      intro q x hx
      have hq := (List.getElem?_eq_some_iff.1 hx).1
      rw [List.getElem?_take_of_lt (by simp at hq; omega)] at hx
      exact R1.1 q x hx)
    have T1 := Lib.hid R1.2
    have S1 : Hid (∀ (q : Nat) (x : Rk), i + 1 ≤ q → rs[q]? = some x → w1.rangeAt g (q * 8) (rkL x)) := Lib.hid (fun q x _ hx => R1.1 q x hx)
    have LK : Hid ((kpL t rs (i + 1)).length + 1 ≤ i + 1) := Lib.hid (by rw [KI.out, List.length_take]; omega)
    have E0 : Hid ((kpL t rs (i + 1)).length = i) := Lib.hid (by rw [KI.out, List.length_take]; omega)
    clear hb1 R1 IX HR H4 KI
    go_wp2_with fail
    go_loopw [5, 6] (fun vi vj wr => ∃ j : Nat, i + 1 ≤ j ∧ j ≤ rs.length ∧ vj = .int .i64 j ∧ vi = .int .i64 ((kpL t rs j).length : Nat) ∧ Hid (Filled wr g 8 rkL (kpL t rs j)) ∧ Hid (wr.there g 0 (n * 8)) ∧ Hid (∀ (q : Nat) (x : Rk), j ≤ q → rs[q]? = some x → wr.rangeAt g (q * 8) (rkL x)) ∧ Hid (Kept (fun b => b = g) w wr) ∧ Hid ((kpL t rs j).length + 1 ≤ j)) (fun _ vj _ => rs.length - (intOf vj).toNat)
    case atStart => exact ⟨i + 1, by omega, by omega, by go_num, by rw [E0.out], F1, T1, S1, K1, LK⟩
    case round =>
      clear F1 T1 S1 K1 LK E0
      obtain ⟨j, hj1, hj2, rfl, rfl, F, T, S, K, LK⟩ := hrel
      by_cases hlt : j < rs.length
      · obtain ⟨r, hr⟩ : ∃ r, rs[j]? = some r := ⟨_, List.getElem?_eq_getElem hlt⟩
        have hc := S.out j r (Nat.le_refl _) hr
        have x0 : wr.cell? ⟨g, j * 8, none⟩ = some (.int .i64 r.place) := hc 0 _ rfl
        have x1 : wr.cell? ⟨g, j * 8 + 1, none⟩ = some (.int .i64 r.loc) := hc 1 _ rfl
        have x2 : wr.cell? ⟨g, j * 8 + 2, none⟩ = some (.int .i64 r.hops) := hc 2 _ rfl
        have x3 : wr.cell? ⟨g, j * 8 + 3, none⟩ = some (.int .i64 r.origin) := hc 3 _ rfl
        have x4 : wr.cell? ⟨g, j * 8 + 4, none⟩ = some (.int .i64 r.first) := hc 4 _ rfl
        have x5 : wr.cell? ⟨g, j * 8 + 5, none⟩ = some (.int .i64 r.med) := hc 5 _ rfl
        have x6 : wr.cell? ⟨g, j * 8 + 6, none⟩ = some (.int .u32 r.id) := hc 6 _ rfl
        have x7 : wr.cell? ⟨g, j * 8 + 7, none⟩ = some (.int .i64 r.peer) := hc 7 _ rfl
        have TC := Lib.hid (K.out.cell HT.out NG.out)
        have ST := Lib.hid (kpL_step t hr)
        have j0 : (0 : Int) ≤ (j : Int) := by omega
        have j1 : (j : Int) < (rs.length : Int) := by omega
        have GL : Hid (g < wr.heap.size) := Lib.hid (size_lt x0)
        clear hc hr
        go_upto_region 8 with (fail)
        obtain ⟨W4, hW4, q4, hb4, -⟩ := boxK wr r
        rw [← hW4]
        clear hW4 x0 x1 x2 x3 x4 x5 x6 x7
        have F4 := Lib.hid (F.out.below hb4)
        have T4 := Lib.hid (there_below T.out hb4)
        have S4 : Hid (∀ (q : Nat) (x : Rk), j ≤ q → rs[q]? = some x → W4.rangeAt g (q * 8) (rkL x)) := Lib.hid (fun q x h1 h2 k v hv => cell_below (S.out q x h1 h2 k v hv) hb4)
        have K4 := Lib.hid (K.out.trans (Kept.of_below hb4))
        have TC4 := Lib.hid (cell_below TC.out hb4)
        have NB : Hid (wr.heap.size ≠ g) := Lib.hid (by have := GL.out; omega)
        have Q4 := Lib.hid q4
        obtain ⟨y0, y1, y2, y3, y4, y5, y6, y7⟩ := rk_row q4
        clear q4 hb4 F T S K TC GL
        generalize wr.heap.size = rb at Q4 NB y0 y1 y2 y3 y4 y5 y6 y7 ⊢
        go_wp2_with fail
        refine (DL.out r _ TC4.out).mono ?_
        rintro e w5 ⟨rfl, hb5⟩
        have F5 := Lib.hid (F4.out.below hb5)
        have T5 := Lib.hid (there_below T4.out hb5)
        have S5 : Hid (∀ (q : Nat) (x : Rk), j ≤ q → rs[q]? = some x → w5.rangeAt g (q * 8) (rkL x)) := Lib.hid (fun q x h1 h2 k v hv => cell_below (S4.out q x h1 h2 k v hv) hb5)
        have K5 := Lib.hid (K4.out.trans (Kept.of_below hb5))
        have Q5 := Lib.hid ((hb5.block _ (row_lt Q4.out)).trans Q4.out)
        clear hb5 F4 T4 S4 K4 TC4 Q4 y0 y1 y2 y3 y4 y5 y6 y7
        obtain ⟨y0, y1, y2, y3, y4, y5, y6, y7⟩ := rk_row Q5.out
        by_cases hp : (r.place == t) = true
        · have ST2 : Hid (kpL t rs (j + 1) = kpL t rs j) := Lib.hid (by rw [ST.out]; unfold keepP; rw [hp]; simp)
          have LK2 : Hid ((kpL t rs (j + 1)).length + 1 ≤ j + 1) := Lib.hid (by rw [ST2.out]; have := LK.out; omega)
          rw [← ST2.out] at F5
          have EV : Hid (Value.int .i64 ((kpL t rs j).length : Nat) = .int .i64 ((kpL t rs (j + 1)).length : Nat)) := Lib.hid (by rw [ST2.out])
          have S6 : Hid (∀ (q : Nat) (x : Rk), j + 1 ≤ q → rs[q]? = some x → w5.rangeAt g (q * 8) (rkL x)) := Lib.hid (fun q x h1 h2 => S5.out q x (by omega) h2)
          clear ST ST2 S5 LK
          go_wp2_with fail
          exact ⟨⟨j + 1, by omega, by omega, by go_num, EV.out, F5, T5, S6, K5, LK2⟩, by simp [intOf]; omega⟩
        · have hp2 : (r.place == t) = false := by simpa using hp
          have ST2 : Hid (kpL t rs (j + 1) = kpL t rs j ++ [r]) := Lib.hid (by rw [ST.out]; unfold keepP; rw [hp2]; rfl)
          have LK2 : Hid ((kpL t rs (j + 1)).length + 1 ≤ j + 1) := Lib.hid (by rw [ST2.out, List.length_append]; have := LK.out; simp; omega)
          have lk := LK.out
          have EV : Hid (Value.int .i64 ((kpL t rs j).length + 1 : Nat) = .int .i64 ((kpL t rs (j + 1)).length : Nat)) := Lib.hid (by rw [ST2.out, List.length_append]; rfl)
          have FS := Lib.hid (Filled.set (C := rkL) rkL_len F5.out T5.out (show (kpL t rs j).length < n by omega) r)
          have S6 : Hid (∀ (q : Nat) (x : Rk), j + 1 ≤ q → rs[q]? = some x → (w5.setCells g ((kpL t rs j).length * 8) (rkL r)).rangeAt g (q * 8) (rkL x)) := Lib.hid (fun q x h1 h2 => World.rangeAt_setCells_apart (S5.out q x (by omega) h2) _ _ _ (.inr (.inr (by show _ + 8 ≤ _; omega))))
          rw [← ST2.out] at FS
          clear ST ST2 S5 LK hp
          generalize hm : (kpL t rs j).length = m at *
          clear hm
          have m0 : (0 : Int) ≤ (m : Int) := by omega
          have m1 : (m : Int) < (rs.length : Int) := by omega
          go_wp2_with (with_reducible refine halt_at (X := .store 54 (.tmp 33) (.tmp 32)) ?_ ?_; (· rfl))
          unfold Halt
          refine wpList_store_mid rfl 54 (.tmp 33) (.tmp 32) rfl g (m * 8) (rkA r) rfl rfl (there_part T5.out (show m < n by omega)) (by kernel_rfl) (rk_one _) ?_
          have K6 := Lib.hid (K5.out.trans (kept_cells (F := fun b => b = g) rfl (rkL r) (m * 8) w5))
          obtain ⟨W6, hW6⟩ : ∃ W6, W6 = w5.setCells g (m * 8) (rkL r) := ⟨_, rfl⟩
          have hW7 : w5.setCells g (m * 8) (rkA r).toList = W6 := hW6.symm
          rw [hW7]
          rw [← hW6] at FS S6 K6
          clear hW6 hW7 K5 T5 F5 Q5 y0 y1 y2 y3 y4 y5 y6 y7 lk
          go_wp2_with fail
          exact ⟨⟨j + 1, by omega, by omega, by go_num, EV.out, Lib.hid FS.out.1, Lib.hid FS.out.2, S6, K6, LK2⟩, by simp [intOf]; omega⟩
      · obtain rfl : j = rs.length := by omega
        have EF : Hid (kpL t rs rs.length = rs.filter (keepP t)) := Lib.hid (by unfold kpL; rw [List.take_length])
        have lk := LK.out
        rw [EF.out] at F LK lk
        rw [EF.out]
        clear EF S hlt LK
        generalize hm : (rs.filter (keepP t)).length = m at *
        have m0 : (0 : Int) ≤ (m : Int) := by omega
        have m1 : (m : Int) ≤ (rs.length : Int) := by omega
        obtain ⟨L, hL, hcl⟩ := run_clear_ranks wr g (m * 8) (rs.length - m) (n - m) (by omega) (fun q hq => there_from T.out (show m ≤ n by omega) q (by omega))
        have K6 := Lib.hid (K.out.trans (kept_cells (F := fun b => b = g) rfl L (m * 8) wr))
        have R6 : Hid (RkRow (wr.setCells g (m * 8) L) g n (rs.filter (keepP t))) := Lib.hid ⟨fun q x hx => World.rangeAt_setCells_apart (F.out q x hx) _ _ _ (.inr (.inl (by
          have := (List.getElem?_eq_some_iff.1 hx).1
          show q * 8 + 8 ≤ m * 8
          omega))), World.there_setCells T.out _ _ _⟩
        clear hL F T K
        go_wp2_with (simp only [hcl])
        go_ret
        exact ⟨by rw [hm]; rfl, R6.out, K6.out⟩
end Go.Proofs.Ytfkplbkllmnfeaa
