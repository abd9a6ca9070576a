/- Texts of one proof, one behind another. -/
import Derived.Test.YtkoidahgbbabiaaGreatOf5
import Derived.Lib.SliceRun
import Derived.Test.YtkoidahgbbabiaaGreatOf4
import Derived.Test.YtkoidahgbbabiaaGreatOf22
import Derived.Test.YtkoidahgbbabiaaGreatOf9
import Derived.Test.YtkoidahgbbabiaaGreatOf1
/-
  CHOOSE: slices.IndexFunc, slices.DeleteFunc over ranks, by place; Order.
-/
namespace Go.Proofs.YtkoidahgbbabiaaGreat
open Go.RowKit
theorem filter_step {α : Type} (q : α → Bool) {l : List α} {k : Nat} {x : α} (h : l[k]? = some x) : (l.take (k + 1)).filter q = (l.take k).filter q ++ (if q x then [x] else []) := by
  obtain ⟨h1, h2⟩ := List.getElem?_eq_some_iff.1 h
  rw [List.take_succ_eq_append_getElem h1, List.filter_append, h2]
  congr 1
  cases hb : q x <;> simp [List.filter, hb]
set_option maxHeartbeats 1600000 in
set_option maxRecDepth 100000 in
theorem ch_del (r : Rk) (tb : Nat) (t : Int) (w : World) (ht : w.cell? ⟨tb, 0, none⟩ = some (.int .i64 t)) : Calls Tryz.prog 123 #[.agg (rkA r), .pointer (some ⟨tb, 0, none⟩)] w fun e w' => e = .returned (.bool (r.place == t)) ∧ Below w.heap.size w w' := by
  go_enter Tryz.func123, Tryz.ntmps123
  go_upto_region 1 with (fail)
  obtain ⟨W0, hW0, q0, hb0, -⟩ := boxK w r
  rw [← hW0]
  clear hW0
  have c0 : W0.cell? ⟨w.heap.size, 0, none⟩ = some (.int .i64 r.place) := row_cell q0 0
  have t0 := cell_below ht hb0
  clear q0 ht
  go_wp2_with fail
  go_ret
  exact ⟨rfl, hb0⟩
def idxF (t : Int) : List Rk → Nat → Int
  | [], _ => -1
  | r :: rs, k => if r.place = t then (k : Int) else idxF t rs (k + 1)
theorem idxF_step {t : Int} {rs : List Rk} {k : Nat} {r : Rk} (h : rs[k]? = some r) : idxF t (rs.drop k) k = if r.place = t then (k : Int) else idxF t (rs.drop (k + 1)) (k + 1) := by
  obtain ⟨h1, h2⟩ := List.getElem?_eq_some_iff.1 h
  rw [List.drop_eq_getElem_cons h1, h2]; rfl
set_option maxHeartbeats 3200000 in
set_option maxRecDepth 100000 in
theorem ch_Index (v : Value) (rs : List Rk) (tb : Nat) (t : Int) (w : World) (h : RksAt w v rs) (ht : w.cell? ⟨tb, 0, none⟩ = some (.int .i64 t)) :
    Calls Tryz.prog 167 #[v, .func (.func 123) #[] #[.pointer (some ⟨tb, 0, none⟩)]] w fun e w' => e = .returned (.int .i64 (idxF t rs 0)) ∧ Below w.heap.size w w' := by
  obtain ⟨sa, cap, rfl, hlc, hcm, hV⟩ := h
  have HV := Lib.hid hV
  have HT := Lib.hid ht
  have DL := Lib.hid (fun r W h => ch_del r tb t W h)
  unfold maxLen at hcm
  clear hV ht
  go_enter Tryz.func167, Tryz.ntmps167
  go_wp2_with fail
  go_loopw [8] (fun i wr => ∃ k : Nat, k ≤ rs.length ∧ i = .int .i64 k ∧ Hid (idxF t rs 0 = idxF t (rs.drop k) k) ∧ Hid (Below w.heap.size w wr)) (fun i _ => rs.length - (intOf i).toNat)
  case atStart => exact ⟨0, by omega, rfl, Lib.hid rfl, Lib.hid (Below.refl _ _)⟩
  case round =>
    obtain ⟨k, hk, rfl, E, B⟩ := hrel
    by_cases hlt : k < rs.length
    · obtain ⟨r, hr⟩ : ∃ r, rs[k]? = some r := ⟨_, List.getElem?_eq_getElem hlt⟩
      obtain ⟨b, off, hsa, hP⟩ := HV.out (by omega)
      subst hsa
      obtain ⟨cs, _, hR, hc⟩ := hP k r hr
      obtain ⟨x0, x1, x2, x3, x4, x5, x6, x7⟩ := rk_cells hR hc
      have x0 := (B.out.cell (size_lt x0)).trans x0
      have x1 := (B.out.cell (size_lt x1)).trans x1
      have x2 := (B.out.cell (size_lt x2)).trans x2
      have x3 := (B.out.cell (size_lt x3)).trans x3
      have x4 := (B.out.cell (size_lt x4)).trans x4
      have x5 := (B.out.cell (size_lt x5)).trans x5
      have x6 := (B.out.cell (size_lt x6)).trans x6
      have x7 := (B.out.cell (size_lt x7)).trans x7
      have t0 := Lib.hid ((B.out.cell (size_lt HT.out)).trans HT.out)
      have E2 : Hid (idxF t rs 0 = if r.place = t then (k : Int) else idxF t (rs.drop (k + 1)) (k + 1)) := Lib.hid (by rw [E.out, idxF_step hr])
      have j0 : (0 : Int) ≤ (k : Int) := by omega
      have j1 : (k : Int) < (rs.length : Int) := by omega
      clear hP hR hc hr E
      go_wp2_with fail
      refine (DL.out r _ t0.out).mono ?_
      rintro e w2 ⟨rfl, hb2⟩
      have B2 := Lib.hid (below_on B.out hb2)
      clear hb2 B x0 x1 x2 x3 x4 x5 x6 x7 t0
      by_cases hp : r.place = t
      · have z : (r.place == t) = true := by simpa using hp
        have E3 : Hid (idxF t rs 0 = (k : Int)) := Lib.hid (by rw [E2.out, if_pos hp])
        clear hp E2
        go_wp2_with fail
        go_ret
        exact ⟨ret_int E3.out.symm, B2.out⟩
      · have z : (r.place == t) = false := by simpa using hp
        have E3 : Hid (idxF t rs 0 = idxF t (rs.drop (k + 1)) (k + 1)) := Lib.hid (by rw [E2.out, if_neg hp])
        clear hp E2
        go_wp2_with fail
        exact ⟨⟨k + 1, by omega, by go_num, E3, B2⟩, by simp [intOf]; omega⟩
    · obtain rfl : rs.length = k := by omega
      have E3 : Hid (idxF t rs 0 = -1) := Lib.hid (by rw [E.out, List.drop_length]; rfl)
      clear E
      go_wp2_with fail
      go_ret
      exact ⟨ret_int E3.out.symm, B.out⟩
theorem run_clear_ranks (w : World) (g o n c : Nat) (hn : 0 < n) (ht : w.there g o (n * 8)) :
    ∃ L : List Value, L.length = n * 8 ∧ ∀ ty, (Builtin.clear_ #[197] ty #[.slice (some ⟨g, o, none⟩) n c]).run Tryz.prog w = .ok (.tuple #[]) (w.setCells g o L) := by
  have hlen : (Builtin.zeroCells rkZA n).toList.length = n * 8 := by rw [Array.length_toList, size_zeroCells]; rfl
  refine ⟨(Builtin.zeroCells rkZA n).toList, hlen, fun ty => ?_⟩
  have hst := run_storeCells_cells (P := Tryz.prog) g o (Builtin.zeroCells rkZA n).toList 0 w (fun j hj => by rw [Nat.add_zero]; exact (ht j (by rw [hlen] at hj; exact hj)).1) (fun j hj => by rw [Nat.add_zero]; exact (ht j (by rw [hlen] at hj; exact hj)).2)
    (zeroCells_one rkZA (by intro v hv; simp at hv; rcases hv with rfl | rfl | rfl <;> rfl) (by decide) n)
  simp only [Nat.add_zero] at hst
  obtain ⟨m, rfl⟩ : ∃ m, n = m + 1 := ⟨n - 1, by omega⟩
  simp [Builtin.clear_, run_underlying Tryz.underlying197, Value.cells, hst]
theorem kept_cells {F : Nat → Prop} {g : Nat} (hF : F g) : ∀ (vs : List Value) (o : Nat) (w : World), Kept F w (w.setCells g o vs)
  | [], _, _ => Kept.refl F _
  | v :: r, o, _ => (Kept.setCell ⟨g, o, none⟩ v hF).trans (kept_cells hF r (o + 1) _)
theorem there_from {w : World} {g n k : Nat} (h : w.there g 0 (n * 8)) (hk : k ≤ n) : w.there g (k * 8) ((n - k) * 8) := by
  intro j hj
  have := h (k * 8 + j) (by omega)
  rw [Nat.zero_add] at this
  exact this
def keepP (t : Int) (r : Rk) : Bool := !(r.place == t)
def kpL (t : Int) (rs : List Rk) (j : Nat) : List Rk := (rs.take j).filter (keepP t)
theorem kpL_step (t : Int) {rs : List Rk} {j : Nat} {r : Rk} (h : rs[j]? = some r) : kpL t rs (j + 1) = kpL t rs j ++ (if keepP t r then [r] else []) := filter_step _ h
theorem idx_none {t : Int} : ∀ (rs : List Rk) (k : Nat), idxF t rs k = -1 → ∀ r ∈ rs, keepP t r = true
  | [], _, _, r, hr => by simp at hr
  | x :: rs, k, h, r, hr => by
    unfold idxF at h
    split at h
    · omega
    · next hx =>
      rcases List.mem_cons.1 hr with rfl | hr
      · unfold keepP; simpa using hx
      · exact idx_none rs (k + 1) h r hr
theorem idx_some {t : Int} : ∀ (rs : List Rk) (k : Nat), idxF t rs k ≠ -1 → ∃ i, idxF t rs k = ((k + i : Nat) : Int) ∧ i < rs.length ∧ (rs.take i).filter (keepP t) = rs.take i ∧ ∃ r, rs[i]? = some r ∧ keepP t r = false
  | [], _, h => absurd rfl h
  | x :: rs, k, h => by
    unfold idxF at h ⊢
    by_cases hx : x.place = t
    · rw [if_pos hx]
      exact ⟨0, rfl, by simp, by simp, x, rfl, by unfold keepP; simpa using hx⟩
    · rw [if_neg hx] at h ⊢
      obtain ⟨i, h1, h2, h3, r, h4, h5⟩ := idx_some rs (k + 1) h
      refine ⟨i + 1, by rw [h1]; congr 1; omega, by simp; omega, ?_, r, by simpa using h4, h5⟩
      rw [List.take_succ_cons, List.filter_cons_of_pos (by unfold keepP; simpa using hx), h3]
set_option maxHeartbeats 6400000 in
set_option maxRecDepth 100000 in
theorem ch_Delete (g n : Nat) (rs : List Rk) (tb : Nat) (t : Int) (w : World) (R : RkRow w g n rs) (hln : rs.length ≤ n) (hn : n ≤ 100000) (ht : w.cell? ⟨tb, 0, none⟩ = some (.int .i64 t)) (hne : tb ≠ g) :
    Calls Tryz.prog 122 #[.slice (some ⟨g, 0, none⟩) rs.length n, .func (.func 123) #[] #[.pointer (some ⟨tb, 0, none⟩)]] w fun e w' => e = .returned (.slice (some ⟨g, 0, none⟩) (rs.filter (keepP t)).length n) ∧ RkRow w' g n (rs.filter (keepP t)) ∧ Kept (fun b => b = g) w w' := by
  have hat : RksAt w (.slice (some ⟨g, 0, none⟩) rs.length n) rs := ⟨_, _, rfl, hln, by unfold maxLen; omega, fun _ => ⟨g, 0, rfl, fun i x hx => ⟨rkL x, rfl, rfl, fun j c hc => by rw [Nat.zero_add]; exact R.1 i x hx j c hc⟩⟩⟩
  have IX := Lib.hid (ch_Index _ rs tb t w hat ht)
  have HR := Lib.hid R
  have HT := Lib.hid ht
  have DL := Lib.hid (fun r W h => ch_del r tb t W h)
  have NG := Lib.hid hne
  clear hat R ht hne
  by_cases hi : idxF t rs 0 = -1
  · have E : Hid (rs.filter (keepP t) = rs) := Lib.hid (List.filter_eq_self.2 (idx_none rs 0 hi))
    rw [hi] at IX
    rw [E.out]
    clear hi E
    go_enter Tryz.func122, Tryz.ntmps122
    go_wp2_with fail
    refine IX.out.mono ?_
    rintro e w1 ⟨rfl, hb1⟩
    have R1 := Lib.hid (HR.out.below hb1)
    have K1 := Lib.hid (Kept.of_below (F := fun b => b = g) hb1)
    clear hb1 IX HR
    go_wp2_with fail
    go_ret
    exact ⟨rfl, R1.out, K1.out⟩
  · obtain ⟨i, h1, h2, h3, r0, h4, h5⟩ := idx_some rs 0 hi
    rw [Nat.zero_add] at h1
    rw [h1] at IX
    have KI : Hid (kpL t rs (i + 1) = rs.take i) := Lib.hid (by
      rw [kpL_step t h4, h5]
      unfold kpL
      rw [h3]; simp)
    have H4 := Lib.hid h4
    clear hi h1 h3 h4 h5
    have n1 : ((i : Int) == -1) = false := by rw [beq_eq_false_iff_ne]; omega
    go_enter Tryz.func122, Tryz.ntmps122
    go_wp2_with fail
    refine IX.out.mono ?_
    rintro e w1 ⟨rfl, hb1⟩
    have R1 := HR.out.below hb1
    have K1 := Lib.hid (Kept.of_below (F := fun b => b = g) hb1)
    have F1 : Hid (Filled w1 g 8 rkL (kpL t rs (i + 1))) := Lib.hid (by
      rw [KI.out]
      intro q x hx
      have hq := (List.getElem?_eq_some_iff.1 hx).1
      rw [List.getElem?_take_of_lt (by simp at hq; omega)] at hx
      exact R1.1 q x hx)
    have T1 := Lib.hid R1.2
    have S1 : Hid (∀ (q : Nat) (x : Rk), i + 1 ≤ q → rs[q]? = some x → w1.rangeAt g (q * 8) (rkL x)) := Lib.hid (fun q x _ hx => R1.1 q x hx)
    have LK : Hid ((kpL t rs (i + 1)).length + 1 ≤ i + 1) := Lib.hid (by rw [KI.out, List.length_take]; omega)
    have E0 : Hid ((kpL t rs (i + 1)).length = i) := Lib.hid (by rw [KI.out, List.length_take]; omega)
    clear hb1 R1 IX HR H4 KI
    go_wp2_with fail
    go_loopw [5, 6] (fun vi vj wr => ∃ j : Nat, i + 1 ≤ j ∧ j ≤ rs.length ∧ vj = .int .i64 j ∧ vi = .int .i64 ((kpL t rs j).length : Nat) ∧ Hid (Filled wr g 8 rkL (kpL t rs j)) ∧ Hid (wr.there g 0 (n * 8)) ∧ Hid (∀ (q : Nat) (x : Rk), j ≤ q → rs[q]? = some x → wr.rangeAt g (q * 8) (rkL x)) ∧ Hid (Kept (fun b => b = g) w wr) ∧ Hid ((kpL t rs j).length + 1 ≤ j)) (fun _ vj _ => rs.length - (intOf vj).toNat)
    case atStart => exact ⟨i + 1, by omega, by omega, by go_num, by rw [E0.out], F1, T1, S1, K1, LK⟩
    case round =>
      clear F1 T1 S1 K1 LK E0
      obtain ⟨j, hj1, hj2, rfl, rfl, F, T, S, K, LK⟩ := hrel
      by_cases hlt : j < rs.length
      · obtain ⟨r, hr⟩ : ∃ r, rs[j]? = some r := ⟨_, List.getElem?_eq_getElem hlt⟩
        have hc := S.out j r (Nat.le_refl _) hr
        have x0 : wr.cell? ⟨g, j * 8, none⟩ = some (.int .i64 r.place) := hc 0 _ rfl
        have x1 : wr.cell? ⟨g, j * 8 + 1, none⟩ = some (.int .i64 r.loc) := hc 1 _ rfl
        have x2 : wr.cell? ⟨g, j * 8 + 2, none⟩ = some (.int .i64 r.hops) := hc 2 _ rfl
        have x3 : wr.cell? ⟨g, j * 8 + 3, none⟩ = some (.int .i64 r.origin) := hc 3 _ rfl
        have x4 : wr.cell? ⟨g, j * 8 + 4, none⟩ = some (.int .i64 r.first) := hc 4 _ rfl
        have x5 : wr.cell? ⟨g, j * 8 + 5, none⟩ = some (.int .i64 r.med) := hc 5 _ rfl
        have x6 : wr.cell? ⟨g, j * 8 + 6, none⟩ = some (.int .u32 r.id) := hc 6 _ rfl
        have x7 : wr.cell? ⟨g, j * 8 + 7, none⟩ = some (.int .i64 r.peer) := hc 7 _ rfl
        have TC := Lib.hid (K.out.cell HT.out NG.out)
        have ST := Lib.hid (kpL_step t hr)
        have j0 : (0 : Int) ≤ (j : Int) := by omega
        have j1 : (j : Int) < (rs.length : Int) := by omega
        have GL : Hid (g < wr.heap.size) := Lib.hid (size_lt x0)
        clear hc hr
        go_upto_region 8 with (fail)
        obtain ⟨W4, hW4, q4, hb4, -⟩ := boxK wr r
        rw [← hW4]
        clear hW4 x0 x1 x2 x3 x4 x5 x6 x7
        have F4 := Lib.hid (F.out.below hb4)
        have T4 := Lib.hid (there_below T.out hb4)
        have S4 : Hid (∀ (q : Nat) (x : Rk), j ≤ q → rs[q]? = some x → W4.rangeAt g (q * 8) (rkL x)) := Lib.hid (fun q x h1 h2 k v hv => cell_below (S.out q x h1 h2 k v hv) hb4)
        have K4 := Lib.hid (K.out.trans (Kept.of_below hb4))
        have TC4 := Lib.hid (cell_below TC.out hb4)
        have NB : Hid (wr.heap.size ≠ g) := Lib.hid (by have := GL.out; omega)
        have Q4 := Lib.hid q4
        obtain ⟨y0, y1, y2, y3, y4, y5, y6, y7⟩ := rk_row q4
        clear q4 hb4 F T S K TC GL
        generalize wr.heap.size = rb at Q4 NB y0 y1 y2 y3 y4 y5 y6 y7 ⊢
        go_wp2_with fail
        refine (DL.out r _ TC4.out).mono ?_
        rintro e w5 ⟨rfl, hb5⟩
        have F5 := Lib.hid (F4.out.below hb5)
        have T5 := Lib.hid (there_below T4.out hb5)
        have S5 : Hid (∀ (q : Nat) (x : Rk), j ≤ q → rs[q]? = some x → w5.rangeAt g (q * 8) (rkL x)) := Lib.hid (fun q x h1 h2 k v hv => cell_below (S4.out q x h1 h2 k v hv) hb5)
        have K5 := Lib.hid (K4.out.trans (Kept.of_below hb5))
        have Q5 := Lib.hid ((hb5.block _ (row_lt Q4.out)).trans Q4.out)
        clear hb5 F4 T4 S4 K4 TC4 Q4 y0 y1 y2 y3 y4 y5 y6 y7
        obtain ⟨y0, y1, y2, y3, y4, y5, y6, y7⟩ := rk_row Q5.out
        by_cases hp : (r.place == t) = true
        · have ST2 : Hid (kpL t rs (j + 1) = kpL t rs j) := Lib.hid (by rw [ST.out]; unfold keepP; rw [hp]; simp)
          have LK2 : Hid ((kpL t rs (j + 1)).length + 1 ≤ j + 1) := Lib.hid (by rw [ST2.out]; have := LK.out; omega)
          rw [← ST2.out] at F5
          have EV : Hid (Value.int .i64 ((kpL t rs j).length : Nat) = .int .i64 ((kpL t rs (j + 1)).length : Nat)) := Lib.hid (by rw [ST2.out])
          have S6 : Hid (∀ (q : Nat) (x : Rk), j + 1 ≤ q → rs[q]? = some x → w5.rangeAt g (q * 8) (rkL x)) := Lib.hid (fun q x h1 h2 => S5.out q x (by omega) h2)
          clear ST ST2 S5 LK
          go_wp2_with fail
          exact ⟨⟨j + 1, by omega, by omega, by go_num, EV.out, F5, T5, S6, K5, LK2⟩, by simp [intOf]; omega⟩
        · have hp2 : (r.place == t) = false := by simpa using hp
          have ST2 : Hid (kpL t rs (j + 1) = kpL t rs j ++ [r]) := Lib.hid (by rw [ST.out]; unfold keepP; rw [hp2]; rfl)
          have LK2 : Hid ((kpL t rs (j + 1)).length + 1 ≤ j + 1) := Lib.hid (by rw [ST2.out, List.length_append]; have := LK.out; simp; omega)
          have lk := LK.out
          have EV : Hid (Value.int .i64 ((kpL t rs j).length + 1 : Nat) = .int .i64 ((kpL t rs (j + 1)).length : Nat)) := Lib.hid (by rw [ST2.out, List.length_append]; rfl)
          have Fss := Lib.hid (Filled.set (C := rkL) rkL_len F5.out T5.out (show (kpL t rs j).length < n by omega) r)
          have S6 : Hid (∀ (q : Nat) (x : Rk), j + 1 ≤ q → rs[q]? = some x → (w5.setCells g ((kpL t rs j).length * 8) (rkL r)).rangeAt g (q * 8) (rkL x)) := Lib.hid (fun q x h1 h2 => World.rangeAt_setCells_apart (S5.out q x (by omega) h2) _ _ _ (.inr (.inr (by show _ + 8 ≤ _; omega))))
          rw [← ST2.out] at Fss
          clear ST ST2 S5 LK hp
          generalize hm : (kpL t rs j).length = m at *
          clear hm
          have m0 : (0 : Int) ≤ (m : Int) := by omega
          have m1 : (m : Int) < (rs.length : Int) := by omega
          go_wp2_with (with_reducible refine halt_at (X := .store 200 (.tmp 33) (.tmp 32)) ?_ ?_; (· rfl))
          unfold Halt
          refine wpList_store_mid rfl 200 (.tmp 33) (.tmp 32) rfl g (m * 8) (rkA r) rfl rfl (there_part T5.out (show m < n by omega)) (by kernel_rfl) (rk_one _) ?_
          have K6 := Lib.hid (K5.out.trans (kept_cells (F := fun b => b = g) rfl (rkL r) (m * 8) w5))
          obtain ⟨W6, hW6⟩ : ∃ W6, W6 = w5.setCells g (m * 8) (rkL r) := ⟨_, rfl⟩
          have hW7 : w5.setCells g (m * 8) (rkA r).toList = W6 := hW6.symm
          rw [hW7]
          rw [← hW6] at Fss S6 K6
          clear hW6 hW7 K5 T5 F5 Q5 y0 y1 y2 y3 y4 y5 y6 y7 lk
          go_wp2_with fail
          exact ⟨⟨j + 1, by omega, by omega, by go_num, EV.out, Lib.hid Fss.out.1, Lib.hid Fss.out.2, S6, K6, LK2⟩, by simp [intOf]; omega⟩
      · obtain rfl : j = rs.length := by omega
        have EF : Hid (kpL t rs rs.length = rs.filter (keepP t)) := Lib.hid (by unfold kpL; rw [List.take_length])
        have lk := LK.out
        rw [EF.out] at F LK lk
        rw [EF.out]
        clear EF S hlt LK
        generalize hm : (rs.filter (keepP t)).length = m at *
        have m0 : (0 : Int) ≤ (m : Int) := by omega
        have m1 : (m : Int) ≤ (rs.length : Int) := by omega
        obtain ⟨L, hL, hcl⟩ := run_clear_ranks wr g (m * 8) (rs.length - m) (n - m) (by omega) (fun q hq => there_from T.out (show m ≤ n by omega) q (by omega))
        have K6 := Lib.hid (K.out.trans (kept_cells (F := fun b => b = g) rfl L (m * 8) wr))
        have R6 : Hid (RkRow (wr.setCells g (m * 8) L) g n (rs.filter (keepP t))) := Lib.hid ⟨fun q x hx => World.rangeAt_setCells_apart (F.out q x hx) _ _ _ (.inr (.inl (by
          have := (List.getElem?_eq_some_iff.1 hx).1
          show q * 8 + 8 ≤ m * 8
          omega))), World.there_setCells T.out _ _ _⟩
        clear hL F T K
        go_wp2_with (simp only [hcl])
        go_ret
        exact ⟨by rw [hm]; rfl, R6.out, K6.out⟩
end Go.Proofs.YtkoidahgbbabiaaGreat
/-
  CHOOSE: Order: all, the best first.
-/
namespace Go.Proofs.YtkoidahgbbabiaaGreat
open Go.RowKit
theorem own_type {w : World} {B k n rb : Nat} {e T : TypeId} {v : Value} {xs : List Value} {C : Array Value} {fr : Nat × Nat} (h : w.ownsRow B e k v n xs) (q : w.heap[rb]? = some (.cells C T fr)) (hne : T ≠ e) : v.ownBlock ≠ some rb := by
  obtain ⟨_, ⟨rfl, _⟩ | ⟨g, cap, cur, rfl, _, hg, _⟩⟩ := h
  · intro h; cases h
  · intro h'
    cases h'
    rw [hg] at q
    injection q with q
    injection q with _ q _
    exact hne q.symm
def leftOf (R : List Rk) (gone : List Int) : List Rk := R.filter fun r => !gone.contains r.place
structure OrdSt (R left : List Rk) (out : List Int) : Prop where
  eq : left = leftOf R out
  len : left.length + out.length = R.length
  best : ∀ (p : Nat) (k : Int), out[p]? = some k → ∃ r, r.place = k ∧ IsBest (leftOf R (out.take p)) r
theorem OrdSt.init (R : List Rk) : OrdSt R R [] := ⟨(List.filter_eq_self.2 fun _ _ => rfl).symm, by simp, fun p k h => by simp at h⟩
theorem filter_one {T : Rk} : ∀ {l : List Rk}, l.Pairwise (fun a b => a.place ≠ b.place) → T ∈ l → (l.filter (keepP T.place)).length + 1 = l.length
  | [], _, h => by simp at h
  | x :: l, hp, h => by
    obtain ⟨h1, h2⟩ := List.pairwise_cons.1 hp
    rcases List.mem_cons.1 h with rfl | h
    · rw [List.filter_cons_of_neg (by unfold keepP; simp), List.filter_eq_self.2 (fun y hy => by unfold keepP; have := h1 y hy; simpa using fun e => this e.symm)]
      rfl
    · rw [List.filter_cons_of_pos (by unfold keepP; simpa using h1 T h), List.length_cons, filter_one h2 h]
      rfl
theorem left_snoc (R : List Rk) (out : List Int) (t : Int) : leftOf R (out ++ [t]) = (leftOf R out).filter (keepP t) := by
  unfold leftOf
  rw [List.filter_filter]
  congr 1
  funext r
  unfold keepP
  rw [Bool.and_comm]
  by_cases h : r.place = t <;> simp [h]
theorem OrdSt.step {R rs : List Rk} {r : Rk} {out : List Int} (hR : R.Pairwise (fun a b => a.place ≠ b.place)) (h : OrdSt R (r :: rs) out) :
    OrdSt R ((r :: rs).filter (keepP (bestR r rs).place)) (out ++ [(bestR r rs).place]) := by
  have hb := best_spec r rs
  have h1 := h.eq
  have hp : (r :: rs).Pairwise (fun a b => a.place ≠ b.place) := by rw [h1]; exact hR.filter _
  have hl := filter_one hp hb.mem
  refine ⟨by rw [left_snoc, ← h1], by have := h.len; rw [List.length_append]; simp only [List.length_cons, List.length_nil] at *; omega, fun p k hk => ?_⟩
  by_cases hlt : p < out.length
  · rw [List.getElem?_append_left hlt] at hk
    rw [List.take_append_of_le_length (by omega)]
    exact h.best p k hk
  · rw [List.getElem?_append_right (by omega)] at hk
    have e : p = out.length := by
      have := (List.getElem?_eq_some_iff.1 hk).1
      simp at this; omega
    subst e
    simp at hk
    rw [List.take_left]
    exact ⟨_, hk, h1 ▸ hb⟩
theorem rks_apart (xs : List Cd) : (rksOf xs).Pairwise (fun a b => a.place ≠ b.place) := by
  rw [List.pairwise_iff_getElem]
  intro i j hi hj hij
  unfold rksOf at *
  simp only [List.getElem_mapIdx]
  show (i : Int) ≠ (j : Int)
  omega
theorem RkRow.belowB {w w' : World} {B g n : Nat} {rs : List Rk} (h : RkRow w g n rs) (hb : Below B w w') (hg : g < B) : RkRow w' g n rs := by
  refine ⟨fun i x hx j v hv => ?_, fun j hj => ?_⟩
  · rw [hb.cell hg]; exact h.1 i x hx j v hv
  · obtain ⟨h1, h2⟩ := h.2 j hj
    exact ⟨by rw [hb.cell hg]; exact h1, (hb.frozen (p := ⟨g, 0 + j, none⟩) hg).trans h2⟩
theorem RkRow.rks {w : World} {g n : Nat} {rs : List Rk} (h : RkRow w g n rs) (hl : rs.length ≤ n) (hm : n ≤ maxLen) : RksAt w (.slice (some ⟨g, 0, none⟩) rs.length n) rs :=
  ⟨_, _, rfl, hl, hm, fun _ => ⟨g, 0, rfl, fun i x hx => ⟨rkL x, rfl, rfl, fun j c hc => by rw [Nat.zero_add]; exact h.1 i x hx j c hc⟩⟩⟩
theorem own_kept {F : Nat → Prop} {w w' : World} {B k : Nat} {e : TypeId} {n : Nat} {v : Value} {xs : List Value} (h : w.ownsRow B e k v n xs) (hk : Kept F w w') (hne : ∀ g, v.ownBlock = some g → ¬ F g) : w'.ownsRow B e k v n xs := by
  obtain ⟨h1, h2⟩ := h
  refine ⟨h1, h2.imp_right ?_⟩
  rintro ⟨g, cap, cur, h3, h4, h5, h6⟩
  exact ⟨g, cap, cur, h3, h4, (hk.block g (row_lt h5) (hne g (by rw [h3]; rfl))).trans h5, h6⟩
theorem Kept.on {F : Nat → Prop} {a b c : World} (h : Kept F a b) (k : Below a.heap.size b c) : Kept F a c :=
  ⟨k.os.trans h.os, k.tape.trans h.tape, k.output.trans h.output, Nat.le_trans h.size k.size, fun i hi hf => (k.block i hi).trans (h.block i hi hf)⟩
theorem own_nil {w : World} {B k : Nat} {e : TypeId} : w.ownsRow B e k (.slice none 0 0) 0 [] := ⟨by simp, .inl ⟨rfl, rfl⟩⟩
def sliceLen : Value → Nat | .slice _ n _ => n | _ => 0
def OrderPost (w : World) (R : List Rk) (e : Ending) (w' : World) : Prop := ∃ v' out, e = .returned v' ∧ OrdSt R [] out ∧ SlAt w' 1 (fun x cs => cs = intL x) v' out ∧ Below w.heap.size w w'
set_option maxHeartbeats 6400000 in
set_option maxRecDepth 100000 in
theorem ch_Order (v : Value) (xs : List Cd) (w : World) (h : CdsAt w v xs) (hn : xs.length ≤ 100000) (hh : ∀ c ∈ xs, hopsN c.a.path ≤ 4611686018427387904) : Calls Tryz.prog 74 #[v] w (OrderPost w (rksOf xs)) := by
  obtain ⟨i0, hii, hz0, hz1, hz2⟩ := info_parts info_int
  have RK := Lib.hid (ch_ranks v xs w h hn hh)
  have FI := Lib.hid (cds_first h)
  have HF : Hid (∀ q ∈ rksOf xs, I64r q.first) := Lib.hid (fun q hq => by
    obtain ⟨i, d, hi, rfl⟩ := rksOf_mem.1 hq
    exact FI.out d (List.mem_of_getElem? hi))
  have HL := Lib.hid (rksOf_len xs)
  have AP := Lib.hid (rks_apart xs)
  have I0 := Lib.hid (OrdSt.init (rksOf xs))
  generalize rksOf xs = R at RK HF HL AP I0 ⊢
  generalize xs.length = n at hn RK HL
  clear h hh FI
  have n0 : ((n : Int) > 0) ∨ n = 0 := by omega
  go_enter Tryz.func74, Tryz.ntmps74
  go_wp2_with fail
  refine RK.out.mono ?_
  rintro e w1 ⟨g, rfl, R1, hg, hb1⟩
  by_cases hz : n = 0
  · subst hz
    have e0 : R = [] := List.length_eq_zero_iff.1 HL.out
    subst e0
    clear RK R1
    go_wp2_with fail
    go_loopw [3, 4] (fun vl vo wr => vl = .slice (some ⟨g, 0, none⟩) 0 0 ∧ vo = .slice none 0 0 ∧ wr = w1) (fun _ _ _ => 0)
    case atStart => exact ⟨rfl, rfl, rfl⟩
    case round =>
      obtain ⟨rfl, rfl, rfl⟩ := hrel
      go_wp2_with fail
      go_ret
      exact ⟨_, [], rfl, I0.out, SlAt.nil, hb1⟩
  · have GL : Hid (g < w1.heap.size) := Lib.hid (by
      obtain ⟨h1, _⟩ := R1.2 0 (by omega)
      obtain ⟨u, hu⟩ := Option.isSome_iff_exists.1 h1
      exact size_lt hu)
    have R1 := Lib.hid R1
    have B1 := Lib.hid hb1
    have GG := Lib.hid hg
    clear RK hb1 hg n0
    go_wp2_with fail
    go_loopw [3, 4] (fun vl vo wr => ∃ left out, vl = .slice (some ⟨g, 0, none⟩) left.length n ∧ left.length ≤ n ∧ out.length ≤ n ∧ Hid (OrdSt R left out) ∧ Hid (RkRow wr g n left) ∧ Hid (wr.ownsRow w1.heap.size 3 1 vo out.length (out.flatMap intL)) ∧ Hid (Kept (fun b => b = g) w1 wr)) (fun vl _ _ => sliceLen vl)
    case atStart => exact ⟨R, [], by rw [HL.out], by rw [HL.out]; omega, by simp, I0, R1, Lib.hid own_nil, Lib.hid (Kept.refl _ _)⟩
    case round =>
      clear I0 R1
      obtain ⟨left, out, rfl, hl1, hl2, OS, RR, O, K⟩ := hrel
      cases left with
      | nil =>
        have SL := Lib.hid (own_slat (C := intL) (xs := out) intL_len O.out)
        have BB := Lib.hid (B1.out.trans (K.out.below B1.out.size (fun k hk => by rw [hk]; exact GG.out)))
        clear RR O K
        go_wp2_with fail
        go_ret
        exact ⟨_, out, rfl, OS.out, SL.out, BB.out⟩
      | cons r rs =>
        have hlr : rs.length ≤ 100000 := by simp only [List.length_cons] at hl1; omega
        have OK : ∀ q ∈ r :: rs, I64r q.first := fun q hq => by
          rw [OS.out.eq] at hq
          exact HF.out q (List.mem_filter.1 hq).1
        have BE := Lib.hid (ch_best _ r rs wr (RR.out.rks hl1 (by unfold maxLen; omega)) hlr OK (left_ne r rs))
        have OS2 := Lib.hid (OS.out.step AP.out)
        have T1 : (bestR r rs) ∈ r :: rs := (best_spec r rs).mem
        have HD := Lib.hid (fun tb W R ht hne => ch_Delete g n (r :: rs) tb (bestR r rs).place W R hl1 hn ht hne)
        have HL2 : Hid (((r :: rs).filter (keepP (bestR r rs).place)).length + 1 = (r :: rs).length) := Lib.hid (by
          have a := OS2.out.len
          have b := OS.out.len
          rw [List.length_append] at a
          simp only [List.length_cons, List.length_nil] at *; omega)
        have OL : Hid (out.length + 1 ≤ n) := Lib.hid (by
          have b := OS.out.len
          have := HL.out
          simp only [List.length_cons] at b; omega)
        generalize (r :: rs).filter (keepP (bestR r rs).place) = lf at OS2 HD HL2
        generalize bestR r rs = T at BE OS2 HD
        have m0 : (((r :: rs).length : Nat) : Int) > 0 := by simp only [List.length_cons]; omega
        generalize hm : (r :: rs).length = m at *
        clear OK T1 OS hlr
        go_wp2_with fail
        refine BE.out.mono ?_
        rintro e w2 ⟨rfl, hb2⟩
        have RR2 := Lib.hid (RR.out.below hb2)
        have O2 := Lib.hid (own_below O.out hb2)
        have K2 := Lib.hid (K.out.trans (Kept.of_below hb2))
        clear BE hb2 RR O K
        go_upto_region 5 with (fail)
        obtain ⟨W4, hW4, q4, hb4, hs4⟩ := boxK w2 T
        rw [← hW4]
        clear hW4
        have NB : Hid (w2.heap.size ≠ g) := Lib.hid (by have := GL.out; have := K2.out.size; omega)
        have GE : Hid (w1.heap.size ≤ w2.heap.size) := Lib.hid K2.out.size
        have RR4 := Lib.hid (RR2.out.below hb4)
        have O4 := Lib.hid (own_below O2.out hb4)
        have K4 := Lib.hid (K2.out.trans (Kept.of_below hb4))
        have Q4 := Lib.hid q4
        have OB := Lib.hid (own_type O4.out q4 (by decide))
        obtain ⟨x0, -⟩ := rk_row q4
        have X4 := Lib.hid x0
        clear q4 hb4 hs4 RR2 O2 K2
        generalize w2.heap.size = tb at Q4 NB GE OB X4 x0 ⊢
        go_wp2_with (at_builtin; refine wpList_append_own_at _ rfl _ _ 39 rfl w1.heap.size 3 i0 _ 1 8 Tryz.underlying39 hii hz0 hz1 hz2 rfl (by decide) _ out.length (out.flatMap intL) rfl (O4.out.alloc _) ⟨W4.heap.size, 0, none⟩ 1 1 (intL T.place) rfl ?ar1 ?br1 ?cr1 ?dr1 ?er1 ?fr1 ?_)
        case ar1 => rfl
        case br1 => exact new_cells _ _ _
        case cr1 => intro u hu; simp at hu; subst hu; rfl
        case dr1 => have := OL.out; unfold maxLen; omega
        case er1 => have := OL.out; omega
        case fr1 => have := K4.out.size; simp; omega
        intro v' w5 hown hgrow _ _
        have O5 : Hid (w5.ownsRow w1.heap.size 3 1 v' (out ++ [T.place]).length ((out ++ [T.place]).flatMap intL)) := Lib.hid (by
          rw [List.length_append, flat_snoc]
          exact hown)
        have B5 : Below w1.heap.size W4 w5 := ((Below.refl _ _).alloc K4.out.size _).grown hgrow (by have := K4.out.size; simp; omega) (own_form_le O4.out)
        have RR5 := Lib.hid (RR4.out.belowB B5 GL.out)
        have K5 := Lib.hid (K4.out.on B5)
        have tl : tb < W4.heap.size := row_lt Q4.out
        have X5 : w5.cell? ⟨tb, 0, none⟩ = some (.int .i64 T.place) := by
          rw [World.cell?_of_block (hgrow.block tb (by simp; omega) (Ne.symm OB.out))]
          exact cell_below X4.out ((Below.refl _ _).alloc (Nat.le_refl _) _)
        have HD2 := Lib.hid (HD.out tb w5 RR5.out X5 NB.out)
        clear hown hgrow B5 tl X5 X4 x0 Q4 RR4 O4 K4 OB HD RR5
        go_wp2_with fail
        refine HD2.out.mono ?_
        rintro e w6 ⟨rfl, RR6, K6⟩
        have O6 := Lib.hid (own_kept O5.out K6 (fun j hj hjg => by
          have a := own_form_le O5.out j hj
          have b := GL.out
          omega))
        have K7 := Lib.hid (K5.out.trans K6)
        have RR6 := Lib.hid RR6
        clear HD2 O5 K5 K6
        go_wp2_with fail
        exact ⟨⟨lf, out ++ [T.place], rfl, by have := HL2.out; omega, by rw [List.length_append]; exact OL.out, OS2, RR6, O6, K7⟩, by have := HL2.out; unfold sliceLen; simp only; omega⟩
end Go.Proofs.YtkoidahgbbabiaaGreat
/-
  THE SERVER: all routes to a prefix that may be a receiver's, the best first.
-/
namespace Go.Proofs.YtkoidahgbbabiaaGreat
open Go.RowKit
theorem said_cs {W : World} {rho : Nat → Role} {sb fb : Nat} {ls : List Pl} {S : Sv} (h : SrvM W rho sb fb ls S) {p : Pf} {xs : List CV} (hx : xs.map (·.c) = saidS S.ms p) : (∀ x ∈ xs, OkC x.c) ∧ (∀ x ∈ xs, ∃ j : Nat, j < 16 ∧ x.c.peer = (j : Int)) ∧ xs.length ≤ 16 := by
  have hm : ∀ x ∈ xs, x.c ∈ saidS S.ms p := fun x hm => by rw [← hx]; exact List.mem_map.2 ⟨x, hm, rfl⟩
  refine ⟨fun x hxm => h.saidOk _ (hm x hxm), fun x hxm => ?_, ?_⟩
  · obtain ⟨k, m, b, hk, -, e⟩ := saidS_mem (hm x hxm)
    have := (List.getElem?_eq_some_iff.1 hk).1
    have := h.bod.few
    exact ⟨k, by omega, by rw [e]; rfl⟩
  · have h1 := congrArg List.length hx
    rw [List.length_map] at h1
    rw [h1]
    exact Nat.le_trans (saidS_len ..) h.bod.few
theorem said_net {S : Sv} {p : Pf} {xs : List CV} (hp : OkP p) (hx : xs.map (·.c) = saidS S.ms p) : ∀ x ∈ xs, (x.c.na : Int) = p.1 ∧ x.c.nl = p.2 := fun x hm => by
  have h1 : x.c ∈ saidS S.ms p := by rw [← hx]; exact List.mem_map.2 ⟨x, hm, rfl⟩
  obtain ⟨k, m, b, hk, -, e⟩ := saidS_mem h1
  rw [e]
  exact ⟨Int.toNat_of_nonneg hp.1, rfl⟩
theorem ord_perm {l : List Cd} {ord : List Int} (h : OrdSt (rksOf l) [] ord) : ord.Perm ((List.range l.length).map fun (i : Nat) => (i : Int)) := by
  have hlen : ord.length = l.length := by
    have := h.len
    rw [rksOf_len] at this
    simpa using this
  have hin : ∀ (p : Nat) (k : Int), ord[p]? = some k → ∃ i : Nat, i < l.length ∧ k = (i : Int) ∧ k ∉ ord.take p := fun p k hk => by
    obtain ⟨r, rfl, hb⟩ := h.best p k hk
    have hm := hb.mem
    unfold leftOf at hm
    obtain ⟨h1, h2⟩ := List.mem_filter.1 hm
    obtain ⟨i, c, hi, rfl⟩ := rksOf_mem.1 h1
    refine ⟨i, (List.getElem?_eq_some_iff.1 hi).1, rfl, ?_⟩
    simpa using h2
  have hnd : ord.Nodup := by
    rw [List.nodup_iff_pairwise_ne, List.pairwise_iff_getElem]
    intro i j hi hj hij e
    obtain ⟨-, -, -, h4⟩ := hin j ord[j] (List.getElem?_eq_getElem hj)
    apply h4
    rw [← e]
    exact List.mem_take_iff_getElem.2 ⟨i, by omega, rfl⟩
  refine perm_len _ _ hnd (fun k hk => ?_) (by simp [hlen])
  obtain ⟨p, hp⟩ := List.getElem?_of_mem hk
  obtain ⟨i, h1, h2, -⟩ := hin p k hp
  exact List.mem_map.2 ⟨i, List.mem_range.2 h1, h2.symm⟩
theorem ord_first {l : List Cd} {ord : List Int} (h : OrdSt (rksOf l) [] ord) {k : Int} (hk : ord[0]? = some k) : bestI l = k := by
  obtain ⟨r, rfl, hb⟩ := h.best 0 k hk
  have e : leftOf (rksOf l) (ord.take 0) = rksOf l := by
    unfold leftOf
    rw [List.filter_eq_self]
    intro x _
    simp
  rw [e] at hb
  obtain ⟨i, c, hi, rfl⟩ := rksOf_mem.1 hb.mem
  exact bestI_of hi hb
def pickCV (ys : List CV) (p : Pf) (k : Int) : BE := match ys[k.toNat]? with | some y => ⟨y.c.peer, p, y.c.a, y.v⟩ | none => ⟨0, p, ⟨0, 0, [], 0, 0, 0, 0, 0, [], []⟩, av0⟩
def beC (x : BE) : Int × At := (x.peer, x.a)
theorem pick_perm {ys : List CV} {p : Pf} {ord : List Int} (h : ord.Perm ((List.range ys.length).map fun (i : Nat) => (i : Int))) : ((ord.map (pickCV ys p)).map beC).Perm (ys.map fun y => (y.c.peer, y.c.a)) := by
  have h1 := (h.map (pickCV ys p)).map beC
  refine h1.trans ?_
  rw [List.map_map, List.map_map]
  have : (List.range ys.length).map (beC ∘ pickCV ys p ∘ fun (i : Nat) => (i : Int)) = ys.map fun y => (y.c.peer, y.c.a) := by
    apply List.ext_getElem?
    intro i
    rw [List.getElem?_map, List.getElem?_map]
    by_cases hi : i < ys.length
    · rw [List.getElem?_range hi, List.getElem?_eq_getElem hi]
      simp [pickCV, beC, hi]
    · rw [List.getElem?_eq_none (by simpa using hi), List.getElem?_eq_none (by omega)]
      rfl
  show (List.map (beC ∘ pickCV ys p ∘ fun (i : Nat) => (i : Int)) (List.range ys.length)).Perm _
  rw [this]
abbrev OwnOf := OwnR 61 13 beL (fun x W => AvAt W x.a x.v)
def OffersPost (l : List Cd) (p : Pf) (W : World) (e : Ending) (w' : World) : Prop :=
  ∃ (s : Option Addr) (c : Nat) (L : List BE) (A : Nat → Prop), e = .returned (.slice s L.length c) ∧ OwnOf w' W.heap.size (.slice s L.length c) L A ∧ (L.map beC).Perm (l.map fun c => (c.peer, c.a)) ∧ (∀ x ∈ L, x.p = p) ∧ (∀ x, L[0]? = some x → pickB l = some (x.peer, x.a)) ∧ Below W.heap.size W w'
section
variable {W : World} {rho : Nat → Role} {sb fb : Nat} {ls : List Pl} {S : Sv}
theorem iL_at {w : World} {s : Option Addr} {n c : Nat} {xs : List Int} (h : SlAt w 1 (fun x cs => cs = intL x) (.slice s n c) xs) {i : Nat} {x : Int} (hx : xs[i]? = some x) : ∃ g o, s = some ⟨g, o, none⟩ ∧ w.cell? ⟨g, o + i, none⟩ = some (.int .i64 x) := by
  obtain ⟨s', c', e, h1, h2, h3⟩ := h
  injection e with e _ _
  subst e
  have hi := (List.getElem?_eq_some_iff.1 hx).1
  obtain ⟨b, off, rfl, h4⟩ := h3 (by omega)
  obtain ⟨cs, -, rfl, hc⟩ := h4 i x hx
  have := hc 0 _ rfl
  rw [Nat.mul_one] at this
  exact ⟨b, off, rfl, this⟩
set_option maxHeartbeats 6400000 in
set_option maxRecDepth 100000 in
theorem sv_Offers (h : SrvM W rho sb fb ls S) {i : Nat} {m : Pm} (hm : S.ms[i]? = some m) (p : Pf) (hp : KOk p) :
    Calls Tryz.prog 30 #[.pointer (some ⟨sb, 0, none⟩), .int .i64 i, .agg #[.int .u32 p.1, .int .i64 p.2]] W (OffersPost (offS S.own S.bl S.ms i p) p W) := by
  obtain ⟨l, hl, hM⟩ := h.get hm
  have HS := Lib.hid h
  have HM := Lib.hid hm
  have HP := Lib.hid hp
  have MB := Lib.hid (fun w' (hb : Below W.heap.size W w') => sv_member (h.below hb) hl)
  have AS : Hid (asOf S.ms i = m.as_) := Lib.hid (by unfold asOf; rw [hm]; rfl)
  obtain ⟨i0, hii, hz0, hz1, hz2⟩ := info_parts info_rtB
  clear h hm hl hM hp
  go_enter Tryz.func30, Tryz.ntmps30
  go_upto_region 1 with (fail)
  obtain ⟨W0, hW0, c0, c1, hB⟩ := box2 W (.int .u32 p.1) (.int .i64 p.2) 53
  rw [← hW0]
  obtain ⟨pb, hpb⟩ : ∃ pb, pb = W.heap.size := ⟨_, rfl⟩
  rw [← hpb] at c0 c1 ⊢
  have B0 := Lib.hid hB
  have HS0 := Lib.hid (HS.out.below hB)
  have SD := Lib.hid (sv_said HS0.out p HP.out.1)
  clear hW0 hB hpb
  go_wp2_with fail
  refine (MB.out _ B0.out).mono ?_
  rintro e w1 ⟨rfl, rfl⟩
  go_wp2_with fail
  refine SD.out.mono ?_
  rintro e w2 ⟨sx, cx, xs, A, rfl, ox, xe, hb2⟩
  have HS2 := Lib.hid (HS0.out.below hb2)
  have AC := Lib.hid (said_cs HS2.out xe)
  have XE := Lib.hid xe
  have XO := Lib.hid ox
  have B2 := Lib.hid (below_on B0.out hb2)
  have OF := Lib.hid (sv_offered HS2.out HM.out (.slice sx xs.length cx) xs ox.at AC.out.2.1 AC.out.2.2)
  clear ox xe hb2 SD c0 c1 HS0 MB
  go_wp2_with fail
  refine OF.out.mono ?_
  rintro e w3 ⟨so, co, rfl, fo, hb3⟩
  obtain ⟨ys, hys⟩ : ∃ ys, goL S.own S.bl i m.as_ xs = ys := ⟨_, rfl⟩
  rw [hys] at fo ⊢
  have YE : Hid (ys.map (·.c) = offS S.own S.bl S.ms i p) := Lib.hid (by
    rw [← hys, goL_c]
    unfold offS
    rw [AS.out, ← XE.out])
  have YM : Hid (∀ y ∈ ys, y ∈ xs) := Lib.hid (by rw [← hys]; intro y hy; exact (List.mem_filter.1 hy).1)
  have YL : Hid (ys.length ≤ 16) := Lib.hid (by rw [← hys]; exact Nat.le_trans (List.length_filter_le ..) AC.out.2.2)
  have X3 := Lib.hid (XO.out.below hb3)
  have CY : Hid (CvsAt w3 (.slice so ys.length co) ys) := Lib.hid ⟨fo.self, fun y hy => X3.out.mem.self y (YM.out y hy)⟩
  have OKY : Hid (∀ y ∈ ys, OkC y.c) := Lib.hid fun y hy => AC.out.1 y (YM.out y hy)
  have B3 := Lib.hid (below_on B2.out hb3)
  have OD := Lib.hid (ch_Order (.slice so ys.length co) (ys.map (·.c)) w3 (CY.out.cds OKY.out) (by rw [List.length_map]; have := YL.out; omega) (fun c hc => by
    obtain ⟨y, hy, rfl⟩ := List.mem_map.1 hc
    exact (OKY.out y hy).2.2.2.2.hops))
  clear fo hys hb3 OF XO HS2
  go_wp2_with fail
  refine OD.out.mono ?_
  rintro e w4 ⟨vo, ord, rfl, os, oi, hb4⟩
  obtain ⟨si, ci, rfl, oil, -⟩ := id oi
  have OP := Lib.hid (ord_perm os)
  have OS1 := Lib.hid os
  have OI := Lib.hid oi
  have B4 := Lib.hid (below_on B3.out hb4)
  have X4 := Lib.hid (X3.out.below hb4)
  have CY4 := Lib.hid (CY.out.below hb4)
  have OL : Hid (ord.length = ys.length) := Lib.hid (by have := OP.out.length_eq; simpa using this)
  have ol : ord.length ≤ 16 := by rw [OL.out]; exact YL.out
  have A4 : Hid (∀ k, A k → k < w4.heap.size) := Lib.hid (fun k hk => (X4.out.lt k hk).2)
  clear os oi oil hb4 OD X3 CY B3
  have O0 : Hid (w4.ownsRow w4.heap.size 61 13 (.slice none 0 0) 0 (((ord.take 0).map (pickCV ys p)).flatMap beL)) := Lib.hid ⟨by simp, .inl ⟨rfl, rfl⟩⟩
  go_wp2_with fail
  go_loopw [24, 8] (fun t24 t8 wr => ∃ (j : Nat) (s : Option Addr) (c : Nat), j ≤ ord.length ∧ t24 = .int .i64 j ∧ t8 = .slice s j c ∧ Hid (wr.ownsRow w4.heap.size 61 13 (.slice s j c) j (((ord.take j).map (pickCV ys p)).flatMap beL)) ∧ Hid (Below w4.heap.size w4 wr)) (fun t24 _ _ => ord.length - (intOf t24).toNat)
  case atStart => exact ⟨0, none, 0, by omega, rfl, rfl, O0, Lib.hid (Below.refl _ _)⟩
  case round =>
    clear O0
    obtain ⟨j, s, c, hj, rfl, rfl, OW, BV⟩ := hrel
    by_cases hjl : j < ord.length
    · obtain ⟨k, hk⟩ : ∃ k, ord[j]? = some k := ⟨_, List.getElem?_eq_getElem hjl⟩
      obtain ⟨q, hq, rfl⟩ : ∃ q : Nat, q < ys.length ∧ k = (q : Int) := by
        have := OP.out.mem_iff.1 (List.mem_of_getElem? hk)
        obtain ⟨q, hq, rfl⟩ := List.mem_map.1 this
        exact ⟨q, by simpa using hq, rfl⟩
      obtain ⟨y, hy⟩ : ∃ y, ys[q]? = some y := ⟨_, List.getElem?_eq_getElem hq⟩
      obtain ⟨gi, oi, rfl, ci0⟩ := iL_at (SlAt.below OI.out BV.out fun _ _ h => h) hk
      obtain ⟨gy, oy, rfl, hr, -⟩ := cvs_at (CY4.out.below BV.out) hy
      have RR := Lib.hid (cv_rt hr (said_net HP.out.1 XE.out y (YM.out y (List.mem_of_getElem? hy))).1 (said_net HP.out.1 XE.out y (YM.out y (List.mem_of_getElem? hy))).2)
      have PK : Hid (pickCV ys p (q : Int) = ⟨y.c.peer, p, y.c.a, y.v⟩) := Lib.hid (by unfold pickCV; rw [Int.toNat_natCast, hy])
      have TK : Hid (ord.take (j + 1) = ord.take j ++ [(q : Int)]) := Lib.hid (take_snoc hk)
      have j0 : (0 : Int) ≤ (j : Int) := by omega
      have j1 : (j : Int) < (ord.length : Int) := by omega
      have q0 : (0 : Int) ≤ (q : Int) := by omega
      have q1 : (q : Int) < (ys.length : Int) := by omega
      clear hk hy hr hq
      go_wp2_with ((with_reducible refine halt_at (X := .load 61 (.tmp 32)) ?_ ?_); (· rfl))
      unfold Halt
      refine ldm_at (by rfl) 61 (.tmp 32) rfl gy (oy + q * 14) rfl (rtC y.c.peer p y.v).toList _ RR.out Tryz.underlying61 rfl sz_rt ?_
      go_wp2_with ((with_reducible refine wpList_rt1 (.tmp 33) rfl ?_ y.c.peer p y.v ?_ ?_); (· rfl); (· rfl))
      intro w7 hc7 hb7 hz7
      have O7 := Lib.hid (own_below OW.out hb7)
      have BV7 := Lib.hid (below_on BV.out hb7)
      clear hb7 hz7 BV OW RR
      refine wpList_append_own_at _ rfl (.tmp 28) (.tmp 34) 57 rfl w4.heap.size 61 i0 _ 13 152 Tryz.underlying57 hii hz0 hz1 hz2 rfl (by decide) (.slice s j c) j (((ord.take j).map (pickCV ys p)).flatMap beL) rfl O7.out ⟨wr.heap.size, 0, none⟩ 1 1 (rtC y.c.peer p y.v).toList rfl rfl (fun j y hy => by have h := hc7 j y hy; unfold Addr.add; split; (· rename_i e; subst e; exact h); (· simpa using h)) (beL_one ⟨y.c.peer, p, y.c.a, y.v⟩) (by unfold maxLen; omega) (by omega) BV7.out.size ?_
      intro v8 w8 h2 h3 _ hat
      obtain ⟨s8, c8, hv8, -⟩ := own_form h2
      subst hv8
      have O8 : Hid (w8.ownsRow w4.heap.size 61 13 (.slice s8 (j + 1) c8) (j + 1) (((ord.take (j + 1)).map (pickCV ys p)).flatMap beL)) := Lib.hid (by
        rw [TK.out, List.map_append, List.flatMap_append]
        have e : ([(q : Int)].map (pickCV ys p)).flatMap beL = (rtC y.c.peer p y.v).toList := by
          rw [List.map_cons, List.map_nil, PK.out]; rfl
        rw [e]
        exact h2)
      have BV8 := Lib.hid (BV7.out.trans ((kept_gr h3).below BV7.out.size fun g hg => own_form_le O7.out g hg))
      clear h2 h3 hat hc7 O7 BV7
      go_wp2_with fail
      exact ⟨⟨j + 1, s8, c8, by omega, by go_num, rfl, O8, BV8⟩, by simp [intOf]; omega⟩
    · obtain rfl : j = ord.length := by omega
      have FIN : Hid (OffersPost (offS S.own S.bl S.ms i p) p W (.returned (.slice s ord.length c)) wr) := Lib.hid (by
        have hw := OW.out
        rw [List.take_length] at hw
        have el : (ord.map (pickCV ys p)).length = ord.length := List.length_map ..
        have hmm : ∀ x ∈ ord.map (pickCV ys p), ∃ y ∈ ys, x = ⟨y.c.peer, p, y.c.a, y.v⟩ := fun x hx => by
          obtain ⟨k, hk, rfl⟩ := List.mem_map.1 hx
          obtain ⟨q, hq, rfl⟩ := List.mem_map.1 (OP.out.mem_iff.1 hk)
          have hq : q < ys.length := by simpa using hq
          exact ⟨ys[q], List.getElem_mem hq, by unfold pickCV; rw [Int.toNat_natCast, List.getElem?_eq_getElem hq]⟩
        refine ⟨s, c, ord.map (pickCV ys p), A, by rw [el], ⟨?_, ?_, fun k hk => ⟨Nat.le_trans B0.out.size (X4.out.lt k hk).1, Nat.lt_of_lt_of_le (A4.out k hk) BV.out.size⟩, fun g hg hA => ?_⟩, ?_, fun x hx => ?_, fun x hx => ?_, below_on B4.out BV.out⟩
        · rw [el]; exact own_base hw B4.out.size
        · refine (X4.out.mem.below BV.out).imp fun V hV x hx => ?_
          obtain ⟨y, hy, rfl⟩ := hmm x hx
          exact hV y (YM.out y hy)
        · rw [el] at hg
          have h1 := own_form_le hw g hg
          have h2 := A4.out g hA
          omega
        · have := pick_perm (p := p) (by have h1 := OP.out; simpa only [List.length_map] using h1)
          rw [← YE.out, List.map_map (l := ys)]
          exact this
        · obtain ⟨y, -, rfl⟩ := hmm x hx
          rfl
        · rw [List.getElem?_map] at hx
          cases hk : ord[0]? with
          | none => rw [hk] at hx; simp at hx
          | some k =>
            rw [hk] at hx; simp at hx
            have hb := ord_first OS1.out hk
            obtain ⟨q, hq, rfl⟩ := List.mem_map.1 (OP.out.mem_iff.1 (List.mem_of_getElem? hk))
            have hq : q < ys.length := by simpa using hq
            have hy : ys[q]? = some ys[q] := List.getElem?_eq_getElem hq
            rw [← YE.out]
            unfold pickB
            rw [hb, if_neg (by omega), Int.toNat_natCast, List.getElem?_map, hy]
            rw [← hx]
            unfold pickCV
            rw [Int.toNat_natCast, hy]
            rfl)
      clear OW BV
      go_wp2_with fail
      go_ret
      exact FIN.out
end
end Go.Proofs.YtkoidahgbbabiaaGreat
