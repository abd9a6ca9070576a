/- Texts of one proof, one behind another. -/
import Derived.Test.YtohkbcdnlmjcjaaDoorWr10
/-
  ATTRIBUTES: readPath.
-/
namespace Go.Proofs.YtohkbcdnlmjcjaaDoor
open Go.RowKit

set_option maxRecDepth 100000 in
theorem sizeByte : ∀ w, (sizeOf 5).run Tryd.prog w = .ok 1 w := Tryd.sizeOf5
set_option maxRecDepth 100000 in
theorem one_i {n : Int} : ∀ u ∈ [Value.int .i64 n], u.oneCell' = true := by
  intro u hu
  rw [List.mem_singleton.1 hu]; rfl
set_option maxRecDepth 100000 in
theorem one_sg {c : Bool} {s : Option Addr} {n k : Nat} : ∀ u ∈ [Value.bool c, .slice s n k], u.oneCell' = true := by
  intro u hu
  simp only [List.mem_cons, List.not_mem_nil, or_false] at hu
  rcases hu with rfl | rfl <;> rfl
set_option maxRecDepth 100000 in
theorem int_one_k {W : World} {q : World → Prop} {r : Int} (h : ∀ w1 : World, (∀ (j : Nat) (c : Value), [Value.int .i64 r][j]? = some c → w1.cell? ((⟨W.heap.size, 0, none⟩ : Addr).add j) = some c) → Below W.heap.size W w1 → q w1) : q (W.alloc (.cells #[.int .i64 r] 3)) :=
  h _ (new_cells W _ _) ((Below.refl _ _).alloc (Nat.le_refl _) _)
def RdPost (xs : List Nat) (w : World) (e : Ending) (w' : World) : Prop :=
  (match rdPath xs with
    | none => e = .returned (.tuple #[.slice none 0 0, .bool false])
    | some p => ∃ v L, L.map (·.1) = p ∧ e = .returned (.tuple #[v, .bool (pathB p)]) ∧ PathOwn w' w.heap.size v L) ∧ Below w.heap.size w w'
set_option maxHeartbeats 12800000 in
set_option maxRecDepth 100000 in
theorem at_readPath (v : Value) (xs : List Nat) (w : World) (h : BytesAt w v xs) (hx : xs.length ≤ 1048576) : Calls Tryd.prog 67 #[v] w (RdPost xs w) := by
  obtain ⟨i0, hii, hz0, hz1, hz2⟩ := info_parts info_seg
  obtain ⟨ti, hji, hy0, hy1, hy2⟩ := info_parts info_intT
  have HX := Lib.hid hx
  have BR := Lib.hid (bytes_lt h)
  have H := Lib.hid h
  obtain ⟨sa0, cap0, rfl, -⟩ := h
  clear hx
  go_enter Tryd.func67, Tryd.ntmps67
  go_wp2_with fail
  go_loopw [0, 4] (fun v0 v4 wr => ∃ (ys : List Nat) (L : List SgV) (sa : Option Addr) (cap : Nat), v0 = .slice sa ys.length cap ∧ Hid (BytesAt w (.slice sa ys.length cap) ys) ∧ Hid (rdPath xs = (rdPath ys).map (L.map (·.1) ++ ·)) ∧ Hid (PathOwn wr w.heap.size v4 L) ∧ Hid (Below w.heap.size w wr) ∧ Hid (ys.length + 2 * L.length ≤ xs.length) ∧ Hid (∀ y ∈ ys, y < 256)) (fun v0 _ _ => lenOf v0)
  case atStart => exact ⟨xs, [], sa0, cap0, rfl, H, Lib.hid (by cases rdPath xs <;> simp), Lib.hid (pathOwn_nil _ _), Lib.hid (Below.refl _ _), Lib.hid (by simp), BR⟩
  case round =>
    obtain ⟨ys, L, sa, cap, rfl, HY, RP, PO, B, LN, YR⟩ := hrel
    clear H BR
    match ys, HY, RP, LN, YR with
    | [], HY, RP, LN, YR =>
      have R1 : Hid (rdPath xs = some (L.map (·.1))) := Lib.hid (by rw [RP.out, rdPath_nil]; simp)
      have GP := Lib.hid (at_goodPath u4 _ wr PO.out.at)
      clear RP HY LN YR
      go_wp2_with fail
      refine GP.out.mono ?_
      rintro e w1 ⟨rfl, hb1⟩
      have P1 := Lib.hid (PO.out.below hb1)
      have B1 := Lib.hid (below_on B.out hb1)
      clear GP hb1 PO B
      go_wp2_with fail
      refine bodyPost_ret (v := .tuple #[u4, .bool (pathB (L.map (·.1)))]) (by simp [results, Tryd.results67, go_sem]) rfl ⟨?_, B1.out⟩
      rw [R1.out]
      exact ⟨u4, L, rfl, rfl, P1.out⟩
    | [y], HY, RP, LN, YR =>
      have R1 : Hid (rdPath xs = none) := Lib.hid (by rw [RP.out, rdPath_one]; rfl)
      clear RP HY LN YR
      simp only [List.length_cons, List.length_nil]
      go_wp2_with fail
      refine bodyPost_ret (v := .tuple #[.slice none 0 0, .bool false]) (by simp [results, Tryd.results67, go_sem]) rfl ⟨?_, B.out⟩
      rw [R1.out]
    | k :: n :: l, HY, RP, LN, YR =>
      have K256 : k < 256 := YR.out k (by simp)
      have N256 : n < 256 := YR.out n (by simp)
      have LR : Hid (∀ y ∈ l, y < 256) := Lib.hid (fun y hy => YR.out y (by simp [hy]))
      have RT := Lib.hid (rdPath_two k n l)
      have PT := Lib.hid (part_two k n l)
      have DT := Lib.hid (drop_two k n l)
      have DR : Hid (∀ y ∈ l.drop (2 * n), y < 256) := Lib.hid (fun y hy => LR.out y (List.mem_of_mem_drop hy))
      obtain ⟨ys, hys⟩ : ∃ ys, k :: n :: l = ys := ⟨_, rfl⟩
      have YL : ys.length = l.length + 2 := by rw [← hys]; simp
      have YK : ys[0]? = some k := by rw [← hys]; rfl
      have YN : ys[1]? = some n := by rw [← hys]; rfl
      rw [hys] at HY RP LN RT PT DT ⊢
      clear hys YR
      obtain ⟨sa', cap', e1, hlc, hcm, hV⟩ := id HY.out
      injection e1 with e1 _ e3
      subst e1; subst e3
      obtain ⟨b, off, rfl, hP⟩ := hV (by omega)
      obtain ⟨cs0, -, ⟨rfl, -⟩, hc0⟩ := hP 0 k YK
      obtain ⟨cs1, -, ⟨rfl, -⟩, hc1⟩ := hP 1 n YN
      have x0 := cell_below (hc0 0 _ rfl) B.out
      have x1 := cell_below (hc1 0 _ rfl) B.out
      simp only [Nat.zero_mul, Nat.add_zero, Nat.one_mul] at x0 x1
      unfold maxLen at hcm
      have m0 : (ys.length : Int) > 0 := by omega
      have m2 : ¬ (ys.length : Int) < 2 := by omega
      have m1 : (1 : Int) < (ys.length : Int) := by omega
      have nn : (n : Int) ≤ 255 := by omega
      have nz : (0 : Int) ≤ (n : Int) := by omega
      have SL := Lib.hid YL
      have LNX := LN.out
      have XB := HX.out
      clear hP hV YK YN hc0 hc1
      by_cases hk1 : k = 1
      rotate_left 1
      by_cases hk2 : k = 2
      rotate_left 1
      · have R1 : Hid (rdPath xs = none) := Lib.hid (by rw [RP.out, RT.out, if_neg (by omega)]; rfl)
        have q1 : ((k : Int) != 1) = true := by simp; omega
        have q2 : ((k : Int) != 2) = true := by simp; omega
        have q3 : ¬ (k : Int) = 1 := by omega
        have q4 : ¬ (k : Int) = 2 := by omega
        clear RT RP YL LNX XB
        go_wp2_with fail
        refine bodyPost_ret (v := .tuple #[.slice none 0 0, .bool false]) (by simp [results, Tryd.results67, go_sem]) rfl ⟨?_, B.out⟩
        rw [R1.out]
      · replace x0 : wr.cell? ⟨b, off, none⟩ = some (.int .u8 1) := by rw [x0, hk1]; rfl
        by_cases hlt : l.length < 2 * n
        · have R1 : Hid (rdPath xs = none) := Lib.hid (by rw [RP.out, RT.out, if_pos (by omega), if_pos hlt]; rfl)
          have e1 : (ys.length : Int) < 2 + 2 * (n : Int) := by omega
          clear RT RP YL LNX XB hlt hk1
          go_wp2_with fail
          refine bodyPost_ret (v := .tuple #[.slice none 0 0, .bool false]) (by simp [results, Tryd.results67, go_sem]) rfl ⟨?_, B.out⟩
          rw [R1.out]
        · have R1 : Hid (rdPath xs = (rdPath (l.drop (2 * n))).map ((L.map (·.1) ++ [(true, prN l n)]) ++ ·)) := Lib.hid (by
            rw [RP.out, RT.out, if_pos (by omega), if_neg hlt, hk1]
            cases rdPath (l.drop (2 * n)) <;> simp)
          have e1 : ¬ (ys.length : Int) < 2 + 2 * (n : Int) := by omega
          have NL : Hid (2 * n ≤ l.length) := Lib.hid (by omega)
          clear RT RP YL hlt hk1
          have d0 : decide (0 < ys.length) = true := by simp; omega
          go_upto_region 9 with (fail)
          obtain ⟨wq, hwq⟩ : ∃ wq : World, wq = wr := ⟨_, rfl⟩
          subst hwq
          obtain ⟨wk, hwk, qk, hbk, -⟩ := box1 wq #[.bool true, .slice none 0 0] 32
          rw [← hwk]
          have QK := Lib.hid qk
          have BK := Lib.hid hbk
          clear hwk qk hbk x0 x1
          go_wp2_with fail
          go_loopw [7] (fun t7 wi => ∃ (j : Nat) (u : Value), j ≤ n ∧ t7 = .int .i64 (2 + 2 * (j : Int)) ∧ Hid (wi.heap[wq.heap.size]? = some (.cells #[.bool true, u] 32 (0, 0))) ∧ Hid (wi.ownsRow (wq.heap.size + 1) 3 1 u j ((prN l j).flatMap i64L)) ∧ Hid (Below wq.heap.size wq wi)) (fun t7 _ => n - ((intOf t7 - 2) / 2).toNat)
          case atStart => exact ⟨0, .slice none 0 0, by omega, rfl, QK, Lib.hid ⟨rfl, .inl ⟨rfl, rfl⟩⟩, BK⟩
          case round =>
            clear QK BK
            obtain ⟨j, u, hj, rfl, QI, OI, BI⟩ := hrel
            by_cases hjn : j < n
            · have j0 : (0 : Int) ≤ (j : Int) := by omega
              have j1 : 2 + 2 * (j : Int) < 2 + 2 * (n : Int) := by omega
              have j2 : (j : Int) ≤ 254 := by omega
              have j3 : IntKind.i64.wrap (2 + 2 * (j : Int) + 2) = 2 + 2 * (j : Int) + 2 := IntWalk.i64_in _ (by omega)
              obtain ⟨pt, hpt⟩ : ∃ pt, (l.take (2 * j + 2)).drop (2 * j) = pt := ⟨_, rfl⟩
              have PS := prN_succ l j
              have RB := readN_two LR.out j
              have SP := slat_part HY.out (l := 2 + 2 * j) (k := 2 + 2 * j + 2) (by omega) (by have := SL.out; have := NL.out; omega)
              rw [PT.out, hpt] at SP
              rw [hpt] at PS RB
              have PL : pt.length ≤ 4 := by rw [← hpt, List.length_drop, List.length_take]; omega
              obtain ⟨s2, c2, hs2, -, -, BS⟩ := SP
              have RS := Lib.hid (fun W => (run_sub (P := Tryd.prog) (ty := 38) Tryd.underlying38 sizeByte (some ⟨b, off, none⟩) ys.length cap (2 + 2 * j) (2 + 2 * j + 2) (by omega) (by have := SL.out; have := NL.out; omega) .i64 .i64 W).trans (by rw [hs2]))
              have e8 : ((2 + 2 * j : Nat) : Int) = 2 + 2 * (j : Int) := by omega
              have e9 : ((2 + 2 * j + 2 : Nat) : Int) = 2 + 2 * (j : Int) + 2 := by omega
              rw [e8, e9] at RS
              have BSH := Lib.hid BS
              have BW := Lib.hid (below_on B.out BI.out)
              have RD := Lib.hid (fun W (hb : Below w.heap.size w W) => at_read _ pt W (BytesAt.below BSH.out hb) PL)
              have R5 := Lib.hid RB
              have PSH := Lib.hid PS
              obtain ⟨r, hr⟩ : ∃ r, readN pt = r := ⟨_, rfl⟩
              rw [hr] at RD R5 PSH
              have NE := Lib.hid (fun g (h : u.ownBlock = some g) => (⟨own_form_le OI.out g h, own_lt OI.out g h⟩ : wq.heap.size + 1 ≤ g ∧ g < wr.heap.size))
              have SGL := Lib.hid (row_lt QI.out)
              have y1 : (World.drew wr).cell? ⟨wq.heap.size, 1, none⟩ = some u := row_cell QI.out 1
              have hBW : Below w.heap.size w (World.drew wr) := BW.out.drew
              have hBR : Below wr.heap.size wr (World.drew wr) := (Below.refl _ _).drew
              clear hpt PS RB PL BS hs2 e8 e9 hr
              go_upto_region 12 with (fail)
              refine wp_region_held_drew (S := fun w' => Kept (fun k => k = wq.heap.size ∨ u.ownBlock = some k) wr w') (by kernel_rfl) ?_ (fun hHeld => ?_)
              · exact (Kept.refl _ _).drew
              generalize World.drew wr = wd at y1 hBW hBR hHeld ⊢
              refine rgy (i := 0) (v := ?_) (atN rfl) (by kernel_rfl) (fun _ _ _ h => h) ?_ ?_ hHeld ?_; rotate_left 1; (· rfl); (· intro w' hSw; (try clear hHeld); go_simp; try with_reducible rfl)
              try simp only [Act.put, List.setIfInBounds_toArray, List.set_cons_zero, List.set_cons_succ]
              refine rgy (i := 2) (v := ?_) (atN rfl) (by kernel_rfl) (fun _ _ _ h => h) ?_ ?_ hHeld ?_; rotate_left 1; (· rfl); (· intro w' hSw; (try clear hHeld); go_simp; try with_reducible rfl)
              try simp only [Act.put, List.setIfInBounds_toArray, List.set_cons_zero, List.set_cons_succ]
              refine rgy (i := 3) (v := ?_) (atN rfl) (by kernel_rfl) (fun _ _ _ h => h) ?_ ?_ hHeld ?_; rotate_left 1; (· rfl); (· intro w' hSw; (try clear hHeld); go_simp; try with_reducible rfl)
              try simp only [Act.put, List.setIfInBounds_toArray, List.set_cons_zero, List.set_cons_succ]
              refine rgy (i := 4) (v := ?_) (atN rfl) (by kernel_rfl) (fun _ _ _ h => h) ?_ ?_ hHeld ?_; rotate_left 1; (· rfl); (· intro w' hSw; (try clear hHeld); go_simp; try with_reducible rfl)
              try simp only [Act.put, List.setIfInBounds_toArray, List.set_cons_zero, List.set_cons_succ]
              refine rgy (i := 5) (v := ?_) (atN rfl) (by kernel_rfl) (fun _ _ _ h => h) ?_ ?_ hHeld ?_; rotate_left 1; (· rfl); (· intro w' hSw; (try clear hHeld); go_simp; try with_reducible rfl)
              try simp only [Act.put, List.setIfInBounds_toArray, List.set_cons_zero, List.set_cons_succ]
              refine rgy (i := 6) (v := ?_) (atN rfl) (by kernel_rfl) (fun _ _ _ h => h) ?_ ?_ hHeld ?_; rotate_left 1; (· rfl); (· intro w' hSw; refine exec_slc (V := .slice s2 pt.length c2) 38 (.tmp 48) (some (.tmp 49)) (some (.tmp 51)) ?_ (RS.out _) ?_ ?_ ?_ <;> rfl)
              try simp only [Act.put, List.setIfInBounds_toArray, List.set_cons_zero, List.set_cons_succ]
              refine rg_call2 (i := 1) (j := 7) (atS at0) (atS (atS (atS (atS (atS (atS (atS at0))))))) (by kernel_rfl) ?_ ?_ (fun K hK => ?_) (fun K hK => ?_)
              · rfl
              · rfl
              · (try clear hb); go_simp; go_wp2_with fail; refine hK.out _ _ ?_ (fun hHeld => ?_); (· exact hHeld); clear hK K
                try simp only [Act.put, List.setIfInBounds_toArray, List.set_cons_zero, List.set_cons_succ]
                refine rg_call (i := 7) (atN rfl) (by kernel_rfl) ?_ (fun K hK => ?_); (· rfl); (try clear hb); go_simp; (refine (RD.out _ hBW).mono ?_; rintro e w1 ⟨rfl, rfl⟩); go_wp2_with fail; refine hK.out _ _ ?_ (fun hHeld => ?_); (· exact hHeld); clear hK K
                try simp only [Act.put, List.setIfInBounds_toArray, List.set_cons_zero, List.set_cons_succ]
                refine rg_call (i := 8) (atN rfl) (by kernel_rfl) ?_ (fun K hK => ?_); (· rfl); (try clear hb); go_simp; refine int_one_k (r := (r : Int)) (q := K _) ?_; intro w2 hcs hb2; have y1 := cell_below y1 hb2; have HB2 : Hid (Below wr.heap.size wr w2) := Lib.hid (below_on hBR hb2); refine hK.out _ _ ?_ (fun hHeld => ?_); (· exact hHeld.trans (Kept.of_below hb2)); clear hK K
                try simp only [Act.put, List.setIfInBounds_toArray, List.set_cons_zero, List.set_cons_succ]
                refine rg_call (i := 9) (atN rfl) (by kernel_rfl) ?_ (fun K hK => ?_); (· rfl); (try clear hb); refine wp_append_k (.tmp 47) (.tmp 54) 25 rfl (wq.heap.size + 1) 3 ti _ 1 8 Tryd.underlying25 hji hy0 hy1 hy2 rfl (by decide) u j ((prN l j).flatMap i64L) rfl (own_below OI.out HB2.out) ⟨wd.heap.size, 0, none⟩ 1 1 [.int .i64 r] rfl rfl hcs one_i (by unfold maxLen; omega) (by omega) (Nat.le_trans SGL.out HB2.out.size) ?_; intro v7 w7 hown7 hgrow7 hblk7; have QX := (HB2.out.block _ SGL.out).trans QI.out; have Q7 := Lib.hid (((kept_grownB hgrow7).block _ (row_lt QX) (fun h => by have := (NE.out _ h).1; omega)).trans QX); have y7 : w7.cell? ⟨wq.heap.size, 1, none⟩ = some u := row_cell Q7.out 1; have f7 := row_free Q7.out 1; have K7 := Lib.hid ((kept_grownB hgrow7).imp (G := fun k => k = wq.heap.size ∨ u.ownBlock = some k) fun b hb => .inr hb); have O7 : Hid (w7.ownsRow (wq.heap.size + 1) 3 1 v7 (j + 1) ((prN l (j + 1)).flatMap i64L)) := Lib.hid (by rw [PSH.out, List.flatMap_append]; exact hown7); obtain ⟨s7, c7, hv7, -⟩ := own_form hown7; subst hv7; clear hown7 hgrow7 hblk7 QX; refine hK.out _ _ ?_ (fun hHeld => ?_); (· exact hHeld.trans K7.out); clear hK K
                try simp only [Act.put, List.setIfInBounds_toArray, List.set_cons_zero, List.set_cons_succ]
                refine rgy (i := 10) (v := ?_) (atN rfl) (by kernel_rfl) (fun _ _ _ h => h) ?_ ?_ hHeld ?_; rotate_left 1; (· rfl); (· intro w' hSw; (try clear hHeld); go_simp; try with_reducible rfl)
                try simp only [Act.put, List.setIfInBounds_toArray, List.set_cons_zero, List.set_cons_succ]
                refine rg_call (i := 11) (atN rfl) (by kernel_rfl) ?_ (fun K hK => ?_); (· rfl); (try clear hb); go_simp; go_wp2_with fail; refine hK.out _ _ ?_ (fun hHeld => ?_); (· exact hHeld.trans (Kept.setCell _ _ (.inl rfl))); clear hK K
                try simp only [Act.put]
                refine wpAnyH_done (by kernel_rfl) ?_ _
                obtain ⟨w8, hw8⟩ : ∃ w8, w8 = w7.setCell ⟨wq.heap.size, 1, none⟩ (.slice s7 (j + 1) c7) := ⟨_, rfl⟩
                rw [← hw8] at hHeld ⊢
                have Q8 : Hid (w8.heap[wq.heap.size]? = some (.cells #[.bool true, .slice s7 (j + 1) c7] 32 (0, 0))) := Lib.hid (by rw [hw8]; simpa using set_same Q7.out 1 (.slice s7 (j + 1) c7))
                have O8 : Hid (w8.ownsRow (wq.heap.size + 1) 3 1 (.slice s7 (j + 1) c7) (j + 1) ((prN l (j + 1)).flatMap i64L)) := Lib.hid (own_kept (F := fun k => k = wq.heap.size) O7.out (by rw [hw8]; exact Kept.setCell _ _ rfl) (fun g hg h => by have := own_form_le O7.out g hg; omega))
                have B8 := Lib.hid (BI.out.trans (hHeld.below BI.out.size (fun k hk => by rcases hk with hk | hk; exact Nat.le_of_eq hk.symm; have := (NE.out _ hk).1; omega)))
                clear hw8 hHeld Q7 O7 K7 y7 f7 QI OI BI NE y1 HB2 hcs hb2 hBW hBR
                go_wp2_with fail
                exact ⟨⟨j + 1, .slice s7 (j + 1) c7, by omega, by go_num, Q8, O8, B8⟩, by simp [intOf]; omega⟩
              · (try clear hb); go_simp; (refine (RD.out _ hBW).mono ?_; rintro e w1 ⟨rfl, rfl⟩); go_wp2_with fail; refine hK.out _ _ ?_ (fun hHeld => ?_); (· exact hHeld); clear hK K
                try simp only [Act.put, List.setIfInBounds_toArray, List.set_cons_zero, List.set_cons_succ]
                refine rg_call2 (i := 1) (j := 8) (atS at0) (atS (atS (atS (atS (atS (atS (atS (atS at0)))))))) (by kernel_rfl) ?_ ?_ (fun K hK => ?_) (fun K hK => ?_)
                · rfl
                · rfl
                · (try clear hb); go_simp; go_wp2_with fail; refine hK.out _ _ ?_ (fun hHeld => ?_); (· exact hHeld); clear hK K
                  try simp only [Act.put, List.setIfInBounds_toArray, List.set_cons_zero, List.set_cons_succ]
                  refine rg_call (i := 8) (atN rfl) (by kernel_rfl) ?_ (fun K hK => ?_); (· rfl); (try clear hb); go_simp; refine int_one_k (r := (r : Int)) (q := K _) ?_; intro w2 hcs hb2; have y1 := cell_below y1 hb2; have HB2 : Hid (Below wr.heap.size wr w2) := Lib.hid (below_on hBR hb2); refine hK.out _ _ ?_ (fun hHeld => ?_); (· exact hHeld.trans (Kept.of_below hb2)); clear hK K
                  try simp only [Act.put, List.setIfInBounds_toArray, List.set_cons_zero, List.set_cons_succ]
                  refine rg_call (i := 9) (atN rfl) (by kernel_rfl) ?_ (fun K hK => ?_); (· rfl); (try clear hb); refine wp_append_k (.tmp 47) (.tmp 54) 25 rfl (wq.heap.size + 1) 3 ti _ 1 8 Tryd.underlying25 hji hy0 hy1 hy2 rfl (by decide) u j ((prN l j).flatMap i64L) rfl (own_below OI.out HB2.out) ⟨wd.heap.size, 0, none⟩ 1 1 [.int .i64 r] rfl rfl hcs one_i (by unfold maxLen; omega) (by omega) (Nat.le_trans SGL.out HB2.out.size) ?_; intro v7 w7 hown7 hgrow7 hblk7; have QX := (HB2.out.block _ SGL.out).trans QI.out; have Q7 := Lib.hid (((kept_grownB hgrow7).block _ (row_lt QX) (fun h => by have := (NE.out _ h).1; omega)).trans QX); have y7 : w7.cell? ⟨wq.heap.size, 1, none⟩ = some u := row_cell Q7.out 1; have f7 := row_free Q7.out 1; have K7 := Lib.hid ((kept_grownB hgrow7).imp (G := fun k => k = wq.heap.size ∨ u.ownBlock = some k) fun b hb => .inr hb); have O7 : Hid (w7.ownsRow (wq.heap.size + 1) 3 1 v7 (j + 1) ((prN l (j + 1)).flatMap i64L)) := Lib.hid (by rw [PSH.out, List.flatMap_append]; exact hown7); obtain ⟨s7, c7, hv7, -⟩ := own_form hown7; subst hv7; clear hown7 hgrow7 hblk7 QX; refine hK.out _ _ ?_ (fun hHeld => ?_); (· exact hHeld.trans K7.out); clear hK K
                  try simp only [Act.put, List.setIfInBounds_toArray, List.set_cons_zero, List.set_cons_succ]
                  refine rgy (i := 10) (v := ?_) (atN rfl) (by kernel_rfl) (fun _ _ _ h => h) ?_ ?_ hHeld ?_; rotate_left 1; (· rfl); (· intro w' hSw; (try clear hHeld); go_simp; try with_reducible rfl)
                  try simp only [Act.put, List.setIfInBounds_toArray, List.set_cons_zero, List.set_cons_succ]
                  refine rg_call (i := 11) (atN rfl) (by kernel_rfl) ?_ (fun K hK => ?_); (· rfl); (try clear hb); go_simp; go_wp2_with fail; refine hK.out _ _ ?_ (fun hHeld => ?_); (· exact hHeld.trans (Kept.setCell _ _ (.inl rfl))); clear hK K
                  try simp only [Act.put]
                  refine wpAnyH_done (by kernel_rfl) ?_ _
                  obtain ⟨w8, hw8⟩ : ∃ w8, w8 = w7.setCell ⟨wq.heap.size, 1, none⟩ (.slice s7 (j + 1) c7) := ⟨_, rfl⟩
                  rw [← hw8] at hHeld ⊢
                  have Q8 : Hid (w8.heap[wq.heap.size]? = some (.cells #[.bool true, .slice s7 (j + 1) c7] 32 (0, 0))) := Lib.hid (by rw [hw8]; simpa using set_same Q7.out 1 (.slice s7 (j + 1) c7))
                  have O8 : Hid (w8.ownsRow (wq.heap.size + 1) 3 1 (.slice s7 (j + 1) c7) (j + 1) ((prN l (j + 1)).flatMap i64L)) := Lib.hid (own_kept (F := fun k => k = wq.heap.size) O7.out (by rw [hw8]; exact Kept.setCell _ _ rfl) (fun g hg h => by have := own_form_le O7.out g hg; omega))
                  have B8 := Lib.hid (BI.out.trans (hHeld.below BI.out.size (fun k hk => by rcases hk with hk | hk; exact Nat.le_of_eq hk.symm; have := (NE.out _ hk).1; omega)))
                  clear hw8 hHeld Q7 O7 K7 y7 f7 QI OI BI NE y1 HB2 hcs hb2 hBW hBR
                  go_wp2_with fail
                  exact ⟨⟨j + 1, .slice s7 (j + 1) c7, by omega, by go_num, Q8, O8, B8⟩, by simp [intOf]; omega⟩
                · (try clear hb); go_simp; refine int_one_k (r := (r : Int)) (q := K _) ?_; intro w2 hcs hb2; have y1 := cell_below y1 hb2; have HB2 : Hid (Below wr.heap.size wr w2) := Lib.hid (below_on hBR hb2); refine hK.out _ _ ?_ (fun hHeld => ?_); (· exact hHeld.trans (Kept.of_below hb2)); clear hK K
                  try simp only [Act.put, List.setIfInBounds_toArray, List.set_cons_zero, List.set_cons_succ]
                  refine rg_call (i := 1) (atN rfl) (by kernel_rfl) ?_ (fun K hK => ?_); (· rfl); (try clear hb); go_simp; go_wp2_with fail; refine hK.out _ _ ?_ (fun hHeld => ?_); (· exact hHeld); clear hK K
                  try simp only [Act.put, List.setIfInBounds_toArray, List.set_cons_zero, List.set_cons_succ]
                  refine rg_call (i := 9) (atN rfl) (by kernel_rfl) ?_ (fun K hK => ?_); (· rfl); (try clear hb); refine wp_append_k (.tmp 47) (.tmp 54) 25 rfl (wq.heap.size + 1) 3 ti _ 1 8 Tryd.underlying25 hji hy0 hy1 hy2 rfl (by decide) u j ((prN l j).flatMap i64L) rfl (own_below OI.out HB2.out) ⟨wd.heap.size, 0, none⟩ 1 1 [.int .i64 r] rfl rfl hcs one_i (by unfold maxLen; omega) (by omega) (Nat.le_trans SGL.out HB2.out.size) ?_; intro v7 w7 hown7 hgrow7 hblk7; have QX := (HB2.out.block _ SGL.out).trans QI.out; have Q7 := Lib.hid (((kept_grownB hgrow7).block _ (row_lt QX) (fun h => by have := (NE.out _ h).1; omega)).trans QX); have y7 : w7.cell? ⟨wq.heap.size, 1, none⟩ = some u := row_cell Q7.out 1; have f7 := row_free Q7.out 1; have K7 := Lib.hid ((kept_grownB hgrow7).imp (G := fun k => k = wq.heap.size ∨ u.ownBlock = some k) fun b hb => .inr hb); have O7 : Hid (w7.ownsRow (wq.heap.size + 1) 3 1 v7 (j + 1) ((prN l (j + 1)).flatMap i64L)) := Lib.hid (by rw [PSH.out, List.flatMap_append]; exact hown7); obtain ⟨s7, c7, hv7, -⟩ := own_form hown7; subst hv7; clear hown7 hgrow7 hblk7 QX; refine hK.out _ _ ?_ (fun hHeld => ?_); (· exact hHeld.trans K7.out); clear hK K
                  try simp only [Act.put, List.setIfInBounds_toArray, List.set_cons_zero, List.set_cons_succ]
                  refine rgy (i := 10) (v := ?_) (atN rfl) (by kernel_rfl) (fun _ _ _ h => h) ?_ ?_ hHeld ?_; rotate_left 1; (· rfl); (· intro w' hSw; (try clear hHeld); go_simp; try with_reducible rfl)
                  try simp only [Act.put, List.setIfInBounds_toArray, List.set_cons_zero, List.set_cons_succ]
                  refine rg_call (i := 11) (atN rfl) (by kernel_rfl) ?_ (fun K hK => ?_); (· rfl); (try clear hb); go_simp; go_wp2_with fail; refine hK.out _ _ ?_ (fun hHeld => ?_); (· exact hHeld.trans (Kept.setCell _ _ (.inl rfl))); clear hK K
                  try simp only [Act.put]
                  refine wpAnyH_done (by kernel_rfl) ?_ _
                  obtain ⟨w8, hw8⟩ : ∃ w8, w8 = w7.setCell ⟨wq.heap.size, 1, none⟩ (.slice s7 (j + 1) c7) := ⟨_, rfl⟩
                  rw [← hw8] at hHeld ⊢
                  have Q8 : Hid (w8.heap[wq.heap.size]? = some (.cells #[.bool true, .slice s7 (j + 1) c7] 32 (0, 0))) := Lib.hid (by rw [hw8]; simpa using set_same Q7.out 1 (.slice s7 (j + 1) c7))
                  have O8 : Hid (w8.ownsRow (wq.heap.size + 1) 3 1 (.slice s7 (j + 1) c7) (j + 1) ((prN l (j + 1)).flatMap i64L)) := Lib.hid (own_kept (F := fun k => k = wq.heap.size) O7.out (by rw [hw8]; exact Kept.setCell _ _ rfl) (fun g hg h => by have := own_form_le O7.out g hg; omega))
                  have B8 := Lib.hid (BI.out.trans (hHeld.below BI.out.size (fun k hk => by rcases hk with hk | hk; exact Nat.le_of_eq hk.symm; have := (NE.out _ hk).1; omega)))
                  clear hw8 hHeld Q7 O7 K7 y7 f7 QI OI BI NE y1 HB2 hcs hb2 hBW hBR
                  go_wp2_with fail
                  exact ⟨⟨j + 1, .slice s7 (j + 1) c7, by omega, by go_num, Q8, O8, B8⟩, by simp [intOf]; omega⟩
            · obtain rfl : j = n := by omega
              have OI2 := OI
              obtain ⟨su, cu, hu, -⟩ := own_form OI.out
              subst hu
              have BW := Lib.hid (below_on B.out BI.out)
              have POB := Lib.hid ((PO.out.below BI.out).below ((Below.refl wr.heap.size wr).alloc (Nat.le_refl _) (.cells #[.bool true, .slice su j cu] 32)))
              have OUB := Lib.hid (own_below (own_base OI.out (B' := w.heap.size) (by have := B.out.size; omega)) ((Below.refl wr.heap.size wr).alloc (Nat.le_refl _) (.cells #[.bool true, .slice su j cu] 32)))
              have c0 : wr.cell? ⟨wq.heap.size, 0, none⟩ = some (.bool true) := row_cell QI.out 0
              have c1 : wr.cell? ⟨wq.heap.size, 1, none⟩ = some (.slice su j cu) := row_cell QI.out 1
              have SP := slat_part HY.out (l := 2 + 2 * j) (k := ys.length) (by have := SL.out; have := NL.out; omega) (Nat.le_refl _)
              rw [List.take_length, DT.out] at SP
              obtain ⟨zs, hzs⟩ : ∃ zs, l.drop (2 * j) = zs := ⟨_, rfl⟩
              have ZL : Hid (zs.length + 2 = ys.length - 2 * j) := Lib.hid (by rw [← hzs, List.length_drop]; have := SL.out; have := NL.out; omega)
              rw [hzs] at SP R1 DR
              clear hzs
              obtain ⟨s3, c3, hs3, -, -, BS⟩ := SP
              have RS := Lib.hid (fun W => (run_subl (P := Tryd.prog) (ty := 38) Tryd.underlying38 sizeByte (some ⟨b, off, none⟩) ys.length cap (2 + 2 * j) (by have := SL.out; have := NL.out; omega) .i64 W).trans (by rw [hs3]))
              rw [show ((2 + 2 * j : Nat) : Int) = 2 + 2 * (j : Int) by omega] at RS
              have BSH := Lib.hid BS
              have WS := Lib.hid BW.out.size
              have PRNG := Lib.hid (prN_rng LR.out j)
              clear hs3 BS QI OI OI2 BI B PO hjn hj
              go_wp2_with (at_builtin; refine wpList_append_own_at _ rfl _ _ 22 rfl w.heap.size 32 i0 _ 2 32 Tryd.underlying22 hii hz0 hz1 hz2 rfl (by decide) u4 L.length (L.flatMap sgC) rfl POB.out.own ⟨wr.heap.size, 0, none⟩ 1 1 [.bool true, .slice su j cu] rfl rfl (new_cells wr _ _) one_sg (by unfold maxLen; omega) (by omega) (by have := WS.out; simp; omega) ?_)
              intro v7 w7 hown7 hgrow7 _ hblk7
              have P7 := Lib.hid (PathOwn.snoc (s := (true, prN l j)) POB.out (kept_grownB hgrow7) hown7 (by rw [prN_len]; exact OUB.out) (fun x hx => by have := PRNG.out x hx; unfold I64r; omega))
              have B7 := Lib.hid ((BW.out.alloc BW.out.size _).trans ((kept_grownB hgrow7).below (by have := BW.out.size; simp; omega) (own_form_le POB.out.own)))
              clear hown7 hgrow7 hblk7 POB OUB BW c0 c1
              go_wp2_with ((with_reducible refine halt_at (X := .slice 38 (.tmp 61) (some (.tmp 62)) none none) ?_ ?_); (· rfl))
              unfold Halt
              refine slc_at rfl 38 (.tmp 61) (some (.tmp 62)) none rfl (V := .slice s3 zs.length c3) (RS.out _) rfl rfl rfl ?_
              clear RS
              go_wp2_with fail
              refine ⟨⟨zs, _, s3, c3, rfl, BSH, Lib.hid (by rw [R1.out]; simp), P7, B7, Lib.hid (by have := ZL.out; simp; omega), DR⟩, ?_⟩
              have := ZL.out
              simp [lenOf]
              omega
      · replace x0 : wr.cell? ⟨b, off, none⟩ = some (.int .u8 2) := by rw [x0, hk2]; rfl
        by_cases hlt : l.length < 2 * n
        · have R1 : Hid (rdPath xs = none) := Lib.hid (by rw [RP.out, RT.out, if_pos (by omega), if_pos hlt]; rfl)
          have e1 : (ys.length : Int) < 2 + 2 * (n : Int) := by omega
          clear RT RP YL LNX XB hlt hk2
          go_wp2_with fail
          refine bodyPost_ret (v := .tuple #[.slice none 0 0, .bool false]) (by simp [results, Tryd.results67, go_sem]) rfl ⟨?_, B.out⟩
          rw [R1.out]
        · have R1 : Hid (rdPath xs = (rdPath (l.drop (2 * n))).map ((L.map (·.1) ++ [(false, prN l n)]) ++ ·)) := Lib.hid (by
            rw [RP.out, RT.out, if_pos (by omega), if_neg hlt, hk2]
            cases rdPath (l.drop (2 * n)) <;> simp)
          have e1 : ¬ (ys.length : Int) < 2 + 2 * (n : Int) := by omega
          have NL : Hid (2 * n ≤ l.length) := Lib.hid (by omega)
          clear RT RP YL hlt hk2
          have d0 : decide (0 < ys.length) = true := by simp; omega
          go_upto_region 9 with (fail)
          obtain ⟨wq, hwq⟩ : ∃ wq : World, wq = wr := ⟨_, rfl⟩
          subst hwq
          obtain ⟨wk, hwk, qk, hbk, -⟩ := box1 wq #[.bool false, .slice none 0 0] 32
          rw [← hwk]
          have QK := Lib.hid qk
          have BK := Lib.hid hbk
          clear hwk qk hbk x0 x1
          go_wp2_with fail
          go_loopw [7] (fun t7 wi => ∃ (j : Nat) (u : Value), j ≤ n ∧ t7 = .int .i64 (2 + 2 * (j : Int)) ∧ Hid (wi.heap[wq.heap.size]? = some (.cells #[.bool false, u] 32 (0, 0))) ∧ Hid (wi.ownsRow (wq.heap.size + 1) 3 1 u j ((prN l j).flatMap i64L)) ∧ Hid (Below wq.heap.size wq wi)) (fun t7 _ => n - ((intOf t7 - 2) / 2).toNat)
          case atStart => exact ⟨0, .slice none 0 0, by omega, rfl, QK, Lib.hid ⟨rfl, .inl ⟨rfl, rfl⟩⟩, BK⟩
          case round =>
            clear QK BK
            obtain ⟨j, u, hj, rfl, QI, OI, BI⟩ := hrel
            by_cases hjn : j < n
            · have j0 : (0 : Int) ≤ (j : Int) := by omega
              have j1 : 2 + 2 * (j : Int) < 2 + 2 * (n : Int) := by omega
              have j2 : (j : Int) ≤ 254 := by omega
              have j3 : IntKind.i64.wrap (2 + 2 * (j : Int) + 2) = 2 + 2 * (j : Int) + 2 := IntWalk.i64_in _ (by omega)
              obtain ⟨pt, hpt⟩ : ∃ pt, (l.take (2 * j + 2)).drop (2 * j) = pt := ⟨_, rfl⟩
              have PS := prN_succ l j
              have RB := readN_two LR.out j
              have SP := slat_part HY.out (l := 2 + 2 * j) (k := 2 + 2 * j + 2) (by omega) (by have := SL.out; have := NL.out; omega)
              rw [PT.out, hpt] at SP
              rw [hpt] at PS RB
              have PL : pt.length ≤ 4 := by rw [← hpt, List.length_drop, List.length_take]; omega
              obtain ⟨s2, c2, hs2, -, -, BS⟩ := SP
              have RS := Lib.hid (fun W => (run_sub (P := Tryd.prog) (ty := 38) Tryd.underlying38 sizeByte (some ⟨b, off, none⟩) ys.length cap (2 + 2 * j) (2 + 2 * j + 2) (by omega) (by have := SL.out; have := NL.out; omega) .i64 .i64 W).trans (by rw [hs2]))
              have e8 : ((2 + 2 * j : Nat) : Int) = 2 + 2 * (j : Int) := by omega
              have e9 : ((2 + 2 * j + 2 : Nat) : Int) = 2 + 2 * (j : Int) + 2 := by omega
              rw [e8, e9] at RS
              have BSH := Lib.hid BS
              have BW := Lib.hid (below_on B.out BI.out)
              have RD := Lib.hid (fun W (hb : Below w.heap.size w W) => at_read _ pt W (BytesAt.below BSH.out hb) PL)
              have R5 := Lib.hid RB
              have PSH := Lib.hid PS
              obtain ⟨r, hr⟩ : ∃ r, readN pt = r := ⟨_, rfl⟩
              rw [hr] at RD R5 PSH
              have NE := Lib.hid (fun g (h : u.ownBlock = some g) => (⟨own_form_le OI.out g h, own_lt OI.out g h⟩ : wq.heap.size + 1 ≤ g ∧ g < wr.heap.size))
              have SGL := Lib.hid (row_lt QI.out)
              have y1 : (World.drew wr).cell? ⟨wq.heap.size, 1, none⟩ = some u := row_cell QI.out 1
              have hBW : Below w.heap.size w (World.drew wr) := BW.out.drew
              have hBR : Below wr.heap.size wr (World.drew wr) := (Below.refl _ _).drew
              clear hpt PS RB PL BS hs2 e8 e9 hr
              go_upto_region 12 with (fail)
              refine wp_region_held_drew (S := fun w' => Kept (fun k => k = wq.heap.size ∨ u.ownBlock = some k) wr w') (by kernel_rfl) ?_ (fun hHeld => ?_)
              · exact (Kept.refl _ _).drew
              generalize World.drew wr = wd at y1 hBW hBR hHeld ⊢
              refine rgy (i := 0) (v := ?_) (atN rfl) (by kernel_rfl) (fun _ _ _ h => h) ?_ ?_ hHeld ?_; rotate_left 1; (· rfl); (· intro w' hSw; (try clear hHeld); go_simp; try with_reducible rfl)
              try simp only [Act.put, List.setIfInBounds_toArray, List.set_cons_zero, List.set_cons_succ]
              refine rgy (i := 2) (v := ?_) (atN rfl) (by kernel_rfl) (fun _ _ _ h => h) ?_ ?_ hHeld ?_; rotate_left 1; (· rfl); (· intro w' hSw; (try clear hHeld); go_simp; try with_reducible rfl)
              try simp only [Act.put, List.setIfInBounds_toArray, List.set_cons_zero, List.set_cons_succ]
              refine rgy (i := 3) (v := ?_) (atN rfl) (by kernel_rfl) (fun _ _ _ h => h) ?_ ?_ hHeld ?_; rotate_left 1; (· rfl); (· intro w' hSw; (try clear hHeld); go_simp; try with_reducible rfl)
              try simp only [Act.put, List.setIfInBounds_toArray, List.set_cons_zero, List.set_cons_succ]
              refine rgy (i := 4) (v := ?_) (atN rfl) (by kernel_rfl) (fun _ _ _ h => h) ?_ ?_ hHeld ?_; rotate_left 1; (· rfl); (· intro w' hSw; (try clear hHeld); go_simp; try with_reducible rfl)
              try simp only [Act.put, List.setIfInBounds_toArray, List.set_cons_zero, List.set_cons_succ]
              refine rgy (i := 5) (v := ?_) (atN rfl) (by kernel_rfl) (fun _ _ _ h => h) ?_ ?_ hHeld ?_; rotate_left 1; (· rfl); (· intro w' hSw; (try clear hHeld); go_simp; try with_reducible rfl)
              try simp only [Act.put, List.setIfInBounds_toArray, List.set_cons_zero, List.set_cons_succ]
              refine rgy (i := 6) (v := ?_) (atN rfl) (by kernel_rfl) (fun _ _ _ h => h) ?_ ?_ hHeld ?_; rotate_left 1; (· rfl); (· intro w' hSw; refine exec_slc (V := .slice s2 pt.length c2) 38 (.tmp 48) (some (.tmp 49)) (some (.tmp 51)) ?_ (RS.out _) ?_ ?_ ?_ <;> rfl)
              try simp only [Act.put, List.setIfInBounds_toArray, List.set_cons_zero, List.set_cons_succ]
              refine rg_call2 (i := 1) (j := 7) (atS at0) (atS (atS (atS (atS (atS (atS (atS at0))))))) (by kernel_rfl) ?_ ?_ (fun K hK => ?_) (fun K hK => ?_)
              · rfl
              · rfl
              · (try clear hb); go_simp; go_wp2_with fail; refine hK.out _ _ ?_ (fun hHeld => ?_); (· exact hHeld); clear hK K
                try simp only [Act.put, List.setIfInBounds_toArray, List.set_cons_zero, List.set_cons_succ]
                refine rg_call (i := 7) (atN rfl) (by kernel_rfl) ?_ (fun K hK => ?_); (· rfl); (try clear hb); go_simp; (refine (RD.out _ hBW).mono ?_; rintro e w1 ⟨rfl, rfl⟩); go_wp2_with fail; refine hK.out _ _ ?_ (fun hHeld => ?_); (· exact hHeld); clear hK K
                try simp only [Act.put, List.setIfInBounds_toArray, List.set_cons_zero, List.set_cons_succ]
                refine rg_call (i := 8) (atN rfl) (by kernel_rfl) ?_ (fun K hK => ?_); (· rfl); (try clear hb); go_simp; refine int_one_k (r := (r : Int)) (q := K _) ?_; intro w2 hcs hb2; have y1 := cell_below y1 hb2; have HB2 : Hid (Below wr.heap.size wr w2) := Lib.hid (below_on hBR hb2); refine hK.out _ _ ?_ (fun hHeld => ?_); (· exact hHeld.trans (Kept.of_below hb2)); clear hK K
                try simp only [Act.put, List.setIfInBounds_toArray, List.set_cons_zero, List.set_cons_succ]
                refine rg_call (i := 9) (atN rfl) (by kernel_rfl) ?_ (fun K hK => ?_); (· rfl); (try clear hb); refine wp_append_k (.tmp 47) (.tmp 54) 25 rfl (wq.heap.size + 1) 3 ti _ 1 8 Tryd.underlying25 hji hy0 hy1 hy2 rfl (by decide) u j ((prN l j).flatMap i64L) rfl (own_below OI.out HB2.out) ⟨wd.heap.size, 0, none⟩ 1 1 [.int .i64 r] rfl rfl hcs one_i (by unfold maxLen; omega) (by omega) (Nat.le_trans SGL.out HB2.out.size) ?_; intro v7 w7 hown7 hgrow7 hblk7; have QX := (HB2.out.block _ SGL.out).trans QI.out; have Q7 := Lib.hid (((kept_grownB hgrow7).block _ (row_lt QX) (fun h => by have := (NE.out _ h).1; omega)).trans QX); have y7 : w7.cell? ⟨wq.heap.size, 1, none⟩ = some u := row_cell Q7.out 1; have f7 := row_free Q7.out 1; have K7 := Lib.hid ((kept_grownB hgrow7).imp (G := fun k => k = wq.heap.size ∨ u.ownBlock = some k) fun b hb => .inr hb); have O7 : Hid (w7.ownsRow (wq.heap.size + 1) 3 1 v7 (j + 1) ((prN l (j + 1)).flatMap i64L)) := Lib.hid (by rw [PSH.out, List.flatMap_append]; exact hown7); obtain ⟨s7, c7, hv7, -⟩ := own_form hown7; subst hv7; clear hown7 hgrow7 hblk7 QX; refine hK.out _ _ ?_ (fun hHeld => ?_); (· exact hHeld.trans K7.out); clear hK K
                try simp only [Act.put, List.setIfInBounds_toArray, List.set_cons_zero, List.set_cons_succ]
                refine rgy (i := 10) (v := ?_) (atN rfl) (by kernel_rfl) (fun _ _ _ h => h) ?_ ?_ hHeld ?_; rotate_left 1; (· rfl); (· intro w' hSw; (try clear hHeld); go_simp; try with_reducible rfl)
                try simp only [Act.put, List.setIfInBounds_toArray, List.set_cons_zero, List.set_cons_succ]
                refine rg_call (i := 11) (atN rfl) (by kernel_rfl) ?_ (fun K hK => ?_); (· rfl); (try clear hb); go_simp; go_wp2_with fail; refine hK.out _ _ ?_ (fun hHeld => ?_); (· exact hHeld.trans (Kept.setCell _ _ (.inl rfl))); clear hK K
                try simp only [Act.put]
                refine wpAnyH_done (by kernel_rfl) ?_ _
                obtain ⟨w8, hw8⟩ : ∃ w8, w8 = w7.setCell ⟨wq.heap.size, 1, none⟩ (.slice s7 (j + 1) c7) := ⟨_, rfl⟩
                rw [← hw8] at hHeld ⊢
                have Q8 : Hid (w8.heap[wq.heap.size]? = some (.cells #[.bool false, .slice s7 (j + 1) c7] 32 (0, 0))) := Lib.hid (by rw [hw8]; simpa using set_same Q7.out 1 (.slice s7 (j + 1) c7))
                have O8 : Hid (w8.ownsRow (wq.heap.size + 1) 3 1 (.slice s7 (j + 1) c7) (j + 1) ((prN l (j + 1)).flatMap i64L)) := Lib.hid (own_kept (F := fun k => k = wq.heap.size) O7.out (by rw [hw8]; exact Kept.setCell _ _ rfl) (fun g hg h => by have := own_form_le O7.out g hg; omega))
                have B8 := Lib.hid (BI.out.trans (hHeld.below BI.out.size (fun k hk => by rcases hk with hk | hk; exact Nat.le_of_eq hk.symm; have := (NE.out _ hk).1; omega)))
                clear hw8 hHeld Q7 O7 K7 y7 f7 QI OI BI NE y1 HB2 hcs hb2 hBW hBR
                go_wp2_with fail
                exact ⟨⟨j + 1, .slice s7 (j + 1) c7, by omega, by go_num, Q8, O8, B8⟩, by simp [intOf]; omega⟩
              · (try clear hb); go_simp; (refine (RD.out _ hBW).mono ?_; rintro e w1 ⟨rfl, rfl⟩); go_wp2_with fail; refine hK.out _ _ ?_ (fun hHeld => ?_); (· exact hHeld); clear hK K
                try simp only [Act.put, List.setIfInBounds_toArray, List.set_cons_zero, List.set_cons_succ]
                refine rg_call2 (i := 1) (j := 8) (atS at0) (atS (atS (atS (atS (atS (atS (atS (atS at0)))))))) (by kernel_rfl) ?_ ?_ (fun K hK => ?_) (fun K hK => ?_)
                · rfl
                · rfl
                · (try clear hb); go_simp; go_wp2_with fail; refine hK.out _ _ ?_ (fun hHeld => ?_); (· exact hHeld); clear hK K
                  try simp only [Act.put, List.setIfInBounds_toArray, List.set_cons_zero, List.set_cons_succ]
                  refine rg_call (i := 8) (atN rfl) (by kernel_rfl) ?_ (fun K hK => ?_); (· rfl); (try clear hb); go_simp; refine int_one_k (r := (r : Int)) (q := K _) ?_; intro w2 hcs hb2; have y1 := cell_below y1 hb2; have HB2 : Hid (Below wr.heap.size wr w2) := Lib.hid (below_on hBR hb2); refine hK.out _ _ ?_ (fun hHeld => ?_); (· exact hHeld.trans (Kept.of_below hb2)); clear hK K
                  try simp only [Act.put, List.setIfInBounds_toArray, List.set_cons_zero, List.set_cons_succ]
                  refine rg_call (i := 9) (atN rfl) (by kernel_rfl) ?_ (fun K hK => ?_); (· rfl); (try clear hb); refine wp_append_k (.tmp 47) (.tmp 54) 25 rfl (wq.heap.size + 1) 3 ti _ 1 8 Tryd.underlying25 hji hy0 hy1 hy2 rfl (by decide) u j ((prN l j).flatMap i64L) rfl (own_below OI.out HB2.out) ⟨wd.heap.size, 0, none⟩ 1 1 [.int .i64 r] rfl rfl hcs one_i (by unfold maxLen; omega) (by omega) (Nat.le_trans SGL.out HB2.out.size) ?_; intro v7 w7 hown7 hgrow7 hblk7; have QX := (HB2.out.block _ SGL.out).trans QI.out; have Q7 := Lib.hid (((kept_grownB hgrow7).block _ (row_lt QX) (fun h => by have := (NE.out _ h).1; omega)).trans QX); have y7 : w7.cell? ⟨wq.heap.size, 1, none⟩ = some u := row_cell Q7.out 1; have f7 := row_free Q7.out 1; have K7 := Lib.hid ((kept_grownB hgrow7).imp (G := fun k => k = wq.heap.size ∨ u.ownBlock = some k) fun b hb => .inr hb); have O7 : Hid (w7.ownsRow (wq.heap.size + 1) 3 1 v7 (j + 1) ((prN l (j + 1)).flatMap i64L)) := Lib.hid (by rw [PSH.out, List.flatMap_append]; exact hown7); obtain ⟨s7, c7, hv7, -⟩ := own_form hown7; subst hv7; clear hown7 hgrow7 hblk7 QX; refine hK.out _ _ ?_ (fun hHeld => ?_); (· exact hHeld.trans K7.out); clear hK K
                  try simp only [Act.put, List.setIfInBounds_toArray, List.set_cons_zero, List.set_cons_succ]
                  refine rgy (i := 10) (v := ?_) (atN rfl) (by kernel_rfl) (fun _ _ _ h => h) ?_ ?_ hHeld ?_; rotate_left 1; (· rfl); (· intro w' hSw; (try clear hHeld); go_simp; try with_reducible rfl)
                  try simp only [Act.put, List.setIfInBounds_toArray, List.set_cons_zero, List.set_cons_succ]
                  refine rg_call (i := 11) (atN rfl) (by kernel_rfl) ?_ (fun K hK => ?_); (· rfl); (try clear hb); go_simp; go_wp2_with fail; refine hK.out _ _ ?_ (fun hHeld => ?_); (· exact hHeld.trans (Kept.setCell _ _ (.inl rfl))); clear hK K
                  try simp only [Act.put]
                  refine wpAnyH_done (by kernel_rfl) ?_ _
                  obtain ⟨w8, hw8⟩ : ∃ w8, w8 = w7.setCell ⟨wq.heap.size, 1, none⟩ (.slice s7 (j + 1) c7) := ⟨_, rfl⟩
                  rw [← hw8] at hHeld ⊢
                  have Q8 : Hid (w8.heap[wq.heap.size]? = some (.cells #[.bool false, .slice s7 (j + 1) c7] 32 (0, 0))) := Lib.hid (by rw [hw8]; simpa using set_same Q7.out 1 (.slice s7 (j + 1) c7))
                  have O8 : Hid (w8.ownsRow (wq.heap.size + 1) 3 1 (.slice s7 (j + 1) c7) (j + 1) ((prN l (j + 1)).flatMap i64L)) := Lib.hid (own_kept (F := fun k => k = wq.heap.size) O7.out (by rw [hw8]; exact Kept.setCell _ _ rfl) (fun g hg h => by have := own_form_le O7.out g hg; omega))
                  have B8 := Lib.hid (BI.out.trans (hHeld.below BI.out.size (fun k hk => by rcases hk with hk | hk; exact Nat.le_of_eq hk.symm; have := (NE.out _ hk).1; omega)))
                  clear hw8 hHeld Q7 O7 K7 y7 f7 QI OI BI NE y1 HB2 hcs hb2 hBW hBR
                  go_wp2_with fail
                  exact ⟨⟨j + 1, .slice s7 (j + 1) c7, by omega, by go_num, Q8, O8, B8⟩, by simp [intOf]; omega⟩
                · (try clear hb); go_simp; refine int_one_k (r := (r : Int)) (q := K _) ?_; intro w2 hcs hb2; have y1 := cell_below y1 hb2; have HB2 : Hid (Below wr.heap.size wr w2) := Lib.hid (below_on hBR hb2); refine hK.out _ _ ?_ (fun hHeld => ?_); (· exact hHeld.trans (Kept.of_below hb2)); clear hK K
                  try simp only [Act.put, List.setIfInBounds_toArray, List.set_cons_zero, List.set_cons_succ]
                  refine rg_call (i := 1) (atN rfl) (by kernel_rfl) ?_ (fun K hK => ?_); (· rfl); (try clear hb); go_simp; go_wp2_with fail; refine hK.out _ _ ?_ (fun hHeld => ?_); (· exact hHeld); clear hK K
                  try simp only [Act.put, List.setIfInBounds_toArray, List.set_cons_zero, List.set_cons_succ]
                  refine rg_call (i := 9) (atN rfl) (by kernel_rfl) ?_ (fun K hK => ?_); (· rfl); (try clear hb); refine wp_append_k (.tmp 47) (.tmp 54) 25 rfl (wq.heap.size + 1) 3 ti _ 1 8 Tryd.underlying25 hji hy0 hy1 hy2 rfl (by decide) u j ((prN l j).flatMap i64L) rfl (own_below OI.out HB2.out) ⟨wd.heap.size, 0, none⟩ 1 1 [.int .i64 r] rfl rfl hcs one_i (by unfold maxLen; omega) (by omega) (Nat.le_trans SGL.out HB2.out.size) ?_; intro v7 w7 hown7 hgrow7 hblk7; have QX := (HB2.out.block _ SGL.out).trans QI.out; have Q7 := Lib.hid (((kept_grownB hgrow7).block _ (row_lt QX) (fun h => by have := (NE.out _ h).1; omega)).trans QX); have y7 : w7.cell? ⟨wq.heap.size, 1, none⟩ = some u := row_cell Q7.out 1; have f7 := row_free Q7.out 1; have K7 := Lib.hid ((kept_grownB hgrow7).imp (G := fun k => k = wq.heap.size ∨ u.ownBlock = some k) fun b hb => .inr hb); have O7 : Hid (w7.ownsRow (wq.heap.size + 1) 3 1 v7 (j + 1) ((prN l (j + 1)).flatMap i64L)) := Lib.hid (by rw [PSH.out, List.flatMap_append]; exact hown7); obtain ⟨s7, c7, hv7, -⟩ := own_form hown7; subst hv7; clear hown7 hgrow7 hblk7 QX; refine hK.out _ _ ?_ (fun hHeld => ?_); (· exact hHeld.trans K7.out); clear hK K
                  try simp only [Act.put, List.setIfInBounds_toArray, List.set_cons_zero, List.set_cons_succ]
                  refine rgy (i := 10) (v := ?_) (atN rfl) (by kernel_rfl) (fun _ _ _ h => h) ?_ ?_ hHeld ?_; rotate_left 1; (· rfl); (· intro w' hSw; (try clear hHeld); go_simp; try with_reducible rfl)
                  try simp only [Act.put, List.setIfInBounds_toArray, List.set_cons_zero, List.set_cons_succ]
                  refine rg_call (i := 11) (atN rfl) (by kernel_rfl) ?_ (fun K hK => ?_); (· rfl); (try clear hb); go_simp; go_wp2_with fail; refine hK.out _ _ ?_ (fun hHeld => ?_); (· exact hHeld.trans (Kept.setCell _ _ (.inl rfl))); clear hK K
                  try simp only [Act.put]
                  refine wpAnyH_done (by kernel_rfl) ?_ _
                  obtain ⟨w8, hw8⟩ : ∃ w8, w8 = w7.setCell ⟨wq.heap.size, 1, none⟩ (.slice s7 (j + 1) c7) := ⟨_, rfl⟩
                  rw [← hw8] at hHeld ⊢
                  have Q8 : Hid (w8.heap[wq.heap.size]? = some (.cells #[.bool false, .slice s7 (j + 1) c7] 32 (0, 0))) := Lib.hid (by rw [hw8]; simpa using set_same Q7.out 1 (.slice s7 (j + 1) c7))
                  have O8 : Hid (w8.ownsRow (wq.heap.size + 1) 3 1 (.slice s7 (j + 1) c7) (j + 1) ((prN l (j + 1)).flatMap i64L)) := Lib.hid (own_kept (F := fun k => k = wq.heap.size) O7.out (by rw [hw8]; exact Kept.setCell _ _ rfl) (fun g hg h => by have := own_form_le O7.out g hg; omega))
                  have B8 := Lib.hid (BI.out.trans (hHeld.below BI.out.size (fun k hk => by rcases hk with hk | hk; exact Nat.le_of_eq hk.symm; have := (NE.out _ hk).1; omega)))
                  clear hw8 hHeld Q7 O7 K7 y7 f7 QI OI BI NE y1 HB2 hcs hb2 hBW hBR
                  go_wp2_with fail
                  exact ⟨⟨j + 1, .slice s7 (j + 1) c7, by omega, by go_num, Q8, O8, B8⟩, by simp [intOf]; omega⟩
            · obtain rfl : j = n := by omega
              have OI2 := OI
              obtain ⟨su, cu, hu, -⟩ := own_form OI.out
              subst hu
              have BW := Lib.hid (below_on B.out BI.out)
              have POB := Lib.hid ((PO.out.below BI.out).below ((Below.refl wr.heap.size wr).alloc (Nat.le_refl _) (.cells #[.bool false, .slice su j cu] 32)))
              have OUB := Lib.hid (own_below (own_base OI.out (B' := w.heap.size) (by have := B.out.size; omega)) ((Below.refl wr.heap.size wr).alloc (Nat.le_refl _) (.cells #[.bool false, .slice su j cu] 32)))
              have c0 : wr.cell? ⟨wq.heap.size, 0, none⟩ = some (.bool false) := row_cell QI.out 0
              have c1 : wr.cell? ⟨wq.heap.size, 1, none⟩ = some (.slice su j cu) := row_cell QI.out 1
              have SP := slat_part HY.out (l := 2 + 2 * j) (k := ys.length) (by have := SL.out; have := NL.out; omega) (Nat.le_refl _)
              rw [List.take_length, DT.out] at SP
              obtain ⟨zs, hzs⟩ : ∃ zs, l.drop (2 * j) = zs := ⟨_, rfl⟩
              have ZL : Hid (zs.length + 2 = ys.length - 2 * j) := Lib.hid (by rw [← hzs, List.length_drop]; have := SL.out; have := NL.out; omega)
              rw [hzs] at SP R1 DR
              clear hzs
              obtain ⟨s3, c3, hs3, -, -, BS⟩ := SP
              have RS := Lib.hid (fun W => (run_subl (P := Tryd.prog) (ty := 38) Tryd.underlying38 sizeByte (some ⟨b, off, none⟩) ys.length cap (2 + 2 * j) (by have := SL.out; have := NL.out; omega) .i64 W).trans (by rw [hs3]))
              rw [show ((2 + 2 * j : Nat) : Int) = 2 + 2 * (j : Int) by omega] at RS
              have BSH := Lib.hid BS
              have WS := Lib.hid BW.out.size
              have PRNG := Lib.hid (prN_rng LR.out j)
              clear hs3 BS QI OI OI2 BI B PO hjn hj
              go_wp2_with (at_builtin; refine wpList_append_own_at _ rfl _ _ 22 rfl w.heap.size 32 i0 _ 2 32 Tryd.underlying22 hii hz0 hz1 hz2 rfl (by decide) u4 L.length (L.flatMap sgC) rfl POB.out.own ⟨wr.heap.size, 0, none⟩ 1 1 [.bool false, .slice su j cu] rfl rfl (new_cells wr _ _) one_sg (by unfold maxLen; omega) (by omega) (by have := WS.out; simp; omega) ?_)
              intro v7 w7 hown7 hgrow7 _ hblk7
              have P7 := Lib.hid (PathOwn.snoc (s := (false, prN l j)) POB.out (kept_grownB hgrow7) hown7 (by rw [prN_len]; exact OUB.out) (fun x hx => by have := PRNG.out x hx; unfold I64r; omega))
              have B7 := Lib.hid ((BW.out.alloc BW.out.size _).trans ((kept_grownB hgrow7).below (by have := BW.out.size; simp; omega) (own_form_le POB.out.own)))
              clear hown7 hgrow7 hblk7 POB OUB BW c0 c1
              go_wp2_with ((with_reducible refine halt_at (X := .slice 38 (.tmp 61) (some (.tmp 62)) none none) ?_ ?_); (· rfl))
              unfold Halt
              refine slc_at rfl 38 (.tmp 61) (some (.tmp 62)) none rfl (V := .slice s3 zs.length c3) (RS.out _) rfl rfl rfl ?_
              clear RS
              go_wp2_with fail
              refine ⟨⟨zs, _, s3, c3, rfl, BSH, Lib.hid (by rw [R1.out]; simp), P7, B7, Lib.hid (by have := ZL.out; simp; omega), DR⟩, ?_⟩
              have := ZL.out
              simp [lenOf]
              omega
end Go.Proofs.YtohkbcdnlmjcjaaDoor
