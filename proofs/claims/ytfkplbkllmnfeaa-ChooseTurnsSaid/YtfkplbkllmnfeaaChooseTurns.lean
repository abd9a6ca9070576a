/-
  ChooseTurns: routes in another order have the same best one, unless two are alike in id and peer; for all candidates and turns; no condition.
-/
import Derived.Test.YtfkplbkllmnfeaaChV
import Derived.Test.YtfkplbkllmnfeaaRgS
import Derived.Test.YtfkplbkllmnfeaaBits
import Derived.Deep.QuietTactic
import Derived.BigQuiet
namespace Go.Proofs.Ytfkplbkllmnfeaa
open Go.RowKit

abbrev ceZA : Array Value := #[.int .i64 0, .int .u32 0, .int .i64 0, .int .i64 0, .int .i64 0, .slice none 0 0, .int .u32 0, .int .i64 0, .int .i64 0, .int .i64 0, .int .u32 0, .slice none 0 0, .slice none 0 0, .int .u32 0]
theorem info_cand : (Try.prog.info? 35).map (fun i => (i.zero, i.size, i.bytes)) = some (some (.agg ceZA), 14, 160) := by kernel_rfl
/-- none of the first i is like one ahead of it. -/
def Apart (xs : List Cd) (i : Nat) : Prop := ∀ (p q : Nat) (c d : Cd), p < i → q < p → xs[p]? = some c → xs[q]? = some d → ¬ (c.id = d.id ∧ c.peer = d.peer)
def ApartAt (xs : List Cd) (i k : Nat) : Prop := ∀ (q : Nat) (c d : Cd), q < k → xs[i]? = some c → xs[q]? = some d → ¬ (c.id = d.id ∧ c.peer = d.peer)
theorem apart_dist {xs : List Cd} (h : Apart xs xs.length) : Dist xs := by
  intro i k c d hi hk hne
  have li := (List.getElem?_eq_some_iff.1 hi).1
  have lk := (List.getElem?_eq_some_iff.1 hk).1
  rcases Nat.lt_or_gt_of_ne hne with hlt | hlt
  · intro e
    exact h k i d c lk hlt hk hi ⟨e.1.symm, e.2.symm⟩
  · exact h i k c d li hlt hi hk
theorem ce_one {w : World} {x : Ce} (h : x.Ok w) : ∀ u ∈ ceL x, u.oneCell' = true := by
  obtain ⟨_, ⟨⟨sp, cp, hp, _⟩, ⟨sc, cc, hc, _⟩, ⟨so, co, ho, _⟩⟩⟩ := h
  intro u hu
  unfold ceL at hu
  rw [hp, hc, ho] at hu
  simp at hu
  rcases hu with rfl | rfl | rfl | rfl | rfl | rfl | rfl | rfl | rfl | rfl | rfl | rfl | rfl | rfl <;> rfl
theorem ces_one {w : World} {M : List Ce} (h : ∀ x ∈ M, x.Ok w) : ∀ u ∈ M.flatMap ceL, u.oneCell' = true := by
  intro u hu
  obtain ⟨x, hx, hu⟩ := List.mem_flatMap.1 hu
  exact ce_one (h x hx) u hu
theorem rev_step {α : Type} {l : List α} {j : Nat} {x : α} (h : l[l.length - 1 - j]? = some x) (hj : j < l.length) : l.reverse.take (j + 1) = l.reverse.take j ++ [x] := by
  have h2 : l.reverse[j]? = some x := by rw [List.getElem?_reverse hj]; exact h
  obtain ⟨h3, h4⟩ := List.getElem?_eq_some_iff.1 h2
  rw [List.take_succ_eq_append_getElem h3, h4]
set_option maxHeartbeats 12800000 in
set_option maxRecDepth 100000 in
theorem turns_walk (v : Value) (xs : List Cd) (by_ : Int) (w : World) (h : CdsAt w v xs) (hr : rightL xs = true) (hne : xs ≠ []) : Calls Try.prog 5 #[v, .int .i64 by_] w fun e w' => e = .returned (.bool true) ∧ Below w.heap.size w w' := by
  obtain ⟨i0, hii, hz0, hz1, hz2⟩ := info_parts info_cand
  obtain ⟨L, hLx, hLok, hLs⟩ := cds_ces h
  have H := Lib.hid h
  have RI := Lib.hid (fun W h => law_right v xs W h)
  rw [hr] at RI
  obtain ⟨h12, hR⟩ := right_of hr
  have hh : ∀ c ∈ xs, hopsN c.a.path ≤ 4611686018427387904 := fun c hc => by have := (hR c hc).hops; omega
  have BE := Lib.hid (fun v ys W (hm : ∀ c, c ∈ xs ↔ c ∈ ys) (hl : ys.length ≤ 100000) h => ch_Best v ys W h hl (fun c hc => hh c ((hm c).2 hc)))
  have HLX := Lib.hid hLx
  have HLO := Lib.hid hLok
  have hlen : L.length = xs.length := by rw [← hLx, List.length_map]
  obtain ⟨sa, cap, rfl, hlc, hcm, hV⟩ := hLs
  rw [hlen] at hlc hV RI H ⊢
  have hn0 : 0 < xs.length := by rcases xs with _ | ⟨c, xs⟩; exact absurd rfl hne; simp
  obtain ⟨b, off, rfl, hP⟩ := hV hn0
  have HP : Hid (∀ (i : Nat) (x : Ce), L[i]? = some x → ∀ j c, (ceL x)[j]? = some c → w.cell? ⟨b, off + i * 14 + j, none⟩ = some c) := Lib.hid (fun i x hx j c hc => by
    obtain ⟨cs, _, rfl, h⟩ := hP i x hx
    exact h j c hc)
  unfold maxLen at hcm
  have HLEN := Lib.hid hlen
  clear hr hR hh hLx hLok hV hP hlen h
  have n0 : ((xs.length : Int) == 0) = false := by rw [beq_eq_false_iff_ne]; omega
  go_enter Try.func5, Try.ntmps5
  go_wp2_with fail
  refine (law_head _).mono ?_
  rintro e w1 ⟨rfl, hb1⟩
  have H1 := Lib.hid (H.out.below hb1)
  go_wp2_with fail
  refine (RI.out _ H1.out).mono ?_
  rintro e w2 ⟨rfl, hb2⟩
  have B2 := Lib.hid (below_on hb1 hb2)
  clear hb1 hb2 H1 RI
  go_wp2_with fail
  go_loopw [25] (fun i wr => ∃ k : Nat, k ≤ xs.length ∧ i = .int .i64 k ∧ Hid (Apart xs k) ∧ Hid (Below w.heap.size w wr)) (fun i _ => xs.length - (intOf i).toNat)
  case atStart => exact ⟨0, by omega, rfl, Lib.hid (fun p q c d hp => by omega), B2⟩
  case round =>
    clear B2
    obtain ⟨i, hi, rfl, AP, B⟩ := hrel
    by_cases hlt : i < xs.length
    · obtain ⟨x, hx⟩ : ∃ x, L[i]? = some x := ⟨_, List.getElem?_eq_getElem (by have := HLEN.out; omega)⟩
      have hxc : xs[i]? = some x.c := by rw [← HLX.out, List.getElem?_map, hx]; rfl
      have HX := Lib.hid hxc
      have y0 : w.cell? ⟨b, off + i * 14, none⟩ = some (.int .i64 x.c.peer) := HP.out i x hx 0 _ rfl
      have y13 : w.cell? ⟨b, off + i * 14 + 13, none⟩ = some (.int .u32 x.c.id) := HP.out i x hx 13 _ rfl
      have Y0 := Lib.hid y0
      have Y13 := Lib.hid y13
      clear y0 y13 hx hxc
      have j0 : (0 : Int) ≤ (i : Int) := by omega
      have j1 : (i : Int) < (xs.length : Int) := by omega
      have j2 : (i : Int) ≤ (cap : Int) := by omega
      obtain ⟨wo, hwo⟩ : ∃ wo : World, wo = wr := ⟨_, rfl⟩
      rw [← hwo] at B ⊢
      clear hwo
      go_wp2_with fail
      go_loopw [32] (fun q wr => ∃ k : Nat, k ≤ i ∧ q = .int .i64 k ∧ Hid (ApartAt xs i k) ∧ Hid (Below wo.heap.size wo wr)) (fun q _ => i - (intOf q).toNat)
      case atStart => exact ⟨0, by omega, rfl, Lib.hid (fun q c d hq => by omega), Lib.hid (Below.refl _ _)⟩
      case round =>
        obtain ⟨k, hk, rfl, AK, BI⟩ := hrel
        by_cases hkl : k < i
        · obtain ⟨z, hz⟩ : ∃ z, L[k]? = some z := ⟨_, List.getElem?_eq_getElem (by have := HLEN.out; omega)⟩
          have hzc : xs[k]? = some z.c := by rw [← HLX.out, List.getElem?_map, hz]; rfl
          have HZ := Lib.hid hzc
          have BB := below_on B.out BI.out
          have z0 := (BB.cell (size_lt (HP.out k z hz 0 _ rfl))).trans (HP.out k z hz 0 _ rfl)
          have z13 := (BB.cell (size_lt (HP.out k z hz 13 _ rfl))).trans (HP.out k z hz 13 _ rfl)
          have y0 := (BB.cell (size_lt Y0.out)).trans Y0.out
          have y13 := (BB.cell (size_lt Y13.out)).trans Y13.out
          replace z0 : wr.cell? ⟨b, off + k * 14, none⟩ = some (.int .i64 z.c.peer) := z0
          replace z13 : wr.cell? ⟨b, off + k * 14 + 13, none⟩ = some (.int .u32 z.c.id) := z13
          have q0 : (0 : Int) ≤ (k : Int) := by omega
          have q1 : (k : Int) < (xs.length : Int) := by omega
          have q2 : (k : Int) < (i : Int) := by omega
          have EE : Hid (((x.c.id : Int) == (z.c.id : Int)) = true → (x.c.peer == z.c.peer) = true → False) ∨ (((x.c.id : Int) == (z.c.id : Int)) = true ∧ (x.c.peer == z.c.peer) = true) := by
            by_cases h1 : ((x.c.id : Int) == (z.c.id : Int)) = true
            · by_cases h2 : (x.c.peer == z.c.peer) = true
              · exact .inr ⟨h1, h2⟩
              · exact .inl (Lib.hid (fun _ h => h2 h))
            · exact .inl (Lib.hid (fun h _ => h1 h))
          clear BB hz hzc
          rcases EE with EE | ⟨h1, h2⟩
          · have AK2 : Hid (ApartAt xs i (k + 1)) := Lib.hid (fun q c d hq hc hd e => by
              by_cases hqk : q = k
              · subst hqk
                rw [HX.out] at hc
                rw [HZ.out] at hd
                cases hc; cases hd
                exact EE.out (by rw [beq_iff_eq]; omega) (by rw [beq_iff_eq]; exact e.2)
              · exact AK.out q c d (by omega) hc hd e)
            clear AK HX
            cases h1 : ((x.c.id : Int) == (z.c.id : Int))
            · go_wp2_with fail
              go_quiet (fail)
              have BI2 := Lib.hid (BI.out.trans (show Below wo.heap.size wr (wr.drewN nq) from ⟨rfl, rfl, rfl, Nat.le_refl _, fun _ _ => rfl⟩))
              go_wp2_with fail
              exact ⟨⟨k + 1, by omega, by go_num, AK2, BI2⟩, by simp [intOf]; omega⟩
            · have h2 : (x.c.peer == z.c.peer) = false := by
                cases h2 : (x.c.peer == z.c.peer)
                · rfl
                · exact absurd h2 (fun h => EE.out h1 h)
              go_wp2_with fail
              go_quiet (fail)
              have BI2 := Lib.hid (BI.out.trans (show Below wo.heap.size wr (wr.drewN nq) from ⟨rfl, rfl, rfl, Nat.le_refl _, fun _ _ => rfl⟩))
              go_wp2_with fail
              exact ⟨⟨k + 1, by omega, by go_num, AK2, BI2⟩, by simp [intOf]; omega⟩
          · clear AK HX
            go_wp2_with fail
            go_quiet (fail)
            have BI2 := Lib.hid (BI.out.trans (show Below wo.heap.size wr (wr.drewN nq) from ⟨rfl, rfl, rfl, Nat.le_refl _, fun _ _ => rfl⟩))
            go_wp2_with fail
            go_ret
            exact ⟨rfl, below_on B.out BI2.out⟩
        · obtain rfl : i = k := by omega
          have AP2 : Hid (Apart xs (i + 1)) := Lib.hid (fun p q c d hp hq hc hd => by
            by_cases hpi : p = i
            · subst hpi; exact AK.out q c d hq hc hd
            · exact AP.out p q c d (by omega) hq hc hd)
          clear AK AP HX Y0 Y13
          go_wp2_with fail
          exact ⟨⟨i + 1, by omega, by go_num, AP2, Lib.hid (below_on B.out BI.out)⟩, by simp [intOf]; omega⟩
    · obtain rfl : i = xs.length := by omega
      have DI := Lib.hid (apart_dist AP.out)
      clear AP
      obtain ⟨m, hm⟩ : ∃ m : Nat, bits .and .i64 by_ 1023 = (m : Int) := ⟨(by_ % 1024).toNat, by rw [and_1023]; omega⟩
      have hm2 : (m : Int) ≤ 1023 := by have := and_1023 by_; omega
      obtain ⟨d, hd⟩ : ∃ d : Nat, d = m % xs.length := ⟨_, rfl⟩
      have hdl : d < xs.length := by rw [hd]; exact Nat.mod_lt _ hn0
      have e2 : (m : Int) % (xs.length : Int) = (d : Int) := by rw [hd]; rfl
      clear hd
      go_upto_region 16 with (fail)
      rw [e2]
      have EM := Lib.hid e2
      clear e2 hm hm2
      have hln := HLEN.out
      have LT1 : Hid (((L.drop d).flatMap ceL).length = (xs.length - d) * 14) := Lib.hid (by rw [flat_len ceL_len, List.length_drop, hln])
      have LT2 : Hid (((L.take d).flatMap ceL).length = d * 14) := Lib.hid (by rw [flat_len ceL_len, List.length_take, hln, Nat.min_eq_left (by omega)])
      have ON1 : Hid (∀ u ∈ (L.drop d).flatMap ceL, u.oneCell' = true) := Lib.hid (ces_one (w := w) (fun x hx => HLO.out x (List.mem_of_mem_drop hx)))
      have ON2 : Hid (∀ u ∈ (L.take d).flatMap ceL, u.oneCell' = true) := Lib.hid (ces_one (w := w) (fun x hx => HLO.out x (List.mem_of_mem_take hx)))
      have F1 := flat_range HP.out d (L.drop d) (fun i x hx => by rwa [List.getElem?_drop] at hx)
      have F2 := flat_range HP.out 0 (L.take d) (fun i x hx => by
        have := (List.getElem?_eq_some_iff.1 hx).1
        rw [List.getElem?_take_of_lt (by simp at this; omega)] at hx
        rw [Nat.zero_add]; exact hx)
      have CC1 : Hid (∀ W, Below wr.heap.size wr W → ∀ (q : Nat) (u : Value), ((L.drop d).flatMap ceL)[q]? = some u → W.cell? ((⟨b, off + d * 14, none⟩ : Addr).add q) = some u) := Lib.hid (fun W hW q u hu => cell_below (cell_below (F1 q u hu) B.out) hW)
      have CC2 : Hid (∀ W, Below wr.heap.size wr W → ∀ (q : Nat) (u : Value), ((L.take d).flatMap ceL)[q]? = some u → W.cell? ((⟨b, off, none⟩ : Addr).add q) = some u) := Lib.hid (fun W hW q u hu => cell_below (cell_below (by have := F2 q u hu; simpa using this) B.out) hW)
      clear F1 F2 hln
      have k0 : (0 : Int) ≤ (d : Int) := by omega
      have k1 : (d : Int) ≤ (xs.length : Int) := by omega
      have k2 : (d : Int) ≤ (cap : Int) := by omega
      have k3 : ¬ (d : Int) = (cap : Int) := by omega
      have k4 : ¬ d = cap := by omega
      refine wp_region_held_drew (S := fun w' => Below wr.heap.size wr w') (by kernel_rfl) ?_ (fun hHeld => ?_)
      · exact (Below.refl _ _).drew
      generalize World.drew wr = wd at hHeld ⊢
      refine rg_yes (i := 1) (v := ?_) (atS at0) (by kernel_rfl) (by kernel_rfl) (by kernel_rfl) (fun _ _ _ h => h) ?_ ?_ hHeld ?_; rotate_left 1; (· rfl); (· intro w' hSw; (try dsimp only at hSw); (try clear hHeld); go_simp; try with_reducible rfl)
      try simp only [Act.put, List.setIfInBounds_toArray, List.set_cons_zero, List.set_cons_succ]
      refine rg_yes (i := 2) (v := ?_) (atS (atS at0)) (by kernel_rfl) (by kernel_rfl) (by kernel_rfl) (fun _ _ _ h => h) ?_ ?_ hHeld ?_; rotate_left 1; (· rfl); (· intro w' hSw; (try dsimp only at hSw); (try clear hHeld); go_simp; try with_reducible rfl)
      try simp only [Act.put, List.setIfInBounds_toArray, List.set_cons_zero, List.set_cons_succ]
      refine rg_yes (i := 3) (v := ?_) (atS (atS (atS at0))) (by kernel_rfl) (by kernel_rfl) (by kernel_rfl) (fun _ _ _ h => h) ?_ ?_ hHeld ?_; rotate_left 1; (· rfl); (· intro w' hSw; (try dsimp only at hSw); (try clear hHeld); go_simp; try with_reducible rfl)
      try simp only [Act.put, List.setIfInBounds_toArray, List.set_cons_zero, List.set_cons_succ]
      refine rg_yes (i := 5) (v := ?_) (atS (atS (atS (atS (atS at0))))) (by kernel_rfl) (by kernel_rfl) (by kernel_rfl) (fun _ _ _ h => h) ?_ ?_ hHeld ?_; rotate_left 1; (· rfl); (· intro w' hSw; (try dsimp only at hSw); (try clear hHeld); go_simp; try with_reducible rfl)
      try simp only [Act.put, List.setIfInBounds_toArray, List.set_cons_zero, List.set_cons_succ]
      refine rg_yes (i := 6) (v := ?_) (atS (atS (atS (atS (atS (atS at0)))))) (by kernel_rfl) (by kernel_rfl) (by kernel_rfl) (fun _ _ _ h => h) ?_ ?_ hHeld ?_; rotate_left 1; (· rfl); (· intro w' hSw; (try dsimp only at hSw); (try clear hHeld); go_simp; try with_reducible rfl)
      try simp only [Act.put, List.setIfInBounds_toArray, List.set_cons_zero, List.set_cons_succ]
      refine rg_yes (i := 7) (v := ?_) (atS (atS (atS (atS (atS (atS (atS at0))))))) (by kernel_rfl) (by kernel_rfl) (by kernel_rfl) (fun _ _ _ h => h) ?_ ?_ hHeld ?_; rotate_left 1; (· rfl); (· intro w' hSw; (try dsimp only at hSw); (try clear hHeld); go_simp; try with_reducible rfl)
      try simp only [Act.put, List.setIfInBounds_toArray, List.set_cons_zero, List.set_cons_succ]
      refine rg_call (i := 0) at0 (by kernel_rfl) ?_ (fun K hK => ?_); (· rfl); (try clear hb); have hwd := hHeld.size; go_simp; go_wp2_with fail; refine hK.out _ _ ?_ (fun hHeld => ?_); (· exact hHeld.alloc hHeld.size _); clear hK K
      try simp only [Act.put, List.setIfInBounds_toArray, List.set_cons_zero, List.set_cons_succ]
      refine rg_call (i := 4) (atS (atS (atS (atS at0)))) (by kernel_rfl) ?_ (fun K hK => ?_); (· rfl); (try clear hb); refine wp_append_own _ (.tmp 68) (.tmp 71) 40 rfl wr.heap.size 35 i0 _ 14 160 Try.underlying40 hii hz0 hz1 hz2 rfl (by decide) _ 0 [] rfl (own_empty hwd) ⟨b, off + d * 14, none⟩ (xs.length - d) (cap - d) ((L.drop d).flatMap ceL) rfl LT1.out (CC1.out _ hHeld) ON1.out (by unfold maxLen; omega) (by omega) hHeld.size ?_; intro v1 wa hown1 hgrow1 _; refine hK.out _ _ ?_ (fun hHeld => ?_); (· exact hHeld.grown hgrow1 hHeld.size (own_form_le (own_empty (e := 35) (k := 14) hwd))); clear hK K
      try simp only [Act.put, List.setIfInBounds_toArray, List.set_cons_zero, List.set_cons_succ]
      refine rg_call (i := 8) (atS (atS (atS (atS (atS (atS (atS (atS at0)))))))) (by kernel_rfl) ?_ (fun K hK => ?_); (· rfl); (try clear hb); refine wp_append_own _ (.tmp 72) (.tmp 75) 40 rfl wr.heap.size 35 i0 _ 14 160 Try.underlying40 hii hz0 hz1 hz2 rfl (by decide) _ (0 + (xs.length - d)) ([] ++ (L.drop d).flatMap ceL) rfl hown1 ⟨b, off, none⟩ d cap ((L.take d).flatMap ceL) rfl LT2.out (CC2.out _ hHeld) ON2.out (by unfold maxLen; omega) (by omega) hHeld.size ?_; intro v2 wb hown2 hgrow2 _; refine hK.out _ _ ?_ (fun hHeld => ?_); (· exact hHeld.grown hgrow2 hHeld.size (own_form_le hown1)); clear hK K
      try simp only [Act.put, List.setIfInBounds_toArray, List.set_cons_zero, List.set_cons_succ]
      refine rg_yes (i := 9) (v := ?_) (atS (atS (atS (atS (atS (atS (atS (atS (atS at0))))))))) (by kernel_rfl) (by kernel_rfl) (by kernel_rfl) (fun _ _ _ h => h) ?_ ?_ hHeld ?_; rotate_left 1; (· rfl); (· intro w' hSw; (try dsimp only at hSw); (try clear hHeld); go_simp; try with_reducible rfl)
      try simp only [Act.put, List.setIfInBounds_toArray, List.set_cons_zero, List.set_cons_succ]
      refine wpAnyH_done (by kernel_rfl) ?_ _
      have OT : Hid (wb.ownsRow wr.heap.size 35 14 v2 (L.drop d ++ L.take d).length ((L.drop d ++ L.take d).flatMap ceL)) := Lib.hid (by
        have hl : (L.drop d ++ L.take d).length = 0 + (xs.length - d) + d := by
          rw [List.length_append, List.length_drop, List.length_take, HLEN.out]; omega
        rw [hl, List.flatMap_append]
        exact hown2)
      have BT := Lib.hid (below_on B.out hHeld)
      generalize wr.heap.size = ob at OT
      clear hown2 hown1 hgrow1 hgrow2 hHeld hwd B CC1 CC2 ON1 ON2 LT1 LT2
      clear k0 k1 k2 k3 k4
      go_upto_region 18 with (fail)
      have OB : Hid ((wb.alloc (.cells #[] 35)).ownsRow wb.heap.size 35 14 (.slice (some ⟨wb.heap.size, 0, none⟩) 0 0) 0 []) := Lib.hid (own_empty (Nat.le_refl _))
      have hbb : Below wb.heap.size wb (wb.alloc (.cells #[] 35)) := (Below.refl _ _).alloc (Nat.le_refl _) _
      have TL : Hid (∀ g, v2.ownBlock = some g → g < wb.heap.size) := Lib.hid (own_lt OT.out)
      have OT2 := Lib.hid (own_below OT.out hbb)
      have BT2 := Lib.hid (below_on BT.out hbb)
      have GB : Hid (w.heap.size ≤ wb.heap.size) := Lib.hid BT.out.size
      have SB : Hid (wb.heap.size ≤ (wb.alloc (.cells #[] 35)).heap.size) := Lib.hid hbb.size
      clear hbb OT BT
      generalize wb.alloc (.cells #[] 35) = W5 at OB OT2 BT2 SB ⊢
      generalize wb.heap.size = bb at OB TL SB GB ⊢
      go_wp2_with fail
      go_loopw [8, 9] (fun o i wr' => ∃ j : Nat, j ≤ xs.length ∧ i = .int .i64 ((xs.length : Int) - 1 - (j : Int)) ∧ Hid (wr'.ownsRow bb 35 14 o j ((L.reverse.take j).flatMap ceL)) ∧ Hid (wr'.ownsRow ob 35 14 v2 (L.drop d ++ L.take d).length ((L.drop d ++ L.take d).flatMap ceL)) ∧ Hid (Below w.heap.size w wr') ∧ Hid (bb ≤ wr'.heap.size)) (fun _ i _ => (intOf i + 1).toNat)
      case atStart => exact ⟨0, by omega, by simp, OB, OT2, BT2, SB⟩
      case round =>
        clear OB OT2 BT2 SB
        obtain ⟨j, hj, rfl, OB, OT, BT, SB⟩ := hrel
        by_cases hjl : j < xs.length
        · obtain ⟨x, hx⟩ : ∃ x, L[L.length - 1 - j]? = some x := ⟨_, List.getElem?_eq_getElem (by have := HLEN.out; omega)⟩
          have RS := Lib.hid (rev_step hx (by have := HLEN.out; omega))
          have LJ : Hid ((L.reverse.take j).length = j) := Lib.hid (by rw [List.length_take, List.length_reverse, HLEN.out]; omega)
          rw [HLEN.out] at hx
          obtain ⟨q, hq⟩ : ∃ q : Nat, q = xs.length - 1 - j := ⟨_, rfl⟩
          rw [← hq] at hx
          have eq1 : (xs.length : Int) - 1 - (j : Int) = (q : Int) := by omega
          have EQ := Lib.hid eq1
          have q1 : (q : Int) < (xs.length : Int) := by omega
          have q0 : (0 : Int) ≤ (q : Int) := by omega
          rw [eq1]
          clear eq1 hq
          have OKX := Lib.hid (HLO.out x (List.mem_of_getElem? hx))
          have HPX := HP.out q x hx
          obtain ⟨⟨c, vp, vc, vo⟩, hxe⟩ : ∃ y : Ce, x = y := ⟨x, rfl⟩
          subst hxe
          obtain ⟨_, ⟨⟨sp, cp, hvp, _⟩, ⟨sc, cc, hvc, _⟩, ⟨so, co, hvo, _⟩⟩⟩ := OKX.out
          simp only at hvp hvc hvo
          subst hvp; subst hvc; subst hvo
          obtain ⟨c0, c1, c2, c3, c4, c5, c6, c7, c8, c9, c10, c11, c12, c13⟩ := cd_cells HPX
          have c0 := (BT.out.cell (size_lt c0)).trans c0
          have c1 := (BT.out.cell (size_lt c1)).trans c1
          have c2 := (BT.out.cell (size_lt c2)).trans c2
          have c3 := (BT.out.cell (size_lt c3)).trans c3
          have c4 := (BT.out.cell (size_lt c4)).trans c4
          have c5 := (BT.out.cell (size_lt c5)).trans c5
          have c6 := (BT.out.cell (size_lt c6)).trans c6
          have c7 := (BT.out.cell (size_lt c7)).trans c7
          have c8 := (BT.out.cell (size_lt c8)).trans c8
          have c9 := (BT.out.cell (size_lt c9)).trans c9
          have c10 := (BT.out.cell (size_lt c10)).trans c10
          have c11 := (BT.out.cell (size_lt c11)).trans c11
          have c12 := (BT.out.cell (size_lt c12)).trans c12
          have c13 := (BT.out.cell (size_lt c13)).trans c13
          clear HPX hx
          go_wp2_with (at_builtin; refine wpList_append_own_at _ rfl _ _ 40 rfl bb 35 i0 _ 14 160 Try.underlying40 hii hz0 hz1 hz2 rfl (by decide) _ j ((L.reverse.take j).flatMap ceL) rfl (OB.out.alloc _) ⟨wr.heap.size, 0, none⟩ 1 1 (ceL ⟨c, .slice sp c.a.path.length cp, .slice sc c.a.comms.length cc, .slice so c.a.others.length co⟩) rfl ?ar1 ?br1 ?cr1 ?dr1 ?er1 ?fr1 ?_)
          case ar1 => rfl
          case br1 => first | exact new_cells _ _ _ | exact fun _ _ h => h
          case cr1 => exact ce_one OKX.out
          case dr1 => unfold maxLen; omega
          case er1 => omega
          case fr1 => have := SB.out; simp; omega
          intro v' w5 hown hgrow _ _
          have hba : Below wr.heap.size wr (wr.alloc (.cells (cdA c (.slice sp c.a.path.length cp) (.slice sc c.a.comms.length cc) (.slice so c.a.others.length co)) 35)) := (Below.refl _ _).alloc (Nat.le_refl _) _
          have O5 : Hid (w5.ownsRow bb 35 14 v' (j + 1) ((L.reverse.take (j + 1)).flatMap ceL)) := Lib.hid (by
            rw [RS.out, flat_snoc]; exact hown)
          have T5 := Lib.hid (own_grown (own_below OT.out hba) hgrow (fun g hg e => by have := own_form_le OB.out g e; have := TL.out g hg; omega))
          have B5 := Lib.hid ((below_on BT.out hba).grown hgrow (Nat.le_trans BT.out.size hba.size) (fun g e => by have := own_form_le OB.out g e; have := GB.out; omega))
          have S5 : Hid (bb ≤ w5.heap.size) := Lib.hid (Nat.le_trans SB.out (Nat.le_trans hba.size hgrow.size))
          clear hown hgrow hba OB OT BT SB OKX RS
          go_wp2_with fail
          exact ⟨⟨j + 1, by omega, by rw [← EQ.out]; congr 1; omega, O5, T5, B5, S5⟩, by rw [← EQ.out]; simp [intOf]; omega⟩
        · obtain rfl : xs.length = j := by omega
          have OB2 : Hid (wr.ownsRow bb 35 14 u8 L.reverse.length (L.reverse.flatMap ceL)) := Lib.hid (by
            have := OB.out
            rw [List.take_of_length_le (by rw [List.length_reverse, HLEN.out]; exact Nat.le_refl _)] at this
            rw [List.length_reverse, HLEN.out]; exact this)
          have HOK2 : ∀ x ∈ L, x.Ok wr := fun x hx => (HLO.out x hx).below BT.out
          have CA := Lib.hid (H.out.below BT.out)
          have CT : Hid (CdsAt wr v2 (xs.drop d ++ xs.take d)) := Lib.hid (by
            have := ces_cds (own_slat (C := ceL) ceL_len OT.out) (fun x hx => HOK2 x (by
              rcases List.mem_append.1 hx with h | h
              · exact List.mem_of_mem_drop h
              · exact List.mem_of_mem_take h))
            rw [List.map_append, List.map_drop, List.map_take, HLX.out] at this
            exact this)
          have CB : Hid (CdsAt wr u8 xs.reverse) := Lib.hid (by
            have := ces_cds (own_slat (C := ceL) ceL_len OB2.out) (fun x hx => HOK2 x (List.mem_reverse.1 hx))
            rw [List.map_reverse, HLX.out] at this
            exact this)
          have BA := Lib.hid (fun W h => BE.out (.slice (some ⟨b, off, none⟩) xs.length cap) xs W (fun _ => Iff.rfl) (by omega) h)
          have BB := Lib.hid (fun W h => BE.out v2 (xs.drop d ++ xs.take d) W (fun c => turn_mem xs d c) (by simp; omega) h)
          have BC := Lib.hid (fun W h => BE.out u8 xs.reverse W (fun c => by simp) (by simp; omega) h)
          obtain ⟨i, c, hic, hbi, _⟩ := bestI_spec hne
          have hil := (List.getElem?_eq_some_iff.1 hic).1
          have eT : bestI (xs.drop d ++ xs.take d) = (((i + xs.length - d) % xs.length : Nat) : Int) := perm_best DI.out (turn_dist DI.out hdl) (turn_mem xs d) hic hbi (turn_at xs hdl hic)
          have eB : bestI xs.reverse = ((xs.length - 1 - i : Nat) : Int) := perm_best DI.out (rev_dist DI.out) (fun c => by simp) hic hbi (rev_at hic)
          rw [hbi] at BA
          rw [eT] at BB
          rw [eB] at BC
          have F1 : Hid ((((i + xs.length - d) % xs.length : Nat) : Int) = ((i : Int) - (d : Int) + (xs.length : Int)) % (xs.length : Int)) := Lib.hid (by
            rw [Int.natCast_emod]
            congr 1
            omega)
          have F2 : Hid (((xs.length - 1 - i : Nat) : Int) = (xs.length : Int) - 1 - (i : Int)) := Lib.hid (by omega)
          have f0 : (0 : Int) ≤ (i : Int) := by omega
          have f1 : (i : Int) < (xs.length : Int) := by omega
          have f2 : (d : Int) < (xs.length : Int) := by omega
          rw [F1.out] at BB
          rw [F2.out] at BC
          clear HOK2 OB2 OB OT hic hbi eT eB F1 F2 DI BE hne HLX HLO HP
          go_wp2_with fail
          refine (BA.out _ CA.out).mono ?_
          rintro e wa ⟨rfl, hba⟩
          have CT := Lib.hid (CT.out.below hba)
          have CB := Lib.hid (CB.out.below hba)
          have B6 := Lib.hid (below_on BT.out hba)
          clear hba CA BA BT
          go_wp2_with fail
          refine (BB.out _ CT.out).mono ?_
          rintro e wc ⟨rfl, hbc⟩
          have CB := Lib.hid (CB.out.below hbc)
          have B7 := Lib.hid (below_on B6.out hbc)
          clear hbc CT BB B6
          go_wp2_with fail
          refine (BC.out _ CB.out).mono ?_
          rintro e we ⟨rfl, hbe⟩
          have B8 := Lib.hid (below_on B7.out hbe)
          clear hbe CB BC B7
          go_wp2_with fail
          go_ret
          exact ⟨ret_bool (by simp), B8.out⟩
theorem turns_no (v : Value) (xs : List Cd) (by_ : Int) (w : World) (h : CdsAt w v xs) (hr : rightL xs = false) : Calls Try.prog 5 #[v, .int .i64 by_] w fun e w' => e = .returned (.bool true) ∧ Below w.heap.size w w' := by
  have H := Lib.hid h
  have RI := Lib.hid (fun W h => law_right v xs W h)
  rw [hr] at RI
  clear h hr
  go_enter Try.func5, Try.ntmps5
  go_wp2_with fail
  refine (law_head _).mono ?_
  rintro e w1 ⟨rfl, hb1⟩
  have H1 := Lib.hid (H.out.below hb1)
  go_wp2_with fail
  refine (RI.out _ H1.out).mono ?_
  rintro e w2 ⟨rfl, hb2⟩
  go_wp2_with fail
  go_ret
  exact ⟨rfl, below_on hb1 hb2⟩
theorem turns_nil (v : Value) (by_ : Int) (w : World) (h : CdsAt w v []) : Calls Try.prog 5 #[v, .int .i64 by_] w fun e w' => e = .returned (.bool true) ∧ Below w.heap.size w w' := by
  have H := Lib.hid h
  have RI := Lib.hid (fun W h => law_right v [] W h)
  rw [show rightL [] = true from rfl] at RI
  obtain ⟨sa, cap, rfl, _⟩ := h
  simp only [List.length_nil] at H RI ⊢
  go_enter Try.func5, Try.ntmps5
  go_wp2_with fail
  refine (law_head _).mono ?_
  rintro e w1 ⟨rfl, hb1⟩
  have H1 := Lib.hid (H.out.below hb1)
  go_wp2_with fail
  refine (RI.out _ H1.out).mono ?_
  rintro e w2 ⟨rfl, hb2⟩
  go_wp2_with fail
  go_ret
  exact ⟨rfl, below_on hb1 hb2⟩
theorem law_ChooseTurns (v : Value) (xs : List Cd) (by_ : Int) (w : World) (h : CdsAt w v xs) : Calls Try.prog 5 #[v, .int .i64 by_] w fun e w' => e = .returned (.bool true) ∧ Below w.heap.size w w' := by
  cases hr : rightL xs
  · exact turns_no v xs by_ w h hr
  · cases xs with
    | nil => exact turns_nil v by_ w h
    | cons c xs => exact turns_walk v (c :: xs) by_ w h hr (by simp)
namespace chooseTurns
open Go.ChangeShapes Go.WideShapes Go.ChangeAt Go.RowKit
set_option linter.unusedVariables false
set_option maxRecDepth 100000 in
theorem lifted (os : Os) (started : os.Started) (H : Type) (enc : TypeId × Value → H) :
    ReturnsInHanded {} Try.checked os 5 .any (Rows.chooseTurnsSpec.pre6 enc Try.prog Try.f5 Rows.chooseTurnsRow.domain false) (Rows.chooseTurnsSpec.post enc Try.prog Try.f5 false true false false) := by
  refine returnsInHanded_of_change (C := Try.checked) fr_own started (by kernel_rfl) Try.func5
    (ChangeSpec.witness6 (enc := enc) (C := Try.checked) false ⟨#[], #[.slice none 0 0, .int .i64 0], []⟩ 8 (by kernel_rfl) (by kernel_rfl) (by kernel_rfl) (by kernel_rfl)) ?_
  intro W base args ds gs before hval0 hW hcnd _
  have hval : ∀ (j : Nat) t v, Try.f5.params[j]? = some t → args[j]? = some v → Value.okWide Try.prog W .any base t v := hval0
  have hW' := hW
  obtain ⟨p, q, hA0, hV, rfl, hfz, hnd⟩ := hW
  have hA : DataW.TrodAll enc Try.prog W 0 (fun _ => true) true Try.f5.params.toList args.toList ds p := hA0
  rw [Try.params5] at hA hval
  obtain ⟨v0, vs0, d0, ds0, p0, q0, hargs, rfl, rfl, h0, r0⟩ := trodAll_cons hA
  obtain ⟨v1, vs1, d1, ds1, p1, q1, rfl, rfl, rfl, h1, r1⟩ := trodAll_cons r0
  obtain ⟨rfl, rfl, rfl⟩ := trodAll_nil r1
  obtain rfl : args = #[v0, v1] := by cases args; simp_all
  obtain ⟨rfl, rfl⟩ := trodVars_none hV
  have lt0 : ∀ x ∈ p0, x.block < W.heap.size := by obtain ⟨m, hm⟩ := h0; exact DataW.trod_lt m _ _ _ hm
  have lt1 : ∀ x ∈ p1, x.block < W.heap.size := by obtain ⟨m, hm⟩ := h1; exact DataW.trod_lt m _ _ _ hm
  obtain ⟨xs, hS⟩ := open_cands (hval 0 40 v0 rfl rfl) h0
  obtain ⟨n, rfl, hn0, hn1⟩ := open_i64 (hval 1 3 v1 rfl rfl)
  clear hA0 hval0
  refine (law_ChooseTurns _ xs n W hS).mono fun e W' ⟨he, bel⟩ => ?_
  subst he
  exact ⟨_, rfl, _, _, _, [], _, [], hW', trodAll_mk1 (shut_bool Try.underlying4 _), (trodAll_cons_mk (Below.trod fr_laidOut (by kernel_rfl) (of_decide_eq_true (by kernel_rfl)) h0 bel lt0) (trodAll_cons_mk (Below.trod fr_laidOut (by kernel_rfl) (of_decide_eq_true (by kernel_rfl)) h1 bel lt1) trodAll_mk0)), rfl, bel.frame _, fun h => by cases h⟩
theorem over : Rows.chooseTurnsRow.holds Try.pinned (OpenSpec.ofChange Rows.chooseTurnsSpec) :=
  OpenClaim.holds_of_wide 5 Try.f5 rfl rfl rfl rfl rfl rfl rfl ⟨rfl, rfl, rfl, rfl, rfl⟩ rfl rfl rfl rfl rfl (by kernel_rfl) Try.func5 (by kernel_rfl)
    (of_decide_eq_true (by kernel_rfl)) (by unfold Func.isWrapper; first | (rw [if_pos (by decide +kernel)]; kernel_rfl) | (rw [if_neg (by decide +kernel)]; exact ⟨rfl, rfl⟩))
    (fun os started H enc _ => lifted os started H enc)
/-- THE STATEMENT ChooseTurns. -/
theorem proved : Rows.ChooseTurnsSaid := over
#print axioms proved
end chooseTurns
end Go.Proofs.Ytfkplbkllmnfeaa
