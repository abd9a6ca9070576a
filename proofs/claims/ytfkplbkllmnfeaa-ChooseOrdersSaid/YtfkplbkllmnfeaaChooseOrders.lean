/-
  ChooseOrders: all routes in order: each once; each the best of those behind it; for all candidates; no condition.
-/
import Derived.Test.YtfkplbkllmnfeaaChN
namespace Go.Proofs.Ytfkplbkllmnfeaa
open Go.RowKit

theorem info_bool : (Try.prog.info? 4).map (fun i => (i.zero, i.size, i.bytes)) = some (some (.bool false), 1, 1) := by kernel_rfl
theorem idxs_step (k : Nat) (gone : List Int) : idxs (k + 1) gone = idxs k gone ++ (if gone.contains (k : Int) then [] else [k]) := by
  unfold idxs
  rw [List.range_succ, List.filter_append]
  congr 1
  rw [List.filter_cons]
  cases gone.contains (k : Int) <;> rfl
/-- which are gone. -/
def GoneAt (w : World) (gb n : Nat) (gone : List Int) : Prop := (∀ i : Nat, i < n → w.cell? ⟨gb, i, none⟩ = some (.bool (gone.contains (i : Int)))) ∧ w.there gb 0 n
theorem GoneAt.below {w w' : World} {gb n : Nat} {gone : List Int} (h : GoneAt w gb n gone) (hb : Below w.heap.size w w') : GoneAt w' gb n gone := ⟨fun i hi => cell_below (h.1 i hi) hb, there_below h.2 hb⟩
theorem GoneAt.belowB {w w' : World} {B gb n : Nat} {gone : List Int} (h : GoneAt w gb n gone) (hb : Below B w w') (hg : gb < B) : GoneAt w' gb n gone :=
  ⟨fun i hi => by rw [hb.cell hg]; exact h.1 i hi, fun j hj => by
    obtain ⟨h1, h2⟩ := h.2 j hj
    exact ⟨by rw [hb.cell hg]; exact h1, (hb.frozen (p := ⟨gb, 0 + j, none⟩) hg).trans h2⟩⟩
theorem own_apart {w : World} {B B' k k' n n' : Nat} {e e' : TypeId} {v v' : Value} {xs xs' : List Value} (h : w.ownsRow B e k v n xs) (h' : w.ownsRow B' e' k' v' n' xs') (hne : e' ≠ e) : ∀ g, v'.ownBlock = some g → v.ownBlock ≠ some g := by
  obtain ⟨_, ⟨rfl, _⟩ | ⟨g', cap, cur, rfl, _, h5, _⟩⟩ := h'
  · intro g hg; cases hg
  · intro g hg; cases hg; exact own_type h h5 hne
/-- the place that Order gives at each round: not gone yet; the best of those left. -/
theorem ord_round {xs : List Cd} {out : List Int} (h : OrdSt (rksOf xs) [] out) {p : Nat} {k : Int} (hk : out[p]? = some k) :
    ∃ i : Nat, k = i ∧ i < xs.length ∧ (out.take p).contains (i : Int) = false ∧ ∃ q : Nat, bestI (restOf xs (out.take p)) = q ∧ (idxs xs.length (out.take p))[q]? = some i := by
  obtain ⟨r, rfl, hb⟩ := h.best p k hk
  obtain ⟨q, h1, i, h2, h3⟩ := rest_best hb
  have hm := List.mem_of_getElem? h2
  refine ⟨i, h3, idxs_lt hm, ?_, q, h1, h2⟩
  have := (List.mem_filter.1 hm).2
  simpa using this
theorem gone_made {w : World} {B g n : Nat} (h : w.ownsRow B 4 1 (.slice (some ⟨g, 0, none⟩) n n) n (madeCells #[.bool false] n).toList) : GoneAt w g n [] := by
  have ht := there_own h
  rw [Nat.mul_one] at ht
  obtain ⟨_, ⟨h1, _⟩ | ⟨g', cap, cur, h1, _, hg, _, _, hsz, hcur⟩⟩ := h
  · cases h1
  · injection h1 with e1 e2 e3
    injection e1 with e1
    injection e1 with e1
    subst e1; subst e3
    refine ⟨fun i hi => ?_, ht⟩
    have hf : (cur.toList.take (n * 1))[i]? = some (.bool false) := by
      rw [hcur, toList_madeCells_one, List.getElem?_replicate, if_pos hi]
    rw [List.getElem?_take_of_lt (by omega)] at hf
    rw [row_cell hg]
    simpa using hf
theorem GoneAt.set {w : World} {gb n i : Nat} {gone : List Int} (h : GoneAt w gb n gone) (hi : i < n) : GoneAt (w.setCell ⟨gb, i, none⟩ (.bool true)) gb n (gone ++ [(i : Int)]) := by
  refine ⟨fun j hj => ?_, World.there_setCells h.2 gb i [.bool true]⟩
  by_cases e : j = i
  · subst e
    rw [World.cell?_setCell_same _ _ _ (h.1 j hj)]
    simp
  · rw [World.cell?_setCell_other _ _ _ _ (by intro q; injection q with _ q _; exact e q.symm), h.1 j hj]
    congr 2
    rw [List.contains_append]
    simp
    intro q; exact absurd (by omega) e
def restTo (xs : List Cd) (j : Nat) (gone : List Int) : List Cd := (idxs j gone).map fun i => xs.getD i cdZ0
theorem rest_step {xs : List Cd} {j : Nat} {gone : List Int} {c : Cd} (h : xs[j]? = some c) (hg : gone.contains (j : Int) = false) : idxs (j + 1) gone = idxs j gone ++ [j] ∧ restTo xs (j + 1) gone = restTo xs j gone ++ [c] := by
  have e := idxs_step j gone
  rw [hg] at e
  refine ⟨e, ?_⟩
  unfold restTo
  rw [e]
  simp [List.getD_eq_getElem?_getD, h]
theorem rest_skip {xs : List Cd} {j : Nat} {gone : List Int} (hg : gone.contains (j : Int) = true) : idxs (j + 1) gone = idxs j gone ∧ restTo xs (j + 1) gone = restTo xs j gone := by
  have e := idxs_step j gone
  rw [hg] at e
  have e2 : idxs (j + 1) gone = idxs j gone := by rw [e]; simp
  exact ⟨e2, by unfold restTo; rw [e2]⟩
theorem rest_mem {xs : List Cd} {gone : List Int} : ∀ c ∈ restOf xs gone, c ∈ xs := by
  intro c hc
  unfold restOf at hc
  obtain ⟨i, hi, rfl⟩ := List.mem_map.1 hc
  have := idxs_lt hi
  simp [List.getD_eq_getElem?_getD, this]
theorem idxs_len (n : Nat) (gone : List Int) : (idxs n gone).length ≤ n := by
  have := List.length_filter_le (fun i : Nat => !gone.contains (i : Int)) (List.range n)
  simpa [idxs] using this
theorem two_made (w : World) : ∃ W : World, W = (w.alloc (.cells #[] 48)).alloc (.cells #[] 3) ∧ W.ownsRow w.heap.size 48 7 (.slice (some ⟨w.heap.size, 0, none⟩) 0 0) 0 [] ∧ W.ownsRow w.heap.size 3 1 (.slice (some ⟨w.heap.size + 1, 0, none⟩) 0 0) 0 [] ∧ Below w.heap.size w W := by
  refine ⟨_, rfl, own_below (own_empty (Nat.le_refl _)) ((Below.refl _ _).alloc (Nat.le_refl _) _), ?_, ((Below.refl _ _).alloc (Nat.le_refl _) _).alloc (by simp) _⟩
  have := own_empty (w := w.alloc (.cells #[] 48)) (B := w.heap.size) (e := 3) (k := 1) (by simp)
  simpa using this
set_option maxHeartbeats 12800000 in
set_option maxRecDepth 100000 in
theorem law_ChooseOrders (v : Value) (xs : List Cd) (w : World) (h : CdsAt w v xs) : Calls Try.prog 7 #[v] w fun e w' => e = .returned (.bool true) ∧ Below w.heap.size w w' := by
  obtain ⟨i0, hii, hz0, hz1, hz2⟩ := info_parts info_int
  obtain ⟨r0, hri, hr0, hr1, hr2⟩ := info_parts info_rr
  obtain ⟨b0, hbi, hb0, hb1, hb2⟩ := info_parts info_bool
  have H := Lib.hid h
  obtain ⟨sa, cap, rfl, hlc, hcm, hV⟩ := h
  have RI := Lib.hid (fun W h => law_right (.slice sa xs.length cap) xs W h)
  have HV := Lib.hid hV
  unfold maxLen at hcm
  clear hV
  cases hr : rightL xs
  · rw [hr] at RI
    clear hr
    go_enter Try.func7, Try.ntmps7
    go_wp2_with fail
    refine (law_head _).mono ?_
    rintro e w1 ⟨rfl, hb1⟩
    have H1 := Lib.hid (H.out.below hb1)
    go_wp2_with fail
    refine (RI.out _ H1.out).mono ?_
    rintro e w2 ⟨rfl, hb2⟩
    go_wp2_with fail
    go_ret
    exact ⟨rfl, below_on hb1 hb2⟩
  · rw [hr] at RI
    obtain ⟨h12, hR⟩ := right_of hr
    have RNG := cds_rng H.out
    have hn : xs.length ≤ 100000 := by omega
    have hh : ∀ c ∈ xs, hopsN c.a.path ≤ 4611686018427387904 := fun c hc => by have := (hR c hc).hops; omega
    have OR := Lib.hid (fun W h => ch_Order (.slice sa xs.length cap) xs W h hn hh)
    have PL := Lib.hid (fun c vp vc vo W (hm : c ∈ xs) hA => ch_plain c vp vc vo W hA (hh c hm))
    have RB := Lib.hid (fun u (ys : List Cd) W (hm : ∀ c ∈ ys, c ∈ xs) (hl : ys.length ≤ 100000) h => ref_Best u (ys.map rtOf) W h (by simpa using hl) (fun r hr => by
      obtain ⟨c, hc, rfl⟩ := List.mem_map.1 hr
      exact rt_ok (hR c (hm c hc)) (RNG c (hm c hc))) rb6_ne)
    have EQ := Lib.hid (fun (ys : List Cd) (hm : ∀ c ∈ ys, c ∈ xs) (hne : ys ≠ []) => ref_best ys hne (fun d hd => (hR d (hm d hd)).med))
    clear hr hR RNG hh
    go_enter Try.func7, Try.ntmps7
    go_wp2_with fail
    refine (law_head _).mono ?_
    rintro e w1 ⟨rfl, hb1⟩
    have H1 := Lib.hid (H.out.below hb1)
    go_wp2_with fail
    refine (RI.out _ H1.out).mono ?_
    rintro e w2 ⟨rfl, hb2⟩
    have H2 := Lib.hid (H1.out.below hb2)
    have B2 := Lib.hid (below_on hb1 hb2)
    clear hb1 hb2 H1 RI
    go_wp2_with fail
    refine (OR.out _ H2.out).mono ?_
    rintro e w3 ⟨vo, out, rfl, OS, SO, hb3⟩
    have hol : out.length = xs.length := by have := OS.len; rw [rksOf_len] at this; simpa using this
    have OS := Lib.hid OS
    have SO2 := Lib.hid SO
    obtain ⟨so, co, rfl, hlo, hco, -⟩ := SO
    rw [hol] at SO2 ⊢
    have HL := Lib.hid hol
    have B3 := Lib.hid (below_on B2.out hb3)
    have W3 := Lib.hid B3.out.size
    clear hb3 H2 B2 OR hol
    go_wp2_with (refine wpList_make_full _ rfl _ _ 52 rfl w3.heap.size 4 b0 _ 1 Try.underlying52 hbi hb0 hb1 .i64 .i64 (xs.length : Int) (xs.length : Int) xs.length rfl rfl rfl rfl (by rw [hb2]; omega) (by unfold maxLen; omega) (Nat.le_refl _) ?_)
    intro w4 hown hgrow
    have G4 := Lib.hid (gone_made hown)
    have B4' := (Below.refl w3.heap.size w3).grown hgrow (Nat.le_refl _) (fun j hj => by cases hj)
    have B4 := Lib.hid (below_on B3.out B4')
    have GL : Hid (w3.heap.size < w4.heap.size ∨ xs.length = 0) := Lib.hid (by
      by_cases h0 : xs.length = 0
      · exact .inr h0
      · exact .inl (size_lt (G4.out.1 0 (by omega))))
    have HO : Hid (∀ (p : Nat) (k : Int), out[p]? = some k → ∃ bo oo, so = some ⟨bo, oo, none⟩ ∧ bo < w3.heap.size ∧ w4.cell? ⟨bo, oo + p * 1, none⟩ = some (.int .i64 k)) := Lib.hid (by
      intro p k hk
      obtain ⟨sa', cap', e1, _, _, hV⟩ := SO2.out
      obtain ⟨b, off, rfl, hP⟩ := hV (by have := (List.getElem?_eq_some_iff.1 hk).1; omega)
      obtain ⟨cs, _, rfl, hc⟩ := hP p k hk
      have c0 := hc 0 _ rfl
      simp only [Nat.add_zero] at c0
      have hlt := size_lt c0
      injection e1 with e1 _ _
      exact ⟨b, off, e1, hlt, (B4'.cell hlt).trans c0⟩)
    clear hown hgrow B4' B3 SO2
    have GW : Hid (w.heap.size ≤ w3.heap.size) := W3
    generalize w3.heap.size = gb at G4 GL HO GW ⊢
    go_wp2_with fail
    go_loopw [29] (fun vi wr => ∃ p : Nat, p ≤ xs.length ∧ vi = .int .i64 p ∧ Hid (GoneAt wr gb xs.length (out.take p)) ∧ Hid (Kept (fun b => b = gb) w4 wr)) (fun vi _ => xs.length - (intOf vi).toNat)
    case atStart => exact ⟨0, by omega, rfl, by rw [List.take_zero]; exact G4, Lib.hid (Kept.refl _ _)⟩
    case round =>
      clear G4
      obtain ⟨p, hp, rfl, G, K⟩ := hrel
      by_cases hlt : p < xs.length
      · obtain ⟨k, hk⟩ : ∃ k, out[p]? = some k := ⟨_, List.getElem?_eq_getElem (by rw [HL.out]; exact hlt)⟩
        obtain ⟨i, rfl, hi, hgi, q, hq1, hq2⟩ := ord_round OS.out hk
        obtain ⟨bo, oo, rfl, hbo, hcell⟩ := HO.out p _ hk
        have e0 := K.out.cell hcell (by show ¬ bo = gb; omega)
        have g0 := G.out.1 i hi
        rw [hgi] at g0
        simp only [Nat.mul_one] at e0
        have E0 := Lib.hid e0
        have j0 : (0 : Int) ≤ (p : Int) := by omega
        have j1 : (p : Int) < (xs.length : Int) := by omega
        have i0' : (0 : Int) ≤ (i : Int) := by omega
        have i1 : (i : Int) < (xs.length : Int) := by omega
        have Q1 := Lib.hid hq1
        have Q2 := Lib.hid hq2
        have HK := Lib.hid hk
        clear hq1 hq2 hk hcell hgi
        have d0 : decide ((i : Int) < 0) = false := decide_eq_false (by omega)
        have d1 : decide (xs.length ≤ i) = false := decide_eq_false (by omega)
        go_upto_region 16 with (fail)
        rename World => wo
        obtain ⟨W0, hW0, OR0, OI0, hb0⟩ := two_made wo
        rw [← hW0]
        clear hW0
        have OR := Lib.hid OR0
        have OI := Lib.hid OI0
        have B0 := Lib.hid hb0
        have BR : Hid (Below w.heap.size w wo) := Lib.hid (B4.out.trans (K.out.below B4.out.size (fun k hk => by rw [hk]; exact GW.out)))
        have GW4 : Hid (gb < wo.heap.size) := Lib.hid (size_lt g0)
        clear OR0 OI0 hb0 g0 e0 E0 HO
        obtain ⟨gone, hgone⟩ : ∃ gone, gone = out.take p := ⟨_, rfl⟩
        rw [← hgone] at G Q1 Q2
        have TK : Hid (out.take (p + 1) = gone ++ [(i : Int)]) := Lib.hid (by
          rw [hgone]
          obtain ⟨h1, h2⟩ := List.getElem?_eq_some_iff.1 HK.out
          rw [List.take_succ_eq_append_getElem h1, h2])
        clear hgone HK OS
        generalize hB : wo.heap.size = B at OR OI B0 GW4 ⊢
        go_wp2_with fail
        go_loopw [7, 8, 51] (fun o7 o8 t wi => ∃ j : Nat, j ≤ xs.length ∧ t = .int .i64 j ∧ Hid (wi.ownsRow B 48 7 o7 (restTo xs j gone).length (((restTo xs j gone).map rtOf).flatMap rtL)) ∧ Hid (wi.ownsRow B 3 1 o8 (idxs j gone).length ((castL (idxs j gone)).flatMap intL)) ∧ Hid (Below B wo wi) ∧ Hid (B ≤ wi.heap.size)) (fun _ _ t _ => xs.length - (intOf t).toNat)
        case atStart => exact ⟨0, by omega, rfl, OR, OI, B0, Lib.hid (by have := B0.out.size; omega)⟩
        case round =>
          clear OR OI B0
          obtain ⟨j, hj, rfl, OR, OI, B1, BS⟩ := hrel
          have BW : Hid (Below w.heap.size w wr) := Lib.hid (by
            have := B1.out
            rw [← hB] at this
            exact below_on BR.out this)
          by_cases hlt2 : j < xs.length
          · obtain ⟨c, hc⟩ : ∃ s, xs[j]? = some s := ⟨_, List.getElem?_eq_getElem hlt2⟩
            obtain ⟨b, off, hsa, hP⟩ := HV.out (by omega)
            subst hsa
            obtain ⟨cs, _, ⟨vp, vc, vo, rfl, _, hA⟩, hcs⟩ := hP j c hc
            have HA := Lib.hid (hA)
            obtain ⟨⟨sp, cp, rfl, _⟩, ⟨sc, cc, rfl, _⟩, ⟨so, co, rfl, _⟩⟩ := hA
            obtain ⟨c0, c1, c2, c3, c4, c5, c6, c7, c8, c9, c10, c11, c12, c13⟩ := cd_cells hcs
            have c0 := (BW.out.cell (size_lt c0)).trans c0
            have c1 := (BW.out.cell (size_lt c1)).trans c1
            have c2 := (BW.out.cell (size_lt c2)).trans c2
            have c3 := (BW.out.cell (size_lt c3)).trans c3
            have c4 := (BW.out.cell (size_lt c4)).trans c4
            have c5 := (BW.out.cell (size_lt c5)).trans c5
            have c6 := (BW.out.cell (size_lt c6)).trans c6
            have c7 := (BW.out.cell (size_lt c7)).trans c7
            have c8 := (BW.out.cell (size_lt c8)).trans c8
            have c9 := (BW.out.cell (size_lt c9)).trans c9
            have c10 := (BW.out.cell (size_lt c10)).trans c10
            have c11 := (BW.out.cell (size_lt c11)).trans c11
            have c12 := (BW.out.cell (size_lt c12)).trans c12
            have c13 := (BW.out.cell (size_lt c13)).trans c13
            have G1 := Lib.hid (G.out.belowB B1.out GW4.out)
            have g1 := G1.out.1 j hlt2
            have k0 : (0 : Int) ≤ (j : Int) := by omega
            have k1 : (j : Int) < (xs.length : Int) := by omega
            have RO := Lib.hid (fun W h => PL.out c (.slice sp c.a.path.length cp) (.slice sc c.a.comms.length cc) (.slice so c.a.others.length co) W (List.mem_of_getElem? hc) h)
            cases hgj : gone.contains (j : Int)
            · have ST := rest_step hc hgj
              rw [hgj] at g1
              clear hP hcs hc hgj
              go_upto_region 19 with (fail)
              obtain ⟨W1, hW1, q, hb1, _⟩ := takeCd wr (cdA c (.slice sp c.a.path.length cp) (.slice sc c.a.comms.length cc) (.slice so c.a.others.length co))
              rw [← hW1]
              clear hW1 c0 c1 c2 c3 c4 c5 c6 c7 c8 c9 c10 c11 c12 c13
              have g1 := cell_below g1 hb1
              have BW1 := Lib.hid (below_on BW.out hb1)
              have HA1 := Lib.hid (HA.out.below BW1.out)
              obtain ⟨c0, c1, c2, c3, c4, c5, c6, c7, c8, c9, c10, c11, c12, c13⟩ := cd_row q
              have OR2 := Lib.hid (own_below OR.out hb1)
              have OI2 := Lib.hid (own_below OI.out hb1)
              have B2 := Lib.hid (B1.out.trans (hb1.mono BS.out))
              have BS2 := Lib.hid (Nat.le_trans BS.out hb1.size)
              clear q hb1 OR OI B1 BS BW
              go_wp2_with fail
              refine (RO.out _ HA1.out).mono ?_
              rintro e w5 ⟨rfl, hb5⟩
              have OR3 := Lib.hid (own_below OR2.out hb5)
              have OI3 := Lib.hid (own_below OI2.out hb5)
              have B3 := Lib.hid (B2.out.trans (hb5.mono BS2.out))
              have BS3 := Lib.hid (Nat.le_trans BS2.out hb5.size)
              clear hb5 OR2 OI2 B2 BS2 c0 c1 c2 c3 c4 c5 c6 c7 c8 c9 c10 c11 c12 c13 RO BW1 HA1
              have LN : Hid (((restTo xs j gone).map rtOf).length = (restTo xs j gone).length) := Lib.hid (by rw [List.length_map])
              have LI : Hid ((castL (idxs j gone)).length = (idxs j gone).length) := Lib.hid (castL_len _)
              have LB : Hid ((idxs j gone).length ≤ j) := Lib.hid (idxs_len j gone)
              have LR : Hid ((restTo xs j gone).length = (idxs j gone).length) := Lib.hid (by unfold restTo; rw [List.length_map])
              go_wp2_with (at_builtin; refine wpList_append_own_at _ rfl _ _ 44 rfl B 48 r0 _ 7 56 Try.underlying44 hri hr0 hr1 hr2 rfl (by decide) _ (restTo xs j gone).length (((restTo xs j gone).map rtOf).flatMap rtL) rfl (OR3.out.alloc _) ⟨w5.heap.size, 0, none⟩ 1 1 (rtL (rtOf c)) rfl ?ar1 ?br1 ?cr1 ?dr1 ?er1 ?fr1 ?_)
              case ar1 => rfl
              case br1 => exact new_cells _ _ _
              case cr1 => exact rtL_one _
              case dr1 => have := LB.out; have := LR.out; unfold maxLen; omega
              case er1 => have := LB.out; have := LR.out; omega
              case fr1 => have := BS3.out; simp; omega
              intro v' w6 hown hgrow _ _
              have ba := (Below.refl w5.heap.size w5).alloc (Nat.le_refl _) (.cells (rtA (rtOf c)) 48)
              have OI6 : Hid (w6.ownsRow B 3 1 u8 (idxs j gone).length ((castL (idxs j gone)).flatMap intL)) := Lib.hid (own_grown (own_below OI3.out ba) hgrow (own_apart OR3.out OI3.out (by decide)))
              have OR6 : Hid (w6.ownsRow B 48 7 v' (restTo xs (j + 1) gone).length (((restTo xs (j + 1) gone).map rtOf).flatMap rtL)) := Lib.hid (by
                rw [ST.2, List.length_append, List.map_append, List.map_cons, List.map_nil, flat_snoc]
                exact hown)
              have B6 : Hid (Below B wo w6) := Lib.hid ((B3.out.alloc BS3.out _).grown hgrow (by have := BS3.out; simp; omega) (own_form_le OR3.out))
              have BS6 : Hid (B ≤ w6.heap.size) := Lib.hid (by have := BS3.out; have := hgrow.size; simp at this; omega)
              clear hown hgrow ba OI3 OR3 B3 BS3
              go_wp2_with (at_builtin; refine wpList_append_own_at _ rfl _ _ 28 rfl B 3 i0 _ 1 8 Try.underlying28 hii hz0 hz1 hz2 rfl (by decide) _ (idxs j gone).length ((castL (idxs j gone)).flatMap intL) rfl (OI6.out.alloc _) ⟨w6.heap.size, 0, none⟩ 1 1 (intL (j : Int)) rfl ?ar2 ?br2 ?cr2 ?dr2 ?er2 ?fr2 ?_)
              case ar2 => rfl
              case br2 => exact new_cells _ _ _
              case cr2 => intro u hu; simp at hu; subst hu; rfl
              case dr2 => have := LB.out; unfold maxLen; omega
              case er2 => have := LB.out; omega
              case fr2 => have := BS6.out; simp; omega
              intro v8 w7 hown hgrow _ _
              have ba := (Below.refl w6.heap.size w6).alloc (Nat.le_refl _) (.cells #[.int .i64 (j : Int)] 3)
              have OR7 := Lib.hid (own_grown (own_below OR6.out ba) hgrow (own_apart OI6.out OR6.out (by decide)))
              have OI7 : Hid (w7.ownsRow B 3 1 v8 (idxs (j + 1) gone).length ((castL (idxs (j + 1) gone)).flatMap intL)) := Lib.hid (by
                rw [ST.1, List.length_append]
                have : castL (idxs j gone ++ [j]) = castL (idxs j gone) ++ [(j : Int)] := by simp [castL]
                rw [this, flat_snoc]
                exact hown)
              have B7 : Hid (Below B wo w7) := Lib.hid ((B6.out.alloc BS6.out _).grown hgrow (by have := BS6.out; simp; omega) (own_form_le OI6.out))
              have BS7 : Hid (B ≤ w7.heap.size) := Lib.hid (by have := BS6.out; have := hgrow.size; simp at this; omega)
              clear hown hgrow ba OI6 OR6 B6 BS6
              go_wp2_with fail
              exact ⟨⟨j + 1, by omega, by go_num, OR7, OI7, B7, BS7⟩, by simp [intOf]; omega⟩
            · have ST := rest_skip (xs := xs) hgj
              rw [hgj] at g1
              clear hP hcs hc hgj
              go_upto_region 19 with (fail)
              obtain ⟨W1, hW1, q, hb1, _⟩ := takeCd wr (cdA c (.slice sp c.a.path.length cp) (.slice sc c.a.comms.length cc) (.slice so c.a.others.length co))
              rw [← hW1]
              clear hW1 c0 c1 c2 c3 c4 c5 c6 c7 c8 c9 c10 c11 c12 c13 q
              have g1 := cell_below g1 hb1
              have OR2 : Hid (W1.ownsRow B 48 7 u7 (restTo xs (j + 1) gone).length (((restTo xs (j + 1) gone).map rtOf).flatMap rtL)) := Lib.hid (by rw [ST.2]; exact own_below OR.out hb1)
              have OI2 : Hid (W1.ownsRow B 3 1 u8 (idxs (j + 1) gone).length ((castL (idxs (j + 1) gone)).flatMap intL)) := Lib.hid (by rw [ST.1]; exact own_below OI.out hb1)
              have B2 := Lib.hid (B1.out.trans (hb1.mono BS.out))
              have BS2 := Lib.hid (Nat.le_trans BS.out hb1.size)
              clear hb1 OR OI B1 BS BW RO
              go_wp2_with fail
              exact ⟨⟨j + 1, by omega, by go_num, OR2, OI2, B2, BS2⟩, by simp [intOf]; omega⟩
          · obtain rfl : j = xs.length := by omega
            have RT : Hid (RtsAt wr u7 ((restOf xs gone).map rtOf)) := Lib.hid (own_slat (C := rtL) rtL_len (by rw [List.length_map]; exact OR.out))
            have IA := own_slat (C := intL) (xs := castL (idxs xs.length gone)) intL_len (by rw [castL_len]; exact OI.out)
            obtain ⟨si, ci, rfl, _, _, hI⟩ := IA
            have hq := (List.getElem?_eq_some_iff.1 Q2.out).1
            obtain ⟨bi, oi, rfl, hI2⟩ := hI (by rw [castL_len]; omega)
            obtain ⟨cs, _, rfl, hc⟩ := hI2 q _ (castL_get Q2.out)
            have c0 := hc 0 _ rfl
            simp only [Nat.add_zero, Nat.mul_one] at c0
            clear hI hI2 hc
            rw [castL_len]
            have CX := Lib.hid c0
            have bne : Hid (bi ≠ gb) := Lib.hid (by
              have := own_form_le OI.out bi rfl
              have := GW4.out
              omega)
            have k0 : (0 : Int) ≤ (q : Int) := by omega
            have k1 : (q : Int) < ((idxs xs.length gone).length : Int) := by omega
            have RQ : Hid (Calls Try.prog 13 #[u7] wr fun e w' => e = .returned (.int .i64 q) ∧ Below wr.heap.size wr w') := Lib.hid (by
              have hne : restOf xs gone ≠ [] := by
                intro e
                have := congrArg List.length e
                unfold restOf at this
                rw [List.length_map, List.length_nil] at this
                omega
              refine (RB.out u7 (restOf xs gone) wr rest_mem (by unfold restOf; rw [List.length_map]; have := idxs_len xs.length gone; omega) RT.out).mono ?_
              rintro e w' ⟨rfl, hb⟩
              rw [EQ.out _ rest_mem hne, Q1.out]
              exact ⟨rfl, hb⟩)
            clear c0 OR OI RT hq Q1 Q2
            have G1 := Lib.hid (G.out.belowB B1.out GW4.out)
            clear G
            go_wp2_with fail
            refine RQ.out.mono ?_
            rintro e w8 ⟨rfl, hb8⟩
            have c0 := cell_below CX.out hb8
            have G8 := Lib.hid (G1.out.below hb8)
            have g8 := G8.out.1 i hi
            have f8 : w8.frozen? ⟨gb, i, none⟩ = false := by have := (G8.out.2 i hi).2; rwa [Nat.zero_add] at this
            have K8 : Hid (Kept (fun b => b = gb) w4 w8) := Lib.hid (K.out.trans (Kept.of_below (by
              have := B1.out
              rw [← hB] at this
              exact below_on this hb8)))
            clear hb8 G1 K B1 CX RQ
            go_wp2_with fail
            have G9 : Hid (GoneAt (w8.setCell ⟨gb, i, none⟩ (.bool true)) gb xs.length (out.take (p + 1))) := Lib.hid (by rw [TK.out]; exact G8.out.set hi)
            have K9 : Hid (Kept (fun b => b = gb) w4 (w8.setCell ⟨gb, i, none⟩ (.bool true))) := Lib.hid (K8.out.trans (Kept.setCell _ _ rfl))
            exact ⟨⟨p + 1, by omega, by go_num, G9, K9⟩, by simp [intOf]; omega⟩
      · obtain rfl : p = xs.length := by omega
        have BB := Lib.hid (below_on (show Below w.heap.size w w from Below.refl _ _) (B4.out.trans (K.out.below B4.out.size (fun k hk => by rw [hk]; exact GW.out))))
        clear G K
        go_wp2_with fail
        go_ret
        exact ⟨rfl, BB.out⟩
namespace chooseOrders
open Go.ChangeShapes Go.WideShapes Go.ChangeAt Go.RowKit
set_option linter.unusedVariables false
set_option maxRecDepth 100000 in
theorem lifted (os : Os) (started : os.Started) (H : Type) (enc : TypeId × Value → H) :
    ReturnsInHanded {} Try.checked os 7 .any (Rows.chooseOrdersSpec.pre6 enc Try.prog Try.f7 Rows.chooseOrdersRow.domain false) (Rows.chooseOrdersSpec.post enc Try.prog Try.f7 false true false false) := by
  refine returnsInHanded_of_change (C := Try.checked) fr_own started (by kernel_rfl) Try.func7
    (ChangeSpec.witness6 (enc := enc) (C := Try.checked) false ⟨#[], #[.slice none 0 0], []⟩ 8 (by kernel_rfl) (by kernel_rfl) (by kernel_rfl) (by kernel_rfl)) ?_
  intro W base args ds gs before hval0 hW hcnd _
  have hval : ∀ (j : Nat) t v, Try.f7.params[j]? = some t → args[j]? = some v → Value.okWide Try.prog W .any base t v := hval0
  have hW' := hW
  obtain ⟨p, q, hA0, hV, rfl, hfz, hnd⟩ := hW
  have hA : DataW.TrodAll enc Try.prog W 0 (fun _ => true) true Try.f7.params.toList args.toList ds p := hA0
  rw [Try.params7] at hA hval
  obtain ⟨v0, vs0, d0, ds0, p0, q0, hargs, rfl, rfl, h0, r0⟩ := trodAll_cons hA
  obtain ⟨rfl, rfl, rfl⟩ := trodAll_nil r0
  obtain rfl : args = #[v0] := by cases args; simp_all
  obtain ⟨rfl, rfl⟩ := trodVars_none hV
  have lt0 : ∀ x ∈ p0, x.block < W.heap.size := by obtain ⟨m, hm⟩ := h0; exact DataW.trod_lt m _ _ _ hm
  obtain ⟨xs, hS⟩ := open_cands (hval 0 40 v0 rfl rfl) h0
  clear hA0 hval0
  refine (law_ChooseOrders _ xs _ hS).mono fun e W' ⟨he, bel⟩ => ?_
  subst he
  exact ⟨_, rfl, _, _, _, [], _, [], hW', trodAll_mk1 (shut_bool Try.underlying4 _), (trodAll_cons_mk (Below.trod fr_laidOut (by kernel_rfl) (of_decide_eq_true (by kernel_rfl)) h0 bel lt0) trodAll_mk0), rfl, bel.frame _, fun h => by cases h⟩
theorem over : Rows.chooseOrdersRow.holds Try.pinned (OpenSpec.ofChange Rows.chooseOrdersSpec) :=
  OpenClaim.holds_of_wide 7 Try.f7 rfl rfl rfl rfl rfl rfl rfl ⟨rfl, rfl, rfl, rfl, rfl⟩ rfl rfl rfl rfl rfl (by kernel_rfl) Try.func7 (by kernel_rfl)
    (of_decide_eq_true (by kernel_rfl)) (by unfold Func.isWrapper; first | (rw [if_pos (by decide +kernel)]; kernel_rfl) | (rw [if_neg (by decide +kernel)]; exact ⟨rfl, rfl⟩))
    (fun os started H enc _ => lifted os started H enc)
/-- THE STATEMENT ChooseOrders. -/
theorem proved : Rows.ChooseOrdersSaid := over
#print axioms proved
end chooseOrders
end Go.Proofs.Ytfkplbkllmnfeaa
