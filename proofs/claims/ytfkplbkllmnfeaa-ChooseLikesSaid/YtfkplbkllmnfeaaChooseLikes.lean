/-
  ChooseLikes: what is liked more, is shorter, or of a lesser origin, is better than all that isn't; for all candidates and numbers; no condition.
-/
import Derived.Test.YtfkplbkllmnfeaaChK
import Derived.Test.YtfkplbkllmnfeaaChDz
import Derived.Test.YtfkplbkllmnfeaaChV
import Derived.Test.YtfkplbkllmnfeaaAtC
namespace Go.Proofs.Ytfkplbkllmnfeaa
open Go.RowKit

abbrev ceZA : Array Value := #[.int .i64 0, .int .u32 0, .int .i64 0, .int .i64 0, .int .i64 0, .slice none 0 0, .int .u32 0, .int .i64 0, .int .i64 0, .int .i64 0, .int .u32 0, .slice none 0 0, .slice none 0 0, .int .u32 0]
theorem info_cand : (Try.prog.info? 35).map (fun i => (i.zero, i.size, i.bytes)) = some (some (.agg ceZA), 14, 160) := by kernel_rfl
theorem ce_one {w : World} {x : Ce} (h : x.Ok w) : ∀ u ∈ ceL x, u.oneCell' = true := by
  obtain ⟨_, ⟨⟨sp, cp, hp, _⟩, ⟨sc, cc, hc, _⟩, ⟨so, co, ho, _⟩⟩⟩ := h
  intro u hu
  unfold ceL at hu
  rw [hp, hc, ho] at hu
  simp at hu
  rcases hu with rfl | rfl | rfl | rfl | rfl | rfl | rfl | rfl | rfl | rfl | rfl | rfl | rfl | rfl <;> rfl
theorem ces_one {w : World} {M : List Ce} (h : ∀ x ∈ M, x.Ok w) : ∀ u ∈ M.flatMap ceL, u.oneCell' = true := by
  intro u hu
  obtain ⟨x, hx, hu⟩ := List.mem_flatMap.1 hu
  exact ce_one (h x hx) u hu
theorem run_loc (z : Rt) (w : World) : (Instr.field 48 (.agg (rtA z)) 0).run Try.prog w = .ok (.int .i64 z.loc) w := by kernel_rfl
/-- how the best one and another lie: five ways. -/
inductive Ways (x y : Rt) : Prop where
  | a (h1 : ¬ y.loc < x.loc) (h2 : ¬ x.loc = y.loc) (h3 : (x.loc == y.loc) = false)
  | b (h1 : ¬ y.loc < x.loc) (h2 : (x.loc = y.loc) = True) (h3 : (x.loc == y.loc) = true) (h4 : ¬ x.hops < y.hops) (h5 : ¬ x.hops = y.hops) (h6 : (x.hops == y.hops) = false)
  | c (h1 : ¬ y.loc < x.loc) (h2 : (x.loc = y.loc) = True) (h3 : (x.loc == y.loc) = true) (h4 : ¬ x.hops < y.hops) (h5 : (x.hops = y.hops) = True) (h6 : (x.hops == y.hops) = true) (h7 : ¬ x.origin < y.origin) (h8 : ¬ x.origin = y.origin) (h9 : (x.origin == y.origin) = false)
  | d (h1 : ¬ y.loc < x.loc) (h2 : (x.loc = y.loc) = True) (h3 : (x.loc == y.loc) = true) (h4 : ¬ x.hops < y.hops) (h5 : (x.hops = y.hops) = True) (h6 : (x.hops == y.hops) = true) (h7 : ¬ x.origin < y.origin) (h8 : (x.origin = y.origin) = True) (h9 : (x.origin == y.origin) = true) (h10 : ¬ x.first = y.first) (h11 : (x.first == y.first) = false)
  | e (h1 : ¬ y.loc < x.loc) (h2 : (x.loc = y.loc) = True) (h3 : (x.loc == y.loc) = true) (h4 : ¬ x.hops < y.hops) (h5 : (x.hops = y.hops) = True) (h6 : (x.hops == y.hops) = true) (h7 : ¬ x.origin < y.origin) (h8 : (x.origin = y.origin) = True) (h9 : (x.origin == y.origin) = true) (h10 : (x.first = y.first) = True) (h11 : (x.first == y.first) = true) (h12 : ¬ x.med < y.med)
theorem ways_of {x y : Rt} (h : ¬ (y.loc < x.loc) ∧ (x.loc = y.loc → ¬ x.hops < y.hops) ∧ (x.loc = y.loc → x.hops = y.hops → ¬ x.origin < y.origin) ∧ (x.loc = y.loc → x.hops = y.hops → x.origin = y.origin → x.first = y.first → ¬ x.med < y.med)) : Ways x y := by
  obtain ⟨h1, h2, h3, h4⟩ := h
  by_cases e1 : x.loc = y.loc
  · by_cases e2 : x.hops = y.hops
    · by_cases e3 : x.origin = y.origin
      · by_cases e4 : x.first = y.first
        · exact .e h1 (eq_true e1) (beq_iff_eq.2 e1) (h2 e1) (eq_true e2) (beq_iff_eq.2 e2) (h3 e1 e2) (eq_true e3) (beq_iff_eq.2 e3) (eq_true e4) (beq_iff_eq.2 e4) (h4 e1 e2 e3 e4)
        · exact .d h1 (eq_true e1) (beq_iff_eq.2 e1) (h2 e1) (eq_true e2) (beq_iff_eq.2 e2) (h3 e1 e2) (eq_true e3) (beq_iff_eq.2 e3) e4 (beq_eq_false_iff_ne.2 e4)
      · exact .c h1 (eq_true e1) (beq_iff_eq.2 e1) (h2 e1) (eq_true e2) (beq_iff_eq.2 e2) (h3 e1 e2) e3 (beq_eq_false_iff_ne.2 e3)
    · exact .b h1 (eq_true e1) (beq_iff_eq.2 e1) (h2 e1) e2 (beq_eq_false_iff_ne.2 e2)
  · exact .a h1 e1 (beq_eq_false_iff_ne.2 e1)
/-- the cells of one of a row of candidates of the call's own. -/
theorem own_cell {w : World} {B n c g : Nat} {L : List Ce} (h : w.ownsRow B 35 14 (.slice (some ⟨g, 0, none⟩) n c) n (L.flatMap ceL)) {d : Nat} {x : Ce} (hx : L[d]? = some x) (j : Nat) (hj : j < 14) {u : Value} (hu : (ceL x)[j]? = some u) :
    w.cell? ⟨g, d * 14 + j, none⟩ = some u ∧ w.frozen? ⟨g, d * 14 + j, none⟩ = false := by
  have := flat_get (C := ceL) ceL_len L d x hx j hj
  rw [hu] at this
  have := own_row_cell h rfl this
  exact ⟨this.1, this.2.1⟩
theorem own_cells {w : World} {B n c g : Nat} {L : List Ce} (h : w.ownsRow B 35 14 (.slice (some ⟨g, 0, none⟩) n c) n (L.flatMap ceL)) {d : Nat} {cd : Cd} {vp vc vo : Value} (hx : L[d]? = some ⟨cd, vp, vc, vo⟩) :
    w.cell? ⟨g, d * 14 + 3, none⟩ = some (.int .i64 cd.a.has) ∧ w.cell? ⟨g, d * 14 + 4, none⟩ = some (.int .i64 cd.a.origin) ∧ w.cell? ⟨g, d * 14 + 5, none⟩ = some vp ∧ w.cell? ⟨g, d * 14 + 6, none⟩ = some (.int .u32 cd.a.hop) ∧ w.cell? ⟨g, d * 14 + 7, none⟩ = some (.int .i64 cd.a.med) ∧
    w.cell? ⟨g, d * 14 + 8, none⟩ = some (.int .i64 cd.a.loc) ∧ w.cell? ⟨g, d * 14 + 9, none⟩ = some (.int .i64 cd.a.aggrAs) ∧ w.cell? ⟨g, d * 14 + 10, none⟩ = some (.int .u32 cd.a.aggrId) ∧ w.cell? ⟨g, d * 14 + 11, none⟩ = some vc ∧ w.cell? ⟨g, d * 14 + 12, none⟩ = some vo :=
  ⟨(own_cell h hx 3 (by decide) rfl).1, (own_cell h hx 4 (by decide) rfl).1, (own_cell h hx 5 (by decide) rfl).1, (own_cell h hx 6 (by decide) rfl).1, (own_cell h hx 7 (by decide) rfl).1, (own_cell h hx 8 (by decide) rfl).1, (own_cell h hx 9 (by decide) rfl).1, (own_cell h hx 10 (by decide) rfl).1, (own_cell h hx 11 (by decide) rfl).1, (own_cell h hx 12 (by decide) rfl).1⟩
theorem own_free {w : World} {B n c g k : Nat} {e : TypeId} {xs : List Value} (h : w.ownsRow B e k (.slice (some ⟨g, 0, none⟩) n c) n xs) (j : Nat) : w.frozen? ⟨g, j, none⟩ = false := by
  obtain ⟨_, ⟨h1, _⟩ | ⟨g', cap, cur, h1, _, hg, _⟩⟩ := h
  · cases h1
  · injection h1 with h1 _ _
    injection h1 with h1
    injection h1 with h1
    subst h1
    exact row_free hg j
/-- a cell of one of a row of the call's own is stored. -/
theorem elem_set {w : World} {B n c g d : Nat} {e : TypeId} {v : Value} {rows : List (List Value)} {r : List Value} (h : w.ownsRow B e 14 v n (rows.set d r).flatten) (hk : ∀ r ∈ rows, r.length = 14) (hdl : d < rows.length) (hr : r.length = 14) (hv : v = .slice (some ⟨g, 0, none⟩) n c)
    (j : Nat) (hj : j < 14) (u : Value) : (w.setCell ⟨g, d * 14 + j, none⟩ u).ownsRow B e 14 v n (rows.set d (r.set j u)).flatten := by
  have h1 := own_set h hv (d * 14 + j) u
  have hk2 : ∀ q ∈ rows.set d r, q.length = 14 := fun q hq => by
    rcases List.mem_or_eq_of_mem_set hq with h2 | h2
    · exact hk q h2
    · rw [h2]; exact hr
  have h2 := rows_set hk2 (i := d) (r := r) (by rw [List.getElem?_set_self hdl]) hj u
  rw [List.set_set] at h2
  rw [h2]
  exact h1
theorem kept_cell {g o : Nat} {u : Value} {w W : World} (h : Kept (fun b => b = g) w W) : Kept (fun b => b = g) w (W.setCell ⟨g, o, none⟩ u) := h.trans (Kept.setCell _ _ rfl)
theorem store_at {w : World} {B n c g d : Nat} {e : TypeId} {L : List Ce} {cd : Cd} {vp vc vo : Value} (h : w.ownsRow B e 14 (.slice (some ⟨g, 0, none⟩) n c) n (L.flatMap ceL)) (hd : L[d]? = some ⟨cd, vp, vc, vo⟩) (a : At) (vp' vc' vo' : Value) :
    ∃ W, W = ((((((((((w.setCell ⟨g, d * 14 + 3, none⟩ (.int .i64 a.has)).setCell ⟨g, d * 14 + 3 + 1, none⟩ (.int .i64 a.origin)).setCell ⟨g, d * 14 + 3 + 2, none⟩ vp').setCell ⟨g, d * 14 + 3 + 3, none⟩ (.int .u32 a.hop)).setCell ⟨g, d * 14 + 3 + 4, none⟩ (.int .i64 a.med)).setCell ⟨g, d * 14 + 3 + 5, none⟩ (.int .i64 a.loc)).setCell ⟨g, d * 14 + 3 + 6, none⟩ (.int .i64 a.aggrAs)).setCell ⟨g, d * 14 + 3 + 7, none⟩ (.int .u32 a.aggrId)).setCell ⟨g, d * 14 + 3 + 8, none⟩ vc').setCell ⟨g, d * 14 + 3 + 9, none⟩ vo') ∧
      W.ownsRow B e 14 (.slice (some ⟨g, 0, none⟩) n c) n ((L.set d ⟨{ cd with a := a }, vp', vc', vo'⟩).flatMap ceL) ∧ Kept (fun b => b = g) w W := by
  refine ⟨_, rfl, ?_, kept_cell (kept_cell (kept_cell (kept_cell (kept_cell (kept_cell (kept_cell (kept_cell (kept_cell (kept_cell (Kept.refl _ _))))))))))⟩
  have hk : ∀ r ∈ L.map ceL, r.length = 14 := fun r hr => by obtain ⟨x, _, rfl⟩ := List.mem_map.1 hr; rfl
  have hdl : d < (L.map ceL).length := by rw [List.length_map]; exact (List.getElem?_eq_some_iff.1 hd).1
  have h0 : w.ownsRow B e 14 (.slice (some ⟨g, 0, none⟩) n c) n ((L.map ceL).set d (ceL ⟨cd, vp, vc, vo⟩)).flatten := by
    have : (L.map ceL).set d (ceL ⟨cd, vp, vc, vo⟩) = L.map ceL := by
      rw [← List.map_set]
      congr 1
      obtain ⟨h1, h2⟩ := List.getElem?_eq_some_iff.1 hd
      rw [← h2, List.set_getElem_self]
    rw [this, ← List.flatMap_def]
    exact h
  have h1 := elem_set h0 hk hdl (by rfl) rfl 3 (by decide) (.int .i64 a.has)
  have h2 := elem_set h1 hk hdl (by rfl) rfl 4 (by decide) (.int .i64 a.origin)
  have h3 := elem_set h2 hk hdl (by rfl) rfl 5 (by decide) vp'
  have h4 := elem_set h3 hk hdl (by rfl) rfl 6 (by decide) (.int .u32 a.hop)
  have h5 := elem_set h4 hk hdl (by rfl) rfl 7 (by decide) (.int .i64 a.med)
  have h6 := elem_set h5 hk hdl (by rfl) rfl 8 (by decide) (.int .i64 a.loc)
  have h7 := elem_set h6 hk hdl (by rfl) rfl 9 (by decide) (.int .i64 a.aggrAs)
  have h8 := elem_set h7 hk hdl (by rfl) rfl 10 (by decide) (.int .u32 a.aggrId)
  have h9 := elem_set h8 hk hdl (by rfl) rfl 11 (by decide) vc'
  have h10 := elem_set h9 hk hdl (by rfl) rfl 12 (by decide) vo'
  rw [List.flatMap_def, List.map_set]
  exact h10
theorem store_like {w : World} {B n c g d : Nat} {e : TypeId} {L : List Ce} {cd : Cd} {vp vc vo : Value} (h : w.ownsRow B e 14 (.slice (some ⟨g, 0, none⟩) n c) n (L.flatMap ceL)) (hd : L[d]? = some ⟨cd, vp, vc, vo⟩) :
    ∃ W, W = ((w.setCell ⟨g, d * 14 + 3, none⟩ (.int .i64 (bits .or .i64 cd.a.has 32))).setCell ⟨g, d * 14 + 3 + 5, none⟩ (.int .i64 4294967295)) ∧
      W.ownsRow B e 14 (.slice (some ⟨g, 0, none⟩) n c) n ((L.set d ⟨likeC cd, vp, vc, vo⟩).flatMap ceL) ∧ Kept (fun b => b = g) w W := by
  refine ⟨_, rfl, ?_, kept_cell (kept_cell (Kept.refl _ _))⟩
  have hk : ∀ r ∈ L.map ceL, r.length = 14 := fun r hr => by obtain ⟨x, _, rfl⟩ := List.mem_map.1 hr; rfl
  have hdl : d < (L.map ceL).length := by rw [List.length_map]; exact (List.getElem?_eq_some_iff.1 hd).1
  have h0 : w.ownsRow B e 14 (.slice (some ⟨g, 0, none⟩) n c) n ((L.map ceL).set d (ceL ⟨cd, vp, vc, vo⟩)).flatten := by
    have : (L.map ceL).set d (ceL ⟨cd, vp, vc, vo⟩) = L.map ceL := by
      rw [← List.map_set]
      congr 1
      obtain ⟨h1, h2⟩ := List.getElem?_eq_some_iff.1 hd
      rw [← h2, List.set_getElem_self]
    rw [this, ← List.flatMap_def]
    exact h
  have h1 := elem_set h0 hk hdl (by rfl) rfl 3 (by decide) (.int .i64 (bits .or .i64 cd.a.has 32))
  have h2 := elem_set h1 hk hdl (by rfl) rfl 8 (by decide) (.int .i64 4294967295)
  rw [List.flatMap_def, List.map_set]
  exact h2
set_option maxHeartbeats 12800000 in
set_option maxRecDepth 100000 in
theorem likes_walk (v : Value) (xs : List Cd) (wh : Int) (w : World) (h : CdsAt w v xs) (hz : ∀ c ∈ xs, AtSz c.a) (hr : rightL xs = true) (hne : xs ≠ []) : Calls Try.prog 6 #[v, .int .i64 wh] w fun e w' => e = .returned (.bool true) ∧ Below w.heap.size w w' := by
  obtain ⟨i0, hii, hz0, hz1, hz2⟩ := info_parts info_cand
  obtain ⟨L, hLx, hLok, hLs⟩ := cds_ces h
  have H := Lib.hid h
  have RI := Lib.hid (fun W h => law_right v xs W h)
  rw [hr] at RI
  obtain ⟨h12, hR⟩ := right_of hr
  have hh : ∀ c ∈ xs, hopsN c.a.path ≤ 4611686018427387904 := fun c hc => by have := (hR c hc).hops; omega
  have HLX := Lib.hid hLx
  have HLO := Lib.hid hLok
  have HZ := Lib.hid hz
  have HR := Lib.hid hR
  have HH := Lib.hid hh
  have hlen : L.length = xs.length := by rw [← hLx, List.length_map]
  obtain ⟨sa, cap, rfl, hlc, hcm, hV⟩ := hLs
  rw [hlen] at hlc hV RI H ⊢
  have hn0 : 0 < xs.length := by rcases xs with _ | ⟨c, xs⟩; exact absurd rfl hne; simp
  obtain ⟨b, off, rfl, hP⟩ := hV hn0
  have HP : Hid (∀ (i : Nat) (x : Ce), L[i]? = some x → ∀ j c, (ceL x)[j]? = some c → w.cell? ⟨b, off + i * 14 + j, none⟩ = some c) := Lib.hid (fun i x hx j c hc => by
    obtain ⟨cs, _, rfl, h⟩ := hP i x hx
    exact h j c hc)
  unfold maxLen at hcm
  have HLEN := Lib.hid hlen
  obtain ⟨q, bc, hq, hbq, hBest⟩ := bestI_spec hne
  have BE := Lib.hid (fun W h => ch_Best (.slice (some ⟨b, off, none⟩) xs.length cap) xs W h (by omega) hh)
  rw [hbq] at BE
  have WY : Hid (∀ (k : Nat) (c : Cd), xs[k]? = some c → Ways (rtOf c) (rtOf bc)) := Lib.hid (fun k c hc => ways_of (likes_one hBest (fun c hc => (hR c hc).med) hq hc))
  have PL := Lib.hid (fun c vp vc vo W (hm : c ∈ xs) hA => ch_plain c vp vc vo W hA (hh c hm))
  have ql := (List.getElem?_eq_some_iff.1 hq).1
  have q0 : (0 : Int) ≤ (q : Int) := by omega
  have q1 : (q : Int) < (xs.length : Int) := by omega
  obtain ⟨x0, hx0⟩ : ∃ x, L[q]? = some x := ⟨_, List.getElem?_eq_getElem (by omega)⟩
  have hxc : x0.c = bc := by
    have : (L.map Ce.c)[q]? = some x0.c := by rw [List.getElem?_map, hx0]; rfl
    rw [hLx, hq] at this
    cases this; rfl
  subst hxc
  have CQ := Lib.hid (hP q x0 hx0)
  have OKQ := Lib.hid (hLok x0 (List.mem_of_getElem? hx0))
  have MQ := Lib.hid (List.mem_of_getElem? hq)
  clear hr hR hh hLx hLok hV hP hlen h hbq hBest hz hq hx0 ql
  have n0 : ((xs.length : Int) == 0) = false := by rw [beq_eq_false_iff_ne]; omega
  go_enter Try.func6, Try.ntmps6
  go_wp2_with fail
  refine (law_head _).mono ?_
  rintro e w1 ⟨rfl, hb1⟩
  have H1 := Lib.hid (H.out.below hb1)
  go_wp2_with fail
  refine (RI.out _ H1.out).mono ?_
  rintro e w2 ⟨rfl, hb2⟩
  have B2 := Lib.hid (below_on hb1 hb2)
  have H2 := Lib.hid (H1.out.below hb2)
  clear hb1 hb2 H1 RI
  go_wp2_with fail
  refine (BE.out _ H2.out).mono ?_
  rintro e w3 ⟨rfl, hb3⟩
  have B3 := Lib.hid (below_on B2.out hb3)
  clear hb3 H2 B2 BE
  obtain ⟨⟨bc, vp, vc, vo⟩, hxe⟩ : ∃ y : Ce, x0 = y := ⟨x0, rfl⟩
  subst hxe
  obtain ⟨cs, _, rfl, hcs⟩ := CQ.out
  obtain ⟨_, ⟨⟨sp, cp, hvp, _⟩, ⟨sc, cc, hvc, _⟩, ⟨so, co, hvo, _⟩⟩⟩ := OKQ.out
  simp only at hvp hvc hvo
  subst hvp; subst hvc; subst hvo
  obtain ⟨c0, c1, c2, c3, c4, c5, c6, c7, c8, c9, c10, c11, c12, c13⟩ := cd_cells hcs
  have c0 := (B3.out.cell (size_lt c0)).trans c0
  have c1 := (B3.out.cell (size_lt c1)).trans c1
  have c2 := (B3.out.cell (size_lt c2)).trans c2
  have c3 := (B3.out.cell (size_lt c3)).trans c3
  have c4 := (B3.out.cell (size_lt c4)).trans c4
  have c5 := (B3.out.cell (size_lt c5)).trans c5
  have c6 := (B3.out.cell (size_lt c6)).trans c6
  have c7 := (B3.out.cell (size_lt c7)).trans c7
  have c8 := (B3.out.cell (size_lt c8)).trans c8
  have c9 := (B3.out.cell (size_lt c9)).trans c9
  have c10 := (B3.out.cell (size_lt c10)).trans c10
  have c11 := (B3.out.cell (size_lt c11)).trans c11
  have c12 := (B3.out.cell (size_lt c12)).trans c12
  have c13 := (B3.out.cell (size_lt c13)).trans c13
  have PQ := Lib.hid (PL.out bc _ _ _ w3 MQ.out (OKQ.out.2.below B3.out))
  obtain ⟨y, hy⟩ : ∃ y, rtOf bc = y := ⟨_, rfl⟩
  simp only [hy] at WY PQ
  clear hy hcs
  go_wp2_with fail
  refine PQ.out.mono ?_
  rintro e w4 ⟨rfl, hb4⟩
  have B4 := Lib.hid (below_on B3.out hb4)
  clear hb4 B3 PQ c0 c1 c2 c3 c4 c5 c6 c7 c8 c9 c10 c11 c12 c13
  go_upto_region 9 with (fail)
  obtain ⟨W5, hW5, q5, hb5, -⟩ := boxT w4 y
  rw [← hW5]
  clear hW5
  have B5 := Lib.hid (below_on B4.out hb5)
  have Q5 := Lib.hid q5
  clear hb5 q5 B4
  generalize w4.heap.size = yb at Q5 ⊢
  go_wp2_with fail
  go_loopw [41] (fun t wr => ∃ k : Nat, k ≤ xs.length ∧ t = .int .i64 k ∧ Hid (wr.heap[yb]? = some (.cells (rtA y) 48 (0, 0))) ∧ Hid (Below w.heap.size w wr)) (fun t _ => xs.length - (intOf t).toNat)
  case atStart => exact ⟨0, by omega, rfl, Q5, B5⟩
  case round =>
    clear Q5 B5
    obtain ⟨k, hk, rfl, Q, B⟩ := hrel
    by_cases hlt : k < xs.length
    · obtain ⟨x, hx⟩ : ∃ x, L[k]? = some x := ⟨_, List.getElem?_eq_getElem (by have := HLEN.out; omega)⟩
      have hxc : xs[k]? = some x.c := by rw [← HLX.out, List.getElem?_map, hx]; rfl
      have OKX := Lib.hid (HLO.out x (List.mem_of_getElem? hx))
      have HPX := HP.out k x hx
      obtain ⟨⟨c, vp, vc, vo⟩, hxe⟩ : ∃ y : Ce, x = y := ⟨x, rfl⟩
      subst hxe
      obtain ⟨_, ⟨⟨sp, cp, hvp, _⟩, ⟨sc, cc, hvc, _⟩, ⟨so, co, hvo, _⟩⟩⟩ := OKX.out
      simp only at hvp hvc hvo
      subst hvp; subst hvc; subst hvo
      obtain ⟨c0, c1, c2, c3, c4, c5, c6, c7, c8, c9, c10, c11, c12, c13⟩ := cd_cells HPX
      have c0 := (B.out.cell (size_lt c0)).trans c0
      have c1 := (B.out.cell (size_lt c1)).trans c1
      have c2 := (B.out.cell (size_lt c2)).trans c2
      have c3 := (B.out.cell (size_lt c3)).trans c3
      have c4 := (B.out.cell (size_lt c4)).trans c4
      have c5 := (B.out.cell (size_lt c5)).trans c5
      have c6 := (B.out.cell (size_lt c6)).trans c6
      have c7 := (B.out.cell (size_lt c7)).trans c7
      have c8 := (B.out.cell (size_lt c8)).trans c8
      have c9 := (B.out.cell (size_lt c9)).trans c9
      have c10 := (B.out.cell (size_lt c10)).trans c10
      have c11 := (B.out.cell (size_lt c11)).trans c11
      have c12 := (B.out.cell (size_lt c12)).trans c12
      have c13 := (B.out.cell (size_lt c13)).trans c13
      have k0 : (0 : Int) ≤ (k : Int) := by omega
      have k1 : (k : Int) < (xs.length : Int) := by omega
      have PX := Lib.hid (fun W hA => PL.out c (.slice sp c.a.path.length cp) (.slice sc c.a.comms.length cc) (.slice so c.a.others.length co) W (List.mem_of_getElem? hxc) hA)
      have WX := Lib.hid (WY.out k c hxc)
      obtain ⟨z, hz⟩ : ∃ z, rtOf c = z := ⟨_, rfl⟩
      simp only [hz] at WX PX
      clear hx hxc HPX hz
      go_upto_region 12 with (fail)
      obtain ⟨W1, hW1, q1', hb1, _⟩ := takeCd wr (cdA c (.slice sp c.a.path.length cp) (.slice sc c.a.comms.length cc) (.slice so c.a.others.length co))
      rw [← hW1]
      clear hW1 c0 c1 c2 c3 c4 c5 c6 c7 c8 c9 c10 c11 c12 c13
      have BW1 := Lib.hid (below_on B.out hb1)
      have HA1 := Lib.hid (OKX.out.2.below BW1.out)
      obtain ⟨c0, c1, c2, c3, c4, c5, c6, c7, c8, c9, c10, c11, c12, c13⟩ := cd_row q1'
      have Q1 := Lib.hid ((hb1.block _ (row_lt Q.out)).trans Q.out)
      clear q1' hb1 B Q
      go_wp2_with fail
      refine (PX.out _ HA1.out).mono ?_
      rintro e w6 ⟨rfl, hb6⟩
      have Q6 := Lib.hid ((hb6.block _ (row_lt Q1.out)).trans Q1.out)
      have B6 := Lib.hid (below_on BW1.out hb6)
      clear hb6 Q1 BW1 c0 c1 c2 c3 c4 c5 c6 c7 c8 c9 c10 c11 c12 c13 HA1 PX
      go_upto_region 13 with (fail)
      obtain ⟨W7, hW7, q7, hb7, -⟩ := boxT w6 z
      rw [← hW7]
      clear hW7
      have Q7 := Lib.hid ((hb7.block _ (row_lt Q6.out)).trans Q6.out)
      have B7 := Lib.hid (below_on B6.out hb7)
      obtain ⟨r0, r1, r2, r3, r4, r5, r6⟩ := rt_row q7
      obtain ⟨s0, s1, s2, s3, s4, s5, s6⟩ := rt_row Q7.out
      clear q7 hb7 Q6 B6
      have WXo := WX.out
      clear WX
      rcases WXo with ⟨h1, h2, h3⟩ | ⟨h1, h2, h3, h4, h5, h6⟩ | ⟨h1, h2, h3, h4, h5, h6, h7, h8, h9⟩ | ⟨h1, h2, h3, h4, h5, h6, h7, h8, h9, h10, h11⟩ | ⟨h1, h2, h3, h4, h5, h6, h7, h8, h9, h10, h11, h12⟩
      · go_wp2_with fail
        exact ⟨⟨k + 1, by omega, by go_num, Q7, B7⟩, by simp [intOf]; omega⟩
      · go_wp2_with fail
        exact ⟨⟨k + 1, by omega, by go_num, Q7, B7⟩, by simp [intOf]; omega⟩
      · go_wp2_with fail
        exact ⟨⟨k + 1, by omega, by go_num, Q7, B7⟩, by simp [intOf]; omega⟩
      · go_wp2_with fail
        exact ⟨⟨k + 1, by omega, by go_num, Q7, B7⟩, by simp [intOf]; omega⟩
      · go_wp2_with fail
        exact ⟨⟨k + 1, by omega, by go_num, Q7, B7⟩, by simp [intOf]; omega⟩
    · obtain rfl : xs.length = k := by omega
      clear Q hk hlt WY MQ OKQ CQ
      obtain ⟨m, hm⟩ : ∃ m : Nat, bits .and .i64 wh 1023 = (m : Int) := ⟨(wh % 1024).toNat, by rw [and_1023]; omega⟩
      have hm2 : (m : Int) ≤ 1023 := by have := and_1023 wh; omega
      obtain ⟨d, hd⟩ : ∃ d : Nat, d = m % xs.length := ⟨_, rfl⟩
      have hdl : d < xs.length := by rw [hd]; exact Nat.mod_lt _ hn0
      have e2 : (m : Int) % (xs.length : Int) = (d : Int) := by rw [hd]; rfl
      clear hd
      go_upto_region 19 with (fail)
      rw [e2]
      clear e2 hm hm2
      have LT : Hid ((L.flatMap ceL).length = xs.length * 14) := Lib.hid (by rw [flat_len ceL_len, HLEN.out])
      have ON : Hid (∀ u ∈ L.flatMap ceL, u.oneCell' = true) := Lib.hid (ces_one (w := w) HLO.out)
      have CC : Hid (∀ W, Below wr.heap.size wr W → ∀ (q : Nat) (u : Value), (L.flatMap ceL)[q]? = some u → W.cell? ((⟨b, off, none⟩ : Addr).add q) = some u) := Lib.hid (fun W hW q u hu => cell_below (cell_below (by
        have := flat_range HP.out 0 L (fun i x hx => by rw [Nat.zero_add]; exact hx) q u hu
        simpa using this) B.out) hW)
      have OE := Lib.hid (own_empty (w := wr) (B := wr.heap.size) (e := 35) (k := 14) (Nat.le_refl _))
      go_wp2_with (at_builtin; refine wpList_append_own _ rfl _ _ 40 rfl wr.heap.size 35 i0 _ 14 160 Try.underlying40 hii hz0 hz1 hz2 rfl (by decide) _ 0 [] rfl OE.out ⟨b, off, none⟩ xs.length cap (L.flatMap ceL) rfl LT.out (CC.out _ ((Below.refl _ _).alloc (Nat.le_refl _) _)) ON.out (by unfold maxLen; omega) (by omega) (by simp) ?_)
      intro v1 w19 hown hgrow _
      have OT : Hid (w19.ownsRow wr.heap.size 35 14 v1 xs.length (L.flatMap ceL)) := Lib.hid (by simpa using hown)
      have BT := Lib.hid (B.out.trans ((((Below.refl _ _).alloc (Nat.le_refl _) _).grown hgrow (by simp) (fun g hg => by cases hg; exact Nat.le_refl _) : Below wr.heap.size wr w19).mono B.out.size))
      have LO : Hid (w.heap.size ≤ wr.heap.size) := Lib.hid B.out.size
      clear hown hgrow OE CC ON LT B
      generalize wr.heap.size = lo at OT LO
      obtain ⟨s1, c1, rfl, hs1⟩ := own_form OT.out
      obtain ⟨g, rfl⟩ := hs1 hn0
      clear hs1
      obtain ⟨x, hx⟩ : ∃ x, L[d]? = some x := ⟨_, List.getElem?_eq_getElem (by have := HLEN.out; omega)⟩
      have hxc : xs[d]? = some x.c := by rw [← HLX.out, List.getElem?_map, hx]; rfl
      have OKX := Lib.hid (HLO.out x (List.mem_of_getElem? hx))
      have SZX := Lib.hid (HZ.out x.c (List.mem_of_getElem? hxc))
      obtain ⟨⟨c, vp, vc, vo⟩, hxe⟩ : ∃ y : Ce, x = y := ⟨x, rfl⟩
      subst hxe
      obtain ⟨_, ⟨⟨sp, cp, hvp, _⟩, ⟨sc, cc, hvc, _⟩, ⟨so, co, hvo, _⟩⟩⟩ := OKX.out
      simp only at hvp hvc hvo
      subst hvp; subst hvc; subst hvo
      obtain ⟨c3, c4, c5, c6, c7, c8, c9, c10, c11, c12⟩ := own_cells OT.out hx
      have CL := Lib.hid (fun W hW => at_Clone c.a _ _ _ W (OKX.out.2.below hW) SZX.out)
      have d0 : (0 : Int) ≤ (d : Int) := by omega
      have d1 : (d : Int) < (xs.length : Int) := by omega
      have HX := Lib.hid hx
      have HXC := Lib.hid hxc
      clear hx hxc
      go_wp2_with fail
      refine (CL.out _ BT.out).mono ?_
      rintro e w20 ⟨vp1, vc1, vo1, rfl, hf, hb20⟩
      have FR := Lib.hid (hf.imp (fun W h => h.1))
      obtain ⟨sp1, cp1, rfl, -⟩ := id FR.out.self.1
      obtain ⟨sc1, cc1, rfl, -⟩ := id FR.out.self.2.1
      obtain ⟨so1, co1, rfl, -⟩ := id FR.out.self.2.2
      have O20 := Lib.hid (own_below OT.out hb20)
      have B20 := Lib.hid (below_on BT.out hb20)
      have GL : Hid (g < w19.heap.size) := Lib.hid (own_lt OT.out g rfl)
      have LG : Hid (lo ≤ g) := Lib.hid (own_form_le OT.out g rfl)
      clear hf hb20 CL c3 c4 c5 c6 c7 c8 c9 c10 c11 c12 OT BT
      obtain ⟨c3, c4, c5, c6, c7, c8, c9, c10, c11, c12⟩ := own_cells O20.out HX.out
      have F := own_free O20.out
      simp only [atV]
      go_upto_region 21 with (fail)
      obtain ⟨W21, hW21, o21, k21⟩ := store_at O20.out HX.out c.a (.slice sp1 c.a.path.length cp1) (.slice sc1 c.a.comms.length cc1) (.slice so1 c.a.others.length co1)
      rw [← hW21]
      clear hW21 c3 c4 c5 c6 c7 c8 c9 c10 c11 c12 F
      have hx21 : (L.set d ⟨c, .slice sp1 c.a.path.length cp1, .slice sc1 c.a.comms.length cc1, .slice so1 c.a.others.length co1⟩)[d]? = some ⟨c, .slice sp1 c.a.path.length cp1, .slice sc1 c.a.comms.length cc1, .slice so1 c.a.others.length co1⟩ := by
        rw [List.getElem?_set_self (by have := HLEN.out; omega)]
      have c3 := (own_cells o21 hx21).1
      have c8 := (own_cells o21 hx21).2.2.2.2.2.1
      have F := own_free o21
      have O21 := Lib.hid o21
      have HX21 := Lib.hid hx21
      have K21 := Lib.hid k21
      clear o21 hx21 k21
      go_upto_region 23 with (fail)
      obtain ⟨W23, hW23, o23, k23⟩ := store_like O21.out HX21.out
      rw [← hW23]
      rw [List.set_set] at o23
      have KK := K21.out.trans k23
      have B23 : Hid (Below w.heap.size w W23) := Lib.hid (B20.out.trans (KK.below B20.out.size (fun k hk => by have := LG.out; have := LO.out; omega)))
      have OKN : Hid ((⟨likeC c, .slice sp1 c.a.path.length cp1, .slice sc1 c.a.comms.length cc1, .slice so1 c.a.others.length co1⟩ : Ce).Ok W23) := Lib.hid (by
        have hA := (FR.out.kept KK (fun k _ hl e => by have := GL.out; omega)).self
        obtain ⟨o1, o2, o3, ⟨p1, p2, p3, p4, p5, p6, p7⟩, o5⟩ := OKX.out.1
        have r5 : I64r (4294967295 : Int) := by unfold I64r; omega
        exact ⟨⟨o1, o2, o3, ⟨(or32_all c.a.has).1, p2, p3, p4, r5, p6, p7⟩, o5⟩, hA⟩)
      have O23 := Lib.hid o23
      clear hW23 c3 c8 F o23 k23 KK K21 O21 HX21 FR O20 B20 GL
      generalize hL' : L.set d ⟨likeC c, .slice sp1 c.a.path.length cp1, .slice sc1 c.a.comms.length cc1, .slice so1 c.a.others.length co1⟩ = L' at O23
      have HL' := Lib.hid hL'
      clear hL'
      go_wp2_with fail
      go_loopw [161] (fun t wr => ∃ j : Nat, j ≤ xs.length ∧ t = .int .i64 j ∧ Hid (∀ (i : Nat) (e : Cd), i < j → xs[i]? = some e → i ≠ d → locOf e.a ≠ 4294967295) ∧ Hid (wr.ownsRow lo 35 14 (.slice (some ⟨g, 0, none⟩) xs.length c1) xs.length (L'.flatMap ceL)) ∧ Hid (Below W23.heap.size W23 wr)) (fun t _ => xs.length - (intOf t).toNat)
      case atStart => exact ⟨0, by omega, rfl, Lib.hid (fun i e h => by omega), O23, Lib.hid (Below.refl _ _)⟩
      case round =>
        clear O23
        obtain ⟨j, hj, rfl, LK, O, BI⟩ := hrel
        by_cases hlt : j < xs.length
        · obtain ⟨x, hx⟩ : ∃ x, L[j]? = some x := ⟨_, List.getElem?_eq_getElem (by have := HLEN.out; omega)⟩
          have hxc : xs[j]? = some x.c := by rw [← HLX.out, List.getElem?_map, hx]; rfl
          have OKY := Lib.hid (HLO.out x (List.mem_of_getElem? hx))
          have HPX := HP.out j x hx
          obtain ⟨⟨f, vp, vc, vo⟩, hxe⟩ : ∃ y : Ce, x = y := ⟨x, rfl⟩
          subst hxe
          obtain ⟨_, ⟨⟨sp, cp, hvp, _⟩, ⟨sc, cc, hvc, _⟩, ⟨so, co, hvo, _⟩⟩⟩ := OKY.out
          simp only at hvp hvc hvo
          subst hvp; subst hvc; subst hvo
          have BW := Lib.hid (below_on B23.out BI.out)
          obtain ⟨c0, c1, c2, c3, c4, c5, c6, c7, c8, c9, c10, c11, c12, c13⟩ := cd_cells HPX
          have c0 := (BW.out.cell (size_lt c0)).trans c0
          have c1 := (BW.out.cell (size_lt c1)).trans c1
          have c2 := (BW.out.cell (size_lt c2)).trans c2
          have c3 := (BW.out.cell (size_lt c3)).trans c3
          have c4 := (BW.out.cell (size_lt c4)).trans c4
          have c5 := (BW.out.cell (size_lt c5)).trans c5
          have c6 := (BW.out.cell (size_lt c6)).trans c6
          have c7 := (BW.out.cell (size_lt c7)).trans c7
          have c8 := (BW.out.cell (size_lt c8)).trans c8
          have c9 := (BW.out.cell (size_lt c9)).trans c9
          have c10 := (BW.out.cell (size_lt c10)).trans c10
          have c11 := (BW.out.cell (size_lt c11)).trans c11
          have c12 := (BW.out.cell (size_lt c12)).trans c12
          have c13 := (BW.out.cell (size_lt c13)).trans c13
          have k0 : (0 : Int) ≤ (j : Int) := by omega
          have k1 : (j : Int) < (xs.length : Int) := by omega
          have PX := Lib.hid (fun W hA => PL.out f (.slice sp f.a.path.length cp) (.slice sc f.a.comms.length cc) (.slice so f.a.others.length co) W (List.mem_of_getElem? hxc) hA)
          have HXJ := Lib.hid hxc
          clear hx hxc HPX
          go_upto_region 26 with (fail)
          obtain ⟨W1, hW1, q1', hb1, _⟩ := takeCd wr (cdA f (.slice sp f.a.path.length cp) (.slice sc f.a.comms.length cc) (.slice so f.a.others.length co))
          rw [← hW1]
          clear hW1 c0 c1 c2 c3 c4 c5 c6 c7 c8 c9 c10 c11 c12 c13
          have HA1 := Lib.hid (OKY.out.2.below (below_on BW.out hb1))
          obtain ⟨c0, c1, c2, c3, c4, c5, c6, c7, c8, c9, c10, c11, c12, c13⟩ := cd_row q1'
          have O1 := Lib.hid (own_below O.out hb1)
          have BI1 := Lib.hid (below_on BI.out hb1)
          clear q1' hb1 O BI BW
          by_cases hjd : j = d
          · have hT : ((j : Int) = (d : Int)) = True := eq_true (congrArg Int.ofNat hjd)
            have hB : ((j : Int) != (d : Int)) = false := by rw [bne_eq_false_iff_eq]; exact of_eq_true hT
            have LK2 : Hid (∀ (i : Nat) (e : Cd), i < j + 1 → xs[i]? = some e → i ≠ d → locOf e.a ≠ 4294967295) := Lib.hid (fun i e hi he hne => LK.out i e (by omega) he hne)
            clear LK c0 c1 c2 c3 c4 c5 c6 c7 c8 c9 c10 c11 c12 c13 PX HA1 hjd
            go_wp2_with fail
            exact ⟨⟨j + 1, by omega, by go_num, LK2, O1, BI1⟩, by simp [intOf]; omega⟩
          · have hN : ¬ (j : Int) = (d : Int) := by omega
            have hB : ((j : Int) != (d : Int)) = true := bne_iff_ne.2 hN
            obtain ⟨z, hz⟩ : ∃ z, rtOf f = z := ⟨_, rfl⟩
            have hzl : z.loc = locOf f.a := by rw [← hz]; rfl
            simp only [hz] at PX
            have ZL := Lib.hid hzl
            clear hz hzl
            go_wp2_with fail
            refine (PX.out _ HA1.out).mono ?_
            rintro e w6 ⟨rfl, hb6⟩
            have O6 := Lib.hid (own_below O1.out hb6)
            have BI6 := Lib.hid (below_on BI1.out hb6)
            clear hb6 O1 BI1 c0 c1 c2 c3 c4 c5 c6 c7 c8 c9 c10 c11 c12 c13 HA1 PX
            by_cases hzz : z.loc = 4294967295
            · have hT : (z.loc = 4294967295) = True := eq_true hzz
              have hE : (z.loc == 4294967295) = true := beq_iff_eq.2 hzz
              have BB := Lib.hid (below_on B23.out BI6.out)
              clear hzz LK O6 BI6
              have RF := run_loc z w6
              go_wp2_with fail
              go_ret
              exact ⟨rfl, BB.out⟩
            · have hE : (z.loc == 4294967295) = false := beq_eq_false_iff_ne.2 hzz
              have LK2 : Hid (∀ (i : Nat) (e : Cd), i < j + 1 → xs[i]? = some e → i ≠ d → locOf e.a ≠ 4294967295) := Lib.hid (fun i e hi he hne => by
                by_cases hij : i = j
                · subst hij
                  rw [HXJ.out] at he
                  cases he
                  rw [← ZL.out]
                  exact hzz
                · exact LK.out i e (by omega) he hne)
              clear LK
              have RF := run_loc z w6
              go_wp2_with fail
              exact ⟨⟨j + 1, by omega, by go_num, LK2, O6, BI6⟩, by simp [intOf]; omega⟩
        · obtain rfl : xs.length = j := by omega
          have BW := Lib.hid (below_on B23.out BI.out)
          have hxs' : L'.map Ce.c = xs.set d (likeC c) := by rw [← HL'.out, List.map_set, HLX.out]
          have CD : Hid (CdsAt wr (.slice (some ⟨g, 0, none⟩) xs.length c1) (xs.set d (likeC c))) := Lib.hid (by
            rw [← hxs']
            refine ces_cds (own_slat (C := ceL) ceL_len (by have := HLEN.out; rw [← HL'.out, List.length_set, this, HL'.out]; exact O.out)) (fun x hx => ?_)
            rw [← HL'.out] at hx
            rcases List.mem_or_eq_of_mem_set hx with h1 | h1
            · exact (HLO.out x h1).below BW.out
            · rw [h1]; exact OKN.out.below BI.out)
          have BD : Hid (bestI (xs.set d (likeC c)) = (d : Int)) := Lib.hid (by
            refine most_one (c := likeC c) (by rw [List.getElem?_set_self hdl]) ?_ (fun i e he hne => ?_)
            · unfold locOf likeC likeA
              simp only
              rw [(or32_all c.a.has).2]; rfl
            · rw [List.getElem?_set_ne (Ne.symm hne)] at he
              exact ⟨LK.out i e (List.getElem?_eq_some_iff.1 he).1 he hne, (HR.out e (List.mem_of_getElem? he)).loc.2⟩)
          have BF := Lib.hid (ch_Best _ _ wr CD.out (by rw [List.length_set]; omega) (fun e he => by
            rcases List.mem_or_eq_of_mem_set he with h1 | h1
            · exact HH.out e h1
            · rw [h1]; exact HH.out c (List.mem_of_getElem? HXC.out)))
          rw [BD.out] at BF
          clear CD O BI LK
          go_wp2_with fail
          refine BF.out.mono ?_
          rintro e w9 ⟨rfl, hb9⟩
          have B9 := Lib.hid (below_on BW.out hb9)
          clear hb9 BW BF
          go_wp2_with fail
          go_ret
          exact ⟨rfl, B9.out⟩
set_option maxRecDepth 100000 in
theorem likes_no (v : Value) (xs : List Cd) (wh : Int) (w : World) (h : CdsAt w v xs) (hr : rightL xs = false) : Calls Try.prog 6 #[v, .int .i64 wh] w fun e w' => e = .returned (.bool true) ∧ Below w.heap.size w w' := by
  have H := Lib.hid h
  have RI := Lib.hid (fun W h => law_right v xs W h)
  rw [hr] at RI
  clear h hr
  go_enter Try.func6, Try.ntmps6
  go_wp2_with fail
  refine (law_head _).mono ?_
  rintro e w1 ⟨rfl, hb1⟩
  have H1 := Lib.hid (H.out.below hb1)
  go_wp2_with fail
  refine (RI.out _ H1.out).mono ?_
  rintro e w2 ⟨rfl, hb2⟩
  go_wp2_with fail
  go_ret
  exact ⟨rfl, below_on hb1 hb2⟩
set_option maxRecDepth 100000 in
theorem likes_nil (v : Value) (wh : Int) (w : World) (h : CdsAt w v []) : Calls Try.prog 6 #[v, .int .i64 wh] w fun e w' => e = .returned (.bool true) ∧ Below w.heap.size w w' := by
  have H := Lib.hid h
  have RI := Lib.hid (fun W h => law_right v [] W h)
  rw [show rightL [] = true from rfl] at RI
  obtain ⟨sa, cap, rfl, _⟩ := h
  simp only [List.length_nil] at H RI ⊢
  go_enter Try.func6, Try.ntmps6
  go_wp2_with fail
  refine (law_head _).mono ?_
  rintro e w1 ⟨rfl, hb1⟩
  have H1 := Lib.hid (H.out.below hb1)
  go_wp2_with fail
  refine (RI.out _ H1.out).mono ?_
  rintro e w2 ⟨rfl, hb2⟩
  go_wp2_with fail
  go_ret
  exact ⟨rfl, below_on hb1 hb2⟩
theorem law_ChooseLikes (v : Value) (xs : List Cd) (wh : Int) (w : World) (h : CdsAt w v xs) (hz : ∀ c ∈ xs, AtSz c.a) : Calls Try.prog 6 #[v, .int .i64 wh] w fun e w' => e = .returned (.bool true) ∧ Below w.heap.size w w' := by
  cases hr : rightL xs
  · exact likes_no v xs wh w h hr
  · cases xs with
    | nil => exact likes_nil v wh w h
    | cons c xs => exact likes_walk v (c :: xs) wh w h hz hr (by simp)
namespace chooseLikes
open Go.ChangeShapes Go.WideShapes Go.ChangeAt Go.RowKit
set_option linter.unusedVariables false
set_option maxRecDepth 100000 in
theorem lifted (os : Os) (started : os.Started) (H : Type) (enc : TypeId × Value → H) :
    ReturnsInHanded {} Try.checked os 6 .any (Rows.chooseLikesSpec.pre6 enc Try.prog Try.f6 Rows.chooseLikesRow.domain false) (Rows.chooseLikesSpec.post enc Try.prog Try.f6 false true false false) := by
  refine returnsInHanded_of_change_sized (C := Try.checked) fr_own started (by kernel_rfl) Try.func6
    (ChangeSpec.witness6 (enc := enc) (C := Try.checked) false ⟨#[], #[.slice none 0 0, .int .i64 0], []⟩ 8 (by kernel_rfl) (by kernel_rfl) (by kernel_rfl) (by kernel_rfl)) ?_
  intro W base args ds gs before hval0 hW hcnd hsz0 _
  have hval : ∀ (j : Nat) t v, Try.f6.params[j]? = some t → args[j]? = some v → Value.okWide Try.prog W .any base t v := hval0
  have hW' := hW
  obtain ⟨p, q, hA0, hV, rfl, hfz, hnd⟩ := hW
  have hA : DataW.TrodAll enc Try.prog W 0 (fun _ => true) true Try.f6.params.toList args.toList ds p := hA0
  rw [Try.params6] at hA hval
  obtain ⟨v0, vs0, d0, ds0, p0, q0, hargs, rfl, rfl, h0, r0⟩ := trodAll_cons hA
  obtain ⟨v1, vs1, d1, ds1, p1, q1, rfl, rfl, rfl, h1, r1⟩ := trodAll_cons r0
  obtain ⟨rfl, rfl, rfl⟩ := trodAll_nil r1
  obtain rfl : args = #[v0, v1] := by cases args; simp_all
  obtain ⟨rfl, rfl⟩ := trodVars_none hV
  have lt0 : ∀ x ∈ p0, x.block < W.heap.size := by obtain ⟨m, hm⟩ := h0; exact DataW.trod_lt m _ _ _ hm
  have lt1 : ∀ x ∈ p1, x.block < W.heap.size := by obtain ⟨m, hm⟩ := h1; exact DataW.trod_lt m _ _ _ hm
  have hsz : (DataW.weightsEach Try.prog [40, 3] [d0, d1]).all (· ≤ reachBytes) = true := hsz0
  obtain ⟨xs, hS, hZs⟩ := open_cands_sz (hval 0 40 v0 rfl rfl) h0 (sz_of hsz (j := 0) rfl rfl)
  obtain ⟨n, rfl, hn0, hn1⟩ := open_i64 (hval 1 3 v1 rfl rfl)
  clear hA0 hval0 hsz0 hsz
  refine (law_ChooseLikes _ xs n W hS hZs).mono fun e W' ⟨he, bel⟩ => ?_
  subst he
  exact ⟨_, rfl, _, _, _, [], _, [], hW', trodAll_mk1 (shut_bool Try.underlying4 _), (trodAll_cons_mk (Below.trod fr_laidOut (by kernel_rfl) (of_decide_eq_true (by kernel_rfl)) h0 bel lt0) (trodAll_cons_mk (Below.trod fr_laidOut (by kernel_rfl) (of_decide_eq_true (by kernel_rfl)) h1 bel lt1) trodAll_mk0)), rfl, bel.frame _, fun h => by cases h⟩
theorem over : Rows.chooseLikesRow.holds Try.pinned (OpenSpec.ofChange Rows.chooseLikesSpec) :=
  OpenClaim.holds_of_wide 6 Try.f6 rfl rfl rfl rfl rfl rfl rfl ⟨rfl, rfl, rfl, rfl, rfl⟩ rfl rfl rfl rfl rfl (by kernel_rfl) Try.func6 (by kernel_rfl)
    (of_decide_eq_true (by kernel_rfl)) (by unfold Func.isWrapper; first | (rw [if_pos (by decide +kernel)]; kernel_rfl) | (rw [if_neg (by decide +kernel)]; exact ⟨rfl, rfl⟩))
    (fun os started H enc _ => lifted os started H enc)
/-- THE STATEMENT ChooseLikes. -/
theorem proved : Rows.ChooseLikesSaid := over
#print axioms proved
end chooseLikes
end Go.Proofs.Ytfkplbkllmnfeaa
