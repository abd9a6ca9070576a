/-
  CHOOSE: Best; a route of so many hops.
-/
import Derived.Test.YtfkplbkllmnfeaaChL
namespace Go.Proofs.Ytfkplbkllmnfeaa
open Go.RowKit

def bestI (xs : List Cd) : Int := match rksOf xs with | [] => -1 | r :: rs => (bestR r rs).place
theorem path_first {w : World} {v : Value} {p : List Sg} (h : PathAt w v p) : I64r (firstN p) := by
  cases p with
  | nil => exact ⟨by decide, by decide⟩
  | cons s p =>
    obtain ⟨sa, cap, _, _, _, hV⟩ := h
    obtain ⟨b, off, _, hP⟩ := hV (by simp)
    obtain ⟨cs, _, ⟨u, _, sb, cb, _, _, _, hL⟩, _⟩ := hP 0 s rfl
    obtain ⟨set, ss⟩ := s
    cases set
    · cases ss with
      | nil => exact ⟨by simp [firstN], by simp [firstN]⟩
      | cons x ss =>
        obtain ⟨b', off', _, hQ⟩ := hL (by simp)
        obtain ⟨cs, _, ⟨_, hx⟩, _⟩ := hQ 0 x rfl
        exact hx
    · exact ⟨by simp [firstN], by simp [firstN]⟩
theorem cds_first {w : World} {v : Value} {xs : List Cd} (h : CdsAt w v xs) : ∀ c ∈ xs, I64r (firstN c.a.path) := by
  intro c hc
  obtain ⟨i, hi⟩ := List.getElem?_of_mem hc
  obtain ⟨sa, cap, _, _, _, hV⟩ := h
  obtain ⟨b, off, _, hP⟩ := hV (by have := (List.getElem?_eq_some_iff.1 hi).1; omega)
  obtain ⟨cs, _, ⟨vp, vc, vo, _, _, hA⟩, _⟩ := hP i c hi
  exact path_first hA.1
theorem rksOf_get {xs : List Cd} {i : Nat} {c : Cd} (h : xs[i]? = some c) : (rksOf xs)[i]? = some (rkOf i c) := by
  unfold rksOf
  rw [List.getElem?_mapIdx, h]; rfl
theorem rksOf_mem {xs : List Cd} {r : Rk} : r ∈ rksOf xs ↔ ∃ (i : Nat) (c : Cd), xs[i]? = some c ∧ r = rkOf i c := by
  constructor
  · intro h
    obtain ⟨i, hi⟩ := List.getElem?_of_mem h
    unfold rksOf at hi
    rw [List.getElem?_mapIdx] at hi
    cases hx : xs[i]? with
    | none => rw [hx] at hi; simp at hi
    | some c => rw [hx] at hi; simp at hi; exact ⟨i, c, hx, hi.symm⟩
  · rintro ⟨i, c, h, rfl⟩
    exact List.mem_of_getElem? (rksOf_get h)
theorem rksOf_place {xs : List Cd} : ∀ q ∈ rksOf xs, ∀ q' ∈ rksOf xs, q.place = q'.place → q = q' := by
  intro q hq q' hq' he
  obtain ⟨i, c, hi, rfl⟩ := rksOf_mem.1 hq
  obtain ⟨j, d, hj, rfl⟩ := rksOf_mem.1 hq'
  have : i = j := by
    have : (i : Int) = (j : Int) := he
    omega
  subst this
  rw [hi] at hj
  cases hj; rfl
/-- the best one, by definition. -/
theorem bestI_spec {xs : List Cd} (h : xs ≠ []) : ∃ (i : Nat) (c : Cd), xs[i]? = some c ∧ bestI xs = i ∧ IsBest (rksOf xs) (rkOf i c) := by
  unfold bestI
  cases hr : rksOf xs with
  | nil =>
    exfalso
    have := rksOf_len xs
    rw [hr] at this
    exact h (List.length_eq_zero_iff.1 this.symm)
  | cons r rs =>
    have hb := best_spec r rs
    have hm := hb.mem
    rw [← hr] at hm
    obtain ⟨i, c, hi, e⟩ := rksOf_mem.1 hm
    exact ⟨i, c, hi, by simp only [e]; rfl, e ▸ hb⟩
/-- who meets the definition is the best one. -/
theorem bestI_of {xs : List Cd} {i : Nat} {c : Cd} (h : xs[i]? = some c) (hb : IsBest (rksOf xs) (rkOf i c)) : bestI xs = i := by
  obtain ⟨j, d, hj, e, hb2⟩ := bestI_spec (xs := xs) (by rintro rfl; simp at h)
  have := best_one hb hb2 rksOf_place
  rw [e]
  exact (congrArg Rk.place this).symm
@[go_sem ↓] theorem field_place (r : Rk) (w : World) : (Instr.field 54 (.agg (rkA r)) 0).run Try.prog w = .ok (.int .i64 r.place) w := by kernel_rfl
set_option maxHeartbeats 1600000 in
set_option maxRecDepth 100000 in
theorem ch_Best (v : Value) (xs : List Cd) (w : World) (h : CdsAt w v xs) (hn : xs.length ≤ 100000) (hh : ∀ c ∈ xs, hopsN c.a.path ≤ 4611686018427387904) : Calls Try.prog 11 #[v] w fun e w' => e = .returned (.int .i64 (bestI xs)) ∧ Below w.heap.size w w' := by
  have RK := Lib.hid (ch_ranks v xs w h hn hh)
  have FI := Lib.hid (cds_first h)
  obtain ⟨sa, cap, rfl, hlc, hcm, _⟩ := h
  unfold maxLen at hcm
  cases xs with
  | nil =>
    go_enter Try.func11, Try.ntmps11
    go_wp2_with fail
    go_ret
    exact ⟨rfl, Below.refl _ _⟩
  | cons c xs =>
    have n0 : (((c :: xs).length : Nat) : Int) = 0 ↔ False := by simp; omega
    obtain ⟨r, rs, hr⟩ : ∃ r rs, rksOf (c :: xs) = r :: rs := by
      cases hq : rksOf (c :: xs) with
      | nil => have := rksOf_len (c :: xs); rw [hq] at this; simp at this
      | cons r rs => exact ⟨r, rs, rfl⟩
    have hlr : (r :: rs).length = (c :: xs).length := by rw [← hr]; exact rksOf_len _
    have E : Hid (bestI (c :: xs) = (bestR r rs).place) := Lib.hid (by unfold bestI; rw [hr])
    have HF : Hid (∀ q ∈ r :: rs, I64r q.first) := Lib.hid (fun q hq => by
      rw [← hr] at hq
      obtain ⟨i, d, hi, rfl⟩ := rksOf_mem.1 hq
      exact FI.out d (List.mem_of_getElem? hi))
    have hlr' : rs.length ≤ 100000 := by simp only [List.length_cons] at hlr hn; omega
    have RB := Lib.hid (fun v W h => ch_best v r rs W h hlr' HF.out (left_ne r rs))
    rw [hr] at RK
    have HL := Lib.hid hlr
    generalize (c :: xs).length = m at *
    have hm : 0 < m := by rw [← HL.out]; simp
    have n0 : ((m : Int) == 0) = false := by rw [beq_eq_false_iff_ne]; omega
    have hm2 : m ≤ maxLen := by unfold maxLen; omega
    clear hlr hr FI hlr'
    go_enter Try.func11, Try.ntmps11
    go_wp2_with fail
    refine RK.out.mono ?_
    rintro e w1 ⟨g, rfl, R1, hg, hb1⟩
    have A1 := Lib.hid (R1.at_ HL.out hm2)
    clear R1
    go_wp2_with fail
    refine (RB.out _ _ A1.out).mono ?_
    rintro e w2 ⟨rfl, hb2⟩
    have B2 := Lib.hid (below_on hb1 hb2)
    clear hb1 hb2 A1
    generalize bestR r rs = R at E
    go_wp2_with fail
    go_ret
    exact ⟨ret_int E.out.symm, B2.out⟩
/-- a route of the law's own. -/
def hopsL (n : Nat) : List Int := (List.range n).map fun (i : Nat) => (100 : Int) + (i : Int)
def atR (n : Nat) : At := ⟨14, 0, [(false, hopsL n)], 0, 0, 0, 0, 0, [], []⟩
def cdR (n : Nat) (peer : Int) (id : Nat) : Cd := ⟨peer, 0, 0, atR n, id⟩
abbrev intL (x : Int) : List Value := [.int .i64 x]
theorem intL_len (x : Int) : (intL x).length = 1 := rfl
theorem hopsL_step (n : Nat) : hopsL (n + 1) = hopsL n ++ [(100 : Int) + (n : Int)] := by unfold hopsL; rw [List.range_succ, List.map_append]; rfl
theorem hopsL_len (n : Nat) : (hopsL n).length = n := by simp [hopsL]
theorem info_int : (Try.prog.info? 3).map (fun i => (i.zero, i.size, i.bytes)) = some (some (.int .i64 0), 1, 8) := by kernel_rfl
theorem results_route (tmps : Array Value) (W : World) (b : Nat) (C : Array Value) (hC : C.size = 14) (h4 : tmps.getD 6 undef = .pointer (some ⟨b, 0, none⟩)) (hb : W.heap[b]? = some (.cells C 35 (0, 0))) :
    (results Try.f10 tmps).run Try.prog W = .ok (.agg C) W := results_cell_row Try.results10 tmps W b 35 C (0, 0) _ h4 hb Try.underlying35 rfl (by rw [hC]; kernel_rfl)
abbrev cdZA : Array Value := #[.int .i64 0, .int .u32 0, .int .i64 0, .int .i64 0, .int .i64 0, .slice none 0 0, .int .u32 0, .int .i64 0, .int .i64 0, .int .i64 0, .int .u32 0, .slice none 0 0, .slice none 0 0, .int .u32 0]
theorem boxZc (w : World) : ∃ W0, W0 = w.alloc (.cells cdZA 35) ∧ W0.heap[w.heap.size]? = some (.cells cdZA 35 (0, 0)) ∧ Below w.heap.size w W0 ∧ W0.heap.size = w.heap.size + 1 :=
  ⟨_, rfl, heap_alloc_new w _, (Below.refl _ _).alloc (Nat.le_refl _) _, by simp⟩
theorem ints_of {w : World} {B : Nat} {v : Value} {n : Nat} (hn : n ≤ 1000) (h : w.ownsRow B 3 1 v n ((hopsL n).flatMap intL)) : IntsAt w v (hopsL n) := by
  have SL := own_slat (C := intL) (xs := hopsL n) intL_len (by rw [hopsL_len]; exact h)
  refine SL.imp (fun x cs hx h => ⟨h, ?_⟩)
  unfold hopsL at hx
  obtain ⟨i, hi, rfl⟩ := List.mem_map.1 hx
  have := List.mem_range.1 hi
  unfold I64r; omega
theorem mk_path {w : World} {S : Nat} {v : Value} {xs : List Int} {T : TypeId} (h : w.heap[S]? = some (.cells #[.bool false, v] T (0, 0))) (hv : IntsAt w v xs) : PathAt w (.slice (some ⟨S, 0, none⟩) 1 1) [(false, xs)] := by
  refine ⟨_, _, rfl, Nat.le_refl _, by simp [maxLen], fun _ => ⟨S, 0, rfl, fun i s hs => ?_⟩⟩
  match i, hs with
  | 0, hs =>
    simp at hs; subst hs
    refine ⟨[.bool false, v], rfl, ⟨v, rfl, hv⟩, fun j c hc => ?_⟩
    rw [Nat.zero_mul, Nat.zero_add, row_cell h]
    simpa using hc
set_option maxHeartbeats 3200000 in
set_option maxRecDepth 100000 in
theorem law_route (n : Nat) (peer : Int) (id : Nat) (w : World) (hn : n ≤ 1000) (hi : id ≤ 1000) :
    Calls Try.prog 10 #[.int .i64 n, .int .i64 peer, .int .i64 id] w fun e w' => ∃ vp, e = .returned (.agg (cdA (cdR n peer id) vp (.slice none 0 0) (.slice none 0 0))) ∧ PathAt w' vp (atR n).path ∧ Below w.heap.size w w' := by
  obtain ⟨i0, hii, hz0, hz1, hz2⟩ := info_parts info_int
  go_enter Try.func10, Try.ntmps10
  go_upto_region 1 with (fail)
  obtain ⟨W0, hW0, q0, hb0, hz0⟩ := boxZc w
  rw [← hW0]
  have HZ := Lib.hid hz0
  clear hW0 hz0
  have Q0 := Lib.hid q0
  clear q0
  go_upto_region 2 with (fail)
  have O1 : Hid ((W0.alloc (.cells #[] 3)).ownsRow W0.heap.size 3 1 (.slice (some ⟨W0.heap.size, 0, none⟩) 0 0) 0 []) := Lib.hid (own_empty (Nat.le_refl _))
  have B1 : Hid (Below W0.heap.size W0 (W0.alloc (.cells #[] 3))) := Lib.hid ((Below.refl _ _).alloc (Nat.le_refl _) _)
  generalize W0.alloc (.cells #[] 3) = W1 at O1 B1 ⊢
  go_wp2_with fail
  go_loopw [7, 8] (fun o i wr => ∃ k : Nat, k ≤ n ∧ i = .int .i64 k ∧ Hid (wr.ownsRow W0.heap.size 3 1 o k ((hopsL k).flatMap intL)) ∧ Hid (Below W0.heap.size W0 wr)) (fun _ i _ => n - (intOf i).toNat)
  case atStart => exact ⟨0, by omega, rfl, O1, B1⟩
  case round =>
    clear O1 B1
    obtain ⟨k, hk, rfl, O, B⟩ := hrel
    by_cases hlt : k < n
    · have j1 : (k : Int) < (n : Int) := by omega
      have ST := Lib.hid (hopsL_step k)
      go_wp2_with (at_builtin; refine wpList_append_own_at _ rfl _ _ 28 rfl W0.heap.size 3 i0 _ 1 8 Try.underlying28 hii hz0 hz1 hz2 rfl (by decide) _ k ((hopsL k).flatMap intL) rfl (O.out.alloc _) ⟨wr.heap.size, 0, none⟩ 1 1 (intL (100 + (k : Int))) rfl ?ar1 ?br1 ?cr1 ?dr1 ?er1 ?fr1 ?_)
      case ar1 => rfl
      case br1 => exact new_cells _ _ _
      case cr1 => intro u hu; simp at hu; subst hu; rfl
      case dr1 => unfold maxLen; omega
      case er1 => omega
      case fr1 => have := B.out.size; simp; omega
      intro v' w5 hown hgrow _ _
      have O5 : Hid (w5.ownsRow W0.heap.size 3 1 v' (k + 1) ((hopsL (k + 1)).flatMap intL)) := Lib.hid (by rw [ST.out, flat_snoc]; exact hown)
      have B5 := Lib.hid ((B.out.alloc B.out.size _).grown hgrow (by have := B.out.size; simp; omega) (own_form_le O.out))
      clear hown hgrow O B ST
      go_wp2_with fail
      exact ⟨⟨k + 1, by omega, by go_num, O5, B5⟩, by simp [intOf]; omega⟩
    · obtain rfl : n = k := by omega
      obtain ⟨sa, cap, hv, _⟩ := ints_of hn O.out
      rw [hopsL_len] at hv
      subst hv
      go_upto_region 7 with (fail)
      obtain ⟨Ws, hWs⟩ : ∃ Ws, Ws = wr.alloc (.cells #[.bool false, .slice sa n cap] 38) := ⟨_, rfl⟩
      have hbs : Below wr.heap.size wr Ws := by rw [hWs]; exact (Below.refl _ _).alloc (Nat.le_refl _) _
      have SR : Hid (Ws.heap[wr.heap.size]? = some (.cells #[.bool false, .slice sa n cap] 38 (0, 0))) := Lib.hid (by rw [hWs]; exact heap_alloc_new _ _)
      have hzs : Ws.heap.size = wr.heap.size + 1 := by rw [hWs]; simp
      rw [← hWs]
      have OS := Lib.hid (own_below O.out hbs)
      have QS := Lib.hid ((hbs.block _ (by have := row_lt Q0.out; have := B.out.size; omega)).trans ((B.out.block _ (row_lt Q0.out)).trans Q0.out))
      have BS := Lib.hid (below_on (below_on hb0 B.out) hbs)
      have SG : Hid (W0.heap.size ≤ wr.heap.size) := Lib.hid B.out.size
      rw [← hzs]
      have HS : Hid (Ws.heap.size = wr.heap.size + 1) := Lib.hid hzs
      clear hWs hbs O B Q0 hb0 hzs
      generalize wr.heap.size = S at SR HS SG ⊢
      obtain ⟨W2, hW2⟩ : ∃ W2, W2 = Ws.alloc (.cells (cdA (cdR n peer 0) (.slice (some ⟨S, 0, none⟩) 1 1) (.slice none 0 0) (.slice none 0 0)) 35) := ⟨_, rfl⟩
      have R2 : Hid (W2.heap[Ws.heap.size]? = some (.cells (cdA (cdR n peer 0) (.slice (some ⟨S, 0, none⟩) 1 1) (.slice none 0 0) (.slice none 0 0)) 35 (0, 0))) := Lib.hid (by rw [hW2]; exact heap_alloc_new _ _)
      have B2 : Hid (Below Ws.heap.size Ws W2) := Lib.hid (by rw [hW2]; exact (Below.refl _ _).alloc (Nat.le_refl _) _)
      have e2 : W2 = Ws.alloc (.cells #[.int .i64 peer, .int .u32 0, .int .i64 0, .int .i64 14, .int .i64 0, .slice (some ⟨S, 0, none⟩) 1 1, .int .u32 0, .int .i64 0, .int .i64 0, .int .i64 0, .int .u32 0, .slice none 0 0, .slice none 0 0, .int .u32 0] 35) := hW2
      rw [← e2]
      clear hW2 e2
      go_wp2_with fail
      go_loopw [10] (fun i wr => ∃ k : Nat, k ≤ id ∧ i = .int .i64 k ∧ Hid (wr.heap[Ws.heap.size]? = some (.cells (cdA (cdR n peer k) (.slice (some ⟨S, 0, none⟩) 1 1) (.slice none 0 0) (.slice none 0 0)) 35 (0, 0))) ∧ Hid (Below Ws.heap.size Ws wr)) (fun i _ => id - (intOf i).toNat)
      case atStart => exact ⟨0, by omega, rfl, R2, B2⟩
      case round =>
        clear R2 B2
        obtain ⟨k, hk, rfl, R, B⟩ := hrel
        by_cases hlt : k < id
        · have j1 : (k : Int) < (id : Int) := by omega
          have c13 : wr.cell? ⟨Ws.heap.size, 13, none⟩ = some (.int .u32 k) := row_cell R.out 13
          have f13 := row_free R.out 13
          have hw : IntKind.u32.wrap ((k : Int) + 1) = (k : Int) + 1 := IntWalk.u32_in _ (by omega)
          have R3 : Hid ((wr.setCell ⟨Ws.heap.size, 13, none⟩ (.int .u32 ((k : Int) + 1))).heap[Ws.heap.size]? = some (.cells (cdA (cdR n peer (k + 1)) (.slice (some ⟨S, 0, none⟩) 1 1) (.slice none 0 0) (.slice none 0 0)) 35 (0, 0))) := Lib.hid (set_same R.out 13 _)
          have B3 := Lib.hid (B.out.setCell (p := ⟨Ws.heap.size, 13, none⟩) (Nat.le_refl _) (.int .u32 ((k : Int) + 1)))
          clear R B
          go_wp2_with fail
          exact ⟨⟨k + 1, by omega, by go_num, R3, B3⟩, by simp [intOf]; omega⟩
        · obtain rfl : id = k := by omega
          obtain ⟨c0, c1, c2, c3, c4, c5, c6, c7, c8, c9, c10, c11, c12, c13⟩ := cd_row R.out
          have Q3 := Lib.hid ((B.out.block _ (row_lt QS.out)).trans QS.out)
          have O3 := Lib.hid (own_below OS.out B.out)
          have S3 := Lib.hid ((B.out.block _ (row_lt SR.out)).trans SR.out)
          have B3 := Lib.hid (below_on BS.out B.out)
          clear R B QS OS SR BS
          go_wp2_with (refine st_row rfl 35 (.tmp 6) (.tmp 38) rfl w.heap.size rfl 35 cdZA (cdA (cdR n peer id) (.slice (some ⟨S, 0, none⟩) 1 1) (.slice none 0 0) (.slice none 0 0)) rfl Q3.out (by kernel_rfl) rfl (by simp [Value.oneCell']) ?_)
          refine bodyPost_ret (results_route _ _ w.heap.size (cdA (cdR n peer id) (.slice (some ⟨S, 0, none⟩) 1 1) (.slice none 0 0) (.slice none 0 0)) rfl ?_ (setRow_heap _ _ _ _ _ _ Q3.out)) rfl ⟨_, rfl, mk_path (T := 38) (by rw [setRow_other _ _ _ _ (by have := HZ.out; have := SG.out; omega)]; exact S3.out) (ints_of hn (own_setRow O3.out (by have := HZ.out; omega) _)), below_setRow B3.out (Nat.le_refl _) _⟩
          rfl
/-! ### candidates in memory of the law's own -/
structure Ce where
  c : Cd
  vp : Value
  vc : Value
  vo : Value
def ceL (x : Ce) : List Value := (cdA x.c x.vp x.vc x.vo).toList
theorem ceL_len (x : Ce) : (ceL x).length = 14 := rfl
def Ce.Ok (w : World) (x : Ce) : Prop := x.c.Rng ∧ AtL w x.c.a x.vp x.vc x.vo
theorem Ce.Ok.below {w w' : World} {x : Ce} (h : x.Ok w) (hb : Below w.heap.size w w') : x.Ok w' := ⟨h.1, h.2.below hb⟩
theorem ces_cds {w : World} {v : Value} {L : List Ce} (h : SlAt w 14 (fun x cs => cs = ceL x) v L) (hL : ∀ x ∈ L, x.Ok w) : CdsAt w v (L.map Ce.c) := by
  obtain ⟨sa, cap, h1, h2, h3, h4⟩ := h
  refine ⟨sa, cap, by rw [List.length_map]; exact h1, by rw [List.length_map]; exact h2, h3, fun h0 => ?_⟩
  obtain ⟨b, off, h5, h6⟩ := h4 (by rwa [List.length_map] at h0)
  refine ⟨b, off, h5, fun i c hc => ?_⟩
  rw [List.getElem?_map] at hc
  cases hx : L[i]? with
  | none => rw [hx] at hc; simp at hc
  | some x =>
    rw [hx] at hc
    simp at hc; subst hc
    obtain ⟨cs, g1, g2, g3⟩ := h6 i x hx
    obtain ⟨o1, o2⟩ := hL x (List.mem_of_getElem? hx)
    exact ⟨cs, g1, ⟨x.vp, x.vc, x.vo, g2, o1, o2⟩, g3⟩
theorem own_lit {w : World} {b n k : Nat} {C : Array Value} {T : TypeId} (h : w.heap[b]? = some (.cells C T (0, 0))) (hn : C.size = n * k) (hm : n ≤ maxLen) : w.ownsRow 0 T k (.slice (some ⟨b, 0, none⟩) n n) n C.toList :=
  ⟨by simpa using hn, .inr ⟨b, n, C, rfl, Nat.zero_le _, h, Nat.le_refl _, hm, hn, by rw [List.take_of_length_le (by simp [hn])]⟩⟩
theorem lit_cds {w : World} {b : Nat} {L : List Ce} {T : TypeId} (h : w.heap[b]? = some (.cells (L.flatMap ceL).toArray T (0, 0))) (hm : L.length ≤ maxLen) (hL : ∀ x ∈ L, x.Ok w) : CdsAt w (.slice (some ⟨b, 0, none⟩) L.length L.length) (L.map Ce.c) := by
  have h2 := own_lit (k := 14) (n := L.length) h (by simp [flat_len ceL_len]) hm
  have h3 : (L.flatMap ceL).toArray.toList = L.flatMap ceL := rfl
  rw [h3] at h2
  exact ces_cds (own_slat (C := ceL) ceL_len h2) hL
theorem cdR_rng (n : Nat) (peer : Int) (id : Nat) (hp : I64r peer) (hi : id < 4294967296) : (cdR n peer id).Rng := by
  refine ⟨hp, by simp [cdR], by simp [cdR, I64r], ⟨?_, ?_, ?_, ?_, ?_, ?_, ?_⟩, hi⟩ <;> simp [cdR, atR, I64r]
theorem ce_ok {w : World} {n : Nat} {peer : Int} {id : Nat} {vp : Value} (hP : PathAt w vp (atR n).path) (hp : I64r peer) (hi : id < 4294967296) : (⟨cdR n peer id, vp, .slice none 0 0, .slice none 0 0⟩ : Ce).Ok w :=
  ⟨cdR_rng n peer id hp hi, hP, SlAt.nil, SlAt.nil⟩
end Go.Proofs.Ytfkplbkllmnfeaa
