/-
  SETS OF PREFIXES: Group.
-/
import Derived.Test.YtaafeekkllomhaaPsR
import Derived.Test.YtaafeekkllomhaaPsK
namespace Go.Proofs.Ytaafeekkllomhaa
open Go.RowKit

theorem info_set : (Try.prog.info? 26).map (fun i => (i.zero, i.size, i.bytes)) = some (some (.agg #[.slice none 0 0]), 1, 24) := by kernel_rfl
/-- groups of the call's own: the row, and each group's own row. -/
structure GrpAt (w : World) (B : Nat) (v : Value) (vs : List Value) (G : List (List Pf)) : Prop where
  len : vs.length = G.length
  row : w.ownsRow B 26 1 v G.length vs
  own : ∀ (i : Nat) (u : Value) (x : List Pf), vs[i]? = some u → G[i]? = some x → w.ownsRow B 35 2 u x.length (x.flatMap encP)
  sep : ∀ (i j k : Nat) (u u' : Value), i ≠ j → vs[i]? = some u → vs[j]? = some u' → u.ownBlock = some k → u'.ownBlock ≠ some k
theorem own_kinds {w : World} {B B' k k' n n' : Nat} {e e' : TypeId} {v v' : Value} {xs xs' : List Value} (h : w.ownsRow B e k v n xs) (h' : w.ownsRow B' e' k' v' n' xs') (hne : e ≠ e') : ∀ b, v.ownBlock = some b → v'.ownBlock ≠ some b := by
  obtain ⟨_, ⟨rfl, _⟩ | ⟨g, cap, cur, rfl, hB, hg, _⟩⟩ := h
  · intro b hb; cases hb
  · obtain ⟨_, ⟨rfl, _⟩ | ⟨g', cap', cur', rfl, hB', hg', _⟩⟩ := h'
    · intro b _ hb; cases hb
    · intro b h1 h2
      injection h1 with h1
      injection h2 with h2
      simp only at h1 h2
      rw [h1] at hg
      rw [h2] at hg'
      rw [hg] at hg'
      injection hg' with hg'
      injection hg' with _ hg' _
      exact hne hg'
theorem GrpAt.below {w w' : World} {B : Nat} {v : Value} {vs : List Value} {G : List (List Pf)} (h : GrpAt w B v vs G) (hb : Below w.heap.size w w') : GrpAt w' B v vs G :=
  ⟨h.len, own_below h.row hb, fun i u x hu hx => own_below (h.own i u x hu hx) hb, h.sep⟩
theorem GrpAt.kept {w w' : World} {B b : Nat} {v : Value} {vs : List Value} {G : List (List Pf)} (h : GrpAt w B v vs G) (hk : Kept (fun k => k = b) w w') (h1 : v.ownBlock ≠ some b) (h2 : ∀ (i : Nat) (u : Value), vs[i]? = some u → u.ownBlock ≠ some b) : GrpAt w' B v vs G :=
  ⟨h.len, ((own_on h.row).kept hk (fun k _ hv e => h1 (by rw [← e]; exact hv))).self, fun i u x hu hx => ((own_on (h.own i u x hu hx)).kept hk (fun k _ hv e => h2 i u hu (by rw [← e]; exact hv))).self, h.sep⟩
theorem grp_start (w : World) (B : Nat) : GrpAt w B (.slice none 0 0) [] [] := ⟨rfl, ⟨rfl, .inl ⟨rfl, rfl⟩⟩, fun i u x h => by simp at h, fun i j k u u' _ h => by simp at h⟩
/-- a new, empty group. -/
theorem GrpAt.push {w w' : World} {B : Nat} {v v' : Value} {vs : List Value} {G : List (List Pf)} (h : GrpAt w B v vs G) (hrow : w'.ownsRow B 26 1 v' (G.length + 1) (vs ++ [.slice none 0 0])) (hgrow : w.grownBy w' v.ownBlock) : GrpAt w' B v' (vs ++ [.slice none 0 0]) (G ++ [[]]) := by
  refine ⟨by simp [h.len], by rw [List.length_append]; exact hrow, fun i u x hu hx => ?_, fun i j k u u' hij hu hu' hk => ?_⟩
  · by_cases hi : i < vs.length
    · rw [List.getElem?_append_left hi] at hu
      rw [List.getElem?_append_left (by rw [← h.len]; exact hi)] at hx
      exact ((own_on (h.own i u x hu hx)).kept (kept_grown hgrow) (fun k _ h1 h2 => own_kinds h.row (h.own i u x hu hx) (by decide) k h2 h1)).self
    · rw [List.getElem?_append_right (by omega)] at hu
      rw [List.getElem?_append_right (by rw [← h.len]; omega)] at hx
      obtain ⟨e1, -⟩ := List.getElem?_eq_some_iff.1 hu
      simp at e1
      have e2 : i - vs.length = 0 := by omega
      have e3 : i - G.length = 0 := by rw [← h.len]; exact e2
      rw [e2] at hu
      rw [e3] at hx
      simp at hu hx
      subst hu; subst hx
      exact ⟨rfl, .inl ⟨rfl, rfl⟩⟩
  · by_cases hi : i < vs.length
    · rw [List.getElem?_append_left hi] at hu
      by_cases hj : j < vs.length
      · rw [List.getElem?_append_left hj] at hu'
        exact h.sep i j k u u' hij hu hu' hk
      · rw [List.getElem?_append_right (by omega)] at hu'
        obtain ⟨e1, e2⟩ := List.getElem?_eq_some_iff.1 hu'
        simp at e1 e2
        subst e2
        intro e; cases e
    · rw [List.getElem?_append_right (by omega)] at hu
      obtain ⟨e1, e2⟩ := List.getElem?_eq_some_iff.1 hu
      simp at e1 e2
      subst e2
      cases hk
/-- one more in a group: its row grown, its slice stored. -/
theorem GrpAt.put {w w1 : World} {B at_ gb c : Nat} {vs : List Value} {G : List (List Pf)} {u u' : Value} {x : List Pf} {p : Pf} (h : GrpAt w B (.slice (some ⟨gb, 0, none⟩) G.length c) vs G) (hu : vs[at_]? = some u) (hx : G[at_]? = some x)
    (hown : w1.ownsRow B 35 2 u' (x ++ [p]).length ((x ++ [p]).flatMap encP)) (hk : Kept (fun b => u.ownBlock = some b) w w1) (hblk : u'.ownBlock = u.ownBlock ∨ ∃ b, u'.ownBlock = some b ∧ w.heap.size ≤ b) :
    GrpAt (w1.setCell ⟨gb, at_, none⟩ u') B (.slice (some ⟨gb, 0, none⟩) (G.set at_ (x ++ [p])).length c) (vs.set at_ u') (G.set at_ (x ++ [p])) := by
  have hlv := (List.getElem?_eq_some_iff.1 hu).1
  have hown0 := h.own at_ u x hu hx
  have hrow1 : w1.ownsRow B 26 1 (.slice (some ⟨gb, 0, none⟩) G.length c) G.length vs := ((own_on h.row).kept hk (fun k _ h1 h2 => own_kinds h.row hown0 (by decide) k h1 h2)).self
  have hrow2 := own_set hrow1 rfl at_ u'
  have hne1 : ∀ k, u'.ownBlock = some k → k ≠ gb := fun k h1 e => own_kinds hrow1 hown (by decide) gb rfl (by rw [← e]; exact h1)
  refine ⟨by simp [h.len], by rw [List.length_set]; exact hrow2, fun i v y hv hy => ?_, fun i j k v v' hij hv hv' hvk => ?_⟩
  · by_cases e : i = at_
    · subst e
      rw [List.getElem?_set_self (by simpa using hlv)] at hv
      rw [List.getElem?_set_self (by rw [← h.len]; exact hlv)] at hy
      obtain rfl := Option.some.inj hv
      obtain rfl := Option.some.inj hy
      exact ((own_on hown).kept (F := fun b => u'.ownBlock = some b) (G := fun b => b = gb) (Kept.setCell _ _ rfl) (fun k _ h1 h2 => hne1 k h1 h2)).self
    · rw [List.getElem?_set_ne (fun e2 => e e2.symm)] at hv hy
      have h1 := h.own i v y hv hy
      have h2 := ((own_on h1).kept hk (fun k _ a b => h.sep at_ i k u v (fun e2 => e e2.symm) hu hv b a)).self
      exact ((own_on h2).kept (F := fun b => v.ownBlock = some b) (G := fun b => b = gb) (Kept.setCell _ _ rfl) (fun k _ h1 h3 => own_kinds hrow1 h2 (by decide) gb rfl (by rw [← h3]; exact h1))).self
  · by_cases e : i = at_
    · subst e
      rw [List.getElem?_set_self (by simpa using hlv)] at hv
      obtain rfl := Option.some.inj hv
      rw [List.getElem?_set_ne (fun e2 => hij e2)] at hv'
      rcases hblk with h1 | ⟨b, h1, h2⟩
      · rw [h1] at hvk
        exact h.sep i j k u v' hij hu hv' hvk
      · intro h3
        rw [h1] at hvk
        have hb := Option.some.inj hvk
        have := own_ltP (h.own j v' _ hv' (List.getElem?_eq_getElem (by rw [← h.len]; exact (List.getElem?_eq_some_iff.1 hv').1))) k h3
        omega
    · rw [List.getElem?_set_ne (fun e2 => e e2.symm)] at hv
      by_cases e2 : j = at_
      · subst e2
        rw [List.getElem?_set_self (by simpa using hlv)] at hv'
        obtain rfl := Option.some.inj hv'
        rcases hblk with h1 | ⟨b, h1, h2⟩
        · rw [h1]
          exact h.sep i j k v u hij hv hu hvk
        · intro h3
          rw [h1] at h3
          have hb := Option.some.inj h3
          have := own_ltP (h.own i v _ hv (List.getElem?_eq_getElem (by rw [← h.len]; exact (List.getElem?_eq_some_iff.1 hv).1))) k hvk
          omega
      · rw [List.getElem?_set_ne (fun e3 => e2 e3.symm)] at hv'
        exact h.sep i j k v v' hij hv hv' hvk
section
variable {P : Program} {w : World}
theorem wp_append_own_at {o : Oper} {a : Act} {K : Act → World → Prop} {Q : Exit → Act → World → Prop} (s x : Operand) (t : TypeId)
    (ho : o.op = .call { callee := .builtin .append, args := #[s, x], argTypes := #[t, t] })
    (base : Nat) (e : TypeId) (i : TypeInfo) (z : Value) (size bytes : Nat) (ht : P.underlying t = some (.slice e)) (hi : P.info? e = some i) (hz : i.zero = some z)
    (hsize : i.size = size) (hby : i.bytes = bytes) (hzs : z.cells.size = size) (hsz : 0 < size)
    (v : Value) (n : Nat) (xs : List Value) (hs : a.eval s = v) (hown : w.ownsRow base e size v n xs)
    (ad : Addr) (m c : Nat) (news : List Value) (hx : a.eval x = .slice (some ad) m c) (hl : news.length = m * size) (hnews : ∀ j u, news[j]? = some u → w.cell? (ad.add j) = some u) (h1 : ∀ u ∈ news, u.oneCell' = true)
    (h63 : n + m ≤ maxLen) (hbytes : (n + m) * bytes ≤ 140737488355328) (hbase : base ≤ w.heap.size)
    (h : ∀ v' w', w'.ownsRow base e size v' (n + m) (xs ++ news) → w.grownBy w' v.ownBlock → (v'.ownBlock = v.ownBlock ∨ v'.ownBlock = some w.heap.size) → K (a.put o.dst v') w') : o.wp P a w K Q := by
  obtain ⟨v', w', hr, h2, h3, _, h5⟩ := run_append_own_at (P := P) w base t o.type e i z size bytes ht hi hz hsize hby hzs hsz v n xs hown ad m c news hl hnews h1 h63 hbytes hbase
  unfold Oper.wp execOp
  simp only [ho, resolve, invoke, builtin, Sem.run_bind, Sem.run_pure, Result.andThen_ok, List.map_toArray, List.map_cons, List.map_nil, hs, hx, hr]
  exact h v' w' h2 h3 h5
end
theorem one_nil : ∀ u ∈ [Value.slice none 0 0], u.oneCell' = true := by
  intro u hu
  rw [List.mem_singleton.1 hu]; rfl
theorem grp_len {sm : Pf → Pf → Bool} {l : List Pf} {k : Nat} {x : List Pf} (h : (grpL sm l)[k]? = some x) : x.length ≤ l.length := by
  unfold grpL at h
  rw [List.getElem?_map] at h
  obtain ⟨r, -, rfl⟩ := Option.map_eq_some_iff.1 h
  exact List.length_filter_le _ _
theorem own_more {w : World} {B k n m : Nat} {e : TypeId} {v : Value} {xs : List Value} (h : w.ownsRow B e k v (n + (m + 1)) xs) : ∃ g c, v = .slice (some ⟨g, 0, none⟩) (n + (m + 1)) c := by
  rcases own_slice h with ⟨_, h0⟩ | h
  · omega
  · exact h
theorem froz_kept {F : Nat → Prop} {w w' : World} {b o : Nat} {v : Value} (hk : Kept F w w') (h : w.cell? ⟨b, o, none⟩ = some v) (hf : w.frozen? ⟨b, o, none⟩ = false) (hF : ¬ F b) : w'.frozen? ⟨b, o, none⟩ = false :=
  (World.frozen?_of_block (w := w) (hk.block b (size_lt h) hF)).trans hf
def GrpPost (xs : List Pf) (bys : List (List Pf)) (w : World) (e : Ending) (w' : World) : Prop := ∃ (v : Value) (vs : List Value), e = .returned v ∧ GrpAt w' w.heap.size v vs (grpL (sameB bys) xs) ∧ Below w.heap.size w w'
def clsF (xs : List Pf) (cls : List Int) (p : Pf) : Int := (cls[xs.idxOf p]?).getD 0
theorem clsF_at {xs : List Pf} {cls : List Int} {i : Nat} {p : Pf} {c : Int} (hd : xs.Nodup) (hp : xs[i]? = some p) (hc : cls[i]? = some c) : clsF xs cls p = c := by
  unfold clsF
  have hm := List.mem_of_getElem? hp
  have h1 : xs.idxOf p < xs.length := List.idxOf_lt_length_iff.2 hm
  have h2 : xs[xs.idxOf p]? = some p := by rw [List.getElem?_eq_getElem h1, List.getElem_idxOf]
  rw [nodup_at hd h2 hp, hc]; rfl
theorem clsF_same {xs : List Pf} {bys : List (List Pf)} {cls : List Int} {L i : Nat} {p : Pf} (h : EqS xs bys cls L) (hd : xs.Nodup) (hp : xs[i]? = some p) : ∀ q ∈ xs.take i, (clsF xs cls q = clsF xs cls p ↔ sameB bys q p = true) := by
  intro q hq
  obtain ⟨j, hj⟩ := List.mem_iff_getElem?.1 (List.mem_of_mem_take hq)
  obtain ⟨c, hc⟩ : ∃ c, cls[j]? = some c := ⟨_, List.getElem?_eq_getElem (by rw [h.len]; exact (List.getElem?_eq_some_iff.1 hj).1)⟩
  obtain ⟨d, hdd⟩ : ∃ d, cls[i]? = some d := ⟨_, List.getElem?_eq_getElem (by rw [h.len]; exact (List.getElem?_eq_some_iff.1 hp).1)⟩
  rw [clsF_at hd hj hc, clsF_at hd hp hdd]
  exact h.eq j i q p c d hj hp hc hdd
set_option maxHeartbeats 12800000 in
set_option maxRecDepth 100000 in
theorem ps_Group (va u : Value) (xs : List Pf) (bys : List (List Pf)) (w : World) (h : PsAt w va xs) (hs : Srt xs) (k : SetsAt w u bys) (hn : xs.length ≤ 65536) (hb : bys.length ≤ 65536) (hbs : ∀ s ∈ bys, s.length ≤ 65536) :
    Calls Try.prog 11 #[.agg #[va], u] w (GrpPost xs bys w) := by
  obtain ⟨i0, hii, hz0, hz1, hz2⟩ := info_parts info_set
  obtain ⟨j0, hjj, hy0, hy1, hy2⟩ := info_parts info_pref
  have hmm := @run_makeMap Try.prog
  have HA := Lib.hid h
  have HS := Lib.hid hs
  have PT := Lib.hid (fun W (hb0 : Below w.heap.size w W) => ps_part va u xs bys W (h.below hb0) hs (k.below hb0) hn hb hbs)
  obtain ⟨sa, cap, rfl, hlc, hcm, hV⟩ := h
  obtain ⟨sb, cap2, rfl, -⟩ := k
  have HV := Lib.hid hV
  have HBL := Lib.hid hb
  clear hV hs hbs hb
  unfold maxLen at hcm
  go_enter Try.func11, Try.ntmps11
  go_upto_region 1 with (fail)
  obtain ⟨W0, hW0, q0, hB, -⟩ := boxC w #[.slice sa xs.length cap] 26
  rw [← hW0]
  clear hW0
  have C0 : Hid (W0.cell? ⟨w.heap.size, 0, none⟩ = some (.slice sa xs.length cap)) := Lib.hid (row_cell q0 0)
  have HB := Lib.hid hB
  clear q0 hB
  go_upto_region 3 with (fail)
  obtain ⟨W1, hW1⟩ : ∃ W1, W1 = W0.alloc (.map #[] 0) := ⟨_, rfl⟩
  have hb1 : Below W0.heap.size W0 W1 := by rw [hW1]; exact (Below.refl _ _).alloc (Nat.le_refl _) _
  have M1 : Hid (MapT nV nV I64r W1 W0.heap.size ([] : List (Int × Int))) := Lib.hid (by rw [hW1]; exact MapT.made W0)
  rw [← hW1]
  have c0 := cell_below C0.out hb1
  have B1 := Lib.hid hb1
  clear hW1 hb1
  obtain ⟨mb, hmb⟩ : ∃ mb, W0.heap.size = mb := ⟨_, rfl⟩
  have MB := Lib.hid hmb
  rw [hmb] at M1 ⊢
  clear hmb
  go_wp2_with fail
  refine (PT.out W1 (below_on HB.out B1.out)).mono ?_
  rintro e w2 ⟨vc, cls, L, rfl, oc, hE, hL, hb2⟩
  have HL : Hid (L ≤ 4294967296) := Lib.hid (Nat.le_trans hL (Nat.le_trans (Nat.mul_le_mul_right 65536 HBL.out) (by decide)))
  have O2 := Lib.hid (own_base oc B1.out.size)
  have E := Lib.hid hE
  have B2 := Lib.hid (B1.out.trans ⟨hb2.os, hb2.tape, hb2.output, hb2.size, fun k hk => hb2.block k (by have := B1.out.size; omega)⟩)
  have M2 := Lib.hid (M1.out.below hb2)
  clear oc hE hL hb2 M1 B1 c0 PT
  obtain ⟨sc, cc, rfl⟩ : ∃ sc cc, vc = .slice sc xs.length cc := by
    rcases own_slice O2.out with ⟨rfl, h0⟩ | ⟨g, c, rfl⟩
    · exact ⟨none, 0, by rw [h0]⟩
    · exact ⟨_, _, rfl⟩
  go_wp2_with fail
  go_loopw [16, 5] (fun i16 v5 wr => ∃ (i : Nat) (M : List (Int × Int)) (vs : List Value), i ≤ xs.length ∧ i16 = .int .i64 i ∧ Hid (GrS (sameB bys) (clsF xs cls) (xs.take i) M) ∧ Hid (GrpAt wr W0.heap.size v5 vs (grpL (sameB bys) (xs.take i))) ∧ Hid (MapT nV nV I64r wr mb M) ∧ Hid (wr.ownsRow W0.heap.size 3 1 (.slice sc xs.length cc) xs.length (cls.map nV)) ∧ Hid (Below W0.heap.size W0 wr)) (fun i16 _ _ => xs.length - (intOf i16).toNat)
  case atStart => exact ⟨0, [], [], by omega, rfl, Lib.hid (by rw [List.take_zero]; exact grs_start _ _), Lib.hid (by rw [List.take_zero]; exact grp_start _ _), M2, O2, B2⟩
  case round =>
    clear M2 O2 B2
    obtain ⟨i, M, vs, hi, rfl, G, GA, MM, O, B⟩ := hrel
    by_cases hlt : i < xs.length
    · obtain ⟨p, hp⟩ : ∃ p, xs[i]? = some p := ⟨_, List.getElem?_eq_getElem hlt⟩
      obtain ⟨b1, off1, hsa, hP⟩ := HV.out (by omega)
      subst hsa
      obtain ⟨x0, x1⟩ := ps_two hP hp
      have X0 := Lib.hid ((B.out.cell (size_lt (cell_below x0 HB.out))).trans (cell_below x0 HB.out))
      have X1 := Lib.hid ((B.out.cell (size_lt (cell_below x1 HB.out))).trans (cell_below x1 HB.out))
      have XB := Lib.hid (size_lt (cell_below x0 HB.out))
      obtain ⟨c, hc⟩ : ∃ c, cls[i]? = some c := ⟨_, List.getElem?_eq_getElem (by rw [E.out.len]; exact hlt)⟩
      obtain ⟨gc, hgc⟩ : ∃ gc, sc = some ⟨gc, 0, none⟩ := by
        rcases own_slice O.out with ⟨h1, h0⟩ | ⟨g, c2, h1⟩
        · omega
        · injection h1 with h1; exact ⟨g, h1⟩
      subst hgc
      obtain ⟨y0, -, -, -⟩ := own_row_cell O.out rfl (j := i) (u := nV c) (by rw [List.getElem?_map, hc]; rfl)
      have FC : Hid (clsF xs cls p = c) := Lib.hid (clsF_at (srt_nodup HS.out) hp hc)
      have SM : Hid (∀ q ∈ xs.take i, (clsF xs cls q = clsF xs cls p ↔ sameB bys q p = true)) := Lib.hid (clsF_same E.out (srt_nodup HS.out) hp)
      have TK : Hid (xs.take (i + 1) = xs.take i ++ [p]) := Lib.hid (by rw [List.take_add_one, hp]; rfl)
      have OP := Lib.hid (ps_ok HA.out p (List.mem_of_getElem? hp))
      have CR : Hid (I64r c) := Lib.hid (by
        have := E.out.rng i c hc
        have := HL.out
        unfold I64r
        omega)
      have k0 : (0 : Int) ≤ (i : Int) := by omega
      have k1 : (i : Int) < (xs.length : Int) := by omega
      clear hP hp x0 x1 hc
      have hl := MM.out.look int_enc Try.underlying65 c CR.out zero_int wr rfl true
      have HMlen : M.length < maxLen := by have := G.out.len; rw [List.length_take] at this; unfold maxLen; omega
      cases hg : getL M c with
      | none =>
        rw [hg] at hl
        simp only [if_true, Option.map_none, Option.getD_none, Option.isSome_none, nV] at hl
        obtain ⟨hG, hgr⟩ := grs_new (same_ok bys) G.out SM.out (by rw [FC.out]; exact hg)
        rw [FC.out] at hG
        rw [← TK.out] at hG hgr
        have G2 := Lib.hid hG
        have GR0 := Lib.hid hgr
        have LG0 : (grpL (sameB bys) (xs.take i)).length ≤ 65535 := by unfold grpL; rw [List.length_map]; exact Nat.le_trans (reps_len _) (by rw [List.length_take]; omega)
        obtain ⟨G0, hG0⟩ : ∃ G0, grpL (sameB bys) (xs.take i) = G0 := ⟨_, rfl⟩
        rw [hG0] at G2 GR0 GA LG0
        obtain ⟨at_, hat⟩ : ∃ at_, G0.length = at_ := ⟨_, rfl⟩
        rw [hat] at G2
        have HAT := Lib.hid hat
        clear hg hG hgr hG0 hat
        obtain ⟨s5, c5, rfl⟩ : ∃ s5 c5, u5 = .slice s5 at_ c5 := by
          rcases own_slice GA.out.row with ⟨h1, h0⟩ | ⟨g, c2, h1⟩
          · exact ⟨none, 0, by rw [h1, ← HAT.out, h0]⟩
          · exact ⟨_, _, by rw [h1, HAT.out]⟩
        obtain ⟨o, hst, hm⟩ := MM.out.store int_enc Try.underlying65 c CR.out (at_ : Int) HMlen wr rfl
        simp only [nV] at hst
        have B6 : Hid (Below W0.heap.size W0 (ChangeMaps.setBlock wr mb o)) := Lib.hid (B.out.trans (setBlock_below (by rw [← MB.out]; exact Nat.le_refl _)))
        have KM : Kept (fun b => b = mb) wr (ChangeMaps.setBlock wr mb o) := Kept.setBlock o rfl
        have O6 : Hid ((ChangeMaps.setBlock wr mb o).ownsRow W0.heap.size 3 1 (.slice (some ⟨gc, 0, none⟩) xs.length cc) xs.length (cls.map nV)) := Lib.hid ((own_on O.out).kept KM (fun k _ h1 h2 => own_ne_map O.out MM.out (by rw [h1, h2]))).self
        have GA6 : Hid (GrpAt (ChangeMaps.setBlock wr mb o) W0.heap.size (.slice s5 at_ c5) vs G0) := Lib.hid (GA.out.kept KM (own_ne_map GA.out.row MM.out) (fun j u hu => own_ne_map (GA.out.own j u _ hu (List.getElem?_eq_getElem (by rw [← GA.out.len]; exact (List.getElem?_eq_some_iff.1 hu).1))) MM.out))
        have M6 := Lib.hid hm
        have X06 : Hid ((ChangeMaps.setBlock wr mb o).cell? ⟨b1, off1 + i * 2, none⟩ = some (.int .u32 p.1)) := Lib.hid (KM.cell X0.out (fun e => by have := XB.out; have := MB.out; simp only at e; omega))
        have X16 : Hid ((ChangeMaps.setBlock wr mb o).cell? ⟨b1, off1 + i * 2 + 1, none⟩ = some (.int .i64 p.2)) := Lib.hid (KM.cell X1.out (fun e => by have := XB.out; have := MB.out; simp only at e; omega))
        clear hm KM B O GA MM X0 X1
        go_upto_region 10 with (fail)
        clear hl hst y0
        generalize ChangeMaps.setBlock wr mb o = W6 at B6 O6 GA6 M6 X06 X16 ⊢
        have a2 : (at_ : Int) ≤ 65535 := by have := HAT.out; omega
        go_wp2_with (at_builtin; refine wpList_append_own_at _ rfl _ _ 29 rfl W0.heap.size 26 i0 _ 1 24 Try.underlying29 hii hz0 hz1 hz2 rfl (by decide) _ G0.length vs rfl (GA6.out.row.alloc _) ⟨W6.heap.size, 0, none⟩ 1 1 [.slice none 0 0] rfl rfl (new_cells W6 _ _) one_nil (by unfold maxLen; omega) (by omega) (by have := B6.out.size; simp; omega) ?_)
        intro v7 w7 hown7 hgrow7 _ _
        have hal7 : Below W6.heap.size W6 (W6.alloc (.cells #[.slice none 0 0] 26)) := (Below.refl _ _).alloc (Nat.le_refl _) _
        have GA : Hid (GrpAt w7 W0.heap.size v7 (vs ++ [.slice none 0 0]) (G0 ++ [[]])) := Lib.hid (GrpAt.push (GA6.out.below hal7) hown7 hgrow7)
        have B : Hid (Below W0.heap.size W0 w7) := Lib.hid ((B6.out.alloc B6.out.size _).grown hgrow7 (by have := B6.out.size; simp; omega) (own_form_le GA6.out.row))
        have O : Hid (w7.ownsRow W0.heap.size 3 1 (.slice (some ⟨gc, 0, none⟩) xs.length cc) xs.length (cls.map nV)) := Lib.hid (((own_on (own_below O6.out hal7)).kept (kept_grown hgrow7) (fun k _ h1 h2 => own_kinds O6.out GA6.out.row (by decide) k h1 h2)).self)
        have MM := Lib.hid ((M6.out.below hal7).kept (kept_grown hgrow7) (fun e => own_ne_map GA6.out.row M6.out e))
        have GBK : Hid (∀ b, (Value.slice s5 at_ c5).ownBlock = some b → W0.heap.size ≤ b) := Lib.hid (own_form_le GA6.out.row)
        have X0 := Lib.hid ((kept_grown hgrow7).cell (cell_below X06.out hal7) (fun e => by have h1 : W0.heap.size ≤ b1 := GBK.out _ e; have := XB.out; omega))
        have X1 := Lib.hid ((kept_grown hgrow7).cell (cell_below X16.out hal7) (fun e => by have h1 : W0.heap.size ≤ b1 := GBK.out _ e; have := XB.out; omega))
        have LG : (G0 ++ [[]]).length ≤ 65536 := by rw [List.length_append]; simp; omega
        obtain ⟨x, hx0⟩ : ∃ x : List Pf, x = [] := ⟨_, rfl⟩
        have HX : Hid ((G0 ++ [x])[at_]? = some x) := Lib.hid (by rw [← HAT.out]; simp)
        have GR : Hid (grpL (sameB bys) (xs.take (i + 1)) = (G0 ++ [x]).set at_ (x ++ [p])) := Lib.hid (by rw [GR0.out, ← HAT.out, hx0]; simp)
        have LX : x.length ≤ 65536 := by rw [hx0]; simp
        obtain ⟨Gl, hGl⟩ : ∃ Gl, G0 ++ [x] = Gl := ⟨_, rfl⟩
        have hGl2 : G0 ++ [[]] = Gl := by rw [← hx0]; exact hGl
        rw [hGl] at HX GR
        rw [hGl2] at GA LG
        clear hGl hGl2 hx0 hown7 hgrow7 hal7 GA6 B6 O6 M6 X06 X16 GBK GR0
        obtain ⟨vs, hvs⟩ : ∃ us, us = vs ++ [.slice none 0 0] := ⟨_, rfl⟩
        rw [← hvs] at GA
        clear hvs
        obtain ⟨gb, cb, rfl⟩ : ∃ gb cb, v7 = .slice (some ⟨gb, 0, none⟩) Gl.length cb := by
          have al : at_ < Gl.length := (List.getElem?_eq_some_iff.1 HX.out).1
          rcases own_slice GA.out.row with ⟨h1, h0⟩ | ⟨g, c2, h1⟩
          · omega
          · exact ⟨g, c2, h1⟩
        go_upto_region 11 with (fail)
        have al : at_ < Gl.length := (List.getElem?_eq_some_iff.1 HX.out).1
        obtain ⟨ua, hua⟩ : ∃ ua, vs[at_]? = some ua := ⟨_, List.getElem?_eq_getElem (by rw [GA.out.len]; exact al)⟩
        obtain ⟨z0, z1, -, -⟩ := own_row_cell GA.out.row rfl (j := at_) hua
        have HU := Lib.hid hua
        have UO := Lib.hid (GA.out.own at_ ua x hua HX.out)
        obtain ⟨su, cu, rfl⟩ : ∃ su cu, ua = .slice su x.length cu := by
          rcases own_slice UO.out with ⟨h1, h0⟩ | ⟨g, c2, h1⟩
          · exact ⟨none, 0, by rw [h1, h0]⟩
          · exact ⟨_, _, h1⟩
        have Z0 := Lib.hid z0
        have Z1 := Lib.hid z1
        have a0 : (0 : Int) ≤ (at_ : Int) := by omega
        have a1 : (at_ : Int) < (Gl.length : Int) := by omega
        have GBU : Hid (W0.heap.size ≤ gb) := Lib.hid (own_form_le GA.out.row gb rfl)
        have UBU : Hid (∀ b, (Value.slice su x.length cu).ownBlock = some b → W0.heap.size ≤ b) := Lib.hid (own_form_le UO.out)
        have NG : Hid (¬ (Value.slice su x.length cu).ownBlock = some gb) := Lib.hid (fun e => own_kinds GA.out.row UO.out (by decide) gb rfl e)
        clear hua z0 z1
        have NF1 : Hid (¬ (b1 = gb ∨ (Value.slice su x.length cu).ownBlock = some b1)) := Lib.hid (fun e => by
          have h1 := XB.out
          rcases e with e | e
          · have := GBU.out; omega
          · have := UBU.out _ e; omega)
        have NF0 : Hid (¬ (w.heap.size = gb ∨ (Value.slice su x.length cu).ownBlock = some w.heap.size)) := Lib.hid (fun e => by
          have h1 := size_lt C0.out
          rcases e with e | e
          · have := GBU.out; omega
          · have := UBU.out _ e; omega)
        have D6 : Hid ((World.drew w7).cell? ⟨gb, at_, none⟩ = some (.slice su x.length cu)) := Z0
        have D7 : Hid ((World.drew w7).frozen? ⟨gb, at_, none⟩ = false) := Z1
        have DU : Hid ((World.drew w7).ownsRow W0.heap.size 35 2 (.slice su x.length cu) x.length (x.flatMap encP)) := UO
        have DG : Hid (GrpAt (World.drew w7) W0.heap.size (.slice (some ⟨gb, 0, none⟩) Gl.length cb) vs Gl) := Lib.hid ⟨GA.out.len, GA.out.row, GA.out.own, GA.out.sep⟩
        have DM : Hid (MapT nV nV I64r (World.drew w7) mb (putL M c (at_ : Int))) := MM
        have DO : Hid ((World.drew w7).ownsRow W0.heap.size 3 1 (.slice (some ⟨gc, 0, none⟩) xs.length cc) xs.length (cls.map nV)) := O
        have DB : Hid (Below W0.heap.size W0 (World.drew w7)) := Lib.hid B.out.drew
        have c0 := Lib.hid ((B.out.cell (size_lt C0.out)).trans C0.out)
        clear GA UO Z0 Z1 MM O B
        refine wp_region_held_drew (S := fun w' => Kept (fun b => b = gb ∨ (Value.slice su x.length cu).ownBlock = some b) w7 w') (by kernel_rfl) ?_ (fun hHeld => ?_)
        · exact (Kept.refl _ _).drew
        generalize World.drew w7 = wd at D6 D7 DU DG DM DO DB hHeld ⊢
        refine rg_yes (i := 0) (v := ?_) at0 (by kernel_rfl) (by kernel_rfl) (by kernel_rfl) (fun _ _ _ h => h) ?_ ?_ hHeld ?_; rotate_left 1; (· rfl); (· intro w' hSw; (try dsimp only at hSw); (try clear hHeld); go_simp; try with_reducible rfl)
        try simp only [Act.put, List.setIfInBounds_toArray, List.set_cons_zero, List.set_cons_succ]
        refine rg_yes (i := 1) (v := ?_) (atS at0) (by kernel_rfl) (by kernel_rfl) (by kernel_rfl) (fun _ _ _ h => h) ?_ ?_ hHeld ?_; rotate_left 1; (· rfl); (· intro w' hSw; (try dsimp only at hSw); (try clear hHeld); go_simp; try with_reducible rfl)
        try simp only [Act.put, List.setIfInBounds_toArray, List.set_cons_zero, List.set_cons_succ]
        refine rg_yes (i := 2) (v := ?_) (atS (atS at0)) (by kernel_rfl) (by kernel_rfl) (by kernel_rfl) (fun _ _ _ h => h) ?_ ?_ hHeld ?_; rotate_left 1; (· rfl); (· intro w' hSw; (try dsimp only at hSw); (try clear hHeld); go_simp; try with_reducible rfl)
        try simp only [Act.put, List.setIfInBounds_toArray, List.set_cons_zero, List.set_cons_succ]
        refine rg_yes (i := 3) (v := ?_) (atS (atS (atS at0))) (by kernel_rfl) (by kernel_rfl) (by kernel_rfl) (fun _ _ _ h => h) ?_ ?_ hHeld ?_; rotate_left 1; (· rfl); (· intro w' hSw; (try dsimp only at hSw); (try clear hHeld); go_simp; try with_reducible rfl)
        try simp only [Act.put, List.setIfInBounds_toArray, List.set_cons_zero, List.set_cons_succ]
        refine rg_yes (i := 4) (v := ?_) (atS (atS (atS (atS at0)))) (by kernel_rfl) (by kernel_rfl) (by kernel_rfl) (fun _ _ _ h => h) ?_ ?_ hHeld ?_; rotate_left 1; (· rfl); (· intro w' hSw; (try dsimp only at hSw); have x0 := hSw.cell X0.out NF1.out; have x1 := hSw.cell X1.out NF1.out; have c0 := hSw.cell c0.out NF0.out; (try clear hHeld); go_simp; try with_reducible rfl)
        try simp only [Act.put, List.setIfInBounds_toArray, List.set_cons_zero, List.set_cons_succ]
        refine rg_yes (i := 5) (v := ?_) (atS (atS (atS (atS (atS at0))))) (by kernel_rfl) (by kernel_rfl) (by kernel_rfl) (fun _ _ _ h => h) ?_ ?_ hHeld ?_; rotate_left 1; (· rfl); (· intro w' hSw; (try dsimp only at hSw); (try clear hHeld); go_simp; try with_reducible rfl)
        try simp only [Act.put, List.setIfInBounds_toArray, List.set_cons_zero, List.set_cons_succ]
        refine rg_yes (i := 7) (v := ?_) (atS (atS (atS (atS (atS (atS (atS at0))))))) (by kernel_rfl) (by kernel_rfl) (by kernel_rfl) (fun _ _ _ h => h) ?_ ?_ hHeld ?_; rotate_left 1; (· rfl); (· intro w' hSw; (try dsimp only at hSw); (try clear hHeld); go_simp; try with_reducible rfl)
        try simp only [Act.put, List.setIfInBounds_toArray, List.set_cons_zero, List.set_cons_succ]
        refine rg_yes (i := 8) (v := ?_) (atS (atS (atS (atS (atS (atS (atS (atS at0)))))))) (by kernel_rfl) (by kernel_rfl) (by kernel_rfl) (fun _ _ _ h => h) ?_ ?_ hHeld ?_; rotate_left 1; (· rfl); (· intro w' hSw; (try dsimp only at hSw); have x0 := hSw.cell X0.out NF1.out; have x1 := hSw.cell X1.out NF1.out; have c0 := hSw.cell c0.out NF0.out; (try clear hHeld); go_simp; try with_reducible rfl)
        try simp only [Act.put, List.setIfInBounds_toArray, List.set_cons_zero, List.set_cons_succ]
        refine rg_yes (i := 9) (v := ?_) (atS (atS (atS (atS (atS (atS (atS (atS (atS at0))))))))) (by kernel_rfl) (by kernel_rfl) (by kernel_rfl) (fun _ _ _ h => h) ?_ ?_ hHeld ?_; rotate_left 1; (· rfl); (· intro w' hSw; (try dsimp only at hSw); (try clear hHeld); go_simp; try with_reducible rfl)
        try simp only [Act.put, List.setIfInBounds_toArray, List.set_cons_zero, List.set_cons_succ]
        refine rg_yes (i := 10) (v := ?_) (atS (atS (atS (atS (atS (atS (atS (atS (atS (atS at0)))))))))) (by kernel_rfl) (by kernel_rfl) (by kernel_rfl) (fun _ _ _ h => h) ?_ ?_ hHeld ?_; rotate_left 1; (· rfl); (· intro w' hSw; (try dsimp only at hSw); have x0 := hSw.cell X0.out NF1.out; have x1 := hSw.cell X1.out NF1.out; have c0 := hSw.cell c0.out NF0.out; (try clear hHeld); go_simp; try with_reducible rfl)
        try simp only [Act.put, List.setIfInBounds_toArray, List.set_cons_zero, List.set_cons_succ]
        refine rg_yes (i := 11) (v := ?_) (atS (atS (atS (atS (atS (atS (atS (atS (atS (atS (atS at0))))))))))) (by kernel_rfl) (by kernel_rfl) (by kernel_rfl) (fun _ _ _ h => h) ?_ ?_ hHeld ?_; rotate_left 1; (· rfl); (· intro w' hSw; (try dsimp only at hSw); have x0 := hSw.cell X0.out NF1.out; have x1 := hSw.cell X1.out NF1.out; have c0 := hSw.cell c0.out NF0.out; (try clear hHeld); go_simp; try with_reducible rfl)
        try simp only [Act.put, List.setIfInBounds_toArray, List.set_cons_zero, List.set_cons_succ]
        refine rg_call2 (i := 6) (j := 12) (atS (atS (atS (atS (atS (atS at0)))))) (atS (atS (atS (atS (atS (atS (atS (atS (atS (atS (atS (atS at0)))))))))))) (by kernel_rfl) ?_ ?_ (fun K hK => ?_) (fun K hK => ?_)
        · rfl
        · rfl
        · (try clear hb); have x6 := D6.out; have x7 := cell_below D6.out ((Below.refl _ wd).alloc (Nat.le_refl _) (.cells #[.int .u32 p.1, .int .i64 p.2] 35)); go_simp; go_wp2_with fail; refine hK.out _ _ ?_ (fun hHeld => ?_); (· exact hHeld); clear hK K
          try simp only [Act.put, List.setIfInBounds_toArray, List.set_cons_zero, List.set_cons_succ]
          refine rg_call (i := 12) (atS (atS (atS (atS (atS (atS (atS (atS (atS (atS (atS (atS at0)))))))))))) (by kernel_rfl) ?_ (fun K hK => ?_); (· rfl); (try clear hb); go_simp; go_wp2_with fail; refine hK.out _ _ ?_ (fun hHeld => ?_); (· exact hHeld.trans (Kept.of_below ((Below.refl _ _).alloc (Nat.le_refl _) _))); clear hK K
          try simp only [Act.put, List.setIfInBounds_toArray, List.set_cons_zero, List.set_cons_succ]
          refine rg_call (i := 13) (atS (atS (atS (atS (atS (atS (atS (atS (atS (atS (atS (atS (atS at0))))))))))))) (by kernel_rfl) ?_ (fun K hK => ?_); (· rfl); (try clear hb); refine wp_append_own_at (.tmp 44) (.tmp 50) 22 rfl W0.heap.size 35 j0 _ 2 16 Try.underlying22 hjj hy0 hy1 hy2 rfl (by decide) _ x.length (x.flatMap encP) rfl (DU.out.alloc _) ⟨wd.heap.size, 0, none⟩ 1 1 [.int .u32 p.1, .int .i64 p.2] rfl rfl (new_cells wd _ _) (one_pf p) (by unfold maxLen; omega) (by omega) (by have := DB.out.size; simp; omega) ?_; intro v1 wa hown1 hgrow1 hat1; obtain ⟨g1, c1, rfl⟩ := own_more hown1; have y6 := (kept_grown hgrow1).cell (cell_below D6.out ((Below.refl _ wd).alloc (Nat.le_refl _) (.cells #[.int .u32 p.1, .int .i64 p.2] 35))) (fun e => NG.out e); have y7 := froz_kept (kept_grown hgrow1) (cell_below D6.out ((Below.refl _ wd).alloc (Nat.le_refl _) (.cells #[.int .u32 p.1, .int .i64 p.2] 35))) (frozen_below (size_lt D6.out) D7.out ((Below.refl _ wd).alloc (Nat.le_refl _) (.cells #[.int .u32 p.1, .int .i64 p.2] 35))) (fun e => NG.out e); refine hK.out _ _ ?_ (fun hHeld => ?_); (· exact hHeld.trans ((kept_grown hgrow1).imp (fun b hb => .inr hb))); clear hK K
          try simp only [Act.put, List.setIfInBounds_toArray, List.set_cons_zero, List.set_cons_succ]
          refine rg_yes (i := 14) (v := ?_) (atS (atS (atS (atS (atS (atS (atS (atS (atS (atS (atS (atS (atS (atS at0)))))))))))))) (by kernel_rfl) (by kernel_rfl) (by kernel_rfl) (fun _ _ _ h => h) ?_ ?_ hHeld ?_; rotate_left 1; (· rfl); (· intro w' hSw; (try dsimp only at hSw); have x0 := hSw.cell X0.out NF1.out; have x1 := hSw.cell X1.out NF1.out; have c0 := hSw.cell c0.out NF0.out; (try clear hHeld); go_simp; try with_reducible rfl)
          try simp only [Act.put, List.setIfInBounds_toArray, List.set_cons_zero, List.set_cons_succ]
          refine rg_yes (i := 15) (v := ?_) (atS (atS (atS (atS (atS (atS (atS (atS (atS (atS (atS (atS (atS (atS (atS at0))))))))))))))) (by kernel_rfl) (by kernel_rfl) (by kernel_rfl) (fun _ _ _ h => h) ?_ ?_ hHeld ?_; rotate_left 1; (· rfl); (· intro w' hSw; (try dsimp only at hSw); (try clear hHeld); go_simp; try with_reducible rfl)
          try simp only [Act.put, List.setIfInBounds_toArray, List.set_cons_zero, List.set_cons_succ]
          refine rg_call (i := 16) (atS (atS (atS (atS (atS (atS (atS (atS (atS (atS (atS (atS (atS (atS (atS (atS at0)))))))))))))))) (by kernel_rfl) ?_ (fun K hK => ?_); (· rfl); (try clear hb); go_simp; go_wp2_with fail; refine hK.out _ _ ?_ (fun hHeld => ?_); (· exact hHeld.trans (Kept.setCell _ _ (.inl rfl))); clear hK K
          try simp only [Act.put]
          refine wpAnyH_done (by kernel_rfl) ?_ _
          have PT := Lib.hid (GrpAt.put (DG.out.below ((Below.refl _ wd).alloc (Nat.le_refl _) (.cells #[.int .u32 p.1, .int .i64 p.2] 35))) HU.out HX.out (own_snocP hown1) (kept_grown hgrow1) (hat1.imp id (fun h => ⟨_, h, Nat.le_refl _⟩)))
          have hal : Below wd.heap.size wd (wd.alloc (.cells #[.int .u32 p.1, .int .i64 p.2] 35)) := (Below.refl _ wd).alloc (Nat.le_refl _) _
          have PT2 : Hid (GrpAt (wa.setCell ⟨gb, at_, none⟩ (.slice (some ⟨g1, 0, none⟩) (x.length + 1) c1)) W0.heap.size (.slice (some ⟨gb, 0, none⟩) Gl.length cb) (vs.set at_ (.slice (some ⟨g1, 0, none⟩) (x.length + 1) c1)) (grpL (sameB bys) (xs.take (i + 1)))) := Lib.hid (by
            rw [GR.out]
            have h := PT.out
            rw [List.length_set] at h
            exact h)
          have DM2 := Lib.hid ((DM.out.below hal).kept (kept_grown hgrow1) (fun e => own_ne_map (own_below DU.out hal) (DM.out.below hal) e))
          have DM3 : Hid (MapT nV nV I64r (wa.setCell ⟨gb, at_, none⟩ (.slice (some ⟨g1, 0, none⟩) (x.length + 1) c1)) mb (putL M c (at_ : Int))) := Lib.hid (DM2.out.kept (F := fun b => b = gb) (Kept.setCell _ _ rfl) (fun e => own_ne_map (DG.out.below hal).row (DM.out.below hal) (by rw [e]; rfl)))
          have DO2 := Lib.hid (((own_on (own_below DO.out hal)).kept (kept_grown hgrow1) (fun k _ h1 h2 => own_kinds (own_below DO.out hal) (own_below DU.out hal) (by decide) k h1 h2)).self)
          have DO3 : Hid ((wa.setCell ⟨gb, at_, none⟩ (.slice (some ⟨g1, 0, none⟩) (x.length + 1) c1)).ownsRow W0.heap.size 3 1 (.slice (some ⟨gc, 0, none⟩) xs.length cc) xs.length (cls.map nV)) := Lib.hid (((own_on DO2.out).kept (F := fun b => (Value.slice (some ⟨gc, 0, none⟩) xs.length cc).ownBlock = some b) (G := fun b => b = gb) (Kept.setCell _ _ rfl) (fun k _ h1 h2 => own_kinds (own_below DO.out hal) (DG.out.below hal).row (by decide) k h1 (by rw [h2]; rfl))).self)
          have DB3 : Hid (Below W0.heap.size W0 (wa.setCell ⟨gb, at_, none⟩ (.slice (some ⟨g1, 0, none⟩) (x.length + 1) c1))) := Lib.hid (((DB.out.alloc DB.out.size _).grown hgrow1 (by have := DB.out.size; simp; omega) UBU.out).setCell GBU.out _)
          clear PT hown1 hgrow1 hat1 y6 y7 hal DM2 DO2 DM DO DB DG DU D6 D7 hHeld
          go_wp2_with fail
          exact ⟨⟨i + 1, (putL M c (at_ : Int)), _, by omega, by go_num, G2, PT2, DM3, DO3, DB3⟩, by simp [intOf]; omega⟩
        · (try clear hb); go_simp; go_wp2_with fail; refine hK.out _ _ ?_ (fun hHeld => ?_); (· exact hHeld.trans (Kept.of_below ((Below.refl _ _).alloc (Nat.le_refl _) _))); clear hK K
          try simp only [Act.put, List.setIfInBounds_toArray, List.set_cons_zero, List.set_cons_succ]
          refine rg_call (i := 6) (atS (atS (atS (atS (atS (atS at0)))))) (by kernel_rfl) ?_ (fun K hK => ?_); (· rfl); (try clear hb); have x6 := D6.out; have x7 := cell_below D6.out ((Below.refl _ wd).alloc (Nat.le_refl _) (.cells #[.int .u32 p.1, .int .i64 p.2] 35)); go_simp; go_wp2_with fail; refine hK.out _ _ ?_ (fun hHeld => ?_); (· exact hHeld); clear hK K
          try simp only [Act.put, List.setIfInBounds_toArray, List.set_cons_zero, List.set_cons_succ]
          refine rg_call (i := 13) (atS (atS (atS (atS (atS (atS (atS (atS (atS (atS (atS (atS (atS at0))))))))))))) (by kernel_rfl) ?_ (fun K hK => ?_); (· rfl); (try clear hb); refine wp_append_own_at (.tmp 44) (.tmp 50) 22 rfl W0.heap.size 35 j0 _ 2 16 Try.underlying22 hjj hy0 hy1 hy2 rfl (by decide) _ x.length (x.flatMap encP) rfl (DU.out.alloc _) ⟨wd.heap.size, 0, none⟩ 1 1 [.int .u32 p.1, .int .i64 p.2] rfl rfl (new_cells wd _ _) (one_pf p) (by unfold maxLen; omega) (by omega) (by have := DB.out.size; simp; omega) ?_; intro v1 wa hown1 hgrow1 hat1; obtain ⟨g1, c1, rfl⟩ := own_more hown1; have y6 := (kept_grown hgrow1).cell (cell_below D6.out ((Below.refl _ wd).alloc (Nat.le_refl _) (.cells #[.int .u32 p.1, .int .i64 p.2] 35))) (fun e => NG.out e); have y7 := froz_kept (kept_grown hgrow1) (cell_below D6.out ((Below.refl _ wd).alloc (Nat.le_refl _) (.cells #[.int .u32 p.1, .int .i64 p.2] 35))) (frozen_below (size_lt D6.out) D7.out ((Below.refl _ wd).alloc (Nat.le_refl _) (.cells #[.int .u32 p.1, .int .i64 p.2] 35))) (fun e => NG.out e); refine hK.out _ _ ?_ (fun hHeld => ?_); (· exact hHeld.trans ((kept_grown hgrow1).imp (fun b hb => .inr hb))); clear hK K
          try simp only [Act.put, List.setIfInBounds_toArray, List.set_cons_zero, List.set_cons_succ]
          refine rg_yes (i := 14) (v := ?_) (atS (atS (atS (atS (atS (atS (atS (atS (atS (atS (atS (atS (atS (atS at0)))))))))))))) (by kernel_rfl) (by kernel_rfl) (by kernel_rfl) (fun _ _ _ h => h) ?_ ?_ hHeld ?_; rotate_left 1; (· rfl); (· intro w' hSw; (try dsimp only at hSw); have x0 := hSw.cell X0.out NF1.out; have x1 := hSw.cell X1.out NF1.out; have c0 := hSw.cell c0.out NF0.out; (try clear hHeld); go_simp; try with_reducible rfl)
          try simp only [Act.put, List.setIfInBounds_toArray, List.set_cons_zero, List.set_cons_succ]
          refine rg_yes (i := 15) (v := ?_) (atS (atS (atS (atS (atS (atS (atS (atS (atS (atS (atS (atS (atS (atS (atS at0))))))))))))))) (by kernel_rfl) (by kernel_rfl) (by kernel_rfl) (fun _ _ _ h => h) ?_ ?_ hHeld ?_; rotate_left 1; (· rfl); (· intro w' hSw; (try dsimp only at hSw); (try clear hHeld); go_simp; try with_reducible rfl)
          try simp only [Act.put, List.setIfInBounds_toArray, List.set_cons_zero, List.set_cons_succ]
          refine rg_call (i := 16) (atS (atS (atS (atS (atS (atS (atS (atS (atS (atS (atS (atS (atS (atS (atS (atS at0)))))))))))))))) (by kernel_rfl) ?_ (fun K hK => ?_); (· rfl); (try clear hb); go_simp; go_wp2_with fail; refine hK.out _ _ ?_ (fun hHeld => ?_); (· exact hHeld.trans (Kept.setCell _ _ (.inl rfl))); clear hK K
          try simp only [Act.put]
          refine wpAnyH_done (by kernel_rfl) ?_ _
          have PT := Lib.hid (GrpAt.put (DG.out.below ((Below.refl _ wd).alloc (Nat.le_refl _) (.cells #[.int .u32 p.1, .int .i64 p.2] 35))) HU.out HX.out (own_snocP hown1) (kept_grown hgrow1) (hat1.imp id (fun h => ⟨_, h, Nat.le_refl _⟩)))
          have hal : Below wd.heap.size wd (wd.alloc (.cells #[.int .u32 p.1, .int .i64 p.2] 35)) := (Below.refl _ wd).alloc (Nat.le_refl _) _
          have PT2 : Hid (GrpAt (wa.setCell ⟨gb, at_, none⟩ (.slice (some ⟨g1, 0, none⟩) (x.length + 1) c1)) W0.heap.size (.slice (some ⟨gb, 0, none⟩) Gl.length cb) (vs.set at_ (.slice (some ⟨g1, 0, none⟩) (x.length + 1) c1)) (grpL (sameB bys) (xs.take (i + 1)))) := Lib.hid (by
            rw [GR.out]
            have h := PT.out
            rw [List.length_set] at h
            exact h)
          have DM2 := Lib.hid ((DM.out.below hal).kept (kept_grown hgrow1) (fun e => own_ne_map (own_below DU.out hal) (DM.out.below hal) e))
          have DM3 : Hid (MapT nV nV I64r (wa.setCell ⟨gb, at_, none⟩ (.slice (some ⟨g1, 0, none⟩) (x.length + 1) c1)) mb (putL M c (at_ : Int))) := Lib.hid (DM2.out.kept (F := fun b => b = gb) (Kept.setCell _ _ rfl) (fun e => own_ne_map (DG.out.below hal).row (DM.out.below hal) (by rw [e]; rfl)))
          have DO2 := Lib.hid (((own_on (own_below DO.out hal)).kept (kept_grown hgrow1) (fun k _ h1 h2 => own_kinds (own_below DO.out hal) (own_below DU.out hal) (by decide) k h1 h2)).self)
          have DO3 : Hid ((wa.setCell ⟨gb, at_, none⟩ (.slice (some ⟨g1, 0, none⟩) (x.length + 1) c1)).ownsRow W0.heap.size 3 1 (.slice (some ⟨gc, 0, none⟩) xs.length cc) xs.length (cls.map nV)) := Lib.hid (((own_on DO2.out).kept (F := fun b => (Value.slice (some ⟨gc, 0, none⟩) xs.length cc).ownBlock = some b) (G := fun b => b = gb) (Kept.setCell _ _ rfl) (fun k _ h1 h2 => own_kinds (own_below DO.out hal) (DG.out.below hal).row (by decide) k h1 (by rw [h2]; rfl))).self)
          have DB3 : Hid (Below W0.heap.size W0 (wa.setCell ⟨gb, at_, none⟩ (.slice (some ⟨g1, 0, none⟩) (x.length + 1) c1))) := Lib.hid (((DB.out.alloc DB.out.size _).grown hgrow1 (by have := DB.out.size; simp; omega) UBU.out).setCell GBU.out _)
          clear PT hown1 hgrow1 hat1 y6 y7 hal DM2 DO2 DM DO DB DG DU D6 D7 hHeld
          go_wp2_with fail
          exact ⟨⟨i + 1, (putL M c (at_ : Int)), _, by omega, by go_num, G2, PT2, DM3, DO3, DB3⟩, by simp [intOf]; omega⟩
      | some g =>
        rw [hg] at hl
        simp only [if_true, Option.map_some, Option.getD_some, Option.isSome_some, nV] at hl
        obtain ⟨at_, x, rfl, hx, hG, hgr⟩ := grs_known (same_ok bys) G.out SM.out (by rw [FC.out]; exact hg)
        rw [← TK.out] at hG hgr
        have G2 := Lib.hid hG
        have GR := Lib.hid hgr
        have HX := Lib.hid hx
        clear hg hG hgr hx
        go_upto_region 11 with (fail)
        clear hl y0
        generalize hgl : grpL (sameB bys) (xs.take i) = Gl at GA HX GR
        have LG : Gl.length ≤ 65536 := by rw [← hgl]; unfold grpL; rw [List.length_map]; exact Nat.le_trans (reps_len _) (by rw [List.length_take]; omega)
        have LX : x.length ≤ 65536 := by
          have h1 := HX.out
          rw [← hgl] at h1
          exact Nat.le_trans (grp_len h1) (by rw [List.length_take]; omega)
        clear hgl
        have al : at_ < Gl.length := (List.getElem?_eq_some_iff.1 HX.out).1
        obtain ⟨ua, hua⟩ : ∃ ua, vs[at_]? = some ua := ⟨_, List.getElem?_eq_getElem (by rw [GA.out.len]; exact al)⟩
        obtain ⟨gb, cb, rfl⟩ : ∃ gb cb, u5 = .slice (some ⟨gb, 0, none⟩) Gl.length cb := by
          rcases own_slice GA.out.row with ⟨h1, h0⟩ | ⟨g, c2, h1⟩
          · omega
          · exact ⟨g, c2, h1⟩
        obtain ⟨z0, z1, -, -⟩ := own_row_cell GA.out.row rfl (j := at_) hua
        have HU := Lib.hid hua
        have UO := Lib.hid (GA.out.own at_ ua x hua HX.out)
        obtain ⟨su, cu, rfl⟩ : ∃ su cu, ua = .slice su x.length cu := by
          rcases own_slice UO.out with ⟨h1, h0⟩ | ⟨g, c2, h1⟩
          · exact ⟨none, 0, by rw [h1, h0]⟩
          · exact ⟨_, _, h1⟩
        have Z0 := Lib.hid z0
        have Z1 := Lib.hid z1
        have a0 : (0 : Int) ≤ (at_ : Int) := by omega
        have a1 : (at_ : Int) < (Gl.length : Int) := by omega
        have GBU : Hid (W0.heap.size ≤ gb) := Lib.hid (own_form_le GA.out.row gb rfl)
        have UBU : Hid (∀ b, (Value.slice su x.length cu).ownBlock = some b → W0.heap.size ≤ b) := Lib.hid (own_form_le UO.out)
        have NG : Hid (¬ (Value.slice su x.length cu).ownBlock = some gb) := Lib.hid (fun e => own_kinds GA.out.row UO.out (by decide) gb rfl e)
        clear hua z0 z1
        have NF1 : Hid (¬ (b1 = gb ∨ (Value.slice su x.length cu).ownBlock = some b1)) := Lib.hid (fun e => by
          have h1 := XB.out
          rcases e with e | e
          · have := GBU.out; omega
          · have := UBU.out _ e; omega)
        have NF0 : Hid (¬ (w.heap.size = gb ∨ (Value.slice su x.length cu).ownBlock = some w.heap.size)) := Lib.hid (fun e => by
          have h1 := size_lt C0.out
          rcases e with e | e
          · have := GBU.out; omega
          · have := UBU.out _ e; omega)
        have D6 : Hid ((World.drew wr).cell? ⟨gb, at_, none⟩ = some (.slice su x.length cu)) := Z0
        have D7 : Hid ((World.drew wr).frozen? ⟨gb, at_, none⟩ = false) := Z1
        have DU : Hid ((World.drew wr).ownsRow W0.heap.size 35 2 (.slice su x.length cu) x.length (x.flatMap encP)) := UO
        have DG : Hid (GrpAt (World.drew wr) W0.heap.size (.slice (some ⟨gb, 0, none⟩) Gl.length cb) vs Gl) := Lib.hid ⟨GA.out.len, GA.out.row, GA.out.own, GA.out.sep⟩
        have DM : Hid (MapT nV nV I64r (World.drew wr) mb M) := MM
        have DO : Hid ((World.drew wr).ownsRow W0.heap.size 3 1 (.slice (some ⟨gc, 0, none⟩) xs.length cc) xs.length (cls.map nV)) := O
        have DB : Hid (Below W0.heap.size W0 (World.drew wr)) := Lib.hid B.out.drew
        have c0 := Lib.hid ((B.out.cell (size_lt C0.out)).trans C0.out)
        clear GA UO Z0 Z1 MM O B
        refine wp_region_held_drew (S := fun w' => Kept (fun b => b = gb ∨ (Value.slice su x.length cu).ownBlock = some b) wr w') (by kernel_rfl) ?_ (fun hHeld => ?_)
        · exact (Kept.refl _ _).drew
        generalize World.drew wr = wd at D6 D7 DU DG DM DO DB hHeld ⊢
        refine rg_yes (i := 0) (v := ?_) at0 (by kernel_rfl) (by kernel_rfl) (by kernel_rfl) (fun _ _ _ h => h) ?_ ?_ hHeld ?_; rotate_left 1; (· rfl); (· intro w' hSw; (try dsimp only at hSw); (try clear hHeld); go_simp; try with_reducible rfl)
        try simp only [Act.put, List.setIfInBounds_toArray, List.set_cons_zero, List.set_cons_succ]
        refine rg_yes (i := 1) (v := ?_) (atS at0) (by kernel_rfl) (by kernel_rfl) (by kernel_rfl) (fun _ _ _ h => h) ?_ ?_ hHeld ?_; rotate_left 1; (· rfl); (· intro w' hSw; (try dsimp only at hSw); (try clear hHeld); go_simp; try with_reducible rfl)
        try simp only [Act.put, List.setIfInBounds_toArray, List.set_cons_zero, List.set_cons_succ]
        refine rg_yes (i := 2) (v := ?_) (atS (atS at0)) (by kernel_rfl) (by kernel_rfl) (by kernel_rfl) (fun _ _ _ h => h) ?_ ?_ hHeld ?_; rotate_left 1; (· rfl); (· intro w' hSw; (try dsimp only at hSw); (try clear hHeld); go_simp; try with_reducible rfl)
        try simp only [Act.put, List.setIfInBounds_toArray, List.set_cons_zero, List.set_cons_succ]
        refine rg_yes (i := 3) (v := ?_) (atS (atS (atS at0))) (by kernel_rfl) (by kernel_rfl) (by kernel_rfl) (fun _ _ _ h => h) ?_ ?_ hHeld ?_; rotate_left 1; (· rfl); (· intro w' hSw; (try dsimp only at hSw); (try clear hHeld); go_simp; try with_reducible rfl)
        try simp only [Act.put, List.setIfInBounds_toArray, List.set_cons_zero, List.set_cons_succ]
        refine rg_yes (i := 4) (v := ?_) (atS (atS (atS (atS at0)))) (by kernel_rfl) (by kernel_rfl) (by kernel_rfl) (fun _ _ _ h => h) ?_ ?_ hHeld ?_; rotate_left 1; (· rfl); (· intro w' hSw; (try dsimp only at hSw); have x0 := hSw.cell X0.out NF1.out; have x1 := hSw.cell X1.out NF1.out; have c0 := hSw.cell c0.out NF0.out; (try clear hHeld); go_simp; try with_reducible rfl)
        try simp only [Act.put, List.setIfInBounds_toArray, List.set_cons_zero, List.set_cons_succ]
        refine rg_yes (i := 5) (v := ?_) (atS (atS (atS (atS (atS at0))))) (by kernel_rfl) (by kernel_rfl) (by kernel_rfl) (fun _ _ _ h => h) ?_ ?_ hHeld ?_; rotate_left 1; (· rfl); (· intro w' hSw; (try dsimp only at hSw); (try clear hHeld); go_simp; try with_reducible rfl)
        try simp only [Act.put, List.setIfInBounds_toArray, List.set_cons_zero, List.set_cons_succ]
        refine rg_yes (i := 7) (v := ?_) (atS (atS (atS (atS (atS (atS (atS at0))))))) (by kernel_rfl) (by kernel_rfl) (by kernel_rfl) (fun _ _ _ h => h) ?_ ?_ hHeld ?_; rotate_left 1; (· rfl); (· intro w' hSw; (try dsimp only at hSw); (try clear hHeld); go_simp; try with_reducible rfl)
        try simp only [Act.put, List.setIfInBounds_toArray, List.set_cons_zero, List.set_cons_succ]
        refine rg_yes (i := 8) (v := ?_) (atS (atS (atS (atS (atS (atS (atS (atS at0)))))))) (by kernel_rfl) (by kernel_rfl) (by kernel_rfl) (fun _ _ _ h => h) ?_ ?_ hHeld ?_; rotate_left 1; (· rfl); (· intro w' hSw; (try dsimp only at hSw); have x0 := hSw.cell X0.out NF1.out; have x1 := hSw.cell X1.out NF1.out; have c0 := hSw.cell c0.out NF0.out; (try clear hHeld); go_simp; try with_reducible rfl)
        try simp only [Act.put, List.setIfInBounds_toArray, List.set_cons_zero, List.set_cons_succ]
        refine rg_yes (i := 9) (v := ?_) (atS (atS (atS (atS (atS (atS (atS (atS (atS at0))))))))) (by kernel_rfl) (by kernel_rfl) (by kernel_rfl) (fun _ _ _ h => h) ?_ ?_ hHeld ?_; rotate_left 1; (· rfl); (· intro w' hSw; (try dsimp only at hSw); (try clear hHeld); go_simp; try with_reducible rfl)
        try simp only [Act.put, List.setIfInBounds_toArray, List.set_cons_zero, List.set_cons_succ]
        refine rg_yes (i := 10) (v := ?_) (atS (atS (atS (atS (atS (atS (atS (atS (atS (atS at0)))))))))) (by kernel_rfl) (by kernel_rfl) (by kernel_rfl) (fun _ _ _ h => h) ?_ ?_ hHeld ?_; rotate_left 1; (· rfl); (· intro w' hSw; (try dsimp only at hSw); have x0 := hSw.cell X0.out NF1.out; have x1 := hSw.cell X1.out NF1.out; have c0 := hSw.cell c0.out NF0.out; (try clear hHeld); go_simp; try with_reducible rfl)
        try simp only [Act.put, List.setIfInBounds_toArray, List.set_cons_zero, List.set_cons_succ]
        refine rg_yes (i := 11) (v := ?_) (atS (atS (atS (atS (atS (atS (atS (atS (atS (atS (atS at0))))))))))) (by kernel_rfl) (by kernel_rfl) (by kernel_rfl) (fun _ _ _ h => h) ?_ ?_ hHeld ?_; rotate_left 1; (· rfl); (· intro w' hSw; (try dsimp only at hSw); have x0 := hSw.cell X0.out NF1.out; have x1 := hSw.cell X1.out NF1.out; have c0 := hSw.cell c0.out NF0.out; (try clear hHeld); go_simp; try with_reducible rfl)
        try simp only [Act.put, List.setIfInBounds_toArray, List.set_cons_zero, List.set_cons_succ]
        refine rg_call2 (i := 6) (j := 12) (atS (atS (atS (atS (atS (atS at0)))))) (atS (atS (atS (atS (atS (atS (atS (atS (atS (atS (atS (atS at0)))))))))))) (by kernel_rfl) ?_ ?_ (fun K hK => ?_) (fun K hK => ?_)
        · rfl
        · rfl
        · (try clear hb); have x6 := D6.out; have x7 := cell_below D6.out ((Below.refl _ wd).alloc (Nat.le_refl _) (.cells #[.int .u32 p.1, .int .i64 p.2] 35)); go_simp; go_wp2_with fail; refine hK.out _ _ ?_ (fun hHeld => ?_); (· exact hHeld); clear hK K
          try simp only [Act.put, List.setIfInBounds_toArray, List.set_cons_zero, List.set_cons_succ]
          refine rg_call (i := 12) (atS (atS (atS (atS (atS (atS (atS (atS (atS (atS (atS (atS at0)))))))))))) (by kernel_rfl) ?_ (fun K hK => ?_); (· rfl); (try clear hb); go_simp; go_wp2_with fail; refine hK.out _ _ ?_ (fun hHeld => ?_); (· exact hHeld.trans (Kept.of_below ((Below.refl _ _).alloc (Nat.le_refl _) _))); clear hK K
          try simp only [Act.put, List.setIfInBounds_toArray, List.set_cons_zero, List.set_cons_succ]
          refine rg_call (i := 13) (atS (atS (atS (atS (atS (atS (atS (atS (atS (atS (atS (atS (atS at0))))))))))))) (by kernel_rfl) ?_ (fun K hK => ?_); (· rfl); (try clear hb); refine wp_append_own_at (.tmp 44) (.tmp 50) 22 rfl W0.heap.size 35 j0 _ 2 16 Try.underlying22 hjj hy0 hy1 hy2 rfl (by decide) _ x.length (x.flatMap encP) rfl (DU.out.alloc _) ⟨wd.heap.size, 0, none⟩ 1 1 [.int .u32 p.1, .int .i64 p.2] rfl rfl (new_cells wd _ _) (one_pf p) (by unfold maxLen; omega) (by omega) (by have := DB.out.size; simp; omega) ?_; intro v1 wa hown1 hgrow1 hat1; obtain ⟨g1, c1, rfl⟩ := own_more hown1; have y6 := (kept_grown hgrow1).cell (cell_below D6.out ((Below.refl _ wd).alloc (Nat.le_refl _) (.cells #[.int .u32 p.1, .int .i64 p.2] 35))) (fun e => NG.out e); have y7 := froz_kept (kept_grown hgrow1) (cell_below D6.out ((Below.refl _ wd).alloc (Nat.le_refl _) (.cells #[.int .u32 p.1, .int .i64 p.2] 35))) (frozen_below (size_lt D6.out) D7.out ((Below.refl _ wd).alloc (Nat.le_refl _) (.cells #[.int .u32 p.1, .int .i64 p.2] 35))) (fun e => NG.out e); refine hK.out _ _ ?_ (fun hHeld => ?_); (· exact hHeld.trans ((kept_grown hgrow1).imp (fun b hb => .inr hb))); clear hK K
          try simp only [Act.put, List.setIfInBounds_toArray, List.set_cons_zero, List.set_cons_succ]
          refine rg_yes (i := 14) (v := ?_) (atS (atS (atS (atS (atS (atS (atS (atS (atS (atS (atS (atS (atS (atS at0)))))))))))))) (by kernel_rfl) (by kernel_rfl) (by kernel_rfl) (fun _ _ _ h => h) ?_ ?_ hHeld ?_; rotate_left 1; (· rfl); (· intro w' hSw; (try dsimp only at hSw); have x0 := hSw.cell X0.out NF1.out; have x1 := hSw.cell X1.out NF1.out; have c0 := hSw.cell c0.out NF0.out; (try clear hHeld); go_simp; try with_reducible rfl)
          try simp only [Act.put, List.setIfInBounds_toArray, List.set_cons_zero, List.set_cons_succ]
          refine rg_yes (i := 15) (v := ?_) (atS (atS (atS (atS (atS (atS (atS (atS (atS (atS (atS (atS (atS (atS (atS at0))))))))))))))) (by kernel_rfl) (by kernel_rfl) (by kernel_rfl) (fun _ _ _ h => h) ?_ ?_ hHeld ?_; rotate_left 1; (· rfl); (· intro w' hSw; (try dsimp only at hSw); (try clear hHeld); go_simp; try with_reducible rfl)
          try simp only [Act.put, List.setIfInBounds_toArray, List.set_cons_zero, List.set_cons_succ]
          refine rg_call (i := 16) (atS (atS (atS (atS (atS (atS (atS (atS (atS (atS (atS (atS (atS (atS (atS (atS at0)))))))))))))))) (by kernel_rfl) ?_ (fun K hK => ?_); (· rfl); (try clear hb); go_simp; go_wp2_with fail; refine hK.out _ _ ?_ (fun hHeld => ?_); (· exact hHeld.trans (Kept.setCell _ _ (.inl rfl))); clear hK K
          try simp only [Act.put]
          refine wpAnyH_done (by kernel_rfl) ?_ _
          have PT := Lib.hid (GrpAt.put (DG.out.below ((Below.refl _ wd).alloc (Nat.le_refl _) (.cells #[.int .u32 p.1, .int .i64 p.2] 35))) HU.out HX.out (own_snocP hown1) (kept_grown hgrow1) (hat1.imp id (fun h => ⟨_, h, Nat.le_refl _⟩)))
          have hal : Below wd.heap.size wd (wd.alloc (.cells #[.int .u32 p.1, .int .i64 p.2] 35)) := (Below.refl _ wd).alloc (Nat.le_refl _) _
          have PT2 : Hid (GrpAt (wa.setCell ⟨gb, at_, none⟩ (.slice (some ⟨g1, 0, none⟩) (x.length + 1) c1)) W0.heap.size (.slice (some ⟨gb, 0, none⟩) Gl.length cb) (vs.set at_ (.slice (some ⟨g1, 0, none⟩) (x.length + 1) c1)) (grpL (sameB bys) (xs.take (i + 1)))) := Lib.hid (by
            rw [GR.out]
            have h := PT.out
            rw [List.length_set] at h
            exact h)
          have DM2 := Lib.hid ((DM.out.below hal).kept (kept_grown hgrow1) (fun e => own_ne_map (own_below DU.out hal) (DM.out.below hal) e))
          have DM3 : Hid (MapT nV nV I64r (wa.setCell ⟨gb, at_, none⟩ (.slice (some ⟨g1, 0, none⟩) (x.length + 1) c1)) mb M) := Lib.hid (DM2.out.kept (F := fun b => b = gb) (Kept.setCell _ _ rfl) (fun e => own_ne_map (DG.out.below hal).row (DM.out.below hal) (by rw [e]; rfl)))
          have DO2 := Lib.hid (((own_on (own_below DO.out hal)).kept (kept_grown hgrow1) (fun k _ h1 h2 => own_kinds (own_below DO.out hal) (own_below DU.out hal) (by decide) k h1 h2)).self)
          have DO3 : Hid ((wa.setCell ⟨gb, at_, none⟩ (.slice (some ⟨g1, 0, none⟩) (x.length + 1) c1)).ownsRow W0.heap.size 3 1 (.slice (some ⟨gc, 0, none⟩) xs.length cc) xs.length (cls.map nV)) := Lib.hid (((own_on DO2.out).kept (F := fun b => (Value.slice (some ⟨gc, 0, none⟩) xs.length cc).ownBlock = some b) (G := fun b => b = gb) (Kept.setCell _ _ rfl) (fun k _ h1 h2 => own_kinds (own_below DO.out hal) (DG.out.below hal).row (by decide) k h1 (by rw [h2]; rfl))).self)
          have DB3 : Hid (Below W0.heap.size W0 (wa.setCell ⟨gb, at_, none⟩ (.slice (some ⟨g1, 0, none⟩) (x.length + 1) c1))) := Lib.hid (((DB.out.alloc DB.out.size _).grown hgrow1 (by have := DB.out.size; simp; omega) UBU.out).setCell GBU.out _)
          clear PT hown1 hgrow1 hat1 y6 y7 hal DM2 DO2 DM DO DB DG DU D6 D7 hHeld
          go_wp2_with fail
          exact ⟨⟨i + 1, M, _, by omega, by go_num, G2, PT2, DM3, DO3, DB3⟩, by simp [intOf]; omega⟩
        · (try clear hb); go_simp; go_wp2_with fail; refine hK.out _ _ ?_ (fun hHeld => ?_); (· exact hHeld.trans (Kept.of_below ((Below.refl _ _).alloc (Nat.le_refl _) _))); clear hK K
          try simp only [Act.put, List.setIfInBounds_toArray, List.set_cons_zero, List.set_cons_succ]
          refine rg_call (i := 6) (atS (atS (atS (atS (atS (atS at0)))))) (by kernel_rfl) ?_ (fun K hK => ?_); (· rfl); (try clear hb); have x6 := D6.out; have x7 := cell_below D6.out ((Below.refl _ wd).alloc (Nat.le_refl _) (.cells #[.int .u32 p.1, .int .i64 p.2] 35)); go_simp; go_wp2_with fail; refine hK.out _ _ ?_ (fun hHeld => ?_); (· exact hHeld); clear hK K
          try simp only [Act.put, List.setIfInBounds_toArray, List.set_cons_zero, List.set_cons_succ]
          refine rg_call (i := 13) (atS (atS (atS (atS (atS (atS (atS (atS (atS (atS (atS (atS (atS at0))))))))))))) (by kernel_rfl) ?_ (fun K hK => ?_); (· rfl); (try clear hb); refine wp_append_own_at (.tmp 44) (.tmp 50) 22 rfl W0.heap.size 35 j0 _ 2 16 Try.underlying22 hjj hy0 hy1 hy2 rfl (by decide) _ x.length (x.flatMap encP) rfl (DU.out.alloc _) ⟨wd.heap.size, 0, none⟩ 1 1 [.int .u32 p.1, .int .i64 p.2] rfl rfl (new_cells wd _ _) (one_pf p) (by unfold maxLen; omega) (by omega) (by have := DB.out.size; simp; omega) ?_; intro v1 wa hown1 hgrow1 hat1; obtain ⟨g1, c1, rfl⟩ := own_more hown1; have y6 := (kept_grown hgrow1).cell (cell_below D6.out ((Below.refl _ wd).alloc (Nat.le_refl _) (.cells #[.int .u32 p.1, .int .i64 p.2] 35))) (fun e => NG.out e); have y7 := froz_kept (kept_grown hgrow1) (cell_below D6.out ((Below.refl _ wd).alloc (Nat.le_refl _) (.cells #[.int .u32 p.1, .int .i64 p.2] 35))) (frozen_below (size_lt D6.out) D7.out ((Below.refl _ wd).alloc (Nat.le_refl _) (.cells #[.int .u32 p.1, .int .i64 p.2] 35))) (fun e => NG.out e); refine hK.out _ _ ?_ (fun hHeld => ?_); (· exact hHeld.trans ((kept_grown hgrow1).imp (fun b hb => .inr hb))); clear hK K
          try simp only [Act.put, List.setIfInBounds_toArray, List.set_cons_zero, List.set_cons_succ]
          refine rg_yes (i := 14) (v := ?_) (atS (atS (atS (atS (atS (atS (atS (atS (atS (atS (atS (atS (atS (atS at0)))))))))))))) (by kernel_rfl) (by kernel_rfl) (by kernel_rfl) (fun _ _ _ h => h) ?_ ?_ hHeld ?_; rotate_left 1; (· rfl); (· intro w' hSw; (try dsimp only at hSw); have x0 := hSw.cell X0.out NF1.out; have x1 := hSw.cell X1.out NF1.out; have c0 := hSw.cell c0.out NF0.out; (try clear hHeld); go_simp; try with_reducible rfl)
          try simp only [Act.put, List.setIfInBounds_toArray, List.set_cons_zero, List.set_cons_succ]
          refine rg_yes (i := 15) (v := ?_) (atS (atS (atS (atS (atS (atS (atS (atS (atS (atS (atS (atS (atS (atS (atS at0))))))))))))))) (by kernel_rfl) (by kernel_rfl) (by kernel_rfl) (fun _ _ _ h => h) ?_ ?_ hHeld ?_; rotate_left 1; (· rfl); (· intro w' hSw; (try dsimp only at hSw); (try clear hHeld); go_simp; try with_reducible rfl)
          try simp only [Act.put, List.setIfInBounds_toArray, List.set_cons_zero, List.set_cons_succ]
          refine rg_call (i := 16) (atS (atS (atS (atS (atS (atS (atS (atS (atS (atS (atS (atS (atS (atS (atS (atS at0)))))))))))))))) (by kernel_rfl) ?_ (fun K hK => ?_); (· rfl); (try clear hb); go_simp; go_wp2_with fail; refine hK.out _ _ ?_ (fun hHeld => ?_); (· exact hHeld.trans (Kept.setCell _ _ (.inl rfl))); clear hK K
          try simp only [Act.put]
          refine wpAnyH_done (by kernel_rfl) ?_ _
          have PT := Lib.hid (GrpAt.put (DG.out.below ((Below.refl _ wd).alloc (Nat.le_refl _) (.cells #[.int .u32 p.1, .int .i64 p.2] 35))) HU.out HX.out (own_snocP hown1) (kept_grown hgrow1) (hat1.imp id (fun h => ⟨_, h, Nat.le_refl _⟩)))
          have hal : Below wd.heap.size wd (wd.alloc (.cells #[.int .u32 p.1, .int .i64 p.2] 35)) := (Below.refl _ wd).alloc (Nat.le_refl _) _
          have PT2 : Hid (GrpAt (wa.setCell ⟨gb, at_, none⟩ (.slice (some ⟨g1, 0, none⟩) (x.length + 1) c1)) W0.heap.size (.slice (some ⟨gb, 0, none⟩) Gl.length cb) (vs.set at_ (.slice (some ⟨g1, 0, none⟩) (x.length + 1) c1)) (grpL (sameB bys) (xs.take (i + 1)))) := Lib.hid (by
            rw [GR.out]
            have h := PT.out
            rw [List.length_set] at h
            exact h)
          have DM2 := Lib.hid ((DM.out.below hal).kept (kept_grown hgrow1) (fun e => own_ne_map (own_below DU.out hal) (DM.out.below hal) e))
          have DM3 : Hid (MapT nV nV I64r (wa.setCell ⟨gb, at_, none⟩ (.slice (some ⟨g1, 0, none⟩) (x.length + 1) c1)) mb M) := Lib.hid (DM2.out.kept (F := fun b => b = gb) (Kept.setCell _ _ rfl) (fun e => own_ne_map (DG.out.below hal).row (DM.out.below hal) (by rw [e]; rfl)))
          have DO2 := Lib.hid (((own_on (own_below DO.out hal)).kept (kept_grown hgrow1) (fun k _ h1 h2 => own_kinds (own_below DO.out hal) (own_below DU.out hal) (by decide) k h1 h2)).self)
          have DO3 : Hid ((wa.setCell ⟨gb, at_, none⟩ (.slice (some ⟨g1, 0, none⟩) (x.length + 1) c1)).ownsRow W0.heap.size 3 1 (.slice (some ⟨gc, 0, none⟩) xs.length cc) xs.length (cls.map nV)) := Lib.hid (((own_on DO2.out).kept (F := fun b => (Value.slice (some ⟨gc, 0, none⟩) xs.length cc).ownBlock = some b) (G := fun b => b = gb) (Kept.setCell _ _ rfl) (fun k _ h1 h2 => own_kinds (own_below DO.out hal) (DG.out.below hal).row (by decide) k h1 (by rw [h2]; rfl))).self)
          have DB3 : Hid (Below W0.heap.size W0 (wa.setCell ⟨gb, at_, none⟩ (.slice (some ⟨g1, 0, none⟩) (x.length + 1) c1))) := Lib.hid (((DB.out.alloc DB.out.size _).grown hgrow1 (by have := DB.out.size; simp; omega) UBU.out).setCell GBU.out _)
          clear PT hown1 hgrow1 hat1 y6 y7 hal DM2 DO2 DM DO DB DG DU D6 D7 hHeld
          go_wp2_with fail
          exact ⟨⟨i + 1, M, _, by omega, by go_num, G2, PT2, DM3, DO3, DB3⟩, by simp [intOf]; omega⟩
    · obtain rfl : i = xs.length := by omega
      have GE : Hid (GrpAt wr W0.heap.size u5 vs (grpL (sameB bys) xs)) := Lib.hid (by have := GA.out; rwa [List.take_length] at this)
      clear GA
      go_wp2_with fail
      go_ret
      exact ⟨_, vs, rfl, ⟨GE.out.len, own_base GE.out.row HB.out.size, fun i u x hu hx => own_base (GE.out.own i u x hu hx) HB.out.size, GE.out.sep⟩, below_on HB.out B.out⟩
end Go.Proofs.Ytaafeekkllomhaa
