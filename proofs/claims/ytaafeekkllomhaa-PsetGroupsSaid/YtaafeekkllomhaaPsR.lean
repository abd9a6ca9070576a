/-
  SETS OF PREFIXES: part: numbers of prefixes by the sets that they lie in.
-/
import Derived.Test.YtaafeekkllomhaaPsE
import Derived.Test.YtaafeekkllomhaaPsD
import Derived.Test.YtaafeekkllomhaaPsQ
import Derived.Laws.OwnMore
namespace Go.Proofs.Ytaafeekkllomhaa
open Go.RowKit

abbrev nV (n : Int) : Value := .int .i64 n
theorem wf_of {n : Int} (h : I64r n) : (Lit.int .i64 n).wf = true := by
  unfold I64r at h; exact WalkArith.wf_i64 (by omega)
theorem int_enc : KeyEnc Try.prog 3 nV I64r where
  K := Maps.int_keyed Try.underlying3
  lit a ha := ⟨_, Maps.keyOf_int_mk Try.underlying3 (wf_of ha)⟩
  inj a b h := by injection h
theorem zero_int (w : World) : (zeroValue 3).run Try.prog w = .ok (nV 0) w := by kernel_rfl
theorem info_intC : (Try.prog.info? 3).map (fun i => (i.zero, i.size, i.bytes)) = some (some (.int .i64 0), 1, 8) := by kernel_rfl
/-- a set in memory. -/
def SetC (w : World) (s : List Pf) (cs : List Value) : Prop := ∃ v, cs = [v] ∧ PsAt w v s ∧ Srt s
abbrev SetsAt (w : World) (u : Value) (bys : List (List Pf)) : Prop := SlAt w 1 (SetC w) u bys
theorem SetC.below {w w' : World} {s : List Pf} {cs : List Value} (h : SetC w s cs) (hb : Below w.heap.size w w') : SetC w' s cs := by
  obtain ⟨v, h1, h2, h3⟩ := h
  exact ⟨v, h1, h2.below hb, h3⟩
theorem SetsAt.below {w w' : World} {u : Value} {bys : List (List Pf)} (h : SetsAt w u bys) (hb : Below w.heap.size w w') : SetsAt w' u bys := SlAt.below h hb fun _ _ h => h.below hb
theorem sets_one {w : World} {bys : List (List Pf)} {b off : Nat} (h : ∀ (i : Nat) (x : List Pf), bys[i]? = some x → ∃ cs : List Value, cs.length = 1 ∧ SetC w x cs ∧ ∀ (j : Nat) (c : Value), cs[j]? = some c → w.cell? ⟨b, off + i * 1 + j, none⟩ = some c)
    {i : Nat} {x : List Pf} (hx : bys[i]? = some x) : ∃ v, w.cell? ⟨b, off + i, none⟩ = some v ∧ PsAt w v x ∧ Srt x := by
  obtain ⟨cs, -, ⟨v, rfl, h1, h2⟩, hc⟩ := h i x hx
  have := hc 0 _ rfl
  rw [Nat.mul_one, Nat.add_zero] at this
  exact ⟨v, this, h1, h2⟩
theorem made_ints (n : Nat) : (madeCells (Value.int .i64 0).cells (n * 1)).toList = (List.replicate n (0 : Int)).map nV := by
  apply List.ext_getElem?
  intro i
  by_cases hi : i < n
  · simp [madeCells, Value.cells, hi, Nat.mod_one]
  · simp [madeCells, Value.cells, hi]
theorem own_ne_map {κ υ : Type} {ek : κ → Value} {ev : υ → Value} {ok : κ → Prop} {W : World} {B k n : Nat} {e : TypeId} {v : Value} {xs : List Value} {b : Nat} {l : List (κ × υ)} (h : W.ownsRow B e k v n xs) (hm : MapT ek ev ok W b l) : v.ownBlock ≠ some b := by
  obtain ⟨_, ⟨rfl, _⟩ | ⟨g, cap, cur, rfl, hB, hg, _⟩⟩ := h
  · intro e; cases e
  · intro e
    injection e with e
    simp only at e
    obtain ⟨es, ck, hb, -⟩ := hm
    rw [← e, hg] at hb
    cases hb
def PartPost (xs : List Pf) (bys : List (List Pf)) (w : World) (e : Ending) (w' : World) : Prop := ∃ (v : Value) (cls : List Int) (L : Nat), e = .returned v ∧ w'.ownsRow w.heap.size 3 1 v xs.length (cls.map nV) ∧ EqS xs bys cls L ∧ L ≤ bys.length * 65536 ∧ Below w.heap.size w w'
set_option maxHeartbeats 12800000 in
set_option maxRecDepth 100000 in
theorem ps_part (va u : Value) (xs : List Pf) (bys : List (List Pf)) (w : World) (h : PsAt w va xs) (hs : Srt xs) (k : SetsAt w u bys) (hn : xs.length ≤ 65536) (hb : bys.length ≤ 65536) (hbs : ∀ s ∈ bys, s.length ≤ 65536) :
    Calls Try.prog 32 #[.agg #[va], u] w (PartPost xs bys w) := by
  obtain ⟨i0, hii, hz0, hz1, hz2⟩ := info_parts info_intC
  have hmm := @run_makeMap Try.prog
  have HA := Lib.hid h
  have HS := Lib.hid hs
  have HBS := Lib.hid hbs
  obtain ⟨sa, cap, rfl, hlc, hcm, -⟩ := h
  obtain ⟨sb, cap2, rfl, hlc2, hcm2, hU⟩ := k
  have HU := Lib.hid hU
  clear hU hs hbs
  unfold maxLen at hcm hcm2
  go_enter Try.func32, Try.ntmps32
  go_upto_region 1 with (fail)
  obtain ⟨W0, hW0, q0, hB, -⟩ := boxC w #[.slice sa xs.length cap] 26
  rw [← hW0]
  clear hW0
  have C0 : Hid (W0.cell? ⟨w.heap.size, 0, none⟩ = some (.slice sa xs.length cap)) := Lib.hid (row_cell q0 0)
  have c0 := C0.out
  have HB := Lib.hid hB
  have HA0 := Lib.hid (HA.out.below hB)
  clear q0 hB
  obtain ⟨W1, hmk, hown, hgrow⟩ := run_makeSlice_full (P := Try.prog) W0 W0.heap.size 66 3 i0 _ 1 Try.underlying66 hii hz0 hz1 .i64 .i64 xs.length (by omega) (by rw [hz2]; omega) (by unfold maxLen; omega) (Nat.le_refl _)
  rw [made_ints] at hown
  have O1 := Lib.hid hown
  have B1 : Hid (Below W0.heap.size W0 W1) := Lib.hid ((Below.refl _ _).grown hgrow (Nat.le_refl _) (fun g hg => by cases hg))
  clear hown hgrow
  go_wp2_with fail
  clear c0 hmk
  obtain ⟨gc, hgc⟩ : ∃ gc, W0.heap.size = gc := ⟨_, rfl⟩
  rw [hgc] at O1 ⊢
  have GC := Lib.hid hgc
  clear hgc
  go_loopw [6, 22] (fun l6 i22 wr => ∃ (k L : Nat) (cls : List Int), k ≤ bys.length ∧ L ≤ k * 65536 ∧ l6 = .int .i64 L ∧ i22 = .int .i64 k ∧ Hid (EqS xs (bys.take k) cls L) ∧ Hid (wr.ownsRow gc 3 1 (.slice (some ⟨gc, 0, none⟩) xs.length xs.length) xs.length (cls.map nV)) ∧ Hid (Below W0.heap.size W0 wr)) (fun _ i22 _ => bys.length - (intOf i22).toNat)
  case atStart => exact ⟨0, 0, _, by omega, by omega, rfl, rfl, Lib.hid (eqs_start xs), O1, B1⟩
  case round =>
    clear O1 B1
    obtain ⟨k, L, cls, hk, hL, rfl, rfl, E, O, B⟩ := hrel
    by_cases hlt : k < bys.length
    · obtain ⟨x, hx⟩ : ∃ x, bys[k]? = some x := ⟨_, List.getElem?_eq_getElem hlt⟩
      obtain ⟨b1, off1, hsa, hP⟩ := HU.out (by omega)
      subst hsa
      obtain ⟨vx, x0, px, sx⟩ := sets_one hP hx
      have x0 := (B.out.cell (size_lt (cell_below x0 HB.out))).trans (cell_below x0 HB.out)
      have PX := Lib.hid (px.below HB.out)
      have SX := Lib.hid sx
      have LX : x.length ≤ 65536 := HBS.out x (List.mem_of_getElem? hx)
      have HX := Lib.hid hx
      have k0 : (0 : Int) ≤ (k : Int) := by omega
      have k1 : (k : Int) < (bys.length : Int) := by omega
      clear hP hx px sx
      obtain ⟨sx, cx, rfl, hlx, hcx, hVX⟩ := id PX.out
      have HVX := Lib.hid hVX
      clear hVX
      go_upto_region 6 with (fail)
      obtain ⟨W2, hW2, q2, hb2, -⟩ := boxC wr #[.slice sx x.length cx] 26
      rw [← hW2]
      have d2 : W2.cell? ⟨wr.heap.size, 0, none⟩ = some (.slice sx x.length cx) := row_cell q2 0
      have B2 := Lib.hid (below_on B.out hb2)
      have O2 := Lib.hid (own_below O.out hb2)
      have PX2 := Lib.hid hb2
      clear hW2 q2 hb2 x0 B O
      go_upto_region 7 with (fail)
      obtain ⟨W3, hW3⟩ : ∃ W3, W3 = W2.alloc (.map #[] 0) := ⟨_, rfl⟩
      have hb3 : Below W2.heap.size W2 W3 := by rw [hW3]; exact (Below.refl _ _).alloc (Nat.le_refl _) _
      have M3 : Hid (MapT nV nV I64r W3 W2.heap.size ([] : List (Int × Int))) := Lib.hid (by rw [hW3]; exact MapT.made W2)
      rw [← hW3]
      have d3 := cell_below d2 hb3
      have B3 := Lib.hid (below_on B2.out hb3)
      have O3 := Lib.hid (own_below O2.out hb3)
      have BX := Lib.hid (below_on PX2.out hb3)
      have ML : Hid (W0.heap.size ≤ W2.heap.size) := Lib.hid B2.out.size
      clear hW3 hb3 d2 B2 O2 PX2
      obtain ⟨mb, hmb⟩ : ∃ mb, W2.heap.size = mb := ⟨_, rfl⟩
      rw [hmb] at M3 ML ⊢
      clear hmb
      go_wp2_with fail
      clear d3
      obtain ⟨wo, hwo⟩ : ∃ wo : World, wo = wr := ⟨_, rfl⟩
      rw [← hwo] at BX ⊢
      clear hwo BX
      have EL : Hid (cls.length = xs.length) := Lib.hid E.out.len
      go_loopw [6, 30] (fun l6 j30 wr => ∃ (j L' : Nat) (cls' : List Int) (M : List (Int × Int)), j ≤ x.length ∧ l6 = .int .i64 L' ∧ j30 = .int .i64 j ∧ Hid (InS xs cls L (x.take j) cls' L' M) ∧ Hid (wr.ownsRow gc 3 1 (.slice (some ⟨gc, 0, none⟩) xs.length xs.length) xs.length (cls'.map nV)) ∧ Hid (MapT nV nV I64r wr mb M) ∧ Hid (Below W0.heap.size W0 wr)) (fun _ j30 _ => x.length - (intOf j30).toNat)
      case atStart => exact ⟨0, L, cls, [], by omega, rfl, rfl, Lib.hid (ins_start EL.out), O3, M3, B3⟩
      case round =>
        clear O3 M3 B3
        obtain ⟨j, L', cls', M, hj, rfl, rfl, I, O, MM, B⟩ := hrel
        have hL2 : L' ≤ L + j := by
          have := I.out.le2
          rw [List.length_take] at this
          omega
        by_cases hlt2 : j < x.length
        · obtain ⟨p, hp⟩ : ∃ p, x[j]? = some p := ⟨_, List.getElem?_eq_getElem hlt2⟩
          obtain ⟨b2, off2, hsb, hQ⟩ := HVX.out (by omega)
          subst hsb
          obtain ⟨p0, p1⟩ := ps_two hQ hp
          have p0 := (B.out.cell (size_lt p0)).trans p0
          have p1 := (B.out.cell (size_lt p1)).trans p1
          have l0 : (0 : Int) ≤ (j : Int) := by omega
          have l1 : (j : Int) < (x.length : Int) := by omega
          have HP := Lib.hid hp
          have TK : Hid (x.take (j + 1) = x.take j ++ [p]) := Lib.hid (by rw [List.take_add_one, hp]; rfl)
          have NP : Hid (p ∉ x.take j) := Lib.hid (fun hm => by
            obtain ⟨q, hq⟩ := List.mem_iff_getElem?.1 hm
            have hql : q < j := by have := (List.getElem?_eq_some_iff.1 hq).1; simp at this; omega
            rw [List.getElem?_take_of_lt hql] at hq
            exact plt_irrefl _ (srt_lt SX.out hq hp hql))
          clear hQ hp
          go_upto_region 10 with (fail)
          obtain ⟨W4, hW4, d0, d1, hb4⟩ := box2 wr (.int .u32 p.1) (.int .i64 p.2) 35
          rw [← hW4]
          have B4 := Lib.hid (below_on B.out hb4)
          have O4 := Lib.hid (own_below O.out hb4)
          have M4 := Lib.hid (MM.out.below hb4)
          have e0 := (B4.out.cell (size_lt C0.out)).trans C0.out
          have SE := Lib.hid (ps_Search _ xs p W4 (HA0.out.below ⟨B4.out.os, B4.out.tape, B4.out.output, B4.out.size, B4.out.block⟩) HS.out)
          clear hW4 hb4 p0 p1 B O MM
          by_cases hin : p ∈ xs
          · go_wp2_with fail
            refine SE.out.mono ?_
            rintro e w5 ⟨i, rfl, -, hi, hb5⟩
            have HI := Lib.hid (hi hin)
            rw [decide_eq_true hin]
            have B5 := Lib.hid (below_on B4.out hb5)
            have O5 := Lib.hid (own_below O4.out hb5)
            have M5 := Lib.hid (M4.out.below hb5)
            clear hi hin hb5 d0 d1 e0 B4 O4 M4 SE
            have il : i < xs.length := (List.getElem?_eq_some_iff.1 HI.out).1
            obtain ⟨c, hc⟩ : ∃ c, cls'[i]? = some c := ⟨_, List.getElem?_eq_getElem (by rw [I.out.len]; exact il)⟩
            obtain ⟨y0, y1, -, -⟩ := own_row_cell O5.out rfl (j := i) (u := nV c) (by rw [List.getElem?_map, hc]; rfl)
            have HC := Lib.hid hc
            have CR : Hid (I64r c) := Lib.hid (by
              obtain ⟨c1, h1, -, h3⟩ := I.out.at_ i p (cls[i]'(by rw [EL.out]; exact il)) HI.out (List.getElem?_eq_getElem _)
              rw [hc] at h1
              obtain rfl := Option.some.inj h1
              have := h3 NP.out
              have := E.out.rng i _ (List.getElem?_eq_getElem (by rw [EL.out]; exact il))
              unfold I64r
              omega)
            have m0 : (0 : Int) ≤ (i : Int) := by omega
            have m1 : (i : Int) < (xs.length : Int) := by omega
            clear hc
            have hl := M5.out.look int_enc Try.underlying65 c CR.out zero_int w5 rfl true
            have HMlen : M.length < maxLen := by have := I.out.mlen; rw [List.length_take] at this; unfold maxLen; omega
            cases hg : getL M c with
            | none =>
              rw [hg] at hl
              simp only [if_true, Option.map_none, Option.getD_none, Option.isSome_none, nV] at hl
              have IN := Lib.hid (ins_new I.out (srt_nodup HS.out) HI.out NP.out HC.out hg)
              obtain ⟨o, hst, hm⟩ := M5.out.store int_enc Try.underlying65 c CR.out ((L' : Int) + 1) HMlen w5 rfl
              simp only [nV] at hst
              have hb6 : Hid (Below W0.heap.size W0 (ChangeMaps.setBlock w5 mb o)) := Lib.hid (B5.out.trans (setBlock_below ML.out))
              have O6 : Hid ((ChangeMaps.setBlock w5 mb o).ownsRow gc 3 1 (.slice (some ⟨gc, 0, none⟩) xs.length xs.length) xs.length (cls'.map nV)) := Lib.hid ((own_on O5.out).kept (F := fun b => (Value.slice (some ⟨gc, 0, none⟩) xs.length xs.length).ownBlock = some b) (G := fun b => b = mb) (Kept.setBlock o rfl) (fun k _ h1 h2 => own_ne_map O5.out M5.out (by rw [h1, h2]))).self
              have M6 := Lib.hid hm
              have LS : (L' : Int) + 1 ≤ 9223372036854775807 := by omega
              clear hg hm B5 O5 M5
              go_upto_region 17 with (fail)
              clear hl hst y0 y1
              generalize ChangeMaps.setBlock w5 mb o = W6 at hb6 O6 M6 ⊢
              obtain ⟨z0, z1, -, -⟩ := own_row_cell O6.out rfl (j := i) (u := nV c) (by rw [List.getElem?_map, HC.out]; rfl)
              have O7 := Lib.hid (own_set O6.out rfl i (nV ((L' : Int) + 1)))
              rw [← List.map_set] at O7
              have M7 : Hid (MapT nV nV I64r (W6.setCell ⟨gc, i, none⟩ (nV ((L' : Int) + 1))) mb (putL M c ((L' : Int) + 1))) := Lib.hid (M6.out.kept (F := fun b => b = gc) (Kept.setCell _ _ rfl) (fun e => own_ne_map O6.out M6.out (by rw [e]; rfl)))
              have B7 : Hid (Below W0.heap.size W0 (W6.setCell ⟨gc, i, none⟩ (nV ((L' : Int) + 1)))) := Lib.hid (hb6.out.setCell (by show W0.heap.size ≤ gc; rw [GC.out]; exact Nat.le_refl _) _)
              rw [← TK.out] at IN
              clear O6 M6 hb6
              go_wp2_with fail
              exact ⟨⟨j + 1, L' + 1, _, _, by omega, by go_num, by go_num, IN, O7, M7, B7⟩, by simp [intOf]; omega⟩
            | some t =>
              rw [hg] at hl
              simp only [if_true, Option.map_some, Option.getD_some, Option.isSome_some, nV] at hl
              have IN := Lib.hid (ins_known I.out (srt_nodup HS.out) HI.out NP.out HC.out hg)
              rw [← TK.out] at IN
              clear hg
              have O7 := Lib.hid (own_set O5.out rfl i (nV t))
              rw [← List.map_set] at O7
              have M7 : Hid (MapT nV nV I64r (w5.setCell ⟨gc, i, none⟩ (nV t)) mb M) := Lib.hid (M5.out.kept (F := fun b => b = gc) (Kept.setCell _ _ rfl) (fun e => own_ne_map O5.out M5.out (by rw [e]; rfl)))
              have B7 : Hid (Below W0.heap.size W0 (w5.setCell ⟨gc, i, none⟩ (nV t))) := Lib.hid (B5.out.setCell (by show W0.heap.size ≤ gc; rw [GC.out]; exact Nat.le_refl _) _)
              clear O5 M5 B5
              go_wp2_with fail
              exact ⟨⟨j + 1, L', _, _, by omega, rfl, by go_num, IN, O7, M7, B7⟩, by simp [intOf]; omega⟩
          · go_wp2_with fail
            refine SE.out.mono ?_
            rintro e w5 ⟨i, rfl, -, -, hb5⟩
            rw [decide_eq_false hin]
            have B5 := Lib.hid (below_on B4.out hb5)
            have O5 := Lib.hid (own_below O4.out hb5)
            have M5 := Lib.hid (M4.out.below hb5)
            have I2 := Lib.hid (ins_skip I.out hin)
            rw [← TK.out] at I2
            clear hin hb5 d0 d1 e0 B4 O4 M4 SE
            go_wp2_with fail
            exact ⟨⟨j + 1, L', cls', M, by omega, rfl, by go_num, I2, O5, M5, B5⟩, by simp [intOf]; omega⟩
        · obtain rfl : j = x.length := by omega
          have E2 : Hid (EqS xs (bys.take (k + 1)) cls' L') := Lib.hid (by
            have h1 := I.out
            rw [List.take_length] at h1
            have := ins_end E.out h1
            rw [List.take_add_one, HX.out]
            exact this)
          clear I MM
          go_wp2_with fail
          exact ⟨⟨k + 1, L', cls', by omega, by omega, rfl, by go_num, E2, O, B⟩, by simp [intOf]; omega⟩
    · obtain rfl : k = bys.length := by omega
      have E2 : Hid (EqS xs bys cls L) := Lib.hid (by have := E.out; rwa [List.take_length] at this)
      clear E
      go_wp2_with fail
      go_ret
      exact ⟨_, cls, L, rfl, own_base O.out (by rw [← GC.out]; exact HB.out.size), E2.out, hL, below_on HB.out B.out⟩
end Go.Proofs.Ytaafeekkllomhaa
