/- Texts of one proof, one behind another. -/
import Derived.Test.YtohkbcdnlmjcjaaDoorFo21
import Derived.Test.YtohkbcdnlmjcjaaDoorFo24
/-
  AttrOrder walked.
-/
namespace Go.Proofs.YtohkbcdnlmjcjaaDoor
open Go.RowKit

set_option maxRecDepth 100000 in
theorem one_sl {s : Option Addr} {n k : Nat} : ∀ u ∈ [Value.slice s n k], u.oneCell' = true := by
  intro u hu
  rw [List.mem_singleton.1 hu]; rfl
/-- the bytes from the k-th on. -/
def restL (a : At) (its : List It) (k : Nat) : List Nat := (its.drop k).flatMap (It.bytes a)
/-- the bytes that were turned, so many attributes of them. -/
def turnL (a : At) (its : List It) (m i : Nat) : List Nat := ((rotL m its).take i).flatMap (It.bytes a)
set_option maxHeartbeats 12800000 in
set_option maxRecDepth 100000 in
theorem law_AttrOrder (a : At) (vp vc vo : Value) (sy : Int) (w : World) (hA : AtL w a vp vc vo) (hr : a.Rng) (hT : Tabs w) :
    Calls Tryd.prog 5 #[.agg (atV a vp vc vo).toArray, .int .i64 sy] w fun e w' => e = .returned (.bool true) ∧ Below w.heap.size w w' := by
  show Calls Tryd.prog 5 #[.agg #[.int .i64 a.has, .int .i64 a.origin, vp, .int .u32 a.hop, .int .i64 a.med, .int .i64 a.loc, .int .i64 a.aggrAs, .int .u32 a.aggrId, vc, vo], .int .i64 sy] w _
  have HA := Lib.hid hA
  have HR := Lib.hid hr
  have HT := Lib.hid hT
  have BG := Lib.hid (fun W h => law_big a vp vc vo W h)
  have OBY : Hid (∀ o ∈ a.others, ∀ y ∈ o.2, y < 256) := Lib.hid fun o ho => by
    obtain ⟨cs, u, -, -, hu⟩ := slat_all hA.2.2 o ho
    exact bytes_rng hu
  obtain ⟨⟨sp, cp, rfl, -⟩, ⟨sc, cc, rfl, -⟩, ⟨so, co, rfl, -⟩⟩ := hA
  clear hr hT
  obtain ⟨i0, hii, hz0, hz1, hz2⟩ := info_parts info_bytesT
  go_enter Tryd.func5, Tryd.ntmps5
  go_upto_region 1 with (fail)
  obtain ⟨W0, hW0, q, hb0, _⟩ := boxA w (.int .i64 a.has) (.int .i64 a.origin) (.slice sp a.path.length cp) (.int .u32 a.hop) (.int .i64 a.med) (.int .i64 a.loc) (.int .i64 a.aggrAs) (.int .u32 a.aggrId) (.slice sc a.comms.length cc) (.slice so a.others.length co)
  rw [← hW0]
  clear hW0
  have Q0 := Lib.hid q
  have B0 := Lib.hid hb0
  clear q hb0
  go_wp2_with fail
  refine (law_head _ (HT.out.below B0.out)).mono ?_
  rintro e w1 ⟨rfl, hb1⟩
  have Q1 := Lib.hid ((hb1.block _ (row_lt Q0.out)).trans Q0.out)
  have B1 := Lib.hid (below_on B0.out hb1)
  clear hb1 Q0 B0
  go_wp2_with ((with_reducible refine halt_at (X := .load 28 (.tmp 2)) ?_ ?_); (· rfl))
  unfold Halt
  refine ld_at (by rfl) 28 (.tmp 2) rfl w.heap.size rfl 28 #[.int .i64 a.has, .int .i64 a.origin, .slice sp a.path.length cp, .int .u32 a.hop, .int .i64 a.med, .int .i64 a.loc, .int .i64 a.aggrAs, .int .u32 a.aggrId, .slice sc a.comms.length cc, .slice so a.others.length co] (0, 0) _ Q1.out Tryd.underlying28 rfl sz_attrs ?_
  go_wp2_with fail
  refine (BG.out _ (HA.out.below B1.out)).mono ?_
  rintro e w2 ⟨b, rfl, hsm, hb2⟩
  have Q2 := Lib.hid ((hb2.block _ (row_lt Q1.out)).trans Q1.out)
  have B2 := Lib.hid (below_on B1.out hb2)
  have SM := Lib.hid hsm
  clear hb2 Q1 B1 hsm BG
  cases b
  case true =>
    go_wp2_with fail
    go_ret
    exact ⟨rfl, B2.out⟩
  have SM2 := Lib.hid (SM.out rfl)
  clear SM
  have EC := Lib.hid (at_Encode a _ _ _ w2 (HA.out.below B2.out) HR.out (HT.out.below B2.out) (by have := SM2.out.path; omega) (by have := SM2.out.others; omega))
  go_wp2_with ((with_reducible refine halt_at (X := .load 28 (.tmp 2)) ?_ ?_); (· rfl))
  unfold Halt
  refine ld_at (by rfl) 28 (.tmp 2) rfl w.heap.size rfl 28 #[.int .i64 a.has, .int .i64 a.origin, .slice sp a.path.length cp, .int .u32 a.hop, .int .i64 a.med, .int .i64 a.loc, .int .i64 a.aggrAs, .int .u32 a.aggrId, .slice sc a.comms.length cc, .slice so a.others.length co] (0, 0) _ Q2.out Tryd.underlying28 rfl sz_attrs ?_
  go_wp2_with fail
  refine EC.out.mono ?_
  rintro e w3 ⟨vb, rfl, ok, nok, hb3⟩
  have B3 := Lib.hid (below_on B2.out hb3)
  have Q3 := Lib.hid ((hb3.block _ (row_lt Q2.out)).trans Q2.out)
  have OK := Lib.hid ok
  clear EC hb3 B2 Q2 ok
  rcases enc_cases a with ⟨h0, hck, hl⟩ | h6 | h1
  · have CK := Lib.hid hck
    have E4 := Lib.hid hl
    have OB := Lib.hid (OK.out h0)
    rw [h0]
    clear nok OK hck hl h0
    have HB3 : Hid (BytesAt w3 vb (encL a)) := Lib.hid (ownB_bytes OB.out (enc_lt OBY.out))
    obtain ⟨sb0, cb0, hvb, -⟩ := own_form OB.out
    subst hvb
    have E5 : Hid (((itsOf a).flatMap (It.bytes a)).length ≤ 4096) := Lib.hid (by rw [← enc_its]; exact E4.out)
    have IG : Hid (∀ it ∈ itsOf a, it.good a ∧ (it.bytes a).length ≤ 4096) := Lib.hid fun it hi => ⟨its_good CK.out it hi, enc_each E4.out it hi⟩
    obtain ⟨its, hits⟩ : ∃ its, itsOf a = its := ⟨_, rfl⟩
    have HI := Lib.hid hits
    have IL : Hid (its.length ≤ 28) := Lib.hid (by
      rw [← hits]
      unfold itsOf
      rw [List.length_append, List.length_map, List.length_map]
      have h1 := List.length_filter_le (fun t => isB a.has ((t : Nat) : Int)) (List.range' 1 8)
      have h2 := SM2.out.others
      rw [List.length_range'] at h1
      omega)
    have e0 : encL a = restL a its 0 := by rw [enc_its, hits]; rfl
    have E6 := E4
    rw [hits] at E5 IG
    rw [e0] at HB3 OB E4 ⊢
    clear hits e0
    go_wp2_with fail
    obtain ⟨w4, hw4, po, pb⟩ : ∃ w4, w4 = w3.alloc (.cells #[] 38) ∧ w4.ownsRow w3.heap.size 38 1 (.slice (some ⟨w3.heap.size, 0, none⟩) 0 0) 0 [] ∧ Below w3.heap.size w3 w4 := ⟨_, rfl, own_empty (Nat.le_refl _), (Below.refl _ _).alloc (Nat.le_refl _) _⟩
    rw [← hw4]
    have PO := Lib.hid po
    have PB := Lib.hid pb
    clear hw4 po pb
    generalize (some ⟨w3.heap.size, 0, none⟩ : Option Addr) = s70 at PO ⊢
    go_loopw [5, 7, 8] (fun bv pv nv wr => ∃ (k : Nat) (sb : Option Addr) (cb : Nat) (s7 : Option Addr) (c7 : Nat) (ps : List Value), k ≤ its.length ∧ Hid (ps.length = k) ∧ bv = .slice sb (restL a its k).length cb ∧ pv = .slice s7 k c7 ∧ Hid (BytesAt w3 (.slice sb (restL a its k).length cb) (restL a its k)) ∧ Hid (PartsAt w3 a its ps) ∧ Hid (wr.ownsRow w3.heap.size 38 1 (.slice s7 k c7) k ps) ∧ Hid (Below w3.heap.size w3 wr)) (fun bv _ _ _ => lenOf bv)
    case atStart => exact ⟨0, sb0, cb0, s70, 0, [], by omega, Lib.hid rfl, rfl, rfl, HB3, Lib.hid (fun i it hi hl => by simp at hl), PO, PB⟩
    case round =>
      obtain ⟨k, sb, cb, s7, c7, ps, hk, PL, rfl, rfl, BA, PA, PO, PB⟩ := hrel
      by_cases hkn : k = its.length
      · have e0 : restL a its k = [] := by unfold restL; rw [hkn, List.drop_length]; rfl
        rw [e0] at BA ⊢
        have PL2 : Hid (ps.length = its.length) := Lib.hid (by rw [PL.out, hkn])
        subst hkn
        clear e0 PL hk BA
        simp only [List.length_nil]
        go_upto_region 15 with (fail)
        by_cases hn : its.length = 0
        · have d0 : ((its.length : Int) == 0) = true := by rw [beq_iff_eq]; omega
          clear hn PL2
          go_wp2_with fail
          go_ret
          exact ⟨rfl, below_on B3.out PB.out⟩
        · have d0 : ((its.length : Int) == 0) = false := by rw [beq_eq_false_iff_ne]; omega
          have N1 : 0 < its.length := by omega
          obtain ⟨m, hm, hmv⟩ : ∃ m : Nat, m < its.length ∧ (bits .and .i64 sy 255).tmod (its.length : Int) = (m : Int) := by
            have e := and_low_i64 sy 8 (by decide)
            rw [show ((2 ^ 8 - 1 : Nat) : Int) = 255 by decide, show ((2 ^ 8 : Nat) : Int) = 256 by decide] at e
            rw [e, IntWalk.rem_in _ _ (by omega)]
            have h1 := Int.emod_nonneg (sy % 256) (show (its.length : Int) ≠ 0 by omega)
            have h2 := Int.emod_lt_of_pos (sy % 256) (show (0 : Int) < (its.length : Int) by omega)
            exact ⟨(sy % 256 % (its.length : Int)).toNat, by omega, by omega⟩
          have NM : (its.length : Int) ≠ 0 := by omega
          clear hn
          go_upto_region 19 with (fail)
          obtain ⟨wq, hwq⟩ : ∃ wq, wq = wr := ⟨_, rfl⟩
          subst hwq
          obtain ⟨w5, hw5, to_, tb⟩ : ∃ w5, w5 = wq.alloc (.cells #[] 5) ∧ OwnB w5 wq.heap.size (.slice (some ⟨wq.heap.size, 0, none⟩) 0 0) [] ∧ Below wq.heap.size wq w5 := ⟨_, rfl, own_empty (Nat.le_refl _), (Below.refl _ _).alloc (Nat.le_refl _) _⟩
          rw [← hw5]
          have TO := Lib.hid to_
          have TB := Lib.hid tb
          clear hw5 to_ tb
          generalize (some ⟨wq.heap.size, 0, none⟩ : Option Addr) = s90 at TO ⊢
          obtain ⟨s7', c7', e7, g7⟩ := own_form PO.out
          injection e7 with e7 _ e7c
          subst e7; subst e7c
          obtain ⟨g, rfl⟩ := g7 N1
          clear g7 d0
          have TL : Hid (∀ i, (turnL a its m i).length ≤ 4096) := Lib.hid fun i => by
            have h1 := flat_take_le (f := It.bytes a) (rotL m its) i
            have h2 := flat_perm_len (f := It.bytes a) (rot_perm m its)
            have := E5.out
            unfold turnL
            omega
          go_wp2_with fail
          go_loopw [9, 71] (fun tv iv wx => ∃ (i : Nat) (s9 : Option Addr) (c9 : Nat), i ≤ its.length ∧ iv = .int .i64 i ∧ tv = .slice s9 (turnL a its m i).length c9 ∧ Hid (OwnB wx wq.heap.size (.slice s9 (turnL a its m i).length c9) (turnL a its m i)) ∧ Hid (Below wq.heap.size wq wx)) (fun _ iv _ => its.length - (intOf iv).toNat)
          case atStart => exact ⟨0, s90, 0, by omega, rfl, rfl, TO, TB⟩
          case round =>
            obtain ⟨i, s9, c9, hi, rfl, rfl, TO, TB⟩ := hrel
            by_cases hin : i = its.length
            · as_aux_lemma =>
                subst hin
                clear hi
                have RP : Hid ((rotL m its).Perm (itsOf a)) := Lib.hid (by rw [HI.out]; exact rot_perm m its)
                have e9 : turnL a its m its.length = (rotL m its).flatMap (It.bytes a) := by
                  unfold turnL
                  rw [List.take_of_length_le (by rw [rot_len]; exact Nat.le_refl _)]
                have E9 := Lib.hid e9
                have TBY : Hid (∀ y ∈ turnL a its m its.length, y < 256) := Lib.hid (by rw [e9]; exact items_lt OBY.out (fun it h => RP.out.mem_iff.1 h))
                have DC := Lib.hid (at_Decode _ _ wr (ownB_bytes TO.out TBY.out) (HT.out.below (below_on B3.out (below_on PB.out TB.out))) (by have := TL.out its.length; omega))
                have PO6 := Lib.hid (own_below PO.out TB.out)
                have PA6 : Hid (PartsAt wr a its ps) := Lib.hid ((PA.out.below PB.out).below TB.out)
                have Q6 := Lib.hid ((TB.out.block _ (by have := row_lt Q3.out; have := PB.out.size; omega)).trans ((PB.out.block _ (row_lt Q3.out)).trans Q3.out))
                have B6 := Lib.hid (below_on B3.out (below_on PB.out TB.out))
                have SZ6 := Lib.hid TB.out.size
                have LQ : Hid (w.heap.size < wq.heap.size) := Lib.hid (by have := row_lt Q3.out; have := PB.out.size; omega)
                clear e9 PO PA TB
                go_wp2_with fail
                refine DC.out.mono ?_
                rintro e w8 hp8
                rw [E9.out] at hp8
                obtain ⟨vp8, vc8, vo8, rfl, al8, hb8⟩ := dec_postF CK.out HR.out E6.out RP.out hp8
                have AL8 := Lib.hid al8
                replace al8 := al8.self
                have B8 := Lib.hid hb8
                obtain ⟨⟨sp8, cp8, rfl, -⟩, ⟨sc8, cc8, rfl, -⟩, ⟨so8, co8, rfl, -⟩⟩ := al8
                clear DC hp8 hb8
                go_wp2_with ((with_reducible refine halt_at (X := .store 28 (.tmp 11) (.tmp 89)) ?_ ?_); (· rfl))
                unfold Halt
                obtain ⟨V, hV, ra, rf, hb⟩ := boxTwo w8 atZ6 28 fltZ 54
                rw [← hV]
                clear hV
                refine st_row rfl 28 (.tmp 11) (.tmp 89) rfl w8.heap.size rfl 28 atZ6 (atV a (.slice sp8 a.path.length cp8) (.slice sc8 a.comms.length cc8) (.slice so8 a.others.length co8)).toArray rfl ra sz_attrs rfl (by simp [atV, Value.oneCell']) ?_
                obtain ⟨V1, hV1⟩ : ∃ V1, V1 = V.setRow w8.heap.size (atV a (.slice sp8 a.path.length cp8) (.slice sc8 a.comms.length cc8) (.slice so8 a.others.length co8)).toArray := ⟨_, rfl⟩
                have C1 : Hid (V1.heap[w8.heap.size]? = some (.cells (atV a (.slice sp8 a.path.length cp8) (.slice sc8 a.comms.length cc8) (.slice so8 a.others.length co8)).toArray 28 (0, 0))) := Lib.hid (by rw [hV1]; exact setRow_heap _ _ _ _ _ _ ra)
                have G1 : Hid (V1.heap[w8.heap.size + 1]? = some (.cells fltZ 54 (0, 0))) := Lib.hid (by rw [hV1, setRow_other _ _ _ _ (by omega)]; exact rf)
                have D1 : Hid (Below w8.heap.size w8 V1) := Lib.hid (hb.trans ((by rw [hV1]; exact kept_row _ _ rfl : Kept (fun k => k = w8.heap.size) V V1).below hb.size (fun k hk => by omega)))
                rw [← hV1]
                clear hV1 ra rf hb
                go_wp2_with ((with_reducible refine halt_at (X := .store 54 (.tmp 12) (.tmp 90)) ?_ ?_); (· rfl))
                unfold Halt
                refine st_row rfl 54 (.tmp 12) (.tmp 90) rfl (w8.heap.size + 1) rfl 54 fltZ fltZ rfl G1.out sz_fault rfl (by simp [Value.oneCell']) ?_
                obtain ⟨V2, hV2⟩ : ∃ V2, V2 = V1.setRow (w8.heap.size + 1) fltZ := ⟨_, rfl⟩
                have C2 : Hid (V2.heap[w8.heap.size]? = some (.cells (atV a (.slice sp8 a.path.length cp8) (.slice sc8 a.comms.length cc8) (.slice so8 a.others.length co8)).toArray 28 (0, 0))) := Lib.hid (by rw [hV2, setRow_other _ _ _ _ (by omega)]; exact C1.out)
                have G2 : Hid (V2.heap[w8.heap.size + 1]? = some (.cells fltZ 54 (0, 0))) := Lib.hid (by rw [hV2]; exact setRow_heap _ _ _ _ _ _ G1.out)
                have D2 : Hid (Below w8.heap.size w8 V2) := Lib.hid (D1.out.trans ((by rw [hV2]; exact kept_row _ _ rfl : Kept (fun k => k = w8.heap.size + 1) V1 V2).below D1.out.size (fun k hk => by omega)))
                rw [← hV2]
                have D3 : Hid (Below wr.heap.size wr V2) := Lib.hid (below_on B8.out D2.out)
                have D2a := D2
                have B9 := Lib.hid (below_on B6.out D3.out)
                have Q9 := Lib.hid ((D3.out.block _ (row_lt Q6.out)).trans Q6.out)
                have PO9 := Lib.hid (own_below PO6.out D3.out)
                have TO9 := Lib.hid (own_below TO.out D3.out)
                have SZ9 : Hid (wq.heap.size ≤ V2.heap.size) := Lib.hid (Nat.le_trans SZ6.out D3.out.size)
                obtain ⟨it, hit⟩ : ∃ it, its[0]? = some it := ⟨_, List.getElem?_eq_getElem N1⟩
                obtain ⟨s', c', p1, p2⟩ := PA6.out 0 it hit (by rw [PL2.out]; exact N1)
                obtain ⟨y1, -, -, -⟩ := own_row_cell PO9.out rfl p1
                have BP : Hid (BytesAt V2 (.slice s' (it.bytes a).length c') (it.bytes a)) := Lib.hid (p2.below D3.out)
                have IB : Hid ((it.bytes a).length ≤ 4096) := Lib.hid (IG.out it (List.mem_of_getElem? hit)).2
                obtain ⟨zs, hzs⟩ : ∃ zs, zs = turnL a its m its.length ++ it.bytes a := ⟨_, rfl⟩
                have IM : it ∈ rotL m its := (rot_perm m its).mem_iff.2 (List.mem_of_getElem? hit)
                have ZB : Hid (∀ y ∈ zs, y < 256) := Lib.hid (by
                  rw [hzs]
                  exact app_lt TBY.out (item_lt OBY.out (RP.out.mem_iff.1 IM)))
                have ZL : Hid (zs.length ≤ 8192) := Lib.hid (by rw [hzs, List.length_append]; have := TL.out its.length; have := IB.out; omega)
                have ZD : Hid ((decP atO [] zs).1 = 1) := Lib.hid (by rw [hzs, E9.out]; exact dec_twice CK.out HR.out E6.out RP.out IM)
                have ZS := Lib.hid hzs
                have n1 : (0 : Int) < (its.length : Int) := by omega
                clear hV2 C1 G1 D1 hit p1 p2 hzs IM
                go_wp2_with (at_builtin; refine wpList_appB rfl _ _ rfl wq.heap.size _ _ (turnL a its m its.length) (it.bytes a) zs ZS.out rfl rfl SZ9.out TO9.out BP.out (by have := TL.out its.length; have := IB.out; omega) ?_)
                intro s8 c8 wz hown hbel hk
                have OZ := Lib.hid hown
                have NB : ∀ k, (Value.slice s9 (turnL a its m its.length).length c9).ownBlock = some k → k < wr.heap.size := own_lt TO.out
                have CB : Hid (wz.heap[w8.heap.size]? = some (.cells (atV a (.slice sp8 a.path.length cp8) (.slice sc8 a.comms.length cc8) (.slice so8 a.others.length co8)).toArray 28 (0, 0))) := Lib.hid ((hk.block _ (row_lt C2.out) (fun e => by have := NB _ e; have := B8.out.size; omega)).trans C2.out)
                have GB : Hid (wz.heap[w8.heap.size + 1]? = some (.cells fltZ 54 (0, 0))) := Lib.hid ((hk.block _ (row_lt G2.out) (fun e => by have := NB _ e; have := B8.out.size; omega)).trans G2.out)
                have QB : Hid (wz.heap[w.heap.size]? = some (.cells #[.int .i64 a.has, .int .i64 a.origin, .slice sp a.path.length cp, .int .u32 a.hop, .int .i64 a.med, .int .i64 a.loc, .int .i64 a.aggrAs, .int .u32 a.aggrId, .slice sc a.comms.length cc, .slice so a.others.length co] 28 (0, 0))) := Lib.hid ((hbel.block _ LQ.out).trans Q9.out)
                have BW : Hid (Below w.heap.size w wz) := Lib.hid (B9.out.trans (hbel.mono (Nat.le_of_lt LQ.out)))
                have D2z : Hid (w8.heap.size ≤ V2.heap.size ∧ V2.heap.size ≤ wz.heap.size) := Lib.hid ⟨D2a.out.size, hbel.size⟩
                have KZ : Hid (∀ k, wr.heap.size ≤ k → k < V2.heap.size → wz.heap[k]? = V2.heap[k]?) := Lib.hid fun k h1 h2 => hk.block k h2 (fun e => by have := NB _ e; omega)
                have DC := Lib.hid (at_Decode _ zs wz (ownB_bytes hown ZB.out) (HT.out.below BW.out) (by have := ZL.out; omega))
                clear NB hown hbel hk C2 G2 Q9 B9
                go_wp2_with fail
                refine DC.out.mono ?_
                rintro e wy ⟨hby, hpy⟩
                rw [ZD.out] at hpy
                rw [if_neg (by decide)] at hpy
                obtain ⟨st, rfl⟩ := hpy
                rw [show ((1 : Nat) : Int) = 1 from rfl]
                have CY := Lib.hid ((hby.block _ (row_lt CB.out)).trans CB.out)
                have GY := Lib.hid ((hby.block _ (row_lt GB.out)).trans GB.out)
                have QY := Lib.hid ((hby.block _ (row_lt QB.out)).trans QB.out)
                have BY := Lib.hid (below_on BW.out hby)
                have YB := Lib.hid hby
                clear hby DC CB GB QB
                go_wp2_with ((with_reducible refine halt_at (X := .store 28 (.tmp 13) (.tmp 98)) ?_ ?_); (· rfl))
                unfold Halt
                obtain ⟨U, hU, ra, rf, hb⟩ := boxTwo wy atZ6 28 fltZ 54
                rw [← hU]
                clear hU
                refine st_row rfl 28 (.tmp 13) (.tmp 98) rfl wy.heap.size rfl 28 atZ6 atZ6 rfl ra sz_attrs rfl (by simp [Value.oneCell']) ?_
                obtain ⟨U1, hU1⟩ : ∃ U1, U1 = U.setRow wy.heap.size atZ6 := ⟨_, rfl⟩
                have G1 : Hid (U1.heap[wy.heap.size + 1]? = some (.cells fltZ 54 (0, 0))) := Lib.hid (by rw [hU1, setRow_other _ _ _ _ (by omega)]; exact rf)
                have D1 : Hid (Below wy.heap.size wy U1) := Lib.hid (hb.trans ((by rw [hU1]; exact kept_row _ _ rfl : Kept (fun k => k = wy.heap.size) U U1).below hb.size (fun k hk => by omega)))
                rw [← hU1]
                clear hU1 ra rf hb
                go_wp2_with ((with_reducible refine halt_at (X := .store 54 (.tmp 14) (.tmp 99)) ?_ ?_); (· rfl))
                unfold Halt
                refine st_row rfl 54 (.tmp 14) (.tmp 99) rfl (wy.heap.size + 1) rfl 54 fltZ #[.int .i64 3, .int .i64 1, .string st] rfl G1.out sz_fault rfl (by simp [Value.oneCell']) ?_
                obtain ⟨U2, hU2⟩ : ∃ U2, U2 = U1.setRow (wy.heap.size + 1) #[.int .i64 3, .int .i64 1, .string st] := ⟨_, rfl⟩
                have H2 : Hid (U2.heap[wy.heap.size + 1]? = some (.cells #[.int .i64 3, .int .i64 1, .string st] 54 (0, 0))) := Lib.hid (by rw [hU2]; exact setRow_heap _ _ _ _ _ _ G1.out)
                have D2 : Hid (Below wy.heap.size wy U2) := Lib.hid (D1.out.trans ((by rw [hU2]; exact kept_row _ _ rfl : Kept (fun k => k = wy.heap.size + 1) U1 U2).below D1.out.size (fun k hk => by omega)))
                rw [← hU2]
                have CU := Lib.hid ((D2.out.block _ (row_lt CY.out)).trans CY.out)
                have GU := Lib.hid ((D2.out.block _ (row_lt GY.out)).trans GY.out)
                have QU := Lib.hid ((D2.out.block _ (row_lt QY.out)).trans QY.out)
                have BU := Lib.hid (below_on BY.out D2.out)
                have LU : Hid (AtL U2 a (.slice sp8 a.path.length cp8) (.slice sc8 a.comms.length cc8) (.slice so8 a.others.length co8)) := Lib.hid (AL8.out U2 fun k h1 h2 => ((below_on YB.out D2.out).block _ (by have := D2z.out; omega)).trans ((KZ.out k h1 (by have := D2z.out; omega)).trans (D2a.out.block _ h2)))
                have SM : Hid (Calls Tryd.prog 23 #[.agg (atV a (.slice sp8 a.path.length cp8) (.slice sc8 a.comms.length cc8) (.slice so8 a.others.length co8)).toArray, .agg (atV a (.slice sp a.path.length cp) (.slice sc a.comms.length cc) (.slice so a.others.length co)).toArray] U2 fun e W' => e = .returned (.bool true) ∧ Below U2.heap.size U2 W') := Lib.hid (by
                  have h := at_Same a a (.slice sp8 a.path.length cp8) (.slice sc8 a.comms.length cc8) (.slice so8 a.others.length co8) (.slice sp a.path.length cp) (.slice sc a.comms.length cc) (.slice so a.others.length co) U2 LU.out (HA.out.below BU.out)
                  rw [sameA_refl] at h
                  exact h)
                clear hU2 G1 D1 D2 CY GY QY YB KZ D2a D2z
                obtain ⟨y0, y1, y2⟩ : U2.cell? ⟨w8.heap.size + 1, 0, none⟩ = some (.int .i64 0) ∧ U2.cell? ⟨w8.heap.size + 1, 1, none⟩ = some (.int .i64 0) ∧ U2.cell? ⟨w8.heap.size + 1, 2, none⟩ = some (.string ⟨#[]⟩) := ⟨row_cell GU.out 0, row_cell GU.out 1, row_cell GU.out 2⟩
                have FE := flt_eql U2
                go_wp2_with ((with_reducible refine halt_at (X := .load 28 (.tmp 11)) ?_ ?_); (· rfl))
                unfold Halt
                clear y0 y1 y2 FE GU
                refine ld_at (by rfl) 28 (.tmp 11) rfl w8.heap.size rfl 28 (atV a (.slice sp8 a.path.length cp8) (.slice sc8 a.comms.length cc8) (.slice so8 a.others.length co8)).toArray (0, 0) _ CU.out Tryd.underlying28 rfl sz_attrs ?_
                go_wp2_with ((with_reducible refine halt_at (X := .load 28 (.tmp 2)) ?_ ?_); (· rfl))
                unfold Halt
                refine ld_at (by rfl) 28 (.tmp 2) rfl w.heap.size rfl 28 #[.int .i64 a.has, .int .i64 a.origin, .slice sp a.path.length cp, .int .u32 a.hop, .int .i64 a.med, .int .i64 a.loc, .int .i64 a.aggrAs, .int .u32 a.aggrId, .slice sc a.comms.length cc, .slice so a.others.length co] (0, 0) _ QU.out Tryd.underlying28 rfl sz_attrs ?_
                go_wp2_with fail
                refine SM.out.mono ?_
                rintro e wt ⟨rfl, hbt⟩
                have HT2 := Lib.hid ((hbt.block _ (row_lt H2.out)).trans H2.out)
                have BT := Lib.hid (below_on BU.out hbt)
                clear SM hbt H2 CU QU
                have y0 : wt.cell? ⟨wy.heap.size + 1, 0, none⟩ = some (.int .i64 3) := row_cell HT2.out 0
                have y1 : wt.cell? ⟨wy.heap.size + 1, 1, none⟩ = some (.int .i64 1) := row_cell HT2.out 1
                go_wp2_with fail
                go_ret
                exact ⟨rfl, BT.out⟩
            · as_aux_lemma =>
                have hi2 : i < its.length := by omega
                obtain ⟨j, hj⟩ : ∃ j, (i + m) % its.length = j := ⟨_, rfl⟩
                have hj2 : j < its.length := by rw [← hj]; exact Nat.mod_lt _ N1
                obtain ⟨it, hit⟩ : ∃ it, its[j]? = some it := ⟨_, List.getElem?_eq_getElem hj2⟩
                have e1 : turnL a its m (i + 1) = turnL a its m i ++ it.bytes a := flat_snoc_at ((rot_at hm hi2).trans (by rw [hj]; exact hit))
                obtain ⟨s', c', p1, p2⟩ := PA.out j it hit (by rw [PL2.out]; exact hj2)
                obtain ⟨y1, -, -, -⟩ := own_row_cell (own_below PO.out TB.out) rfl p1
                have z1 : IntKind.i64.wrap ((i : Int) + (m : Int)) = (i : Int) + (m : Int) := IntWalk.i64_in _ (by have := IL.out; omega)
                have z2 : ((i : Int) + (m : Int)).tmod (its.length : Int) = (j : Int) := by
                  rw [IntWalk.rem_in _ _ (by omega), ← hj]
                  push_cast; rfl
                have j0 : (0 : Int) ≤ (j : Int) := by omega
                have j1 : (j : Int) < (its.length : Int) := by omega
                have ii : (i : Int) < (its.length : Int) := by omega
                have iw : IntKind.i64.wrap ((i : Int) + 1) = (i : Int) + 1 := IntWalk.i64_in _ (by have := IL.out; omega)
                have IB : Hid ((it.bytes a).length ≤ 4096) := Lib.hid (IG.out it (List.mem_of_getElem? hit)).2
                have BP : Hid (BytesAt wr (.slice s' (it.bytes a).length c') (it.bytes a)) := Lib.hid ((p2.below PB.out).below TB.out)
                have E1 := Lib.hid e1
                clear e1 hj hit p1 p2 hin hi
                go_wp2_with (at_builtin; refine wpList_appB rfl _ _ rfl wq.heap.size _ _ (turnL a its m i) (it.bytes a) (turnL a its m (i + 1)) E1.out rfl rfl TB.out.size TO.out BP.out (by have := TL.out i; have := IB.out; omega) ?_)
                intro s8 c8 w7 hown hbel _
                have O7 := Lib.hid hown
                have B7 := Lib.hid (TB.out.trans hbel)
                clear hown hbel y1 E1 z1 z2
                go_wp2_with fail
                exact ⟨⟨i + 1, s8, c8, by omega, by go_num, rfl, O7, B7⟩, by simp [intOf]; omega⟩
      · as_aux_lemma =>
          obtain ⟨it, hit⟩ : ∃ it, its[k]? = some it := ⟨_, List.getElem?_eq_getElem (by omega)⟩
          have e1 : restL a its k = it.bytes a ++ restL a its (k + 1) := flat_drop_at (f := It.bytes a) hit
          have IT := Lib.hid hit
          obtain ⟨ig, il⟩ := IG.out it (List.mem_of_getElem? hit)
          obtain ⟨c1, c2, -⟩ := item_cut it ig il (restL a its (k + 1))
          obtain ⟨x0, x1, x2, l, hx, hcut⟩ := cut_head c1
          rw [← e1] at c1 c2 hx hcut
          have LY : (restL a its k).length = (it.bytes a).length + (restL a its (k + 1)).length := by rw [e1, List.length_append]
          have LM : (restL a its k).length ≤ 4096 := by
            have h1 := congrArg (fun x => (x.flatMap (It.bytes a)).length) (List.take_append_drop k its)
            simp only [List.flatMap_append, List.length_append] at h1
            have := E5.out
            unfold restL
            omega
          have ET : (restL a its k).take (it.bytes a).length = it.bytes a := by rw [e1, List.take_left]
          have ED : (restL a its k).drop (it.bytes a).length = restL a its (k + 1) := by rw [e1, List.drop_left]
          have RS1 := Lib.hid (fun W => run_subh (P := Tryd.prog) (ty := 38) Tryd.underlying38 sizeByte sb (restL a its k).length cb (it.bytes a).length (by obtain ⟨_, _, e, h, -⟩ := BA.out; injection e with _ _ e; omega) .i64 W)
          have RS3 := Lib.hid (fun W => run_subl (P := Tryd.prog) (ty := 38) Tryd.underlying38 sizeByte sb (restL a its k).length cb (it.bytes a).length (by omega) .i64 W)
          have BP : Hid (BytesAt w3 (.slice (sub1 sb 0 cb) (it.bytes a).length (cb - 0)) (it.bytes a)) := Lib.hid (by
            have := slat_part' BA.out (l := 0) (k := (it.bytes a).length) (by omega) (by omega)
            rw [List.drop_zero, ET] at this
            exact this)
          have BN : Hid (BytesAt w3 (.slice (sub1 sb (it.bytes a).length cb) (restL a its (k + 1)).length (cb - (it.bytes a).length)) (restL a its (k + 1))) := Lib.hid (by
            have := slat_part' BA.out (l := (it.bytes a).length) (k := (restL a its k).length) (by omega) (Nat.le_refl _)
            rw [List.take_length, ED, LY, Nat.add_sub_cancel_left] at this
            exact this)
          have LN : (restL a its k).length - (it.bytes a).length = (restL a its (k + 1)).length := by omega
          rw [LN] at RS3
          have LB : 3 ≤ (it.bytes a).length := by rw [← c2]; exact cut_ge _
          have PA2 : Hid (PartsAt w3 a its (ps ++ [.slice (sub1 sb 0 cb) (it.bytes a).length (cb - 0)])) := Lib.hid (PA.out.snoc (by rw [PL.out]; exact hit) BP.out)
          have KN : k + 1 ≤ its.length := by omega
          have H0 : (restL a its k)[0]? = some x0 := by rw [hx]; rfl
          have H2 : (restL a its k)[2]? = some x2 := by rw [hx]; rfl
          have HC : Hid (longB x0 = false ∧ 3 + x2 = (it.bytes a).length ∨ longB x0 = true ∧ ∃ x3, (restL a its k)[3]? = some x3 ∧ 4 + (x2 * 256 + x3) = (it.bytes a).length) := Lib.hid (by
            rcases hcut with ⟨h1, h2⟩ | ⟨h1, x3, l', h2, h3⟩
            · exact .inl ⟨h1, by rw [← h2]; exact c2⟩
            · exact .inr ⟨h1, x3, by rw [hx, h2]; rfl, by rw [← h3]; exact c2⟩)
          have LN2 : Hid ((restL a its (k + 1)).length < (restL a its k).length) := Lib.hid (by omega)
          generalize hys : restL a its k = ys at BA RS1 RS3 LM H0 H2 HC LY LN2 ⊢
          clear hys e1 hit ig il c1 c2 hx hcut ET ED LN BP hkn hk PA
          obtain ⟨b, off, cb', e, y0, l0⟩ := byte_cells (BytesAt.below BA.out PB.out) H0
          injection e with e _ e3
          subst e; subst e3
          obtain ⟨b', off', cb'', e, y2, l2⟩ := byte_cells (BytesAt.below BA.out PB.out) H2
          injection e with e _ e3
          injection e with e
          injection e with e e4 _
          subst e; subst e4; subst e3
          have n0 : (0 : Int) < (ys.length : Int) := by omega
          have n2 : (2 : Int) < (ys.length : Int) := by omega
          have m0 : (ys.length : Int) > 0 := by omega
          have d0 : decide ((ys.length : Int) > 0) = true := by simp; omega
          have z3 : IntKind.i64.wrap (3 + (x2 : Int)) = 3 + (x2 : Int) := IntWalk.i64_in _ (by omega)
          have zc : IntKind.i64.wrap (x2 : Int) = (x2 : Int) := IntWalk.i64_in _ (by omega)
          rw [Nat.add_zero] at y0
          clear LY LM LB
          go_upto_if 39 with (fail)
          go_cut [8] (fun s8 wx => s8 = .int .i64 ((it.bytes a).length : Int) ∧ Below wr.heap.size wr wx)
          case first =>
            rcases HC.out with ⟨h1, h2⟩ | ⟨h1, x3, h3, h4⟩
            · have lb : (bits .and .u8 (x0 : Int) 16 != 0) = false := h1
              have E8 : Hid ((3 : Int) + (x2 : Int) = ((it.bytes a).length : Int)) := Lib.hid (by omega)
              clear h1 h2
              go_wp2_with fail
              go_meet
              exact ⟨by rw [E8.out], Below.refl _ _⟩
            · have lb : (bits .and .u8 (x0 : Int) 16 != 0) = true := h1
              have l3 := (List.getElem?_eq_some_iff.1 h3).1
              obtain ⟨b', off', cb'', e, y3, l3'⟩ := byte_cells (BytesAt.below BA.out PB.out) h3
              injection e with e _ e3
              injection e with e
              injection e with e e4 _
              subst e; subst e4; subst e3
              have n3 : (3 : Int) < (ys.length : Int) := by omega
              have z4 : IntKind.i64.wrap ((x2 : Int) * 256) = (x2 : Int) * 256 := IntWalk.i64_in _ (by omega)
              have z5 : IntKind.i64.wrap (4 + (x2 : Int) * 256) = 4 + (x2 : Int) * 256 := IntWalk.i64_in _ (by omega)
              have z6 : IntKind.i64.wrap (x3 : Int) = (x3 : Int) := IntWalk.i64_in _ (by omega)
              have z7 : IntKind.i64.wrap (4 + (x2 : Int) * 256 + (x3 : Int)) = 4 + (x2 : Int) * 256 + (x3 : Int) := IntWalk.i64_in _ (by omega)
              have E8 : Hid ((4 : Int) + (x2 : Int) * 256 + (x3 : Int) = ((it.bytes a).length : Int)) := Lib.hid (by omega)
              clear h1 h3 h4
              go_upto_region 12 with (fail)
              go_quiet (fail)
              go_wp2_with fail
              go_meet
              exact ⟨by rw [E8.out], below_drewN (Below.refl _ _) _⟩
          case rest =>
            obtain ⟨h8, hb⟩ := hcut
            subst h8
            have PBc := Lib.hid (below_on PB.out hb)
            have POc := Lib.hid (own_below PO.out hb)
            clear hb PO PB y0 y2 HC H0 H2
            go_wp2_with ((with_reducible refine halt_at (X := .slice 38 (.tmp 52) none (some (.tmp 53)) none) ?_ ?_); (· rfl))
            unfold Halt
            refine slc_at rfl 38 (.tmp 52) none (some (.tmp 53)) rfl (V := .slice (sub1 (some ⟨b, off, none⟩) 0 cb) (it.bytes a).length (cb - 0)) (RS1.out _) rfl rfl rfl ?_
            generalize sub1 (some ⟨b, off, none⟩) 0 cb = sp1 at PA2 ⊢
            generalize cb - 0 = cp1 at PA2 ⊢
            go_wp2_with (at_builtin; refine wpList_append_own_at _ rfl _ _ 57 rfl w3.heap.size 38 i0 _ 1 24 Tryd.underlying57 hii hz0 hz1 hz2 rfl (by decide) _ k ps rfl (POc.out.alloc _) ⟨wc.heap.size, 0, none⟩ 1 1 [.slice sp1 (it.bytes a).length cp1] rfl rfl (new_cells wc _ _) one_sl (by have := IL.out; unfold maxLen; omega) (by have := IL.out; omega) (by have := PBc.out.size; simp; omega) ?_)
            intro v7 w7 hown7 hgrow7 _ _
            obtain ⟨s7', c7', hv7, -⟩ := own_form hown7
            subst hv7
            have PO7 := Lib.hid hown7
            have PB7 : Hid (Below w3.heap.size w3 w7) := Lib.hid ((PBc.out.alloc PBc.out.size _).grown hgrow7 (by have := PBc.out.size; simp; omega) (fun k hk => own_form_le POc.out k hk))
            clear hown7 hgrow7 PBc POc
            go_wp2_with ((with_reducible refine halt_at (X := .slice 38 (.tmp 57) (some (.tmp 58)) none none) ?_ ?_); (· rfl))
            unfold Halt
            refine slc_at rfl 38 (.tmp 57) (some (.tmp 58)) none rfl (V := .slice (sub1 (some ⟨b, off, none⟩) (it.bytes a).length cb) (restL a its (k + 1)).length (cb - (it.bytes a).length)) (RS3.out _) rfl rfl rfl ?_
            go_wp2_with fail
            refine ⟨⟨k + 1, _, _, s7', c7', _, KN, Lib.hid (by rw [List.length_append, PL.out]; rfl), rfl, rfl, BN, PA2, PO7, PB7⟩, ?_⟩
            have := LN2.out
            simp [lenOf]
            omega
  · have vn := nok (by rw [h6]; decide)
    subst vn
    rw [h6]
    clear nok OK h6
    go_wp2_with fail
    go_ret
    exact ⟨rfl, B3.out⟩
  · have vn := nok (by rw [h1]; decide)
    subst vn
    rw [h1]
    clear nok OK h1
    go_wp2_with fail
    go_ret
    exact ⟨rfl, B3.out⟩
end Go.Proofs.YtohkbcdnlmjcjaaDoor
