/- Texts of one proof, one behind another. -/
import Derived.Test.YtkoidahgbbabiaaGreatFt9
import Derived.Test.YtkoidahgbbabiaaGreatFt17
import Derived.Test.YtkoidahgbbabiaaGreatFt22
import Derived.Test.YtkoidahgbbabiaaGreatFt20
import Derived.Test.YtkoidahgbbabiaaGreatFt1
namespace Go.Proofs.YtkoidahgbbabiaaGreat
open Go.RowKit
def ofE (ps : List Pf) : Int := if 16384 < ps.length then 3 else if rights ps then (if 4096 < (setOf ps).length then 3 else 0) else 1
def ofL (ps : List Pf) : List Pf := if ofE ps = 0 then setOf ps else []
def OfPost (ps : List Pf) (w : World) (e : Ending) (w' : World) : Prop := ∃ v', e = .returned (.tuple #[.agg #[v'], .int .i64 (ofE ps)]) ∧ OwnPs w' w.heap.size v' (ofL ps) ∧ Below w.heap.size w w'
theorem ofPost_no {ps : List Pf} {w w' : World} (hE : ofE ps ≠ 0) (hb : Below w.heap.size w w') {n : Int} (hn : n = ofE ps) : OfPost ps w (.returned (.tuple #[.agg #[.slice none 0 0], .int .i64 n])) w' :=
 ⟨_, by rw [hn], by unfold ofL; rw [if_neg hE]; exact ownPs_nil _ _, hb⟩
theorem ofE_many {ps : List Pf} (h : 16384 < ps.length) : ofE ps = 3 := by unfold ofE; rw [if_pos h]
theorem ofE_bad {ps : List Pf} {k : Nat} {x : Pf} (h : ¬ 16384 < ps.length) (hx : ps[k]? = some x) (hr : rightB x.1 x.2 = false) : ofE ps = 1 := by
 unfold ofE
 have : rights ps = false := by
  unfold rights
  rw [List.all_eq_false]
  exact ⟨x, List.mem_of_getElem? hx, by rw [hr]; decide⟩
 rw [if_neg h, this]; rfl
set_option maxHeartbeats 6400000 in
set_option maxRecDepth 100000 in
theorem ps_Of (v : Value) (ps : List Pf) (w : World) (h : PsAt w v ps) : Calls Tryz.prog 105 #[v] w (OfPost ps w) := by
 have HA := jh h
 have hlm := ps_len h
 unfold maxLen at hlm
 by_cases hmany : 16384 < ps.length
 ·have HP : Hid (∀ w', Below w.heap.size w w' → OfPost ps w (.returned (.tuple #[.agg #[.slice none 0 0], .int .i64 3])) w') := jh fun w' hb => ofPost_no (by rw [ofE_many hmany]; decide) hb (ofE_many hmany).symm
  have j0 : decide ((ps.length : Int) > 16384) = true := by simp; omega
  obtain ⟨sa, cap, rfl, -⟩ := h
  clear hmany
  go_enter Tryz.func105, Tryz.ntmps105
  go_wp2_with fail
  refine bodyPost_ret (v := .tuple #[.agg #[.slice none 0 0], .int .i64 3]) (by simp [results, Tryz.results105, go_sem]) rfl (HP.out _ ((Below.refl _ _).alloc (Nat.le_refl _) _))
 ·have j0 : decide ((ps.length : Int) > 16384) = false := by simp; omega
  have HM := jh hmany
  obtain ⟨sa, cap, rfl, hlc, hcm, hV⟩ := h
  have HV := jh hV
  clear hV hmany
  go_enter Tryz.func105, Tryz.ntmps105
  go_upto_region 3 with (fail)
  obtain ⟨W0, hW0, r0, f0, hB, -⟩ := box1c w (.slice none 0 0) 113
  rw [← hW0]
  clear hW0 j0
  have R0 := jh r0
  have F0 := jh f0
  have HB := jh hB
  clear r0 f0 hB
  go_wp2_with fail
  go_loopw [14] (fun k14 wr => ∃ k : Nat, k ≤ ps.length ∧ k14 = .int .i64 k ∧ Hid (AllR ps k) ∧ Hid (Below W0.heap.size W0 wr)) (fun k14 _ => ps.length - (intOf k14).toNat)
  case atStart => exact ⟨0, by omega, rfl, jh (fun i x hi => by omega), jh (Below.refl _ _)⟩
  case round =>
   obtain ⟨k, hk, rfl, AR, B⟩ := hrel
   by_cases hlt : k < ps.length
   ·obtain ⟨x, hx⟩ : ∃ x, ps[k]? = some x := ⟨_, List.getElem?_eq_getElem hlt⟩
    obtain ⟨bb, off, hsa, hP⟩ := HV.out (by omega)
    subst hsa
    obtain ⟨x0, x1⟩ := ps_two hP hx
    have x0 := (B.out.cell (jH (jA x0 HB.out))).trans (jA x0 HB.out)
    have x1 := (B.out.cell (jH (jA x1 HB.out))).trans (jA x1 HB.out)
    have i0 : (0 : Int) ≤ (k : Int) := by omega
    have i1 : (k : Int) < (ps.length : Int) := by omega
    have HX := jh hx
    have OX := jh (ps_ok HA.out x (List.mem_of_getElem? hx))
    clear hP hx
    go_upto_region 6 with (fail)
    obtain ⟨W1, hW1, y0, y1, hB1⟩ := box2 wr (.int .u32 x.1) (.int .i64 x.2) 53
    rw [← hW1]
    clear hW1 x0 x1
    have CK := jh (ip_Check x.1 x.2 W1 OX.out.1 OX.out.2)
    cases hR : rightB x.1 x.2
    ·have HP : Hid (∀ w', Below w.heap.size w w' → OfPost ps w (.returned (.tuple #[.agg #[.slice none 0 0], .int .i64 1])) w') := jh fun w' hb => ofPost_no (by rw [ofE_bad HM.out HX.out hR]; decide) hb (ofE_bad HM.out HX.out hR).symm
     have CK1 : Hid (Calls Tryz.prog 21 #[.agg #[.int .u32 x.1, .int .i64 x.2]] W1 fun e w' => e = .returned (.int .i64 1) ∧ Below W1.heap.size W1 w') := jh (by have := CK.out; rw [hR] at this; exact this)
     have B2 := jh (jC B.out hB1)
     clear CK hR
     go_wp2_with fail
     refine CK1.out.mono ?_
     rintro e w2 ⟨rfl, hb2⟩
     have B3 := jh (jC B2.out hb2)
     have r0 := jA R0.out B3.out
     have f0 := frozen_below (jH R0.out) F0.out B3.out
     clear hb2 y0 y1 hB1
     go_wp2_with fail
     refine bodyPost_ret (v := .tuple #[.agg #[.slice none 0 0], .int .i64 1]) (by simp [results, Tryz.results105, go_sem, r0]) rfl (HP.out _ ((jC HB.out B3.out).setCell (Nat.le_refl _) _))
    ·have CK1 : Hid (Calls Tryz.prog 21 #[.agg #[.int .u32 x.1, .int .i64 x.2]] W1 fun e w' => e = .returned (.int .i64 0) ∧ Below W1.heap.size W1 w') := jh (by have := CK.out; rw [hR] at this; exact this)
     have AR2 := jh (allR_step AR.out HX.out hR)
     have B2 := jh (jC B.out hB1)
     clear CK hR
     go_wp2_with fail
     refine CK1.out.mono ?_
     rintro e w2 ⟨rfl, hb2⟩
     have B3 := jh (jC B2.out hb2)
     clear hb2 y0 y1 hB1
     go_wp2_with fail
     exact ⟨⟨k + 1, by omega, by go_num, AR2, B3⟩, by simp [intOf]; omega⟩
   ·obtain rfl : k = ps.length := by omega
    have RT := jh (allR_all AR.out)
    have BW := jh (jC HB.out B.out)
    have CL := jh (ps_Clone (.slice sa ps.length cap) ps wr (HA.out.below BW.out) (by have := HM.out; omega))
    have r0 := jh (jA R0.out B.out)
    have f0 := jh (frozen_below (jH R0.out) F0.out B.out)
    clear HV AR
    go_wp2_with fail
    refine CL.out.mono ?_
    rintro e w2 ⟨v2, rfl, o2, hb2⟩
    have O2 := jh o2
    have B2 := jh (jC BW.out hb2)
    have r2 := jh (jA r0.out hb2)
    have f2 := jh (frozen_below (jH r0.out) f0.out hb2)
    have WS := jh (Nat.lt_of_lt_of_le (jH R0.out) B.out.size)
    have OW : Hid (∀ b, v2.ownBlock = some b → wr.heap.size ≤ b) := jh (jJ o2.1)
    clear o2 hb2 r0 f0 CL
    have ST := jh (ps_Sort wr.heap.size v2 ps w2 O2.out (by have := HM.out; omega))
    go_wp2_with fail
    refine ST.out.mono ?_
    rintro e w3 ⟨ys, rfl, hyl, hym, hys, o3, k3⟩
    have O3 := jh o3
    have K3 := jh k3
    have YS : Hid (ys.length = ps.length ∧ setOf ps = comp ys) := jh ⟨hyl, setOf_is (comp_srt hys).1 fun p => ((comp_srt hys).2 p).trans (hym p)⟩
    clear hyl hym hys o3 k3 ST
    have CP := jh (ps_Compact wr.heap.size v2 ys w3 O3.out (by rw [YS.out.1]; have := HM.out; omega))
    go_wp2_with fail
    refine CP.out.mono ?_
    rintro e w4 ⟨v4, rfl, o4, k4⟩
    have O4 := jh o4
    have B4 : Hid (Below w.heap.size w w4) := jh (Kept.below (B := w.heap.size) ((Kept.of_below B2.out).trans (K3.out.trans k4)) (Nat.le_refl _) (fun b hb => Nat.le_trans BW.out.size (OW.out b hb)))
    have r4 := jh (k4.cell (K3.out.cell r2.out (fun h => by have h1 := OW.out _ h; have h2 := WS.out; simp only at h1; omega)) (fun h => by have h1 := OW.out _ h; have h2 := WS.out; simp only at h1; omega))
    have f4 : Hid (w4.frozen? ⟨w.heap.size, 0, none⟩ = false) := jh (by
     have hne : ¬ v2.ownBlock = some w.heap.size := fun h => by have := OW.out _ h; have := WS.out; omega
     exact (World.frozen?_of_block (w := w3) (k4.block w.heap.size (jH (K3.out.cell r2.out hne)) hne)).trans ((World.frozen?_of_block (w := w2) (K3.out.block w.heap.size (jH r2.out) hne)).trans f2.out))
    have LS : Hid ((comp ys).length = (setOf ps).length) := jh (by rw [YS.out.2])
    have O5 : Hid (OwnPs w4 wr.heap.size v4 (setOf ps)) := jh (by rw [YS.out.2]; exact o4)
    clear o4 k4 CP O2 B2 r2 f2 O3 K3
    have hlm2 : (comp ys).length ≤ 16384 := by rw [LS.out]; exact Nat.le_trans (setOf_len ps) (by have := HM.out; omega)
    by_cases hL : 4096 < (comp ys).length
    ·have EE : Hid (ofE ps = 3) := jh (by unfold ofE; rw [if_neg HM.out, if_pos RT.out, if_pos (by rw [← LS.out]; exact hL)])
     have HP : Hid (∀ w', Below w.heap.size w w' → OfPost ps w (.returned (.tuple #[.agg #[.slice none 0 0], .int .i64 3])) w') := jh fun w' hb => ofPost_no (by rw [EE.out]; decide) hb EE.out.symm
     have j1 : decide (((comp ys).length : Int) > 4096) = true := by simp; omega
     have r5 := r4.out
     have f5 := f4.out
     rcases own_slice O4.out.1 with ⟨rfl, h0⟩ | ⟨g, c, rfl⟩
     ·omega
     ·go_wp2_with fail
      refine bodyPost_ret (v := .tuple #[.agg #[.slice none 0 0], .int .i64 3]) (by simp [results, Tryz.results105, go_sem, r5]) rfl (HP.out _ (B4.out.setCell (Nat.le_refl _) _))
    ·have EE : Hid (ofE ps = 0) := jh (by unfold ofE; rw [if_neg HM.out, if_pos RT.out, if_neg (by rw [← LS.out]; exact hL)])
     have OO : Hid (ofL ps = setOf ps) := jh (by unfold ofL; rw [if_pos EE.out])
     have j1 : decide (((comp ys).length : Int) > 4096) = false := by simp; omega
     have r5 := r4.out
     have f5 := f4.out
     rcases own_slice O4.out.1 with ⟨rfl, h0⟩ | ⟨g, c, rfl⟩
     ·have j2 : decide ((0 : Int) > 4096) = false := by decide
      go_wp2_with fail
      refine bodyPost_ret (v := .tuple #[.agg #[.slice none 0 0], .int .i64 0]) (by simp [results, Tryz.results105, go_sem, r5]) rfl ⟨_, by rw [EE.out], by rw [OO.out]; exact O5.out.setElder WS.out BW.out.size _, B4.out.setCell (Nat.le_refl _) _⟩
     ·go_wp2_with fail
      refine bodyPost_ret (v := .tuple #[.agg #[.slice (some ⟨g, 0, none⟩) (comp ys).length c], .int .i64 0]) (by simp [results, Tryz.results105, go_sem, r5]) rfl ⟨_, by rw [EE.out], by rw [OO.out]; exact O5.out.setElder WS.out BW.out.size _, B4.out.setCell (Nat.le_refl _) _⟩
open Go.RowKit Go.Maps Go.ChangeMaps Go.MapKept
section
variable {κ υ : Type} [DecidableEq κ] {P : Program} {kt et t : TypeId} {ek : κ → Value} {ev : υ → Value} {ok : κ → Prop} {W W' : World} {b : Nat} {l : List (κ × υ)}
def StampAt (ek : κ → Value) (W : World) (b : Nat) (a : κ) (s : Nat) : Prop := ∃ es clock, W.heap[b]? = some (.map es clock) ∧ ∃ e ∈ es.toList, e.born = s ∧ e.key = ek a
theorem putL_twice (l : List (κ × υ)) (a : κ) (v w : υ) : putL (putL l a v) a w = putL l a w := by
 have h : (getL (putL l a v) a).isSome = true := by rw [getL_put, if_pos rfl]; rfl
 unfold putL at h ⊢
 rw [if_pos h]
 split
 ·rename_i h1
  rw [List.map_map]
  refine List.map_congr_left fun p _ => ?_
  simp only [Function.comp]
  by_cases hp : p.1 = a <;> simp [hp]
 ·rename_i h1
  have hn : getL l a = none := by cases hg : getL l a with
   | none => rfl
   | some x => rw [hg] at h1; exact absurd rfl h1
  rw [List.map_append]
  congr 1
  ·have : l.map (fun p => if p.1 = a then (a, w) else p) = l := by
    have e : ∀ p ∈ l, (fun p : κ × υ => if p.1 = a then (a, w) else p) p = id p := fun p hp => if_neg (getL_none.1 hn p hp)
    rw [List.map_congr_left e, List.map_id]
   exact this
  ·simp
theorem putL_same {l : List (κ × υ)} {a : κ} {v : υ} (hd : KeysApart l) (h : getL l a = some v) : putL l a v = l := by
 unfold putL
 have e : ∀ p ∈ l, (fun p : κ × υ => if p.1 = a then (a, v) else p) p = id p := by
  intro p hp
  by_cases e : p.1 = a
  ·have := getL_of_mem hd (a := p.1) (v := p.2) hp
   rw [e, h] at this
   injection this with this
   show (if p.1 = a then (a, v) else p) = p
   rw [if_pos e, this, ← e]
  ·exact if_neg e
 rw [h, if_pos (by rfl : (some v).isSome = true), List.map_congr_left e, List.map_id]
theorem MapT.entry (E : KeyEnc P kt ek ok) (h : MapT ek ev ok W b l) (ht : P.underlying t = some (.map kt et)) (a : κ) (ha : ok a) (z : υ) (hz : ∀ w, (zeroValue et).run P w = .ok (ev z) w) (hroom : l.length < maxLen) (w : World) (hw : w.heap[b]? = W.heap[b]?) :
  ∃ (o : Obj) (s : Nat), (Instr.mapEntry t (.map (some b)) (ek a)).run P w = .ok (.tuple #[ev ((getL l a).getD z), goInt (s : Int)]) (setBlock w b o) ∧ MapT ek ev ok (setBlock w b o) b (putL l a ((getL l a).getD z)) ∧ StampAt ek (setBlock w b o) b a s := by
 have hd := h.apart
 obtain ⟨es, ck, hb, hst, hsz, hl, hok⟩ := h
 rw [← hw] at hb
 obtain ⟨x, hx⟩ := E.lit a ha
 have hlen := congrArg List.length hl
 simp at hlen
 rcases find_at E hl hok hd a ha w with ⟨h1, h2, h3⟩ | ⟨v0, j, e, h1, h2, h3, h4, h5, h6⟩
 ·rw [h1]
  have hpok : ∀ p ∈ putL l a z, ok p.1 := by
   intro p hp
   rcases mem_put hp with ⟨hp, _⟩ | rfl
   ·exact hok p hp
   ·exact ha
  refine ⟨.map (es.push ⟨ek a, ev z, ck⟩) (ck + 1), ck, ?_, ⟨_, _, heap_setBlock_same hb _, stamped_push hst h3, by simp; omega, ?_, hpok⟩, ⟨_, _, heap_setBlock_same hb _, ⟨ek a, ev z, ck⟩, by simp, rfl, rfl⟩⟩
  ·unfold Instr.mapEntry
   simp [run_underlying ht, MapKept.run_getObj_map hb, E.K.check w _ hx, h2, hz, MapKept.run_setObj_map _ hb, Result.andThen, setBlock]
  ·unfold putL; rw [h1]; simp [hl]
 ·rw [h1]
  have hj : es[j]? = some e := by simpa using h3
  have hsame : es.modify j (fun e' => { e' with key := ek a }) = es := by
   apply Array.toList_inj.1
   rw [Array.toList_modify, modify_eq_set _ _ _ _ h3]
   apply List.ext_getElem?
   intro i
   rw [List.getElem?_set]
   by_cases hij : j = i
   ·subst hij
    have hlt := (List.getElem?_eq_some_iff.1 h3).1
    rw [if_pos rfl, if_pos hlt, h3]
    congr 1
    cases e
    simp at h4
    simp [h4]
   ·rw [if_neg hij]
  refine ⟨.map es ck, e.born, ?_, ⟨_, _, heap_setBlock_same hb _, hst, hsz, ?_, ?_⟩, ⟨_, _, heap_setBlock_same hb _, e, List.mem_of_getElem? h3, rfl, h4⟩⟩
  ·unfold Instr.mapEntry
   have hcl : ∀ q : Value, (Instr.keyThatStays q q).run P w = .ok q w → True := fun _ _ => trivial
   simp [run_underlying ht, MapKept.run_getObj_map hb, E.K.check w _ hx, h2, hj, h4, E.K.stays w hx, MapKept.run_setObj_map _ hb, Result.andThen, setBlock, hsame, h5]
  ·show _ = (putL l a v0).map _
   rw [putL_same hd h1]; exact hl
  ·intro p hp
   have : p ∈ putL l a v0 := hp
   rw [putL_same hd h1] at this
   exact hok p this
theorem MapT.entryStore (h : MapT ek ev ok W b l) (inj : ∀ a b, ek a = ek b → a = b) (a : κ) (s : Nat) (hs : StampAt ek W b a s) (v : υ) (w : World) (hw : w.heap[b]? = W.heap[b]?) :
  ∃ o, (Instr.entryStore t (.map (some b)) (goInt s) (ev v)).run P w = .ok () (setBlock w b o) ∧ MapT ek ev ok (setBlock w b o) b (putL l a v) := by
 have hd := h.apart
 obtain ⟨es, ck, hb, hst, hsz, hl, hok⟩ := h
 obtain ⟨es', ck', hb', e, he, hes, hek⟩ := hs
 rw [hb] at hb'
 injection hb' with hb'
 injection hb' with e1 e2
 subst e1; subst e2
 rw [← hw] at hb
 obtain ⟨j, hj⟩ := List.getElem?_of_mem he
 have hja : es[j]? = some e := by simpa using hj
 have hborn := ((stamped_iff es ck).1 hst).2.1
 have hlj : ∃ v0, l[j]? = some (a, v0) := by
  have hq : (es.toList.map (fun e => (e.key, e.val)))[j]? = some (e.key, e.val) := by rw [List.getElem?_map, hj]; rfl
  rw [hl, List.getElem?_map] at hq
  cases hp : l[j]? with
  | none => rw [hp] at hq; cases hq
  | some p =>
   rw [hp] at hq; simp at hq
   have := inj _ _ (hq.1.trans hek)
   exact ⟨p.2, by rw [← this]⟩
 obtain ⟨v0, hv0⟩ := hlj
 have hga : getL l a = some v0 := getL_of_mem hd (List.mem_of_getElem? hv0)
 have hfind : es.findIdx? (fun x => (x.born : Int) == (s : Int)) = some j := by
  have hjl : j < es.size := (Array.getElem?_eq_some_iff.1 hja).1
  have hje : es[j] = e := (Array.getElem?_eq_some_iff.1 hja).2
  rw [Array.findIdx?_eq_some_iff_getElem]
  refine ⟨hjl, by rw [hje, hes]; simp, fun i hi => ?_⟩
  have hil : i < es.size := by omega
  intro hc
  have hbi0 : ((es[i]'hil).born : Int) = (s : Int) := by simpa using hc
  have hbi : (es[i]'hil).born = s := Int.ofNat_inj.mp hbi0
  have hpw := List.pairwise_iff_getElem.1 hborn i j (by simpa using hil) (by simpa using hjl) hi
  simp only [List.getElem_map, Array.getElem_toList] at hpw
  exact hpw (by rw [hbi, hje, hes])
 refine ⟨.map (es.modify j fun e' => { e' with val := ev v }) ck, ?_, ⟨_, _, heap_setBlock_same hb _, stamped_modify hst _ _ (fun _ _ => rfl) (fun _ _ _ => rfl), by simpa using hsz, ?_, ?_⟩⟩
 ·have hai : (asInt (goInt (s : Int))).run P w = .ok (s : Int) w := rfl
  unfold Instr.entryStore
  simp [MapKept.run_getObj_map hb, hai, hfind, MapKept.run_setObj_map _ hb, Result.andThen, setBlock]
 ·rw [Array.toList_modify, modify_eq_set _ _ _ _ hj, List.map_set, hl]
  unfold putL
  rw [hga, if_pos (by rfl : (some v0).isSome = true), List.map_map]
  apply List.ext_getElem?
  intro i
  rw [List.getElem?_set, List.getElem?_map, List.getElem?_map]
  by_cases hij : j = i
  ·subst hij
   have hjl : j < l.length := (List.getElem?_eq_some_iff.1 hv0).1
   rw [if_pos rfl, hv0]
   simp [hjl, hek]
  ·rw [if_neg hij]
   cases hi : l[i]? with
   | none => simp
   | some p =>
    have : p.1 ≠ a := by
     intro e1
     have hpw := List.pairwise_iff_getElem.1 hd
     obtain ⟨hjl, hje⟩ := List.getElem?_eq_some_iff.1 hv0
     obtain ⟨hil, hie⟩ := List.getElem?_eq_some_iff.1 hi
     rcases Nat.lt_or_gt_of_ne hij with hlt | hgt
     ·exact hpw j i hjl hil hlt (by rw [hje, hie, e1])
     ·exact hpw i j hil hjl hgt (by rw [hje, hie, e1])
    simp [this]
 ·intro p hp
  rcases mem_put hp with ⟨hp, _⟩ | rfl
  ·exact hok p hp
  ·exact hok (a, v0) (List.mem_of_getElem? hv0)
end
section
variable {P : Program} {o : Oper} {a : Act} {w w' : World} {K : Act → World → Prop} {Q : Exit → Act → World → Prop}
end
open Go.RowKit
def psOf (kf : Pf → Ky) (k : Ky) (l : List Pf) : List Pf := l.filter fun p => decide (kf p = k)
theorem psOf_snoc_same {kf : Pf → Ky} (l : List Pf) (p : Pf) : psOf kf (kf p) (l ++ [p]) = psOf kf (kf p) l ++ [p] := by unfold psOf; rw [List.filter_append]; simp
theorem psOf_snoc_other {kf : Pf → Ky} {k : Ky} (l : List Pf) {p : Pf} (h : kf p ≠ k) : psOf kf k (l ++ [p]) = psOf kf k l := by unfold psOf; rw [List.filter_append]; simp [h]
theorem psOf_mem {kf : Pf → Ky} {k : Ky} {l : List Pf} {p : Pf} : p ∈ psOf kf k l ↔ p ∈ l ∧ kf p = k := by unfold psOf; simp
theorem psOf_len (kf : Pf → Ky) (k : Ky) (l : List Pf) : (psOf kf k l).length ≤ l.length := List.length_filter_le _ _
theorem psOf_srt {kf : Pf → Ky} {k : Ky} {l : List Pf} (h : Srt l) : Srt (psOf kf k l) := List.Pairwise.filter _ h
theorem ofE_right {ps : List Pf} (h : ps.length ≤ 4096) (hr : ∀ p ∈ ps, RgtP p) (hs : Srt ps) : ofE ps = 0 ∧ ofL ps = ps := by
 have e : setOf ps = ps := srt_ext (setOf_srt ps).1 hs (setOf_srt ps).2
 have h1 : rights ps = true := by
  unfold rights
  rw [List.all_eq_true]
  exact fun p hp => (hr p hp).2
 have h2 : ofE ps = 0 := by
  unfold ofE
  rw [if_neg (by omega), h1, if_pos rfl, e, if_neg (by omega)]
 exact ⟨h2, by unfold ofL; rw [if_pos h2, e]⟩
def KyOk (k : Ky) : Prop := I64r k.from_ ∧ I64r k.best ∧ I64r k.may
theorem ky_lit (k : Ky) (h : KyOk k) : ∃ l, keyOf Tryz.prog 102 (kyV k) = some l := by
 refine ⟨.string (keyBytes [.int .i64 k.from_, .int .i64 k.best, .int .i64 k.may]), ?_⟩
 obtain ⟨m, hsz⟩ : ∃ m, Tryz.prog.types.size = m + 1 := ⟨Tryz.prog.types.size - 1, by kernel_rfl⟩
 have hkt : Tryz.prog.keyType 102 = true := by kernel_rfl
 have hc : Tryz.prog.cellsOf 102 = 3 := by kernel_rfl
 have h1 : Tryz.prog.cellsOf 3 = 1 := by kernel_rfl
 unfold keyOf
 simp only [Tryz.underlying102]
 rw [if_pos (by simp [hkt, Value.formed, Tryz.underlying102, hc]), hsz]
 unfold Program.keyLits
 simp only [Tryz.underlying102, Value.cells]
 rw [if_pos (by rw [hc]; exact ⟨rfl, by kernel_rfl⟩)]
 have hn : ∀ n : Int, I64r n → Tryz.prog.keyLits (m + 1) 3 [.int .i64 n] = some [.int .i64 n] := fun n hn => by
  unfold I64r at hn
  unfold Program.keyLits; simp [Tryz.underlying3, WalkArith.wf_i64 (show _ by omega)]
 simp only [h1, List.mapM_cons, List.mapM_nil, List.drop_zero, List.drop_succ_cons, List.take_succ_cons, List.take_zero, hn _ h.1, hn _ h.2.1, hn _ h.2.2]
 rfl
theorem ky_enc : KeyEnc Tryz.prog 102 kyV KyOk where
 K := Maps.Keyed.of_law (deep_law_laid (by kernel_rfl) (m := 3) (by decide) (of_decide_eq_true (by kernel_rfl)) (by kernel_rfl) (by kernel_rfl))
 lit := ky_lit
 inj a b h := by
  obtain ⟨a1, a2, a3⟩ := a
  obtain ⟨b1, b2, b3⟩ := b
  simp at h
  obtain ⟨h1, h2, h3⟩ := h
  rw [h1, h2, h3]
theorem zero_pfs : ∀ w, (zeroValue 23).run Tryz.prog w = .ok (.slice none 0 0) w := fun w => by kernel_rfl
abbrev idV (v : Value) : Value := v
abbrev KMap (w : World) (mb : Nat) (M : List (Ky × Value)) : Prop := MapT kyV idV KyOk w mb M
def kyL (k : Ky) : List Value := (kyC k).toList
theorem kyL_len (k : Ky) : (kyL k).length = 3 := rfl
theorem kyL_one (k : Ky) : ∀ u ∈ kyL k, u.oneCell' = true := by
 intro u hu
 simp [kyL] at hu
 rcases hu with rfl | rfl | rfl <;> rfl
abbrev nilS : Value := .slice none 0 0
structure GrK (kf : Pf → Ky) (done : List Pf) (M : List (Ky × Value)) (w : World) (B : Nat) : Prop where
 own : ∀ x ∈ M, w.ownsRow B 53 2 x.2 (psOf kf x.1 done).length ((psOf kf x.1 done).flatMap encP)
 sep : ∀ x ∈ M, ∀ y ∈ M, x.1 ≠ y.1 → ∀ b, x.2.ownBlock = some b → y.2.ownBlock ≠ some b
 cov : ∀ p ∈ done, kf p ∈ M.map (·.1)
 non : ∀ x ∈ M, psOf kf x.1 done ≠ []
 short : M.length ≤ done.length
 oks : ∀ x ∈ M, KyOk x.1
theorem own_kindsK {w : World} {B B' k k' n n' : Nat} {e e' : TypeId} {v v' : Value} {xs xs' : List Value} (h : w.ownsRow B e k v n xs) (h' : w.ownsRow B' e' k' v' n' xs') (hne : e ≠ e') : ∀ b, v.ownBlock = some b → v'.ownBlock ≠ some b := by
 obtain ⟨_, ⟨rfl, _⟩ | ⟨g, cap, cur, rfl, hB, hg, _⟩⟩ := h
 ·intro b hb; cases hb
 ·obtain ⟨_, ⟨rfl, _⟩ | ⟨g', cap', cur', rfl, hB', hg', _⟩⟩ := h'
  ·intro b _ hb; cases hb
  ·intro b h1 h2
   injection h1 with h1
   injection h2 with h2
   simp only at h1 h2
   rw [h1] at hg
   rw [h2] at hg'
   rw [hg] at hg'
   injection hg' with hg'
   injection hg' with _ hg' _
   exact hne hg'
theorem own_ne_mapK {κ υ : Type} {ek : κ → Value} {ev : υ → Value} {ok : κ → Prop} {W : World} {B k n : Nat} {e : TypeId} {v : Value} {xs : List Value} {b : Nat} {l : List (κ × υ)} (h : W.ownsRow B e k v n xs) (hm : MapT ek ev ok W b l) : v.ownBlock ≠ some b := by
 obtain ⟨_, ⟨rfl, _⟩ | ⟨g, cap, cur, rfl, hB, hg, _⟩⟩ := h
 ·intro e; cases e
 ·intro e
  injection e with e
  simp only at e
  obtain ⟨es, ck, hb, -⟩ := hm
  rw [e, hb] at hg
  cases hg
section
variable {kf : Pf → Ky} {done : List Pf} {M : List (Ky × Value)} {w w1 w2 : World} {B mb : Nat}
theorem GrK.nil (w : World) (B : Nat) : GrK kf [] [] w B := ⟨fun x h => (by cases h), fun x h => (by cases h), fun x h => (by cases h), fun x h => (by cases h), Nat.le_refl _, fun x h => by cases h⟩
theorem GrK.below (h : GrK kf done M w B) (hb : Below w.heap.size w w1) : GrK kf done M w1 B := ⟨fun x hx => jQ (h.own x hx) hb, h.sep, h.cov, h.non, h.short, h.oks⟩
theorem GrK.kept {F : Nat → Prop} (h : GrK kf done M w B) (hk : Kept F w w1) (hF : ∀ x ∈ M, ∀ b, x.2.ownBlock = some b → ¬ F b) : GrK kf done M w1 B :=
 ⟨fun x hx => ((own_on (h.own x hx)).kept hk fun b _ hb => hF x hx b hb).self, h.sep, h.cov, h.non, h.short, h.oks⟩
theorem GrK.mapKept {M' : List (Ky × Value)} (h : GrK kf done M w B) (hm : KMap w mb M') (hk : Kept (fun b => b = mb) w w1) : GrK kf done M w1 B :=
 h.kept hk fun x hx b hb e => own_ne_mapK (h.own x hx) hm (by rw [hb, e])
theorem GrK.at (h : GrK kf done M w B) (k : Ky) : w.ownsRow B 53 2 ((getL M k).getD nilS) (psOf kf k done).length ((psOf kf k done).flatMap encP) := by
 cases hg : getL M k with
 | some v => exact h.own (k, v) (getL_mem hg)
 | none =>
  have e : psOf kf k done = [] := by
   rw [List.eq_nil_iff_forall_not_mem]
   intro p hp
   obtain ⟨h1, h2⟩ := psOf_mem.1 hp
   obtain ⟨x, hx, e⟩ := List.mem_map.1 (h.cov p h1)
   exact getL_none.1 hg x hx (e.trans h2)
  rw [e]
  exact ⟨rfl, .inl ⟨rfl, rfl⟩⟩
theorem GrK.put (h : GrK kf done M w B) (hap : KeysApart M) {p : Pf} {v' : Value} (ho : w1.ownsRow B 53 2 v' ((psOf kf (kf p) done).length + 1) ((psOf kf (kf p) done).flatMap encP ++ encP p)) (hk : Kept (fun b => ((getL M (kf p)).getD nilS).ownBlock = some b) w w1)
  (hat : v'.ownBlock = ((getL M (kf p)).getD nilS).ownBlock ∨ ∃ b, v'.ownBlock = some b ∧ w.heap.size ≤ b) (hok : KyOk (kf p)) : GrK kf (done ++ [p]) (putL M (kf p) v') w1 B := by
 have hv0 : ∀ x ∈ M, x.1 ≠ kf p → ∀ b, x.2.ownBlock = some b → ((getL M (kf p)).getD nilS).ownBlock ≠ some b := by
  intro x hx hne b hb
  cases hg : getL M (kf p) with
  | none => intro e; cases e
  | some v => exact h.sep x hx (kf p, v) (getL_mem hg) hne b hb
 have olt : ∀ x ∈ M, ∀ b, x.2.ownBlock = some b → b < w.heap.size := fun x hx b hb => by
  obtain ⟨_, ⟨e, _⟩ | ⟨g, cap, cur, e, _, hg, _⟩⟩ := h.own x hx
  ·rw [e] at hb; cases hb
  ·rw [e] at hb
   injection hb with hb
   simp only at hb
   rw [← hb]
   exact jE hg
 have hne' : ∀ x ∈ M, x.1 ≠ kf p → ∀ b, x.2.ownBlock = some b → v'.ownBlock ≠ some b := by
  intro x hx hne b hb e
  rcases hat with h1 | ⟨c, h1, h2⟩
  ·exact hv0 x hx hne b hb (h1.symm.trans e)
  ·rw [h1] at e; injection e with e
   have := olt x hx b hb; omega
 refine ⟨fun x hx => ?_, fun x hx y hy hne b hb => ?_, fun q hq => ?_, fun x hx => ?_, ?_, fun x hx => ?_⟩
 ·rcases mem_put hx with ⟨h1, h2⟩ | rfl
  ·rw [psOf_snoc_other done (fun e => h2 e.symm)]
   exact ((own_on (h.own x h1)).kept hk fun b _ hb e => hv0 x h1 h2 b hb e).self
  ·show w1.ownsRow B 53 2 v' (psOf kf (kf p) (done ++ [p])).length _
   rw [psOf_snoc_same, List.length_append, List.flatMap_append]
   simpa using ho
 ·rcases mem_put hx with ⟨h1, h2⟩ | rfl
  ·rcases mem_put hy with ⟨h3, h4⟩ | rfl
   ·exact h.sep x h1 y h3 hne b hb
   ·exact hne' x h1 h2 b hb
  ·rcases mem_put hy with ⟨h3, h4⟩ | rfl
   ·exact fun e => hne' y h3 h4 b e hb
   ·exact absurd rfl hne
 ·have hk' : ∀ k, k ∈ M.map (·.1) → k ∈ (putL M (kf p) v').map (·.1) := by
   intro k hk'
   obtain ⟨x, hx, rfl⟩ := List.mem_map.1 hk'
   have : getL (putL M (kf p) v') x.1 ≠ none := by
    rw [getL_put]
    split
    ·simp
    ·rw [getL_of_mem hap (a := x.1) (v := x.2) hx]; simp
   cases hg : getL (putL M (kf p) v') x.1 with
   | none => exact absurd hg this
   | some u => exact List.mem_map.2 ⟨_, getL_mem hg, rfl⟩
  rcases List.mem_append.1 hq with hq | hq
  ·exact hk' _ (h.cov q hq)
  ·rw [List.mem_singleton] at hq
   subst hq
   have : getL (putL M (kf q) v') (kf q) = some v' := by rw [getL_put, if_pos rfl]
   exact List.mem_map.2 ⟨_, getL_mem this, rfl⟩
 ·rcases mem_put hx with ⟨h1, h2⟩ | rfl
  ·rw [psOf_snoc_other done (fun e => h2 e.symm)]
   exact h.non x h1
  ·show psOf kf (kf p) (done ++ [p]) ≠ []
   rw [psOf_snoc_same]; simp
 ·rw [len_put, List.length_append]
  have := h.short
  split
  ·simp; omega
  ·simp; omega
 ·rcases mem_put hx with ⟨h1, -⟩ | rfl
  ·exact h.oks x h1
  ·exact hok
theorem keys_put {k : Ky} {v' : Value} : (putL M k v').map (·.1) = if (getL M k).isSome then M.map (·.1) else M.map (·.1) ++ [k] := by
 unfold putL
 split
 ·rename_i hs
  rw [List.map_map]
  refine List.map_congr_left fun x _ => ?_
  simp only [Function.comp]
  split
  ·rename_i e; exact e.symm
  ·rfl
 ·simp
end
open Go.RowKit
instance (x y : Ky) : Decidable (klt x y) := by unfold klt; infer_instance
theorem ltOf_ky (x y : Ky) : Go.Proofs.ltOf kcmp x y = decide (klt x y) := by
 unfold Go.Proofs.ltOf
 by_cases h : klt x y
 ·simp [h, kcmp_lt.2 h]
 ·have h2 : ¬ kcmp x y < 0 := fun k => h (kcmp_lt.1 k)
  simp [h, h2]
theorem swo_ky : Sort.SWO (Go.Proofs.ltOf kcmp) where
 irrefl x := by rw [ltOf_ky]; simpa using klt_irrefl x
 trans x y z h1 h2 := by
  rw [ltOf_ky] at *
  simp only [decide_eq_true_eq] at *
  exact klt_trans h1 h2
 ntrans x y z h1 h2 := by
  rw [ltOf_ky] at *
  simp only [decide_eq_false_iff_not] at *
  unfold klt at *; omega
theorem cmp_laysK (blk off size : Nat) (w : World) : CmpLays Tryz.prog 50 #[] kyL 3 kcmp blk off size w := by
 intro m os dk _ x y
 exact (fk_Cmp x y _).mono fun e w' ⟨he, hd⟩ => ⟨he, hd.grow⟩
theorem flatK_ky (xs : List Ky) : Sort.flatK kyL 3 xs.toArray = (xs.flatMap kyL).toArray := by
 apply Sort.ext_get!
 ·rw [Sort.size_flatK]
  simp [jX kyL_len]
 ·intro t ht
  rw [Sort.size_flatK] at ht
  have ht' : t < xs.length * 3 := by simpa using ht
  rw [Sort.get_flatK _ _ _ _ ht]
  have hi : t / 3 < xs.length := by omega
  have hf := flat_get kyL_len xs (t / 3) _ (List.getElem?_eq_getElem hi) (t % 3) (by omega)
  rw [show t / 3 * 3 + t % 3 = t by omega] at hf
  have h1 : xs.toArray[t / 3]! = xs[t / 3] := by simp [hi]
  rw [h1]
  have hl : (xs.flatMap kyL).length = xs.length * 3 := jX kyL_len xs
  have hm : t % 3 < (kyL xs[t / 3]).length := by rw [kyL_len]; omega
  rw [List.getElem?_eq_getElem hm, List.getElem?_eq_getElem (by rw [hl]; exact ht')] at hf
  have hf := Option.some.inj hf
  rw [getElem!_pos (xs.flatMap kyL).toArray t (by simpa [hl] using ht'), getElem!_pos (kyL xs[t / 3]) (t % 3) hm]
  simpa using hf.symm
theorem isAgg_ky : ∀ w, (isAgg 102).run Tryz.prog w = .ok true w := Tryz.isAgg102
theorem sizeOf_ky : ∀ w, (Go.sizeOf 102).run Tryz.prog w = .ok 3 w := Tryz.sizeOf102
theorem fk_Sort (lo : Nat) (v : Value) (L : List Ky) (w : World) (h : w.ownsRow lo 102 3 v L.length (L.flatMap kyL)) (hn : L.length ≤ 8589934592) :
  Calls Tryz.prog 104 #[v, .func (.func 50) #[] #[]] w fun e w' => ∃ L' : List Ky, e = .returned (.tuple #[]) ∧ L'.Perm L ∧ L'.Pairwise (fun x y => ¬ klt y x) ∧ w'.ownsRow lo 102 3 v L'.length (L'.flatMap kyL) ∧ Kept (fun b => v.ownBlock = some b) w w' := by
 rcases own_cur h with ⟨rfl, h0⟩ | ⟨g, c, cur, rfl, hg, hsz, htk, hnc⟩
 ·obtain rfl := List.length_eq_zero_iff.1 h0
  refine (AnyF.slices_SortFunc_none Tryz.sortK none 0 _ w).mono ?_
  rintro e w' ⟨rfl, rfl⟩
  exact ⟨[], rfl, List.Perm.refl _, List.Pairwise.nil, h, Kept.refl _ _⟩
 ·have eg : ∀ args w, (callFunc 50 args).run Tryz.prog w = .ok (.enter 50 args) w := enters_of Tryz.func50 (by kernel_rfl) rfl
  have hH : Sort.HoldsK kyL 3 w g 0 L.toArray := by
   unfold Sort.HoldsK
   rw [flatK_ky]
   intro j hj
   rw [List.size_toArray, jX kyL_len] at hj
   have hl : (L.flatMap kyL)[j]? = cur[j]? := by
    rw [← htk, List.getElem?_take_of_lt hj, Array.getElem?_toList]
   rw [Nat.zero_add]
   refine ⟨?_, jN hg j⟩
   rw [jB hg, ← hl, List.getElem?_eq_getElem (by rw [jX kyL_len]; exact hj)]
   rw [getElem!_pos _ _ (by simpa [jX kyL_len] using hj)]
   simp
  have hcon := AnyQ.slices_SortFunc Tryz.sortK 3 isAgg_ky sizeOf_ky kyL kyL_len kyL_one kcmp swo_ky 50 #[] g 0 c L.toArray w eg (cmp_laysK g 0 L.toArray.size w) hH (jE hg) (by simp; omega)
  rw [List.size_toArray] at hcon
  refine hcon.mono ?_
  rintro e w' ⟨rfl, d', n, os, ⟨hp1, -, hp3⟩, hso, rfl⟩
  have hlen : d'.size = L.length := by rw [hp1]; simp
  have hperm : d'.toList.Perm L := by
   have e1 : d'.extract 0 L.length = d' := by rw [← hlen]; simp
   have e2 : L.toArray.extract 0 L.length = L.toArray := by simp
   rw [e1, e2] at hp3
   simpa using hp3
  have hsort : d'.toList.Pairwise (fun x y => ¬ klt y x) := by
   rw [List.pairwise_iff_getElem]
   intro i j hi hj hij
   have := hso i j (Nat.zero_le _) hij (by simpa [hlen] using hj)
   rw [ltOf_ky] at this
   simp only [Array.length_toList] at hi hj
   rw [getElem!_pos d' j hj, getElem!_pos d' i hi] at this
   simpa using this
  have hl3 : d'.toList.length = L.length := Array.length_toList.trans hlen
  have hp := own_put h (ys := d'.toList.flatMap kyL) (by rw [jX kyL_len, hl3]) n os
  refine ⟨d'.toList, rfl, hperm, hsort, ?_, ?_⟩
  ·rw [hl3]
   unfold Go.Proofs.sortWorldK Sort.putRowK
   have : Sort.flatK kyL 3 d' = (d'.toList.flatMap kyL).toArray := by rw [← flatK_ky]
   rw [this]
   exact hp.1
  ·unfold Go.Proofs.sortWorldK Sort.putRowK
   have : Sort.flatK kyL 3 d' = (d'.toList.flatMap kyL).toArray := by rw [← flatK_ky]
   rw [this]
   exact hp.2.imp fun b hb => by rw [hb]; rfl
theorem keys_rise {K K' : List Ky} (hp : K'.Perm K) (hn : K.Nodup) (hs : K'.Pairwise (fun x y => ¬ klt y x)) : K'.Pairwise klt := by
 have hn' : K'.Nodup := hp.nodup_iff.2 hn
 rw [List.nodup_iff_pairwise_ne] at hn'
 refine (hs.and hn').imp ?_
 rintro x y ⟨h1, h2⟩
 rcases klt_tri x y with h | h | h
 ·exact h
 ·exact absurd h h2
 ·exact absurd h h1
open Go.RowKit
theorem info_key : (Tryz.prog.info? 102).map (fun i => (i.zero, i.size, i.bytes)) = some (some (.agg #[.int .i64 0, .int .i64 0, .int .i64 0]), 3, 24) := by kernel_rfl
theorem info_class : (Tryz.prog.info? 115).map (fun i => (i.zero, i.size, i.bytes)) = some (some (.agg #[.int .i64 0, .int .i64 0, .int .i64 0, .slice none 0 0]), 4, 48) := by kernel_rfl
theorem info_prefK : (Tryz.prog.info? 53).map (fun i => (i.zero, i.size, i.bytes)) = some (some (.agg #[.int .u32 0, .int .i64 0]), 2, 16) := by kernel_rfl
structure Cls where
 key : Ky
 ps : List Pf
 v : Value
def clL (x : Cls) : List Value := [.int .i64 x.key.from_, .int .i64 x.key.best, .int .i64 x.key.may, x.v]
theorem clL_len (x : Cls) : (clL x).length = 4 := rfl
abbrev OwnCl := OwnR 115 4 clL (fun x W => PsAt W x.v x.ps)
def AllPostK (best : Pf → Option (Int × At)) (kf : Pf → Ky) (W : World) (e : Ending) (w' : World) : Prop :=
 ∃ (s : Option Addr) (c : Nat) (L : List Cls) (Q : Nat → Prop) (ps : List Pf), e = .returned (.slice s L.length c) ∧ OwnCl w' W.heap.size (.slice s L.length c) L Q ∧ Srt ps ∧ (∀ p, p ∈ ps ↔ (best p).isSome = true) ∧ (∀ p ∈ ps, RgtP p) ∧
  (L.map (·.key)).Pairwise klt ∧ (∀ x ∈ L, x.ps = psOf kf x.key ps ∧ x.ps ≠ []) ∧ (∀ p ∈ ps, kf p ∈ L.map (·.key)) ∧ Below W.heap.size W w'
theorem StampAt.of_block {κ : Type} {ek : κ → Value} {W W' : World} {b : Nat} {a : κ} {s : Nat} (h : StampAt ek W b a s) (hb : W'.heap[b]? = W.heap[b]?) : StampAt ek W' b a s := by
 obtain ⟨es, ck, h1, h2⟩ := h
 exact ⟨es, ck, hb.trans h1, h2⟩
theorem Kept.up {F G : Nat → Prop} {a b c : World} (h : Kept F a b) (k : Kept G b c) (hG : ∀ i, G i → a.heap.size ≤ i ∨ F i) : Kept F a c :=
 ⟨k.os.trans h.os, k.tape.trans h.tape, k.output.trans h.output, Nat.le_trans h.size k.size, fun i hi hf => (k.block i (Nat.lt_of_lt_of_le hi h.size) (fun g => (hG i g).elim (fun h2 => by omega) hf)).trans (h.block i hi hf)⟩
theorem cl_one (k : Ky) (s : Option Addr) (n c : Nat) : ∀ u ∈ [Value.int .i64 k.from_, .int .i64 k.best, .int .i64 k.may, .slice s n c], u.oneCell' = true := by
 intro u hu
 simp at hu
 rcases hu with rfl | rfl | rfl | rfl <;> rfl
theorem ky_at {w : World} {s : Option Addr} {n c : Nat} {xs : List Ky} (h : SlAt w 3 (fun x cs => cs = kyL x) (.slice s n c) xs) {i : Nat} {x : Ky} (hx : xs[i]? = some x) : ∃ g o, s = some ⟨g, o, none⟩ ∧ w.cell? ⟨g, o + i * 3, none⟩ = some (.int .i64 x.from_) ∧ w.cell? ⟨g, o + i * 3 + 1, none⟩ = some (.int .i64 x.best) ∧ w.cell? ⟨g, o + i * 3 + 2, none⟩ = some (.int .i64 x.may) := by
 obtain ⟨s', c', e, h1, h2, h3⟩ := h
 injection e with e _ _
 subst e
 have hi := (List.getElem?_eq_some_iff.1 hx).1
 obtain ⟨b, off, rfl, h4⟩ := h3 (by omega)
 obtain ⟨cs, -, rfl, hc⟩ := h4 i x hx
 exact ⟨b, off, rfl, hc 0 _ rfl, hc 1 _ rfl, hc 2 _ rfl⟩
theorem key_cells {W : World} {b : Nat} {k : Ky} (q : W.heap[b]? = some (.cells (kyC k) 102 (0, 0))) : W.cell? ⟨b, 0, none⟩ = some (.int .i64 k.from_) ∧ W.cell? ⟨b, 1, none⟩ = some (.int .i64 k.best) ∧ W.cell? ⟨b, 2, none⟩ = some (.int .i64 k.may) := ⟨jB q 0, jB q 1, jB q 2⟩
set_option maxHeartbeats 6400000 in
set_option maxRecDepth 100000 in
theorem fc_AllG (sv : Value) (n : Int) (best : Pf → Option (Int × At)) (kf : Pf → Ky) (W : World) (BS : ∀ w', Below W.heap.size W w' → Calls Tryz.prog 25 #[sv, .int .i64 n] w' (BestsPost best w'))
  (OF : ∀ w', Below W.heap.size W w' → ∀ p, (best p).isSome = true → KOk p → Calls Tryz.prog 48 #[sv, .int .i64 n, .agg #[.int .u32 p.1, .int .i64 p.2]] w' (OfPostK (some (kf p)) w'))
  (few : ∀ ps : List Pf, ps.Nodup → (∀ p ∈ ps, (best p).isSome = true) → ps.length ≤ 4096) (kok : ∀ p, (best p).isSome = true → KyOk (kf p)) :
  Calls Tryz.prog 51 #[sv, .int .i64 n] W (AllPostK best kf W) := by
 have BS := jh BS
 have OF := jh OF
 have FEW := jh few
 have KOF := jh kok
 have hmm := @run_makeMap Tryz.prog
 obtain ⟨i0, hii, hz0, hz1, hz2⟩ := info_parts info_key
 obtain ⟨j0, hjj, hy0, hy1, hy2⟩ := info_parts info_prefK
 obtain ⟨k0, hkk, hx0, hx1, hx2⟩ := info_parts info_class
 clear few kok
 go_enter Tryz.func51, Tryz.ntmps51
 go_upto_region 3 with (fail)
 obtain ⟨W1, hW1⟩ : ∃ W1, W1 = W.alloc (.map #[] 0) := ⟨_, rfl⟩
 have hb1 : Below W.heap.size W W1 := by rw [hW1]; exact (Below.refl _ _).alloc (Nat.le_refl _) _
 have M1 : Hid (KMap W1 W.heap.size []) := jh (by rw [hW1]; exact MapT.made W)
 rw [← hW1]
 have B1 := jh hb1
 obtain ⟨mb, hmb⟩ : ∃ mb, W.heap.size = mb := ⟨_, rfl⟩
 have MB := jh hmb
 rw [hmb] at M1 ⊢
 clear hW1 hb1 hmb
 go_wp2_with fail
 refine (BS.out W1 B1.out).mono ?_
 rintro e w2 ⟨s, c, LB, AB, rfl, ob, sbp, vb, ab, hb2⟩
 have M2 := jh (M1.out.below hb2)
 have B2 := jh (jC B1.out hb2)
 have OB := jh ob
 obtain ⟨ps, hps⟩ : ∃ ps, LB.map (·.p) = ps := ⟨_, rfl⟩
 rw [hps] at sbp ab
 have PL : Hid (ps.length = LB.length) := jh (by rw [← hps, List.length_map])
 have PG : Hid (∀ (z : Nat) x, LB[z]? = some x → ps[z]? = some x.p) := jh (fun z x hx => by rw [← hps, List.getElem?_map, hx]; rfl)
 have PB : Hid (∀ p, p ∈ ps ↔ (best p).isSome = true) := jh (fun p => by
  constructor
  ·intro hp
   rw [← hps] at hp
   obtain ⟨x, hx, rfl⟩ := List.mem_map.1 hp
   rw [(vb x hx).1]; rfl
  ·intro hp
   obtain ⟨b, hb⟩ := Option.isSome_iff_exists.1 hp
   exact ab p b hb)
 have PR : Hid (∀ p ∈ ps, RgtP p) := jh (fun p hp => by
  rw [← hps] at hp
  obtain ⟨x, hx, rfl⟩ := List.mem_map.1 hp
  exact (vb x hx).2.1)
 have SP : Hid (Srt ps) := jh sbp
 have L4 : LB.length ≤ 4096 := by rw [← PL.out]; exact FEW.out ps (plt_nodup sbp) (fun p hp => (PB.out p).1 hp)
 have LMB : Hid (mb < W1.heap.size) := jh M1.out.lt
 have BW2 : Hid (W1.heap.size ≤ w2.heap.size) := jh hb2.size
 have G0 : Hid (GrK kf (ps.take 0) [] w2 w2.heap.size) := jh (GrK.nil _ _)
 have O0 : Hid (w2.ownsRow w2.heap.size 102 3 (.slice none ([] : List (Ky × Value)).length 0) ([] : List (Ky × Value)).length ((([] : List (Ky × Value)).map (·.1)).flatMap kyL)) := jh ⟨rfl, .inl ⟨rfl, rfl⟩⟩
 have K0 : Hid (Kept (fun b => b = mb) w2 w2) := jh (Kept.refl _ _)
 clear ob sbp vb ab hb2 hps M1 B1 BS
 go_wp2_with fail
 go_loopw [6, 23] (fun t6 t23 wr => ∃ (z : Nat) (M : List (Ky × Value)) (s6 : Option Addr) (c6 : Nat), z ≤ LB.length ∧ t23 = .int .i64 z ∧ t6 = .slice s6 M.length c6 ∧ Hid (GrK kf (ps.take z) M wr w2.heap.size) ∧ Hid (KMap wr mb M) ∧ Hid (wr.ownsRow w2.heap.size 102 3 (.slice s6 M.length c6) M.length ((M.map (·.1)).flatMap kyL)) ∧ Hid (Kept (fun b => b = mb) w2 wr)) (fun _ t23 _ => LB.length - (intOf t23).toNat)
 case atStart => exact ⟨0, [], none, 0, by omega, rfl, rfl, G0, M2, O0, K0⟩
 case round =>
  clear G0 M2 O0 K0
  obtain ⟨z, M, s6, c6, hz, rfl, rfl, GK, MM, OK, KK⟩ := hrel
  by_cases hzl : z < LB.length
  ·obtain ⟨x, hx⟩ : ∃ x, LB[z]? = some x := ⟨_, List.getElem?_eq_getElem hzl⟩
   have hpx := PG.out z x hx
   have XB := jh ((PB.out x.p).1 (List.mem_of_getElem? hpx))
   have XR := jh (PR.out x.p (List.mem_of_getElem? hpx))
   have TK : Hid (ps.take (z + 1) = ps.take z ++ [x.p]) := jh (take_snoc hpx)
   obtain ⟨g, o, rfl, hrg⟩ := be_at (own_slat beL_len OB.out.own) hx
   have LG := jh (jJ OB.out.own g rfl)
   have RG : Hid (wr.rangeAt g (o + z * 13) (beL x)) := jh (fun j v hv => KK.out.cell (hrg j v hv) (fun e => by
    have h1 := LG.out
    have h2 := LMB.out
    simp only at e
    omega))
   have BR : Hid (Below W.heap.size W wr) := jh (B2.out.trans (KK.out.below B2.out.size (by rintro b rfl; have := MB.out; omega)))
   obtain ⟨k, hk⟩ : ∃ k, kf x.p = k := ⟨_, rfl⟩
   have KX : Hid (KyOk k) := jh (by rw [← hk]; exact KOF.out x.p XB.out)
   have HK := jh hk
   have z0 : (0 : Int) ≤ (z : Int) := by omega
   have z1 : (z : Int) < (LB.length : Int) := by omega
   have ML4 : M.length ≤ 4096 := by have h1 := GK.out.short; rw [List.length_take] at h1; omega
   clear hx hpx hrg hk
   go_wp2_with ((with_reducible refine jM (X := .load 61 (.tmp 25)) ?_ ?_); (· rfl))
   unfold Halt
   refine ldm_at (by rfl) 61 (.tmp 25) rfl g (o + z * 13) rfl (beL x) _ RG.out Tryz.underlying61 rfl sz_rt ?_
   go_wp2_with ((with_reducible refine jM (X := .store 61 (.tmp 8) (.tmp 26)) ?_ ?_); (· rfl))
   unfold Halt
   refine st_fresh rfl 61 (.tmp 8) (.tmp 26) rfl rfl _ (rtC x.peer x.p x.v) rfl sz_rt rfl (rt_one _ _ _) ?_
   obtain ⟨w3, hw3, q3, hb3, -⟩ := box1 wr (rtC x.peer x.p x.v) 61
   rw [← hw3]
   obtain ⟨xb, hxb⟩ : ∃ xb, xb = wr.heap.size := ⟨_, rfl⟩
   rw [← hxb] at q3 ⊢
   have XWR : Hid (xb ≤ wr.heap.size) := jh (Nat.le_of_eq hxb)
   have OLT : Hid (∀ q, (Value.slice s6 M.length c6).ownBlock = some q → q < xb) := jh (fun q hq => by rw [hxb]; exact own_lt OK.out q hq)
   have c1 : w3.cell? ⟨xb, 1, none⟩ = some (.int .u32 x.p.1) := jB q3 1
   have c2 : w3.cell? ⟨xb, 2, none⟩ = some (.int .i64 x.p.2) := jB q3 2
   have Q3 := jh q3
   have B3 := jh hb3
   have OFX : Hid (Calls Tryz.prog 48 #[sv, .int .i64 n, .agg #[.int .u32 x.p.1, .int .i64 x.p.2]] w3 fun e w' => e = .returned (.tuple #[kyV k, .bool true]) ∧ Below w3.heap.size w3 w') := jh (by rw [← HK.out]; exact OF.out w3 (jC BR.out hb3) x.p XB.out XR.out.key)
   clear hw3 q3 hb3 hxb RG BR
   simp only [Act.put]
   go_wp2_with fail
   refine OFX.out.mono ?_
   rintro e w4 ⟨rfl, hb4⟩
   have B4 := jh (jC B3.out hb4)
   have Q4 := jh ((hb4.block _ (jE Q3.out)).trans Q3.out)
   clear hb4 Q3 c1 c2 OFX B3
   go_wp2_with ((with_reducible refine jM (X := .store 102 (.tmp 9) (.tmp 33)) ?_ ?_); (· rfl))
   unfold Halt
   refine st_fresh rfl 102 (.tmp 9) (.tmp 33) rfl rfl _ (kyC k) rfl sz_key rfl (ky_one k) ?_
   obtain ⟨w5, hw5, q5, hb5, -⟩ := box1 w4 (kyC k) 102
   rw [← hw5]
   obtain ⟨kb, hkb⟩ : ∃ kb, kb = w4.heap.size := ⟨_, rfl⟩
   rw [← hkb] at q5 ⊢
   have XKB : Hid (xb ≤ kb) := jh (by rw [hkb]; exact Nat.le_trans XWR.out B4.out.size)
   have Q5 := jh ((hb5.block _ (jE Q4.out)).trans Q4.out)
   have QK := jh q5
   have B5 := jh (jC B4.out hb5)
   have GK5 := jh (GK.out.below B5.out)
   have MM5 := jh (MM.out.below B5.out)
   have OK5 := jh (jQ OK.out B5.out)
   have KK5 := jh (KK.out.trans (Kept.of_below B5.out))
   obtain ⟨y0, y1, y2⟩ := key_cells q5
   have hl := MM5.out.look ky_enc Tryz.underlying184 k KX.out zero_pfs w5 rfl true
   clear hw5 q5 hb5 hkb B4 B5 Q4 GK MM OK KK
   simp only [Act.put]
   obtain ⟨had, hhad⟩ : ∃ had, (getL M k).isSome = had := ⟨_, rfl⟩
   obtain ⟨u0, hu0⟩ : ∃ u0, ((getL M k).map idV).getD nilS = u0 := ⟨_, rfl⟩
   have HH := jh hhad
   simp only [if_true, hhad, hu0] at hl
   clear hhad hu0
   go_upto_if 44 with (fail)
   clear hl
   obtain ⟨KL, hKL⟩ : ∃ KL, (putL M k nilS).map (·.1) = KL := ⟨_, rfl⟩
   have LKL : Hid (∀ v, KL = (putL M k v).map (·.1) ∧ KL.length = (putL M k v).length) := jh (fun v => by
    have e : (putL M k v).map (·.1) = KL := by rw [← hKL, keys_put, keys_put]
    exact ⟨e.symm, by rw [← e, List.length_map]⟩)
   have KLE : Hid (KL = if had then M.map (·.1) else M.map (·.1) ++ [k]) := jh (by rw [← hKL, keys_put, HH.out])
   clear hKL
   go_cut [6] from 45 to 48 (fun s6' wx => ∃ (s : Option Addr) (c : Nat), s6' = .slice s KL.length c ∧ Hid (wx.ownsRow w2.heap.size 102 3 (.slice s KL.length c) KL.length (KL.flatMap kyL) ∧ GrK kf (ps.take z) M wx w2.heap.size ∧ KMap wx mb M ∧ Kept (fun b => b = mb) w2 wx ∧ wx.heap[xb]? = some (.cells (rtC x.peer x.p x.v) 61 (0, 0)) ∧ wx.heap[kb]? = some (.cells (kyC k) 102 (0, 0))))
   case first =>
    rcases had with _ | _
    ·have LM : Hid (KL = M.map (·.1) ++ [k] ∧ KL.length = M.length + 1) := jh (by
      have := KLE.out
      simp only [if_false, Bool.false_eq_true] at this
      exact ⟨this, by rw [this]; simp⟩)
     have hal : Below w5.heap.size w5 (w5.alloc (.cells #[.int .i64 k.from_, .int .i64 k.best, .int .i64 k.may] 102)) := (Below.refl _ _).alloc (Nat.le_refl _) _
     have OA := jh (jQ OK5.out hal)
     have NC := jh (new_cells w5 #[.int .i64 k.from_, .int .i64 k.best, .int .i64 k.may] 102)
     have BA : Hid (w2.heap.size ≤ (w5.alloc (.cells #[.int .i64 k.from_, .int .i64 k.best, .int .i64 k.may] 102)).heap.size) := jh (Nat.le_trans KK5.out.size hal.size)
     have GA := jh (GK5.out.below hal)
     have MA := jh (MM5.out.below hal)
     have KA := jh (KK5.out.trans (Kept.of_below hal))
     have QA := jh ((hal.block _ (jE Q5.out)).trans Q5.out)
     have QB := jh ((hal.block _ (jE QK.out)).trans QK.out)
     have NXB : Hid (∀ q, (Value.slice s6 M.length c6).ownBlock = some q → q ≠ xb ∧ q ≠ kb) := jh (fun q hq => by have h1 := OLT.out q hq; have h2 := XKB.out; omega)
     clear hal OK5 GK5 MM5 KK5 Q5 QK
     go_wp2_with (at_builtin; refine wpList_append_own_at _ rfl _ _ 185 rfl w2.heap.size 102 i0 _ 3 24 Tryz.underlying185 hii hz0 hz1 hz2 rfl (by decide) (.slice s6 M.length c6) M.length ((M.map (·.1)).flatMap kyL) rfl OA.out ⟨w5.heap.size, 0, none⟩ 1 1 [.int .i64 k.from_, .int .i64 k.best, .int .i64 k.may] rfl rfl NC.out (kyL_one k) (by unfold maxLen; omega) (by omega) BA.out ?_)
     intro v3 w6 h2 h3 _ hat
     obtain ⟨s3, c3, hv3, -⟩ := jV h2
     subst hv3
     have K6 := kept_gr h3
     have HO : Hid (w6.ownsRow w2.heap.size 102 3 (.slice s3 KL.length c3) KL.length (KL.flatMap kyL)) := jh (by rw [LM.out.2, LM.out.1, List.flatMap_append, List.flatMap_cons, List.flatMap_nil, List.append_nil]; exact h2)
     have HG := jh (GA.out.kept K6 (fun y hy b hb e => own_kindsK OA.out (GA.out.own y hy) (by decide) b e hb))
     have HM := jh (MA.out.kept K6 (fun e => own_ne_mapK OA.out MA.out e))
     have HK2 := jh (KA.out.up K6 (fun i hi => .inl (jJ OA.out i hi)))
     have HX := jh ((K6.block _ (jE QA.out) (fun e => (NXB.out _ e).1 rfl)).trans QA.out)
     have HY := jh ((K6.block _ (jE QB.out) (fun e => (NXB.out _ e).2 rfl)).trans QB.out)
     have hln : M.length + 1 = KL.length := LM.out.2.symm
     rw [hln]
     clear h2 h3 hat K6 OA NC GA MA KA QA QB hln y0 y1 y2
     go_wp2_with fail
     go_meet
     exact ⟨s3, c3, rfl, jh ⟨HO.out, HG.out, HM.out, HK2.out, HX.out, HY.out⟩⟩
    ·have LM : Hid (KL = M.map (·.1) ∧ KL.length = M.length) := jh (by
      have := KLE.out
      simp only [if_true] at this
      exact ⟨this, by rw [this]; simp⟩)
     have HO : Hid (w5.ownsRow w2.heap.size 102 3 (.slice s6 KL.length c6) KL.length (KL.flatMap kyL)) := jh (by rw [LM.out.2, LM.out.1]; exact OK5.out)
     have hln : M.length = KL.length := LM.out.2.symm
     go_wp2_with fail
     go_meet
     exact ⟨s6, c6, by rw [LM.out.2], jh ⟨HO.out, GK5.out, MM5.out, KK5.out, Q5.out, QK.out⟩⟩
   case rest =>
    obtain ⟨s7, c7, rfl, HH7⟩ := hcut
    obtain ⟨w7, hw7⟩ : ∃ w7 : World, w7 = wc := ⟨_, rfl⟩
    rw [← hw7] at HH7 ⊢
    clear hw7 OK5 GK5 MM5 KK5 Q5 QK y0 y1 y2
    obtain ⟨y0, y1, y2⟩ := key_cells HH7.out.2.2.2.2.2
    have c1 : w7.cell? ⟨xb, 1, none⟩ = some (.int .u32 x.p.1) := jB HH7.out.2.2.2.2.1 1
    have c2 : w7.cell? ⟨xb, 2, none⟩ = some (.int .i64 x.p.2) := jB HH7.out.2.2.2.2.1 2
    obtain ⟨W8, hW8⟩ : ∃ W8, W8 = w7.alloc (.cells #[.int .u32 x.p.1, .int .i64 x.p.2] 53) := ⟨_, rfl⟩
    have hb8 : Below w7.heap.size w7 W8 := by rw [hW8]; exact (Below.refl _ _).alloc (Nat.le_refl _) _
    have nc8 : ∀ (j : Nat) (u : Value), [Value.int .u32 x.p.1, .int .i64 x.p.2][j]? = some u → W8.cell? ((⟨w7.heap.size, 0, none⟩ : Addr).add j) = some u := by rw [hW8]; exact new_cells w7 #[.int .u32 x.p.1, .int .i64 x.p.2] 53
    have m8 := HH7.out.2.2.1.below hb8
    obtain ⟨o1, st, he, hm1, hsa⟩ := m8.entry ky_enc Tryz.underlying184 k KX.out nilS zero_pfs (by unfold maxLen; omega) W8 rfl
    have k89 : Kept (fun b => b = mb) W8 (ChangeMaps.setBlock W8 mb o1) := Kept.setBlock o1 rfl
    have gk9 := (HH7.out.2.1.below hb8).mapKept m8 k89
    have ok9 : (ChangeMaps.setBlock W8 mb o1).ownsRow w2.heap.size 102 3 (.slice s7 KL.length c7) KL.length (KL.flatMap kyL) := ((own_on (jQ HH7.out.1 hb8)).kept k89 (fun b _ hb e => own_ne_mapK (jQ HH7.out.1 hb8) m8 (by rw [hb, e]))).self
    have o9 := gk9.at k
    have hap := HH7.out.2.2.1.apart
    obtain ⟨v0, hv0⟩ : ∃ v0, (getL M k).getD nilS = v0 := ⟨_, rfl⟩
    have GP := jh (fun (w1 : World) (v' : Value) => gk9.put (w1 := w1) (v' := v') hap (p := x.p))
    rw [HK.out, hv0] at GP
    rw [hv0] at he hm1 o9
    have nl : (psOf kf k (ps.take z)).length ≤ 4096 := Nat.le_trans (psOf_len _ _ _) (by rw [List.length_take]; omega)
    obtain ⟨sv0, cv0, hv1, -⟩ := jV o9
    subst hv1
    obtain ⟨n0, hn0⟩ : ∃ n0, (psOf kf k (ps.take z)).length = n0 := ⟨_, rfl⟩
    rw [hn0] at he hm1 o9 GP nl hv0
    have nc9 : ∀ (j : Nat) (u : Value), [Value.int .u32 x.p.1, .int .i64 x.p.2][j]? = some u → (ChangeMaps.setBlock W8 mb o1).cell? ((⟨w7.heap.size, 0, none⟩ : Addr).add j) = some u := fun j u hu => k89.cell (nc8 j u hu) (fun e => by
     have h1 : mb < w7.heap.size := HH7.out.2.2.1.lt
     have e2 : ((⟨w7.heap.size, 0, none⟩ : Addr).add j).block = w7.heap.size := by unfold Addr.add; split <;> rfl
     rw [e2] at e
     omega)
    have MB7 : Hid (mb < w7.heap.size) := jh HH7.out.2.2.1.lt
    have BA9 : Hid (w2.heap.size ≤ (ChangeMaps.setBlock W8 mb o1).heap.size) := jh (Nat.le_trans HH7.out.2.2.2.1.size (Nat.le_trans hb8.size k89.size))
    have KK9 : Hid (Kept (fun b => b = mb) w2 (ChangeMaps.setBlock W8 mb o1)) := jh ((HH7.out.2.2.2.1.trans (Kept.of_below hb8)).trans k89)
    have SA9 := jh hsa
    have O9 := jh o9
    have OK9 := jh ok9
    have NC9 := jh nc9
    have HM9 := jh hm1
    subst hW8
    clear hb8 nc8 m8 k89 gk9 hap hm1 hsa o9 ok9 nc9 HH7 hn0 hv0
    go_wp2_with (at_builtin; refine wpList_append_own_at _ rfl _ _ 23 rfl w2.heap.size 53 j0 _ 2 16 Tryz.underlying23 hjj hy0 hy1 hy2 rfl (by decide) (.slice sv0 n0 cv0) n0 ((psOf kf k (ps.take z)).flatMap encP) rfl O9.out ⟨w7.heap.size, 0, none⟩ 1 1 [.int .u32 x.p.1, .int .i64 x.p.2] rfl rfl NC9.out (encP_one x.p) (by unfold maxLen; omega) (by omega) BA9.out ?_)
    intro v3 w10 h2 h3 _ hat
    obtain ⟨s3, c3, hv3, -⟩ := jV h2
    subst hv3
    have K10 := kept_gr h3
    have nmb : (Value.slice sv0 n0 cv0).ownBlock ≠ some mb := own_ne_mapK O9.out HM9.out
    have hm10 := HM9.out.kept K10 nmb
    have hs10 := SA9.out.of_block (K10.block mb HM9.out.lt nmb)
    obtain ⟨o2, he2, hm2⟩ := hm10.entryStore (P := Tryz.prog) (t := 184) ky_enc.inj k st hs10 (.slice s3 (n0 + 1) c3) w10 rfl
    have he3 : (Instr.entryStore 184 (.map (some mb)) (.int .i64 (st : Int)) (.slice s3 (n0 + 1) c3)).run Tryz.prog w10 = .ok () (ChangeMaps.setBlock w10 mb o2) := he2
    rw [putL_twice] at hm2
    have k1011 : Kept (fun b => b = mb) w10 (ChangeMaps.setBlock w10 mb o2) := Kept.setBlock o2 rfl
    have gp := GP.out w10 (.slice s3 (n0 + 1) c3) h2 K10 (by
     rcases hat with h | h
     ·exact .inl h
     ·refine .inr ⟨_, h, Nat.le_of_eq ?_⟩
      rfl) KX.out
    have GK11 : Hid (GrK kf (ps.take (z + 1)) (putL M k (.slice s3 (n0 + 1) c3)) (ChangeMaps.setBlock w10 mb o2) w2.heap.size) := jh (by rw [TK.out]; exact gp.mapKept hm10 k1011)
    have ok10 := ((own_on OK9.out).kept K10 (fun b _ hb e => own_kindsK OK9.out O9.out (by decide) b hb e)).self
    have OK11 : Hid ((ChangeMaps.setBlock w10 mb o2).ownsRow w2.heap.size 102 3 (.slice s7 KL.length c7) KL.length (KL.flatMap kyL)) := jh ((own_on ok10).kept k1011 (fun b _ hb e => own_ne_mapK ok10 hm10 (by rw [hb, e]))).self
    have KK11 : Hid (Kept (fun b => b = mb) w2 (ChangeMaps.setBlock w10 mb o2)) := jh ((KK9.out.up K10 (fun i hi => .inl (jJ O9.out i hi))).trans k1011)
    have HM11 := jh hm2
    have LK11 := jh (LKL.out (.slice s3 (n0 + 1) c3))
    have ZL := jh hzl
    clear h2 h3 hat K10 hm10 hs10 hm2 k1011 gp ok10 GP O9 OK9 NC9 BA9 SA9 HM9 KK9 he he2 y0 y1 y2 c1 c2
    go_wp2_with fail
    refine ⟨⟨z + 1, putL M k (.slice s3 (n0 + 1) c3), s7, c7, by have := ZL.out; omega, by go_num, by rw [LK11.out.2], GK11, HM11, ?_, KK11⟩, by have := ZL.out; simp [intOf]; omega⟩
    rw [← LK11.out.2, ← LK11.out.1]
    exact OK11
  ·obtain rfl : z = LB.length := by omega
   have TL : ps.take LB.length = ps := by rw [← PL.out, List.take_length]
   rw [TL] at GK
   obtain ⟨K, hK⟩ : ∃ K, M.map (·.1) = K := ⟨_, rfl⟩
   have hln : M.length = K.length := by rw [← hK, List.length_map]
   have K4 : K.length ≤ 4096 := by have h1 := GK.out.short; rw [hln, PL.out] at h1; omega
   have BR : Hid (Below W.heap.size W wr) := jh (B2.out.trans (KK.out.below B2.out.size (by rintro b rfl; have := MB.out; omega)))
   have ND : Hid K.Nodup := jh (by
    rw [← hK, List.nodup_iff_pairwise_ne, List.pairwise_map]
    exact MM.out.apart)
   rw [hK, hln] at OK
   have HK := jh hK
   have SO := jh (fk_Sort w2.heap.size (.slice s6 K.length c6) K wr OK.out (by omega))
   rw [hln]
   clear TL hK hln hz hzl KK
   go_wp2_with fail
   refine SO.out.mono ?_
   rintro e w4 ⟨K', rfl, pK, sK, oK, kK⟩
   have hl' : K'.length = K.length := pK.length_eq
   rw [hl'] at oK
   have PK := jh pK
   have RK := jh (keys_rise pK ND.out sK)
   have HL := jh hl'
   have GK4 := jh (GK.out.kept kK (fun y hy b hb e => own_kindsK OK.out (GK.out.own y hy) (by decide) b e hb))
   have MM4 := jh (MM.out.kept kK (fun e => own_ne_mapK OK.out MM.out e))
   have OK4 := jh oK
   have BR4 : Hid (Below W.heap.size W w4) := jh (BR.out.trans (kK.below BR.out.size (fun b hb => Nat.le_trans B2.out.size (jJ OK.out b hb))))
   obtain ⟨w5, hmk, hown, hgrow⟩ := run_make_own (P := Tryz.prog) w4 w4.heap.size 107 115 k0 _ 4 Tryz.underlying107 hkk hx0 hx1 .i64 .i64 K.length (by rw [hx2]; omega) (by unfold maxLen; omega) (Nat.le_refl _)
   have B5 : Hid (Below w4.heap.size w4 w5) := jh ((Below.refl _ _).grown hgrow (Nat.le_refl _) (fun g hg => by cases hg))
   have O5 : Hid (OwnCl w5 w4.heap.size (.slice (some ⟨w4.heap.size, 0, none⟩) ([] : List Cls).length K.length) [] (fun _ => False)) := jh ⟨hown, fun _ _ x hx => (by cases hx), fun _ h => h.elim, fun _ _ h => h⟩
   have LE0 : Hid (([] : List Cls).map (·.key) = K'.take 0) := jh rfl
   have LP0 : Hid (∀ x ∈ ([] : List Cls), x.ps = psOf kf x.key ps) := jh (fun x hx => by cases hx)
   clear pK sK oK kK hl' GK MM OK SO hown hgrow BR
   go_wp2_with fail
   clear hmk
   go_loopw [13, 66] (fun t13 t66 wr => ∃ (y : Nat) (L : List Cls) (s13 : Option Addr) (c13 : Nat) (Q : Nat → Prop), y ≤ K.length ∧ t66 = .int .i64 y ∧ t13 = .slice s13 L.length c13 ∧ Hid (OwnCl wr w4.heap.size (.slice s13 L.length c13) L Q) ∧ Hid (L.map (·.key) = K'.take y) ∧ Hid (∀ x ∈ L, x.ps = psOf kf x.key ps) ∧ Hid (Below w4.heap.size w4 wr)) (fun _ t66 _ => K.length - (intOf t66).toNat)
   case atStart => exact ⟨0, [], _, _, _, by omega, rfl, rfl, O5, LE0, LP0, B5⟩
   case round =>
    clear O5 LE0 LP0 B5
    obtain ⟨y, L, s13, c13, Q, hy, rfl, rfl, OC, LE, LP, BC⟩ := hrel
    by_cases hyl : y < K.length
    ·obtain ⟨k, hk⟩ : ∃ k, K'[y]? = some k := ⟨_, List.getElem?_eq_getElem (by rw [HL.out]; exact hyl)⟩
     have kmem : k ∈ M.map (·.1) := by rw [HK.out]; exact PK.out.mem_iff.1 (List.mem_of_getElem? hk)
     have TK : Hid (K'.take (y + 1) = K'.take y ++ [k]) := jh (take_snoc hk)
     obtain ⟨⟨k', v⟩, hv, hkk'⟩ := List.mem_map.1 kmem
     have hkk' : k' = k := hkk'
     subst hkk'
     have LL : L.length ≤ 4096 := by
      have h1 := congrArg List.length LE.out
      rw [List.length_map, List.length_take] at h1; omega
     have hg : getL M k' = some v := getL_of_mem MM4.out.apart hv
     have ow : w4.ownsRow w2.heap.size 53 2 v (psOf kf k' ps).length ((psOf kf k' ps).flatMap encP) := GK4.out.own (k', v) hv
     have KX : Hid (KyOk k') := jh (GK4.out.oks (k', v) hv)
     have nl : (psOf kf k' ps).length ≤ 4096 := Nat.le_trans (psOf_len _ _ _) (by rw [PL.out]; exact L4)
     obtain ⟨s0, c0, rfl, -⟩ := jV ow
     have PO : Hid (∀ p ∈ psOf kf k' ps, OkP p) := jh (fun p hp => (PR.out p (psOf_mem.1 hp).1).1)
     have OFK := jh (fun w' (hb : Below w4.heap.size w4 w') => ps_Of (.slice s0 (psOf kf k' ps).length c0) (psOf kf k' ps) w' ((OwnPs.at ⟨jQ ow hb, PO.out⟩)))
     have OE := jh (ofE_right nl (fun p hp => PR.out p (psOf_mem.1 hp).1) (psOf_srt SP.out))
     have RW := jh (own_slat kyL_len (show w4.ownsRow w2.heap.size 102 3 (.slice s6 K.length c6) K'.length (K'.flatMap kyL) by rw [HL.out]; exact OK4.out))
     obtain ⟨g6, o6, rfl, e0, e1, e2⟩ := ky_at RW.out hk
     have f0 := jA e0 BC.out
     have f1 := jA e1 BC.out
     have f2 := jA e2 BC.out
     have hl := fun w' (hb : Below w4.heap.size w4 w') => (MM4.out.below hb).look ky_enc Tryz.underlying184 k' KX.out zero_pfs w' rfl false
     simp only [if_false, Bool.false_eq_true, hg, Option.map_some, Option.getD_some] at hl
     have HLK := jh hl
     have y0 : (0 : Int) ≤ (y : Int) := by omega
     have y1 : (y : Int) < (K.length : Int) := by omega
     clear hk kmem hv hg ow e0 e1 e2 hl
     go_upto_region 18 with (fail)
     obtain ⟨w6, hw6, q6, hb6, -⟩ := box1 wr (kyC k') 102
     rw [show wr.alloc (.cells #[.int .i64 k'.from_, .int .i64 k'.best, .int .i64 k'.may] 102) = w6 from hw6.symm]
     obtain ⟨kb, hkb⟩ : ∃ kb, kb = wr.heap.size := ⟨_, rfl⟩
     rw [← hkb] at q6 ⊢
     have hl6 := HLK.out w6 (jC BC.out hb6)
     obtain ⟨t0, t1, t2⟩ := key_cells q6
     have B6 := jh hb6
     have Q6 := jh q6
     have OFX : Hid (Calls Tryz.prog 105 #[.slice s0 (psOf kf k' ps).length c0] w6 fun e w' => ∃ v', e = .returned (.tuple #[.agg #[v'], .int .i64 0]) ∧ OwnPs w' w6.heap.size v' (psOf kf k' ps) ∧ Below w6.heap.size w6 w') := jh (by
      refine (OFK.out w6 (jC BC.out hb6)).mono ?_
      rintro e w' ⟨v', h1, h2, h3⟩
      rw [OE.out.1] at h1
      rw [OE.out.2] at h2
      exact ⟨v', h1, h2, h3⟩)
     clear hw6 q6 hb6 hkb f0 f1 f2 OFK OE
     go_wp2_with fail
     refine OFX.out.mono ?_
     rintro e w7 ⟨v', rfl, op, hb7⟩
     have FR : Hid (Fresh w6.heap.size w7 fun W => PsAt W v' (psOf kf k' ps)) := jh ((own_fresh op.1).imp fun _ h => OwnPs.at ⟨h, op.2⟩)
     obtain ⟨s8, c8, rfl, -⟩ := jV op.1
     have B67 := jh hb7
     have Q7 := (hb7.block _ (jE Q6.out)).trans Q6.out
     clear hl6 t0 t1 t2 op hb7 OFX HLK
     obtain ⟨t0, t1, t2⟩ := key_cells Q7
     clear Q7
     obtain ⟨w8, hw8, q8, -, hb8, -⟩ := box1c w7 (.slice s8 (psOf kf k' ps).length c8) 113
     have B78 := jh hb8
     replace t0 := jA t0 hb8
     replace t1 := jA t1 hb8
     replace t2 := jA t2 hb8
     have ZL := jh hyl
     go_upto_region 20 with (fail)
     rw [← hw8]
     obtain ⟨sb8, hsb8⟩ : ∃ b, b = w7.heap.size := ⟨_, rfl⟩
     rw [← hsb8] at q8 ⊢
     obtain ⟨m8, hm8⟩ : ∃ m, (psOf kf k' ps).length = m := ⟨_, rfl⟩
     have HM8 := jh hm8
     rw [hm8] at q8 FR ⊢
     have hal : Below w8.heap.size w8 (w8.alloc (.cells #[.int .i64 k'.from_, .int .i64 k'.best, .int .i64 k'.may, .slice s8 m8 c8] 115)) := (Below.refl _ _).alloc (Nat.le_refl _) _
     have B17 := jh (jC B6.out B67.out)
     have B79 := jh (jC B78.out hal)
     have OA := jh (OC.out.below (jC B17.out B79.out))
     have NC := jh (new_cells w8 #[.int .i64 k'.from_, .int .i64 k'.best, .int .i64 k'.may, .slice s8 m8 c8] 115)
     have BA : Hid (w4.heap.size ≤ (w8.alloc (.cells #[.int .i64 k'.from_, .int .i64 k'.best, .int .i64 k'.may, .slice s8 m8 c8] 115)).heap.size) := jh (Nat.le_trans BC.out.size (jC B17.out B79.out).size)
     clear hal hw8 hb8 hsb8 hm8 B67 B78 Q6
     go_wp2_with (at_builtin; refine wpList_append_own_at _ rfl _ _ 107 rfl w4.heap.size 115 k0 _ 4 48 Tryz.underlying107 hkk hx0 hx1 hx2 rfl (by decide) (.slice s13 L.length c13) L.length (L.flatMap clL) rfl OA.out.own ⟨w8.heap.size, 0, none⟩ 1 1 [.int .i64 k'.from_, .int .i64 k'.best, .int .i64 k'.may, .slice s8 m8 c8] rfl rfl NC.out (cl_one k' s8 m8 c8) (by unfold maxLen; omega) (by omega) BA.out ?_)
     intro v3 w10 h2 h3 _ hat
     obtain ⟨s3, c3, hv3, -⟩ := jV h2
     subst hv3
     have OS : Hid (OwnCl w10 w4.heap.size (.slice s3 (L ++ [(⟨k', psOf kf k' ps, .slice s8 m8 c8⟩ : Cls)]).length c3) (L ++ [⟨k', psOf kf k' ps, .slice s8 m8 c8⟩]) _) := jh (by
      rw [List.length_append]
      exact OC.out.step (x := ⟨k', psOf kf k' ps, .slice s8 m8 c8⟩) (v' := .slice s3 (L.length + 1) c3) B17.out B6.out.size BC.out.size FR.out B79.out h2 (kept_gr h3) (by simpa using hat))
     have BN : Hid (Below w4.heap.size w4 w10) := jh ((jC BC.out (jC B17.out B79.out)).trans ((kept_gr h3).below BA.out fun g hg => jJ OA.out.own g hg))
     have LEN : Hid ((L ++ [(⟨k', psOf kf k' ps, .slice s8 m8 c8⟩ : Cls)]).map (·.key) = K'.take (y + 1)) := jh (by rw [List.map_append, LE.out, TK.out]; rfl)
     have LPN : Hid (∀ x ∈ L ++ [(⟨k', psOf kf k' ps, .slice s8 m8 c8⟩ : Cls)], x.ps = psOf kf x.key ps) := jh (fun x hx => by
      rcases List.mem_append.1 hx with hx | hx
      ·exact LP.out x hx
      ·rw [List.mem_singleton] at hx; subst hx; rfl)
     have LLN : Hid ((L ++ [(⟨k', psOf kf k' ps, .slice s8 m8 c8⟩ : Cls)]).length = L.length + 1) := jh (by simp)
     clear h2 h3 hat OA NC BA FR OC LE LP BC B6 B17 B79 t0 t1 t2 q8
     go_wp2_with fail
     exact ⟨⟨y + 1, _, s3, c3, _, by have := ZL.out; omega, by go_num, by rw [LLN.out], OS, LEN, LPN, BN⟩, by have := ZL.out; simp [intOf]; omega⟩
    ·obtain rfl : y = K.length := by omega
     have LE2 : Hid (L.map (·.key) = K') := jh (by rw [LE.out, ← HL.out, List.take_length])
     have OC2 := jh (OC.out.base (B' := W.heap.size) BR4.out.size)
     have FB : Hid (Below W.heap.size W wr) := jh (jC BR4.out BC.out)
     have KM : Hid (∀ k, k ∈ K' ↔ k ∈ M.map (·.1)) := jh (fun k => by rw [HK.out]; exact PK.out.mem_iff)
     clear OC LE BC hy hyl
     go_wp2_with fail
     go_ret
     refine ⟨s13, c13, L, Q, ps, rfl, OC2.out, SP.out, PB.out, PR.out, by rw [LE2.out]; exact RK.out, fun x hx => ⟨LP.out x hx, ?_⟩, fun p hp => ?_, FB.out⟩
     ·rw [LP.out x hx]
      have h1 : x.key ∈ M.map (·.1) := (KM.out _).1 (by rw [← LE2.out]; exact List.mem_map_of_mem hx)
      obtain ⟨y, hy, e⟩ := List.mem_map.1 h1
      rw [← e]
      exact GK4.out.non y hy
     ·rw [LE2.out, KM.out]
      exact GK4.out.cov p hp
open Go.RowKit
theorem nodup_sub {α : Type} [DecidableEq α] : ∀ (l m : List α), l.Nodup → (∀ x ∈ l, x ∈ m) → l.length ≤ m.length
 | [], _, _, _ => Nat.zero_le _
 | x :: l, m, hn, hs => by
  have hx := hs x (List.mem_cons_self ..)
  obtain ⟨h1, h2⟩ := List.nodup_cons.1 hn
  have := nodup_sub l (m.erase x) h2 fun y hy => by
   have hne : y ≠ x := fun e => h1 (e ▸ hy)
   exact (List.mem_erase_of_ne hne).2 (hs y (List.mem_cons_of_mem _ hy))
  rw [List.length_erase_of_mem hx] at this
  have hp : 0 < m.length := List.length_pos_of_mem hx
  rw [List.length_cons]
  omega
theorem flat_le {α β : Type} (f : α → List β) (B : Nat) : ∀ (l : List α), (∀ x ∈ l, (f x).length ≤ B) → (l.flatMap f).length ≤ l.length * B
 | [], _ => by simp
 | x :: l, h => by
  have h1 := flat_le f B l fun y hy => h y (List.mem_cons_of_mem _ hy)
  have h2 := h x (List.mem_cons_self ..)
  rw [List.flatMap_cons, List.length_append, List.length_cons, Nat.add_mul]
  omega
def Ab.bestI (A : Ab) (n : Int) (p : Pf) : Option (Int × At) := if 0 ≤ n ∧ n < (A.V.length : Int) then A.best n.toNat p else none
def Ab.kf (A : Ab) (n : Int) (p : Pf) : Ky := (A.keyI n p).getD ky0
theorem key_of {A : Ab} {n : Int} {p : Pf} (h : (A.bestI n p).isSome = true) : A.keyI n p = some (A.kf n p) := by
 unfold Ab.bestI at h
 split at h
 ·rename_i hn
  obtain ⟨i, rfl⟩ := Int.eq_ofNat_of_zero_le hn.1
  unfold Ab.kf
  rw [keyI_at A (by omega)]
  unfold Ab.key
  obtain ⟨b, hb⟩ := Option.isSome_iff_exists.1 h
  rw [Int.toNat_natCast] at hb
  rw [hb]; rfl
 ·cases h
section
variable {w W : World} {rho : Nat → Role} {sb fb : Nat} {ls : List Pl} {A : Ab}
theorem LSv.short (h : LSv w W rho sb fb ls A) {n : Nat} {v : VM} (hv : A.V[n]? = some v) : v.2.2.length ≤ 256 := by
 obtain ⟨S, h1, h2⟩ := h.srv
 have hn : n < S.ms.length := by rw [h2.len]; exact (List.getElem?_eq_some_iff.1 hv).1
 obtain ⟨m, hm⟩ : ∃ m, S.ms[n]? = some m := ⟨_, List.getElem?_eq_getElem hn⟩
 obtain ⟨l, -, hM⟩ := h1.get hm
 have e := (h2.get hm).1
 rw [hv] at e
 injection e with e
 subst e
 obtain ⟨tb, N, E, hI, he⟩ := hM.rib
 have r1 := hI.room
 have r2 := hI.most1
 have : m.R.length = E.length := by rw [he]; simp [rts]
 show m.R.length ≤ 256
 omega
theorem LSv.fewB (h : LSv w W rho sb fb ls A) (n : Int) {ps : List Pf} (hn : ps.Nodup) (hb : ∀ p ∈ ps, (A.bestI n p).isSome = true) : ps.length ≤ 4096 := by
 have h1 := nodup_sub ps (A.V.flatMap fun v => v.2.2.map (·.1)) hn fun p hp => by
  have h2 := hb p hp
  unfold Ab.bestI at h2
  split at h2
  ·obtain ⟨b, hb2⟩ := Option.isSome_iff_exists.1 h2
   obtain ⟨k, v, -, hv, hg, -⟩ := best_from (A := A) (i := n.toNat) (p := p) (j := b.1) (a := b.2) hb2
   exact List.mem_flatMap.2 ⟨v, List.mem_of_getElem? hv, List.mem_map.2 ⟨_, getL_mem hg, rfl⟩⟩
  ·cases h2
 have h2 := flat_le (fun v : VM => v.2.2.map (·.1)) 256 A.V fun v hv => by
  obtain ⟨i, hi⟩ := List.getElem?_of_mem hv
  rw [List.length_map]
  exact h.short hi
 have h3 := h.few
 have h4 : A.V.length * 256 ≤ 16 * 256 := Nat.mul_le_mul_right _ h3
 omega
theorem LSv.kyok (h : LSv w W rho sb fb ls A) (n : Int) {p : Pf} (hb : (A.bestI n p).isSome = true) : KyOk (A.kf n p) := by
 have hk := key_of hb
 unfold Ab.bestI at hb
 split at hb
 ·rename_i hn
  obtain ⟨i, rfl⟩ := Int.eq_ofNat_of_zero_le hn.1
  rw [keyI_at A (by omega)] at hk
  unfold Ab.key at hk
  obtain ⟨b, hb2⟩ := Option.isSome_iff_exists.1 hb
  rw [Int.toNat_natCast] at hb2
  rw [hb2] at hk
  injection hk with hk
  rw [← hk]
  obtain ⟨k, v, h1, hv, -⟩ := best_from (A := A) (i := i) (p := p) (j := b.1) (a := b.2) hb2
  have h3 := h.few
  have h4 := (List.getElem?_eq_some_iff.1 hv).1
  have h5 := may_lt h.few i p
  refine ⟨?_, ?_, ?_⟩
  ·show I64r (i : Int); unfold I64r; omega
  ·show I64r b.1; rw [h1]; unfold I64r; omega
  ·show I64r (A.may i p : Int); unfold I64r; omega
 ·cases hb
theorem ls_OfI (h : LSv w W rho sb fb ls A) (n : Int) (p : Pf) (hp : KOk p) : Calls Tryz.prog 48 #[.pointer (some ⟨sb, 0, none⟩), .int .i64 n, .agg #[.int .u32 p.1, .int .i64 p.2]] W (OfPostK (A.keyI n p) W) := by
 by_cases hn : 0 ≤ n ∧ n < (A.V.length : Int)
 ·obtain ⟨i, rfl⟩ := Int.eq_ofNat_of_zero_le hn.1
  rw [keyI_at A (by omega)]
  exact fc_Of h (by omega) p hp
 ·rw [keyI_no A hn]
  exact fc_Of_no h hn p
theorem ls_BestsI (h : LSv w W rho sb fb ls A) (n : Int) : Calls Tryz.prog 25 #[.pointer (some ⟨sb, 0, none⟩), .int .i64 n] W (BestsPost (A.bestI n) W) := by
 by_cases hn : 0 ≤ n ∧ n < (A.V.length : Int)
 ·obtain ⟨i, rfl⟩ := Int.eq_ofNat_of_zero_le hn.1
  have e : A.bestI (i : Int) = A.best i := by
   funext p
   unfold Ab.bestI
   rw [if_pos hn, Int.toNat_natCast]
  rw [e]
  exact ls_Bests h (by omega)
 ·obtain ⟨S, h1, h2⟩ := h.srv
  refine (sv_Bests_no h1 (by rw [h2.len]; exact hn)).mono ?_
  rintro e w' ⟨rfl, rfl⟩
  refine ⟨none, 0, [], _, rfl, OwnR.nil _ _, List.Pairwise.nil, fun x hx => (by cases hx), fun p b hb => ?_, Below.refl _ _⟩
  unfold Ab.bestI at hb
  rw [if_neg hn] at hb
  cases hb
theorem ls_All (h : LSv w W rho sb fb ls A) (n : Int) : Calls Tryz.prog 51 #[.pointer (some ⟨sb, 0, none⟩), .int .i64 n] W (AllPostK (A.bestI n) (A.kf n) W) :=
 fc_AllG _ n _ _ W (fun w' hb => ls_BestsI (h.below hb) n) (fun w' hb p hs hk => by
  have := ls_OfI (h.below hb) n p hk
  rw [key_of hs] at this
  exact this) (fun ps hn hb => h.fewB n hn hb) (fun p hb => h.kyok n hb)
end
end Go.Proofs.YtkoidahgbbabiaaGreat
