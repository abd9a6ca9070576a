/- Texts of one proof, one behind another. -/
import Derived.Test.YtkoidahgbbabiaaGreatFk18
import Derived.Test.YtkoidahgbbabiaaGreatFk13
import Derived.Test.YtkoidahgbbabiaaGreatFk1
namespace Go.Proofs.YtkoidahgbbabiaaGreat
open Go.RowKit
theorem info_rtB : (Tryz.prog.info? 61).map (fun i => (i.zero, i.size, i.bytes)) = some (some (.agg #[.int .i64 0, .int .u32 0, .int .i64 0, .int .i64 0, .int .i64 0, .slice none 0 0, .int .u32 0, .int .i64 0, .int .i64 0, .int .i64 0, .int .u32 0, .slice none 0 0, .slice none 0 0]), 13, 152) := by kernel_rfl
theorem wpList_rt1 {ops : Array Oper} {rest : List Oper} {o : Oper} {a : Act} {w : World} {Q : Exit → Act → World → Prop} (x : Operand) (hg : o.guard = none) (ho : o.op = .buildSlice 57 1 #[(0, x)]) (peer : Int) (p : Pf) (v : AV) (hx : a.eval x = .agg (rtC peer p v))
  (h : ∀ w2 : World, (∀ (j : Nat) (u : Value), ((rtC peer p v).toList)[j]? = some u → w2.cell? ((⟨w.heap.size, 0, none⟩ : Addr).add j) = some u) → Below w.heap.size w w2 → w2.heap.size = w.heap.size + 1 → wpList Tryz.prog ops Q rest (a.put o.dst (.slice (some ⟨w.heap.size, 0, none⟩) 1 1)) w2) : wpList Tryz.prog ops Q (o :: rest) a w := by
 obtain ⟨i0, hii, hz0, hz1, hz2⟩ := info_parts info_rtB
 refine wpList_buildSlice hg 57 61 1 _ ho (rtC peer p v) i0 _ Tryz.underlying57 hii hz0 (by rw [hz1]; decide) (by rw [hz1]; decide) ?_ (h _ (new_cells w _ _) ((Below.refl _ _).alloc (Nat.le_refl _) _) (by simp))
 rw [hz1]
 simp only [List.map_toArray, List.map_cons, List.map_nil, hx]
 kernel_rfl
def BestsPost (best : Pf → Option (Int × At)) (W : World) (e : Ending) (w' : World) : Prop :=
 ∃ (s : Option Addr) (c : Nat) (L : List BE) (A : Nat → Prop), e = .returned (.slice s L.length c) ∧ OwnBs w' W.heap.size (.slice s L.length c) L A ∧ (L.map (·.p)).Pairwise plt ∧ (∀ x ∈ L, best x.p = some (x.peer, x.a) ∧ RgtP x.p ∧ GoodA x.a) ∧ (∀ p b, best p = some b → p ∈ L.map (·.p)) ∧ Below W.heap.size W w'
section
variable {W : World} {rho : Nat → Role} {sb fb : Nat} {ls : List Pl} {S : Sv}
set_option maxRecDepth 100000 in
theorem sv_Bests_no (h : SrvM W rho sb fb ls S) {n : Int} (hn : ¬ (0 ≤ n ∧ n < (S.ms.length : Int))) : Calls Tryz.prog 25 #[.pointer (some ⟨sb, 0, none⟩), .int .i64 n] W fun e w' => e = .returned (.slice none 0 0) ∧ W = w' := by
 have MB := zh (sv_member_no h hn)
 clear h hn
 go_enter Tryz.func25, Tryz.ntmps25
 go_wp2_with fail
 refine MB.out.mono ?_
 rintro e w1 ⟨rfl, rfl⟩
 go_wp2_with fail
 go_ret
 exact ⟨rfl, rfl⟩
set_option maxHeartbeats 6400000 in
set_option maxRecDepth 100000 in
theorem sv_Bests (h : SrvM W rho sb fb ls S) {i : Nat} {m : Pm} (hm : S.ms[i]? = some m) : Calls Tryz.prog 25 #[.pointer (some ⟨sb, 0, none⟩), .int .i64 i] W (BestsPost (S.best i) W) := by
 obtain ⟨l, hl, hM⟩ := h.get hm
 have MB := zh (sv_member h hl)
 have m4 : W.cell? ⟨l.mb, 4, none⟩ = some (.map (some l.bb)) := zB hM.row 4
 obtain ⟨N, hN⟩ := hM.bests
 obtain ⟨w3, hr, hR, hB, hz⟩ := hN.map.range Tryz.underlying64
 obtain ⟨rb, hrb⟩ : ∃ rb, rb = W.heap.size := ⟨_, rfl⟩
 rw [← hrb] at hr hR
 have RBW : Hid (W.heap.size ≤ rb) := zh (by omega)
 have HR := zh hR
 have HN := zh hN
 have FEW := zh (rgt_few hN.map.apart fun x hx => (hN.val x hx).2.1)
 have LBB : Hid (l.bb < W.heap.size) := zh hN.map.lt
 have B0 := zh hB
 have O0 : Hid (OwnBs w3 W.heap.size (.slice none 0 0) [] (fun _ => False)) := zh (OwnR.nil w3 W.heap.size)
 obtain ⟨i0, hii, hz0, hz1, hz2⟩ := info_parts info_rtB
 clear h hm hl hM hN hR hB hz hrb
 go_enter Tryz.func25, Tryz.ntmps25
 go_wp2_with fail
 refine MB.out.mono ?_
 rintro e w1 ⟨rfl, rfl⟩
 go_wp2_with fail
 clear hr m4
 go_loopw [6] (fun t6 wr => ∃ (left : List (Pf × BV)) (s : Option Addr) (c : Nat) (xs : List BE) (A : Nat → Prop), t6 = .slice s xs.length c ∧ Hid ((xs.map (·.p) ++ left.map (·.1)).Perm (N.map (·.1))) ∧ Hid (OwnBs wr W.heap.size (.slice s xs.length c) xs A) ∧ Hid (∀ x ∈ xs, S.best i x.p = some (x.peer, x.a) ∧ RgtP x.p ∧ GoodA x.a) ∧ Hid (Below W.heap.size W wr) ∧ Hid (RangeT pfV bvV KOk wr l.bb rb N left) ∧ Hid (∀ g, (Value.slice s xs.length c).ownBlock = some g → g ≠ rb) ∧ Hid (∀ k, A k → k ≠ rb)) (fun _ wr => wr.rangeLeft l.bb rb)
 case atStart => exact ⟨N, none, 0, [], _, rfl, zh (List.Perm.refl _), O0, zh (fun x hx => by cases hx), B0, HR, zh (fun g hg => by cases hg), zh (fun k hk => hk.elim)⟩
 case round =>
  clear B0 HR O0
  obtain ⟨left, s, c, xs, A, rfl, PM, OP, XV, BV, RT, NE, NEA⟩ := hrel
  have XL : Hid (xs.length ≤ 2 ^ 33) := zh (by
   have h1 := PM.out.length_eq
   have h2 := FEW.out
   simp at h1
   omega)
  rcases RT.out.next (P := Tryz.prog) 0 with ⟨rfl, hn⟩ | ⟨k, q, w4, hi, hq, hn, hR1, hk1, hz1, hen⟩
  ·have hn' : ∀ ty, (Instr.next (.pointer (some ⟨rb, 0, none⟩)) false ty).run Tryz.prog wr = .ok (.tuple #[.bool false]) wr := fun _ => hn
   clear hn
   have XP : Hid ((xs.map (·.p)).Perm (N.map (·.1))) := zh (by have := PM.out; simpa using this)
   have SO := zh (be_Sort W.heap.size (.slice s xs.length c) xs wr OP.out.own (by have := XL.out; omega))
   clear RT PM NE
   go_wp2_with fail
   refine SO.out.mono ?_
   rintro e w5 ⟨ys, rfl, yp, ys1, yo, yk⟩
   have yl := yp.length_eq
   have FIN : Hid (BestsPost (S.best i) W (.returned (.slice s xs.length c)) w5) := zh (by
    refine ⟨s, c, ys, A, by rw [yl], ⟨?_, ?_, ?_, ?_⟩, ?_, fun x hx => XV.out x (yp.mem_iff.1 hx), fun p b hb => ?_, ?_⟩
    ·rw [yl]; rw [yl] at yo; exact yo
    ·exact (OP.out.mem.kept yk fun g _ hA hg => OP.out.apt g hg hA).imp fun V hV x hx => hV x (yp.mem_iff.1 hx)
    ·exact fun k hk => ⟨(OP.out.lt k hk).1, Nat.lt_of_lt_of_le (OP.out.lt k hk).2 yk.size⟩
    ·rw [yl]; exact OP.out.apt
    ·refine srt_strict ?_ ?_
     ·rw [List.pairwise_map]; exact ys1
     ·exact ((yp.map (·.p)).nodup_iff).2 ((XP.out.nodup_iff).2 (keysU_nodup HN.out.map.apart))
    ·have h1 : (getL N p).isSome = true := by
      have := HN.out.get p
      rw [hb] at this
      cases hg : getL N p with
      | none => rw [hg] at this; cases this
      | some x => rfl
     have h2 := (keysU_mem HN.out.map.apart p).2 h1
     exact ((yp.map (·.p)).mem_iff).2 (XP.out.mem_iff.2 h2)
    ·exact BV.out.trans (yk.below BV.out.size fun g hg => zJ OP.out.own g hg))
   clear yp ys1 yo yk yl SO
   go_wp2_with fail
   go_ret
   exact FIN.out
  ·have hrl := zh RT.out.left_eq
   have hle : Hid ((left.eraseIdx k).length + 1 = left.length) := zh (by
    have := (List.getElem?_eq_some_iff.1 hi).1
    rw [List.length_eraseIdx_of_lt this]; omega)
   have PM2 : Hid (((xs.map (·.p) ++ [q.1]) ++ (left.eraseIdx k).map (·.1)).Perm (N.map (·.1))) := zh (by
    refine List.Perm.trans ?_ PM.out
    rw [List.append_assoc]
    exact List.Perm.append_left _ (by simpa using (erase_perm hi).map Prod.fst))
   have VL := zh (HN.out.val q hq)
   have QB : Hid (S.best i q.1 = some (q.2.peer, q.2.a)) := zh (by rw [← HN.out.get q.1, getL_of_mem HN.out.map.apart (a := q.1) (v := q.2) hq]; rfl)
   have BV4 : Hid (Below W.heap.size W w4) := zh (BV.out.trans (hk1.below BV.out.size (by rintro k rfl; exact RBW.out)))
   have O4 := zh (OP.out.kept hk1 (fun g hg e => NE.out g hg e) (fun k hA e => NEA.out k hA e))
   have RT4 := zh hR1
   have XL2 : Hid (xs.length + 1 ≤ 2 ^ 33) := zh (by
    have h1 := PM2.out.length_eq
    have h2 := FEW.out
    simp at h1
    omega)
   clear hi hq hk1 hz1 BV OP PM hR1 XL RT
   obtain ⟨⟨p1, p2⟩, ⟨bp, bn, ba, bav⟩⟩ := q
   obtain rfl : bn = (p1, p2) := VL.out.1
   have AV0 := zh ((VL.out.2.2.2.below BV4.out).self.at)
   have hn' : ∀ ty, (Instr.next (.pointer (some ⟨rb, 0, none⟩)) false ty).run Tryz.prog wr = .ok (.tuple #[.bool true, .agg #[.int .u32 p1, .int .i64 p2], .agg (rtC bp (p1, p2) bav)]) w4 := fun _ => hn
   have he' : (Instr.entry (.pointer (some ⟨rb, 0, none⟩))).run Tryz.prog w4 = .ok (.tuple #[.agg #[.int .u32 p1, .int .i64 p2], .agg (rtC bp (p1, p2) bav)]) w4 := hen
   clear hn hen
   go_upto_region 7 with (fail)
   clear hn'
   go_wp2_with ((with_reducible refine zM (X := .store 61 (.tmp 8) (.tmp 22)) ?_ ?_); (· rfl))
   unfold Halt
   refine st_fresh rfl 61 (.tmp 8) (.tmp 22) rfl rfl _ (rtC bp (p1, p2) bav) rfl sz_rt rfl (rt_one _ _ _) ?_
   obtain ⟨w5, hw5, q5, hb5, -⟩ := box1 w4 (rtC bp (p1, p2) bav) 61
   rw [← hw5]
   obtain ⟨b8, hb8⟩ : ∃ b, b = w4.heap.size := ⟨_, rfl⟩
   rw [← hb8] at q5 ⊢
   have Q5 := zh q5
   have BV5 := zh (zC BV4.out hb5)
   have O5 := zh (O4.out.below hb5)
   have RT5 := zh (RT4.out.below hb5)
   have CL := zh (sv_clone bp (p1, p2) ba bav w5 (AV0.out.below hb5) VL.out.2.2.1.sz)
   clear hw5 q5 hb5 hb8 he' O4 RT4 BV4 AV0
   simp only [Act.put]
   go_wp2_with ((with_reducible refine zM (X := .load 61 (.tmp 8)) ?_ ?_); (· rfl))
   unfold Halt
   refine ld_at (by rfl) 61 (.tmp 8) rfl b8 rfl 61 (rtC bp (p1, p2) bav) (0, 0) _ Q5.out Tryz.underlying61 rfl sz_rt ?_
   go_wp2_with fail
   refine CL.out.mono ?_
   rintro e w6 ⟨u, rfl, fr, hb6⟩
   have FR := zh fr
   have B6 := zh hb6
   have RT6 := zh (RT5.out.below hb6)
   have BV6 := zh (zC BV5.out hb6)
   clear fr hb6 CL
   go_wp2_with ((with_reducible refine wpList_rt1 (.tmp 25) rfl ?_ bp (p1, p2) u ?_ ?_); (· rfl); (· rfl))
   intro w7 hc7 hb7 hz7
   have O7 := zh ((O5.out.below B6.out).below hb7)
   have B7 := zh hb7
   have RT7 := zh (RT6.out.below hb7)
   have BV7 := zh (zC BV6.out hb7)
   have HZ7 := zh hz7
   have RBL : Hid (rb < w7.heap.size) := zh RT7.out.lt
   have RB5 : Hid (rb < w5.heap.size) := zh RT5.out.lt
   clear hb7 hz7 RT6
   refine wpList_append_own_at _ rfl (.tmp 23) (.tmp 26) 57 rfl W.heap.size 61 i0 _ 13 152 Tryz.underlying57 hii hz0 hz1 hz2 rfl (by decide) (.slice s xs.length c) xs.length (xs.flatMap beL) rfl O7.out.own ⟨w6.heap.size, 0, none⟩ 1 1 (rtC bp (p1, p2) u).toList rfl rfl (fun j y hy => by have h := hc7 j y hy; unfold Addr.add; split; (· rename_i e; subst e; exact h); (· simpa using h)) (beL_one ⟨bp, (p1, p2), ba, u⟩) (by have := XL2.out; unfold maxLen; omega) (by have := XL2.out; omega) BV7.out.size ?_
   intro v8 w8 h2 h3 _ hat
   obtain ⟨s8, c8, hv8, -⟩ := zV h2
   subst hv8
   have OX := zh (O5.out.step (x := ⟨bp, (p1, p2), ba, u⟩) B6.out (Nat.le_refl _) BV5.out.size FR.out B7.out h2 (kept_gr h3) hat)
   have ol := own_lt O5.out.own
   have RT8 := zh (RT7.out.kept (kept_gr h3) (fun e => by have h1 := zJ O7.out.own _ e; have := LBB.out; omega) (fun e => NE.out _ e rfl))
   have BV8 := zh (BV7.out.trans ((kept_gr h3).below BV7.out.size fun g hg => zJ O7.out.own g hg))
   have NE8 : Hid (∀ g, (Value.slice s8 (xs.length + 1) c8).ownBlock = some g → g ≠ rb) := zh (fun g hg e => by
    rcases hat with h | h
    ·rw [h] at hg; exact NE.out g hg e
    ·rw [h] at hg; injection hg with hg
     have := RBL.out; omega)
   have NEA8 : Hid (∀ k, (A k ∨ (w5.heap.size ≤ k ∧ k < w6.heap.size)) → k ≠ rb) := zh (fun k hk e => by
    rcases hk with hk | hk
    ·exact NEA.out k hk e
    ·have := RB5.out; omega)
   have XV8 : Hid (∀ x ∈ xs ++ [⟨bp, (p1, p2), ba, u⟩], S.best i x.p = some (x.peer, x.a) ∧ RgtP x.p ∧ GoodA x.a) := zh (fun x hx => by
    rcases List.mem_append.1 hx with hx | hx
    ·exact XV.out x hx
    ·simp at hx; subst hx; exact ⟨QB.out, VL.out.2.1, VL.out.2.2.1⟩)
   have PM8 : Hid (((xs ++ [⟨bp, (p1, p2), ba, u⟩] : List BE).map (·.p) ++ (left.eraseIdx k).map (·.1)).Perm (N.map (·.1))) := zh (by rw [List.map_append]; exact PM2.out)
   have RL : Hid (w8.rangeLeft l.bb rb < wr.rangeLeft l.bb rb) := zh (by rw [RT8.out.left_eq, hrl.out]; have := hle.out; omega)
   have EL : Hid (xs.length + 1 = (xs ++ [(⟨bp, (p1, p2), ba, u⟩ : BE)]).length) := zh (by simp)
   rw [EL.out] at OX NE8
   clear h2 h3 hat hc7 ol O7 RT7 BV7 O5 RT5 BV5 FR
   rw [EL.out]
   go_wp2_with fail
   exact ⟨⟨left.eraseIdx k, s8, c8, xs ++ [⟨bp, (p1, p2), ba, u⟩], _, by rw [EL.out], PM8, OX, XV8, BV8, RT8, NE8, NEA8⟩, RL.out⟩
end
open Go.RowKit
abbrev Sd := Int × Nat
def sdL (x : Sd) : List Value := [.int .i64 x.1, .int .u32 x.2]
def SdC (x : Sd) (cs : List Value) : Prop := cs = sdL x ∧ x.2 < 4294967296 ∧ I64r x.1
abbrev SdsAt (W : World) (v : Value) (xs : List Sd) : Prop := SlAt W 2 SdC v xs
def sysB (n : Int) : Bool := decide (1 ≤ n ∧ n ≤ 65535)
def sdB (x : Sd) : Bool := sysB x.1 && !(x.2 == 0)
def newCd (own : Int) (xs : List Sd) : Int := if sysB own = false ∨ xs.length = 0 then 1 else if 16 < xs.length then 3 else if xs.all sdB then 0 else 1
def pmOf (x : Sd) : Pm := ⟨x.1, x.2, false, [], fun _ => false⟩
def newSv (own most : Int) (xs : List Sd) : Sv := ⟨own, min (max most 0) 256, fun _ => false, xs.map pmOf, fun _ _ => none⟩
set_option maxRecDepth 100000 in
theorem sv_system (n : Int) (w : World) : Calls Tryz.prog 56 #[.int .i64 n] w fun e w' => e = .returned (.bool (sysB n)) ∧ w = w' := by
 by_cases h1 : 1 ≤ n
 ·by_cases h2 : n ≤ 65535
  ·have e : sysB n = true := by unfold sysB; simp [h1, h2]
   have d1 : decide (n ≥ 1) = true := by simpa using h1
   have d2 : decide (n ≤ 65535) = true := by simpa using h2
   rw [e]
   clear e h1 h2
   go_enter Tryz.func56, Tryz.ntmps56
   go_wp2_with fail
   go_ret
   exact ⟨rfl, rfl⟩
  ·have e : sysB n = false := by unfold sysB; simp [h2]
   have d1 : decide (n ≥ 1) = true := by simpa using h1
   have d2 : decide (n ≤ 65535) = false := by simpa using h2
   rw [e]
   clear e h1 h2
   go_enter Tryz.func56, Tryz.ntmps56
   go_wp2_with fail
   go_ret
   exact ⟨rfl, rfl⟩
 ·have e : sysB n = false := by unfold sysB; simp [h1]
  have d1 : decide (n ≥ 1) = false := by simpa using h1
  rw [e]
  clear e h1
  go_enter Tryz.func56, Tryz.ntmps56
  go_wp2_with fail
  go_ret
  exact ⟨rfl, rfl⟩
def plC (l : Pl) : List Value := [.pointer (some ⟨l.mb, 0, none⟩)]
structure NewAt (w0 W : World) (sb fb : Nat) (own most : Int) (xs : List Sd) (k : Nat) (s : Option Addr) (c : Nat) (ls : List Pl) (rho : Nat → Role) : Prop where
 top : W.heap[sb]? = some (.cells #[.slice s k c, .pointer (some ⟨fb, 0, none⟩)] 125 (0, 0))
 row : W.ownsRow w0.heap.size 126 1 (.slice s k c) k (ls.flatMap plC)
 fil : FilAt W fb own (fun _ => false)
 mem : ∀ (i : Nat) l x, ls[i]? = some l → xs[i]? = some x → PmAt W rho own most i (pmOf x) (fun _ => none) l
 len : ls.length = k
 low : ∀ j, rho j ≠ .no → w0.heap.size ≤ j ∧ j < W.heap.size
 nfb : rho fb = .no
 nsb : rho sb = .no
 fs : fb ≠ sb
 srow : ∀ g, (Value.slice s k c).ownBlock = some g → rho g = .no ∧ g ≠ sb ∧ g ≠ fb
 gsb : w0.heap.size ≤ sb
 gfb : w0.heap.size ≤ fb
 bel : Below w0.heap.size w0 W
noncomputable def newRho (rho : Nat → Role) (W : World) (i lo hi bb nb mb : Nat) (k : Nat) : Role := by
 classical exact if k < W.heap.size then rho k else if lo ≤ k ∧ k < hi then .rib i else if k = bb then .best i else if k = nb then .news i else if k = mb then .mem i else .no
theorem NewAt.below {w0 W W' : World} {sb fb : Nat} {own most : Int} {xs : List Sd} {k : Nat} {s : Option Addr} {c : Nat} {ls : List Pl} {rho : Nat → Role} (h : NewAt w0 W sb fb own most xs k s c ls rho) (hb : Below W.heap.size W W') : NewAt w0 W' sb fb own most xs k s c ls rho :=
 ⟨(hb.block _ (zE h.top)).trans h.top, zQ h.row hb, h.fil.below hb, fun i l x hl hx => (h.mem i l x hl hx).kept (fun _ _ => rfl) (Kept.of_below (F := fun _ => False) hb) fun _ _ _ h => h, h.len, fun j hj => ⟨(h.low j hj).1, Nat.lt_of_lt_of_le (h.low j hj).2 hb.size⟩, h.nfb, h.nsb, h.fs, h.srow, h.gsb, h.gfb, zC h.bel hb⟩
section
variable {w0 W W4 W5 W6 : World} {sb fb : Nat} {own most : Int} {xs : List Sd} {k : Nat} {s : Option Addr} {c : Nat} {ls : List Pl} {rho : Nat → Role}
theorem NewAt.step (h : NewAt w0 W sb fb own most xs k s c ls rho) {x : Sd} (hx : xs[k]? = some x) (hx1 : 1 ≤ x.1 ∧ x.1 ≤ 65535) (hx2 : 0 < x.2 ∧ x.2 < 4294967296) {rb lo hi bb nb mb : Nat}
  (hrib : RibAt W4 rb k own most [] (fun j => lo ≤ j ∧ j < hi)) (hb : BestT W4 bb []) (hn : NewsT W4 nb []) (hm : W4.heap[mb]? = some (.cells (mbC (pmOf x) ⟨mb, rb, bb, nb⟩) 130 (0, 0)))
  (b04 : Below W.heap.size W W4) (hlo : W.heap.size ≤ lo) (hhi : hi ≤ W4.heap.size) (gbb : W.heap.size ≤ bb) (gnb : W.heap.size ≤ nb) (gmb : W.heap.size ≤ mb)
  (n1 : ¬ (lo ≤ bb ∧ bb < hi)) (n2 : ¬ (lo ≤ nb ∧ nb < hi)) (n3 : ¬ (lo ≤ mb ∧ mb < hi)) (n4 : nb ≠ bb) (n5 : mb ≠ bb) (n6 : mb ≠ nb)
  (b45 : Below W4.heap.size W4 W5) {v' : Value} (hown : W6.ownsRow w0.heap.size 126 1 v' (k + 1) (ls.flatMap plC ++ [.pointer (some ⟨mb, 0, none⟩)]))
  (hg : Kept (fun b => (Value.slice s k c).ownBlock = some b) W5 W6) (hat : v'.ownBlock = (Value.slice s k c).ownBlock ∨ v'.ownBlock = some W5.heap.size) :
  ∃ (s' : Option Addr) (c' : Nat) (rho' : Nat → Role), v' = .slice s' (k + 1) c' ∧ NewAt w0 (W6.setCell ⟨sb, 0, none⟩ v') sb fb own most xs (k + 1) s' c' (ls ++ [⟨mb, rb, bb, nb⟩]) rho' := by
 obtain ⟨s', c', rfl, -⟩ := zV hown
 have hn7 := hn.lt
 have hb7 := hb.lt
 have hm7 := zE hm
 have s4 := b04.size
 have s5 := b45.size
 have s6 := hg.size
 have fbl := h.fil.lt
 have sbl := zE h.top
 have ol := own_lt h.row
 -- all but the top's block and the row's is as it was
 have K : Kept (fun b => b = sb ∨ (Value.slice s k c).ownBlock = some b) W4 (W6.setCell ⟨sb, 0, none⟩ (.slice s' (k + 1) c')) :=
  ((Kept.of_below b45).trans (hg.imp fun b hb => .inr hb)).trans (Kept.setCell _ _ (.inl rfl))
 have K0 : Kept (fun b => b = sb ∨ (Value.slice s k c).ownBlock = some b) W (W6.setCell ⟨sb, 0, none⟩ (.slice s' (k + 1) c')) := (Kept.of_below b04).trans K
 have hr : ∀ j, rho j ≠ .no → newRho rho W k lo hi bb nb mb j = rho j := fun j hj => by
  unfold newRho; rw [if_pos (h.low j hj).2]
 have r1 : ∀ j, lo ≤ j → j < hi → newRho rho W k lo hi bb nb mb j = .rib k := fun j h1 h2 => by
  unfold newRho; rw [if_neg (by omega), if_pos ⟨h1, h2⟩]
 have r2 : newRho rho W k lo hi bb nb mb bb = .best k := by unfold newRho; rw [if_neg (by omega), if_neg n1, if_pos rfl]
 have r3 : newRho rho W k lo hi bb nb mb nb = .news k := by unfold newRho; rw [if_neg (by omega), if_neg n2, if_neg n4, if_pos rfl]
 have r4 : newRho rho W k lo hi bb nb mb mb = .mem k := by unfold newRho; rw [if_neg (by omega), if_neg n3, if_neg n5, if_neg n6, if_pos rfl]
 have hrow6 : W6.heap[sb]? = some (.cells #[.slice s k c, .pointer (some ⟨fb, 0, none⟩)] 125 (0, 0)) := by
  rw [hg.block _ (by omega) (fun e => (h.srow _ e).2.1 rfl), b45.block _ (by omega), b04.block _ sbl]
  exact h.top
 have notg : ∀ j, W.heap.size ≤ j → ¬ (j = sb ∨ (Value.slice s k c).ownBlock = some j) := fun j hj e => by
  rcases e with e | e
  ·omega
  ·have := ol j e; omega
 have hnew : ∀ g, (Value.slice s' (k + 1) c').ownBlock = some g → (Value.slice s k c).ownBlock = some g ∨ g = W5.heap.size := fun g hgg => by
  rcases hat with e | e
  ·rw [e] at hgg; exact .inl hgg
  ·rw [e] at hgg; injection hgg with hgg; exact .inr hgg.symm
 refine ⟨s', c', newRho rho W k lo hi bb nb mb, rfl, ?_, ?_, ?_, ?_, ?_, ?_, ?_, ?_, h.fs, ?_, h.gsb, h.gfb, ?_⟩
 ·rw [zO hrow6]; simp
 ·have := ((own_on hown).kept (Kept.setCell (F := fun b => b = sb) ⟨sb, 0, none⟩ (.slice s' (k + 1) c') rfl) fun g _ hg' e => by
   have e : g = sb := e
   subst e
   rcases hnew g hg' with h1 | h1
   ·exact (h.srow _ h1).2.1 rfl
   ·omega).self
  rw [List.flatMap_append]
  exact this
 ·exact h.fil.kept K0 (fun e => by
   rcases e with e | e
   ·exact h.fs e
   ·exact (h.srow _ e).2.2 rfl)
 ·intro i l y hl hy
  by_cases hi' : i < ls.length
  ·rw [List.getElem?_append_left hi'] at hl
   exact (h.mem i l y hl hy).kept hr K0 fun j hj ho e => by
    have no : rho j ≠ .no := by rcases ho with q | q | q | q | q <;> rw [q] <;> intro e <;> cases e
    rcases e with e | e
    ·exact no (e ▸ h.nsb)
    ·exact no (h.srow _ e).1
  ·have : i = k := by
    have := (List.getElem?_eq_some_iff.1 hl).1
    rw [List.length_append] at this
    simp at this
    have := h.len
    omega
   subst this
   rw [hx] at hy; injection hy with hy; subst hy
   rw [List.getElem?_append_right (by rw [h.len]; omega), h.len] at hl
   simp at hl; subst hl
   refine ⟨?_, r4, ?_, r2, r3, ⟨[], ?_, fun p => rfl, fun y hy => by cases hy⟩, ⟨[], ?_, fun p => rfl, fun y hy => by cases hy⟩, fun p a hg => by simp [pmOf, getL] at hg, hx2, hx1⟩
   ·exact (K.block _ hm7 (notg _ gmb)).trans hm
   ·exact (hrib.kept K fun j _ hF => notg j (by omega)).wide fun j hF => r1 j hF.1 hF.2
   ·exact hb.kept K (notg _ gbb)
   ·exact hn.kept K (notg _ gnb)
 ·rw [List.length_append, h.len]; rfl
 ·intro j hj
  by_cases h1 : j < W.heap.size
  ·have : rho j ≠ .no := by intro e; apply hj; unfold newRho; rw [if_pos h1]; exact e
   have := h.low j this
   have := K0.size
   omega
  ·have h0 := h.bel.size
   have e : j < W4.heap.size := by
    by_cases e1 : lo ≤ j ∧ j < hi
    ·omega
    ·by_cases e2 : j = bb
     ·omega
     ·by_cases e3 : j = nb
      ·omega
      ·by_cases e4 : j = mb
       ·omega
       ·exact absurd (by unfold newRho; rw [if_neg h1, if_neg e1, if_neg e2, if_neg e3, if_neg e4]) hj
   have := K.size
   omega
 ·unfold newRho; rw [if_pos fbl]; exact h.nfb
 ·unfold newRho; rw [if_pos sbl]; exact h.nsb
 ·intro g hgg
  rcases hnew g hgg with h1 | h1
  ·have := ol g h1
   refine ⟨?_, (h.srow g h1).2⟩
   unfold newRho; rw [if_pos (by omega)]; exact (h.srow g h1).1
  ·refine ⟨?_, by omega, by omega⟩
   unfold newRho
   rw [if_neg (by omega), if_neg (by omega), if_neg (by omega), if_neg (by omega), if_neg (by omega)]
 ·exact h.bel.trans (K0.below h.bel.size (by
   rintro j (rfl | e)
   ·exact h.gsb
   ·exact zJ h.row j e))
theorem NewAt.done (h : NewAt w0 W sb fb own most xs xs.length s c ls rho) (ho : 1 ≤ own ∧ own ≤ 65535) (hf : xs.length ≤ 16) {most0 : Int} (hm : most = min (max most0 0) 256) :
  ∃ rho', SrvM W rho' sb fb ls (newSv own most0 xs) ∧ (∀ k, rho' k ≠ .no → w0.heap.size ≤ k) := by
 classical
 have sbl := zE h.top
 have ol := own_lt h.row
 obtain ⟨R, hR⟩ : ∃ R : Nat → Role, R = fun k => if k = sb ∨ (Value.slice s xs.length c).ownBlock = some k then .top else if k = fb then .fil else rho k := ⟨_, rfl⟩
 have e0 : ∀ k, rho k ≠ .no → R k = rho k := fun k hk => by
  rw [hR]
  have : ¬ (k = sb ∨ (Value.slice s xs.length c).ownBlock = some k) := by
   rintro (rfl | e)
   ·exact hk h.nsb
   ·exact hk (h.srow k e).1
  simp only [this, if_false]
  exact if_neg (fun e : k = fb => hk (by rw [e]; exact h.nfb))
 have e1 : R sb = .top := by rw [hR]; simp
 have e2 : R fb = .fil := by
  rw [hR]
  have : ¬ (fb = sb ∨ (Value.slice s xs.length c).ownBlock = some fb) := by
   rintro (e | e)
   ·exact h.fs e
   ·exact (h.srow fb e).2.2 rfl
  simp [this]
 have e3 : ∀ g, (Value.slice s xs.length c).ownBlock = some g → R g = .top := fun g hg => by rw [hR]; simp [hg]
 have dom : ∀ k, R k ≠ .no → w0.heap.size ≤ k ∧ k < W.heap.size := fun k hk => by
  rw [hR] at hk
  by_cases h1 : k = sb ∨ (Value.slice s xs.length c).ownBlock = some k
  ·rcases h1 with rfl | h1
   ·exact ⟨h.gsb, sbl⟩
   ·exact ⟨zJ h.row k h1, ol k h1⟩
  ·simp only [h1, if_false] at hk
   by_cases h2 : k = fb
   ·subst h2; exact ⟨h.gfb, h.fil.lt⟩
   ·rw [if_neg h2] at hk
    exact h.low k hk
 refine ⟨R, ⟨?_, ⟨h.fil, e2, by rw [h.len]; simp [newSv], by simpa [newSv] using hf, ?_, fun k hk => (dom k hk).2, ho⟩, e1⟩, fun k hk => (dom k hk).1⟩
 ·intro V hV
  refine ⟨s, c, ?_, ?_⟩
  ·rw [hV sb e1 sbl, h.len]; exact h.top
  ·have ho := (own_on h.row) V fun g hg hl => hV g (e3 g hg) hl
   rw [← h.len] at ho
   exact own_slat (fun _ => rfl) ho
 ·intro i m l hm' hl
  simp only [newSv, List.getElem?_map] at hm'
  cases hx : xs[i]? with
  | none => rw [hx] at hm'; simp at hm'
  | some x =>
   rw [hx] at hm'
   simp at hm'; subst hm'
   have := (h.mem i l x hl hx).kept (G := fun _ => False) e0 (Kept.refl _ W) fun _ _ _ h => h
   rw [hm] at this
   exact this
end
open Go.RowKit
section
variable {P : Program} {ops : Array Oper} {Q : Exit → Act → World → Prop} {md : Region.Mode} {S : World → Prop}
theorem rg_call4 {i j k l : Nat} {oi oj ok ol : Oper} {fuel : Nat} {listed : Array Bool} {a : Act} {w : World} (hi : ops[i]? = some oi) (hj : ops[j]? = some oj) (hk : ops[k]? = some ok) (hl : ops[l]? = some ol)
  (hr : Region.ready md ops listed = [i, j, k, l]) (hw : Region.wanted oi (yielded ops a.tmps) = true) (hv : Region.wanted oj (yielded ops a.tmps) = true) (hu : Region.wanted ok (yielded ops a.tmps) = true) (ht : Region.wanted ol (yielded ops a.tmps) = true)
  (h : ∀ K' : Act → World → Prop, Shut (∀ a w, S w → (S w → wpAnyH P md ops Q S fuel (listed.setIfInBounds i true) a w) → K' a w) → Oper.wp P oi a w K' Q)
  (h2 : ∀ K' : Act → World → Prop, Shut (∀ a w, S w → (S w → wpAnyH P md ops Q S fuel (listed.setIfInBounds j true) a w) → K' a w) → Oper.wp P oj a w K' Q)
  (h3 : ∀ K' : Act → World → Prop, Shut (∀ a w, S w → (S w → wpAnyH P md ops Q S fuel (listed.setIfInBounds k true) a w) → K' a w) → Oper.wp P ok a w K' Q)
  (h4 : ∀ K' : Act → World → Prop, Shut (∀ a w, S w → (S w → wpAnyH P md ops Q S fuel (listed.setIfInBounds l true) a w) → K' a w) → Oper.wp P ol a w K' Q) : wpAnyH P md ops Q S (fuel + 1) listed a w :=
 wpAnyH_ready (rs := [i, j, k, l]) hr (by simp) (AllReadyH.cons hi (fun K hK => by rw [if_pos hw]; exact h K hK) (AllReadyH.cons hj (fun K hK => by rw [if_pos hv]; exact h2 K hK) (AllReadyH.cons hk (fun K hK => by rw [if_pos hu]; exact h3 K hK) (AllReadyH.cons hl (fun K hK => by rw [if_pos ht]; exact h4 K hK) AllReadyH.nil))))
end
end Go.Proofs.YtkoidahgbbabiaaGreat
