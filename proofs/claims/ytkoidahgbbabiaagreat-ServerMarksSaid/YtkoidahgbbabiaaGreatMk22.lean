/- Texts of one proof, one behind another. -/
import Derived.Test.YtkoidahgbbabiaaGreatMk21
import Derived.Test.YtkoidahgbbabiaaGreatMk17
/-
  THE SERVER: what a receiver hasn't been told yet, in order.
-/
namespace Go.Proofs.YtkoidahgbbabiaaGreat
open Go.RowKit

theorem perm_len {α : Type} [DecidableEq α] : ∀ (xs ys : List α), xs.Nodup → (∀ p ∈ xs, p ∈ ys) → ys.length ≤ xs.length → xs.Perm ys
  | [], ys, _, _, h => by
    have : ys = [] := List.length_eq_zero_iff.1 (by simpa using h)
    rw [this]
  | x :: xs, ys, hn, hm, hl => by
    have hx := hm x (List.mem_cons_self ..)
    obtain ⟨h1, h2⟩ := List.nodup_cons.1 hn
    have e := List.perm_cons_erase hx
    refine List.Perm.trans ((perm_len xs (ys.erase x) h2 (fun p hp => ?_) ?_).cons x) e.symm
    · refine (List.mem_erase_of_ne ?_).2 (hm p (List.mem_cons_of_mem _ hp))
      rintro rfl; exact h1 hp
    · have := e.length_eq
      simp at this hl
      omega
theorem erase_perm {α : Type} : ∀ {l : List α} {i : Nat} {x : α}, l[i]? = some x → (x :: l.eraseIdx i).Perm l
  | [], _, _, h => by simp at h
  | y :: l, 0, x, h => by simp at h; subst h; exact List.Perm.refl _
  | y :: l, i + 1, x, h => by
    simp at h
    rw [List.eraseIdx_cons_succ]
    exact (List.Perm.swap y x _).trans ((erase_perm h).cons y)
/-- there are fewer than 2^33 prefixes. -/
theorem rgt_few {υ : Type} {l : List (Pf × υ)} (h : KeysApart l) (hr : ∀ x ∈ l, RgtP x.1) : l.length ≤ 2 ^ 33 := by
  have h1 : (l.map fun x => pKey x.1).Nodup := by
    rw [List.nodup_iff_pairwise_ne, List.pairwise_map]
    exact h.imp_of_mem fun {x y} hx hy hne e => hne (pKey_inj (hr x hx) (hr y hy) e)
  have h2 := nodup_lt (2 ^ 33) _ h1 (by
    intro k hk
    obtain ⟨x, hx, rfl⟩ := List.mem_map.1 hk
    obtain ⟨a, n, e, ha, hn, -⟩ := (hr x hx).nat
    rw [e]
    exact keyN_deep a n ha hn)
  rwa [List.length_map] at h2
theorem keysU_nodup {υ : Type} {l : List (Pf × υ)} (h : KeysApart l) : (l.map (·.1)).Nodup := by
  rw [List.nodup_iff_pairwise_ne, List.pairwise_map]
  exact h
theorem keysU_mem {υ : Type} {l : List (Pf × υ)} (h : KeysApart l) (p : Pf) : p ∈ l.map (·.1) ↔ (getL l p).isSome = true := by
  constructor
  · intro hp
    obtain ⟨x, hx, rfl⟩ := List.mem_map.1 hp
    rw [getL_of_mem h (a := x.1) (v := x.2) hx]; rfl
  · intro hp
    obtain ⟨v, hv⟩ := Option.isSome_iff_exists.1 hp
    exact List.mem_map.2 ⟨_, getL_mem hv, rfl⟩
/-- in order, once each. -/
theorem srt_strict {ys : List Pf} (h : ys.Pairwise fun x y => ¬ plt y x) (hn : ys.Nodup) : ys.Pairwise plt := by
  rw [List.nodup_iff_pairwise_ne] at hn
  refine (h.and hn).imp fun {x y} hxy => ?_
  by_cases e : plt x y
  · exact e
  · exact absurd (plt_total e hxy.1) hxy.2
section
variable {W : World} {rho : Nat → Role} {sb fb : Nat} {ls : List Pl} {S : Sv}
def NewsPost (sb fb : Nat) (ls : List Pl) (S : Sv) (i : Nat) (m : Pm) (rho : Nat → Role) (W : World) (e : Ending) (w' : World) : Prop :=
  ∃ (s : Option Addr) (c : Nat) (L : List Pf), e = .returned (.slice s L.length c) ∧ OwnPs w' W.heap.size (.slice s L.length c) L ∧ L.Pairwise plt ∧ (∀ p, p ∈ L ↔ m.news p = true) ∧ (∀ p ∈ L, RgtP p) ∧ SrvM w' rho sb fb ls (hushS S i) ∧ Step rho rho W w'
set_option maxHeartbeats 6400000 in
set_option maxRecDepth 100000 in
theorem sv_News (h : SrvM W rho sb fb ls S) {i : Nat} {m : Pm} (hm : S.ms[i]? = some m) :
    Calls Tryz.prog 17 #[.pointer (some ⟨sb, 0, none⟩), .int .i64 i] W (NewsPost sb fb ls S i m rho W) := by
  obtain ⟨l, hl, hM⟩ := h.get hm
  have MB := Lib.hid (sv_member h hl)
  have HS := Lib.hid h
  have HL := Lib.hid hl
  have HM := Lib.hid hm
  have m5 : W.cell? ⟨l.mb, 5, none⟩ = some (.map (some l.nb)) := row_cell hM.row 5
  obtain ⟨N, hN⟩ := hM.news
  obtain ⟨w3, hr, hR, hB, hz⟩ := hN.map.range Tryz.underlying128
  obtain ⟨rb, hrb⟩ : ∃ rb, rb = W.heap.size := ⟨_, rfl⟩
  rw [← hrb] at hr hR
  have NRB : Hid (rho rb = .no) := Lib.hid (h.newNo (by omega))
  have RBW : Hid (W.heap.size ≤ rb) := Lib.hid (by omega)
  have HR := Lib.hid hR
  have HN := Lib.hid hN
  have FEW := Lib.hid (rgt_few hN.map.apart hN.rgt)
  have RNB : Hid (rho l.nb = .news i) := Lib.hid hM.rnb
  have D0 := Lib.hid (And.intro (h.below hB) (Step.below (rho := rho) hB))
  have O0 := Lib.hid (ownPs_nil w3 W.heap.size)
  clear h hm hl hM hN hR hB hz hrb
  go_enter Tryz.func17, Tryz.ntmps17
  go_wp2_with fail
  refine MB.out.mono ?_
  rintro e w1 ⟨rfl, rfl⟩
  go_wp2_with fail
  clear hr m5
  go_loopw [6] (fun t6 wr => ∃ (left : List (Pf × Unit)) (s : Option Addr) (c : Nat) (xs : List Pf), t6 = .slice s xs.length c ∧ Hid ((xs ++ left.map (·.1)).Perm (N.map (·.1))) ∧ Hid (OwnPs wr W.heap.size (.slice s xs.length c) xs) ∧ Hid (SrvM wr rho sb fb ls S ∧ Step rho rho W wr) ∧ Hid (RangeT pfV unV KOk wr l.nb rb N left) ∧ Hid (∀ g, (Value.slice s xs.length c).ownBlock = some g → g ≠ rb)) (fun _ wr => wr.rangeLeft l.nb rb)
  case atStart => exact ⟨N, none, 0, [], rfl, Lib.hid (List.Perm.refl _), O0, D0, HR, Lib.hid (fun g hg => by cases hg)⟩
  case round =>
    clear D0 HR O0
    obtain ⟨left, s, c, xs, rfl, PM, OP, D, RT, NE⟩ := hrel
    have XL : Hid (xs.length ≤ 2 ^ 33) := Lib.hid (by
      have h1 := PM.out.length_eq
      have h2 := FEW.out
      simp at h1
      omega)
    rcases RT.out.next (P := Tryz.prog) 0 with ⟨rfl, hn⟩ | ⟨k, q, w4, hi, hq, hn, hR1, hk1, hz1, hen⟩
    · have hn' : ∀ ty, (Instr.next (.pointer (some ⟨rb, 0, none⟩)) false ty).run Tryz.prog wr = .ok (.tuple #[.bool false]) wr := fun _ => hn
      clear hn
      have hM1 := D.out.1.bod.mem i m l HM.out HL.out
      have mb5 : wr.cell? ⟨l.mb, 5, none⟩ = some (.map (some l.nb)) := row_cell hM1.row 5
      obtain ⟨o2, hs2, hm2⟩ := RT.out.map.empty Tryz.underlying128 wr rfl
      have hk2 : Kept (fun k => k = l.nb) wr (ChangeMaps.setBlock wr l.nb o2) := Kept.setBlock o2 rfl
      have PN := Lib.hid (D.out.1.setN HM.out HL.out (fun _ => false) (N' := []) (fun p => rfl) (fun x hx => by cases hx) hk2 hm2)
      have OW2 := Lib.hid (OP.out.kept hk2 (fun g hg e => by
        have h1 := own_form_le OP.out.1 g hg
        have h2 := HS.out.newNo h1
        have e : g = l.nb := e
        rw [e, RNB.out] at h2; cases h2))
      have XN : Hid (xs.Nodup) := Lib.hid (by
        have h1 := PM.out
        simp at h1
        exact (h1.nodup_iff).2 (keysU_nodup HN.out.map.apart))
      have XM : Hid (∀ p, p ∈ xs ↔ m.news p = true) := Lib.hid (fun p => by
        have h1 := PM.out
        simp only [List.map_nil, List.append_nil] at h1
        rw [h1.mem_iff, keysU_mem HN.out.map.apart, HN.out.get])
      have XR : Hid (∀ p ∈ xs, RgtP p) := Lib.hid (fun p hp => by
        have h1 := PM.out
        simp only [List.map_nil, List.append_nil] at h1
        obtain ⟨x, hx, rfl⟩ := List.mem_map.1 (h1.mem_iff.1 hp)
        exact HN.out.rgt x hx)
      have ST := Lib.hid (D.out.2.trans PN.out.2)
      have SO := Lib.hid (fun (w : World) (h : OwnPs w W.heap.size (.slice s xs.length c) xs) => ps_Sort W.heap.size (.slice s xs.length c) xs w h (by have := XL.out; omega))
      clear D RT PM OP hm2 hk2 hM1 NE
      go_wp2_with fail
      refine (SO.out _ OW2.out).mono ?_
      rintro e w5 ⟨ys, rfl, yl, ym, ys1, yo, yk⟩
      have YP := Lib.hid (perm_len xs ys XN.out (fun p hp => (ym p).2 hp) (by omega))
      have FIN : Hid (NewsPost sb fb ls S i m rho W (.returned (.slice s xs.length c)) w5) := Lib.hid (by
        refine ⟨s, c, ys, by rw [yl], by rw [yl]; exact yo, srt_strict ys1 ((YP.out.nodup_iff).1 XN.out), fun p => (ym p).trans (XM.out p), fun p hp => XR.out p ((ym p).1 hp), ?_, ?_⟩
        · refine PN.out.1.out (yk.imp fun g hg => ?_)
          exact HS.out.newNo (own_form_le OW2.out.1 g hg)
        · exact ST.out.more yk fun g hg => .inl (own_form_le OW2.out.1 g hg))
      clear yl ym ys1 yo yk YP SO PN ST OW2
      go_wp2_with fail
      go_ret
      exact FIN.out
    · have hrl := Lib.hid RT.out.left_eq
      have hle : Hid ((left.eraseIdx k).length + 1 = left.length) := Lib.hid (by
        have := (List.getElem?_eq_some_iff.1 hi).1
        rw [List.length_eraseIdx_of_lt this]; omega)
      have PM2 : Hid (((xs ++ [q.1]) ++ (left.eraseIdx k).map (·.1)).Perm (N.map (·.1))) := Lib.hid (by
        refine List.Perm.trans ?_ PM.out
        rw [List.append_assoc]
        exact List.Perm.append_left xs (by simpa using (erase_perm hi).map Prod.fst))
      have RG : Hid (RgtP q.1) := Lib.hid (HN.out.rgt q hq)
      have K1 : Kept (fun k => rho k = .no) wr w4 := hk1.imp fun k e => by have e : k = rb := e; subst e; exact NRB.out
      have D4 := Lib.hid (D.out.1.out K1)
      have S4 := Lib.hid (D.out.2.more hk1 (fun k e => .inl (by have := RBW.out; have e : k = rb := e; omega)))
      have OP4 := Lib.hid (OP.out.kept hk1 (fun g hg e => NE.out g hg e))
      have RT4 := Lib.hid hR1
      have XL2 : Hid (xs.length + 1 ≤ 2 ^ 33) := Lib.hid (by
        have h1 := PM2.out.length_eq
        have h2 := FEW.out
        simp at h1
        omega)
      clear hi hq hk1 hz1 K1 D RT OP PM hR1 XL
      obtain ⟨⟨p1, p2⟩, bv⟩ := q
      have hn' : ∀ ty, (Instr.next (.pointer (some ⟨rb, 0, none⟩)) false ty).run Tryz.prog wr = .ok (.tuple #[.bool true, .agg #[.int .u32 p1, .int .i64 p2], unV bv]) w4 := fun _ => hn
      have he' : (Instr.entry (.pointer (some ⟨rb, 0, none⟩))).run Tryz.prog w4 = .ok (.tuple #[.agg #[.int .u32 p1, .int .i64 p2], unV bv]) w4 := hen
      clear hn hen
      go_upto_region 7 with (fail)
      clear hn'
      go_upto_region 8 with (fail)
      obtain ⟨v1, hv1, c0, c1, hb1⟩ := box2 w4 (.int .u32 p1) (.int .i64 p2) 53
      rw [← hv1]
      obtain ⟨pb, hpb⟩ : ∃ pb, pb = w4.heap.size := ⟨_, rfl⟩
      rw [← hpb] at c0 c1 ⊢
      obtain ⟨i0, hii, hz0, hz1, hz2⟩ := info_parts info_pref
      have hal : Below v1.heap.size v1 (v1.alloc (.cells #[.int .u32 p1, .int .i64 p2] 53)) := (Below.refl _ _).alloc (Nat.le_refl _) _
      have D1 := Lib.hid ((D4.out.below hb1).below hal)
      have S1 := Lib.hid ((S4.out.grow hb1).grow hal)
      have RT1 := Lib.hid ((RT4.out.below hb1).below hal)
      have OA := Lib.hid ((OP4.out.below hb1).below hal)
      have NC := Lib.hid (new_cells v1 #[.int .u32 p1, .int .i64 p2] 53)
      have WB : Hid (W.heap.size ≤ (v1.alloc (.cells #[.int .u32 p1, .int .i64 p2] 53)).heap.size) := Lib.hid S1.out.kept.size
      have OKp : Hid (OkP (p1, p2)) := Lib.hid RG.out.1
      have RBL : Hid (rb < (v1.alloc (.cells #[.int .u32 p1, .int .i64 p2] 53)).heap.size) := Lib.hid RT1.out.lt
      clear hb1 hv1 he' D4 S4 RT4 hpb hal OP4
      go_wp2_with (at_builtin; refine wpList_append_own_at _ rfl _ _ 23 rfl W.heap.size 53 i0 _ 2 16 Tryz.underlying23 hii hz0 hz1 hz2 rfl (by decide) (.slice s xs.length c) xs.length (xs.flatMap encP) rfl OA.out.1 ⟨v1.heap.size, 0, none⟩ 1 1 [.int .u32 p1, .int .i64 p2] rfl rfl NC.out (encP_one (p1, p2)) (by have := XL2.out; unfold maxLen; omega) (by have := XL2.out; omega) (by have := WB.out; omega) ?_)
      intro v3 w5 h2 h3 _ hat
      obtain ⟨s3, c3, hv3, -⟩ := own_form h2
      subst hv3
      have hk3 : Kept (fun k => Value.ownBlock (.slice s xs.length c) = some k) (v1.alloc (.cells #[.int .u32 p1, .int .i64 p2] 53)) w5 := ⟨h3.os, h3.tape, h3.output, h3.size, fun k hk hne => h3.block k hk (fun e => hne e.symm)⟩
      have OX : Hid (OwnPs w5 W.heap.size (.slice s3 (xs ++ [(p1, p2)]).length c3) (xs ++ [(p1, p2)])) := Lib.hid (by
        refine ⟨?_, ?_⟩
        · rw [List.length_append, List.flatMap_append]; simpa [encP] using h2
        · intro q hq
          rcases List.mem_append.1 hq with hq | hq
          · exact OA.out.2 q hq
          · simp at hq; subst hq; exact OKp.out)
      have nog : ∀ g, Value.ownBlock (.slice s xs.length c) = some g → rho g = .no := fun g hg => HS.out.newNo (own_form_le OA.out.1 g hg)
      have D5 := Lib.hid (D1.out.out (hk3.imp nog))
      have S5 := Lib.hid (S1.out.more hk3 fun g hg => .inl (own_form_le OA.out.1 g hg))
      have RT5 := Lib.hid (RT1.out.kept hk3 (fun e => by have := nog _ e; rw [RNB.out] at this; cases this) (fun e => NE.out _ e rfl))
      have NE5 : Hid (∀ g, (Value.slice s3 (xs ++ [(p1, p2)]).length c3).ownBlock = some g → g ≠ rb) := Lib.hid (fun g hg e => by
        have hg' : (Value.slice s3 (xs.length + 1) c3).ownBlock = some g := by simpa using hg
        rcases hat with h | h
        · rw [h] at hg'; exact NE.out g hg' e
        · rw [h] at hg'; injection hg' with hg'
          have := RBL.out
          simp at this hg'
          omega)
      have RL : Hid (w5.rangeLeft l.nb rb < wr.rangeLeft l.nb rb) := Lib.hid (by rw [RT5.out.left_eq, hrl.out]; have := hle.out; omega)
      have EL : Hid (xs.length + 1 = (xs ++ [(p1, p2)]).length) := Lib.hid (by simp)
      have D6 := Lib.hid (And.intro D5.out S5.out)
      clear h2 h3 hat hk3 nog OA NC D1 S1 RT1 c0 c1 D5 S5
      rw [EL.out]
      go_wp2_with fail
      exact ⟨⟨left.eraseIdx k, s3, c3, xs ++ [(p1, p2)], rfl, PM2, OX, D6, RT5, NE5⟩, RL.out⟩
end
end Go.Proofs.YtkoidahgbbabiaaGreat

/-
  ALL ROUTES OF A PEER: All: the function that is called at each.
-/
namespace Go.Proofs.YtkoidahgbbabiaaGreat
open Go.RowKit Go.Lib

end Go.Proofs.YtkoidahgbbabiaaGreat

/-
  ALL ROUTES OF A PEER: All.
-/
namespace Go.Proofs.YtkoidahgbbabiaaGreat
open Go.RowKit Go.Lib

theorem all_srt (S : List (Nat × AV)) : ((goP S 32 0 0).map itP).Pairwise plt := by
  rw [List.pairwise_map]
  refine (goP_sorted (S := S) 32 0 0 rfl (by decide)).imp fun {x y} h => ?_
  unfold itLt at h
  unfold plt itP
  simp only
  omega
theorem all_mem {E : List Ent} (hE : ∀ e ∈ E, RgtP e.p) (p : Pf) : p ∈ (goP (kvs E) 32 0 0).map itP ↔ (getL (rts E) p).isSome = true := by
  constructor
  · intro h
    obtain ⟨x, hx, rfl⟩ := List.mem_map.1 h
    have hi := goP_in (S := kvs E) 32 0 0 rfl (by decide) x hx
    have hlt : x.1.1 < 4294967296 := by have := hi.hi; simpa using this
    obtain ⟨e, _, h1, _, h2⟩ := item_ent hE hlt (right_mod.2 ⟨hi.form, hi.le32⟩) hi.at_
    have e1 : itP ((x.1.1, x.1.2), x.2) = itP x := rfl
    rw [e1] at h2
    rw [h2]; rfl
  · intro h
    obtain ⟨a, ha⟩ := Option.isSome_iff_exists.1 h
    rw [find_rts] at ha
    cases hf : findE E p with
    | none => rw [hf] at ha; cases ha
    | some e =>
      obtain ⟨h1, rfl⟩ := findE_mem hf
      obtain ⟨x, n, hp, hx, hn, hm, hr⟩ := (hE e h1).nat
      have key := find_kvs hE (hE e h1)
      rw [hf] at key
      have hg : getL (kvs E) (keyN x n) = some e.v := by
        have : pKey e.p = keyN x n := by rw [hp]; rfl
        rw [← this]; exact key
      refine List.mem_map.2 ⟨((x, n), e.v), goP_mem hm hn hg 32 0 0 rfl (by decide) (Nat.zero_le _) (Nat.zero_le _) (by simpa using hx), ?_⟩
      rw [hp]; rfl
theorem ln_0 : Ln 32 ([] : List Itm) := by unfold Ln; simp
end Go.Proofs.YtkoidahgbbabiaaGreat

/-
  ALL ROUTES OF A PEER: Clear: the function that is called at each.
-/
namespace Go.Proofs.YtkoidahgbbabiaaGreat
open Go.RowKit Go.Lib

/-- what holds while Clear goes through all. -/
structure CI (w : World) (rb tb : Nat) (N : Nat → Option Nat) (E : List Ent) (peer own most : Int) (F : Nat → Prop) (ab : Nat) (P : Nat → Prop) (L : List Itm) (W : World) : Prop where
  bel : Below w.heap.size w W
  rib : RibIn W rb tb N E peer own most F
  lo : w.heap.size ≤ ab
  flt : ∀ k, F k → k < w.heap.size
  sl : ∃ v, W.heap[ab]? = some (.cells #[v] 23 (0, 0)) ∧ OwnPs W w.heap.size v (L.map itP) ∧ (∀ g, v.ownBlock = some g → ¬ P g ∧ g ≠ ab)
  pab : ¬ P ab
  plt : ∀ b, P b → b < W.heap.size
section
variable {w W W' : World} {rb tb : Nat} {N : Nat → Option Nat} {E : List Ent} {peer own most : Int} {F P : Nat → Prop} {ab : Nat} {L : List Itm}
theorem CI.stab {P' : Nat → Prop} (h : CI w rb tb N E peer own most F ab P L W) (hb : Below W.heap.size W W') (hP : ∀ b, P' b → P b ∨ (W.heap.size ≤ b ∧ b < W'.heap.size)) : CI w rb tb N E peer own most F ab P' L W' := by
  obtain ⟨v, h1, h2, h3⟩ := h.sl
  refine ⟨below_on h.bel hb, h.rib.below hb, h.lo, h.flt, ⟨v, (hb.block _ (row_lt h1)).trans h1, h2.below hb, fun g hg => ⟨fun hp => ?_, (h3 g hg).2⟩⟩, fun hp => ?_, fun b hp => ?_⟩
  · rcases hP g hp with hp | hp
    · exact (h3 g hg).1 hp
    · have := own_lt h2.1 g hg; omega
  · rcases hP ab hp with hp | hp
    · exact h.pab hp
    · have := row_lt h1; omega
  · rcases hP b hp with hp | hp
    · exact Nat.lt_of_lt_of_le (h.plt b hp) hb.size
    · exact hp.2
/-- one more is gone. -/
theorem CI.step {w2 w3 : World} {v0 v3 : Value} {it : Itm} (h : CI w rb tb N E peer own most F ab P L W) (hab : W.heap[ab]? = some (.cells #[v0] 23 (0, 0))) (hre : OwnPs W w.heap.size v0 (L.map itP)) (hog : ∀ g, v0.ownBlock = some g → ¬ P g ∧ g ≠ ab)
    (b02 : Below W.heap.size W w2) (h2 : OwnPs w3 w.heap.size v3 ((L ++ [it]).map itP)) (hk3 : Kept (fun k => v0.ownBlock = some k) w2 w3) (hat : v3.ownBlock = v0.ownBlock ∨ v3.ownBlock = some w2.heap.size) :
    CI w rb tb N E peer own most F ab P (L ++ [it]) (w3.setCell ⟨ab, 0, none⟩ v3) ∧ Kept (fun b => ¬ P b) W (w3.setCell ⟨ab, 0, none⟩ v3) := by
  have hablt := row_lt hab
  have o0 := own_lt hre.1
  have o1 := own_form_le hre.1
  have s2 := b02.size
  have ws := h.bel.size
  have Kt : Kept (fun k => k = ab ∨ v0.ownBlock = some k) W (w3.setCell ⟨ab, 0, none⟩ v3) := (((Kept.of_below b02).trans (hk3.imp fun k hk => .inr hk)).put _ _ (.inl (.inl rfl)))
  have n3 : ∀ g, v3.ownBlock = some g → (v0.ownBlock = some g) ∨ g = w2.heap.size := fun g hg => by
    rcases hat with e | e
    · exact .inl (e ▸ hg)
    · rw [e] at hg; exact .inr (Option.some.inj hg).symm
  have n3ab : ∀ g, v3.ownBlock = some g → g ≠ ab := fun g hg e => by
    rcases n3 g hg with h1 | h1
    · exact (hog g h1).2 e
    · omega
  have hrow : w3.heap[ab]? = some (.cells #[v0] 23 (0, 0)) := (hk3.block ab (by omega) (fun h => (hog ab h).2 rfl)).trans ((b02.block ab hablt).trans hab)
  refine ⟨⟨h.bel.trans (Kt.below ws fun k hk => ?_), h.rib.kept Kt fun k hl hF hG => ?_, h.lo, h.flt, ⟨v3, ?_, h2.kept (Kept.setCell (F := fun k => k = ab) _ _ rfl) (fun g hg e => n3ab g hg e), ?_⟩, h.pab, fun b hb => Nat.lt_of_lt_of_le (h.plt b hb) Kt.size⟩, Kt.imp fun k hk hp => ?_⟩
  · rcases hk with rfl | hk
    · exact h.lo
    · exact o1 k hk
  · have := h.flt k hF
    have := h.lo
    rcases hG with rfl | hG
    · omega
    · have := o1 k hG; omega
  · rw [set_same hrow]; rfl
  · intro g hg
    rcases n3 g hg with h1 | h1
    · exact hog g h1
    · subst h1
      exact ⟨fun hp => by have := h.plt _ hp; omega, by omega⟩
  · rcases hk with rfl | hk
    · exact h.pab hp
    · exact (hog k hk).1 hp
end
set_option maxHeartbeats 3200000 in
set_option maxRecDepth 100000 in
theorem clear1_call {w : World} {rb tb : Nat} {N : Nat → Option Nat} {E : List Ent} {peer own most : Int} {F : Nat → Prop} {ab : Nat} (P : Nat → Prop) (L : List Itm) (W : World) (A i : Nat) (v : AV) (h : CI w rb tb N E peer own most F ab P L W)
    (hA : A < 4294967296) (hl : L.length < 8589934592) :
    Calls Tryz.prog 89 #[.agg #[.int .u32 A, .int .i64 i], v.V, .pointer (some ⟨ab, 0, none⟩)] W fun e w' => e = .returned (.bool true) ∧ CI w rb tb N E peer own most F ab P (L ++ [((A, i), v)]) w' ∧ Kept (fun b => ¬ P b) W w' := by
  obtain ⟨i0, hii, hz0, hz1, hz2⟩ := info_parts info_pref
  have HH := Lib.hid h
  have OKx : Hid (OkP (itP ((A, i), v))) := Lib.hid (by unfold itP OkP; simp only; omega)
  obtain ⟨v0, hab, hre, hog⟩ := h.sl
  obtain ⟨s0, cp0, hv0, -⟩ := own_form hre.1
  rw [List.length_map] at hv0
  subst hv0
  have HAB := Lib.hid hab
  have HRE := Lib.hid hre
  have HOG := Lib.hid hog
  have WB := Lib.hid h.bel.size
  clear h hab hre hog
  generalize hpp : itP ((A, i), v) = p at OKx
  have P1 : Hid ((A : Int) = p.1 ∧ (i : Int) = p.2) := Lib.hid (by rw [← hpp]; exact ⟨rfl, rfl⟩)
  have HPP := Lib.hid hpp
  have HL : Hid ((L.map itP).length = L.length) := Lib.hid (List.length_map ..)
  clear hpp
  go_enter Tryz.func89, Tryz.ntmps89
  go_upto_region 1 with (fail)
  obtain ⟨W0, hW0, c0, c1, -, hB⟩ := box_pa W A i v
  rw [← hW0]; clear hW0
  rw [P1.out.1] at c0
  rw [P1.out.2] at c1
  have q0 := (hB.block _ (row_lt HAB.out)).trans HAB.out
  have cv0 : W0.cell? ⟨ab, 0, none⟩ = some (.slice s0 L.length cp0) := row_cell q0 0
  have B0 := Lib.hid hB
  have hal : Below W0.heap.size W0 (W0.alloc (.cells #[.int .u32 p.1, .int .i64 p.2] 53)) := (Below.refl _ _).alloc (Nat.le_refl _) _
  have BA := Lib.hid (below_on hB hal)
  have OA := Lib.hid (HRE.out.below BA.out)
  have NC := Lib.hid (new_cells W0 #[.int .u32 p.1, .int .i64 p.2] 53)
  clear hB hal q0
  go_wp2_with (at_builtin; refine wpList_append_own_at _ rfl _ _ 23 rfl w.heap.size 53 i0 _ 2 16 Tryz.underlying23 hii hz0 hz1 hz2 rfl (by decide) (.slice s0 L.length cp0) (L.map itP).length ((L.map itP).flatMap encP) rfl OA.out.1 ⟨W0.heap.size, 0, none⟩ 1 1 [.int .u32 p.1, .int .i64 p.2] rfl rfl NC.out (encP_one p) (by have := HL.out; unfold maxLen; omega) (by have := HL.out; omega) (by have := WB.out; have := BA.out.size; omega) ?_)
  intro v3 w3 h2 h3 _ hat
  obtain ⟨s3, c3, hv3, -⟩ := own_form h2
  subst hv3
  have hk3 : Kept (fun k => Value.ownBlock (.slice s0 L.length cp0) = some k) (W0.alloc (.cells #[.int .u32 p.1, .int .i64 p.2] 53)) w3 := ⟨h3.os, h3.tape, h3.output, h3.size, fun k hk hne => h3.block k hk (fun e => hne e.symm)⟩
  have qab3 : w3.heap[ab]? = some (.cells #[.slice s0 L.length cp0] 23 (0, 0)) := (hk3.block _ (Nat.lt_of_lt_of_le (row_lt HAB.out) BA.out.size) (fun h => (HOG.out _ h).2 rfl)).trans ((BA.out.block _ (row_lt HAB.out)).trans HAB.out)
  have cv : w3.cell? ⟨ab, 0, none⟩ = some (.slice s0 L.length cp0) := row_cell qab3 0
  have fz := row_free qab3 0
  have HS := Lib.hid (HH.out.step (w2 := W0.alloc (.cells #[.int .u32 p.1, .int .i64 p.2] 53)) (it := ((A, i), v)) HAB.out HRE.out HOG.out BA.out (show OwnPs w3 w.heap.size _ ((L ++ [((A, i), v)]).map itP) by
    rw [List.map_append, List.map_cons, List.map_nil, HPP.out]
    refine ⟨?_, ?_⟩
    · rw [List.length_append, List.flatMap_append]; simpa [encP] using h2
    · intro q hq
      rcases List.mem_append.1 hq with hq | hq
      · exact HRE.out.2 q hq
      · simp at hq; subst hq; exact OKx.out) hk3 (by simpa using hat))
  clear h2 h3 hat hk3 qab3 cv0 c0 c1 OA NC BA B0
  go_wp2_with fail
  go_ret
  exact ⟨rfl, HS.out⟩
end Go.Proofs.YtkoidahgbbabiaaGreat

/-
  ALL ROUTES OF A PEER: Clear.
-/
namespace Go.Proofs.YtkoidahgbbabiaaGreat
open Go.RowKit Go.Lib

theorem each_clear {w : World} {rb tb : Nat} {N : Nat → Option Nat} {E : List Ent} {peer own most : Int} {F : Nat → Prop} {ab : Nat} :
    EachOkN tb N (kvs E) most 89 #[.pointer (some ⟨ab, 0, none⟩)] (fun _ => true) (CI w rb tb N E peer own most F ab) where
  ent := enters_of Tryz.func89 (by kernel_rfl) rfl
  stab P P' L W W' h hb hP := h.stab hb hP
  tri P L W h := h.rib.tri
  call P L W A i v h hA hR hg hl := clear1_call P L W A i v h hA hl
def ClearPost (rb : Nat) (peer own most : Int) (R : Rts) (F : Nat → Prop) (w : World) (e : Ending) (w' : World) : Prop :=
  ∃ v L F', e = .returned v ∧ OwnPs w' w.heap.size v L ∧ L.Pairwise plt ∧ (∀ p, p ∈ L ↔ (getL R p).isSome = true) ∧ RibAt w' rb peer own most [] F' ∧ (∀ k, F' k → F k ∨ (w.heap.size ≤ k ∧ k < w'.heap.size)) ∧ (∀ k, v.ownBlock = some k → ¬ F' k) ∧ Kept F w w'
theorem clear_fin {w w1 w2 : World} {rb tb : Nat} {N : Nat → Option Nat} {E : List Ent} {peer own most : Int} {F : Nat → Prop} {v : Value} {L : List Pf} (hs : L.Pairwise plt) (hm : ∀ p, p ∈ L ↔ (getL (rts E) p).isSome = true) (hb1 : Below w.heap.size w w1) (hr : RibIn w1 rb tb N E peer own most F) (hF : ∀ k, F k → k < w.heap.size)
    (ho : OwnPs w1 w.heap.size v L) (ht : TrI w2 w1.heap.size (fun _ => none) [] (min (max most 0) 4096)) (hb2 : Below w1.heap.size w1 w2) :
    ClearPost rb peer own most (rts E) F w (.returned v) (w2.setCell ⟨rb, 3, none⟩ (.pointer (some ⟨w1.heap.size, 0, none⟩))) := by
  have hrb := hF rb hr.frb
  have hsz := hb1.size
  have e : min (max most 0) 4096 = most := by have := hr.most0; have := hr.most1; omega
  rw [e] at ht
  have hlt := ht.lt
  have Kr : Kept (fun k => k = rb) w2 (w2.setCell ⟨rb, 3, none⟩ (.pointer (some ⟨w1.heap.size, 0, none⟩))) := Kept.setCell _ _ rfl
  refine ⟨v, L, fun k => k = rb ∨ k = w1.heap.size, rfl, (ho.below hb2).kept Kr (fun g hg e => by have := own_form_le ho.1 g hg; omega), hs, hm, ⟨w1.heap.size, fun _ => none, [], ⟨?_, ht.kept Kr (fun b hb => ?_), by simp, by simp, by simp, .inl rfl, fun b hb => ?_, by simp, fun hx => ?_, by simp, hr.most0, hr.most1, by have := hr.most0; simpa using this⟩, rfl⟩, fun k hk => ?_, fun g hg hk => ?_, ?_⟩
  · rw [set_same ((hb2.block rb (row_lt hr.row)).trans hr.row)]
    simp
  · rcases hb with rfl | ⟨k, hk⟩
    · intro e; omega
    · cases hk
  · rcases hb with rfl | ⟨k, hk⟩
    · exact .inr rfl
    · cases hk
  · rcases hx with hx | ⟨k, hk⟩
    · omega
    · cases hk
  · have := Kr.size
    rcases hk with rfl | rfl
    · exact .inl hr.frb
    · exact .inr (by omega)
  · have h1 := own_form_le ho.1 g hg
    have h2 := own_lt ho.1 g hg
    rcases hk with rfl | rfl <;> omega
  · have hb : Below w.heap.size w w2 := hb1.trans (hb2.mono hsz)
    exact (Kept.of_below hb).put _ _ (.inl hr.frb)
set_option maxHeartbeats 3200000 in
set_option maxRecDepth 100000 in
theorem ad_Clear_in {rb tb : Nat} {N : Nat → Option Nat} {E : List Ent} {peer own most : Int} {F : Nat → Prop} (w : World) (h : RibIn w rb tb N E peer own most F) (hF : ∀ k, F k → k < w.heap.size) :
    Calls Tryz.prog 41 #[.pointer (some ⟨rb, 0, none⟩)] w (ClearPost rb peer own most (rts E) F w) := by
  have HH := Lib.hid h
  have HFL := Lib.hid hF
  clear h hF
  go_enter Tryz.func41, Tryz.ntmps41
  go_upto_region 4 with (fail)
  obtain ⟨W0, hW0, qs, hB, -⟩ := box1 w #[.slice none 0 0] 23
  rw [← hW0]
  clear hW0
  have r3 := cell_below HH.out.cells.2.2.2 hB
  have I0 : Hid (CI w rb tb N E peer own most F w.heap.size (fun _ => False) [] W0) := Lib.hid ⟨hB, HH.out.below hB, Nat.le_refl _, HFL.out, ⟨_, qs, ownPs_nil _ _, by intro g hg; cases hg⟩, fun h => h, fun b hb => hb.elim⟩
  have AT := Lib.hid (trI_AllN each_clear [] (fun _ => False) W0 I0.out ln_0)
  rw [runL_all _ (fun _ => rfl)] at AT
  clear qs hB
  go_wp2_with fail
  refine AT.out.mono ?_
  rintro e w1 ⟨rfl, I1, -⟩
  obtain ⟨v, h1, h2, -⟩ := I1.sl
  simp only [List.nil_append] at h2
  obtain ⟨s1, c1, hv, -⟩ := own_form h2.1
  subst hv
  have II := Lib.hid I1
  have H1 := Lib.hid h1
  have H2 := Lib.hid h2
  have r2 := I1.rib.cells.2.2.1
  clear h1 h2 I1 AT r3
  go_wp2_with fail
  refine (trI_New most w1).mono ?_
  rintro e w2 ⟨rfl, T2, hb2⟩
  have r3 := cell_below II.out.rib.cells.2.2.2 hb2
  have f3 : w2.frozen? ⟨rb, 3, none⟩ = false := row_free ((hb2.block rb (row_lt II.out.rib.row)).trans II.out.rib.row) 3
  have cv : w2.cell? ⟨w.heap.size, 0, none⟩ = some (.slice s1 ((goP (kvs E) 32 0 0).map itP).length c1) := cell_below (row_cell H1.out 0) hb2
  have ne : ¬ rb = w.heap.size := by have := HFL.out rb HH.out.frb; omega
  have ne2 : ¬ w.heap.size = rb := fun e => ne e.symm
  have FIN := Lib.hid (clear_fin (all_srt (kvs E)) (all_mem HH.out.rgt) II.out.bel II.out.rib HFL.out H2.out T2 hb2)
  rw [List.length_map] at FIN
  clear T2 hb2 r2
  go_wp2_with fail
  go_ret
  exact FIN.out
theorem ad_Clear {rb : Nat} {peer own most : Int} {R : Rts} {F : Nat → Prop} (w : World) (h : RibAt w rb peer own most R F) (hF : ∀ k, F k → k < w.heap.size) : Calls Tryz.prog 41 #[.pointer (some ⟨rb, 0, none⟩)] w (ClearPost rb peer own most R F w) := by
  obtain ⟨tb, N, E, hI, rfl⟩ := h
  exact ad_Clear_in w hI hF
end Go.Proofs.YtkoidahgbbabiaaGreat

/-
  THE SERVER: who leaves takes its routes along.
-/
namespace Go.Proofs.YtkoidahgbbabiaaGreat
open Go.RowKit

theorem rts_right {W : World} {rb : Nat} {peer own most : Int} {R : Rts} {F : Nat → Prop} (h : RibAt W rb peer own most R F) {p : Pf} (hp : (getL R p).isSome = true) : RgtP p := by
  obtain ⟨tb, N, E, hI, rfl⟩ := h
  obtain ⟨a, ha⟩ := Option.isSome_iff_exists.1 hp
  rw [find_rts] at ha
  cases hf : findE E p with
  | none => rw [hf] at ha; cases ha
  | some e =>
    obtain ⟨h1, rfl⟩ := findE_mem hf
    exact hI.rgt e h1
theorem away_is (S : Sv) (i : Nat) : modS (modS S i (withThere false)) i (withNews fun _ => false) = awayS S i := by rw [modS_mod]; rfl
section
variable {W : World} {rho : Nat → Role} {sb fb : Nat} {ls : List Pl} {S : Sv}
def LeavePost (sb fb : Nat) (ls : List Pl) (S : Sv) (i : Nat) (m : Pm) (rho : Nat → Role) (W : World) (e : Ending) (w' : World) : Prop :=
  ∃ (rho' : Nat → Role) (s : Option Addr) (c : Nat) (L : List Pf), e = .returned (.tuple #[.slice s L.length c, .int .i64 0]) ∧ L.Pairwise plt ∧ (∀ p, p ∈ L ↔ (getL m.R p).isSome = true) ∧ SrvM w' rho' sb fb ls (leaveS S i L) ∧ Step rho rho' W w' ∧ On (fun k => rho' k = .no) w' (fun W => PsAt W (.slice s L.length c) L)
set_option maxHeartbeats 6400000 in
set_option maxRecDepth 100000 in
theorem sv_Leave (h : SrvM W rho sb fb ls S) {i : Nat} {m : Pm} (hm : S.ms[i]? = some m) (hth : m.there = true) :
    Calls Tryz.prog 24 #[.pointer (some ⟨sb, 0, none⟩), .int .i64 i] W (LeavePost sb fb ls S i m rho W) := by
  obtain ⟨l, hl, hM⟩ := h.get hm
  have m2 : W.cell? ⟨l.mb, 2, none⟩ = some (.bool true) := by rw [← hth]; exact row_cell hM.row 2
  have m2f : W.frozen? ⟨l.mb, 2, none⟩ = false := row_free hM.row 2
  have MB := Lib.hid (sv_member h hl)
  have HS := Lib.hid h
  have HL := Lib.hid hl
  have HM := Lib.hid hm
  have ROW := Lib.hid hM.row
  clear h hm hl hM hth
  go_enter Tryz.func24, Tryz.ntmps24
  go_wp2_with fail
  refine MB.out.mono ?_
  rintro e w1 ⟨rfl, rfl⟩
  have X1 := Lib.hid (HS.out.setT HM.out HL.out false (Kept.setCell ⟨l.mb, 2, none⟩ (.bool false) rfl) (set_same ROW.out 2 (.bool false)))
  go_upto_region 7 with (fail)
  obtain ⟨w2, hw2⟩ : ∃ w2 : World, w2 = W.setCell ⟨l.mb, 2, none⟩ (.bool false) := ⟨_, rfl⟩
  rw [← hw2] at X1 ⊢
  have HM2 : Hid ((modS S i (withThere false)).ms[i]? = some (withThere false m)) := Lib.hid (by rw [modS_get, HM.out]; simp)
  have hM2 := X1.out.1.bod.mem i _ l HM2.out HL.out
  have b5 : w2.cell? ⟨l.mb, 5, none⟩ = some (.map (some l.nb)) := row_cell hM2.row 5
  obtain ⟨N, hN⟩ := hM2.news
  obtain ⟨o2, hs2, hm2⟩ := hN.map.empty Tryz.underlying128 w2 rfl
  have hk2 : Kept (fun k => k = l.nb) w2 (ChangeMaps.setBlock w2 l.nb o2) := Kept.setBlock o2 rfl
  have PN := Lib.hid (X1.out.1.setN HM2.out HL.out (fun _ => false) (N' := []) (fun p => rfl) (fun x hx => by cases hx) hk2 hm2)
  clear hw2 hM2 hN hm2 hk2 m2 m2f
  go_upto_region 8 with (fail)
  obtain ⟨w3, hw3⟩ : ∃ w3 : World, w3 = ChangeMaps.setBlock w2 l.nb o2 := ⟨_, rfl⟩
  rw [← hw3] at PN ⊢
  have D3 : Hid (SrvM w3 rho sb fb ls (awayS S i) ∧ Step rho rho W w3) := Lib.hid ⟨by rw [← away_is]; exact PN.out.1, X1.out.2.trans PN.out.2⟩
  have HM3 : Hid ((awayS S i).ms[i]? = some { m with there := false, news := fun _ => false }) := Lib.hid (by unfold awayS; rw [modS_get, HM.out]; simp)
  have hM3 := D3.out.1.bod.mem i _ l HM3.out HL.out
  have b3 : w3.cell? ⟨l.mb, 3, none⟩ = some (.pointer (some ⟨l.rb, 0, none⟩)) := row_cell hM3.row 3
  have CL := Lib.hid (ad_Clear w3 hM3.rib (fun k hk => D3.out.1.dom k (by rw [hk]; intro e; cases e)))
  have RGT : Hid (∀ p, (getL m.R p).isSome = true → RgtP p) := Lib.hid (fun p hp => rts_right hM3.rib hp)
  clear b5 hs2 hw3 X1 PN hM3
  go_wp2_with fail
  refine CL.out.mono ?_
  rintro e w4 ⟨v, L, F', rfl, ow, srt, mem, hrb, hF', hv, hk⟩
  obtain ⟨s, c, rfl, -⟩ := own_form ow.1
  have SR := Lib.hid (D3.out.1.setRib HM3.out HL.out hrb hF' hk (fun p a h => by simp [getL] at h))
  have NO : Hid (On (fun k => extP rho w3 F' (.rib i) k = .no) w4 (fun W => PsAt W (.slice s L.length c) L)) := Lib.hid (((own_on ow.1).wide (G := fun k => extP rho w3 F' (.rib i) k = .no) fun k hk _ => extP_no (own_form_le ow.1 k hk) (hv k hk)).imp fun W h => OwnPs.at ⟨h, ow.2⟩)
  have ST := Lib.hid (D3.out.2.trans SR.out.2)
  generalize extP rho w3 F' (.rib i) = rho4 at SR NO ST
  have MEM : Hid (∀ p, p ∈ L ↔ (getL m.R p).isSome = true) := Lib.hid mem
  have SRT := Lib.hid srt
  have TN := Lib.hid (sv_turn SR.out.1 (.slice s L.length c) L NO.out (fun p hp => RGT.out p ((MEM.out p).1 hp)))
  clear ow srt mem hrb hF' hv hk CL b3 D3
  go_wp2_with fail
  refine TN.out.mono ?_
  rintro e w5 ⟨rho5, rfl, hs5, st5⟩
  have FIN : Hid (LeavePost sb fb ls S i m rho W (.returned (.tuple #[.slice s L.length c, .int .i64 0])) w5) := Lib.hid ⟨rho5, s, c, L, rfl, SRT.out, MEM.out, hs5, ST.out.trans st5, st5.free NO.out⟩
  clear TN hs5 st5 NO ST SR
  go_wp2_with fail
  refine bodyPost_ret (v := .tuple #[.slice s L.length c, .int .i64 0]) (by simp [results, Tryz.results24, go_sem]) rfl FIN.out
end
end Go.Proofs.YtkoidahgbbabiaaGreat

/-
  THE SERVER: a receiver's best route to a prefix, walked.
-/
namespace Go.Proofs.YtkoidahgbbabiaaGreat
open Go.RowKit

section
variable {W : World} {rho : Nat → Role} {sb fb : Nat} {ls : List Pl} {S : Sv}
set_option maxHeartbeats 3200000 in
set_option maxRecDepth 100000 in
theorem sv_Best (h : SrvM W rho sb fb ls S) {i : Nat} {m : Pm} (hm : S.ms[i]? = some m) (p : Pf) (hp : RgtP p) :
    Calls Tryz.prog 27 #[.pointer (some ⟨sb, 0, none⟩), .int .i64 i, .agg #[.int .u32 p.1, .int .i64 p.2]] W (BestPost (S.best i p) p W) := by
  obtain ⟨l, hl, hM⟩ := h.get hm
  obtain ⟨L, hL⟩ := hM.bests
  have MB := Lib.hid (fun w' (hb : Below W.heap.size W w') => sv_member (h.below hb) hl)
  have HP := Lib.hid hp
  have BL := Lib.hid hL
  have mb4 : W.cell? ⟨l.mb, 4, none⟩ = some (.map (some l.bb)) := row_cell hM.row 4
  have BG := Lib.hid (hL.get p)
  obtain ⟨old, hold⟩ : ∃ old, getL L p = old := ⟨_, rfl⟩
  have HOLD := Lib.hid hold
  rw [hold] at BG
  clear h hm hl hM hp hL hold
  go_enter Tryz.func27, Tryz.ntmps27
  go_upto_region 1 with (fail)
  obtain ⟨W0, hW0, p0, p1, rz, hB⟩ := box_pr W p.1 p.2
  rw [← hW0]
  obtain ⟨pb, hpb⟩ : ∃ pb, pb = W.heap.size := ⟨_, rfl⟩
  rw [← hpb] at p0 p1 rz
  have PB := Lib.hid hpb
  have B0 := Lib.hid hB
  have RZ := Lib.hid rz
  have mb4 := cell_below mb4 hB
  rw [← hpb]
  clear hW0 hB rz hpb
  go_wp2_with fail
  refine (MB.out W0 B0.out).mono ?_
  rintro e w1 ⟨rfl, rfl⟩
  go_upto_region 4 with (fail)
  have LK : Hid (∀ w', Below W0.heap.size W0 w' → (Instr.lookup 64 (.map (some l.bb)) (pfV p) true).run Tryz.prog w' = .ok (.tuple #[((getL L p).map bvV).getD (.agg (rtC 0 (0, 0) av0)), .bool (getL L p).isSome]) w') := Lib.hid (fun w' hb => BL.out.map.look pf_enc Tryz.underlying64 p HP.out.key zero_rt w' ((below_on B0.out hb).block _ BL.out.map.lt) true)
  rw [HOLD.out] at LK
  obtain ⟨ov, hov⟩ : ∃ ov : Int × Pf × AV, ovOf old = ov := ⟨_, rfl⟩
  have EV : Hid ((old.map bvV).getD (.agg (rtC 0 (0, 0) av0)) = .agg (rtC ov.1 ov.2.1 ov.2.2)) := Lib.hid (by rw [← hov]; cases old <;> rfl)
  rw [EV.out] at LK
  have HOV := Lib.hid hov
  clear hov
  obtain ⟨had, hhad⟩ : ∃ had, old.isSome = had := ⟨_, rfl⟩
  rw [hhad] at LK
  have HHAD := Lib.hid hhad
  clear hhad
  go_cut [9, 10] from 17 to 25 (fun s9 s10 wx => ∃ b9 : Nat, s9 = .pointer (some ⟨b9, 0, none⟩) ∧ s10 = .bool had ∧ Hid (Below W0.heap.size W0 wx ∧ wx.heap[b9]? = some (.cells (rtC ov.1 ov.2.1 ov.2.2) 61 (0, 0)) ∧ W0.heap.size ≤ b9))
  case first =>
    refine wp_region_held_drew (S := fun w' => Below W0.heap.size W0 w') (by kernel_rfl) ?_ (fun hHeld => ?_)
    · exact (Below.refl _ _).drew
    generalize World.drew W0 = wd at hHeld ⊢
    refine rgy (i := 0) (v := ?_) (atN rfl) (by kernel_rfl) (fun _ _ _ h => h) ?_ ?_ hHeld ?_; rotate_left 1; (· rfl); (· intro w' hSw; (try clear hHeld); go_simp; try with_reducible rfl)
    try simp only [Act.put, List.setIfInBounds_toArray, List.set_cons_zero, List.set_cons_succ]
    refine rgy (i := 4) (v := ?_) (atN rfl) (by kernel_rfl) (fun _ _ _ h => h) ?_ ?_ hHeld ?_; rotate_left 1; (· rfl); (· intro w' hSw; have p0 := cell_below p0 hSw; have p1 := cell_below p1 hSw; have mb4 := cell_below mb4 hSw; (try clear hHeld); go_simp; try with_reducible rfl)
    try simp only [Act.put, List.setIfInBounds_toArray, List.set_cons_zero, List.set_cons_succ]
    refine rg_call2 (i := 1) (j := 9) (atS at0) (atS (atS (atS (atS (atS (atS (atS (atS (atS at0))))))))) (by kernel_rfl) ?_ ?_ (fun K hK => ?_) (fun K hK => ?_)
    · rfl
    · rfl
    · (try clear hb); go_simp; go_wp2_with fail; refine hK.out _ _ ?_ (fun hHeld => ?_); (· exact hHeld); clear hK K
      try simp only [Act.put, List.setIfInBounds_toArray, List.set_cons_zero, List.set_cons_succ]
      refine rgy (i := 2) (v := ?_) (atN rfl) (by kernel_rfl) (fun _ _ _ h => h) ?_ ?_ hHeld ?_; rotate_left 1; (· rfl); (· intro w' hSw; (try clear hHeld); go_simp; try with_reducible rfl)
      try simp only [Act.put, List.setIfInBounds_toArray, List.set_cons_zero, List.set_cons_succ]
      refine rgy (i := 3) (v := ?_) (atN rfl) (by kernel_rfl) (fun _ _ _ h => h) ?_ ?_ hHeld ?_; rotate_left 1; (· rfl); (· intro w' hSw; have p0 := cell_below p0 hSw; have p1 := cell_below p1 hSw; have mb4 := cell_below mb4 hSw; (try clear hHeld); go_simp; try with_reducible rfl)
      try simp only [Act.put, List.setIfInBounds_toArray, List.set_cons_zero, List.set_cons_succ]
      refine rgy (i := 5) (v := ?_) (atN rfl) (by kernel_rfl) (fun _ _ _ h => h) ?_ ?_ hHeld ?_; rotate_left 1; (· rfl); (· intro w' hSw; have lk := LK.out w' hSw; (try clear hHeld); go_simp; try with_reducible rfl)
      try simp only [Act.put, List.setIfInBounds_toArray, List.set_cons_zero, List.set_cons_succ]
      refine rgy (i := 6) (v := ?_) (atN rfl) (by kernel_rfl) (fun _ _ _ h => h) ?_ ?_ hHeld ?_; rotate_left 1; (· rfl); (· intro w' hSw; (try clear hHeld); go_simp; try with_reducible rfl)
      try simp only [Act.put, List.setIfInBounds_toArray, List.set_cons_zero, List.set_cons_succ]
      refine rgy (i := 7) (v := ?_) (atN rfl) (by kernel_rfl) (fun _ _ _ h => h) ?_ ?_ hHeld ?_; rotate_left 1; (· rfl); (· intro w' hSw; (try clear hHeld); go_simp; try with_reducible rfl)
      try simp only [Act.put, List.setIfInBounds_toArray, List.set_cons_zero, List.set_cons_succ]
      refine rgy (i := 8) (v := ?_) (atN rfl) (by kernel_rfl) (fun _ _ _ h => h) ?_ ?_ hHeld ?_; rotate_left 1; (· rfl); (· intro w' hSw; (try clear hHeld); go_simp; try with_reducible rfl)
      try simp only [Act.put, List.setIfInBounds_toArray, List.set_cons_zero, List.set_cons_succ]
      refine rg_call (i := 9) (atN rfl) (by kernel_rfl) ?_ (fun K hK => ?_); (· rfl); (try clear hb); go_simp; refine box_zrt (p := K _) ?_; intro w1 hz hb1; have hgs := hHeld.size; refine hK.out _ _ ?_ (fun hHeld => ?_); (· exact below_on hHeld hb1); clear hK K
      try simp only [Act.put, List.setIfInBounds_toArray, List.set_cons_zero, List.set_cons_succ]
      refine rg_call (i := 10) (atN rfl) (by kernel_rfl) ?_ (fun K hK => ?_); (· rfl); (try clear hb); refine wp_store_rowat 61 (.tmp 9) (.tmp 24) rfl _ rfl 61 (rtC 0 (0, 0) av0) _ rfl hz (by kernel_rfl) rfl (rt_one _ _ _) ?_; refine setRow_k hz (p := K _) ?_; intro w2 hr hk2; refine hK.out _ _ ?_ (fun hHeld => ?_); (· exact hHeld.trans (hk2.below hHeld.size (by rintro k rfl; exact hgs))); clear hK K
      try simp only [Act.put]
      refine rgy (i := 11) (v := ?_) (atN rfl) (by kernel_rfl) (fun _ _ _ h => h) ?_ ?_ hHeld ?_; rotate_left 1; (· rfl); (· intro w' hSw; (try clear hHeld); go_simp; try with_reducible rfl)
      try simp only [Act.put, List.setIfInBounds_toArray, List.set_cons_zero, List.set_cons_succ]
      refine wpAnyH_done (by kernel_rfl) ?_ _
      go_wp2_with fail
      go_meet
      exact ⟨_, rfl, rfl, Lib.hid ⟨hHeld, hr, hgs⟩⟩
    · (try clear hb); go_simp; refine box_zrt (p := K _) ?_; intro w1 hz hb1; have hgs := hHeld.size; refine hK.out _ _ ?_ (fun hHeld => ?_); (· exact below_on hHeld hb1); clear hK K
      try simp only [Act.put, List.setIfInBounds_toArray, List.set_cons_zero, List.set_cons_succ]
      refine rg_call (i := 1) (atN rfl) (by kernel_rfl) ?_ (fun K hK => ?_); (· rfl); (try clear hb); go_simp; go_wp2_with fail; refine hK.out _ _ ?_ (fun hHeld => ?_); (· exact hHeld); clear hK K
      try simp only [Act.put, List.setIfInBounds_toArray, List.set_cons_zero, List.set_cons_succ]
      refine rgy (i := 2) (v := ?_) (atN rfl) (by kernel_rfl) (fun _ _ _ h => h) ?_ ?_ hHeld ?_; rotate_left 1; (· rfl); (· intro w' hSw; (try clear hHeld); go_simp; try with_reducible rfl)
      try simp only [Act.put, List.setIfInBounds_toArray, List.set_cons_zero, List.set_cons_succ]
      refine rgy (i := 3) (v := ?_) (atN rfl) (by kernel_rfl) (fun _ _ _ h => h) ?_ ?_ hHeld ?_; rotate_left 1; (· rfl); (· intro w' hSw; have p0 := cell_below p0 hSw; have p1 := cell_below p1 hSw; have mb4 := cell_below mb4 hSw; (try clear hHeld); go_simp; try with_reducible rfl)
      try simp only [Act.put, List.setIfInBounds_toArray, List.set_cons_zero, List.set_cons_succ]
      refine rgy (i := 5) (v := ?_) (atN rfl) (by kernel_rfl) (fun _ _ _ h => h) ?_ ?_ hHeld ?_; rotate_left 1; (· rfl); (· intro w' hSw; have lk := LK.out w' hSw; (try clear hHeld); go_simp; try with_reducible rfl)
      try simp only [Act.put, List.setIfInBounds_toArray, List.set_cons_zero, List.set_cons_succ]
      refine rgy (i := 6) (v := ?_) (atN rfl) (by kernel_rfl) (fun _ _ _ h => h) ?_ ?_ hHeld ?_; rotate_left 1; (· rfl); (· intro w' hSw; (try clear hHeld); go_simp; try with_reducible rfl)
      try simp only [Act.put, List.setIfInBounds_toArray, List.set_cons_zero, List.set_cons_succ]
      refine rgy (i := 7) (v := ?_) (atN rfl) (by kernel_rfl) (fun _ _ _ h => h) ?_ ?_ hHeld ?_; rotate_left 1; (· rfl); (· intro w' hSw; (try clear hHeld); go_simp; try with_reducible rfl)
      try simp only [Act.put, List.setIfInBounds_toArray, List.set_cons_zero, List.set_cons_succ]
      refine rgy (i := 8) (v := ?_) (atN rfl) (by kernel_rfl) (fun _ _ _ h => h) ?_ ?_ hHeld ?_; rotate_left 1; (· rfl); (· intro w' hSw; (try clear hHeld); go_simp; try with_reducible rfl)
      try simp only [Act.put, List.setIfInBounds_toArray, List.set_cons_zero, List.set_cons_succ]
      refine rg_call (i := 10) (atN rfl) (by kernel_rfl) ?_ (fun K hK => ?_); (· rfl); (try clear hb); refine wp_store_rowat 61 (.tmp 9) (.tmp 24) rfl _ rfl 61 (rtC 0 (0, 0) av0) _ rfl hz (by kernel_rfl) rfl (rt_one _ _ _) ?_; refine setRow_k hz (p := K _) ?_; intro w2 hr hk2; refine hK.out _ _ ?_ (fun hHeld => ?_); (· exact hHeld.trans (hk2.below hHeld.size (by rintro k rfl; exact hgs))); clear hK K
      try simp only [Act.put]
      refine rgy (i := 11) (v := ?_) (atN rfl) (by kernel_rfl) (fun _ _ _ h => h) ?_ ?_ hHeld ?_; rotate_left 1; (· rfl); (· intro w' hSw; (try clear hHeld); go_simp; try with_reducible rfl)
      try simp only [Act.put, List.setIfInBounds_toArray, List.set_cons_zero, List.set_cons_succ]
      refine wpAnyH_done (by kernel_rfl) ?_ _
      go_wp2_with fail
      go_meet
      exact ⟨_, rfl, rfl, Lib.hid ⟨hHeld, hr, hgs⟩⟩
  case rest =>
    obtain ⟨b9, rfl, rfl, HH⟩ := hcut
    obtain ⟨w1, hw1⟩ : ∃ w1 : World, w1 = wc := ⟨_, rfl⟩
    rw [← hw1] at HH ⊢
    have B1 := Lib.hid (below_on B0.out HH.out.1)
    have Q9 := Lib.hid HH.out.2.1
    have RZ1 := Lib.hid ((HH.out.1.block _ (row_lt RZ.out)).trans RZ.out)
    clear hw1 HH LK p0 p1 mb4 RZ
    rcases had with _ | _
    · have BN : Hid (S.best i p = none) := Lib.hid (by rw [← BG.out]; have := HHAD.out; cases old <;> simp_all)
      go_wp2_with ((with_reducible refine halt_at (X := .store 61 (.tmp 6) (.tmp 28)) ?_ ?_); (· rfl))
      unfold Halt
      refine st_row rfl 61 _ _ rfl (pb + 1) rfl 61 (rtC 0 (0, 0) av0) (rtC 0 (0, 0) av0) rfl RZ1.out (by kernel_rfl) rfl (rt_one _ _ _) ?_
      go_wp2_with fail
      refine bodyPost_ret (results_BestOf _ _ (pb + 1) (rtC 0 (0, 0) av0) rfl false ?_ ?_ (setRow_heap _ _ _ _ _ _ RZ1.out)) rfl (.inl ⟨BN.out, rfl, below_setRow B1.out (by have := PB.out; omega) _⟩) <;> rfl
    · obtain ⟨b, hb⟩ : ∃ b, old = some b := by
        have := HHAD.out
        cases old with
        | none => simp at this
        | some b => exact ⟨b, rfl⟩
      have hv := BL.out.val (p, b) (getL_mem (HOLD.out.trans hb))
      have BS : Hid (S.best i p = some (b.peer, b.a)) := Lib.hid (by rw [← BG.out, hb]; rfl)
      obtain ⟨op, onet, ova⟩ := ov
      have ho : (b.peer, b.net, b.v) = (op, onet, ova) := by have := HOV.out; rw [hb] at this; exact this
      injection ho with ho1 ho2
      injection ho2 with ho2 ho3
      obtain rfl : onet = p := ho2.symm.trans hv.1
      have GA := Lib.hid hv.2.2.1
      have AV := Lib.hid ((hv.2.2.2.below B1.out).self.at)
      rw [ho3] at AV
      rw [ho1] at BS
      have CL := Lib.hid (sv_clone op onet b.a ova w1 AV.out GA.out.sz)
      clear hb hv ho1 ho2 ho3 HOV HOLD
      go_wp2_with ((with_reducible refine halt_at (X := .load 61 (.tmp 9)) ?_ ?_); (· rfl))
      unfold Halt
      refine ld_at (by rfl) 61 (.tmp 9) rfl b9 rfl 61 (rtC op onet ova) (0, 0) _ Q9.out Tryz.underlying61 rfl sz_rt ?_
      go_wp2_with fail
      refine CL.out.mono ?_
      rintro e w2 ⟨u, rfl, fr, hb2⟩
      have FR := Lib.hid fr
      have B2 := Lib.hid (below_on B1.out hb2)
      have RZ2 := Lib.hid ((hb2.block _ (row_lt RZ1.out)).trans RZ1.out)
      have LT : Hid (pb + 1 < w1.heap.size) := Lib.hid (row_lt RZ1.out)
      clear fr hb2 CL
      go_wp2_with ((with_reducible refine halt_at (X := .store 61 (.tmp 6) (.tmp 30)) ?_ ?_); (· rfl))
      unfold Halt
      refine st_row rfl 61 _ _ rfl (pb + 1) rfl 61 (rtC 0 (0, 0) av0) (rtC op onet u) rfl RZ2.out (by kernel_rfl) rfl (rt_one _ _ _) ?_
      have HK := Lib.hid (kept_setRow (w := w2) (F := fun k => k = pb + 1) (pb + 1) (rtC op onet u) rfl)
      have FU : Hid (Fresh W.heap.size (w2.setRow (pb + 1) (rtC op onet u)) (fun W => AvU W b.a u)) := Lib.hid ((FR.out.kept HK.out (fun k _ hl e => by have := LT.out; omega)).wide (fun k hk _ => by have := LT.out; have := PB.out; omega))
      go_wp2_with fail
      refine bodyPost_ret (results_BestOf _ _ (pb + 1) (rtC op onet u) rfl true ?_ ?_ (setRow_heap _ _ _ _ _ _ RZ2.out)) rfl (.inr ⟨op, b.a, u, BS.out, rfl, GA.out, FU.out, below_setRow B2.out (by have := PB.out; omega) _⟩) <;> rfl
end
end Go.Proofs.YtkoidahgbbabiaaGreat

/-
  THE SERVER, MADE: participants as they are handed in; what there is of a server under way.
-/
namespace Go.Proofs.YtkoidahgbbabiaaGreat
open Go.RowKit

/-- a participant as it is handed in: its system, its number. -/
abbrev Sd := Int × Nat
def sdL (x : Sd) : List Value := [.int .i64 x.1, .int .u32 x.2]
def SdC (x : Sd) (cs : List Value) : Prop := cs = sdL x ∧ x.2 < 4294967296 ∧ I64r x.1
abbrev SdsAt (W : World) (v : Value) (xs : List Sd) : Prop := SlAt W 2 SdC v xs
def sysB (n : Int) : Bool := decide (1 ≤ n ∧ n ≤ 65535)
def sdB (x : Sd) : Bool := sysB x.1 && !(x.2 == 0)
def newCd (own : Int) (xs : List Sd) : Int := if sysB own = false ∨ xs.length = 0 then 1 else if 16 < xs.length then 3 else if xs.all sdB then 0 else 1
def pmOf (x : Sd) : Pm := ⟨x.1, x.2, false, [], fun _ => false⟩
def newSv (own most : Int) (xs : List Sd) : Sv := ⟨own, min (max most 0) 256, fun _ => false, xs.map pmOf, fun _ _ => none⟩
set_option maxRecDepth 100000 in
theorem sv_system (n : Int) (w : World) : Calls Tryz.prog 56 #[.int .i64 n] w fun e w' => e = .returned (.bool (sysB n)) ∧ w = w' := by
  by_cases h1 : 1 ≤ n
  · by_cases h2 : n ≤ 65535
    · have e : sysB n = true := by unfold sysB; simp [h1, h2]
      have d1 : decide (n ≥ 1) = true := by simpa using h1
      have d2 : decide (n ≤ 65535) = true := by simpa using h2
      rw [e]
      clear e h1 h2
      go_enter Tryz.func56, Tryz.ntmps56
      go_wp2_with fail
      go_ret
      exact ⟨rfl, rfl⟩
    · have e : sysB n = false := by unfold sysB; simp [h2]
      have d1 : decide (n ≥ 1) = true := by simpa using h1
      have d2 : decide (n ≤ 65535) = false := by simpa using h2
      rw [e]
      clear e h1 h2
      go_enter Tryz.func56, Tryz.ntmps56
      go_wp2_with fail
      go_ret
      exact ⟨rfl, rfl⟩
  · have e : sysB n = false := by unfold sysB; simp [h1]
    have d1 : decide (n ≥ 1) = false := by simpa using h1
    rw [e]
    clear e h1
    go_enter Tryz.func56, Tryz.ntmps56
    go_wp2_with fail
    go_ret
    exact ⟨rfl, rfl⟩
def plC (l : Pl) : List Value := [.pointer (some ⟨l.mb, 0, none⟩)]
/-- a server under way: so many participants are made. -/
structure NewAt (w0 W : World) (sb fb : Nat) (own most : Int) (xs : List Sd) (k : Nat) (s : Option Addr) (c : Nat) (ls : List Pl) (rho : Nat → Role) : Prop where
  top : W.heap[sb]? = some (.cells #[.slice s k c, .pointer (some ⟨fb, 0, none⟩)] 125 (0, 0))
  row : W.ownsRow w0.heap.size 126 1 (.slice s k c) k (ls.flatMap plC)
  fil : FilAt W fb own (fun _ => false)
  mem : ∀ (i : Nat) l x, ls[i]? = some l → xs[i]? = some x → PmAt W rho own most i (pmOf x) (fun _ => none) l
  len : ls.length = k
  low : ∀ j, rho j ≠ .no → w0.heap.size ≤ j ∧ j < W.heap.size
  nfb : rho fb = .no
  nsb : rho sb = .no
  fs : fb ≠ sb
  srow : ∀ g, (Value.slice s k c).ownBlock = some g → rho g = .no ∧ g ≠ sb ∧ g ≠ fb
  gsb : w0.heap.size ≤ sb
  gfb : w0.heap.size ≤ fb
  bel : Below w0.heap.size w0 W
noncomputable def newRho (rho : Nat → Role) (W : World) (i lo hi bb nb mb : Nat) (k : Nat) : Role := by
  classical exact if k < W.heap.size then rho k else if lo ≤ k ∧ k < hi then .rib i else if k = bb then .best i else if k = nb then .news i else if k = mb then .mem i else .no
theorem NewAt.below {w0 W W' : World} {sb fb : Nat} {own most : Int} {xs : List Sd} {k : Nat} {s : Option Addr} {c : Nat} {ls : List Pl} {rho : Nat → Role} (h : NewAt w0 W sb fb own most xs k s c ls rho) (hb : Below W.heap.size W W') : NewAt w0 W' sb fb own most xs k s c ls rho :=
  ⟨(hb.block _ (row_lt h.top)).trans h.top, own_below h.row hb, h.fil.below hb, fun i l x hl hx => (h.mem i l x hl hx).kept (fun _ _ => rfl) (Kept.of_below (F := fun _ => False) hb) fun _ _ _ h => h, h.len, fun j hj => ⟨(h.low j hj).1, Nat.lt_of_lt_of_le (h.low j hj).2 hb.size⟩, h.nfb, h.nsb, h.fs, h.srow, h.gsb, h.gfb, below_on h.bel hb⟩
section
variable {w0 W W4 W5 W6 : World} {sb fb : Nat} {own most : Int} {xs : List Sd} {k : Nat} {s : Option Addr} {c : Nat} {ls : List Pl} {rho : Nat → Role}
/-- one more participant. -/
theorem NewAt.step (h : NewAt w0 W sb fb own most xs k s c ls rho) {x : Sd} (hx : xs[k]? = some x) (hx1 : 1 ≤ x.1 ∧ x.1 ≤ 65535) (hx2 : 0 < x.2 ∧ x.2 < 4294967296) {rb lo hi bb nb mb : Nat}
    (hrib : RibAt W4 rb k own most [] (fun j => lo ≤ j ∧ j < hi)) (hb : BestT W4 bb []) (hn : NewsT W4 nb []) (hm : W4.heap[mb]? = some (.cells (mbC (pmOf x) ⟨mb, rb, bb, nb⟩) 130 (0, 0)))
    (b04 : Below W.heap.size W W4) (hlo : W.heap.size ≤ lo) (hhi : hi ≤ W4.heap.size) (gbb : W.heap.size ≤ bb) (gnb : W.heap.size ≤ nb) (gmb : W.heap.size ≤ mb)
    (n1 : ¬ (lo ≤ bb ∧ bb < hi)) (n2 : ¬ (lo ≤ nb ∧ nb < hi)) (n3 : ¬ (lo ≤ mb ∧ mb < hi)) (n4 : nb ≠ bb) (n5 : mb ≠ bb) (n6 : mb ≠ nb)
    (b45 : Below W4.heap.size W4 W5) {v' : Value} (hown : W6.ownsRow w0.heap.size 126 1 v' (k + 1) (ls.flatMap plC ++ [.pointer (some ⟨mb, 0, none⟩)]))
    (hg : Kept (fun b => (Value.slice s k c).ownBlock = some b) W5 W6) (hat : v'.ownBlock = (Value.slice s k c).ownBlock ∨ v'.ownBlock = some W5.heap.size) :
    ∃ (s' : Option Addr) (c' : Nat) (rho' : Nat → Role), v' = .slice s' (k + 1) c' ∧ NewAt w0 (W6.setCell ⟨sb, 0, none⟩ v') sb fb own most xs (k + 1) s' c' (ls ++ [⟨mb, rb, bb, nb⟩]) rho' := by
  obtain ⟨s', c', rfl, -⟩ := own_form hown
  have hn7 := hn.lt
  have hb7 := hb.lt
  have hm7 := row_lt hm
  have s4 := b04.size
  have s5 := b45.size
  have s6 := hg.size
  have fbl := h.fil.lt
  have sbl := row_lt h.top
  have ol := own_lt h.row
  -- all but the top's block and the row's is as it was
  have K : Kept (fun b => b = sb ∨ (Value.slice s k c).ownBlock = some b) W4 (W6.setCell ⟨sb, 0, none⟩ (.slice s' (k + 1) c')) :=
    ((Kept.of_below b45).trans (hg.imp fun b hb => .inr hb)).trans (Kept.setCell _ _ (.inl rfl))
  have K0 : Kept (fun b => b = sb ∨ (Value.slice s k c).ownBlock = some b) W (W6.setCell ⟨sb, 0, none⟩ (.slice s' (k + 1) c')) := (Kept.of_below b04).trans K
  have hr : ∀ j, rho j ≠ .no → newRho rho W k lo hi bb nb mb j = rho j := fun j hj => by
    unfold newRho; rw [if_pos (h.low j hj).2]
  have r1 : ∀ j, lo ≤ j → j < hi → newRho rho W k lo hi bb nb mb j = .rib k := fun j h1 h2 => by
    unfold newRho; rw [if_neg (by omega), if_pos ⟨h1, h2⟩]
  have r2 : newRho rho W k lo hi bb nb mb bb = .best k := by unfold newRho; rw [if_neg (by omega), if_neg n1, if_pos rfl]
  have r3 : newRho rho W k lo hi bb nb mb nb = .news k := by unfold newRho; rw [if_neg (by omega), if_neg n2, if_neg n4, if_pos rfl]
  have r4 : newRho rho W k lo hi bb nb mb mb = .mem k := by unfold newRho; rw [if_neg (by omega), if_neg n3, if_neg n5, if_neg n6, if_pos rfl]
  have hrow6 : W6.heap[sb]? = some (.cells #[.slice s k c, .pointer (some ⟨fb, 0, none⟩)] 125 (0, 0)) := by
    rw [hg.block _ (by omega) (fun e => (h.srow _ e).2.1 rfl), b45.block _ (by omega), b04.block _ sbl]
    exact h.top
  have notg : ∀ j, W.heap.size ≤ j → ¬ (j = sb ∨ (Value.slice s k c).ownBlock = some j) := fun j hj e => by
    rcases e with e | e
    · omega
    · have := ol j e; omega
  have hnew : ∀ g, (Value.slice s' (k + 1) c').ownBlock = some g → (Value.slice s k c).ownBlock = some g ∨ g = W5.heap.size := fun g hgg => by
    rcases hat with e | e
    · rw [e] at hgg; exact .inl hgg
    · rw [e] at hgg; injection hgg with hgg; exact .inr hgg.symm
  refine ⟨s', c', newRho rho W k lo hi bb nb mb, rfl, ?_, ?_, ?_, ?_, ?_, ?_, ?_, ?_, h.fs, ?_, h.gsb, h.gfb, ?_⟩
  · rw [set_same hrow6]; simp
  · have := ((own_on hown).kept (Kept.setCell (F := fun b => b = sb) ⟨sb, 0, none⟩ (.slice s' (k + 1) c') rfl) fun g _ hg' e => by
      have e : g = sb := e
      subst e
      rcases hnew g hg' with h1 | h1
      · exact (h.srow _ h1).2.1 rfl
      · omega).self
    rw [List.flatMap_append]
    exact this
  · exact h.fil.kept K0 (fun e => by
      rcases e with e | e
      · exact h.fs e
      · exact (h.srow _ e).2.2 rfl)
  · intro i l y hl hy
    by_cases hi' : i < ls.length
    · rw [List.getElem?_append_left hi'] at hl
      exact (h.mem i l y hl hy).kept hr K0 fun j hj ho e => by
        have no : rho j ≠ .no := by rcases ho with q | q | q | q | q <;> rw [q] <;> intro e <;> cases e
        rcases e with e | e
        · exact no (e ▸ h.nsb)
        · exact no (h.srow _ e).1
    · have : i = k := by
        have := (List.getElem?_eq_some_iff.1 hl).1
        rw [List.length_append] at this
        simp at this
        have := h.len
        omega
      subst this
      rw [hx] at hy; injection hy with hy; subst hy
      rw [List.getElem?_append_right (by rw [h.len]; omega), h.len] at hl
      simp at hl; subst hl
      refine ⟨?_, r4, ?_, r2, r3, ⟨[], ?_, fun p => rfl, fun y hy => by cases hy⟩, ⟨[], ?_, fun p => rfl, fun y hy => by cases hy⟩, fun p a hg => by simp [pmOf, getL] at hg, hx2, hx1⟩
      · exact (K.block _ hm7 (notg _ gmb)).trans hm
      · exact (hrib.kept K fun j _ hF => notg j (by omega)).wide fun j hF => r1 j hF.1 hF.2
      · exact hb.kept K (notg _ gbb)
      · exact hn.kept K (notg _ gnb)
  · rw [List.length_append, h.len]; rfl
  · intro j hj
    by_cases h1 : j < W.heap.size
    · have : rho j ≠ .no := by intro e; apply hj; unfold newRho; rw [if_pos h1]; exact e
      have := h.low j this
      have := K0.size
      omega
    · have h0 := h.bel.size
      have e : j < W4.heap.size := by
        by_cases e1 : lo ≤ j ∧ j < hi
        · omega
        · by_cases e2 : j = bb
          · omega
          · by_cases e3 : j = nb
            · omega
            · by_cases e4 : j = mb
              · omega
              · exact absurd (by unfold newRho; rw [if_neg h1, if_neg e1, if_neg e2, if_neg e3, if_neg e4]) hj
      have := K.size
      omega
  · unfold newRho; rw [if_pos fbl]; exact h.nfb
  · unfold newRho; rw [if_pos sbl]; exact h.nsb
  · intro g hgg
    rcases hnew g hgg with h1 | h1
    · have := ol g h1
      refine ⟨?_, (h.srow g h1).2⟩
      unfold newRho; rw [if_pos (by omega)]; exact (h.srow g h1).1
    · refine ⟨?_, by omega, by omega⟩
      unfold newRho
      rw [if_neg (by omega), if_neg (by omega), if_neg (by omega), if_neg (by omega), if_neg (by omega)]
  · exact h.bel.trans (K0.below h.bel.size (by
      rintro j (rfl | e)
      · exact h.gsb
      · exact own_form_le h.row j e))
/-- a server is made. -/
theorem NewAt.done (h : NewAt w0 W sb fb own most xs xs.length s c ls rho) (ho : 1 ≤ own ∧ own ≤ 65535) (hf : xs.length ≤ 16) {most0 : Int} (hm : most = min (max most0 0) 256) :
    ∃ rho', SrvM W rho' sb fb ls (newSv own most0 xs) ∧ (∀ k, rho' k ≠ .no → w0.heap.size ≤ k) := by
  classical
  have sbl := row_lt h.top
  have ol := own_lt h.row
  obtain ⟨R, hR⟩ : ∃ R : Nat → Role, R = fun k => if k = sb ∨ (Value.slice s xs.length c).ownBlock = some k then .top else if k = fb then .fil else rho k := ⟨_, rfl⟩
  have e0 : ∀ k, rho k ≠ .no → R k = rho k := fun k hk => by
    rw [hR]
    have : ¬ (k = sb ∨ (Value.slice s xs.length c).ownBlock = some k) := by
      rintro (rfl | e)
      · exact hk h.nsb
      · exact hk (h.srow k e).1
    simp only [this, if_false]
    exact if_neg (fun e : k = fb => hk (by rw [e]; exact h.nfb))
  have e1 : R sb = .top := by rw [hR]; simp
  have e2 : R fb = .fil := by
    rw [hR]
    have : ¬ (fb = sb ∨ (Value.slice s xs.length c).ownBlock = some fb) := by
      rintro (e | e)
      · exact h.fs e
      · exact (h.srow fb e).2.2 rfl
    simp [this]
  have e3 : ∀ g, (Value.slice s xs.length c).ownBlock = some g → R g = .top := fun g hg => by rw [hR]; simp [hg]
  have dom : ∀ k, R k ≠ .no → w0.heap.size ≤ k ∧ k < W.heap.size := fun k hk => by
    rw [hR] at hk
    by_cases h1 : k = sb ∨ (Value.slice s xs.length c).ownBlock = some k
    · rcases h1 with rfl | h1
      · exact ⟨h.gsb, sbl⟩
      · exact ⟨own_form_le h.row k h1, ol k h1⟩
    · simp only [h1, if_false] at hk
      by_cases h2 : k = fb
      · subst h2; exact ⟨h.gfb, h.fil.lt⟩
      · rw [if_neg h2] at hk
        exact h.low k hk
  refine ⟨R, ⟨?_, ⟨h.fil, e2, by rw [h.len]; simp [newSv], by simpa [newSv] using hf, ?_, fun k hk => (dom k hk).2, ho⟩, e1⟩, fun k hk => (dom k hk).1⟩
  · intro V hV
    refine ⟨s, c, ?_, ?_⟩
    · rw [hV sb e1 sbl, h.len]; exact h.top
    · have ho := (own_on h.row) V fun g hg hl => hV g (e3 g hg) hl
      rw [← h.len] at ho
      exact own_slat (fun _ => rfl) ho
  · intro i m l hm' hl
    simp only [newSv, List.getElem?_map] at hm'
    cases hx : xs[i]? with
    | none => rw [hx] at hm'; simp at hm'
    | some x =>
      rw [hx] at hm'
      simp at hm'; subst hm'
      have := (h.mem i l x hl hx).kept (G := fun _ => False) e0 (Kept.refl _ W) fun _ _ _ h => h
      rw [hm] at this
      exact this
end
end Go.Proofs.YtkoidahgbbabiaaGreat

/-
  Regions that draw their order, step by step: four operations may come up.
-/
namespace Go.Proofs.YtkoidahgbbabiaaGreat
open Go.RowKit
section
variable {P : Program} {ops : Array Oper} {Q : Exit → Act → World → Prop} {md : Region.Mode} {S : World → Prop}
/-- four operations come up: each is carried out. -/
theorem rg_call4 {i j k l : Nat} {oi oj ok ol : Oper} {fuel : Nat} {listed : Array Bool} {a : Act} {w : World} (hi : ops[i]? = some oi) (hj : ops[j]? = some oj) (hk : ops[k]? = some ok) (hl : ops[l]? = some ol)
    (hr : Region.ready md ops listed = [i, j, k, l]) (hw : Region.wanted oi (yielded ops a.tmps) = true) (hv : Region.wanted oj (yielded ops a.tmps) = true) (hu : Region.wanted ok (yielded ops a.tmps) = true) (ht : Region.wanted ol (yielded ops a.tmps) = true)
    (h : ∀ K' : Act → World → Prop, Shut (∀ a w, S w → (S w → wpAnyH P md ops Q S fuel (listed.setIfInBounds i true) a w) → K' a w) → Oper.wp P oi a w K' Q)
    (h2 : ∀ K' : Act → World → Prop, Shut (∀ a w, S w → (S w → wpAnyH P md ops Q S fuel (listed.setIfInBounds j true) a w) → K' a w) → Oper.wp P oj a w K' Q)
    (h3 : ∀ K' : Act → World → Prop, Shut (∀ a w, S w → (S w → wpAnyH P md ops Q S fuel (listed.setIfInBounds k true) a w) → K' a w) → Oper.wp P ok a w K' Q)
    (h4 : ∀ K' : Act → World → Prop, Shut (∀ a w, S w → (S w → wpAnyH P md ops Q S fuel (listed.setIfInBounds l true) a w) → K' a w) → Oper.wp P ol a w K' Q) : wpAnyH P md ops Q S (fuel + 1) listed a w :=
  wpAnyH_ready (rs := [i, j, k, l]) hr (by simp) (AllReadyH.cons hi (fun K hK => by rw [if_pos hw]; exact h K hK) (AllReadyH.cons hj (fun K hK => by rw [if_pos hv]; exact h2 K hK) (AllReadyH.cons hk (fun K hK => by rw [if_pos hu]; exact h3 K hK) (AllReadyH.cons hl (fun K hK => by rw [if_pos ht]; exact h4 K hK) AllReadyH.nil))))
end
end Go.Proofs.YtkoidahgbbabiaaGreat
