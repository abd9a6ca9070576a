/- Texts of one proof, one behind another. -/
import Derived.Test.YtkoidahgbbabiaaGreatFo21
import Derived.Test.YtkoidahgbbabiaaGreatFo5
import Derived.Test.YtkoidahgbbabiaaGreatFo1
/-
 CHOOSE: Order: all, the best first.
-/
namespace Go.Proofs.YtkoidahgbbabiaaGreat
open Go.RowKit
theorem own_type {w : World} {B k n rb : Nat} {e T : TypeId} {v : Value} {xs : List Value} {C : Array Value} {fr : Nat × Nat} (h : w.ownsRow B e k v n xs) (q : w.heap[rb]? = some (.cells C T fr)) (hne : T ≠ e) : v.ownBlock ≠ some rb := by
 obtain ⟨_, ⟨rfl, _⟩ | ⟨g, cap, cur, rfl, _, hg, _⟩⟩ := h
 ·intro h; cases h
 ·intro h'
  cases h'
  rw [hg] at q
  injection q with q
  injection q with _ q _
  exact hne q.symm
def leftOf (R : List Rk) (gone : List Int) : List Rk := R.filter fun r => !gone.contains r.place
structure OrdSt (R left : List Rk) (out : List Int) : Prop where
 eq : left = leftOf R out
 len : left.length + out.length = R.length
 best : ∀ (p : Nat) (k : Int), out[p]? = some k → ∃ r, r.place = k ∧ IsBest (leftOf R (out.take p)) r
theorem OrdSt.init (R : List Rk) : OrdSt R R [] := ⟨(List.filter_eq_self.2 fun _ _ => rfl).symm, by simp, fun p k h => by simp at h⟩
theorem filter_one {T : Rk} : ∀ {l : List Rk}, l.Pairwise (fun a b => a.place ≠ b.place) → T ∈ l → (l.filter (keepP T.place)).length + 1 = l.length
 | [], _, h => by simp at h
 | x :: l, hp, h => by
  obtain ⟨h1, h2⟩ := List.pairwise_cons.1 hp
  rcases List.mem_cons.1 h with rfl | h
  ·rw [List.filter_cons_of_neg (by unfold keepP; simp), List.filter_eq_self.2 (fun y hy => by unfold keepP; have := h1 y hy; simpa using fun e => this e.symm)]
   rfl
  ·rw [List.filter_cons_of_pos (by unfold keepP; simpa using h1 T h), List.length_cons, filter_one h2 h]
   rfl
theorem left_snoc (R : List Rk) (out : List Int) (t : Int) : leftOf R (out ++ [t]) = (leftOf R out).filter (keepP t) := by
 unfold leftOf
 rw [List.filter_filter]
 congr 1
 funext r
 unfold keepP
 rw [Bool.and_comm]
 by_cases h : r.place = t <;> simp [h]
theorem OrdSt.step {R rs : List Rk} {r : Rk} {out : List Int} (hR : R.Pairwise (fun a b => a.place ≠ b.place)) (h : OrdSt R (r :: rs) out) :
  OrdSt R ((r :: rs).filter (keepP (bestR r rs).place)) (out ++ [(bestR r rs).place]) := by
 have hb := best_spec r rs
 have h1 := h.eq
 have hp : (r :: rs).Pairwise (fun a b => a.place ≠ b.place) := by rw [h1]; exact hR.filter _
 have hl := filter_one hp hb.mem
 refine ⟨by rw [left_snoc, ← h1], by have := h.len; rw [List.length_append]; simp only [List.length_cons, List.length_nil] at *; omega, fun p k hk => ?_⟩
 by_cases hlt : p < out.length
 ·rw [List.getElem?_append_left hlt] at hk
  rw [List.take_append_of_le_length (by omega)]
  exact h.best p k hk
 ·rw [List.getElem?_append_right (by omega)] at hk
  have e : p = out.length := by
   have := (List.getElem?_eq_some_iff.1 hk).1
   simp at this; omega
  subst e
  simp at hk
  rw [List.take_left]
  exact ⟨_, hk, h1 ▸ hb⟩
theorem rks_apart (xs : List Cd) : (rksOf xs).Pairwise (fun a b => a.place ≠ b.place) := by
 rw [List.pairwise_iff_getElem]
 intro i j hi hj hij
 unfold rksOf at *
 simp only [List.getElem_mapIdx]
 show (i : Int) ≠ (j : Int)
 omega
theorem RkRow.belowB {w w' : World} {B g n : Nat} {rs : List Rk} (h : RkRow w g n rs) (hb : Below B w w') (hg : g < B) : RkRow w' g n rs := by
 refine ⟨fun i x hx j v hv => ?_, fun j hj => ?_⟩
 ·rw [hb.cell hg]; exact h.1 i x hx j v hv
 ·obtain ⟨h1, h2⟩ := h.2 j hj
  exact ⟨by rw [hb.cell hg]; exact h1, (hb.frozen (p := ⟨g, 0 + j, none⟩) hg).trans h2⟩
theorem RkRow.rks {w : World} {g n : Nat} {rs : List Rk} (h : RkRow w g n rs) (hl : rs.length ≤ n) (hm : n ≤ maxLen) : RksAt w (.slice (some ⟨g, 0, none⟩) rs.length n) rs :=
 ⟨_, _, rfl, hl, hm, fun _ => ⟨g, 0, rfl, fun i x hx => ⟨rkL x, rfl, rfl, fun j c hc => by rw [Nat.zero_add]; exact h.1 i x hx j c hc⟩⟩⟩
theorem own_kept {F : Nat → Prop} {w w' : World} {B k : Nat} {e : TypeId} {n : Nat} {v : Value} {xs : List Value} (h : w.ownsRow B e k v n xs) (hk : Kept F w w') (hne : ∀ g, v.ownBlock = some g → ¬ F g) : w'.ownsRow B e k v n xs := by
 obtain ⟨h1, h2⟩ := h
 refine ⟨h1, h2.imp_right ?_⟩
 rintro ⟨g, cap, cur, h3, h4, h5, h6⟩
 exact ⟨g, cap, cur, h3, h4, (hk.block g (row_lt h5) (hne g (by rw [h3]; rfl))).trans h5, h6⟩
theorem Kept.on {F : Nat → Prop} {a b c : World} (h : Kept F a b) (k : Below a.heap.size b c) : Kept F a c :=
 ⟨k.os.trans h.os, k.tape.trans h.tape, k.output.trans h.output, Nat.le_trans h.size k.size, fun i hi hf => (k.block i hi).trans (h.block i hi hf)⟩
theorem own_nil {w : World} {B k : Nat} {e : TypeId} : w.ownsRow B e k (.slice none 0 0) 0 [] := ⟨by simp, .inl ⟨rfl, rfl⟩⟩
def sliceLen : Value → Nat | .slice _ n _ => n | _ => 0
def OrderPost (w : World) (R : List Rk) (e : Ending) (w' : World) : Prop := ∃ v' out, e = .returned v' ∧ OrdSt R [] out ∧ SlAt w' 1 (fun x cs => cs = intL x) v' out ∧ Below w.heap.size w w'
set_option maxHeartbeats 6400000 in
set_option maxRecDepth 100000 in
theorem ch_Order (v : Value) (xs : List Cd) (w : World) (h : CdsAt w v xs) (hn : xs.length ≤ 100000) (hh : ∀ c ∈ xs, hopsN c.a.path ≤ 4611686018427387904) : Calls Tryz.prog 74 #[v] w (OrderPost w (rksOf xs)) := by
 obtain ⟨i0, hii, hz0, hz1, hz2⟩ := info_parts info_int
 have RK := Lib.hid (ch_ranks v xs w h hn hh)
 have FI := Lib.hid (cds_first h)
 have HF : Hid (∀ q ∈ rksOf xs, I64r q.first) := Lib.hid (fun q hq => by
  obtain ⟨i, d, hi, rfl⟩ := rksOf_mem.1 hq
  exact FI.out d (List.mem_of_getElem? hi))
 have HL := Lib.hid (rksOf_len xs)
 have AP := Lib.hid (rks_apart xs)
 have I0 := Lib.hid (OrdSt.init (rksOf xs))
 generalize rksOf xs = R at RK HF HL AP I0 ⊢
 generalize xs.length = n at hn RK HL
 clear h hh FI
 have n0 : ((n : Int) > 0) ∨ n = 0 := by omega
 go_enter Tryz.func74, Tryz.ntmps74
 go_wp2_with fail
 refine RK.out.mono ?_
 rintro e w1 ⟨g, rfl, R1, hg, hb1⟩
 by_cases hz : n = 0
 ·subst hz
  have e0 : R = [] := List.length_eq_zero_iff.1 HL.out
  subst e0
  clear RK R1
  go_wp2_with fail
  go_loopw [3, 4] (fun vl vo wr => vl = .slice (some ⟨g, 0, none⟩) 0 0 ∧ vo = .slice none 0 0 ∧ wr = w1) (fun _ _ _ => 0)
  case atStart => exact ⟨rfl, rfl, rfl⟩
  case round =>
   obtain ⟨rfl, rfl, rfl⟩ := hrel
   go_wp2_with fail
   go_ret
   exact ⟨_, [], rfl, I0.out, SlAt.nil, hb1⟩
 ·have GL : Hid (g < w1.heap.size) := Lib.hid (by
   obtain ⟨h1, _⟩ := R1.2 0 (by omega)
   obtain ⟨u, hu⟩ := Option.isSome_iff_exists.1 h1
   exact size_lt hu)
  have R1 := Lib.hid R1
  have B1 := Lib.hid hb1
  have GG := Lib.hid hg
  clear RK hb1 hg n0
  go_wp2_with fail
  go_loopw [3, 4] (fun vl vo wr => ∃ left out, vl = .slice (some ⟨g, 0, none⟩) left.length n ∧ left.length ≤ n ∧ out.length ≤ n ∧ Hid (OrdSt R left out) ∧ Hid (RkRow wr g n left) ∧ Hid (wr.ownsRow w1.heap.size 3 1 vo out.length (out.flatMap intL)) ∧ Hid (Kept (fun b => b = g) w1 wr)) (fun vl _ _ => sliceLen vl)
  case atStart => exact ⟨R, [], by rw [HL.out], by rw [HL.out]; omega, by simp, I0, R1, Lib.hid own_nil, Lib.hid (Kept.refl _ _)⟩
  case round =>
   clear I0 R1
   obtain ⟨left, out, rfl, hl1, hl2, OS, RR, O, K⟩ := hrel
   cases left with
   | nil =>
    have SL := Lib.hid (own_slat (C := intL) (xs := out) intL_len O.out)
    have BB := Lib.hid (B1.out.trans (K.out.below B1.out.size (fun k hk => by rw [hk]; exact GG.out)))
    clear RR O K
    go_wp2_with fail
    go_ret
    exact ⟨_, out, rfl, OS.out, SL.out, BB.out⟩
   | cons r rs =>
    have hlr : rs.length ≤ 100000 := by simp only [List.length_cons] at hl1; omega
    have OK : ∀ q ∈ r :: rs, I64r q.first := fun q hq => by
     rw [OS.out.eq] at hq
     exact HF.out q (List.mem_filter.1 hq).1
    have BE := Lib.hid (ch_best _ r rs wr (RR.out.rks hl1 (by unfold maxLen; omega)) hlr OK (left_ne r rs))
    have OS2 := Lib.hid (OS.out.step AP.out)
    have T1 : (bestR r rs) ∈ r :: rs := (best_spec r rs).mem
    have HD := Lib.hid (fun tb W R ht hne => ch_Delete g n (r :: rs) tb (bestR r rs).place W R hl1 hn ht hne)
    have HL2 : Hid (((r :: rs).filter (keepP (bestR r rs).place)).length + 1 = (r :: rs).length) := Lib.hid (by
     have a := OS2.out.len
     have b := OS.out.len
     rw [List.length_append] at a
     simp only [List.length_cons, List.length_nil] at *; omega)
    have OL : Hid (out.length + 1 ≤ n) := Lib.hid (by
     have b := OS.out.len
     have := HL.out
     simp only [List.length_cons] at b; omega)
    generalize (r :: rs).filter (keepP (bestR r rs).place) = lf at OS2 HD HL2
    generalize bestR r rs = T at BE OS2 HD
    have m0 : (((r :: rs).length : Nat) : Int) > 0 := by simp only [List.length_cons]; omega
    generalize hm : (r :: rs).length = m at *
    clear OK T1 OS hlr
    go_wp2_with fail
    refine BE.out.mono ?_
    rintro e w2 ⟨rfl, hb2⟩
    have RR2 := Lib.hid (RR.out.below hb2)
    have O2 := Lib.hid (own_below O.out hb2)
    have K2 := Lib.hid (K.out.trans (Kept.of_below hb2))
    clear BE hb2 RR O K
    go_upto_region 5 with (fail)
    obtain ⟨W4, hW4, q4, hb4, hs4⟩ := boxK w2 T
    rw [← hW4]
    clear hW4
    have NB : Hid (w2.heap.size ≠ g) := Lib.hid (by have := GL.out; have := K2.out.size; omega)
    have GE : Hid (w1.heap.size ≤ w2.heap.size) := Lib.hid K2.out.size
    have RR4 := Lib.hid (RR2.out.below hb4)
    have O4 := Lib.hid (own_below O2.out hb4)
    have K4 := Lib.hid (K2.out.trans (Kept.of_below hb4))
    have Q4 := Lib.hid q4
    have OB := Lib.hid (own_type O4.out q4 (by decide))
    obtain ⟨x0, -⟩ := rk_row q4
    have X4 := Lib.hid x0
    clear q4 hb4 hs4 RR2 O2 K2
    generalize w2.heap.size = tb at Q4 NB GE OB X4 x0 ⊢
    go_wp2_with (at_builtin; refine wpList_append_own_at _ rfl _ _ 39 rfl w1.heap.size 3 i0 _ 1 8 Tryz.underlying39 hii hz0 hz1 hz2 rfl (by decide) _ out.length (out.flatMap intL) rfl (O4.out.alloc _) ⟨W4.heap.size, 0, none⟩ 1 1 (intL T.place) rfl ?ar1 ?br1 ?cr1 ?dr1 ?er1 ?fr1 ?_)
    case ar1 => rfl
    case br1 => exact new_cells _ _ _
    case cr1 => intro u hu; simp at hu; subst hu; rfl
    case dr1 => have := OL.out; unfold maxLen; omega
    case er1 => have := OL.out; omega
    case fr1 => have := K4.out.size; simp; omega
    intro v' w5 hown hgrow _ _
    have O5 : Hid (w5.ownsRow w1.heap.size 3 1 v' (out ++ [T.place]).length ((out ++ [T.place]).flatMap intL)) := Lib.hid (by
     rw [List.length_append, flat_snoc]
     exact hown)
    have B5 : Below w1.heap.size W4 w5 := ((Below.refl _ _).alloc K4.out.size _).grown hgrow (by have := K4.out.size; simp; omega) (own_form_le O4.out)
    have RR5 := Lib.hid (RR4.out.belowB B5 GL.out)
    have K5 := Lib.hid (K4.out.on B5)
    have tl : tb < W4.heap.size := row_lt Q4.out
    have X5 : w5.cell? ⟨tb, 0, none⟩ = some (.int .i64 T.place) := by
     rw [World.cell?_of_block (hgrow.block tb (by simp; omega) (Ne.symm OB.out))]
     exact cell_below X4.out ((Below.refl _ _).alloc (Nat.le_refl _) _)
    have HD2 := Lib.hid (HD.out tb w5 RR5.out X5 NB.out)
    clear hown hgrow B5 tl X5 X4 x0 Q4 RR4 O4 K4 OB HD RR5
    go_wp2_with fail
    refine HD2.out.mono ?_
    rintro e w6 ⟨rfl, RR6, K6⟩
    have O6 := Lib.hid (own_kept O5.out K6 (fun j hj hjg => by
     have a := own_form_le O5.out j hj
     have b := GL.out
     omega))
    have K7 := Lib.hid (K5.out.trans K6)
    have RR6 := Lib.hid RR6
    clear HD2 O5 K5 K6
    go_wp2_with fail
    exact ⟨⟨lf, out ++ [T.place], rfl, by have := HL2.out; omega, by rw [List.length_append]; exact OL.out, OS2, RR6, O6, K7⟩, by have := HL2.out; unfold sliceLen; simp only; omega⟩
end Go.Proofs.YtkoidahgbbabiaaGreat
/-
 THE SERVER: all routes to a prefix that may be a receiver's, the best first.
-/
namespace Go.Proofs.YtkoidahgbbabiaaGreat
open Go.RowKit
theorem said_cs {W : World} {rho : Nat → Role} {sb fb : Nat} {ls : List Pl} {S : Sv} (h : SrvM W rho sb fb ls S) {p : Pf} {xs : List CV} (hx : xs.map (·.c) = saidS S.ms p) : (∀ x ∈ xs, OkC x.c) ∧ (∀ x ∈ xs, ∃ j : Nat, j < 16 ∧ x.c.peer = (j : Int)) ∧ xs.length ≤ 16 := by
 have hm : ∀ x ∈ xs, x.c ∈ saidS S.ms p := fun x hm => by rw [← hx]; exact List.mem_map.2 ⟨x, hm, rfl⟩
 refine ⟨fun x hxm => h.saidOk _ (hm x hxm), fun x hxm => ?_, ?_⟩
 ·obtain ⟨k, m, b, hk, -, e⟩ := saidS_mem (hm x hxm)
  have := (List.getElem?_eq_some_iff.1 hk).1
  have := h.bod.few
  exact ⟨k, by omega, by rw [e]; rfl⟩
 ·have h1 := congrArg List.length hx
  rw [List.length_map] at h1
  rw [h1]
  exact Nat.le_trans (saidS_len ..) h.bod.few
theorem said_net {S : Sv} {p : Pf} {xs : List CV} (hp : OkP p) (hx : xs.map (·.c) = saidS S.ms p) : ∀ x ∈ xs, (x.c.na : Int) = p.1 ∧ x.c.nl = p.2 := fun x hm => by
 have h1 : x.c ∈ saidS S.ms p := by rw [← hx]; exact List.mem_map.2 ⟨x, hm, rfl⟩
 obtain ⟨k, m, b, hk, -, e⟩ := saidS_mem h1
 rw [e]
 exact ⟨Int.toNat_of_nonneg hp.1, rfl⟩
theorem ord_perm {l : List Cd} {ord : List Int} (h : OrdSt (rksOf l) [] ord) : ord.Perm ((List.range l.length).map fun (i : Nat) => (i : Int)) := by
 have hlen : ord.length = l.length := by
  have := h.len
  rw [rksOf_len] at this
  simpa using this
 have hin : ∀ (p : Nat) (k : Int), ord[p]? = some k → ∃ i : Nat, i < l.length ∧ k = (i : Int) ∧ k ∉ ord.take p := fun p k hk => by
  obtain ⟨r, rfl, hb⟩ := h.best p k hk
  have hm := hb.mem
  unfold leftOf at hm
  obtain ⟨h1, h2⟩ := List.mem_filter.1 hm
  obtain ⟨i, c, hi, rfl⟩ := rksOf_mem.1 h1
  refine ⟨i, (List.getElem?_eq_some_iff.1 hi).1, rfl, ?_⟩
  simpa using h2
 have hnd : ord.Nodup := by
  rw [List.nodup_iff_pairwise_ne, List.pairwise_iff_getElem]
  intro i j hi hj hij e
  obtain ⟨-, -, -, h4⟩ := hin j ord[j] (List.getElem?_eq_getElem hj)
  apply h4
  rw [← e]
  exact List.mem_take_iff_getElem.2 ⟨i, by omega, rfl⟩
 refine perm_len _ _ hnd (fun k hk => ?_) (by simp [hlen])
 obtain ⟨p, hp⟩ := List.getElem?_of_mem hk
 obtain ⟨i, h1, h2, -⟩ := hin p k hp
 exact List.mem_map.2 ⟨i, List.mem_range.2 h1, h2.symm⟩
theorem ord_first {l : List Cd} {ord : List Int} (h : OrdSt (rksOf l) [] ord) {k : Int} (hk : ord[0]? = some k) : bestI l = k := by
 obtain ⟨r, rfl, hb⟩ := h.best 0 k hk
 have e : leftOf (rksOf l) (ord.take 0) = rksOf l := by
  unfold leftOf
  rw [List.filter_eq_self]
  intro x _
  simp
 rw [e] at hb
 obtain ⟨i, c, hi, rfl⟩ := rksOf_mem.1 hb.mem
 exact bestI_of hi hb
def pickCV (ys : List CV) (p : Pf) (k : Int) : BE := match ys[k.toNat]? with | some y => ⟨y.c.peer, p, y.c.a, y.v⟩ | none => ⟨0, p, ⟨0, 0, [], 0, 0, 0, 0, 0, [], []⟩, av0⟩
def beC (x : BE) : Int × At := (x.peer, x.a)
theorem pick_perm {ys : List CV} {p : Pf} {ord : List Int} (h : ord.Perm ((List.range ys.length).map fun (i : Nat) => (i : Int))) : ((ord.map (pickCV ys p)).map beC).Perm (ys.map fun y => (y.c.peer, y.c.a)) := by
 have h1 := (h.map (pickCV ys p)).map beC
 refine h1.trans ?_
 rw [List.map_map, List.map_map]
 have : (List.range ys.length).map (beC ∘ pickCV ys p ∘ fun (i : Nat) => (i : Int)) = ys.map fun y => (y.c.peer, y.c.a) := by
  apply List.ext_getElem?
  intro i
  rw [List.getElem?_map, List.getElem?_map]
  by_cases hi : i < ys.length
  ·rw [List.getElem?_range hi, List.getElem?_eq_getElem hi]
   simp [pickCV, beC, hi]
  ·rw [List.getElem?_eq_none (by simpa using hi), List.getElem?_eq_none (by omega)]
   rfl
 show (List.map (beC ∘ pickCV ys p ∘ fun (i : Nat) => (i : Int)) (List.range ys.length)).Perm _
 rw [this]
abbrev OwnOf := OwnR 61 13 beL (fun x W => AvAt W x.a x.v)
def OffersPost (l : List Cd) (p : Pf) (W : World) (e : Ending) (w' : World) : Prop :=
 ∃ (s : Option Addr) (c : Nat) (L : List BE) (A : Nat → Prop), e = .returned (.slice s L.length c) ∧ OwnOf w' W.heap.size (.slice s L.length c) L A ∧ (L.map beC).Perm (l.map fun c => (c.peer, c.a)) ∧ (∀ x ∈ L, x.p = p) ∧ (∀ x, L[0]? = some x → pickB l = some (x.peer, x.a)) ∧ Below W.heap.size W w'
section
variable {W : World} {rho : Nat → Role} {sb fb : Nat} {ls : List Pl} {S : Sv}
set_option maxHeartbeats 1600000 in
set_option maxRecDepth 100000 in
theorem offers_none (p : Pf) {f : Value} (n : Int) (W : World) (MB : ∀ w1, Below W.heap.size W w1 → Calls Tryz.prog 58 #[f, .int .i64 n] w1 fun e w2 => e = .returned (.pointer none) ∧ w1 = w2) :
  Calls Tryz.prog 30 #[f, .int .i64 n, .agg #[.int .u32 p.1, .int .i64 p.2]] W fun e w' => e = .returned (.slice none 0 0) ∧ Below W.heap.size W w' := by
 have MB := Lib.hid MB
 go_enter Tryz.func30, Tryz.ntmps30
 go_upto_region 1 with (fail)
 obtain ⟨W0, hW0, c0, c1, hB⟩ := box2 W (.int .u32 p.1) (.int .i64 p.2) 53
 rw [← hW0]
 have B0 := Lib.hid hB
 clear hW0 hB
 go_wp2_with fail
 refine (MB.out _ B0.out).mono ?_
 rintro e w1 ⟨rfl, rfl⟩
 go_wp2_with fail
 go_ret
 exact ⟨rfl, B0.out⟩
theorem sv_Offers_no (h : SrvM W rho sb fb ls S) {n : Int} (hn : ¬ (0 ≤ n ∧ n < (S.ms.length : Int))) (p : Pf) : Calls Tryz.prog 30 #[.pointer (some ⟨sb, 0, none⟩), .int .i64 n, .agg #[.int .u32 p.1, .int .i64 p.2]] W fun e w' => e = .returned (.slice none 0 0) ∧ Below W.heap.size W w' :=
 offers_none p n W fun _ hb => sv_member_no (h.below hb) hn
theorem sv_Offers_nil (n : Int) (W : World) (p : Pf) : Calls Tryz.prog 30 #[.pointer none, .int .i64 n, .agg #[.int .u32 p.1, .int .i64 p.2]] W fun e w' => e = .returned (.slice none 0 0) ∧ Below W.heap.size W w' :=
 offers_none p n W fun w1 _ => sv_member_nil n w1
theorem iL_at {w : World} {s : Option Addr} {n c : Nat} {xs : List Int} (h : SlAt w 1 (fun x cs => cs = intL x) (.slice s n c) xs) {i : Nat} {x : Int} (hx : xs[i]? = some x) : ∃ g o, s = some ⟨g, o, none⟩ ∧ w.cell? ⟨g, o + i, none⟩ = some (.int .i64 x) := by
 obtain ⟨s', c', e, h1, h2, h3⟩ := h
 injection e with e _ _
 subst e
 have hi := (List.getElem?_eq_some_iff.1 hx).1
 obtain ⟨b, off, rfl, h4⟩ := h3 (by omega)
 obtain ⟨cs, -, rfl, hc⟩ := h4 i x hx
 have := hc 0 _ rfl
 rw [Nat.mul_one] at this
 exact ⟨b, off, rfl, this⟩
set_option maxHeartbeats 6400000 in
set_option maxRecDepth 100000 in
theorem sv_Offers (h : SrvM W rho sb fb ls S) {i : Nat} {m : Pm} (hm : S.ms[i]? = some m) (p : Pf) (hp : KOk p) :
  Calls Tryz.prog 30 #[.pointer (some ⟨sb, 0, none⟩), .int .i64 i, .agg #[.int .u32 p.1, .int .i64 p.2]] W (OffersPost (offS S.own S.bl S.ms i p) p W) := by
 obtain ⟨l, hl, hM⟩ := h.get hm
 have HS := Lib.hid h
 have HM := Lib.hid hm
 have HP := Lib.hid hp
 have MB := Lib.hid (fun w' (hb : Below W.heap.size W w') => sv_member (h.below hb) hl)
 have AS : Hid (asOf S.ms i = m.as_) := Lib.hid (by unfold asOf; rw [hm]; rfl)
 obtain ⟨i0, hii, hz0, hz1, hz2⟩ := info_parts info_rtB
 clear h hm hl hM hp
 go_enter Tryz.func30, Tryz.ntmps30
 go_upto_region 1 with (fail)
 obtain ⟨W0, hW0, c0, c1, hB⟩ := box2 W (.int .u32 p.1) (.int .i64 p.2) 53
 rw [← hW0]
 obtain ⟨pb, hpb⟩ : ∃ pb, pb = W.heap.size := ⟨_, rfl⟩
 rw [← hpb] at c0 c1 ⊢
 have B0 := Lib.hid hB
 have HS0 := Lib.hid (HS.out.below hB)
 have SD := Lib.hid (sv_said HS0.out p HP.out.1)
 clear hW0 hB hpb
 go_wp2_with fail
 refine (MB.out _ B0.out).mono ?_
 rintro e w1 ⟨rfl, rfl⟩
 go_wp2_with fail
 refine SD.out.mono ?_
 rintro e w2 ⟨sx, cx, xs, A, rfl, ox, xe, hb2⟩
 have HS2 := Lib.hid (HS0.out.below hb2)
 have AC := Lib.hid (said_cs HS2.out xe)
 have XE := Lib.hid xe
 have XO := Lib.hid ox
 have B2 := Lib.hid (below_on B0.out hb2)
 have OF := Lib.hid (sv_offered HS2.out HM.out (.slice sx xs.length cx) xs ox.at AC.out.2.1 AC.out.2.2)
 clear ox xe hb2 SD c0 c1 HS0 MB
 go_wp2_with fail
 refine OF.out.mono ?_
 rintro e w3 ⟨so, co, rfl, fo, hb3⟩
 obtain ⟨ys, hys⟩ : ∃ ys, goL S.own S.bl i m.as_ xs = ys := ⟨_, rfl⟩
 rw [hys] at fo ⊢
 have YE : Hid (ys.map (·.c) = offS S.own S.bl S.ms i p) := Lib.hid (by
  rw [← hys, goL_c]
  unfold offS
  rw [AS.out, ← XE.out])
 have YM : Hid (∀ y ∈ ys, y ∈ xs) := Lib.hid (by rw [← hys]; intro y hy; exact (List.mem_filter.1 hy).1)
 have YL : Hid (ys.length ≤ 16) := Lib.hid (by rw [← hys]; exact Nat.le_trans (List.length_filter_le ..) AC.out.2.2)
 have X3 := Lib.hid (XO.out.below hb3)
 have CY : Hid (CvsAt w3 (.slice so ys.length co) ys) := Lib.hid ⟨fo.self, fun y hy => X3.out.mem.self y (YM.out y hy)⟩
 have OKY : Hid (∀ y ∈ ys, OkC y.c) := Lib.hid fun y hy => AC.out.1 y (YM.out y hy)
 have B3 := Lib.hid (below_on B2.out hb3)
 have OD := Lib.hid (ch_Order (.slice so ys.length co) (ys.map (·.c)) w3 (CY.out.cds OKY.out) (by rw [List.length_map]; have := YL.out; omega) (fun c hc => by
  obtain ⟨y, hy, rfl⟩ := List.mem_map.1 hc
  exact (OKY.out y hy).2.2.2.2.hops))
 clear fo hys hb3 OF XO HS2
 go_wp2_with fail
 refine OD.out.mono ?_
 rintro e w4 ⟨vo, ord, rfl, os, oi, hb4⟩
 obtain ⟨si, ci, rfl, oil, -⟩ := id oi
 have OP := Lib.hid (ord_perm os)
 have OS1 := Lib.hid os
 have OI := Lib.hid oi
 have B4 := Lib.hid (below_on B3.out hb4)
 have X4 := Lib.hid (X3.out.below hb4)
 have CY4 := Lib.hid (CY.out.below hb4)
 have OL : Hid (ord.length = ys.length) := Lib.hid (by have := OP.out.length_eq; simpa using this)
 have ol : ord.length ≤ 16 := by rw [OL.out]; exact YL.out
 have A4 : Hid (∀ k, A k → k < w4.heap.size) := Lib.hid (fun k hk => (X4.out.lt k hk).2)
 clear os oi oil hb4 OD X3 CY B3
 have O0 : Hid (w4.ownsRow w4.heap.size 61 13 (.slice none 0 0) 0 (((ord.take 0).map (pickCV ys p)).flatMap beL)) := Lib.hid ⟨by simp, .inl ⟨rfl, rfl⟩⟩
 go_wp2_with fail
 go_loopw [24, 8] (fun t24 t8 wr => ∃ (j : Nat) (s : Option Addr) (c : Nat), j ≤ ord.length ∧ t24 = .int .i64 j ∧ t8 = .slice s j c ∧ Hid (wr.ownsRow w4.heap.size 61 13 (.slice s j c) j (((ord.take j).map (pickCV ys p)).flatMap beL)) ∧ Hid (Below w4.heap.size w4 wr)) (fun t24 _ _ => ord.length - (intOf t24).toNat)
 case atStart => exact ⟨0, none, 0, by omega, rfl, rfl, O0, Lib.hid (Below.refl _ _)⟩
 case round =>
  clear O0
  obtain ⟨j, s, c, hj, rfl, rfl, OW, BV⟩ := hrel
  by_cases hjl : j < ord.length
  ·obtain ⟨k, hk⟩ : ∃ k, ord[j]? = some k := ⟨_, List.getElem?_eq_getElem hjl⟩
   obtain ⟨q, hq, rfl⟩ : ∃ q : Nat, q < ys.length ∧ k = (q : Int) := by
    have := OP.out.mem_iff.1 (List.mem_of_getElem? hk)
    obtain ⟨q, hq, rfl⟩ := List.mem_map.1 this
    exact ⟨q, by simpa using hq, rfl⟩
   obtain ⟨y, hy⟩ : ∃ y, ys[q]? = some y := ⟨_, List.getElem?_eq_getElem hq⟩
   obtain ⟨gi, oi, rfl, ci0⟩ := iL_at (SlAt.below OI.out BV.out fun _ _ h => h) hk
   obtain ⟨gy, oy, rfl, hr, -⟩ := cvs_at (CY4.out.below BV.out) hy
   have RR := Lib.hid (cv_rt hr (said_net HP.out.1 XE.out y (YM.out y (List.mem_of_getElem? hy))).1 (said_net HP.out.1 XE.out y (YM.out y (List.mem_of_getElem? hy))).2)
   have PK : Hid (pickCV ys p (q : Int) = ⟨y.c.peer, p, y.c.a, y.v⟩) := Lib.hid (by unfold pickCV; rw [Int.toNat_natCast, hy])
   have TK : Hid (ord.take (j + 1) = ord.take j ++ [(q : Int)]) := Lib.hid (take_snoc hk)
   have j0 : (0 : Int) ≤ (j : Int) := by omega
   have j1 : (j : Int) < (ord.length : Int) := by omega
   have q0 : (0 : Int) ≤ (q : Int) := by omega
   have q1 : (q : Int) < (ys.length : Int) := by omega
   clear hk hy hr hq
   go_wp2_with ((with_reducible refine halt_at (X := .load 61 (.tmp 32)) ?_ ?_); (· rfl))
   unfold Halt
   refine ldm_at (by rfl) 61 (.tmp 32) rfl gy (oy + q * 14) rfl (rtC y.c.peer p y.v).toList _ RR.out Tryz.underlying61 rfl sz_rt ?_
   go_wp2_with ((with_reducible refine wpList_rt1 (.tmp 33) rfl ?_ y.c.peer p y.v ?_ ?_); (· rfl); (· rfl))
   intro w7 hc7 hb7 hz7
   have O7 := Lib.hid (own_below OW.out hb7)
   have BV7 := Lib.hid (below_on BV.out hb7)
   clear hb7 hz7 BV OW RR
   refine wpList_append_own_at _ rfl (.tmp 28) (.tmp 34) 57 rfl w4.heap.size 61 i0 _ 13 152 Tryz.underlying57 hii hz0 hz1 hz2 rfl (by decide) (.slice s j c) j (((ord.take j).map (pickCV ys p)).flatMap beL) rfl O7.out ⟨wr.heap.size, 0, none⟩ 1 1 (rtC y.c.peer p y.v).toList rfl rfl (fun j y hy => by have h := hc7 j y hy; unfold Addr.add; split; (· rename_i e; subst e; exact h); (· simpa using h)) (beL_one ⟨y.c.peer, p, y.c.a, y.v⟩) (by unfold maxLen; omega) (by omega) BV7.out.size ?_
   intro v8 w8 h2 h3 _ hat
   obtain ⟨s8, c8, hv8, -⟩ := own_form h2
   subst hv8
   have O8 : Hid (w8.ownsRow w4.heap.size 61 13 (.slice s8 (j + 1) c8) (j + 1) (((ord.take (j + 1)).map (pickCV ys p)).flatMap beL)) := Lib.hid (by
    rw [TK.out, List.map_append, List.flatMap_append]
    have e : ([(q : Int)].map (pickCV ys p)).flatMap beL = (rtC y.c.peer p y.v).toList := by
     rw [List.map_cons, List.map_nil, PK.out]; rfl
    rw [e]
    exact h2)
   have BV8 := Lib.hid (BV7.out.trans ((kept_gr h3).below BV7.out.size fun g hg => own_form_le O7.out g hg))
   clear h2 h3 hat hc7 O7 BV7
   go_wp2_with fail
   exact ⟨⟨j + 1, s8, c8, by omega, by go_num, rfl, O8, BV8⟩, by simp [intOf]; omega⟩
  ·obtain rfl : j = ord.length := by omega
   have FIN : Hid (OffersPost (offS S.own S.bl S.ms i p) p W (.returned (.slice s ord.length c)) wr) := Lib.hid (by
    have hw := OW.out
    rw [List.take_length] at hw
    have el : (ord.map (pickCV ys p)).length = ord.length := List.length_map ..
    have hmm : ∀ x ∈ ord.map (pickCV ys p), ∃ y ∈ ys, x = ⟨y.c.peer, p, y.c.a, y.v⟩ := fun x hx => by
     obtain ⟨k, hk, rfl⟩ := List.mem_map.1 hx
     obtain ⟨q, hq, rfl⟩ := List.mem_map.1 (OP.out.mem_iff.1 hk)
     have hq : q < ys.length := by simpa using hq
     exact ⟨ys[q], List.getElem_mem hq, by unfold pickCV; rw [Int.toNat_natCast, List.getElem?_eq_getElem hq]⟩
    refine ⟨s, c, ord.map (pickCV ys p), A, by rw [el], ⟨?_, ?_, fun k hk => ⟨Nat.le_trans B0.out.size (X4.out.lt k hk).1, Nat.lt_of_lt_of_le (A4.out k hk) BV.out.size⟩, fun g hg hA => ?_⟩, ?_, fun x hx => ?_, fun x hx => ?_, below_on B4.out BV.out⟩
    ·rw [el]; exact own_base hw B4.out.size
    ·refine (X4.out.mem.below BV.out).imp fun V hV x hx => ?_
     obtain ⟨y, hy, rfl⟩ := hmm x hx
     exact hV y (YM.out y hy)
    ·rw [el] at hg
     have h1 := own_form_le hw g hg
     have h2 := A4.out g hA
     omega
    ·have := pick_perm (p := p) (by have h1 := OP.out; simpa only [List.length_map] using h1)
     rw [← YE.out, List.map_map (l := ys)]
     exact this
    ·obtain ⟨y, -, rfl⟩ := hmm x hx
     rfl
    ·rw [List.getElem?_map] at hx
     cases hk : ord[0]? with
     | none => rw [hk] at hx; simp at hx
     | some k =>
      rw [hk] at hx; simp at hx
      have hb := ord_first OS1.out hk
      obtain ⟨q, hq, rfl⟩ := List.mem_map.1 (OP.out.mem_iff.1 (List.mem_of_getElem? hk))
      have hq : q < ys.length := by simpa using hq
      have hy : ys[q]? = some ys[q] := List.getElem?_eq_getElem hq
      rw [← YE.out]
      unfold pickB
      rw [hb, if_neg (by omega), Int.toNat_natCast, List.getElem?_map, hy]
      rw [← hx]
      unfold pickCV
      rw [Int.toNat_natCast, hy]
      rfl)
   clear OW BV
   go_wp2_with fail
   go_ret
   exact FIN.out
end
end Go.Proofs.YtkoidahgbbabiaaGreat
/-
 THE SERVER: whether a participant's route goes to another one; whether two routes are one.
-/
namespace Go.Proofs.YtkoidahgbbabiaaGreat
open Go.RowKit
def goesS (own : Int) (bl : Nat → Bool) (R : Rts) (i j : Nat) (t : Int) (p : Pf) : Bool := match getL R p with | none => false | some a => goesB own bl a i j t
section
variable {W : World} {rho : Nat → Role} {sb fb : Nat} {ls : List Pl} {S : Sv}
end
end Go.Proofs.YtkoidahgbbabiaaGreat
/-
 THE SERVER: what is blocked between two participants.
-/
namespace Go.Proofs.YtkoidahgbbabiaaGreat
open Go.RowKit
def setBl (S : Sv) (i j : Nat) (b : Bool) : Sv := { S with bl := setWay S.bl (i * 16 + j) b }
def renew1 (j : Nat) (S : Sv) (p : Pf) : Sv := renewP S j p (saidS S.ms p)
def blockL (S : Sv) (j : Nat) (ps : List Pf) : Sv := ps.foldl (renew1 j) S
theorem blockL_snoc (S : Sv) (j : Nat) (ps : List Pf) (p : Pf) : blockL S j (ps ++ [p]) = renew1 j (blockL S j ps) p := by unfold blockL; rw [List.foldl_append]; rfl
theorem kin_block (j : Nat) : ∀ (ps : List Pf) (S : Sv), SvKin S (blockL S j ps)
 | [], S => SvKin.refl S
 | p :: ps, S => (kin_renew S j p _).trans (kin_block j ps (renew1 j S p))
theorem renewP_best (S : Sv) (j : Nat) (p : Pf) (l : List Cd) (k : Nat) (q : Pf) : (renewP S j p l).best k q = if k = j ∧ q = p then newBest S j l else S.best k q := rfl
theorem blockL_best (j : Nat) : ∀ (ps : List Pf) (S : Sv) (k : Nat) (q : Pf), (blockL S j ps).best k q = if k = j ∧ q ∈ ps then bestIn S j q else S.best k q
 | [], S, k, q => by rw [if_neg (by simp)]; rfl
 | p :: ps, S, k, q => by
  show (blockL (renew1 j S p) j ps).best k q = _
  rw [blockL_best j ps]
  have hk : SvKin S (renew1 j S p) := kin_renew S j p _
  rw [hk.bestIn]
  unfold renew1
  rw [renewP_best, newBest_said]
  by_cases e1 : k = j
  ·by_cases e2 : q ∈ ps
   ·rw [if_pos ⟨e1, e2⟩, if_pos ⟨e1, List.mem_cons_of_mem _ e2⟩]
   ·rw [if_neg (fun h => e2 h.2)]
    by_cases e3 : q = p
    ·subst e3; rw [if_pos ⟨e1, rfl⟩, if_pos ⟨e1, List.mem_cons_self ..⟩]
    ·rw [if_neg (fun h => e3 h.2), if_neg (by simp [e2, e3])]
  ·rw [if_neg (fun h => e1 h.1), if_neg (fun h => e1 h.1), if_neg (fun h => e1 h.1)]
theorem renewP_ms (S : Sv) (j : Nat) (p : Pf) (l : List Cd) (k : Nat) : (renewP S j p l).ms[k]? = (S.ms[k]?).map fun m => if k = j then m.mark p (m.there && !sameB (S.best j p) (newBest S j l)) else m := by
 unfold renewP
 rw [markS_get]
 rfl
theorem blockL_news (j : Nat) : ∀ (ps : List Pf) (S : Sv) (k : Nat) (m : Pm), S.ms[k]? = some m → ∃ n, (blockL S j ps).ms[k]? = some n ∧ n.there = m.there ∧ ∀ q, n.news q = (m.news q || (decide (k = j) && (m.there && (decide (q ∈ ps) && !sameB (S.best j q) (bestIn S j q)))))
 | [], S, k, m, hm => ⟨m, hm, rfl, fun q => by simp⟩
 | p :: ps, S, k, m, hm => by
  have h1 := renewP_ms S j p (saidS S.ms p) k
  rw [hm] at h1
  simp only [Option.map_some] at h1
  obtain ⟨n, n1, n2, n3⟩ := blockL_news j ps (renew1 j S p) k _ h1
  refine ⟨n, n1, ?_, fun q => ?_⟩
  ·rw [n2]; split <;> rfl
  ·rw [n3 q]
   have hk : SvKin S (renew1 j S p) := kin_renew S j p _
   rw [hk.bestIn]
   have hb : (renew1 j S p).best j q = if q = p then bestIn S j q else S.best j q := by
    unfold renew1
    rw [renewP_best, newBest_said]
    by_cases e : q = p
    ·subst e; rw [if_pos ⟨rfl, rfl⟩, if_pos rfl]
    ·rw [if_neg (fun h => e h.2), if_neg e]
   rw [hb]
   by_cases e : k = j
   ·simp only [e, if_true, decide_true, Bool.true_and]
    rw [mark_news, newBest_said]
    have hth : (m.mark p (m.there && !sameB (S.best j p) (bestIn S j p))).there = m.there := rfl
    rw [hth]
    by_cases e2 : q = p
    ·subst e2
     have : sameB (bestIn S j q) (bestIn S j q) = true := (sameB_iff _ _).2 rfl
     simp [this]
    ·have h3 : decide (q ∈ p :: ps) = decide (q ∈ ps) := by simp [e2]
     rw [if_neg e2, h3]
     simp [e2]
   ·simp [e]
theorem rt_at {w : World} {s : Option Addr} {n c i : Nat} {xs : List RE} (h : SlAt w 13 (fun x cs => cs = rtL i x) (.slice s n c) xs) {k : Nat} {x : RE} (hx : xs[k]? = some x) : ∃ g o, s = some ⟨g, o, none⟩ ∧ w.rangeAt g (o + k * 13) (rtL i x) := by
 obtain ⟨s', c', e, h1, h2, h3⟩ := h
 injection e with e _ _
 subst e
 have hi := (List.getElem?_eq_some_iff.1 hx).1
 obtain ⟨b, off, rfl, h4⟩ := h3 (by omega)
 obtain ⟨cs, -, rfl, hc⟩ := h4 k x hx
 exact ⟨b, off, rfl, fun j v hv => hc j v hv⟩
section
variable {w W W2 : World} {rho : Nat → Role} {sb fb : Nat} {ls : List Pl} {S : Sv} {A : Ab}
theorem IsAb.block (h : IsAb S A) (few : A.V.length ≤ 16) {i j : Nat} (hi : i < A.V.length) (hj : j < A.V.length) (b : Bool) (ps : List Pf) (hps : ∀ p, p ∈ ps ↔ (getL (A.R i) p).isSome = true) : IsAb (blockL (setBl S i j b) j ps) (A.block i j b) := by
 have hk := kin_block j ps (setBl S i j b)
 have hV : RV (blockL (setBl S i j b) j ps) = A.V := by rw [hk.RV]; exact h.V
 have hin : ∀ k q, bestIn (setBl S i j b) k q = bestV A.own (setWay A.bl (i * 16 + j) b) A.V k q := fun k q => by
  rw [bestIn_V]
  show bestV S.own (setWay S.bl (i * 16 + j) b) (RV S) k q = _
  rw [h.own, h.bl, h.V]
 have hold : ∀ k q, k < A.V.length → ¬ (k = j ∧ q ∈ ps) → A.best k q = bestV A.own (setWay A.bl (i * 16 + j) b) A.V k q := fun k q hkl hq => by
  refine bestV_congr rfl (fun n v v' hv hv' => ?_) fun n v a hv hg => ?_
  ·rw [hv] at hv'; injection hv' with hv'; subst hv'; exact ⟨rfl, rfl, rfl⟩
  ·unfold setWay
   rw [if_neg]
   intro e
   have hn := (List.getElem?_eq_some_iff.1 hv).1
   have e1 : n = i := by omega
   have e2 : k = j := by omega
   subst e1
   refine hq ⟨e2, (hps q).2 ?_⟩
   unfold Ab.R
   rw [hv]
   show (getL v.2.2 q).isSome = true
   rw [hg]; rfl
 have hbl : (blockL (setBl S i j b) j ps).bl = setWay A.bl (i * 16 + j) b := by
  rw [hk.bl]
  show setWay S.bl (i * 16 + j) b = _
  rw [h.bl]
 refine ⟨hk.own.trans h.own, hk.most.trans h.most, hbl, hV, ?_, ?_⟩
 ·intro k n hn
  obtain ⟨m, hm, -⟩ := hk.back hn
  obtain ⟨n', g1, g2, g3⟩ := blockL_news j ps _ k m hm
  rw [hn] at g1; injection g1 with g1; subst g1
  have hm : S.ms[k]? = some m := hm
  obtain ⟨h1, h2⟩ := h.mem k m hm
  refine ⟨g2.trans h1, fun q => ?_⟩
  rw [g3 q, h2 q, h1]
  unfold Ab.block Ab.turn
  simp only
  have hkl : k < A.V.length := by rw [← h.len]; exact (List.getElem?_eq_some_iff.1 hm).1
  by_cases e : k = j ∧ q ∈ ps
  ·obtain ⟨rfl, hq⟩ := e
   have hb : (setBl S i k b).best k q = A.best k q := h.best k q (by rw [h.len]; exact hkl)
   rw [hb, hin]
   simp [hq]
  ·have e2 : sameB (A.best k q) (bestV A.own (setWay A.bl (i * 16 + j) b) A.V k q) = true := (sameB_iff _ _).2 (hold k q hkl e)
   rw [e2]
   by_cases e3 : k = j
   ·have : ¬ q ∈ ps := fun h => e ⟨e3, h⟩
    simp [this]
   ·simp [e3]
 ·intro k q hkl
  rw [hk.len] at hkl
  have hkl : k < S.ms.length := hkl
  rw [blockL_best]
  show _ = bestV A.own (setWay A.bl (i * 16 + j) b) A.V k q
  by_cases e : k = j ∧ q ∈ ps
  ·rw [if_pos e, hin, e.1]
  ·rw [if_neg e]
   exact (h.best k q hkl).trans (hold k q (by rw [← h.len]; exact hkl) e)
theorem SrvM.setFil (h : SrvM W rho sb fb ls S) {bl' : Nat → Bool} (hk : Kept (fun k => k = fb) W W2) (hf : FilAt W2 fb S.own bl') : SrvM W2 rho sb fb ls { S with bl := bl' } ∧ Step rho rho W W2 := by
 have rf := h.bod.rfb
 refine ⟨⟨(h.top.kept hk fun k _ hF e => by
  have e : k = fb := e
  rw [e, rf] at hF; cases hF), ⟨hf, rf, h.bod.len, h.bod.few, ?_, fun k hk' => Nat.lt_of_lt_of_le (h.dom k hk') hk.size, h.bod.own1⟩, h.rsb⟩, ⟨fun _ _ => rfl, hk.imp fun k e => by
  have e : k = fb := e
  rw [e, rf]; intro e; cases e⟩⟩
 intro i m l hm hl
 exact (h.bod.mem i m l hm hl).kept (fun _ _ => rfl) hk fun k _ ho e => by
  have e : k = fb := e
  rw [e, rf] at ho
  rcases ho with e | e | e | e | e <;> cases e
set_option maxRecDepth 100000 in
theorem sv_Block_no (h : SrvM W rho sb fb ls S) {n k : Int} (hn : ¬ ((0 ≤ n ∧ n < (S.ms.length : Int)) ∧ (0 ≤ k ∧ k < (S.ms.length : Int)))) (b : Bool) : Calls Tryz.prog 26 #[.pointer (some ⟨sb, 0, none⟩), .int .i64 n, .int .i64 k, .bool b] W fun e w' => e = .returned (.int .i64 1) ∧ W = w' := by
 by_cases h1 : 0 ≤ n ∧ n < (S.ms.length : Int)
 ·obtain ⟨i, rfl⟩ := Int.eq_ofNat_of_zero_le h1.1
  obtain ⟨m, hm⟩ : ∃ m, S.ms[i]? = some m := ⟨_, List.getElem?_eq_getElem (by omega)⟩
  obtain ⟨l, hl, -⟩ := h.get hm
  have MB := Lib.hid (sv_member h hl)
  have MB2 := Lib.hid (sv_member_no h (n := k) (fun h2 => hn ⟨h1, h2⟩))
  clear h hn h1 hm hl
  go_enter Tryz.func26, Tryz.ntmps26
  go_wp2_with fail
  refine MB.out.mono ?_
  rintro e w1 ⟨rfl, rfl⟩
  go_wp2_with fail
  refine MB2.out.mono ?_
  rintro e w1 ⟨rfl, rfl⟩
  go_wp2_with fail
  go_ret
  exact ⟨rfl, rfl⟩
 ·have MB := Lib.hid (sv_member_no h h1)
  clear h hn h1
  go_enter Tryz.func26, Tryz.ntmps26
  go_wp2_with fail
  refine MB.out.mono ?_
  rintro e w1 ⟨rfl, rfl⟩
  go_wp2_with fail
  go_ret
  exact ⟨rfl, rfl⟩
def BlockPost (sb fb : Nat) (ls : List Pl) (S : Sv) (i j : Nat) (m : Pm) (b : Bool) (rho : Nat → Role) (W : World) (e : Ending) (w' : World) : Prop :=
 ∃ (rho' : Nat → Role) (ps : List Pf), e = .returned (.int .i64 0) ∧ (∀ p, p ∈ ps ↔ (getL m.R p).isSome = true) ∧ SrvM w' rho' sb fb ls (blockL (setBl S i j b) j ps) ∧ Step rho rho' W w'
set_option maxHeartbeats 6400000 in
set_option maxRecDepth 100000 in
theorem sv_Block (h : SrvM W rho sb fb ls S) {i j : Nat} {m n : Pm} (hm : S.ms[i]? = some m) (hn : S.ms[j]? = some n) (b : Bool) :
  Calls Tryz.prog 26 #[.pointer (some ⟨sb, 0, none⟩), .int .i64 i, .int .i64 j, .bool b] W (BlockPost sb fb ls S i j m b rho W) := by
 obtain ⟨l, hl, hM⟩ := h.get hm
 obtain ⟨l2, hl2, -⟩ := h.get hn
 obtain ⟨s, cap, -, cf, -⟩ := h.cells
 have few := h.bod.few
 have hi : i < 16 := by have := (List.getElem?_eq_some_iff.1 hm).1; omega
 have hj : j < 16 := by have := (List.getElem?_eq_some_iff.1 hn).1; omega
 have HS := Lib.hid h
 have HM := Lib.hid hm
 have HN := Lib.hid hn
 have HL := Lib.hid hl
 have MB := Lib.hid (sv_member h hl)
 have MB2 := Lib.hid (sv_member h hl2)
 have Fss := Lib.hid (ex_Set fb S.own S.bl i j b hi hj W h.bod.fil)
 clear h hm hn hl hl2 hM hi hj few
 go_enter Tryz.func26, Tryz.ntmps26
 go_wp2_with fail
 refine MB.out.mono ?_
 rintro e w1 ⟨rfl, rfl⟩
 go_wp2_with fail
 refine MB2.out.mono ?_
 rintro e w1 ⟨rfl, rfl⟩
 go_wp2_with fail
 refine Fss.out.mono ?_
 rintro e w2 ⟨rfl, hf, hk⟩
 have D := Lib.hid (HS.out.setFil hk hf)
 clear hf hk Fss cf MB MB2
 obtain ⟨S1, hS1⟩ : ∃ S1, setBl S i j b = S1 := ⟨_, rfl⟩
 have D1 : Hid (SrvM w2 rho sb fb ls S1 ∧ Step rho rho W w2) := Lib.hid (by rw [← hS1]; exact D.out)
 have HM1 : Hid (S1.ms[i]? = some m) := Lib.hid (by rw [← hS1]; exact HM.out)
 have HN1 : Hid (S1.ms[j]? = some n) := Lib.hid (by rw [← hS1]; exact HN.out)
 have E1 := Lib.hid hS1
 clear D hS1
 have hM1 := D1.out.1.bod.mem i m l HM1.out HL.out
 have m3 : w2.cell? ⟨l.mb, 3, none⟩ = some (.pointer (some ⟨l.rb, 0, none⟩)) := row_cell hM1.row 3
 have AL := Lib.hid (ad_All w2 hM1.rib)
 have RGT : Hid (∀ p, (getL m.R p).isSome = true → RgtP p) := Lib.hid (fun p hp => rts_right hM1.rib hp)
 clear hM1
 go_wp2_with fail
 refine AL.out.mono ?_
 rintro e w3 ⟨v, vs, rfl, re, -, rm, hb3⟩
 obtain ⟨sv, cv, rfl, -⟩ := own_form re.own
 have D3 := Lib.hid (And.intro (D1.out.1.below hb3) (D1.out.2.grow hb3))
 have RW : Hid (On (fun k => rho k = .no) w3 (fun W => SlAt W 13 (fun x cs => cs = rtL i x) (.slice sv vs.length cv) vs)) := Lib.hid (((own_fresh re.own).wide (G := fun k => rho k = .no) fun k hk _ => D1.out.1.newNo hk).imp fun V hV => own_slat (rtL_len i) hV)
 have RM := Lib.hid rm
 have vl : vs.length ≤ 9223372036854775807 := by
  obtain ⟨sa, cap, -, g1, g2, -⟩ := RW.out.self
  exact Nat.le_trans g1 g2
 have S0 : Hid (SrvM w3 rho sb fb ls (blockL S1 j ((vs.map (·.p)).take 0))) := Lib.hid D3.out.1
 have T0 := Lib.hid D3.out.2
 clear re rm hb3 AL m3 D3
 go_wp2_with fail
 go_loopw [41] (fun t41 wr => ∃ (k : Nat) (rho1 : Nat → Role), k ≤ vs.length ∧ t41 = .int .i64 k ∧ Hid (SrvM wr rho1 sb fb ls (blockL S1 j ((vs.map (·.p)).take k))) ∧ Hid (Step rho rho1 W wr) ∧ Hid (Step rho rho1 w3 wr)) (fun t41 _ => vs.length - (intOf t41).toNat)
 case atStart => exact ⟨0, rho, by omega, rfl, S0, T0, Lib.hid Step.refl⟩
 case round =>
  clear S0 T0
  obtain ⟨k, rho1, hk, rfl, SK, TK, T3⟩ := hrel
  by_cases hkl : k < vs.length
  ·obtain ⟨x, hx⟩ : ∃ x, vs[k]? = some x := ⟨_, List.getElem?_eq_getElem hkl⟩
   obtain ⟨g, o, rfl, hrg⟩ := rt_at (T3.out.free RW.out).self hx
   have RG := Lib.hid hrg
   have HP := Lib.hid (RGT.out x.p ((RM.out x.p).1 (List.mem_map.2 ⟨x, List.mem_of_getElem? hx, rfl⟩)))
   have NX : Hid (blockL S1 j ((vs.map (·.p)).take (k + 1)) = renew1 j (blockL S1 j ((vs.map (·.p)).take k)) x.p) := Lib.hid (by
    rw [take_snoc (x := x.p) (by rw [List.getElem?_map, hx]; rfl), blockL_snoc])
   obtain ⟨T, hT⟩ : ∃ T, blockL S1 j ((vs.map (·.p)).take k) = T := ⟨_, rfl⟩
   rw [hT] at SK NX
   obtain ⟨n', hn'⟩ : ∃ n', T.ms[j]? = some n' := by
    obtain ⟨n', h1, -⟩ := (kin_block j ((vs.map (·.p)).take k) S1).mem j n HN1.out
    rw [hT] at h1
    exact ⟨n', h1⟩
   have HN2 := Lib.hid hn'
   have k0 : (0 : Int) ≤ (k : Int) := by omega
   have k1 : (k : Int) < (vs.length : Int) := by omega
   clear hx hrg hT hn'
   go_wp2_with ((with_reducible refine halt_at (X := .load 61 (.tmp 43)) ?_ ?_); (· rfl))
   unfold Halt
   refine ldm_at (by rfl) 61 (.tmp 43) rfl g (o + k * 13) rfl (rtL i x) _ RG.out Tryz.underlying61 rfl sz_rt ?_
   go_wp2_with ((with_reducible refine halt_at (X := .store 61 (.tmp 12) (.tmp 44)) ?_ ?_); (· rfl))
   unfold Halt
   refine st_fresh rfl 61 (.tmp 12) (.tmp 44) rfl rfl _ (rtC i x.p x.v) rfl sz_rt rfl (rt_one _ _ _) ?_
   obtain ⟨w4, hw4, q4, hb4, -⟩ := box1 wr (rtC i x.p x.v) 61
   rw [← hw4]
   obtain ⟨pb, hpb⟩ : ∃ pb, pb = wr.heap.size := ⟨_, rfl⟩
   rw [← hpb] at q4 ⊢
   have c0 : w4.cell? ⟨pb, 1, none⟩ = some (.int .u32 x.p.1) := row_cell q4 1
   have c1 : w4.cell? ⟨pb, 2, none⟩ = some (.int .i64 x.p.2) := row_cell q4 2
   have SK4 := Lib.hid (SK.out.below hb4)
   have TK4 := Lib.hid (TK.out.grow hb4)
   have T34 := Lib.hid (T3.out.grow hb4)
   have NPB : Hid (¬ (rho1 pb ≠ .no)) := Lib.hid (fun h => h (SK.out.newNo (Nat.le_of_eq hpb.symm)))
   have SKD := Lib.hid (SK4.out.below (Below.refl w4.heap.size w4).drew)
   clear hw4 q4 hb4 SK TK T3 RG hpb
   simp only [Act.put]
   go_upto_region 10 with (fail)
   refine wp_region_held_drew (S := fun w' => Kept (fun k => rho1 k ≠ .no) w4 w') (by kernel_rfl) ?_ (fun hHeld => ?_)
   ·exact (Kept.refl _ _).drew
   generalize World.drew w4 = wd at SKD hHeld ⊢
   refine qy 0 ?_ ?_ ?_ hHeld ?_; rotate_left 1; (· rfl); (· intro w' hSw; (try clear hHeld); go_simp; try with_reducible rfl)
   try simp only [zp1, zp3, zp4, zp5]
   refine qy 1 ?_ ?_ ?_ hHeld ?_; rotate_left 1; (· rfl); (· intro w' hSw; (try clear hHeld); go_simp; try with_reducible rfl)
   try simp only [zp1, zp3, zp4, zp5]
   refine qy 2 ?_ ?_ ?_ hHeld ?_; rotate_left 1; (· rfl); (· intro w' hSw; (try clear hHeld); go_simp; try with_reducible rfl)
   try simp only [zp1, zp3, zp4, zp5]
   refine qy 3 ?_ ?_ ?_ hHeld ?_; rotate_left 1; (· rfl); (· intro w' hSw; have c0 := hSw.cell c0 NPB.out; have c1 := hSw.cell c1 NPB.out; (try clear hHeld); go_simp; try with_reducible rfl)
   try simp only [zp1, zp3, zp4, zp5]
   refine qy 4 ?_ ?_ ?_ hHeld ?_; rotate_left 1; (· rfl); (· intro w' hSw; (try clear hHeld); go_simp; try with_reducible rfl)
   try simp only [zp1, zp3, zp4, zp5]
   refine qy 5 ?_ ?_ ?_ hHeld ?_; rotate_left 1; (· rfl); (· intro w' hSw; (try clear hHeld); go_simp; try with_reducible rfl)
   try simp only [zp1, zp3, zp4, zp5]
   refine qy 6 ?_ ?_ ?_ hHeld ?_; rotate_left 1; (· rfl); (· intro w' hSw; have c0 := hSw.cell c0 NPB.out; have c1 := hSw.cell c1 NPB.out; (try clear hHeld); go_simp; try with_reducible rfl)
   try simp only [zp1, zp3, zp4, zp5]
   refine rg_call (i := 7) (atN rfl) (by kernel_rfl) ?_ (fun K hK => ?_); (· rfl); (try clear hb); go_simp; refine (sv_said SKD.out x.p HP.out.1).mono ?_; rintro e wq ⟨sx, cx, xs, A, rfl, ox, xe, hbq⟩; have SKQ := Lib.hid (SKD.out.below hbq); have AC := Lib.hid (said_all SKQ.out HP.out xe); have XE := Lib.hid xe; have XN := Lib.hid (ox.fresh.wide (G := fun k => rho1 k = .no) fun k hk _ => SKD.out.newNo hk); have STD := Lib.hid (hHeld.grow hbq); go_wp2_with fail; refine hK.out _ _ ?_ (fun hHeld => ?_); (· exact hHeld.grow hbq); clear hK K
   try simp only [zp1, zp3, zp4, zp5]
   refine rg_call (i := 8) (atN rfl) (by kernel_rfl) ?_ (fun K hK => ?_); (· rfl); (try clear hb); go_simp; refine (sv_renew SKQ.out HN2.out x.p HP.out (.slice sx xs.length cx) xs XN.out AC.out).mono ?_; rintro e wz ⟨rho3, rfl, hs3, st3⟩; go_wp2_with fail; refine hK.out _ _ ?_ (fun hHeld => ?_); (· exact hHeld.trans st3.kept); clear hK K
   try simp only [zp1, zp3, zp4, zp5]
   refine wpAnyH_done (by kernel_rfl) ?_ _
   have SF : Hid (SrvM wz rho3 sb fb ls (blockL S1 j ((vs.map (·.p)).take (k + 1)))) := Lib.hid (by
    rw [NX.out]
    unfold renew1
    rw [← XE.out]
    exact hs3)
   have SD : Hid (Step rho1 rho3 w4 wz) := Lib.hid ⟨fun k hk => st3.same k (Nat.lt_of_lt_of_le hk STD.out.size), STD.out.trans st3.kept⟩
   have TF := Lib.hid (TK4.out.trans SD.out)
   have TF3 := Lib.hid (T34.out.trans SD.out)
   clear hHeld hs3 st3 SD STD XN SKQ SKD c0 c1
   go_wp2_with fail
   exact ⟨⟨k + 1, rho3, by omega, by go_num, SF, TF, TF3⟩, by simp [intOf]; omega⟩
  ·obtain rfl : k = vs.length := by omega
   have e : (vs.map (·.p)).take vs.length = vs.map (·.p) := List.take_of_length_le (by rw [List.length_map]; exact Nat.le_refl _)
   rw [e] at SK
   have SF := Lib.hid SK.out
   clear SK hk hkl
   go_wp2_with fail
   refine bodyPost_ret (v := .int .i64 0) (by simp [results, Tryz.results26, go_sem]) rfl ⟨rho1, _, rfl, fun p => RM.out p, by rw [E1.out]; exact SF.out, TK.out⟩
end
end Go.Proofs.YtkoidahgbbabiaaGreat
/-
 THE SERVER, IN SHORT: who offers a route; what blocking makes of it.
-/
namespace Go.Proofs.YtkoidahgbbabiaaGreat
open Go.RowKit
def Ab.as_ (A : Ab) (j : Nat) : Int := ((A.V[j]?).map (·.1)).getD 0
def Ab.goes (A : Ab) (i j : Nat) (p : Pf) : Bool := goesS A.own A.bl (A.R i) i j (A.as_ j) p
section
variable {w W : World} {rho : Nat → Role} {sb fb : Nat} {ls : List Pl} {S : Sv} {A : Ab}
theorem IsAb.asO (h : IsAb S A) {j : Nat} {m : Pm} (hm : S.ms[j]? = some m) : A.as_ j = m.as_ := by
 unfold Ab.as_
 rw [(h.get hm).1]
 rfl
theorem ls_Offers (h : LSv w W rho sb fb ls A) {i : Nat} (hi : i < A.V.length) (p : Pf) (hp : KOk p) : Calls Tryz.prog 30 #[.pointer (some ⟨sb, 0, none⟩), .int .i64 i, .agg #[.int .u32 p.1, .int .i64 p.2]] W (OffersPost (A.offs i p) p W) := by
 obtain ⟨S, h1, h2⟩ := h.srv
 obtain ⟨m, hm⟩ := h2.at hi
 have := sv_Offers h1 hm p hp
 rw [off_V, h2.own, h2.bl, h2.V] at this
 exact this
theorem ls_Offers_no (h : LSv w W rho sb fb ls A) {n : Int} (hn : ¬ (0 ≤ n ∧ n < (A.V.length : Int))) (p : Pf) : Calls Tryz.prog 30 #[.pointer (some ⟨sb, 0, none⟩), .int .i64 n, .agg #[.int .u32 p.1, .int .i64 p.2]] W fun e w' => e = .returned (.slice none 0 0) ∧ Below W.heap.size W w' := by
 obtain ⟨S, h1, h2⟩ := h.srv
 exact sv_Offers_no h1 (by rw [h2.len]; exact hn) p
theorem ls_Block (h : LSv w W rho sb fb ls A) {i j : Nat} (hi : i < A.V.length) (hj : j < A.V.length) (b : Bool) :
  Calls Tryz.prog 26 #[.pointer (some ⟨sb, 0, none⟩), .int .i64 i, .int .i64 j, .bool b] W fun e w' => ∃ rho' : Nat → Role, e = .returned (.int .i64 0) ∧ LSv w w' rho' sb fb ls (A.block i j b) ∧ Step rho rho' W w' := by
 obtain ⟨S, h1, h2⟩ := h.srv
 obtain ⟨m, hm⟩ := h2.at hi
 obtain ⟨n, hn⟩ := h2.at hj
 refine (sv_Block h1 hm hn b).mono ?_
 rintro e w' ⟨rho', ps, rfl, hps, hs, st⟩
 exact ⟨rho', rfl, h.step hs (h2.block h.few hi hj b ps (fun p => by rw [(h2.get hm).2]; exact hps p)) st, st⟩
theorem ls_Block_no (h : LSv w W rho sb fb ls A) {n k : Int} (hn : ¬ ((0 ≤ n ∧ n < (A.V.length : Int)) ∧ (0 ≤ k ∧ k < (A.V.length : Int)))) (b : Bool) : Calls Tryz.prog 26 #[.pointer (some ⟨sb, 0, none⟩), .int .i64 n, .int .i64 k, .bool b] W fun e w' => e = .returned (.int .i64 1) ∧ W = w' := by
 obtain ⟨S, h1, h2⟩ := h.srv
 exact sv_Block_no h1 (by rw [h2.len]; exact hn) b
end
theorem asV (A : Ab) (j : Nat) : asOf (A.V.map pmV) j = A.as_ j := by
 unfold asOf Ab.as_
 rw [List.getElem?_map]
 cases A.V[j]? <;> rfl
theorem offs_mem {A : Ab} {r : Nat} {p : Pf} {c : Cd} (h : c ∈ A.offs r p) : ∃ (n : Nat) (v : VM), c.peer = (n : Int) ∧ A.V[n]? = some v ∧ getL v.2.2 p = some c.a ∧ goesB A.own A.bl c.a n r (A.as_ r) = true := by
 unfold Ab.offs offV offS offL at h
 obtain ⟨h4, h5⟩ := List.mem_filter.1 h
 obtain ⟨n, m, b, g1, g2, rfl⟩ := saidS_mem h4
 rw [List.getElem?_map] at g1
 cases hv : A.V[n]? with
 | none => rw [hv] at g1; simp at g1
 | some v =>
  rw [hv] at g1; simp at g1; subst g1
  refine ⟨n, v, rfl, hv, g2, ?_⟩
  unfold goesC at h5
  rw [asV] at h5
  simpa [cdOf] using h5
theorem best_offs (A : Ab) (r : Nat) (p : Pf) : A.best r p = pickB (A.offs r p) := rfl
structure ToldOf (A : Ab) (r : Nat) (p : Pf) (L : List BE) : Prop where
 perm : (L.map beC).Perm ((A.offs r p).map fun c => (c.peer, c.a))
 net : ∀ x ∈ L, x.p = p
theorem ToldOf.of {A : Ab} {r : Nat} {p : Pf} {L : List BE} (h : ToldOf A r p L) {x : BE} (hx : x ∈ L) : ∃ c ∈ A.offs r p, c.peer = x.peer ∧ c.a = x.a := by
 have := h.perm.mem_iff.1 (List.mem_map.2 ⟨x, hx, rfl⟩)
 obtain ⟨c, hc, e⟩ := List.mem_map.1 this
 injection e with e1 e2
 exact ⟨c, hc, e1, e2⟩
theorem ToldOf.all {A : Ab} {r : Nat} {p : Pf} {L : List BE} (h : ToldOf A r p L) {c : Cd} (hc : c ∈ A.offs r p) : ∃ x ∈ L, x.peer = c.peer ∧ x.a = c.a := by
 have := h.perm.mem_iff.2 (List.mem_map.2 ⟨c, hc, rfl⟩)
 obtain ⟨x, hx, e⟩ := List.mem_map.1 this
 injection e with e1 e2
 exact ⟨x, hx, e1, e2⟩
theorem ToldOf.none {A : Ab} {r : Nat} {p : Pf} {L : List BE} (h : ToldOf A r p L) : A.best r p = .none ↔ L = [] := by
 rw [best_offs, pickB_none]
 have := h.perm.length_eq
 rw [List.length_map, List.length_map] at this
 constructor
 ·intro e; rw [e] at this; exact List.length_eq_zero_iff.1 this
 ·intro e; rw [e] at this; exact List.length_eq_zero_iff.1 this.symm
def blocks (A : Ab) (r : Nat) (L : List BE) : Ab := L.foldl (fun A x => A.block x.peer.toNat r true) A
end Go.Proofs.YtkoidahgbbabiaaGreat
/-
 THE SERVER: how many participants there are, and who they are; what a nil one answers.
-/
namespace Go.Proofs.YtkoidahgbbabiaaGreat
open Go.RowKit
section
variable {w W : World} {rho : Nat → Role} {sb fb : Nat} {ls : List Pl} {A : Ab} {S : Sv}
end
end Go.Proofs.YtkoidahgbbabiaaGreat
/-
 CLASSES, plain: the key of a sender's frames to a prefix; who may be chosen, bit by bit.
-/
namespace Go.Proofs.YtkoidahgbbabiaaGreat
open Go.RowKit
def mayN (L : List Nat) : Nat := L.foldl (fun m n => m ||| 2 ^ n) 0
theorem mayN_snoc (L : List Nat) (n : Nat) : mayN (L ++ [n]) = mayN L ||| 2 ^ n := by unfold mayN; rw [List.foldl_append]; rfl
theorem may_fold (L : List Nat) : ∀ m i : Nat, (L.foldl (fun m n => m ||| 2 ^ n) m).testBit i = (m.testBit i || decide (i ∈ L)) := by
 induction L with
 | nil => intro m i; simp
 | cons n L ih =>
  intro m i
  rw [List.foldl_cons, ih, Nat.testBit_or, Nat.testBit_two_pow]
  by_cases h : n = i
  ·subst h; simp
  ·have h2 : ¬ i = n := fun e => h e.symm
   simp [h, h2]
theorem mayN_bit (L : List Nat) (i : Nat) : (mayN L).testBit i = decide (i ∈ L) := by
 unfold mayN
 rw [may_fold]; simp
theorem mayN_lt {L : List Nat} {k : Nat} (h : ∀ n ∈ L, n < k) : mayN L < 2 ^ k := by
 refine Nat.lt_pow_two_of_testBit _ fun i hi => ?_
 rw [mayN_bit]
 simp only [decide_eq_false_iff_not]
 intro hm
 have := h i hm
 omega
theorem bit_pow (n : Nat) : (2 : Int) ^ n = ((2 ^ n : Nat) : Int) := by simp
structure Ky where
 from_ : Int
 best : Int
 may : Int
deriving DecidableEq, Inhabited
abbrev kyC (k : Ky) : Array Value := #[.int .i64 k.from_, .int .i64 k.best, .int .i64 k.may]
abbrev kyV (k : Ky) : Value := .agg (kyC k)
def ky0 : Ky := ⟨0, 0, 0⟩
def Ab.may (A : Ab) (i : Nat) (p : Pf) : Nat := mayN ((A.offs i p).map (·.peer.toNat))
def Ab.key (A : Ab) (i : Nat) (p : Pf) : Option Ky := (A.best i p).map fun b => ⟨i, b.1, A.may i p⟩
def Ab.keyI (A : Ab) (n : Int) (p : Pf) : Option Ky := if 0 ≤ n ∧ n < (A.V.length : Int) then A.key n.toNat p else none
theorem keyI_at (A : Ab) {i : Nat} (hi : i < A.V.length) (p : Pf) : A.keyI i p = A.key i p := by
 unfold Ab.keyI
 rw [if_pos (by omega)]; simp
theorem keyI_no (A : Ab) {n : Int} (hn : ¬ (0 ≤ n ∧ n < (A.V.length : Int))) (p : Pf) : A.keyI n p = none := if_neg hn
theorem offs_small {A : Ab} (hf : A.V.length ≤ 16) {i : Nat} {p : Pf} {c : Cd} (hc : c ∈ A.offs i p) : ∃ n : Nat, c.peer = (n : Int) ∧ n < A.V.length ∧ n < 16 := by
 obtain ⟨n, v, h1, h2, -⟩ := offs_mem hc
 have := (List.getElem?_eq_some_iff.1 h2).1
 exact ⟨n, h1, this, by omega⟩
theorem may_lt {A : Ab} (hf : A.V.length ≤ 16) (i : Nat) (p : Pf) : A.may i p < 65536 := by
 have := mayN_lt (L := (A.offs i p).map (·.peer.toNat)) (k := 16) fun n hn => by
  obtain ⟨c, hc, rfl⟩ := List.mem_map.1 hn
  obtain ⟨m, h1, -, h3⟩ := offs_small hf hc
  rw [h1, Int.toNat_natCast]; exact h3
 unfold Ab.may
 omega
theorem mayN_perm {L M : List Nat} (h : L.Perm M) : mayN L = mayN M := by
 apply Nat.eq_of_testBit_eq
 intro i
 rw [mayN_bit, mayN_bit]
 exact decide_eq_decide.2 h.mem_iff
end Go.Proofs.YtkoidahgbbabiaaGreat
/-
 ServerTells, plain: what a participant was told, as long as nothing is to be told, is what is best for it.
-/
namespace Go.Proofs.YtkoidahgbbabiaaGreat
open Go.RowKit
def knV (l : List (Pf × BE)) (p : Pf) : Option (Int × At) := (getL l p).map fun x => (x.peer, x.a)
structure KnT (l : List (Pf × BE)) : Prop where
 apart : KeysApart l
 net : ∀ x ∈ l, x.2.p = x.1
 rgt : ∀ x ∈ l, RgtP x.1
def KnOk (A : Ab) (i : Nat) (l : List (Pf × BE)) : Prop := A.th i = true → ∀ p, A.nw i p = false → knV l p = A.best i p
theorem KnOk.turn {A : Ab} {i : Nat} {l : List (Pf × BE)} (h : KnOk A i l) (bl : Nat → Bool) (V : List VM) : KnOk (A.turn bl V) i l := by
 intro ht p hn
 have ht' : A.th i = true := ht
 have hn' : (A.nw i p || (A.th i && !sameB (A.best i p) (bestV A.own bl V i p))) = false := hn
 rw [ht', Bool.or_eq_false_iff] at hn'
 have h2 : sameB (A.best i p) (bestV A.own bl V i p) = true := by simpa using hn'.2
 exact (h ht' p hn'.1).trans ((sameB_iff _ _).1 h2)
theorem KnOk.join {A : Ab} {k : Nat} {l : List (Pf × BE)} (h : KnOk A k l) {i : Nat} (hk : k ≠ i) : KnOk (A.join i) k l := by
 intro ht p hn
 have ht' : setF A.th i true k = true := ht
 have hn' : setF A.nw i (fun p => A.nw i p || (A.best i p).isSome) k p = false := hn
 rw [setF_other _ hk] at ht' hn'
 exact h ht' p hn'
theorem KnOk.upd {A : Ab} {k : Nat} {l : List (Pf × BE)} (h : KnOk A k l) (i : Nat) (kind : Int) (gone nets : List Pf) (a : At) : KnOk (A.upd i kind gone nets a) k l := by
 unfold Ab.upd
 split
 ·exact h.turn _ _
 ·exact h
theorem KnOk.updI {A : Ab} {k : Nat} {l : List (Pf × BE)} (h : KnOk A k l) (n : Int) (kind : Int) (gone nets : List Pf) (a : At) : KnOk (A.updI n kind gone nets a) k l := by
 unfold Ab.updI
 split
 ·exact h.upd _ kind gone nets a
 ·exact h
theorem KnOk.block {A : Ab} {k : Nat} {l : List (Pf × BE)} (h : KnOk A k l) (i j : Nat) (b : Bool) : KnOk (A.block i j b) k l := h.turn _ _
theorem KnOk.hush {A : Ab} {k : Nat} {l : List (Pf × BE)} (h : KnOk A k l) {i : Nat} (hk : k ≠ i) : KnOk (A.hush i) k l := by
 intro ht p hn
 have hn' : setF A.nw i (fun _ => false) k p = false := hn
 rw [setF_other _ hk] at hn'
 exact h ht p hn'
theorem KnOk.new (own most : Int) (xs : List Sd) (i : Nat) : KnOk (newA own most xs) i [] := fun ht => by cases ht
def tell1 (l : List (Pf × BE)) (p : Pf) (b : Option BE) : List (Pf × BE) := match b with
 | some x => putL l p x
 | none => delL l p
theorem KnT.nil : KnT [] := ⟨List.Pairwise.nil, fun x hx => (by cases hx), fun x hx => by cases hx⟩
theorem KnT.tell1 {l : List (Pf × BE)} (h : KnT l) (p : Pf) (hp : RgtP p) (b : Option BE) (hb : ∀ x, b = some x → x.p = p) : KnT (tell1 l p b) := by
 cases b with
 | none => exact ⟨apart_del h.apart p, fun x hx => h.net x (mem_del.1 hx).1, fun x hx => h.rgt x (mem_del.1 hx).1⟩
 | some y =>
  refine ⟨apart_put h.apart p y, fun x hx => ?_, fun x hx => ?_⟩
  ·rcases mem_put hx with ⟨h1, -⟩ | rfl
   ·exact h.net x h1
   ·exact hb y rfl
  ·rcases mem_put hx with ⟨h1, -⟩ | rfl
   ·exact h.rgt x h1
   ·exact hp
theorem KnOk.told {A : Ab} {i : Nat} {l l' : List (Pf × BE)} (h : KnOk A i l) {L : List Pf} (hL : ∀ p, p ∈ L ↔ A.nw i p = true) (hk : ∀ p, knV l' p = if p ∈ L then A.best i p else knV l p) : KnOk (A.hush i) i l' := by
 intro ht p _
 show knV l' p = A.best i p
 rw [hk p]
 by_cases hp : p ∈ L
 ·rw [if_pos hp]
 ·rw [if_neg hp]
  refine h ht p ?_
  cases hn : A.nw i p with
  | false => rfl
  | true => exact absurd ((hL p).2 hn) hp
theorem KnOk.all {A : Ab} {i : Nat} {l : List (Pf × BE)} (h : KnOk A i l) (ht : A.th i = true) (hn : ∀ p, A.nw i p = false) (p : Pf) : knV l p = A.best i p := h ht p (hn p)
end Go.Proofs.YtkoidahgbbabiaaGreat
/-
 ServerTells, in memory: a row of maps, each with what a participant was told.
-/
namespace Go.Proofs.YtkoidahgbbabiaaGreat
open Go.RowKit
abbrev beV (x : BE) : Value := .agg (rtC x.peer x.p x.v)
def mpV (b : Nat) : Value := .map (some b)
structure KnM (W : World) (rho : Nat → Role) (B g c : Nat) (T : TypeId) (bs : List Nat) (ls : List (List (Pf × BE))) (D : Nat → Prop) : Prop where
 own : W.ownsRow B T 1 (.slice (some ⟨g, 0, none⟩) bs.length c) bs.length (bs.map mpV)
 len : ls.length = bs.length
 map : ∀ (i b : Nat) l, bs[i]? = some b → ls[i]? = some l → MapT pfV beV KOk W b l ∧ KnT l
 val : On D W (fun W => ∀ l ∈ ls, ∀ x ∈ l, AvAt W x.2.a x.2.v)
 apt : (g :: bs).Nodup
 hi : ∀ k ∈ g :: bs, B ≤ k
 no : ∀ k, (k ∈ g :: bs ∨ D k) → rho k = .no ∧ k < W.heap.size
 dis : ∀ k, D k → k ∉ g :: bs
section
variable {W W1 W2 : World} {rho rho' : Nat → Role} {B g c : Nat} {T : TypeId} {bs : List Nat} {ls : List (List (Pf × BE))} {D : Nat → Prop}
theorem KnM.step (h : KnM W rho B g c T bs ls D) (st : Step rho rho' W W1) : KnM W1 rho' B g c T bs ls D := by
 have hno : ∀ k, (k ∈ g :: bs ∨ D k) → W1.heap[k]? = W.heap[k]? := fun k hk => st.block (h.no k hk).2 (h.no k hk).1
 refine ⟨own_on h.own W1 (fun k hk _ => by injection hk with hk; subst hk; exact hno _ (.inl (List.mem_cons_self ..))), h.len, fun i b l h1 h2 => ?_, ?_, h.apt, h.hi, fun k hk => ?_, h.dis⟩
 ·obtain ⟨m1, m2⟩ := h.map i b l h1 h2
  exact ⟨m1.of_block (hno b (.inl (List.mem_cons_of_mem _ (List.mem_of_getElem? h1)))), m2⟩
 ·exact h.val.kept st.kept fun k _ hD hn => hn (h.no k (.inr hD)).1
 ·exact ⟨(st.same k (h.no k hk).2).trans (h.no k hk).1, Nat.lt_of_lt_of_le (h.no k hk).2 st.kept.size⟩
theorem KnM.below (h : KnM W rho B g c T bs ls D) (hb : Below W.heap.size W W1) : KnM W1 rho B g c T bs ls D := h.step (Step.below hb)
theorem KnM.out {G : Nat → Prop} (h : KnM W rho B g c T bs ls D) (hk : Kept G W W1) (hG : ∀ k, (k ∈ g :: bs ∨ D k) → ¬ G k) : KnM W1 rho B g c T bs ls D := by
 have hno : ∀ k, (k ∈ g :: bs ∨ D k) → W1.heap[k]? = W.heap[k]? := fun k hk' => hk.block k (h.no k hk').2 (hG k hk')
 refine ⟨own_on h.own W1 (fun k hk _ => by injection hk with hk; subst hk; exact hno _ (.inl (List.mem_cons_self ..))), h.len, fun i b l h1 h2 => ?_, ?_, h.apt, h.hi, fun k hk' => ?_, h.dis⟩
 ·obtain ⟨m1, m2⟩ := h.map i b l h1 h2
  exact ⟨m1.of_block (hno b (.inl (List.mem_cons_of_mem _ (List.mem_of_getElem? h1)))), m2⟩
 ·exact h.val.kept hk fun k _ hD => hG k (.inr hD)
 ·exact ⟨(h.no k hk').1, Nat.lt_of_lt_of_le (h.no k hk').2 hk.size⟩
theorem KnM.at (h : KnM W rho B g c T bs ls D) {i : Nat} (hi : i < bs.length) : ∃ (b : Nat) (l : List (Pf × BE)), bs[i]? = some b ∧ ls[i]? = some l ∧ (W.cell? ⟨g, i, none⟩ = some (.map (some b)) ∧ W.frozen? ⟨g, i, none⟩ = false) ∧ MapT pfV beV KOk W b l ∧ KnT l ∧ b ≠ g := by
 have h1 : bs[i]? = some bs[i] := List.getElem?_eq_getElem hi
 have h2 : ls[i]? = some (ls[i]'(by rw [h.len]; exact hi)) := List.getElem?_eq_getElem _
 have hc := own_row_cell h.own rfl (j := i) (u := mpV bs[i]) (by rw [List.getElem?_map, h1]; rfl)
 refine ⟨_, _, h1, h2, ⟨hc.1, hc.2.1⟩, (h.map i _ _ h1 h2).1, (h.map i _ _ h1 h2).2, fun e => ?_⟩
 have := (List.nodup_cons.1 h.apt).1
 exact this (e ▸ List.getElem_mem hi)
theorem KnM.change (h : KnM W rho B g c T bs ls D) {i b : Nat} {l' : List (Pf × BE)} {D' : Nat → Prop} (hb : bs[i]? = some b) (hk : Kept (fun k => k = b) W W2) (hm : MapT pfV beV KOk W2 b l') (ht : KnT l')
  (hv : On D' W2 (fun W => ∀ x ∈ l', AvAt W x.2.a x.2.v)) (hD : ∀ k, D' k → rho k = .no ∧ k < W2.heap.size ∧ k ∉ g :: bs) : KnM W2 rho B g c T bs (ls.set i l') (fun k => D k ∨ D' k) := by
 have hmem : b ∈ bs := List.mem_of_getElem? hb
 have hi : i < bs.length := (List.getElem?_eq_some_iff.1 hb).1
 have gne : g ≠ b := fun e => (List.nodup_cons.1 h.apt).1 (e ▸ hmem)
 refine ⟨((own_on h.own).kept hk fun k _ e e2 => by injection e with e; exact gne (e.trans e2)).self, by simp [h.len], fun j c l hj hl => ?_, ?_, h.apt, h.hi, fun k hk' => ?_, fun k hk' => ?_⟩
 ·rw [List.getElem?_set] at hl
  by_cases e : i = j
  ·subst e
   rw [if_pos rfl, if_pos (by rw [h.len]; exact hi)] at hl
   rw [hb] at hj
   injection hj with hj; subst hj
   injection hl with hl; subst hl
   exact ⟨hm, ht⟩
  ·rw [if_neg e] at hl
   obtain ⟨m1, m2⟩ := h.map j c l hj hl
   refine ⟨m1.kept hk fun e2 => ?_, m2⟩
   subst e2
   have hnd := (List.nodup_cons.1 h.apt).2
   exact e ((List.getElem?_inj hi hnd).1 (hb.trans hj.symm))
 ·have h1 := h.val.kept hk fun k _ hDk e => h.dis k hDk (e ▸ List.mem_cons_of_mem _ hmem)
  refine ((h1.wide (G := fun k => D k ∨ D' k) fun _ h _ => .inl h).and (hv.wide fun _ h _ => .inr h)).imp fun W hW l hl x hx => ?_
  rcases List.mem_or_eq_of_mem_set hl with hl | rfl
  ·exact hW.1 l hl x hx
  ·exact hW.2 x hx
 ·rcases hk' with hk' | hk' | hk'
  ·exact ⟨(h.no k (.inl hk')).1, Nat.lt_of_lt_of_le (h.no k (.inl hk')).2 hk.size⟩
  ·exact ⟨(h.no k (.inr hk')).1, Nat.lt_of_lt_of_le (h.no k (.inr hk')).2 hk.size⟩
  ·exact ⟨(hD k hk').1, (hD k hk').2.1⟩
 ·rcases hk' with hk' | hk'
  ·exact h.dis k hk'
  ·exact (hD k hk').2.2
end
end Go.Proofs.YtkoidahgbbabiaaGreat
/-
 ServerTells, walked: the row of maps is made.
-/
namespace Go.Proofs.YtkoidahgbbabiaaGreat
open Go.RowKit
structure MadeM (W : World) (B : Nat) (v : Value) (bs : List Nat) : Prop where
 own : W.ownsRow B 64 1 v bs.length (bs.map mpV)
 map : ∀ b ∈ bs, MapT pfV beV KOk W b ([] : List (Pf × BE)) ∧ B ≤ b ∧ v.ownBlock ≠ some b
 nd : bs.Nodup
theorem MadeM.below {W W' : World} {B : Nat} {v : Value} {bs : List Nat} (h : MadeM W B v bs) (hb : Below W.heap.size W W') : MadeM W' B v bs :=
 ⟨own_below h.own hb, fun b hm => ⟨(h.map b hm).1.below hb, (h.map b hm).2⟩, h.nd⟩
theorem MadeM.more {W W1 W2 : World} {B : Nat} {v v' : Value} {bs : List Nat} (h : MadeM W B v bs) (hB : B ≤ W.heap.size) (hb : Below W.heap.size W W1) (hm : MapT pfV beV KOk W1 W.heap.size ([] : List (Pf × BE)))
  (ho : W2.ownsRow B 64 1 v' (bs.length + 1) (bs.map mpV ++ [mpV W.heap.size])) (hk : Kept (fun b => v.ownBlock = some b) W1 W2) (hat : v'.ownBlock = v.ownBlock ∨ v'.ownBlock = some W1.heap.size) : MadeM W2 B v' (bs ++ [W.heap.size]) := by
 have ol := own_lt h.own
 have hm1 := hm.lt
 refine ⟨by simpa using ho, fun b hmem => ?_, ?_⟩
 ·rcases List.mem_append.1 hmem with hmem | hmem
  ·obtain ⟨m1, m2, m3⟩ := h.map b hmem
   have := m1.lt
   refine ⟨(m1.below hb).kept hk m3, m2, fun e => ?_⟩
   rcases hat with e2 | e2
   ·exact m3 (e2.symm.trans e)
   ·rw [e2] at e; injection e with e; have := hb.size; omega
  ·rw [List.mem_singleton] at hmem
   subst hmem
   refine ⟨hm.kept hk fun e => ?_, hB, fun e => ?_⟩
   ·have := ol _ e; omega
   ·rcases hat with e2 | e2
    ·rw [e2] at e; have := ol _ e; omega
    ·rw [e2] at e; injection e with e; omega
 ·rw [List.nodup_append]
  refine ⟨h.nd, by simp, fun a ha b hb' e => ?_⟩
  rw [List.mem_singleton] at hb'
  have := (h.map a ha).1.lt
  omega
theorem MadeM.kn {W : World} {B c : Nat} {s : Option Addr} {bs : List Nat} (h : MadeM W B (.slice s bs.length c) bs) (hn : 0 < bs.length) {rho : Nat → Role} (hr : ∀ k, B ≤ k → rho k = .no) :
  ∃ g, s = some ⟨g, 0, none⟩ ∧ KnM W rho B g c 64 bs (List.replicate bs.length []) (fun _ => False) := by
 obtain ⟨j, hj⟩ : ∃ j, bs.length = j + 1 := ⟨bs.length - 1, by omega⟩
 obtain ⟨g, c', e⟩ : ∃ g c', Value.slice s bs.length c = .slice (some ⟨g, 0, none⟩) bs.length c' := by
  have ho := h.own
  obtain ⟨_, ⟨e, _⟩ | ⟨g, cap, cur, e, _⟩⟩ := ho
  ·injection e with _ e _; omega
  ·exact ⟨g, cap, e⟩
 injection e with e1 _ e3
 subst e1
 have hrow := own_row_cell h.own rfl (j := 0) (u := mpV (bs[0]'hn)) (by rw [List.getElem?_map, List.getElem?_eq_getElem hn]; rfl)
 refine ⟨g, rfl, h.own, by simp, fun i b l hb hl => ?_, fun W' _ l hl x hx => ?_, ?_, fun k hk => ?_, fun k hk => ?_, fun k hk => hk.elim⟩
 ·rw [List.getElem?_replicate] at hl
  split at hl
  ·injection hl with hl; subst hl
   exact ⟨(h.map b (List.mem_of_getElem? hb)).1, KnT.nil⟩
  ·cases hl
 ·rw [List.mem_replicate] at hl
  rw [hl.2] at hx; cases hx
 ·rw [List.nodup_cons]
  exact ⟨fun hg => (h.map g hg).2.2 rfl, h.nd⟩
 ·rcases List.mem_cons.1 hk with rfl | hk
  ·exact hrow.2.2.1
  ·exact (h.map k hk).2.1
 ·rcases hk with hk | hk
  ·rcases List.mem_cons.1 hk with rfl | hk
   ·exact ⟨hr _ hrow.2.2.1, hrow.2.2.2⟩
   ·exact ⟨hr _ (h.map k hk).2.1, (h.map k hk).1.lt⟩
  ·exact hk.elim
end Go.Proofs.YtkoidahgbbabiaaGreat
/-
 ServerTells: one prefix more is told; News with its own row.
-/
namespace Go.Proofs.YtkoidahgbbabiaaGreat
open Go.RowKit
section
variable {W W1 W2 : World} {rho : Nat → Role} {B g c : Nat} {T : TypeId} {bs : List Nat} {ls : List (List (Pf × BE))} {D : Nat → Prop} {i b : Nat} {l : List (Pf × BE)} {p : Pf}
theorem KnM.bno (h : KnM W rho B g c T bs ls D) (hb : bs[i]? = some b) : rho b = .no ∧ b < W.heap.size ∧ B ≤ b :=
 ⟨(h.no b (.inl (List.mem_cons_of_mem _ (List.mem_of_getElem? hb)))).1, (h.no b (.inl (List.mem_cons_of_mem _ (List.mem_of_getElem? hb)))).2, h.hi b (List.mem_cons_of_mem _ (List.mem_of_getElem? hb))⟩
theorem KnM.valK (h : KnM W rho B g c T bs ls D) (hb : bs[i]? = some b) (hl : ls[i]? = some l) (hk : Kept (fun k => k = b) W W2) : On D W2 (fun W => ∀ x ∈ l, AvAt W x.2.a x.2.v) :=
 (h.val.kept hk fun k _ hD e => h.dis k hD (e ▸ List.mem_cons_of_mem _ (List.mem_of_getElem? hb))).imp fun _ hW x hx => hW l (List.mem_of_getElem? hl) x hx
theorem KnM.put (h : KnM W rho B g c T bs ls D) (hb : bs[i]? = some b) (hl : ls[i]? = some l) (hp : RgtP p) {y : BE} (hy : y.p = p) (b01 : Below W.heap.size W W1) (fr : Fresh W.heap.size W1 (fun W => AvAt W y.a y.v)) (hr : ∀ k, W.heap.size ≤ k → rho k = .no)
  (hk : Kept (fun k => k = b) W1 W2) (hm : MapT pfV beV KOk W2 b (putL l p y)) :
  KnM W2 rho B g c T bs (ls.set i (tell1 l p (some y))) (fun k => D k ∨ (D k ∨ (W.heap.size ≤ k ∧ k < W1.heap.size))) := by
 have hm' : MapT pfV beV KOk W2 b (tell1 l p (some y)) := hm
 have h1 := h.below b01
 have bl := (h.bno hb).2.1
 refine h1.change (D' := fun k => D k ∨ (W.heap.size ≤ k ∧ k < W1.heap.size)) hb hk hm' ((h.map i b l hb hl).2.tell1 p hp (some y) fun x hx => by injection hx with hx; rw [← hx]; exact hy) ?_ fun k hk' => ?_
 ·have v1 := (h1.valK hb hl hk).wide (G := fun k => D k ∨ (W.heap.size ≤ k ∧ k < W1.heap.size)) fun _ h _ => .inl h
  have v2 := ((fresh_hi fr).kept hk fun k _ hF e => by omega).wide (G := fun k => D k ∨ (W.heap.size ≤ k ∧ k < W1.heap.size)) fun _ h _ => .inr h
  refine (v1.and v2).imp fun _ hW x hx => ?_
  rcases mem_put hx with ⟨h2, -⟩ | rfl
  ·exact hW.1 x h2
  ·exact hW.2
 ·rcases hk' with hk' | hk'
  ·exact ⟨(h1.no k (.inr hk')).1, Nat.lt_of_lt_of_le (h1.no k (.inr hk')).2 hk.size, h.dis k hk'⟩
  ·refine ⟨hr k hk'.1, Nat.lt_of_lt_of_le hk'.2 hk.size, fun hm => ?_⟩
   have := (h.no k (.inl hm)).2
   omega
end
section
variable {w W : World} {rho : Nat → Role} {sb fb : Nat} {ls : List Pl} {A : Ab}
theorem be_at {w : World} {s : Option Addr} {n c : Nat} {xs : List BE} (h : SlAt w 13 (fun x cs => cs = beL x) (.slice s n c) xs) {i : Nat} {x : BE} (hx : xs[i]? = some x) : ∃ g o, s = some ⟨g, o, none⟩ ∧ w.rangeAt g (o + i * 13) (beL x) := by
 obtain ⟨s', c', e, h1, h2, h3⟩ := h
 injection e with e _ _
 subst e
 have hi := (List.getElem?_eq_some_iff.1 hx).1
 obtain ⟨b, off, rfl, h4⟩ := h3 (by omega)
 obtain ⟨cs, -, rfl, hc⟩ := h4 i x hx
 exact ⟨b, off, rfl, fun j v hv => hc j v hv⟩
end
end Go.Proofs.YtkoidahgbbabiaaGreat
