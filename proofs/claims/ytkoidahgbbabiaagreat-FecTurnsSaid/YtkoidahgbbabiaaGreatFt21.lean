/- Texts of one proof, one behind another. -/
import Derived.Test.YtkoidahgbbabiaaGreatFt20
import Derived.Test.YtkoidahgbbabiaaGreatFt1
namespace Go.Proofs.YtkoidahgbbabiaaGreat
open Go.RowKit
theorem own_type {w : World} {B k n rb : Nat} {e T : TypeId} {v : Value} {xs : List Value} {C : Array Value} {fr : Nat × Nat} (h : w.ownsRow B e k v n xs) (q : w.heap[rb]? = some (.cells C T fr)) (hne : T ≠ e) : v.ownBlock ≠ some rb := by
 obtain ⟨_, ⟨rfl, _⟩ | ⟨g, cap, cur, rfl, _, hg, _⟩⟩ := h
 ·intro h; cases h
 ·intro h'
  cases h'
  rw [hg] at q
  injection q with q
  injection q with _ q _
  exact hne q.symm
def leftOf (R : List Rk) (gone : List Int) : List Rk := R.filter fun r => !gone.contains r.place
structure OrdSt (R left : List Rk) (out : List Int) : Prop where
 eq : left = leftOf R out
 len : left.length + out.length = R.length
 best : ∀ (p : Nat) (k : Int), out[p]? = some k → ∃ r, r.place = k ∧ IsBest (leftOf R (out.take p)) r
theorem OrdSt.init (R : List Rk) : OrdSt R R [] := ⟨(List.filter_eq_self.2 fun _ _ => rfl).symm, by simp, fun p k h => by simp at h⟩
theorem filter_one {T : Rk} : ∀ {l : List Rk}, l.Pairwise (fun a b => a.place ≠ b.place) → T ∈ l → (l.filter (keepP T.place)).length + 1 = l.length
 | [], _, h => by simp at h
 | x :: l, hp, h => by
  obtain ⟨h1, h2⟩ := List.pairwise_cons.1 hp
  rcases List.mem_cons.1 h with rfl | h
  ·rw [List.filter_cons_of_neg (by unfold keepP; simp), List.filter_eq_self.2 (fun y hy => by unfold keepP; have := h1 y hy; simpa using fun e => this e.symm)]
   rfl
  ·rw [List.filter_cons_of_pos (by unfold keepP; simpa using h1 T h), List.length_cons, filter_one h2 h]
   rfl
theorem left_snoc (R : List Rk) (out : List Int) (t : Int) : leftOf R (out ++ [t]) = (leftOf R out).filter (keepP t) := by
 unfold leftOf
 rw [List.filter_filter]
 congr 1
 funext r
 unfold keepP
 rw [Bool.and_comm]
 by_cases h : r.place = t <;> simp [h]
theorem OrdSt.step {R rs : List Rk} {r : Rk} {out : List Int} (hR : R.Pairwise (fun a b => a.place ≠ b.place)) (h : OrdSt R (r :: rs) out) :
  OrdSt R ((r :: rs).filter (keepP (bestR r rs).place)) (out ++ [(bestR r rs).place]) := by
 have hb := best_spec r rs
 have h1 := h.eq
 have hp : (r :: rs).Pairwise (fun a b => a.place ≠ b.place) := by rw [h1]; exact hR.filter _
 have hl := filter_one hp hb.mem
 refine ⟨by rw [left_snoc, ← h1], by have := h.len; rw [List.length_append]; simp only [List.length_cons, List.length_nil] at *; omega, fun p k hk => ?_⟩
 by_cases hlt : p < out.length
 ·rw [List.getElem?_append_left hlt] at hk
  rw [List.take_append_of_le_length (by omega)]
  exact h.best p k hk
 ·rw [List.getElem?_append_right (by omega)] at hk
  have e : p = out.length := by
   have := (List.getElem?_eq_some_iff.1 hk).1
   simp at this; omega
  subst e
  simp at hk
  rw [List.take_left]
  exact ⟨_, hk, h1 ▸ hb⟩
theorem rks_apart (xs : List Cd) : (rksOf xs).Pairwise (fun a b => a.place ≠ b.place) := by
 rw [List.pairwise_iff_getElem]
 intro i j hi hj hij
 unfold rksOf at *
 simp only [List.getElem_mapIdx]
 show (i : Int) ≠ (j : Int)
 omega
theorem RkRow.belowB {w w' : World} {B g n : Nat} {rs : List Rk} (h : RkRow w g n rs) (hb : Below B w w') (hg : g < B) : RkRow w' g n rs := by
 refine ⟨fun i x hx j v hv => ?_, fun j hj => ?_⟩
 ·rw [hb.cell hg]; exact h.1 i x hx j v hv
 ·obtain ⟨h1, h2⟩ := h.2 j hj
  exact ⟨by rw [hb.cell hg]; exact h1, (hb.frozen (p := ⟨g, 0 + j, none⟩) hg).trans h2⟩
theorem RkRow.rks {w : World} {g n : Nat} {rs : List Rk} (h : RkRow w g n rs) (hl : rs.length ≤ n) (hm : n ≤ maxLen) : RksAt w (.slice (some ⟨g, 0, none⟩) rs.length n) rs :=
 ⟨_, _, rfl, hl, hm, fun _ => ⟨g, 0, rfl, fun i x hx => ⟨rkL x, rfl, rfl, fun j c hc => by rw [Nat.zero_add]; exact h.1 i x hx j c hc⟩⟩⟩
theorem own_kept {F : Nat → Prop} {w w' : World} {B k : Nat} {e : TypeId} {n : Nat} {v : Value} {xs : List Value} (h : w.ownsRow B e k v n xs) (hk : Kept F w w') (hne : ∀ g, v.ownBlock = some g → ¬ F g) : w'.ownsRow B e k v n xs := by
 obtain ⟨h1, h2⟩ := h
 refine ⟨h1, h2.imp_right ?_⟩
 rintro ⟨g, cap, cur, h3, h4, h5, h6⟩
 exact ⟨g, cap, cur, h3, h4, (hk.block g (jE h5) (hne g (by rw [h3]; rfl))).trans h5, h6⟩
theorem Kept.on {F : Nat → Prop} {a b c : World} (h : Kept F a b) (k : Below a.heap.size b c) : Kept F a c :=
 ⟨k.os.trans h.os, k.tape.trans h.tape, k.output.trans h.output, Nat.le_trans h.size k.size, fun i hi hf => (k.block i hi).trans (h.block i hi hf)⟩
theorem own_nil {w : World} {B k : Nat} {e : TypeId} : w.ownsRow B e k (.slice none 0 0) 0 [] := ⟨by simp, .inl ⟨rfl, rfl⟩⟩
def sliceLen : Value → Nat | .slice _ n _ => n | _ => 0
def OrderPost (w : World) (R : List Rk) (e : Ending) (w' : World) : Prop := ∃ v' out, e = .returned v' ∧ OrdSt R [] out ∧ SlAt w' 1 (fun x cs => cs = intL x) v' out ∧ Below w.heap.size w w'
set_option maxHeartbeats 6400000 in
set_option maxRecDepth 100000 in
theorem ch_Order (v : Value) (xs : List Cd) (w : World) (h : CdsAt w v xs) (hn : xs.length ≤ 100000) (hh : ∀ c ∈ xs, hopsN c.a.path ≤ 4611686018427387904) : Calls Tryz.prog 74 #[v] w (OrderPost w (rksOf xs)) := by
 obtain ⟨i0, hii, hz0, hz1, hz2⟩ := info_parts info_int
 have RK := jh (ch_ranks v xs w h hn hh)
 have FI := jh (cds_first h)
 have HF : Hid (∀ q ∈ rksOf xs, I64r q.first) := jh (fun q hq => by
  obtain ⟨i, d, hi, rfl⟩ := rksOf_mem.1 hq
  exact FI.out d (List.mem_of_getElem? hi))
 have HL := jh (rksOf_len xs)
 have AP := jh (rks_apart xs)
 have I0 := jh (OrdSt.init (rksOf xs))
 generalize rksOf xs = R at RK HF HL AP I0 ⊢
 generalize xs.length = n at hn RK HL
 clear h hh FI
 have n0 : ((n : Int) > 0) ∨ n = 0 := by omega
 go_enter Tryz.func74, Tryz.ntmps74
 go_wp2_with fail
 refine RK.out.mono ?_
 rintro e w1 ⟨g, rfl, R1, hg, hb1⟩
 by_cases hz : n = 0
 ·subst hz
  have e0 : R = [] := List.length_eq_zero_iff.1 HL.out
  subst e0
  clear RK R1
  go_wp2_with fail
  go_loopw [3, 4] (fun vl vo wr => vl = .slice (some ⟨g, 0, none⟩) 0 0 ∧ vo = .slice none 0 0 ∧ wr = w1) (fun _ _ _ => 0)
  case atStart => exact ⟨rfl, rfl, rfl⟩
  case round =>
   obtain ⟨rfl, rfl, rfl⟩ := hrel
   go_wp2_with fail
   go_ret
   exact ⟨_, [], rfl, I0.out, SlAt.nil, hb1⟩
 ·have GL : Hid (g < w1.heap.size) := jh (by
   obtain ⟨h1, _⟩ := R1.2 0 (by omega)
   obtain ⟨u, hu⟩ := Option.isSome_iff_exists.1 h1
   exact jH hu)
  have R1 := jh R1
  have B1 := jh hb1
  have GG := jh hg
  clear RK hb1 hg n0
  go_wp2_with fail
  go_loopw [3, 4] (fun vl vo wr => ∃ left out, vl = .slice (some ⟨g, 0, none⟩) left.length n ∧ left.length ≤ n ∧ out.length ≤ n ∧ Hid (OrdSt R left out) ∧ Hid (RkRow wr g n left) ∧ Hid (wr.ownsRow w1.heap.size 3 1 vo out.length (out.flatMap intL)) ∧ Hid (Kept (fun b => b = g) w1 wr)) (fun vl _ _ => sliceLen vl)
  case atStart => exact ⟨R, [], by rw [HL.out], by rw [HL.out]; omega, by simp, I0, R1, jh own_nil, jh (Kept.refl _ _)⟩
  case round =>
   clear I0 R1
   obtain ⟨left, out, rfl, hl1, hl2, OS, RR, O, K⟩ := hrel
   cases left with
   | nil =>
    have SL := jh (own_slat (C := intL) (xs := out) intL_len O.out)
    have BB := jh (B1.out.trans (K.out.below B1.out.size (fun k hk => by rw [hk]; exact GG.out)))
    clear RR O K
    go_wp2_with fail
    go_ret
    exact ⟨_, out, rfl, OS.out, SL.out, BB.out⟩
   | cons r rs =>
    have hlr : rs.length ≤ 100000 := by simp only [List.length_cons] at hl1; omega
    have OK : ∀ q ∈ r :: rs, I64r q.first := fun q hq => by
     rw [OS.out.eq] at hq
     exact HF.out q (List.mem_filter.1 hq).1
    have BE := jh (ch_best _ r rs wr (RR.out.rks hl1 (by unfold maxLen; omega)) hlr OK (left_ne r rs))
    have OS2 := jh (OS.out.step AP.out)
    have T1 : (bestR r rs) ∈ r :: rs := (best_spec r rs).mem
    have HD := jh (fun tb W R ht hne => ch_Delete g n (r :: rs) tb (bestR r rs).place W R hl1 hn ht hne)
    have HL2 : Hid (((r :: rs).filter (keepP (bestR r rs).place)).length + 1 = (r :: rs).length) := jh (by
     have a := OS2.out.len
     have b := OS.out.len
     rw [List.length_append] at a
     simp only [List.length_cons, List.length_nil] at *; omega)
    have OL : Hid (out.length + 1 ≤ n) := jh (by
     have b := OS.out.len
     have := HL.out
     simp only [List.length_cons] at b; omega)
    generalize (r :: rs).filter (keepP (bestR r rs).place) = lf at OS2 HD HL2
    generalize bestR r rs = T at BE OS2 HD
    have m0 : (((r :: rs).length : Nat) : Int) > 0 := by simp only [List.length_cons]; omega
    generalize hm : (r :: rs).length = m at *
    clear OK T1 OS hlr
    go_wp2_with fail
    refine BE.out.mono ?_
    rintro e w2 ⟨rfl, hb2⟩
    have RR2 := jh (RR.out.below hb2)
    have O2 := jh (jQ O.out hb2)
    have K2 := jh (K.out.trans (Kept.of_below hb2))
    clear BE hb2 RR O K
    go_upto_region 5 with (fail)
    obtain ⟨W4, hW4, q4, hb4, hs4⟩ := boxK w2 T
    rw [← hW4]
    clear hW4
    have NB : Hid (w2.heap.size ≠ g) := jh (by have := GL.out; have := K2.out.size; omega)
    have GE : Hid (w1.heap.size ≤ w2.heap.size) := jh K2.out.size
    have RR4 := jh (RR2.out.below hb4)
    have O4 := jh (jQ O2.out hb4)
    have K4 := jh (K2.out.trans (Kept.of_below hb4))
    have Q4 := jh q4
    have OB := jh (own_type O4.out q4 (by decide))
    obtain ⟨x0, -⟩ := rk_row q4
    have X4 := jh x0
    clear q4 hb4 hs4 RR2 O2 K2
    generalize w2.heap.size = tb at Q4 NB GE OB X4 x0 ⊢
    go_wp2_with (at_builtin; refine wpList_append_own_at _ rfl _ _ 39 rfl w1.heap.size 3 i0 _ 1 8 Tryz.underlying39 hii hz0 hz1 hz2 rfl (by decide) _ out.length (out.flatMap intL) rfl (O4.out.alloc _) ⟨W4.heap.size, 0, none⟩ 1 1 (intL T.place) rfl ?ar1 ?br1 ?cr1 ?dr1 ?er1 ?fr1 ?_)
    case ar1 => rfl
    case br1 => exact new_cells _ _ _
    case cr1 => intro u hu; simp at hu; subst hu; rfl
    case dr1 => have := OL.out; unfold maxLen; omega
    case er1 => have := OL.out; omega
    case fr1 => have := K4.out.size; simp; omega
    intro v' w5 hown hgrow _ _
    have O5 : Hid (w5.ownsRow w1.heap.size 3 1 v' (out ++ [T.place]).length ((out ++ [T.place]).flatMap intL)) := jh (by
     rw [List.length_append, flat_snoc]
     exact hown)
    have B5 : Below w1.heap.size W4 w5 := ((Below.refl _ _).alloc K4.out.size _).grown hgrow (by have := K4.out.size; simp; omega) (jJ O4.out)
    have RR5 := jh (RR4.out.belowB B5 GL.out)
    have K5 := jh (K4.out.on B5)
    have tl : tb < W4.heap.size := jE Q4.out
    have X5 : w5.cell? ⟨tb, 0, none⟩ = some (.int .i64 T.place) := by
     rw [World.cell?_of_block (hgrow.block tb (by simp; omega) (Ne.symm OB.out))]
     exact jA X4.out ((Below.refl _ _).alloc (Nat.le_refl _) _)
    have HD2 := jh (HD.out tb w5 RR5.out X5 NB.out)
    clear hown hgrow B5 tl X5 X4 x0 Q4 RR4 O4 K4 OB HD RR5
    go_wp2_with fail
    refine HD2.out.mono ?_
    rintro e w6 ⟨rfl, RR6, K6⟩
    have O6 := jh (own_kept O5.out K6 (fun j hj hjg => by
     have a := jJ O5.out j hj
     have b := GL.out
     omega))
    have K7 := jh (K5.out.trans K6)
    have RR6 := jh RR6
    clear HD2 O5 K5 K6
    go_wp2_with fail
    exact ⟨⟨lf, out ++ [T.place], rfl, by have := HL2.out; omega, by rw [List.length_append]; exact OL.out, OS2, RR6, O6, K7⟩, by have := HL2.out; unfold sliceLen; simp only; omega⟩
open Go.RowKit
theorem said_cs {W : World} {rho : Nat → Role} {sb fb : Nat} {ls : List Pl} {S : Sv} (h : SrvM W rho sb fb ls S) {p : Pf} {xs : List CV} (hx : xs.map (·.c) = saidS S.ms p) : (∀ x ∈ xs, OkC x.c) ∧ (∀ x ∈ xs, ∃ j : Nat, j < 16 ∧ x.c.peer = (j : Int)) ∧ xs.length ≤ 16 := by
 have hm : ∀ x ∈ xs, x.c ∈ saidS S.ms p := fun x hm => by rw [← hx]; exact List.mem_map.2 ⟨x, hm, rfl⟩
 refine ⟨fun x hxm => h.saidOk _ (hm x hxm), fun x hxm => ?_, ?_⟩
 ·obtain ⟨k, m, b, hk, -, e⟩ := saidS_mem (hm x hxm)
  have := (List.getElem?_eq_some_iff.1 hk).1
  have := h.bod.few
  exact ⟨k, by omega, by rw [e]; rfl⟩
 ·have h1 := congrArg List.length hx
  rw [List.length_map] at h1
  rw [h1]
  exact Nat.le_trans (saidS_len ..) h.bod.few
theorem said_net {S : Sv} {p : Pf} {xs : List CV} (hp : OkP p) (hx : xs.map (·.c) = saidS S.ms p) : ∀ x ∈ xs, (x.c.na : Int) = p.1 ∧ x.c.nl = p.2 := fun x hm => by
 have h1 : x.c ∈ saidS S.ms p := by rw [← hx]; exact List.mem_map.2 ⟨x, hm, rfl⟩
 obtain ⟨k, m, b, hk, -, e⟩ := saidS_mem h1
 rw [e]
 exact ⟨Int.toNat_of_nonneg hp.1, rfl⟩
theorem ord_perm {l : List Cd} {ord : List Int} (h : OrdSt (rksOf l) [] ord) : ord.Perm ((List.range l.length).map fun (i : Nat) => (i : Int)) := by
 have hlen : ord.length = l.length := by
  have := h.len
  rw [rksOf_len] at this
  simpa using this
 have hin : ∀ (p : Nat) (k : Int), ord[p]? = some k → ∃ i : Nat, i < l.length ∧ k = (i : Int) ∧ k ∉ ord.take p := fun p k hk => by
  obtain ⟨r, rfl, hb⟩ := h.best p k hk
  have hm := hb.mem
  unfold leftOf at hm
  obtain ⟨h1, h2⟩ := List.mem_filter.1 hm
  obtain ⟨i, c, hi, rfl⟩ := rksOf_mem.1 h1
  refine ⟨i, (List.getElem?_eq_some_iff.1 hi).1, rfl, ?_⟩
  simpa using h2
 have hnd : ord.Nodup := by
  rw [List.nodup_iff_pairwise_ne, List.pairwise_iff_getElem]
  intro i j hi hj hij e
  obtain ⟨-, -, -, h4⟩ := hin j ord[j] (List.getElem?_eq_getElem hj)
  apply h4
  rw [← e]
  exact List.mem_take_iff_getElem.2 ⟨i, by omega, rfl⟩
 refine perm_len _ _ hnd (fun k hk => ?_) (by simp [hlen])
 obtain ⟨p, hp⟩ := List.getElem?_of_mem hk
 obtain ⟨i, h1, h2, -⟩ := hin p k hp
 exact List.mem_map.2 ⟨i, List.mem_range.2 h1, h2.symm⟩
theorem ord_first {l : List Cd} {ord : List Int} (h : OrdSt (rksOf l) [] ord) {k : Int} (hk : ord[0]? = some k) : bestI l = k := by
 obtain ⟨r, rfl, hb⟩ := h.best 0 k hk
 have e : leftOf (rksOf l) (ord.take 0) = rksOf l := by
  unfold leftOf
  rw [List.filter_eq_self]
  intro x _
  simp
 rw [e] at hb
 obtain ⟨i, c, hi, rfl⟩ := rksOf_mem.1 hb.mem
 exact bestI_of hi hb
def pickCV (ys : List CV) (p : Pf) (k : Int) : BE := match ys[k.toNat]? with | some y => ⟨y.c.peer, p, y.c.a, y.v⟩ | none => ⟨0, p, ⟨0, 0, [], 0, 0, 0, 0, 0, [], []⟩, av0⟩
def beC (x : BE) : Int × At := (x.peer, x.a)
theorem pick_perm {ys : List CV} {p : Pf} {ord : List Int} (h : ord.Perm ((List.range ys.length).map fun (i : Nat) => (i : Int))) : ((ord.map (pickCV ys p)).map beC).Perm (ys.map fun y => (y.c.peer, y.c.a)) := by
 have h1 := (h.map (pickCV ys p)).map beC
 refine h1.trans ?_
 rw [List.map_map, List.map_map]
 have : (List.range ys.length).map (beC ∘ pickCV ys p ∘ fun (i : Nat) => (i : Int)) = ys.map fun y => (y.c.peer, y.c.a) := by
  apply List.ext_getElem?
  intro i
  rw [List.getElem?_map, List.getElem?_map]
  by_cases hi : i < ys.length
  ·rw [List.getElem?_range hi, List.getElem?_eq_getElem hi]
   simp [pickCV, beC, hi]
  ·rw [List.getElem?_eq_none (by simpa using hi), List.getElem?_eq_none (by omega)]
   rfl
 show (List.map (beC ∘ pickCV ys p ∘ fun (i : Nat) => (i : Int)) (List.range ys.length)).Perm _
 rw [this]
abbrev OwnOf := OwnR 61 13 beL (fun x W => AvAt W x.a x.v)
def OffersPost (l : List Cd) (p : Pf) (W : World) (e : Ending) (w' : World) : Prop :=
 ∃ (s : Option Addr) (c : Nat) (L : List BE) (A : Nat → Prop), e = .returned (.slice s L.length c) ∧ OwnOf w' W.heap.size (.slice s L.length c) L A ∧ (L.map beC).Perm (l.map fun c => (c.peer, c.a)) ∧ (∀ x ∈ L, x.p = p) ∧ (∀ x, L[0]? = some x → pickB l = some (x.peer, x.a)) ∧ Below W.heap.size W w'
section
variable {W : World} {rho : Nat → Role} {sb fb : Nat} {ls : List Pl} {S : Sv}
set_option maxHeartbeats 1600000 in
set_option maxRecDepth 100000 in
theorem offers_none (p : Pf) {f : Value} (n : Int) (W : World) (MB : ∀ w1, Below W.heap.size W w1 → Calls Tryz.prog 58 #[f, .int .i64 n] w1 fun e w2 => e = .returned (.pointer none) ∧ w1 = w2) :
  Calls Tryz.prog 30 #[f, .int .i64 n, .agg #[.int .u32 p.1, .int .i64 p.2]] W fun e w' => e = .returned (.slice none 0 0) ∧ Below W.heap.size W w' := by
 have MB := jh MB
 go_enter Tryz.func30, Tryz.ntmps30
 go_upto_region 1 with (fail)
 obtain ⟨W0, hW0, c0, c1, hB⟩ := box2 W (.int .u32 p.1) (.int .i64 p.2) 53
 rw [← hW0]
 have B0 := jh hB
 clear hW0 hB
 go_wp2_with fail
 refine (MB.out _ B0.out).mono ?_
 rintro e w1 ⟨rfl, rfl⟩
 go_wp2_with fail
 go_ret
 exact ⟨rfl, B0.out⟩
theorem sv_Offers_no (h : SrvM W rho sb fb ls S) {n : Int} (hn : ¬ (0 ≤ n ∧ n < (S.ms.length : Int))) (p : Pf) : Calls Tryz.prog 30 #[.pointer (some ⟨sb, 0, none⟩), .int .i64 n, .agg #[.int .u32 p.1, .int .i64 p.2]] W fun e w' => e = .returned (.slice none 0 0) ∧ Below W.heap.size W w' :=
 offers_none p n W fun _ hb => sv_member_no (h.below hb) hn
theorem iL_at {w : World} {s : Option Addr} {n c : Nat} {xs : List Int} (h : SlAt w 1 (fun x cs => cs = intL x) (.slice s n c) xs) {i : Nat} {x : Int} (hx : xs[i]? = some x) : ∃ g o, s = some ⟨g, o, none⟩ ∧ w.cell? ⟨g, o + i, none⟩ = some (.int .i64 x) := by
 obtain ⟨s', c', e, h1, h2, h3⟩ := h
 injection e with e _ _
 subst e
 have hi := (List.getElem?_eq_some_iff.1 hx).1
 obtain ⟨b, off, rfl, h4⟩ := h3 (by omega)
 obtain ⟨cs, -, rfl, hc⟩ := h4 i x hx
 have := hc 0 _ rfl
 rw [Nat.mul_one] at this
 exact ⟨b, off, rfl, this⟩
set_option maxHeartbeats 6400000 in
set_option maxRecDepth 100000 in
theorem sv_Offers (h : SrvM W rho sb fb ls S) {i : Nat} {m : Pm} (hm : S.ms[i]? = some m) (p : Pf) (hp : KOk p) :
  Calls Tryz.prog 30 #[.pointer (some ⟨sb, 0, none⟩), .int .i64 i, .agg #[.int .u32 p.1, .int .i64 p.2]] W (OffersPost (offS S.own S.bl S.ms i p) p W) := by
 obtain ⟨l, hl, hM⟩ := h.get hm
 have HS := jh h
 have HM := jh hm
 have HP := jh hp
 have MB := jh (fun w' (hb : Below W.heap.size W w') => sv_member (h.below hb) hl)
 have AS : Hid (asOf S.ms i = m.as_) := jh (by unfold asOf; rw [hm]; rfl)
 obtain ⟨i0, hii, hz0, hz1, hz2⟩ := info_parts info_rtB
 clear h hm hl hM hp
 go_enter Tryz.func30, Tryz.ntmps30
 go_upto_region 1 with (fail)
 obtain ⟨W0, hW0, c0, c1, hB⟩ := box2 W (.int .u32 p.1) (.int .i64 p.2) 53
 rw [← hW0]
 obtain ⟨pb, hpb⟩ : ∃ pb, pb = W.heap.size := ⟨_, rfl⟩
 rw [← hpb] at c0 c1 ⊢
 have B0 := jh hB
 have HS0 := jh (HS.out.below hB)
 have SD := jh (sv_said HS0.out p HP.out.1)
 clear hW0 hB hpb
 go_wp2_with fail
 refine (MB.out _ B0.out).mono ?_
 rintro e w1 ⟨rfl, rfl⟩
 go_wp2_with fail
 refine SD.out.mono ?_
 rintro e w2 ⟨sx, cx, xs, A, rfl, ox, xe, hb2⟩
 have HS2 := jh (HS0.out.below hb2)
 have AC := jh (said_cs HS2.out xe)
 have XE := jh xe
 have XO := jh ox
 have B2 := jh (jC B0.out hb2)
 have OF := jh (sv_offered HS2.out HM.out (.slice sx xs.length cx) xs ox.at AC.out.2.1 AC.out.2.2)
 clear ox xe hb2 SD c0 c1 HS0 MB
 go_wp2_with fail
 refine OF.out.mono ?_
 rintro e w3 ⟨so, co, rfl, fo, hb3⟩
 obtain ⟨ys, hys⟩ : ∃ ys, goL S.own S.bl i m.as_ xs = ys := ⟨_, rfl⟩
 rw [hys] at fo ⊢
 have YE : Hid (ys.map (·.c) = offS S.own S.bl S.ms i p) := jh (by
  rw [← hys, goL_c]
  unfold offS
  rw [AS.out, ← XE.out])
 have YM : Hid (∀ y ∈ ys, y ∈ xs) := jh (by rw [← hys]; intro y hy; exact (List.mem_filter.1 hy).1)
 have YL : Hid (ys.length ≤ 16) := jh (by rw [← hys]; exact Nat.le_trans (List.length_filter_le ..) AC.out.2.2)
 have X3 := jh (XO.out.below hb3)
 have CY : Hid (CvsAt w3 (.slice so ys.length co) ys) := jh ⟨fo.self, fun y hy => X3.out.mem.self y (YM.out y hy)⟩
 have OKY : Hid (∀ y ∈ ys, OkC y.c) := jh fun y hy => AC.out.1 y (YM.out y hy)
 have B3 := jh (jC B2.out hb3)
 have OD := jh (ch_Order (.slice so ys.length co) (ys.map (·.c)) w3 (CY.out.cds OKY.out) (by rw [List.length_map]; have := YL.out; omega) (fun c hc => by
  obtain ⟨y, hy, rfl⟩ := List.mem_map.1 hc
  exact (OKY.out y hy).2.2.2.2.hops))
 clear fo hys hb3 OF XO HS2
 go_wp2_with fail
 refine OD.out.mono ?_
 rintro e w4 ⟨vo, ord, rfl, os, oi, hb4⟩
 obtain ⟨si, ci, rfl, oil, -⟩ := id oi
 have OP := jh (ord_perm os)
 have OS1 := jh os
 have OI := jh oi
 have B4 := jh (jC B3.out hb4)
 have X4 := jh (X3.out.below hb4)
 have CY4 := jh (CY.out.below hb4)
 have OL : Hid (ord.length = ys.length) := jh (by have := OP.out.length_eq; simpa using this)
 have ol : ord.length ≤ 16 := by rw [OL.out]; exact YL.out
 have A4 : Hid (∀ k, A k → k < w4.heap.size) := jh (fun k hk => (X4.out.lt k hk).2)
 clear os oi oil hb4 OD X3 CY B3
 have O0 : Hid (w4.ownsRow w4.heap.size 61 13 (.slice none 0 0) 0 (((ord.take 0).map (pickCV ys p)).flatMap beL)) := jh ⟨by simp, .inl ⟨rfl, rfl⟩⟩
 go_wp2_with fail
 go_loopw [24, 8] (fun t24 t8 wr => ∃ (j : Nat) (s : Option Addr) (c : Nat), j ≤ ord.length ∧ t24 = .int .i64 j ∧ t8 = .slice s j c ∧ Hid (wr.ownsRow w4.heap.size 61 13 (.slice s j c) j (((ord.take j).map (pickCV ys p)).flatMap beL)) ∧ Hid (Below w4.heap.size w4 wr)) (fun t24 _ _ => ord.length - (intOf t24).toNat)
 case atStart => exact ⟨0, none, 0, by omega, rfl, rfl, O0, jh (Below.refl _ _)⟩
 case round =>
  clear O0
  obtain ⟨j, s, c, hj, rfl, rfl, OW, BV⟩ := hrel
  by_cases hjl : j < ord.length
  ·obtain ⟨k, hk⟩ : ∃ k, ord[j]? = some k := ⟨_, List.getElem?_eq_getElem hjl⟩
   obtain ⟨q, hq, rfl⟩ : ∃ q : Nat, q < ys.length ∧ k = (q : Int) := by
    have := OP.out.mem_iff.1 (List.mem_of_getElem? hk)
    obtain ⟨q, hq, rfl⟩ := List.mem_map.1 this
    exact ⟨q, by simpa using hq, rfl⟩
   obtain ⟨y, hy⟩ : ∃ y, ys[q]? = some y := ⟨_, List.getElem?_eq_getElem hq⟩
   obtain ⟨gi, oi, rfl, ci0⟩ := iL_at (SlAt.below OI.out BV.out fun _ _ h => h) hk
   obtain ⟨gy, oy, rfl, hr, -⟩ := cvs_at (CY4.out.below BV.out) hy
   have RR := jh (cv_rt hr (said_net HP.out.1 XE.out y (YM.out y (List.mem_of_getElem? hy))).1 (said_net HP.out.1 XE.out y (YM.out y (List.mem_of_getElem? hy))).2)
   have PK : Hid (pickCV ys p (q : Int) = ⟨y.c.peer, p, y.c.a, y.v⟩) := jh (by unfold pickCV; rw [Int.toNat_natCast, hy])
   have TK : Hid (ord.take (j + 1) = ord.take j ++ [(q : Int)]) := jh (take_snoc hk)
   have j0 : (0 : Int) ≤ (j : Int) := by omega
   have j1 : (j : Int) < (ord.length : Int) := by omega
   have q0 : (0 : Int) ≤ (q : Int) := by omega
   have q1 : (q : Int) < (ys.length : Int) := by omega
   clear hk hy hr hq
   go_wp2_with ((with_reducible refine jM (X := .load 61 (.tmp 32)) ?_ ?_); (· rfl))
   unfold Halt
   refine ldm_at (by rfl) 61 (.tmp 32) rfl gy (oy + q * 14) rfl (rtC y.c.peer p y.v).toList _ RR.out Tryz.underlying61 rfl sz_rt ?_
   go_wp2_with ((with_reducible refine wpList_rt1 (.tmp 33) rfl ?_ y.c.peer p y.v ?_ ?_); (· rfl); (· rfl))
   intro w7 hc7 hb7 hz7
   have O7 := jh (jQ OW.out hb7)
   have BV7 := jh (jC BV.out hb7)
   clear hb7 hz7 BV OW RR
   refine wpList_append_own_at _ rfl (.tmp 28) (.tmp 34) 57 rfl w4.heap.size 61 i0 _ 13 152 Tryz.underlying57 hii hz0 hz1 hz2 rfl (by decide) (.slice s j c) j (((ord.take j).map (pickCV ys p)).flatMap beL) rfl O7.out ⟨wr.heap.size, 0, none⟩ 1 1 (rtC y.c.peer p y.v).toList rfl rfl (fun j y hy => by have h := hc7 j y hy; unfold Addr.add; split; (· rename_i e; subst e; exact h); (· simpa using h)) (beL_one ⟨y.c.peer, p, y.c.a, y.v⟩) (by unfold maxLen; omega) (by omega) BV7.out.size ?_
   intro v8 w8 h2 h3 _ hat
   obtain ⟨s8, c8, hv8, -⟩ := jV h2
   subst hv8
   have O8 : Hid (w8.ownsRow w4.heap.size 61 13 (.slice s8 (j + 1) c8) (j + 1) (((ord.take (j + 1)).map (pickCV ys p)).flatMap beL)) := jh (by
    rw [TK.out, List.map_append, List.flatMap_append]
    have e : ([(q : Int)].map (pickCV ys p)).flatMap beL = (rtC y.c.peer p y.v).toList := by
     rw [List.map_cons, List.map_nil, PK.out]; rfl
    rw [e]
    exact h2)
   have BV8 := jh (BV7.out.trans ((kept_gr h3).below BV7.out.size fun g hg => jJ O7.out g hg))
   clear h2 h3 hat hc7 O7 BV7
   go_wp2_with fail
   exact ⟨⟨j + 1, s8, c8, by omega, by go_num, rfl, O8, BV8⟩, by simp [intOf]; omega⟩
  ·obtain rfl : j = ord.length := by omega
   have FIN : Hid (OffersPost (offS S.own S.bl S.ms i p) p W (.returned (.slice s ord.length c)) wr) := jh (by
    have hw := OW.out
    rw [List.take_length] at hw
    have el : (ord.map (pickCV ys p)).length = ord.length := List.length_map ..
    have hmm : ∀ x ∈ ord.map (pickCV ys p), ∃ y ∈ ys, x = ⟨y.c.peer, p, y.c.a, y.v⟩ := fun x hx => by
     obtain ⟨k, hk, rfl⟩ := List.mem_map.1 hx
     obtain ⟨q, hq, rfl⟩ := List.mem_map.1 (OP.out.mem_iff.1 hk)
     have hq : q < ys.length := by simpa using hq
     exact ⟨ys[q], List.getElem_mem hq, by unfold pickCV; rw [Int.toNat_natCast, List.getElem?_eq_getElem hq]⟩
    refine ⟨s, c, ord.map (pickCV ys p), A, by rw [el], ⟨?_, ?_, fun k hk => ⟨Nat.le_trans B0.out.size (X4.out.lt k hk).1, Nat.lt_of_lt_of_le (A4.out k hk) BV.out.size⟩, fun g hg hA => ?_⟩, ?_, fun x hx => ?_, fun x hx => ?_, jC B4.out BV.out⟩
    ·rw [el]; exact own_base hw B4.out.size
    ·refine (X4.out.mem.below BV.out).imp fun V hV x hx => ?_
     obtain ⟨y, hy, rfl⟩ := hmm x hx
     exact hV y (YM.out y hy)
    ·rw [el] at hg
     have h1 := jJ hw g hg
     have h2 := A4.out g hA
     omega
    ·have := pick_perm (p := p) (by have h1 := OP.out; simpa only [List.length_map] using h1)
     rw [← YE.out, List.map_map (l := ys)]
     exact this
    ·obtain ⟨y, -, rfl⟩ := hmm x hx
     rfl
    ·rw [List.getElem?_map] at hx
     cases hk : ord[0]? with
     | none => rw [hk] at hx; simp at hx
     | some k =>
      rw [hk] at hx; simp at hx
      have hb := ord_first OS1.out hk
      obtain ⟨q, hq, rfl⟩ := List.mem_map.1 (OP.out.mem_iff.1 (List.mem_of_getElem? hk))
      have hq : q < ys.length := by simpa using hq
      have hy : ys[q]? = some ys[q] := List.getElem?_eq_getElem hq
      rw [← YE.out]
      unfold pickB
      rw [hb, if_neg (by omega), Int.toNat_natCast, List.getElem?_map, hy]
      rw [← hx]
      unfold pickCV
      rw [Int.toNat_natCast, hy]
      rfl)
   clear OW BV
   go_wp2_with fail
   go_ret
   exact FIN.out
end
open Go.RowKit
def goesS (own : Int) (bl : Nat → Bool) (R : Rts) (i j : Nat) (t : Int) (p : Pf) : Bool := match getL R p with | none => false | some a => goesB own bl a i j t
section
variable {W : World} {rho : Nat → Role} {sb fb : Nat} {ls : List Pl} {S : Sv}
set_option maxHeartbeats 6400000 in
set_option maxRecDepth 100000 in
theorem sv_Goes (h : SrvM W rho sb fb ls S) {i j : Nat} {m n : Pm} (hm : S.ms[i]? = some m) (hn : S.ms[j]? = some n) (p : Pf) (hp : OkP p) :
  Calls Tryz.prog 31 #[.pointer (some ⟨sb, 0, none⟩), .int .i64 i, .int .i64 j, .agg #[.int .u32 p.1, .int .i64 p.2]] W fun e w' => e = .returned (.bool (goesS S.own S.bl m.R i j n.as_ p)) ∧ Below W.heap.size W w' := by
 obtain ⟨l, hl, hM⟩ := h.get hm
 obtain ⟨l2, hl2, hM2⟩ := h.get hn
 obtain ⟨s, cap, -, cf, -⟩ := h.cells
 have few := h.bod.few
 have hi : i < 16 := by have := (List.getElem?_eq_some_iff.1 hm).1; omega
 have hj : j < 16 := by have := (List.getElem?_eq_some_iff.1 hn).1; omega
 have HIJ := jh (And.intro hi hj)
 have m3 : W.cell? ⟨l.mb, 3, none⟩ = some (.pointer (some ⟨l.rb, 0, none⟩)) := jB hM.row 3
 have mas : W.cell? ⟨l2.mb, 0, none⟩ = some (.int .i64 n.as_) := jB hM2.row 0
 have MB := jh (fun w' (hb : Below W.heap.size W w') => sv_member (h.below hb) hl)
 have MB2 := jh (fun w' (hb : Below W.heap.size W w') => sv_member (h.below hb) hl2)
 have GT := jh (fun w' (hb : Below W.heap.size W w') => ad_Get p w' (hM.rib.below hb) hp)
 have FL := jh (fun w' (hb : Below W.heap.size W w') => (h.below hb).bod.fil)
 have M3 := jh m3
 have MAS := jh mas
 have CF := jh cf
 clear h hm hn hl hl2 hM hM2 hp m3 mas cf hi hj few
 obtain ⟨t, ht⟩ : ∃ t, n.as_ = t := ⟨_, rfl⟩
 rw [ht] at MAS ⊢
 clear ht
 go_enter Tryz.func31, Tryz.ntmps31
 go_upto_region 1 with (fail)
 obtain ⟨W0, hW0, p0, p1, hB⟩ := box2 W (.int .u32 p.1) (.int .i64 p.2) 53
 rw [← hW0]
 obtain ⟨pb, hpb⟩ : ∃ pb, pb = W.heap.size := ⟨_, rfl⟩
 rw [← hpb] at p0 p1 ⊢
 have B0 := jh hB
 have m3 := jA M3.out hB
 have mas := jA MAS.out hB
 have f1 := jA CF.out hB
 have GT0 := jh (fun w' (hb : Below W0.heap.size W0 w') => GT.out w' (jC B0.out hb))
 clear hW0 hB hpb GT M3
 go_wp2_with fail
 refine (MB.out _ B0.out).mono ?_
 rintro e w1 ⟨rfl, rfl⟩
 go_wp2_with fail
 refine (MB2.out _ B0.out).mono ?_
 rintro e w1 ⟨rfl, rfl⟩
 go_upto_region 4 with (fail)
 cases hg : getL m.R p with
 | none =>
  have GN : Hid (∀ w', Below W0.heap.size W0 w' → Calls Tryz.prog 75 #[.pointer (some ⟨l.rb, 0, none⟩), .agg #[.int .u32 p.1, .int .i64 p.2]] w' fun e w2 => e = .returned (.tuple #[.agg (rtC 0 (0, 0) av0), .bool false]) ∧ Below w'.heap.size w' w2) := jh (fun w' hb => (GT0.out w' hb).mono fun e w2 h => by
   rcases h with ⟨-, h1, h2⟩ | ⟨a, v, h1, -⟩
   ·exact ⟨h1, h2⟩
   ·rw [hg] at h1; cases h1)
  have SV : Hid (goesS S.own S.bl m.R i j t p = false) := jh (by unfold goesS; rw [hg])
  clear hg GT0
  go_cut [11, 12] from 25 to 33 (fun s11 s12 wx => s12 = .bool false ∧ Hid (Below W0.heap.size W0 wx))
  case first =>
   refine wp_region_held_drew (S := fun w' => Below W0.heap.size W0 w') (by kernel_rfl) ?_ (fun hHeld => ?_)
   ·exact (Below.refl _ _).drew
   generalize World.drew W0 = wd at hHeld ⊢
   refine qy 0 ?_ ?_ ?_ hHeld ?_; rotate_left 1; (· rfl); (· intro w' hSw; (try clear hHeld); go_simp; try with_reducible rfl)
   try simp only [jz]
   refine qy 4 ?_ ?_ ?_ hHeld ?_; rotate_left 1; (· rfl); (· intro w' hSw; have p0 := jA p0 hSw; have p1 := jA p1 hSw; have m3 := jA m3 hSw; (try clear hHeld); go_simp; try with_reducible rfl)
   try simp only [jz]
   refine jI (i := 1) (j := 9) (atS at0) (atS (atS (atS (atS (atS (atS (atS (atS (atS at0))))))))) (by kernel_rfl) ?_ ?_ (fun K hK => ?_) (fun K hK => ?_)
   ·rfl
   ·rfl
   ·(try clear hb); go_simp; go_wp2_with fail; refine hK.out _ _ ?_ (fun hHeld => ?_); (· exact hHeld); clear hK K
    try simp only [jz]
    refine qy 2 ?_ ?_ ?_ hHeld ?_; rotate_left 1; (· rfl); (· intro w' hSw; (try clear hHeld); go_simp; try with_reducible rfl)
    try simp only [jz]
    refine qy 3 ?_ ?_ ?_ hHeld ?_; rotate_left 1; (· rfl); (· intro w' hSw; have p0 := jA p0 hSw; have p1 := jA p1 hSw; have m3 := jA m3 hSw; (try clear hHeld); go_simp; try with_reducible rfl)
    try simp only [jz]
    refine jI (i := 5) (j := 9) (atS (atS (atS (atS (atS at0))))) (atS (atS (atS (atS (atS (atS (atS (atS (atS at0))))))))) (by kernel_rfl) ?_ ?_ (fun K hK => ?_) (fun K hK => ?_)
    ·rfl
    ·rfl
    ·(try clear hb); go_simp; (refine (GN.out _ hHeld).mono ?_; rintro e w1 ⟨rfl, hb⟩); (try replace hz := (hb.block _ (jE hz)).trans hz); go_wp2_with fail; refine hK.out _ _ ?_ (fun hHeld => ?_); (· exact hHeld.trans (hb.mono hHeld.size)); clear hK K
     try simp only [jz]
     refine qy 6 ?_ ?_ ?_ hHeld ?_; rotate_left 1; (· rfl); (· intro w' hSw; (try clear hHeld); go_simp; try with_reducible rfl)
     try simp only [jz]
     refine qy 7 ?_ ?_ ?_ hHeld ?_; rotate_left 1; (· rfl); (· intro w' hSw; (try clear hHeld); go_simp; try with_reducible rfl)
     try simp only [jz]
     refine qy 8 ?_ ?_ ?_ hHeld ?_; rotate_left 1; (· rfl); (· intro w' hSw; (try clear hHeld); go_simp; try with_reducible rfl)
     try simp only [jz]
     refine jr 9 ?_ fun K hK => ?_; (· rfl); (try clear hb); go_simp; refine box_zrt (p := K _) ?_; intro w1 hz hb; have hgs := hHeld.size; refine hK.out _ _ ?_ (fun hHeld => ?_); (· exact jC hHeld hb); clear hK K
     try simp only [jz]
     refine jr 10 ?_ fun K hK => ?_; (· rfl); (try clear hb); refine jG 61 (.tmp 11) (.tmp 32) rfl _ rfl 61 (rtC 0 (0, 0) av0) _ rfl hz (by kernel_rfl) rfl (rt_one _ _ _) ?_; refine jT hz (p := K _) ?_; intro w2 hr hk2; refine hK.out _ _ ?_ (fun hHeld => ?_); (· exact hHeld.trans (hk2.below hHeld.size (by rintro k rfl; exact hgs))); clear hK K
     try simp only [Act.put]
     refine qy 11 ?_ ?_ ?_ hHeld ?_; rotate_left 1; (· rfl); (· intro w' hSw; (try clear hHeld); go_simp; try with_reducible rfl)
     try simp only [jz]
     refine wpAnyH_done (by kernel_rfl) ?_ _
     go_wp2_with fail
     go_meet
     exact ⟨rfl, jh hHeld⟩
    ·(try clear hb); go_simp; refine box_zrt (p := K _) ?_; intro w1 hz hb; have hgs := hHeld.size; refine hK.out _ _ ?_ (fun hHeld => ?_); (· exact jC hHeld hb); clear hK K
     try simp only [jz]
     refine jr 5 ?_ fun K hK => ?_; (· rfl); (try clear hb); go_simp; (refine (GN.out _ hHeld).mono ?_; rintro e w1 ⟨rfl, hb⟩); (try replace hz := (hb.block _ (jE hz)).trans hz); go_wp2_with fail; refine hK.out _ _ ?_ (fun hHeld => ?_); (· exact hHeld.trans (hb.mono hHeld.size)); clear hK K
     try simp only [jz]
     refine qy 6 ?_ ?_ ?_ hHeld ?_; rotate_left 1; (· rfl); (· intro w' hSw; (try clear hHeld); go_simp; try with_reducible rfl)
     try simp only [jz]
     refine qy 7 ?_ ?_ ?_ hHeld ?_; rotate_left 1; (· rfl); (· intro w' hSw; (try clear hHeld); go_simp; try with_reducible rfl)
     try simp only [jz]
     refine qy 8 ?_ ?_ ?_ hHeld ?_; rotate_left 1; (· rfl); (· intro w' hSw; (try clear hHeld); go_simp; try with_reducible rfl)
     try simp only [jz]
     refine jr 10 ?_ fun K hK => ?_; (· rfl); (try clear hb); refine jG 61 (.tmp 11) (.tmp 32) rfl _ rfl 61 (rtC 0 (0, 0) av0) _ rfl hz (by kernel_rfl) rfl (rt_one _ _ _) ?_; refine jT hz (p := K _) ?_; intro w2 hr hk2; refine hK.out _ _ ?_ (fun hHeld => ?_); (· exact hHeld.trans (hk2.below hHeld.size (by rintro k rfl; exact hgs))); clear hK K
     try simp only [Act.put]
     refine qy 11 ?_ ?_ ?_ hHeld ?_; rotate_left 1; (· rfl); (· intro w' hSw; (try clear hHeld); go_simp; try with_reducible rfl)
     try simp only [jz]
     refine wpAnyH_done (by kernel_rfl) ?_ _
     go_wp2_with fail
     go_meet
     exact ⟨rfl, jh hHeld⟩
   ·(try clear hb); go_simp; refine box_zrt (p := K _) ?_; intro w1 hz hb; have hgs := hHeld.size; refine hK.out _ _ ?_ (fun hHeld => ?_); (· exact jC hHeld hb); clear hK K
    try simp only [jz]
    refine jr 1 ?_ fun K hK => ?_; (· rfl); (try clear hb); go_simp; go_wp2_with fail; refine hK.out _ _ ?_ (fun hHeld => ?_); (· exact hHeld); clear hK K
    try simp only [jz]
    refine qy 2 ?_ ?_ ?_ hHeld ?_; rotate_left 1; (· rfl); (· intro w' hSw; (try clear hHeld); go_simp; try with_reducible rfl)
    try simp only [jz]
    refine qy 3 ?_ ?_ ?_ hHeld ?_; rotate_left 1; (· rfl); (· intro w' hSw; have p0 := jA p0 hSw; have p1 := jA p1 hSw; have m3 := jA m3 hSw; (try clear hHeld); go_simp; try with_reducible rfl)
    try simp only [jz]
    refine jr 5 ?_ fun K hK => ?_; (· rfl); (try clear hb); go_simp; (refine (GN.out _ hHeld).mono ?_; rintro e w1 ⟨rfl, hb⟩); (try replace hz := (hb.block _ (jE hz)).trans hz); go_wp2_with fail; refine hK.out _ _ ?_ (fun hHeld => ?_); (· exact hHeld.trans (hb.mono hHeld.size)); clear hK K
    try simp only [jz]
    refine qy 6 ?_ ?_ ?_ hHeld ?_; rotate_left 1; (· rfl); (· intro w' hSw; (try clear hHeld); go_simp; try with_reducible rfl)
    try simp only [jz]
    refine qy 7 ?_ ?_ ?_ hHeld ?_; rotate_left 1; (· rfl); (· intro w' hSw; (try clear hHeld); go_simp; try with_reducible rfl)
    try simp only [jz]
    refine qy 8 ?_ ?_ ?_ hHeld ?_; rotate_left 1; (· rfl); (· intro w' hSw; (try clear hHeld); go_simp; try with_reducible rfl)
    try simp only [jz]
    refine jr 10 ?_ fun K hK => ?_; (· rfl); (try clear hb); refine jG 61 (.tmp 11) (.tmp 32) rfl _ rfl 61 (rtC 0 (0, 0) av0) _ rfl hz (by kernel_rfl) rfl (rt_one _ _ _) ?_; refine jT hz (p := K _) ?_; intro w2 hr hk2; refine hK.out _ _ ?_ (fun hHeld => ?_); (· exact hHeld.trans (hk2.below hHeld.size (by rintro k rfl; exact hgs))); clear hK K
    try simp only [Act.put]
    refine qy 11 ?_ ?_ ?_ hHeld ?_; rotate_left 1; (· rfl); (· intro w' hSw; (try clear hHeld); go_simp; try with_reducible rfl)
    try simp only [jz]
    refine wpAnyH_done (by kernel_rfl) ?_ _
    go_wp2_with fail
    go_meet
    exact ⟨rfl, jh hHeld⟩
  case rest =>
   obtain ⟨rfl, HH⟩ := hcut
   obtain ⟨wd, hwd⟩ : ∃ wd : World, wd = wc := ⟨_, rfl⟩
   rw [← hwd] at HH ⊢
   have BV := jh (jC B0.out HH.out)
   clear hwd HH p0 p1 m3 mas f1
   go_upto_region 5 with (fail)
   refine wp_region_held_drew (S := fun w' => Below wd.heap.size wd w') (by kernel_rfl) ?_ (fun hHeld => ?_)
   ·exact (Below.refl _ _).drew
   generalize World.drew wd = wz at hHeld ⊢
   refine qy 0 ?_ ?_ ?_ hHeld ?_; rotate_left 1; (· rfl); (· intro w' hSw; (try clear hHeld); go_simp; try with_reducible rfl)
   try simp only [jz]
   refine qy 1 ?_ ?_ ?_ hHeld ?_; rotate_left 1; (· rfl); (· intro w' hSw; (try clear hHeld); go_simp; try with_reducible rfl)
   try simp only [jz]
   refine rgn (i := 2) (atN rfl) (by kernel_rfl) (fun _ _ _ h => h) ?_ hHeld ?_; (· rfl)
   try simp only [jz]
   refine rgn (i := 3) (atN rfl) (by kernel_rfl) (fun _ _ _ h => h) ?_ hHeld ?_; (· rfl)
   try simp only [jz]
   refine rgn (i := 4) (atN rfl) (by kernel_rfl) (fun _ _ _ h => h) ?_ hHeld ?_; (· rfl)
   try simp only [jz]
   refine rgn (i := 5) (atN rfl) (by kernel_rfl) (fun _ _ _ h => h) ?_ hHeld ?_; (· rfl)
   try simp only [jz]
   refine rgn (i := 6) (atN rfl) (by kernel_rfl) (fun _ _ _ h => h) ?_ hHeld ?_; (· rfl)
   try simp only [jz]
   refine rgn (i := 7) (atN rfl) (by kernel_rfl) (fun _ _ _ h => h) ?_ hHeld ?_; (· rfl)
   try simp only [jz]
   refine rgn (i := 8) (atN rfl) (by kernel_rfl) (fun _ _ _ h => h) ?_ hHeld ?_; (· rfl)
   try simp only [jz]
   refine rgn (i := 9) (atN rfl) (by kernel_rfl) (fun _ _ _ h => h) ?_ hHeld ?_; (· rfl)
   try simp only [jz]
   refine rgn (i := 10) (atN rfl) (by kernel_rfl) (fun _ _ _ h => h) ?_ hHeld ?_; (· rfl)
   try simp only [jz]
   refine rgn (i := 11) (atN rfl) (by kernel_rfl) (fun _ _ _ h => h) ?_ hHeld ?_; (· rfl)
   try simp only [jz]
   refine rgn (i := 12) (atN rfl) (by kernel_rfl) (fun _ _ _ h => h) ?_ hHeld ?_; (· rfl)
   try simp only [jz]
   refine rgn (i := 13) (atN rfl) (by kernel_rfl) (fun _ _ _ h => h) ?_ hHeld ?_; (· rfl)
   try simp only [jz]
   refine rgn (i := 14) (atN rfl) (by kernel_rfl) (fun _ _ _ h => h) ?_ hHeld ?_; (· rfl)
   try simp only [jz]
   refine rgn (i := 15) (atN rfl) (by kernel_rfl) (fun _ _ _ h => h) ?_ hHeld ?_; (· rfl)
   try simp only [jz]
   refine qy 16 ?_ ?_ ?_ hHeld ?_; rotate_left 1; (· rfl); (· intro w' hSw; (try clear hHeld); go_simp; try with_reducible rfl)
   try simp only [jz]
   refine qy 17 ?_ ?_ ?_ hHeld ?_; rotate_left 1; (· rfl); (· intro w' hSw; (try clear hHeld); go_simp; try with_reducible rfl)
   try simp only [jz]
   refine wpAnyH_done (by kernel_rfl) ?_ _
   have BV2 := jh (jC BV.out hHeld)
   clear hHeld
   go_wp2_with fail
   go_ret
   exact ⟨by rw [SV.out]; rfl, BV2.out⟩
 | some a =>
  have GN : Hid (∀ w', Below W0.heap.size W0 w' → Calls Tryz.prog 75 #[.pointer (some ⟨l.rb, 0, none⟩), .agg #[.int .u32 p.1, .int .i64 p.2]] w' fun e w2 => ∃ v : AV, e = .returned (.tuple #[.agg (rtC i p v), .bool true]) ∧ Fresh w'.heap.size w2 (fun W => AvAt W a v) ∧ Below w'.heap.size w' w2) := jh (fun w' hb => (GT0.out w' hb).mono fun e w2 h => by
   rcases h with ⟨h1, -⟩ | ⟨b, v, h1, h2, -, h4, h5⟩
   ·rw [hg] at h1; cases h1
   ·rw [hg] at h1
    injection h1 with h1
    subst h1
    exact ⟨v, h2, h4.imp fun _ h => h.at, h5⟩)
  have SV : Hid (goesS S.own S.bl m.R i j t p = goesB S.own S.bl a i j t) := jh (by unfold goesS; rw [hg])
  clear hg GT0
  go_cut [11, 12] from 25 to 33 (fun s8 s9 wx => ∃ (g8 : Nat) (v : AV) (lo : Nat), s8 = .pointer (some ⟨g8, 0, none⟩) ∧ s9 = .bool true ∧ Hid (Below W0.heap.size W0 wx ∧ wx.heap[g8]? = some (.cells (rtC i p v) 61 (0, 0)) ∧ W0.heap.size ≤ lo ∧ Fresh lo wx (fun W => AvAt W a v) ∧ W0.heap.size ≤ g8))
  case first =>
   refine wp_region_held_drew (S := fun w' => Below W0.heap.size W0 w') (by kernel_rfl) ?_ (fun hHeld => ?_)
   ·exact (Below.refl _ _).drew
   generalize World.drew W0 = wd at hHeld ⊢
   refine qy 0 ?_ ?_ ?_ hHeld ?_; rotate_left 1; (· rfl); (· intro w' hSw; (try clear hHeld); go_simp; try with_reducible rfl)
   try simp only [jz]
   refine qy 4 ?_ ?_ ?_ hHeld ?_; rotate_left 1; (· rfl); (· intro w' hSw; have p0 := jA p0 hSw; have p1 := jA p1 hSw; have m3 := jA m3 hSw; (try clear hHeld); go_simp; try with_reducible rfl)
   try simp only [jz]
   refine jI (i := 1) (j := 9) (atS at0) (atS (atS (atS (atS (atS (atS (atS (atS (atS at0))))))))) (by kernel_rfl) ?_ ?_ (fun K hK => ?_) (fun K hK => ?_)
   ·rfl
   ·rfl
   ·(try clear hb); go_simp; go_wp2_with fail; refine hK.out _ _ ?_ (fun hHeld => ?_); (· exact hHeld); clear hK K
    try simp only [jz]
    refine qy 2 ?_ ?_ ?_ hHeld ?_; rotate_left 1; (· rfl); (· intro w' hSw; (try clear hHeld); go_simp; try with_reducible rfl)
    try simp only [jz]
    refine qy 3 ?_ ?_ ?_ hHeld ?_; rotate_left 1; (· rfl); (· intro w' hSw; have p0 := jA p0 hSw; have p1 := jA p1 hSw; have m3 := jA m3 hSw; (try clear hHeld); go_simp; try with_reducible rfl)
    try simp only [jz]
    refine jI (i := 5) (j := 9) (atS (atS (atS (atS (atS at0))))) (atS (atS (atS (atS (atS (atS (atS (atS (atS at0))))))))) (by kernel_rfl) ?_ ?_ (fun K hK => ?_) (fun K hK => ?_)
    ·rfl
    ·rfl
    ·(try clear hb); go_simp; have hlo := hHeld.size; (try have hzl := jE hz); refine (GN.out _ hHeld).mono ?_; rintro e wg ⟨v, rfl, fr0, hb⟩; have fr := fresh_hi fr0; clear fr0; (try replace hz := (hb.block _ (jE hz)).trans hz); go_wp2_with fail; refine hK.out _ _ ?_ (fun hHeld => ?_); (· exact jC hHeld hb); clear hK K
     try simp only [jz]
     refine qy 6 ?_ ?_ ?_ hHeld ?_; rotate_left 1; (· rfl); (· intro w' hSw; (try clear hHeld); go_simp; try with_reducible rfl)
     try simp only [jz]
     refine qy 7 ?_ ?_ ?_ hHeld ?_; rotate_left 1; (· rfl); (· intro w' hSw; (try clear hHeld); go_simp; try with_reducible rfl)
     try simp only [jz]
     refine qy 8 ?_ ?_ ?_ hHeld ?_; rotate_left 1; (· rfl); (· intro w' hSw; (try clear hHeld); go_simp; try with_reducible rfl)
     try simp only [jz]
     refine jr 9 ?_ fun K hK => ?_; (· rfl); (try clear hb); go_simp; refine box_zrt (p := K _) ?_; intro w1 hz hb1; have hgs := hHeld.size; (try replace fr := fr.below hb1); refine hK.out _ _ ?_ (fun hHeld => ?_); (· exact jC hHeld hb1); clear hK K
     try simp only [jz]
     refine jr 10 ?_ fun K hK => ?_; (· rfl); (try clear hb); refine jG 61 (.tmp 11) (.tmp 32) rfl _ rfl 61 (rtC 0 (0, 0) av0) _ rfl hz (by kernel_rfl) rfl (rt_one _ _ _) ?_; have hfx := hgs; refine jT hz (p := K _) ?_; intro w2 hr hk2; refine hK.out _ _ ?_ (fun hHeld => ?_); (· exact hHeld.trans (hk2.below hHeld.size (by rintro k rfl; exact hgs))); clear hK K
     try simp only [Act.put]
     refine qy 11 ?_ ?_ ?_ hHeld ?_; rotate_left 1; (· rfl); (· intro w' hSw; (try clear hHeld); go_simp; try with_reducible rfl)
     try simp only [jz]
     refine wpAnyH_done (by kernel_rfl) ?_ _
     go_wp2_with fail
     go_meet
     exact ⟨_, v, _, rfl, rfl, jh ⟨hHeld, hr, hlo, (fr.kept hk2 (fun k' _ hl e => by omega)).wide (fun _ hk _ => hk.1), hgs⟩⟩
    ·(try clear hb); go_simp; refine box_zrt (p := K _) ?_; intro w1 hz hb1; have hgs := hHeld.size; (try replace fr := fr.below hb1); refine hK.out _ _ ?_ (fun hHeld => ?_); (· exact jC hHeld hb1); clear hK K
     try simp only [jz]
     refine jr 5 ?_ fun K hK => ?_; (· rfl); (try clear hb); go_simp; have hlo := hHeld.size; (try have hzl := jE hz); refine (GN.out _ hHeld).mono ?_; rintro e wg ⟨v, rfl, fr0, hb⟩; have fr := fresh_hi fr0; clear fr0; (try replace hz := (hb.block _ (jE hz)).trans hz); go_wp2_with fail; refine hK.out _ _ ?_ (fun hHeld => ?_); (· exact jC hHeld hb); clear hK K
     try simp only [jz]
     refine qy 6 ?_ ?_ ?_ hHeld ?_; rotate_left 1; (· rfl); (· intro w' hSw; (try clear hHeld); go_simp; try with_reducible rfl)
     try simp only [jz]
     refine qy 7 ?_ ?_ ?_ hHeld ?_; rotate_left 1; (· rfl); (· intro w' hSw; (try clear hHeld); go_simp; try with_reducible rfl)
     try simp only [jz]
     refine qy 8 ?_ ?_ ?_ hHeld ?_; rotate_left 1; (· rfl); (· intro w' hSw; (try clear hHeld); go_simp; try with_reducible rfl)
     try simp only [jz]
     refine jr 10 ?_ fun K hK => ?_; (· rfl); (try clear hb); refine jG 61 (.tmp 11) (.tmp 32) rfl _ rfl 61 (rtC 0 (0, 0) av0) _ rfl hz (by kernel_rfl) rfl (rt_one _ _ _) ?_; have hfx := hgs; refine jT hz (p := K _) ?_; intro w2 hr hk2; refine hK.out _ _ ?_ (fun hHeld => ?_); (· exact hHeld.trans (hk2.below hHeld.size (by rintro k rfl; exact hgs))); clear hK K
     try simp only [Act.put]
     refine qy 11 ?_ ?_ ?_ hHeld ?_; rotate_left 1; (· rfl); (· intro w' hSw; (try clear hHeld); go_simp; try with_reducible rfl)
     try simp only [jz]
     refine wpAnyH_done (by kernel_rfl) ?_ _
     go_wp2_with fail
     go_meet
     exact ⟨_, v, _, rfl, rfl, jh ⟨hHeld, hr, hlo, (fr.kept hk2 (fun k' _ hl e => by omega)).wide (fun _ hk _ => hk.1), hgs⟩⟩
   ·(try clear hb); go_simp; refine box_zrt (p := K _) ?_; intro w1 hz hb1; have hgs := hHeld.size; (try replace fr := fr.below hb1); refine hK.out _ _ ?_ (fun hHeld => ?_); (· exact jC hHeld hb1); clear hK K
    try simp only [jz]
    refine jr 1 ?_ fun K hK => ?_; (· rfl); (try clear hb); go_simp; go_wp2_with fail; refine hK.out _ _ ?_ (fun hHeld => ?_); (· exact hHeld); clear hK K
    try simp only [jz]
    refine qy 2 ?_ ?_ ?_ hHeld ?_; rotate_left 1; (· rfl); (· intro w' hSw; (try clear hHeld); go_simp; try with_reducible rfl)
    try simp only [jz]
    refine qy 3 ?_ ?_ ?_ hHeld ?_; rotate_left 1; (· rfl); (· intro w' hSw; have p0 := jA p0 hSw; have p1 := jA p1 hSw; have m3 := jA m3 hSw; (try clear hHeld); go_simp; try with_reducible rfl)
    try simp only [jz]
    refine jr 5 ?_ fun K hK => ?_; (· rfl); (try clear hb); go_simp; have hlo := hHeld.size; (try have hzl := jE hz); refine (GN.out _ hHeld).mono ?_; rintro e wg ⟨v, rfl, fr0, hb⟩; have fr := fresh_hi fr0; clear fr0; (try replace hz := (hb.block _ (jE hz)).trans hz); go_wp2_with fail; refine hK.out _ _ ?_ (fun hHeld => ?_); (· exact jC hHeld hb); clear hK K
    try simp only [jz]
    refine qy 6 ?_ ?_ ?_ hHeld ?_; rotate_left 1; (· rfl); (· intro w' hSw; (try clear hHeld); go_simp; try with_reducible rfl)
    try simp only [jz]
    refine qy 7 ?_ ?_ ?_ hHeld ?_; rotate_left 1; (· rfl); (· intro w' hSw; (try clear hHeld); go_simp; try with_reducible rfl)
    try simp only [jz]
    refine qy 8 ?_ ?_ ?_ hHeld ?_; rotate_left 1; (· rfl); (· intro w' hSw; (try clear hHeld); go_simp; try with_reducible rfl)
    try simp only [jz]
    refine jr 10 ?_ fun K hK => ?_; (· rfl); (try clear hb); refine jG 61 (.tmp 11) (.tmp 32) rfl _ rfl 61 (rtC 0 (0, 0) av0) _ rfl hz (by kernel_rfl) rfl (rt_one _ _ _) ?_; have hfx := hgs; refine jT hz (p := K _) ?_; intro w2 hr hk2; refine hK.out _ _ ?_ (fun hHeld => ?_); (· exact hHeld.trans (hk2.below hHeld.size (by rintro k rfl; exact hgs))); clear hK K
    try simp only [Act.put]
    refine qy 11 ?_ ?_ ?_ hHeld ?_; rotate_left 1; (· rfl); (· intro w' hSw; (try clear hHeld); go_simp; try with_reducible rfl)
    try simp only [jz]
    refine wpAnyH_done (by kernel_rfl) ?_ _
    go_wp2_with fail
    go_meet
    exact ⟨_, v, _, rfl, rfl, jh ⟨hHeld, hr, hlo, (fr.kept hk2 (fun k' _ hl e => by omega)).wide (fun _ hk _ => hk.1), hgs⟩⟩
  case rest =>
   obtain ⟨g8, v, lo, rfl, rfl, HH⟩ := hcut
   obtain ⟨wd, hwd⟩ : ∃ wd : World, wd = wc := ⟨_, rfl⟩
   rw [← hwd] at HH ⊢
   have RQ := jh (rt_range HH.out.2.1)
   have AV := jh HH.out.2.2.2.1.self
   have BV := jh (jC B0.out HH.out.1)
   replace mas := jA mas HH.out.1
   replace f1 := jA f1 HH.out.1
   have GB := jh (fun w' (hb : Below wd.heap.size wd w') => av_Goes fb S.own S.bl a v i j t HIJ.out.1 HIJ.out.2 w' (FL.out w' (jC BV.out hb)) (AV.out.below hb))
   obtain ⟨z, hz⟩ : ∃ z, goesB S.own S.bl a i j t = z := ⟨_, rfl⟩
   rw [hz] at GB SV
   clear hwd HH p0 p1 m3 hz
   go_upto_region 5 with (fail)
   refine wp_region_held_drew (S := fun w' => Below wd.heap.size wd w') (by kernel_rfl) ?_ (fun hHeld => ?_)
   ·exact (Below.refl _ _).drew
   generalize World.drew wd = wz at hHeld ⊢
   refine qy 0 ?_ ?_ ?_ hHeld ?_; rotate_left 1; (· rfl); (· intro w' hSw; (try clear hHeld); go_simp; try with_reducible rfl)
   try simp only [jz]
   refine qy 1 ?_ ?_ ?_ hHeld ?_; rotate_left 1; (· rfl); (· intro w' hSw; (try clear hHeld); go_simp; try with_reducible rfl)
   try simp only [jz]
   first | (refine rgn (i := 2) (atN rfl) (by kernel_rfl) (fun _ _ _ h => h) ?_ hHeld ?_; (· rfl)) | (refine qy 2 ?_ ?_ ?_ hHeld ?_; rotate_left 1; (· rfl); (· intro w' hSw; (try clear hHeld); go_simp; try with_reducible rfl))
   try simp only [jz]
   first | (refine rgn (i := 3) (atN rfl) (by kernel_rfl) (fun _ _ _ h => h) ?_ hHeld ?_; (· rfl)) | (refine qy 3 ?_ ?_ ?_ hHeld ?_; rotate_left 1; (· rfl); (· intro w' hSw; (try clear hHeld); go_simp; try with_reducible rfl))
   try simp only [jz]
   first | (refine rgn (i := 4) (atN rfl) (by kernel_rfl) (fun _ _ _ h => h) ?_ hHeld ?_; (· rfl)) | (refine qy 4 ?_ ?_ ?_ hHeld ?_; rotate_left 1; (· rfl); (· intro w' hSw; (try clear hHeld); go_simp; try with_reducible rfl))
   try simp only [jz]
   first | (refine rgn (i := 5) (atN rfl) (by kernel_rfl) (fun _ _ _ h => h) ?_ hHeld ?_; (· rfl)) | (refine qy 5 ?_ ?_ ?_ hHeld ?_; rotate_left 1; (· rfl); (· intro w' hSw; have f1 := jA f1 hSw; have mas := jA mas hSw; (try clear hHeld); go_simp; try with_reducible rfl))
   try simp only [jz]
   first | (refine rgn (i := 6) (atN rfl) (by kernel_rfl) (fun _ _ _ h => h) ?_ hHeld ?_; (· rfl)) | (refine qy 6 ?_ ?_ ?_ hHeld ?_; rotate_left 1; (· rfl); (· intro w' hSw; (try clear hHeld); go_simp; try with_reducible rfl))
   try simp only [jz]
   first | (refine rgn (i := 7) (atN rfl) (by kernel_rfl) (fun _ _ _ h => h) ?_ hHeld ?_; (· rfl)) | (refine qy 7 ?_ ?_ ?_ hHeld ?_; rotate_left 1; (· rfl); (· intro w' hSw; refine exec_ldm 42 (.tmp 40) ?_ g8 3 ?_ v.C.toList _ (fun q u hq => jA (RQ.out q u hq) hSw) Tryz.underlying42 rfl sz_avS <;> rfl))
   try simp only [jz]
   first | (refine rgn (i := 8) (atN rfl) (by kernel_rfl) (fun _ _ _ h => h) ?_ hHeld ?_; (· rfl)) | (refine qy 8 ?_ ?_ ?_ hHeld ?_; rotate_left 1; (· rfl); (· intro w' hSw; (try clear hHeld); go_simp; try with_reducible rfl))
   try simp only [jz]
   first | (refine rgn (i := 9) (atN rfl) (by kernel_rfl) (fun _ _ _ h => h) ?_ hHeld ?_; (· rfl)) | (refine qy 9 ?_ ?_ ?_ hHeld ?_; rotate_left 1; (· rfl); (· intro w' hSw; (try clear hHeld); go_simp; try with_reducible rfl))
   try simp only [jz]
   first | (refine rgn (i := 10) (atN rfl) (by kernel_rfl) (fun _ _ _ h => h) ?_ hHeld ?_; (· rfl)) | (refine qy 10 ?_ ?_ ?_ hHeld ?_; rotate_left 1; (· rfl); (· intro w' hSw; (try clear hHeld); go_simp; try with_reducible rfl))
   try simp only [jz]
   first | (refine rgn (i := 11) (atN rfl) (by kernel_rfl) (fun _ _ _ h => h) ?_ hHeld ?_; (· rfl)) | (refine qy 11 ?_ ?_ ?_ hHeld ?_; rotate_left 1; (· rfl); (· intro w' hSw; (try clear hHeld); go_simp; try with_reducible rfl))
   try simp only [jz]
   first | (refine rgn (i := 12) (atN rfl) (by kernel_rfl) (fun _ _ _ h => h) ?_ hHeld ?_; (· rfl)) | (refine qy 12 ?_ ?_ ?_ hHeld ?_; rotate_left 1; (· rfl); (· intro w' hSw; (try clear hHeld); go_simp; try with_reducible rfl))
   try simp only [jz]
   first | (refine rgn (i := 13) (atN rfl) (by kernel_rfl) (fun _ _ _ h => h) ?_ hHeld ?_; (· rfl)) | (refine qy 13 ?_ ?_ ?_ hHeld ?_; rotate_left 1; (· rfl); (· intro w' hSw; (try clear hHeld); go_simp; try with_reducible rfl))
   try simp only [jz]
   first | (refine rgn (i := 14) (atN rfl) (by kernel_rfl) (fun _ _ _ h => h) ?_ hHeld ?_; (· rfl)) | (refine qy 14 ?_ ?_ ?_ hHeld ?_; rotate_left 1; (· rfl); (· intro w' hSw; have f1 := jA f1 hSw; have mas := jA mas hSw; (try clear hHeld); go_simp; try with_reducible rfl))
   try simp only [jz]
   first | (refine rgn (i := 15) (atN rfl) (by kernel_rfl) (fun _ _ _ h => h) ?_ hHeld ?_; (· rfl)) | (refine jr 15 ?_ fun K hK => ?_; (· rfl); (try clear hb); go_simp; (refine (GB.out _ hHeld).mono ?_; rintro e w1 ⟨rfl, hb⟩); go_wp2_with fail; refine hK.out _ _ ?_ (fun hHeld => ?_); (· exact hHeld.trans (hb.mono hHeld.size)); clear hK K)
   try simp only [jz]
   refine qy 16 ?_ ?_ ?_ hHeld ?_; rotate_left 1; (· rfl); (· intro w' hSw; (try clear hHeld); go_simp; try with_reducible rfl)
   try simp only [jz]
   refine qy 17 ?_ ?_ ?_ hHeld ?_; rotate_left 1; (· rfl); (· intro w' hSw; (try clear hHeld); go_simp; try with_reducible rfl)
   try simp only [jz]
   refine wpAnyH_done (by kernel_rfl) ?_ _
   have BV2 := jh (jC BV.out hHeld)
   clear hHeld
   go_wp2_with fail
   go_ret
   exact ⟨by rw [SV.out]; rfl, BV2.out⟩
end
end Go.Proofs.YtkoidahgbbabiaaGreat
