/-
  CHOOSE: Order: all, the best first.
-/
import Derived.Test.YtfkplbkllmnfeaaChO
import Derived.Test.YtfkplbkllmnfeaaChV
namespace Go.Proofs.Ytfkplbkllmnfeaa
open Go.RowKit

def leftOf (R : List Rk) (gone : List Int) : List Rk := R.filter fun r => !gone.contains r.place
structure OrdSt (R left : List Rk) (out : List Int) : Prop where
  eq : left = leftOf R out
  len : left.length + out.length = R.length
  best : ∀ (p : Nat) (k : Int), out[p]? = some k → ∃ r, r.place = k ∧ IsBest (leftOf R (out.take p)) r
theorem OrdSt.init (R : List Rk) : OrdSt R R [] := ⟨(List.filter_eq_self.2 fun _ _ => rfl).symm, by simp, fun p k h => by simp at h⟩
theorem filter_one {T : Rk} : ∀ {l : List Rk}, l.Pairwise (fun a b => a.place ≠ b.place) → T ∈ l → (l.filter (keepP T.place)).length + 1 = l.length
  | [], _, h => by simp at h
  | x :: l, hp, h => by
    obtain ⟨h1, h2⟩ := List.pairwise_cons.1 hp
    rcases List.mem_cons.1 h with rfl | h
    · rw [List.filter_cons_of_neg (by unfold keepP; simp), List.filter_eq_self.2 (fun y hy => by unfold keepP; have := h1 y hy; simpa using fun e => this e.symm)]
      rfl
    · rw [List.filter_cons_of_pos (by unfold keepP; simpa using h1 T h), List.length_cons, filter_one h2 h]
      rfl
theorem left_snoc (R : List Rk) (out : List Int) (t : Int) : leftOf R (out ++ [t]) = (leftOf R out).filter (keepP t) := by
  unfold leftOf
  rw [List.filter_filter]
  congr 1
  funext r
  unfold keepP
  rw [Bool.and_comm]
  by_cases h : r.place = t <;> simp [h]
theorem OrdSt.step {R rs : List Rk} {r : Rk} {out : List Int} (hR : R.Pairwise (fun a b => a.place ≠ b.place)) (h : OrdSt R (r :: rs) out) :
    OrdSt R ((r :: rs).filter (keepP (bestR r rs).place)) (out ++ [(bestR r rs).place]) := by
  have hb := best_spec r rs
  have h1 := h.eq
  have hp : (r :: rs).Pairwise (fun a b => a.place ≠ b.place) := by rw [h1]; exact hR.filter _
  have hl := filter_one hp hb.mem
  refine ⟨by rw [left_snoc, ← h1], by have := h.len; rw [List.length_append]; simp only [List.length_cons, List.length_nil] at *; omega, fun p k hk => ?_⟩
  by_cases hlt : p < out.length
  · rw [List.getElem?_append_left hlt] at hk
    rw [List.take_append_of_le_length (by omega)]
    exact h.best p k hk
  · rw [List.getElem?_append_right (by omega)] at hk
    have e : p = out.length := by
      have := (List.getElem?_eq_some_iff.1 hk).1
      simp at this; omega
    subst e
    simp at hk
    rw [List.take_left]
    exact ⟨_, hk, h1 ▸ hb⟩
theorem rks_apart (xs : List Cd) : (rksOf xs).Pairwise (fun a b => a.place ≠ b.place) := by
  rw [List.pairwise_iff_getElem]
  intro i j hi hj hij
  unfold rksOf at *
  simp only [List.getElem_mapIdx]
  show (i : Int) ≠ (j : Int)
  omega
theorem RkRow.belowB {w w' : World} {B g n : Nat} {rs : List Rk} (h : RkRow w g n rs) (hb : Below B w w') (hg : g < B) : RkRow w' g n rs := by
  refine ⟨fun i x hx j v hv => ?_, fun j hj => ?_⟩
  · rw [hb.cell hg]; exact h.1 i x hx j v hv
  · obtain ⟨h1, h2⟩ := h.2 j hj
    exact ⟨by rw [hb.cell hg]; exact h1, (hb.frozen (p := ⟨g, 0 + j, none⟩) hg).trans h2⟩
theorem RkRow.rks {w : World} {g n : Nat} {rs : List Rk} (h : RkRow w g n rs) (hl : rs.length ≤ n) (hm : n ≤ maxLen) : RksAt w (.slice (some ⟨g, 0, none⟩) rs.length n) rs :=
  ⟨_, _, rfl, hl, hm, fun _ => ⟨g, 0, rfl, fun i x hx => ⟨rkL x, rfl, rfl, fun j c hc => by rw [Nat.zero_add]; exact h.1 i x hx j c hc⟩⟩⟩
theorem own_kept {F : Nat → Prop} {w w' : World} {B k : Nat} {e : TypeId} {n : Nat} {v : Value} {xs : List Value} (h : w.ownsRow B e k v n xs) (hk : Kept F w w') (hne : ∀ g, v.ownBlock = some g → ¬ F g) : w'.ownsRow B e k v n xs := by
  obtain ⟨h1, h2⟩ := h
  refine ⟨h1, h2.imp_right ?_⟩
  rintro ⟨g, cap, cur, h3, h4, h5, h6⟩
  exact ⟨g, cap, cur, h3, h4, (hk.block g (row_lt h5) (hne g (by rw [h3]; rfl))).trans h5, h6⟩
theorem Kept.on {F : Nat → Prop} {a b c : World} (h : Kept F a b) (k : Below a.heap.size b c) : Kept F a c :=
  ⟨k.os.trans h.os, k.tape.trans h.tape, k.output.trans h.output, Nat.le_trans h.size k.size, fun i hi hf => (k.block i hi).trans (h.block i hi hf)⟩
theorem own_nil {w : World} {B k : Nat} {e : TypeId} : w.ownsRow B e k (.slice none 0 0) 0 [] := ⟨by simp, .inl ⟨rfl, rfl⟩⟩
def sliceLen : Value → Nat | .slice _ n _ => n | _ => 0
def OrderPost (w : World) (R : List Rk) (e : Ending) (w' : World) : Prop := ∃ v' out, e = .returned v' ∧ OrdSt R [] out ∧ SlAt w' 1 (fun x cs => cs = intL x) v' out ∧ Below w.heap.size w w'
set_option maxHeartbeats 6400000 in
set_option maxRecDepth 100000 in
theorem ch_Order (v : Value) (xs : List Cd) (w : World) (h : CdsAt w v xs) (hn : xs.length ≤ 100000) (hh : ∀ c ∈ xs, hopsN c.a.path ≤ 4611686018427387904) : Calls Try.prog 17 #[v] w (OrderPost w (rksOf xs)) := by
  obtain ⟨i0, hii, hz0, hz1, hz2⟩ := info_parts info_int
  have RK := Lib.hid (ch_ranks v xs w h hn hh)
  have FI := Lib.hid (cds_first h)
  have HF : Hid (∀ q ∈ rksOf xs, I64r q.first) := Lib.hid (fun q hq => by
    obtain ⟨i, d, hi, rfl⟩ := rksOf_mem.1 hq
    exact FI.out d (List.mem_of_getElem? hi))
  have HL := Lib.hid (rksOf_len xs)
  have AP := Lib.hid (rks_apart xs)
  have I0 := Lib.hid (OrdSt.init (rksOf xs))
  generalize rksOf xs = R at RK HF HL AP I0 ⊢
  generalize xs.length = n at hn RK HL
  clear h hh FI
  have n0 : ((n : Int) > 0) ∨ n = 0 := by omega
  go_enter Try.func17, Try.ntmps17
  go_wp2_with fail
  refine RK.out.mono ?_
  rintro e w1 ⟨g, rfl, R1, hg, hb1⟩
  by_cases hz : n = 0
  · subst hz
    have e0 : R = [] := List.length_eq_zero_iff.1 HL.out
    subst e0
    clear RK R1
    go_wp2_with fail
    go_loopw [3, 4] (fun vl vo wr => vl = .slice (some ⟨g, 0, none⟩) 0 0 ∧ vo = .slice none 0 0 ∧ wr = w1) (fun _ _ _ => 0)
    case atStart => exact ⟨rfl, rfl, rfl⟩
    case round =>
      obtain ⟨rfl, rfl, rfl⟩ := hrel
      go_wp2_with fail
      go_ret
      exact ⟨_, [], rfl, I0.out, SlAt.nil, hb1⟩
  · have GL : Hid (g < w1.heap.size) := Lib.hid (by
      obtain ⟨h1, _⟩ := R1.2 0 (by omega)
      obtain ⟨u, hu⟩ := Option.isSome_iff_exists.1 h1
      exact size_lt hu)
    have R1 := Lib.hid R1
    have B1 := Lib.hid hb1
    have GG := Lib.hid hg
    clear RK hb1 hg n0
    go_wp2_with fail
    go_loopw [3, 4] (fun vl vo wr => ∃ left out, vl = .slice (some ⟨g, 0, none⟩) left.length n ∧ left.length ≤ n ∧ out.length ≤ n ∧ Hid (OrdSt R left out) ∧ Hid (RkRow wr g n left) ∧ Hid (wr.ownsRow w1.heap.size 3 1 vo out.length (out.flatMap intL)) ∧ Hid (Kept (fun b => b = g) w1 wr)) (fun vl _ _ => sliceLen vl)
    case atStart => exact ⟨R, [], by rw [HL.out], by rw [HL.out]; omega, by simp, I0, R1, Lib.hid own_nil, Lib.hid (Kept.refl _ _)⟩
    case round =>
      clear I0 R1
      obtain ⟨left, out, rfl, hl1, hl2, OS, RR, O, K⟩ := hrel
      cases left with
      | nil =>
        have SL := Lib.hid (own_slat (C := intL) (xs := out) intL_len O.out)
        have BB := Lib.hid (B1.out.trans (K.out.below B1.out.size (fun k hk => by rw [hk]; exact GG.out)))
        clear RR O K
        go_wp2_with fail
        go_ret
        exact ⟨_, out, rfl, OS.out, SL.out, BB.out⟩
      | cons r rs =>
        have hlr : rs.length ≤ 100000 := by simp only [List.length_cons] at hl1; omega
        have OK : ∀ q ∈ r :: rs, I64r q.first := fun q hq => by
          rw [OS.out.eq] at hq
          exact HF.out q (List.mem_filter.1 hq).1
        have BE := Lib.hid (ch_best _ r rs wr (RR.out.rks hl1 (by unfold maxLen; omega)) hlr OK (left_ne r rs))
        have OS2 := Lib.hid (OS.out.step AP.out)
        have T1 : (bestR r rs) ∈ r :: rs := (best_spec r rs).mem
        have HD := Lib.hid (fun tb W R ht hne => ch_Delete g n (r :: rs) tb (bestR r rs).place W R hl1 hn ht hne)
        have HL2 : Hid (((r :: rs).filter (keepP (bestR r rs).place)).length + 1 = (r :: rs).length) := Lib.hid (by
          have a := OS2.out.len
          have b := OS.out.len
          rw [List.length_append] at a
          simp only [List.length_cons, List.length_nil] at *; omega)
        have OL : Hid (out.length + 1 ≤ n) := Lib.hid (by
          have b := OS.out.len
          have := HL.out
          simp only [List.length_cons] at b; omega)
        generalize (r :: rs).filter (keepP (bestR r rs).place) = lf at OS2 HD HL2
        generalize bestR r rs = T at BE OS2 HD
        have m0 : (((r :: rs).length : Nat) : Int) > 0 := by simp only [List.length_cons]; omega
        generalize hm : (r :: rs).length = m at *
        clear OK T1 OS hlr
        go_wp2_with fail
        refine BE.out.mono ?_
        rintro e w2 ⟨rfl, hb2⟩
        have RR2 := Lib.hid (RR.out.below hb2)
        have O2 := Lib.hid (own_below O.out hb2)
        have K2 := Lib.hid (K.out.trans (Kept.of_below hb2))
        clear BE hb2 RR O K
        go_upto_region 5 with (fail)
        obtain ⟨W4, hW4, q4, hb4, hs4⟩ := boxK w2 T
        rw [← hW4]
        clear hW4
        have NB : Hid (w2.heap.size ≠ g) := Lib.hid (by have := GL.out; have := K2.out.size; omega)
        have GE : Hid (w1.heap.size ≤ w2.heap.size) := Lib.hid K2.out.size
        have RR4 := Lib.hid (RR2.out.below hb4)
        have O4 := Lib.hid (own_below O2.out hb4)
        have K4 := Lib.hid (K2.out.trans (Kept.of_below hb4))
        have Q4 := Lib.hid q4
        have OB := Lib.hid (own_type O4.out q4 (by decide))
        obtain ⟨x0, -⟩ := rk_row q4
        have X4 := Lib.hid x0
        clear q4 hb4 hs4 RR2 O2 K2
        generalize w2.heap.size = tb at Q4 NB GE OB X4 x0 ⊢
        go_wp2_with (at_builtin; refine wpList_append_own_at _ rfl _ _ 28 rfl w1.heap.size 3 i0 _ 1 8 Try.underlying28 hii hz0 hz1 hz2 rfl (by decide) _ out.length (out.flatMap intL) rfl (O4.out.alloc _) ⟨W4.heap.size, 0, none⟩ 1 1 (intL T.place) rfl ?ar1 ?br1 ?cr1 ?dr1 ?er1 ?fr1 ?_)
        case ar1 => rfl
        case br1 => exact new_cells _ _ _
        case cr1 => intro u hu; simp at hu; subst hu; rfl
        case dr1 => have := OL.out; unfold maxLen; omega
        case er1 => have := OL.out; omega
        case fr1 => have := K4.out.size; simp; omega
        intro v' w5 hown hgrow _ _
        have O5 : Hid (w5.ownsRow w1.heap.size 3 1 v' (out ++ [T.place]).length ((out ++ [T.place]).flatMap intL)) := Lib.hid (by
          rw [List.length_append, flat_snoc]
          exact hown)
        have B5 : Below w1.heap.size W4 w5 := ((Below.refl _ _).alloc K4.out.size _).grown hgrow (by have := K4.out.size; simp; omega) (own_form_le O4.out)
        have RR5 := Lib.hid (RR4.out.belowB B5 GL.out)
        have K5 := Lib.hid (K4.out.on B5)
        have tl : tb < W4.heap.size := row_lt Q4.out
        have X5 : w5.cell? ⟨tb, 0, none⟩ = some (.int .i64 T.place) := by
          rw [World.cell?_of_block (hgrow.block tb (by simp; omega) (Ne.symm OB.out))]
          exact cell_below X4.out ((Below.refl _ _).alloc (Nat.le_refl _) _)
        have HD2 := Lib.hid (HD.out tb w5 RR5.out X5 NB.out)
        clear hown hgrow B5 tl X5 X4 x0 Q4 RR4 O4 K4 OB HD RR5
        go_wp2_with fail
        refine HD2.out.mono ?_
        rintro e w6 ⟨rfl, RR6, K6⟩
        have O6 := Lib.hid (own_kept O5.out K6 (fun j hj hjg => by
          have a := own_form_le O5.out j hj
          have b := GL.out
          omega))
        have K7 := Lib.hid (K5.out.trans K6)
        have RR6 := Lib.hid RR6
        clear HD2 O5 K5 K6
        go_wp2_with fail
        exact ⟨⟨lf, out ++ [T.place], rfl, by have := HL2.out; omega, by rw [List.length_append]; exact OL.out, OS2, RR6, O6, K7⟩, by have := HL2.out; unfold sliceLen; simp only; omega⟩
end Go.Proofs.Ytfkplbkllmnfeaa
