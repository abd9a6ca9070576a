/-
  FecParts: proved of every number of participants, whatever they were told, and every sender: a sender's classes have each prefix with a route in just one, that of its key.
-/
import Derived.Test.YtkoidahgbbabiaaGreatFp25
import Derived.Test.YtkoidahgbbabiaaGreatFp1
namespace Go.Proofs.YtkoidahgbbabiaaGreat
open Go.RowKit Go.ChangeShapes Go.WideShapes
/-- how many prefixes so many classes have. -/
def cntN : List Cls → Nat
 | [] => 0
 | x :: l => x.ps.length + cntN l
theorem cntN_snoc : ∀ (l : List Cls) (x : Cls), cntN (l ++ [x]) = cntN l + x.ps.length
 | [], x => by simp [cntN]
 | y :: l, x => by rw [List.cons_append, cntN, cntN, cntN_snoc l x]; omega
theorem cntN_take_le : ∀ (l : List Cls) (i : Nat), cntN (l.take i) ≤ cntN l
 | [], i => by simp
 | x :: l, 0 => by simp [cntN]
 | x :: l, i + 1 => by rw [List.take_succ_cons, cntN, cntN]; have := cntN_take_le l i; omega
/-- one more prefix: it is counted in the class of its key alone. -/
def cntK (kf : Pf → Ky) (ps : List Pf) : List Ky → Nat
 | [] => 0
 | k :: l => (psOf kf k ps).length + cntK kf ps l
theorem cntK_nil (kf : Pf → Ky) : ∀ K : List Ky, cntK kf [] K = 0
 | [] => rfl
 | k :: l => by rw [cntK, cntK_nil kf l]; rfl
theorem psOf_cons_len (kf : Pf → Ky) (k : Ky) (p : Pf) (ps : List Pf) : (psOf kf k (p :: ps)).length = (if kf p = k then 1 else 0) + (psOf kf k ps).length := by
 unfold psOf
 rw [List.filter_cons]
 by_cases h : kf p = k
 ·simp [h]; omega
 ·simp [h]
theorem cntK_off {kf : Pf → Ky} {p : Pf} {ps : List Pf} : ∀ {K : List Ky}, kf p ∉ K → cntK kf (p :: ps) K = cntK kf ps K
 | [], _ => rfl
 | k :: l, h => by
  rw [cntK, cntK, psOf_cons_len, if_neg (fun e => h (by rw [e]; exact List.mem_cons_self ..)), cntK_off (fun e => h (List.mem_cons_of_mem _ e))]; omega
theorem cntK_on {kf : Pf → Ky} {p : Pf} {ps : List Pf} : ∀ {K : List Ky}, K.Nodup → kf p ∈ K → cntK kf (p :: ps) K = cntK kf ps K + 1
 | [], _, h => by cases h
 | k :: l, hn, h => by
  obtain ⟨n1, n2⟩ := List.nodup_cons.1 hn
  rw [cntK, cntK, psOf_cons_len]
  by_cases e : kf p = k
  ·rw [if_pos e, cntK_off (by rw [e]; exact n1)]; omega
  ·rw [if_neg e, cntK_on n2 ((List.mem_cons.1 h).resolve_left e)]; omega
theorem cntK_all {kf : Pf → Ky} {K : List Ky} (hn : K.Nodup) : ∀ (ps : List Pf), (∀ p ∈ ps, kf p ∈ K) → cntK kf ps K = ps.length
 | [], _ => cntK_nil kf K
 | p :: ps, h => by
  rw [cntK_on hn (h p (List.mem_cons_self ..)), cntK_all hn ps (fun q hq => h q (List.mem_cons_of_mem _ hq)), List.length_cons]
theorem cntN_K {kf : Pf → Ky} {ps : List Pf} : ∀ (L : List Cls), (∀ x ∈ L, x.ps = psOf kf x.key ps) → cntN L = cntK kf ps (L.map (·.key))
 | [], _ => rfl
 | x :: l, h => by
  rw [cntN, List.map_cons, cntK, ← h x (List.mem_cons_self ..), cntN_K l (fun y hy => h y (List.mem_cons_of_mem _ hy))]
theorem klt_nodup {K : List Ky} (h : K.Pairwise klt) : K.Nodup := h.imp fun {a b} k e => by subst e; unfold klt at k; omega
/-- the classes have all prefixes, each once. -/
theorem cntN_all {kf : Pf → Ky} {ps : List Pf} {L : List Cls} (h4 : (L.map (·.key)).Pairwise klt) (h5 : ∀ x ∈ L, x.ps = psOf kf x.key ps ∧ x.ps ≠ []) (h6 : ∀ p ∈ ps, kf p ∈ L.map (·.key)) : cntN L = ps.length := by
 rw [cntN_K L (fun x hx => (h5 x hx).1), cntK_all (klt_nodup h4) ps h6]
theorem cls_few : ∀ (L : List Cls), (∀ x ∈ L, x.ps ≠ []) → L.length ≤ cntN L
 | [], _ => Nat.le_refl _
 | x :: l, h => by
  have h1 := cls_few l fun y hy => h y (List.mem_cons_of_mem _ hy)
  have h2 := List.length_pos_iff.2 (h x (List.mem_cons_self ..))
  rw [cntN, List.length_cons]; omega
/-- what a call of Bests tells has just the prefixes. -/
theorem bests_len {best : Pf → Option (Int × At)} {ps : List Pf} {L : List BE} (h1 : Srt ps) (h2 : ∀ p, p ∈ ps ↔ (best p).isSome = true) (b1 : (L.map (·.p)).Pairwise plt) (b2 : ∀ x ∈ L, best x.p = some (x.peer, x.a) ∧ RgtP x.p ∧ GoodA x.a) (b3 : ∀ p b, best p = some b → p ∈ L.map (·.p)) : L.length = ps.length := by
 have e : L.map (·.p) = ps := srt_ext b1 h1 fun p => by
  constructor
  ·intro hp
   obtain ⟨x, hx, rfl⟩ := List.mem_map.1 hp
   rw [h2, (b2 x hx).1]; rfl
  ·intro hp
   obtain ⟨b, hb⟩ := Option.isSome_iff_exists.1 ((h2 p).1 hp)
   exact b3 p b hb
 rw [← e, List.length_map]
set_option maxHeartbeats 6400000 in
set_option maxRecDepth 100000 in
theorem law_FecParts (n : Int) (v : Value) (xs : List Stp) (fr : Int) (w : World) (hv : SaidsAt w v xs) (hz : ∀ x ∈ xs, MsSz x.x) :
  Calls Tryz.prog 10 #[.int .i64 n, v, .int .i64 fr] w fun e w' => e = .returned (.bool true) ∧ Below w.heap.size w w' := by
 obtain ⟨k4, hk4⟩ : ∃ k : Nat, n % 4 = k := Int.eq_ofNat_of_zero_le (by omega)
 have hand : bits .and .i64 n 3 = (k4 : Int) := by rw [and_3f, hk4]
 obtain ⟨N, hN⟩ : ∃ N : Nat, N = k4 + 1 := ⟨_, rfl⟩
 have zN : IntKind.i64.wrap ((1 : Int) + (k4 : Int)) = (N : Int) := by rw [IntWalk.i64_in _ (by omega)]; omega
 have hN1 : 1 ≤ N := by omega
 have hN4 : N ≤ 4 := by omega
 have HD := jh (fun w => law_head21 w)
 have HZ := jh hz
 have HV := jh hv
 obtain ⟨s0, c0, rfl, -⟩ := hv
 clear hz hk4 hN
 go_enter Tryz.func10, Tryz.ntmps10
 go_wp2_with fail
 refine (HD.out _).mono ?_
 rintro e w1 ⟨rfl, hb1⟩
 have B1 := jh hb1
 have TD := jh (l_told N hN1 (by omega) _ xs w1 (SlAt.below HV.out B1.out fun _ _ h => ⟨h.1, h.2.1, h.2.2.below B1.out⟩) HZ.out)
 clear hb1 HD
 go_wp2_with fail
 refine TD.out.mono ?_
 rintro e w2 ⟨rho, sb, fb, ls, rfl, hl⟩
 obtain ⟨A, hA⟩ : ∃ A, toldA N xs = A := ⟨_, rfl⟩
 rw [hA] at hl
 have B2 := jh (jC B1.out hl.bel)
 have LV := jh hl
 have AL := jh (ls_All hl fr)
 clear hA hl TD B1 HV HZ
 go_wp2_with fail
 refine AL.out.mono ?_
 rintro e w3 ⟨s, c, L, Q, ps, rfl, oc, h1, h2, h3, h4, h5, h6, hb3⟩
 have RS := jh (own_slat clL_len oc.own)
 have PM := jh oc.mem.self
 have F4 : Hid (ps.length ≤ 4096) := jh (LV.out.fewB fr (srt_nodup h1) (fun p hp => (h2 p).1 hp))
 have CA : Hid (cntN L = ps.length) := jh (cntN_all h4 h5 h6)
 have LL : Hid (L.length ≤ 4096) := jh (by have h7 := cls_few L (fun x hx => (h5 x hx).2); have := F4.out; rw [CA.out] at h7; omega)
 have H1 := jh h1
 have H2 := jh h2
 have H3 := jh h3
 have H4 := jh h4
 have H5 := jh h5
 have L3 := jh (LV.out.below hb3)
 have B3 := jh (jC B2.out hb3)
 clear oc h1 h2 h3 h4 h5 h6 hb3 AL LV B2
 go_wp2_with fail
 go_loopw [9, 32] (fun t9 t32 wr => ∃ i : Nat, i ≤ L.length ∧ t32 = .int .i64 i ∧ t9 = .int .i64 (cntN (L.take i) : Nat) ∧ Hid (Below w3.heap.size w3 wr)) (fun _ t32 _ => L.length - (intOf t32).toNat)
 case atStart => exact ⟨0, by omega, rfl, rfl, jh (Below.refl _ _)⟩
 case round =>
  obtain ⟨i, hi, rfl, rfl, BR⟩ := hrel
  by_cases hil : i < L.length
  ·obtain ⟨x, hx⟩ : ∃ x, L[i]? = some x := ⟨_, List.getElem?_eq_getElem hil⟩
   have hxm := List.mem_of_getElem? hx
   have h5 := H5.out x hxm
   have PX := jh (PM.out x hxm)
   have CS : cntN (L.take (i + 1)) = cntN (L.take i) + x.ps.length := by rw [take_snoc hx, cntN_snoc]
   have CL := cntN_take_le L (i + 1)
   obtain ⟨k, qs, xv⟩ := x
   have q1 : qs = psOf (A.kf fr) k ps := h5.1
   have q2 : qs ≠ [] := h5.2
   have CS : cntN (L.take (i + 1)) = cntN (L.take i) + qs.length := CS
   have PX : Hid (PsAt w3 xv qs) := PX
   have QM : Hid (∀ p ∈ qs, KOk p ∧ A.keyI fr p = some k) := jh (fun p hp => by
    rw [q1] at hp
    obtain ⟨g1, g2⟩ := psOf_mem.1 hp
    refine ⟨right_key (H3.out p g1).1 (H3.out p g1).2, ?_⟩
    rw [key_of ((H2.out p).1 g1), g2])
   obtain ⟨s4, c4, hxv, -⟩ := id PX.out
   subst hxv
   obtain ⟨g, o, rfl, rx⟩ := cl_at RS.out hx
   have f0 : wr.cell? ⟨g, o + i * 4, none⟩ = some (.int .i64 k.from_) := jA (rx 0 _ rfl) BR.out
   have f1 : wr.cell? ⟨g, o + i * 4 + 1, none⟩ = some (.int .i64 k.best) := jA (rx 1 _ rfl) BR.out
   have f2 : wr.cell? ⟨g, o + i * 4 + 2, none⟩ = some (.int .i64 k.may) := jA (rx 2 _ rfl) BR.out
   have f3 : wr.cell? ⟨g, o + i * 4 + 3, none⟩ = some (.slice s4 qs.length c4) := jA (rx 3 _ rfl) BR.out
   have qn : qs.length ≠ 0 := fun e => q2 (List.length_eq_zero_iff.1 e)
   have NX : Hid (cntN (L.take (i + 1)) = cntN (L.take i) + qs.length) := jh CS
   have cw : IntKind.i64.wrap ((cntN (L.take i) : Int) + (qs.length : Int)) = ((cntN (L.take (i + 1)) : Nat) : Int) := by
    have := CA.out
    have := F4.out
    rw [IntWalk.i64_in _ (by omega)]; omega
   obtain ⟨C0, hC0⟩ : ∃ C, cntN (L.take i) = C := ⟨_, rfl⟩
   obtain ⟨C1, hC1⟩ : ∃ C, cntN (L.take (i + 1)) = C := ⟨_, rfl⟩
   rw [hC0, hC1] at cw
   rw [hC0]
   have HC1 := jh hC1
   have QL : Hid (qs.length ≤ 4096) := jh (by have := CA.out; have := F4.out; omega)
   have i0 : (0 : Int) ≤ (i : Int) := by omega
   have i1 : (i : Int) < (L.length : Int) := by omega
   have HX := jh hx
   have IL := jh hil
   have RX := jh rx
   clear h5 hxm q1 q2 CS CL hC0 hC1 hx NX rx hi hil
   go_upto_region 12 with (fail)
   obtain ⟨w4, hw4, q4, hb4, -⟩ := box1 wr #[.int .i64 k.from_, .int .i64 k.best, .int .i64 k.may, .slice s4 qs.length c4] 115
   rw [← hw4]
   obtain ⟨cb, hcb⟩ : ∃ cb, cb = wr.heap.size := ⟨_, rfl⟩
   rw [← hcb] at q4 ⊢
   have B4 := jh (jC BR.out hb4)
   have Q4 := jh q4
   have g3 : w4.cell? ⟨cb, 3, none⟩ = some (.slice s4 qs.length c4) := jB q4 3
   have LI := jh (ps_List _ qs w4 (PX.out.below B4.out) (by have := QL.out; omega))
   clear hw4 hcb hb4 q4 f0 f1 f2 f3 BR
   go_wp2_with fail
   refine LI.out.mono ?_
   rintro e w5 ⟨v5, rfl, p5, hb5⟩
   have P5 := jh p5
   obtain ⟨s5, c5, rfl, -⟩ := p5
   have B5 := jh (jC B4.out hb5)
   have Q5 := jh ((hb5.block _ (jE Q4.out)).trans Q4.out)
   obtain ⟨m, hm⟩ : ∃ m, qs.length = m := ⟨_, rfl⟩
   have HM := jh hm
   rw [hm] at qn cw ⊢
   clear hb5 hm LI B4 Q4 g3
   have d0 : ((m : Int) == 0) = false := by simpa using qn
   go_upto_region 14 with (fail)
   go_cut [62] from 44 to 62 (fun s62 wx => s62 = .bool false ∧ Hid (Below w5.heap.size w5 wx))
   case first =>
    rcases Nat.eq_zero_or_pos i with h0 | hpos
    ·have di : decide ((i : Int) > 0) = false := by simp; omega
     refine wp_region_held_drew (S := fun w' => Below w5.heap.size w5 w') (by kernel_rfl) ?_ (fun hHeld => ?_)
     ·exact (Below.refl _ _).drew
     generalize World.drew w5 = wd at hHeld ⊢
     refine rgy (i := 0) (v := ?_) (atN rfl) (by kernel_rfl) (fun _ _ _ h => h) ?_ ?_ hHeld ?_; rotate_left 1; (· rfl); (· intro w' hSw; (try clear hHeld); go_simp; try with_reducible rfl)
     try simp only [Act.put, List.setIfInBounds_toArray, List.set_cons_zero, List.set_cons_succ]
     refine rgy (i := 1) (v := ?_) (atN rfl) (by kernel_rfl) (fun _ _ _ h => h) ?_ ?_ hHeld ?_; rotate_left 1; (· rfl); (· intro w' hSw; (try clear hHeld); go_simp; try with_reducible rfl)
     try simp only [Act.put, List.setIfInBounds_toArray, List.set_cons_zero, List.set_cons_succ]
     refine rgy (i := 2) (v := ?_) (atN rfl) (by kernel_rfl) (fun _ _ _ h => h) ?_ ?_ hHeld ?_; rotate_left 1; (· rfl); (· intro w' hSw; (try clear hHeld); go_simp; try with_reducible rfl)
     try simp only [Act.put, List.setIfInBounds_toArray, List.set_cons_zero, List.set_cons_succ]
     refine rgy (i := 3) (v := ?_) (atN rfl) (by kernel_rfl) (fun _ _ _ h => h) ?_ ?_ hHeld ?_; rotate_left 1; (· rfl); (· intro w' hSw; (try clear hHeld); go_simp; try with_reducible rfl)
     try simp only [Act.put, List.setIfInBounds_toArray, List.set_cons_zero, List.set_cons_succ]
     refine rgy (i := 4) (v := ?_) (atN rfl) (by kernel_rfl) (fun _ _ _ h => h) ?_ ?_ hHeld ?_; rotate_left 1; (· rfl); (· intro w' hSw; (try clear hHeld); go_simp; try with_reducible rfl)
     try simp only [Act.put, List.setIfInBounds_toArray, List.set_cons_zero, List.set_cons_succ]
     refine rgy (i := 5) (v := ?_) (atN rfl) (by kernel_rfl) (fun _ _ _ h => h) ?_ ?_ hHeld ?_; rotate_left 1; (· rfl); (· intro w' hSw; (try clear hHeld); go_simp; try with_reducible rfl)
     try simp only [Act.put, List.setIfInBounds_toArray, List.set_cons_zero, List.set_cons_succ]
     refine rgy (i := 6) (v := ?_) (atN rfl) (by kernel_rfl) (fun _ _ _ h => h) ?_ ?_ hHeld ?_; rotate_left 1; (· rfl); (· intro w' hSw; (try clear hHeld); go_simp; try with_reducible rfl)
     try simp only [Act.put, List.setIfInBounds_toArray, List.set_cons_zero, List.set_cons_succ]
     refine rgn (i := 7) (atN rfl) (by kernel_rfl) (fun _ _ _ h => h) ?_ hHeld ?_; (· rfl)
     try simp only [Act.put, List.setIfInBounds_toArray, List.set_cons_zero, List.set_cons_succ]
     refine rgn (i := 8) (atN rfl) (by kernel_rfl) (fun _ _ _ h => h) ?_ hHeld ?_; (· rfl)
     try simp only [Act.put, List.setIfInBounds_toArray, List.set_cons_zero, List.set_cons_succ]
     refine rgn (i := 9) (atN rfl) (by kernel_rfl) (fun _ _ _ h => h) ?_ hHeld ?_; (· rfl)
     try simp only [Act.put, List.setIfInBounds_toArray, List.set_cons_zero, List.set_cons_succ]
     refine rgn (i := 10) (atN rfl) (by kernel_rfl) (fun _ _ _ h => h) ?_ hHeld ?_; (· rfl)
     try simp only [Act.put, List.setIfInBounds_toArray, List.set_cons_zero, List.set_cons_succ]
     refine rgn (i := 11) (atN rfl) (by kernel_rfl) (fun _ _ _ h => h) ?_ hHeld ?_; (· rfl)
     try simp only [Act.put, List.setIfInBounds_toArray, List.set_cons_zero, List.set_cons_succ]
     refine rgn (i := 12) (atN rfl) (by kernel_rfl) (fun _ _ _ h => h) ?_ hHeld ?_; (· rfl)
     try simp only [Act.put, List.setIfInBounds_toArray, List.set_cons_zero, List.set_cons_succ]
     refine rgn (i := 13) (atN rfl) (by kernel_rfl) (fun _ _ _ h => h) ?_ hHeld ?_; (· rfl)
     try simp only [Act.put, List.setIfInBounds_toArray, List.set_cons_zero, List.set_cons_succ]
     refine rgn (i := 14) (atN rfl) (by kernel_rfl) (fun _ _ _ h => h) ?_ hHeld ?_; (· rfl)
     try simp only [Act.put, List.setIfInBounds_toArray, List.set_cons_zero, List.set_cons_succ]
     refine rgn (i := 15) (atN rfl) (by kernel_rfl) (fun _ _ _ h => h) ?_ hHeld ?_; (· rfl)
     try simp only [Act.put, List.setIfInBounds_toArray, List.set_cons_zero, List.set_cons_succ]
     refine rgn (i := 16) (atN rfl) (by kernel_rfl) (fun _ _ _ h => h) ?_ hHeld ?_; (· rfl)
     try simp only [Act.put, List.setIfInBounds_toArray, List.set_cons_zero, List.set_cons_succ]
     refine rgy (i := 17) (v := ?_) (atN rfl) (by kernel_rfl) (fun _ _ _ h => h) ?_ ?_ hHeld ?_; rotate_left 1; (· rfl); (· intro w' hSw; (try clear hHeld); go_simp; try with_reducible rfl)
     try simp only [Act.put, List.setIfInBounds_toArray, List.set_cons_zero, List.set_cons_succ]
     refine rgy (i := 18) (v := ?_) (atN rfl) (by kernel_rfl) (fun _ _ _ h => h) ?_ ?_ hHeld ?_; rotate_left 1; (· rfl); (· intro w' hSw; (try clear hHeld); go_simp; try with_reducible rfl)
     try simp only [Act.put, List.setIfInBounds_toArray, List.set_cons_zero, List.set_cons_succ]
     refine wpAnyH_done (by kernel_rfl) ?_ _
     go_wp2_with fail
     go_meet
     exact ⟨rfl, jh hHeld⟩
    ·obtain ⟨j, hj⟩ : ∃ j, i = j + 1 := ⟨i - 1, by omega⟩
     have di : decide ((i : Int) > 0) = true := by simp; omega
     have di2 : decide ((0 : Int) < (i : Int)) = true := by simp; omega
     have di3 : decide (0 < i) = true := by simp; omega
     have im : IntKind.i64.wrap ((i : Int) - 1) = (j : Int) := by rw [IntWalk.i64_in _ (by have := LL.out; omega)]; omega
     have j0 : (0 : Int) ≤ (j : Int) := by omega
     have j1 : (j : Int) < (L.length : Int) := by omega
     obtain ⟨y, hy⟩ : ∃ y, L[j]? = some y := ⟨_, List.getElem?_eq_getElem (by omega)⟩
     obtain ⟨g', o', hgo, ry⟩ := cl_at RS.out hy
     injection hgo with hgo
     injection hgo with e1 e2 _
     subst e1; subst e2
     have y0 : w5.cell? ⟨g, o + j * 4, none⟩ = some (.int .i64 y.key.from_) := jA (ry 0 _ rfl) B5.out
     have y1 : w5.cell? ⟨g, o + j * 4 + 1, none⟩ = some (.int .i64 y.key.best) := jA (ry 1 _ rfl) B5.out
     have y2 : w5.cell? ⟨g, o + j * 4 + 2, none⟩ = some (.int .i64 y.key.may) := jA (ry 2 _ rfl) B5.out
     have x0 : w5.cell? ⟨cb, 0, none⟩ = some (.int .i64 k.from_) := jB Q5.out 0
     have x1 : w5.cell? ⟨cb, 1, none⟩ = some (.int .i64 k.best) := jB Q5.out 1
     have x2 : w5.cell? ⟨cb, 2, none⟩ = some (.int .i64 k.may) := jB Q5.out 2
     have KL : klt y.key k := by
      have h4 := List.pairwise_iff_getElem.1 H4.out j i (by rw [List.length_map]; omega) (by rw [List.length_map]; exact IL.out) (by omega)
      have e3 := (List.getElem?_eq_some_iff.1 hy).2
      have e4 := (List.getElem?_eq_some_iff.1 HX.out).2
      simp only [List.getElem_map, e3, e4] at h4
      exact h4
     have KN : kcmp y.key k < 0 := kcmp_lt.2 KL
     obtain ⟨z, hz⟩ : ∃ z, kcmp y.key k = z := ⟨_, rfl⟩
     rw [hz] at KN
     have dz : decide (z ≥ 0) = false := by simp; omega
     have CM : Hid (∀ W, Calls Tryz.prog 50 #[kyV y.key, kyV k] W fun e w' => e = .returned (.int .i64 z) ∧ Below W.heap.size W w') := jh (fun W => by rw [← hz]; exact (fk_Cmp y.key k W).mono fun e w' ⟨h1, h2⟩ => ⟨h1, h2.below⟩)
     obtain ⟨⟨ya, yb, yc⟩, ys, yv⟩ := y
     clear hj hpos hy ry KL KN hz
     refine wp_region_held_drew (S := fun w' => Below w5.heap.size w5 w') (by kernel_rfl) ?_ (fun hHeld => ?_)
     ·exact (Below.refl _ _).drew
     generalize World.drew w5 = wd at hHeld ⊢
     refine rgy (i := 0) (v := ?_) (atN rfl) (by kernel_rfl) (fun _ _ _ h => h) ?_ ?_ hHeld ?_; rotate_left 1; (· rfl); (· intro w' hSw; (try clear hHeld); go_simp; try with_reducible rfl)
     try simp only [Act.put, List.setIfInBounds_toArray, List.set_cons_zero, List.set_cons_succ]
     refine rgy (i := 1) (v := ?_) (atN rfl) (by kernel_rfl) (fun _ _ _ h => h) ?_ ?_ hHeld ?_; rotate_left 1; (· rfl); (· intro w' hSw; (try clear hHeld); go_simp; try with_reducible rfl)
     try simp only [Act.put, List.setIfInBounds_toArray, List.set_cons_zero, List.set_cons_succ]
     refine rgy (i := 2) (v := ?_) (atN rfl) (by kernel_rfl) (fun _ _ _ h => h) ?_ ?_ hHeld ?_; rotate_left 1; (· rfl); (· intro w' hSw; (try clear hHeld); go_simp; try with_reducible rfl)
     try simp only [Act.put, List.setIfInBounds_toArray, List.set_cons_zero, List.set_cons_succ]
     refine rgy (i := 3) (v := ?_) (atN rfl) (by kernel_rfl) (fun _ _ _ h => h) ?_ ?_ hHeld ?_; rotate_left 1; (· rfl); (· intro w' hSw; (try clear hHeld); go_simp; try with_reducible rfl)
     try simp only [Act.put, List.setIfInBounds_toArray, List.set_cons_zero, List.set_cons_succ]
     refine rgy (i := 4) (v := ?_) (atN rfl) (by kernel_rfl) (fun _ _ _ h => h) ?_ ?_ hHeld ?_; rotate_left 1; (· rfl); (· intro w' hSw; (try clear hHeld); go_simp; try with_reducible rfl)
     try simp only [Act.put, List.setIfInBounds_toArray, List.set_cons_zero, List.set_cons_succ]
     refine rgy (i := 5) (v := ?_) (atN rfl) (by kernel_rfl) (fun _ _ _ h => h) ?_ ?_ hHeld ?_; rotate_left 1; (· rfl); (· intro w' hSw; (try clear hHeld); go_simp; try with_reducible rfl)
     try simp only [Act.put, List.setIfInBounds_toArray, List.set_cons_zero, List.set_cons_succ]
     refine rgy (i := 6) (v := ?_) (atN rfl) (by kernel_rfl) (fun _ _ _ h => h) ?_ ?_ hHeld ?_; rotate_left 1; (· rfl); (· intro w' hSw; (try clear hHeld); go_simp; try with_reducible rfl)
     try simp only [Act.put, List.setIfInBounds_toArray, List.set_cons_zero, List.set_cons_succ]
     refine rgy (i := 7) (v := ?_) (atN rfl) (by kernel_rfl) (fun _ _ _ h => h) ?_ ?_ hHeld ?_; rotate_left 1; (· rfl); (· intro w' hSw; (try clear hHeld); go_simp; try with_reducible rfl)
     try simp only [Act.put, List.setIfInBounds_toArray, List.set_cons_zero, List.set_cons_succ]
     refine rgy (i := 8) (v := ?_) (atN rfl) (by kernel_rfl) (fun _ _ _ h => h) ?_ ?_ hHeld ?_; rotate_left 1; (· rfl); (· intro w' hSw; (try clear hHeld); go_simp; try with_reducible rfl)
     try simp only [Act.put, List.setIfInBounds_toArray, List.set_cons_zero, List.set_cons_succ]
     refine rgy (i := 9) (v := ?_) (atN rfl) (by kernel_rfl) (fun _ _ _ h => h) ?_ ?_ hHeld ?_; rotate_left 1; (· rfl); (· intro w' hSw; (try clear hHeld); go_simp; try with_reducible rfl)
     try simp only [Act.put, List.setIfInBounds_toArray, List.set_cons_zero, List.set_cons_succ]
     refine rgy (i := 10) (v := ?_) (atN rfl) (by kernel_rfl) (fun _ _ _ h => h) ?_ ?_ hHeld ?_; rotate_left 1; (· rfl); (· intro w' hSw; have y0 := jA y0 hSw; have y1 := jA y1 hSw; have y2 := jA y2 hSw; have x0 := jA x0 hSw; have x1 := jA x1 hSw; have x2 := jA x2 hSw; (try clear hHeld); go_simp; try with_reducible rfl)
     try simp only [Act.put, List.setIfInBounds_toArray, List.set_cons_zero, List.set_cons_succ]
     refine rgy (i := 11) (v := ?_) (atN rfl) (by kernel_rfl) (fun _ _ _ h => h) ?_ ?_ hHeld ?_; rotate_left 1; (· rfl); (· intro w' hSw; (try clear hHeld); go_simp; try with_reducible rfl)
     try simp only [Act.put, List.setIfInBounds_toArray, List.set_cons_zero, List.set_cons_succ]
     refine rgy (i := 12) (v := ?_) (atN rfl) (by kernel_rfl) (fun _ _ _ h => h) ?_ ?_ hHeld ?_; rotate_left 1; (· rfl); (· intro w' hSw; have y0 := jA y0 hSw; have y1 := jA y1 hSw; have y2 := jA y2 hSw; have x0 := jA x0 hSw; have x1 := jA x1 hSw; have x2 := jA x2 hSw; (try clear hHeld); go_simp; try with_reducible rfl)
     try simp only [Act.put, List.setIfInBounds_toArray, List.set_cons_zero, List.set_cons_succ]
     refine rgy (i := 13) (v := ?_) (atN rfl) (by kernel_rfl) (fun _ _ _ h => h) ?_ ?_ hHeld ?_; rotate_left 1; (· rfl); (· intro w' hSw; (try clear hHeld); go_simp; try with_reducible rfl)
     try simp only [Act.put, List.setIfInBounds_toArray, List.set_cons_zero, List.set_cons_succ]
     refine rgy (i := 14) (v := ?_) (atN rfl) (by kernel_rfl) (fun _ _ _ h => h) ?_ ?_ hHeld ?_; rotate_left 1; (· rfl); (· intro w' hSw; have y0 := jA y0 hSw; have y1 := jA y1 hSw; have y2 := jA y2 hSw; have x0 := jA x0 hSw; have x1 := jA x1 hSw; have x2 := jA x2 hSw; (try clear hHeld); go_simp; try with_reducible rfl)
     try simp only [Act.put, List.setIfInBounds_toArray, List.set_cons_zero, List.set_cons_succ]
     refine jr 15 ?_ fun K hK => ?_; (· rfl); (try clear hb); go_simp; (refine (CM.out _).mono ?_; rintro e w1 ⟨rfl, hb⟩); go_wp2_with fail; refine hK.out _ _ ?_ (fun hHeld => ?_); (· exact hHeld.trans (hb.mono hHeld.size)); clear hK K
     try simp only [Act.put, List.setIfInBounds_toArray, List.set_cons_zero, List.set_cons_succ]
     refine rgy (i := 16) (v := ?_) (atN rfl) (by kernel_rfl) (fun _ _ _ h => h) ?_ ?_ hHeld ?_; rotate_left 1; (· rfl); (· intro w' hSw; (try clear hHeld); go_simp; try with_reducible rfl)
     try simp only [Act.put, List.setIfInBounds_toArray, List.set_cons_zero, List.set_cons_succ]
     refine rgy (i := 17) (v := ?_) (atN rfl) (by kernel_rfl) (fun _ _ _ h => h) ?_ ?_ hHeld ?_; rotate_left 1; (· rfl); (· intro w' hSw; (try clear hHeld); go_simp; try with_reducible rfl)
     try simp only [Act.put, List.setIfInBounds_toArray, List.set_cons_zero, List.set_cons_succ]
     refine rgy (i := 18) (v := ?_) (atN rfl) (by kernel_rfl) (fun _ _ _ h => h) ?_ ?_ hHeld ?_; rotate_left 1; (· rfl); (· intro w' hSw; (try clear hHeld); go_simp; try with_reducible rfl)
     try simp only [Act.put, List.setIfInBounds_toArray, List.set_cons_zero, List.set_cons_succ]
     refine wpAnyH_done (by kernel_rfl) ?_ _
     go_wp2_with fail
     go_meet
     exact ⟨rfl, jh hHeld⟩
   case rest =>
    obtain ⟨rfl, B6⟩ := hcut
    obtain ⟨w6, hw6⟩ : ∃ w6 : World, w6 = wc := ⟨_, rfl⟩
    rw [← hw6] at B6 ⊢
    have L6 := jh ((L3.out.below B5.out).below B6.out)
    have Q6 := jh ((B6.out.block _ (jE Q5.out)).trans Q5.out)
    have P6 := jh (P5.out.below B6.out)
    have FB6 := jh (jC B5.out B6.out)
    have MQ : Hid (m ≤ 4096) := jh (by have := QL.out; have := HM.out; omega)
    clear hw6 d0 qn
    go_wp2_with fail
    go_loopw [65] (fun t65 wr => ∃ z : Nat, z ≤ m ∧ t65 = .int .i64 z ∧ Hid (Below w6.heap.size w6 wr)) (fun t65 _ => m - (intOf t65).toNat)
    case atStart => exact ⟨0, by omega, rfl, jh (Below.refl _ _)⟩
    case round =>
     obtain ⟨z, hz, rfl, BZ⟩ := hrel
     by_cases hzl : z < m
     ·obtain ⟨p, hp⟩ : ∃ p, qs[z]? = some p := ⟨_, List.getElem?_eq_getElem (by have := HM.out; omega)⟩
      obtain ⟨pk, pe⟩ := QM.out p (List.mem_of_getElem? hp)
      obtain ⟨s', c', e', -, -, hP1⟩ := P6.out
      injection e' with e1 e2 e3
      subst e1
      obtain ⟨b, off, rfl, hP⟩ := hP1 (by have := HM.out; omega)
      obtain ⟨p0, p1⟩ := ps_two hP hp
      replace p0 := jA p0 BZ.out
      replace p1 := jA p1 BZ.out
      have z0 : (0 : Int) ≤ (z : Int) := by omega
      have z1 : (z : Int) < (m : Int) := by omega
      have LZ := jh (L6.out.below BZ.out)
      have QZ := jh ((BZ.out.block _ (jE Q6.out)).trans Q6.out)
      have PK := jh pk
      have PE := jh pe
      have ZL := jh hzl
      clear hp pk pe hP hP1 e2 e3 hz hzl
      go_upto_region 19 with (fail)
      obtain ⟨w7, hw7, u0, u1, hb7⟩ := box2 wr (.int .u32 p.1) (.int .i64 p.2) 53
      rw [← hw7]
      obtain ⟨pb, hpb⟩ : ∃ pb, pb = wr.heap.size := ⟨_, rfl⟩
      rw [← hpb] at u0 u1 ⊢
      have L7 := jh (LZ.out.below hb7)
      have Q7 := jh ((hb7.block _ (jE QZ.out)).trans QZ.out)
      have B7 := jh (jC BZ.out hb7)
      have OF : Hid (Calls Tryz.prog 48 #[.pointer (some ⟨sb, 0, none⟩), .int .i64 fr, .agg #[.int .u32 p.1, .int .i64 p.2]] w7 fun e w' => e = .returned (.tuple #[kyV k, .bool true]) ∧ Below w7.heap.size w7 w') := jh (by
       have h := ls_OfI L7.out fr p PK.out
       rw [PE.out] at h
       exact h)
      clear hw7 hpb hb7 p0 p1 LZ QZ BZ
      go_wp2_with fail
      refine OF.out.mono ?_
      rintro e w8 ⟨rfl, hb8⟩
      have Q8 := jh ((hb8.block _ (jE Q7.out)).trans Q7.out)
      have B8 := jh (jC B7.out hb8)
      clear hb8 OF u0 u1 L7 Q7 B7
      go_upto_region 20 with (fail)
      obtain ⟨w9, hw9, q9, hb9, -⟩ := box1 w8 (kyC k) 102
      rw [show w8.alloc (.cells #[.int .i64 k.from_, .int .i64 k.best, .int .i64 k.may] 102) = w9 from hw9.symm]
      obtain ⟨kb, hkb⟩ : ∃ kb, kb = w8.heap.size := ⟨_, rfl⟩
      rw [← hkb] at q9 ⊢
      have Q9 := (hb9.block _ (jE Q8.out)).trans Q8.out
      have B9 := jh (jC B8.out hb9)
      obtain ⟨k0, k1, k2⟩ := key_cells q9
      have x0 : w9.cell? ⟨cb, 0, none⟩ = some (.int .i64 k.from_) := jB Q9 0
      have x1 : w9.cell? ⟨cb, 1, none⟩ = some (.int .i64 k.best) := jB Q9 1
      have x2 : w9.cell? ⟨cb, 2, none⟩ = some (.int .i64 k.may) := jB Q9 2
      clear hw9 hkb hb9 q9 Q9 Q8 B8
      have zw : IntKind.i64.wrap ((z : Int) + 1) = ((z + 1 : Nat) : Int) := by
       have := MQ.out
       have := ZL.out
       rw [IntWalk.i64_in _ (by omega)]; omega
      go_wp2_with fail
      exact ⟨⟨z + 1, by have := ZL.out; omega, rfl, B9⟩, by have := ZL.out; simp only [intOf]; omega⟩
     ·obtain rfl : z = m := by omega
      have FZ := jh (jC FB6.out BZ.out)
      clear hz hzl BZ
      have iw : IntKind.i64.wrap ((i : Int) + 1) = ((i + 1 : Nat) : Int) := by
       have := LL.out
       have := IL.out
       rw [IntWalk.i64_in _ (by omega)]; omega
      go_wp2_with fail
      exact ⟨⟨i + 1, by have := IL.out; omega, rfl, by rw [HC1.out], FZ⟩, by have := IL.out; simp only [intOf]; omega⟩
  ·obtain rfl : i = L.length := by omega
   have LR := jh (L3.out.below BR.out)
   have BS := jh (ls_BestsI LR.out fr)
   have FB := jh (jC B3.out BR.out)
   have CE : cntN (L.take L.length) = ps.length := by rw [List.take_length]; exact CA.out
   rw [CE]
   clear CE hi hil BR LR
   go_wp2_with fail
   refine BS.out.mono ?_
   rintro e w4 ⟨s4, c4, L4, Q4, rfl, -, b1, b2, b3, hb4⟩
   have EL : L4.length = ps.length := bests_len H1.out H2.out b1 b2 b3
   have FB4 := jh (jC FB.out hb4)
   rw [EL]
   clear EL b1 b2 b3 hb4 BS FB
   go_wp2_with fail
   go_ret
   exact ⟨rfl, FB4.out⟩
namespace fecParts
open Go.ChangeShapes Go.WideShapes Go.ChangeAt Go.RowKit
set_option linter.unusedVariables false
set_option maxRecDepth 100000 in
theorem lifted (os : Os) (started : os.Started) (H : Type) (enc : TypeId × Value → H) :
  ReturnsInHanded {} Tryz.checked os 10 .any (Rows.fecPartsSpec.pre6 enc Tryz.prog Tryz.f10 Rows.fecPartsRow.domain false) (Rows.fecPartsSpec.post enc Tryz.prog Tryz.f10 false true false false) := by
 refine returnsInHanded_of_change_sized (C := Tryz.checked) fr_own started (by kernel_rfl) Tryz.func10
  (ChangeSpec.witness6 (enc := enc) (C := Tryz.checked) false ⟨#[], #[.int .i64 0, .slice none 0 0, .int .i64 0], []⟩ 8 (by kernel_rfl) (by kernel_rfl) (by kernel_rfl) (by kernel_rfl)) ?_
 intro W base args ds gs before hval0 hW hcnd hsz0 _
 have hval : ∀ (j : Nat) t v, Tryz.f10.params[j]? = some t → args[j]? = some v → Value.okWide Tryz.prog W .any base t v := hval0
 have hW' := hW
 obtain ⟨p, q, hA0, hV, rfl, hfz, hnd⟩ := hW
 have hA : DataW.TrodAll enc Tryz.prog W 0 (fun _ => true) true Tryz.f10.params.toList args.toList ds p := hA0
 rw [Tryz.params10] at hA hval
 obtain ⟨v0, vs0, d0, ds0, p0, q0, hargs, rfl, rfl, h0, r0⟩ := trodAll_cons hA
 obtain ⟨v1, vs1, d1, ds1, p1, q1, rfl, rfl, rfl, h1, r1⟩ := trodAll_cons r0
 obtain ⟨v2, vs2, d2, ds2, p2, q2, rfl, rfl, rfl, h2, r2⟩ := trodAll_cons r1
 obtain ⟨rfl, rfl, rfl⟩ := trodAll_nil r2
 obtain rfl : args = #[v0, v1, v2] := by cases args; simp_all
 obtain ⟨rfl, rfl⟩ := trodVars_none hV
 have lt0 : ∀ x ∈ p0, x.block < W.heap.size := by obtain ⟨m, hm⟩ := h0; exact DataW.trod_lt m _ _ _ hm
 have lt1 : ∀ x ∈ p1, x.block < W.heap.size := by obtain ⟨m, hm⟩ := h1; exact DataW.trod_lt m _ _ _ hm
 have lt2 : ∀ x ∈ p2, x.block < W.heap.size := by obtain ⟨m, hm⟩ := h2; exact DataW.trod_lt m _ _ _ hm
 have hsz : (DataW.weightsEach Tryz.prog [3, 110, 3] [d0, d1, d2]).all (· ≤ reachBytes) = true := hsz0
 obtain ⟨n, rfl, nl, nh⟩ := open_i64 (hval 0 3 v0 rfl rfl)
 obtain ⟨xs, hxs, hxz⟩ := open_saids_sz (hval 1 110 v1 rfl rfl) h1 (sz_of hsz (j := 1) rfl rfl)
 obtain ⟨fr, rfl, wl, wh⟩ := open_i64 (hval 2 3 v2 rfl rfl)
 clear hA0 hval0 hsz0 hsz
 refine (law_FecParts n v1 xs fr W hxs hxz).mono fun e W' ⟨he, bel⟩ => ?_
 subst he
 exact ⟨_, rfl, _, _, _, [], _, [], hW', trodAll_mk1 (shut_bool Tryz.underlying4 _), (trodAll_cons_mk (Below.trod fr_laidOut (by kernel_rfl) (of_decide_eq_true (by kernel_rfl)) h0 bel lt0) (trodAll_cons_mk (Below.trod fr_laidOut (by kernel_rfl) (of_decide_eq_true (by kernel_rfl)) h1 bel lt1) (trodAll_cons_mk (Below.trod fr_laidOut (by kernel_rfl) (of_decide_eq_true (by kernel_rfl)) h2 bel lt2) trodAll_mk0))), rfl, bel.frame _, fun h => by cases h⟩
theorem over : Rows.fecPartsRow.holds Tryz.pinned (OpenSpec.ofChange Rows.fecPartsSpec) :=
 OpenClaim.holds_of_wide 10 Tryz.f10 rfl rfl rfl rfl rfl rfl rfl ⟨rfl, rfl, rfl, rfl, rfl⟩ rfl rfl rfl rfl rfl (by kernel_rfl) Tryz.func10 (by kernel_rfl)
  (of_decide_eq_true (by kernel_rfl)) (by unfold Func.isWrapper; first | (rw [if_pos (by decide +kernel)]; kernel_rfl) | (rw [if_neg (by decide +kernel)]; exact ⟨rfl, rfl⟩))
  (fun os started H enc _ => lifted os started H enc)
/-- THE STATEMENT FecParts. -/
theorem proved : Rows.FecPartsSaid := over
#print axioms proved
end fecParts
end Go.Proofs.YtkoidahgbbabiaaGreat
