/-
  AdjRoom: proved of every n: its rib holds as many routes as it has room for, refuses one more, and takes one beside what goes.
-/
import Derived.Test.YtadlecnlgkhneaaAdM
import Derived.Test.YtadlecnlgkhneaaBits
import Derived.Test.YtadlecnlgkhneaaFrame
namespace Go.Proofs.Ytadlecnlgkhneaa
open Go.RowKit

theorem box_14 (w : World) : ∃ W0, W0 = w.alloc (.cells #[.int .i64 14, .int .i64 0, .slice none 0 0, .int .u32 0, .int .i64 0, .int .i64 0, .int .i64 0, .int .u32 0, .slice none 0 0, .slice none 0 0] 35) ∧ W0.heap[w.heap.size]? = some (.cells (avK 14).C 35 (0, 0)) ∧ Below w.heap.size w W0 ∧ W0.heap.size = w.heap.size + 1 := box1 w (avK 14).C 35
set_option maxHeartbeats 3200000 in
set_option maxRecDepth 100000 in
theorem law_AdjRoom (n : Int) (w : World) : Calls Try.prog 3 #[.int .i64 n] w fun e w' => e = .returned (.bool true) ∧ Below w.heap.size w w' := by
  obtain ⟨k, hk⟩ : ∃ k : Nat, n % 16 = k := Int.eq_ofNat_of_zero_le (by omega)
  have hand : bits .and .i64 n 15 = (k : Int) := by rw [and_15, hk]
  have hk15 : k ≤ 15 := by omega
  obtain ⟨N, hN⟩ : ∃ N : Nat, N = k + 1 := ⟨_, rfl⟩
  have zN : IntKind.i64.wrap ((1 : Int) + (k : Int)) = (N : Int) := by rw [IntWalk.i64_in _ (by omega)]; omega
  have hN1 : 1 ≤ N := by omega
  have hN16 : N ≤ 16 := by omega
  have hmost : min (max (N : Int) 0) 256 = (N : Int) := by omega
  obtain ⟨T1, hu1⟩ := room_1 (N := (N : Int)) (netsL_srt N) (fun p hp => by obtain ⟨i, -, rfl⟩ := netsL_mem.1 hp; exact netP_right i) (show passB (atK 14).path 9 = false from rfl) (by rw [netsL_len])
  have g0 : (getL (R1 (netsL N) (atK 14)) (netP 0)).isSome = true := by
    rw [R1_get, if_pos (netsL_mem.2 ⟨0, by omega, rfl⟩)]; rfl
  have g50 : getL (R1 (netsL N) (atK 14)) (netP 50) = none := by
    rw [R1_get, if_neg (fun h => by obtain ⟨i, hi, e⟩ := netsL_mem.1 h; have := netP_inj e; omega)]
  have hl : ((R1 (netsL N) (atK 14)).length : Int) = N := by rw [R1_len (netsL_srt N), netsL_len]
  have hu2 := room_2 (a := atK 14) (netP_right 50) g50 hl rfl
  obtain ⟨T3, R3, hu3, hl3⟩ := room_3 (a := atK 14) (R1_ap _ _) (netP_right 0) (netP_right 50) (netP_lt (show 0 < 50 by decide)) g0 g50 hl rfl
  have U1 := Lib.hid hu1
  have U2 := Lib.hid hu2
  have U3 := Lib.hid hu3
  have HL3 := Lib.hid hl3
  have HM := Lib.hid hmost
  have n0 := Lib.hid (l_net 0 (by decide))
  have n50 := Lib.hid (l_net 50 (by decide))
  generalize R1 (netsL N) (atK 14) = RR at U1 U2 U3
  clear hu1 g0 g50 hl hu2 hu3 hl3 hmost hk hN
  go_enter Try.func3, Try.ntmps3
  go_wp2_with fail
  refine (law_head w).mono ?_
  rintro e w1 ⟨rfl, hb1⟩
  have B1 := Lib.hid hb1
  clear hb1
  go_wp2_with fail
  refine (ad_New 0 9 N w1).mono ?_
  rintro e w2 ⟨rb, rfl, hr, hb⟩
  have L2 := lr_new (w := w) B1.out hr hb
  rw [HM.out] at L2
  generalize (fun k => w1.heap.size ≤ k ∧ k < w2.heap.size : Nat → Prop) = F1 at L2
  have L2 := Lib.hid L2
  clear hr hb B1
  go_upto_region 6 with (fail)
  obtain ⟨w3, hw3⟩ : ∃ w3, w3 = w2.alloc (.cells #[] 29) := ⟨_, rfl⟩
  have O3 : Hid (OwnPs w3 w2.heap.size (.slice (some ⟨w2.heap.size, 0, none⟩) 0 0) (netsL 0)) := Lib.hid ⟨by rw [hw3]; exact own_empty (Nat.le_refl _), fun p hp => by simp [netsL] at hp⟩
  have hb3 : Below w2.heap.size w2 w3 := by rw [hw3]; exact (Below.refl _ _).alloc (Nat.le_refl _) _
  rw [← hw3]
  clear hw3
  have L3 := Lib.hid (L2.out.below hb3)
  have F2 := Lib.hid L2.out.flt
  have W2 := Lib.hid L2.out.bel.size
  have W3 : Hid (w2.heap.size ≤ w3.heap.size) := Lib.hid hb3.size
  clear hb3 L2
  go_wp2_with fail
  go_loopw [5, 4] (fun i5 v4 wr => ∃ i : Nat, i ≤ N ∧ i5 = .int .i64 i ∧ Hid (LR w wr rb 0 9 N [] F1) ∧ Hid (OwnPs wr w2.heap.size v4 (netsL i)) ∧ Hid (w2.heap.size ≤ wr.heap.size)) (fun i5 _ _ => N - (intOf i5).toNat)
  case atStart => exact ⟨0, by omega, rfl, L3, O3, W3⟩
  case round =>
    obtain ⟨i, hi, rfl, L, O, W⟩ := hrel
    by_cases hlt : i < N
    · have NI := Lib.hid (l_net i (by omega))
      have OI : Hid (OkP (netP i)) := Lib.hid (netP_ok (by omega))
      go_wp2_with fail
      refine (NI.out wr).mono ?_
      rintro e w4 ⟨rfl, hb4⟩
      have hal : Below w4.heap.size w4 (w4.alloc (.cells #[.int .u32 (netP i).1, .int .i64 (netP i).2] 29)) := (Below.refl _ _).alloc (Nat.le_refl _) _
      have L4 := Lib.hid ((L.out.below hb4).below hal)
      have O4 := Lib.hid ((O.out.below hb4).below hal)
      have NA := Lib.hid (psAt_new w4 (netP i) 29 OI.out)
      have S4 : Hid (w2.heap.size ≤ (w4.alloc (.cells #[.int .u32 (netP i).1, .int .i64 (netP i).2] 29)).heap.size) := Lib.hid (Nat.le_trans W.out (Nat.le_trans hb4.size hal.size))
      have LA : Hid ((netsL i).length + [netP i].length ≤ 8796093022208) := Lib.hid (by rw [netsL_len]; simp only [List.length_cons, List.length_nil]; omega)
      clear hb4 hal
      go_wp2_with (at_builtin; refine wpList_app rfl _ _ rfl w2.heap.size u4 (.slice (some ⟨w4.heap.size, 0, none⟩) 1 1) (netsL i) [netP i] rfl rfl S4.out O4.out NA.out LA.out ?_)
      intro v5 w5 ho hb hk
      have O5 : Hid (OwnPs w5 w2.heap.size v5 (netsL (i + 1))) := Lib.hid (by rw [netsL_snoc]; exact ho)
      have L5 := Lib.hid (L4.out.kept hk (fun k hF h => by have := F2.out k hF; have := own_form_le O4.out.1 k h; omega) (fun k h => by have := own_form_le O4.out.1 k h; have := W2.out; omega))
      have W5 : Hid (w2.heap.size ≤ w5.heap.size) := Lib.hid (Nat.le_trans S4.out hk.size)
      clear ho hb hk L4 O4 NA S4 LA L O W
      go_wp2_with fail
      exact ⟨⟨i + 1, by omega, by go_num, L5, O5, W5⟩, by simp [intOf]; omega⟩
    · obtain rfl : N = i := by omega
      have P6 := Lib.hid O.out.at
      obtain ⟨s6, c6, hv6, -⟩ := P6.out
      rw [netsL_len] at hv6
      subst hv6
      have L6 := L
      clear L O W
      go_upto_region 11 with (fail)
      obtain ⟨w7, hw7, q7, hb7, -⟩ := box_14 wr
      rw [← hw7]
      clear hw7
      have Q7 := Lib.hid q7
      have P7 := Lib.hid (P6.out.below hb7)
      have L7 := Lib.hid (L6.out.below hb7)
      have NF7 : Hid (¬ F1 wr.heap.size) := Lib.hid (fun h => by have := L6.out.flt _ h; omega)
      clear q7 hb7 P6 L6
      go_wp2_with ((with_reducible refine halt_at (X := .load 35 (.tmp 6)) ?_ ?_); (· rfl))
      unfold Halt
      refine ld_at (by rfl) 35 (.tmp 6) rfl wr.heap.size rfl 35 (avK 14).C (0, 0) _ Q7.out Try.underlying35 rfl (by kernel_rfl) ?_
      go_wp2_with fail
      refine (ad_Update (mgV none 0 0 (avK 14) s6 N c6) [] (netsL N) (atK 14) w7 L7.out.rib SlAt.nil P7.out (fun W _ => avK_at 14 W) (by rw [netsL_len]; simp; omega) (atK_sz 14)).mono ?_
      intro e w8 hp
      rw [show updP 9 N [] (mgV none 0 0 (avK 14) s6 N c6).kind [] (netsL N) (atK 14) = _ from U1.out] at hp
      obtain ⟨v8, F8, rfl, -, l8, f8, -, k8⟩ := L7.out.upd hp
      have L8 : Hid (LR w w8 rb 0 9 N RR F8) := Lib.hid l8
      have Q8 := Lib.hid ((k8.block _ (row_lt Q7.out) NF7.out).trans Q7.out)
      have NF8 : Hid (¬ F8 wr.heap.size) := Lib.hid (fun h => by
        rcases f8 _ h with h | h
        · exact NF7.out h
        · have := row_lt Q7.out; omega)
      clear hp l8 f8 k8 Q7 P7 L7 NF7 U1
      go_upto_region 12 with (fail)
      have hL : LR w w8.drew rb 0 9 N RR F8 := L8.out.below (Below.refl _ _).drew
      go_cut [9, 10] (fun s9 s10 wx => s10 = .int .i64 32 ∧ ∃ F, Hid (LR w wx rb 0 9 N RR F ∧ wx.heap[wr.heap.size]? = some (.cells (avK 14).C 35 (0, 0)) ∧ ¬ F wr.heap.size))
      case first =>
        refine wp_region_held_drew (S := fun w1 => Kept F8 w8 w1) (by kernel_rfl) ?_ (fun hHeld => ?_)
        · exact (Kept.refl _ _).drew
        generalize World.drew w8 = wd at hL hHeld ⊢
        refine rgy (i := 0) (v := ?_) (atN rfl) (by kernel_rfl) (fun _ _ _ h => h) ?_ ?_ hHeld ?_; rotate_left 1; (· rfl); (· intro w' hSw; (try clear hHeld); go_simp; try with_reducible rfl)
        try simp only [Act.put, List.setIfInBounds_toArray, List.set_cons_zero, List.set_cons_succ]
        refine rgy (i := 3) (v := ?_) (atN rfl) (by kernel_rfl) (fun _ _ _ h => h) ?_ ?_ hHeld ?_; rotate_left 1; (· rfl); (· intro w' hSw; refine exec_ld 35 (.tmp 6) ?_ wr.heap.size ?_ 35 (avK 14).C (0, 0) _ ((hSw.block _ (row_lt Q8.out) NF8.out).trans Q8.out) Try.underlying35 rfl (by kernel_rfl) <;> rfl)
        try simp only [Act.put, List.setIfInBounds_toArray, List.set_cons_zero, List.set_cons_succ]
        refine rg_call (i := 1) (atN rfl) (by kernel_rfl) ?_ (fun K hK => ?_); (· rfl); (try clear hb); go_simp; refine (n50.out _).mono ?_; rintro e w9 ⟨rfl, hb⟩; replace hL := hL.below hb; go_wp2_with fail; refine hK.out _ _ ?_ (fun hHeld => ?_); (· exact hHeld.grow hb); clear hK K
        try simp only [Act.put, List.setIfInBounds_toArray, List.set_cons_zero, List.set_cons_succ]
        refine rg_call (i := 2) (atN rfl) (by kernel_rfl) ?_ (fun K hK => ?_); (· rfl); (try clear hb); go_simp; refine pf_one_k (x := netP 50) (netP_ok (by decide)) (p := K _) ?_; intro w10 hps hb; replace hL := hL.below hb; refine hK.out _ _ ?_ (fun hHeld => ?_); (· exact hHeld.grow hb); clear hK K
        try simp only [Act.put, List.setIfInBounds_toArray, List.set_cons_zero, List.set_cons_succ]
        refine rgy (i := 4) (v := ?_) (atN rfl) (by kernel_rfl) (fun _ _ _ h => h) ?_ ?_ hHeld ?_; rotate_left 1; (· rfl); (· intro w' hSw; (try clear hHeld); go_simp; try with_reducible rfl)
        try simp only [Act.put, List.setIfInBounds_toArray, List.set_cons_zero, List.set_cons_succ]
        refine rg_call (i := 5) (atN rfl) (by kernel_rfl) ?_ (fun K hK => ?_); (· rfl); (try clear hb); go_simp; have hsz := hHeld.size; refine (ad_Update (mgV none 0 0 (avK 14) _ 1 1) [] [netP 50] (atK 14) _ hL.rib SlAt.nil hps (fun W _ => avK_at 14 W) (by simp) (atK_sz 14)).mono ?_; intro e w11 hp; rw [show updP 9 N RR (mgV none 0 0 (avK 14) _ 1 1).kind [] [netP 50] (atK 14) = _ from U2.out] at hp; obtain ⟨v11, F11, rfl, -, l11, f11, -, k11⟩ := hL.upd hp; go_wp2_with fail; refine hK.out _ _ ?_ (fun hHeld => ?_); (· exact hHeld.trans k11); clear hK K
        try simp only [Act.put, List.setIfInBounds_toArray, List.set_cons_zero, List.set_cons_succ]
        refine rgy (i := 6) (v := ?_) (atN rfl) (by kernel_rfl) (fun _ _ _ h => h) ?_ ?_ hHeld ?_; rotate_left 1; (· rfl); (· intro w' hSw; (try clear hHeld); go_simp; try with_reducible rfl)
        try simp only [Act.put, List.setIfInBounds_toArray, List.set_cons_zero, List.set_cons_succ]
        refine rgy (i := 7) (v := ?_) (atN rfl) (by kernel_rfl) (fun _ _ _ h => h) ?_ ?_ hHeld ?_; rotate_left 1; (· rfl); (· intro w' hSw; (try clear hHeld); go_simp; try with_reducible rfl)
        try simp only [Act.put, List.setIfInBounds_toArray, List.set_cons_zero, List.set_cons_succ]
        refine rgy (i := 8) (v := ?_) (atN rfl) (by kernel_rfl) (fun _ _ _ h => h) ?_ ?_ hHeld ?_; rotate_left 1; (· rfl); (· intro w' hSw; (try clear hHeld); go_simp; try with_reducible rfl)
        try simp only [Act.put, List.setIfInBounds_toArray, List.set_cons_zero, List.set_cons_succ]
        refine rgy (i := 9) (v := ?_) (atN rfl) (by kernel_rfl) (fun _ _ _ h => h) ?_ ?_ hHeld ?_; rotate_left 1; (· rfl); (· intro w' hSw; (try clear hHeld); go_simp; try with_reducible rfl)
        try simp only [Act.put, List.setIfInBounds_toArray, List.set_cons_zero, List.set_cons_succ]
        refine rgy (i := 10) (v := ?_) (atN rfl) (by kernel_rfl) (fun _ _ _ h => h) ?_ ?_ hHeld ?_; rotate_left 1; (· rfl); (· intro w' hSw; (try clear hHeld); go_simp; try with_reducible rfl)
        try simp only [Act.put, List.setIfInBounds_toArray, List.set_cons_zero, List.set_cons_succ]
        refine wpAnyH_done (by kernel_rfl) ?_ _
        have HH := Lib.hid hHeld
        have L11 : Hid (LR w w11 rb 0 9 N RR F11) := Lib.hid l11
        have Q11 := Lib.hid ((HH.out.block _ (row_lt Q8.out) NF8.out).trans Q8.out)
        have NF11 : Hid (¬ F11 wr.heap.size) := Lib.hid (fun h => by
          rcases f11 _ h with h | h
          · exact NF8.out h
          · have := row_lt Q8.out; omega)
        clear hHeld hL hps hp l11 f11 k11
        go_wp2_with fail
        go_meet
        exact ⟨rfl, F11, Lib.hid ⟨L11.out, Q11.out, NF11.out⟩⟩
      case rest =>
        obtain ⟨rfl, F11, J⟩ := hcut
        obtain ⟨w12, hw12⟩ : ∃ w12 : World, w12 = wc := ⟨_, rfl⟩
        rw [← hw12] at J ⊢
        clear hw12 L8 Q8 NF8 hL
        have Q12 := Lib.hid J.out.2.1
        have NF12 := Lib.hid J.out.2.2
        go_upto_region 13 with (fail)
        have hL : LR w w12.drew rb 0 9 N RR F11 := J.out.1.below (Below.refl _ _).drew
        go_cut [11, 12] (fun s11 s12 wx => s12 = .int .i64 0 ∧ ∃ F, Hid (LR w wx rb 0 9 N R3 F))
        case first =>
          refine wp_region_held_drew (S := fun w1 => Kept F11 w12 w1) (by kernel_rfl) ?_ (fun hHeld => ?_)
          · exact (Kept.refl _ _).drew
          generalize World.drew w12 = wd at hL hHeld ⊢
          refine rgy (i := 0) (v := ?_) (atN rfl) (by kernel_rfl) (fun _ _ _ h => h) ?_ ?_ hHeld ?_; rotate_left 1; (· rfl); (· intro w' hSw; (try clear hHeld); go_simp; try with_reducible rfl)
          try simp only [Act.put, List.setIfInBounds_toArray, List.set_cons_zero, List.set_cons_succ]
          refine rgy (i := 5) (v := ?_) (atN rfl) (by kernel_rfl) (fun _ _ _ h => h) ?_ ?_ hHeld ?_; rotate_left 1; (· rfl); (· intro w' hSw; refine exec_ld 35 (.tmp 6) ?_ wr.heap.size ?_ 35 (avK 14).C (0, 0) _ ((hSw.block _ (row_lt Q12.out) NF12.out).trans Q12.out) Try.underlying35 rfl (by kernel_rfl) <;> rfl)
          try simp only [Act.put, List.setIfInBounds_toArray, List.set_cons_zero, List.set_cons_succ]
          refine rg_call (i := 1) (atN rfl) (by kernel_rfl) ?_ (fun K hK => ?_); (· rfl); (try clear hb); go_simp; refine (n0.out _).mono ?_; rintro e w13 ⟨rfl, hb⟩; replace hL := hL.below hb; (try replace hps := hps.below hb); go_wp2_with fail; refine hK.out _ _ ?_ (fun hHeld => ?_); (· exact hHeld.grow hb); clear hK K
          try simp only [Act.put, List.setIfInBounds_toArray, List.set_cons_zero, List.set_cons_succ]
          refine rg_call2 (i := 2) (j := 3) (atS (atS at0)) (atS (atS (atS at0))) (by kernel_rfl) ?_ ?_ (fun K hK => ?_) (fun K hK => ?_)
          · rfl
          · rfl
          · (try clear hb); go_simp; refine pf_one_k (x := netP 0) (netP_ok (by decide)) (p := K _) ?_; intro w14 hpg hb; replace hL := hL.below hb; (try replace hps := hps.below hb); refine hK.out _ _ ?_ (fun hHeld => ?_); (· exact hHeld.grow hb); clear hK K
            try simp only [Act.put, List.setIfInBounds_toArray, List.set_cons_zero, List.set_cons_succ]
            refine rg_call (i := 3) (atN rfl) (by kernel_rfl) ?_ (fun K hK => ?_); (· rfl); (try clear hb); go_simp; refine (n50.out _).mono ?_; rintro e w13 ⟨rfl, hb⟩; replace hL := hL.below hb; (try replace hpg := hpg.below hb); go_wp2_with fail; refine hK.out _ _ ?_ (fun hHeld => ?_); (· exact hHeld.grow hb); clear hK K
            try simp only [Act.put, List.setIfInBounds_toArray, List.set_cons_zero, List.set_cons_succ]
            refine rg_call (i := 4) (atN rfl) (by kernel_rfl) ?_ (fun K hK => ?_); (· rfl); (try clear hb); go_simp; refine pf_one_k (x := netP 50) (netP_ok (by decide)) (p := K _) ?_; intro w14 hps hb; replace hL := hL.below hb; (try replace hpg := hpg.below hb); refine hK.out _ _ ?_ (fun hHeld => ?_); (· exact hHeld.grow hb); clear hK K
            try simp only [Act.put, List.setIfInBounds_toArray, List.set_cons_zero, List.set_cons_succ]
            refine rgy (i := 6) (v := ?_) (atN rfl) (by kernel_rfl) (fun _ _ _ h => h) ?_ ?_ hHeld ?_; rotate_left 1; (· rfl); (· intro w' hSw; (try clear hHeld); go_simp; try with_reducible rfl)
            try simp only [Act.put, List.setIfInBounds_toArray, List.set_cons_zero, List.set_cons_succ]
            refine rg_call (i := 7) (atN rfl) (by kernel_rfl) ?_ (fun K hK => ?_); (· rfl); (try clear hb); go_simp; refine (ad_Update (mgV _ 1 1 (avK 14) _ 1 1) [netP 0] [netP 50] (atK 14) _ hL.rib hpg hps (fun W _ => avK_at 14 W) (by simp) (atK_sz 14)).mono ?_; intro e w15 hp; rw [show updP 9 N RR (mgV _ 1 1 (avK 14) _ 1 1).kind [netP 0] [netP 50] (atK 14) = _ from U3.out] at hp; obtain ⟨v15, F15, rfl, -, l15, f15, -, k15⟩ := hL.upd hp; go_wp2_with fail; refine hK.out _ _ ?_ (fun hHeld => ?_); (· exact hHeld.trans k15); clear hK K
            try simp only [Act.put, List.setIfInBounds_toArray, List.set_cons_zero, List.set_cons_succ]
            refine rgy (i := 8) (v := ?_) (atN rfl) (by kernel_rfl) (fun _ _ _ h => h) ?_ ?_ hHeld ?_; rotate_left 1; (· rfl); (· intro w' hSw; (try clear hHeld); go_simp; try with_reducible rfl)
            try simp only [Act.put, List.setIfInBounds_toArray, List.set_cons_zero, List.set_cons_succ]
            refine rgy (i := 9) (v := ?_) (atN rfl) (by kernel_rfl) (fun _ _ _ h => h) ?_ ?_ hHeld ?_; rotate_left 1; (· rfl); (· intro w' hSw; (try clear hHeld); go_simp; try with_reducible rfl)
            try simp only [Act.put, List.setIfInBounds_toArray, List.set_cons_zero, List.set_cons_succ]
            refine rgy (i := 10) (v := ?_) (atN rfl) (by kernel_rfl) (fun _ _ _ h => h) ?_ ?_ hHeld ?_; rotate_left 1; (· rfl); (· intro w' hSw; (try clear hHeld); go_simp; try with_reducible rfl)
            try simp only [Act.put, List.setIfInBounds_toArray, List.set_cons_zero, List.set_cons_succ]
            refine rgy (i := 11) (v := ?_) (atN rfl) (by kernel_rfl) (fun _ _ _ h => h) ?_ ?_ hHeld ?_; rotate_left 1; (· rfl); (· intro w' hSw; (try clear hHeld); go_simp; try with_reducible rfl)
            try simp only [Act.put, List.setIfInBounds_toArray, List.set_cons_zero, List.set_cons_succ]
            refine rgy (i := 12) (v := ?_) (atN rfl) (by kernel_rfl) (fun _ _ _ h => h) ?_ ?_ hHeld ?_; rotate_left 1; (· rfl); (· intro w' hSw; (try clear hHeld); go_simp; try with_reducible rfl)
            try simp only [Act.put, List.setIfInBounds_toArray, List.set_cons_zero, List.set_cons_succ]
            refine wpAnyH_done (by kernel_rfl) ?_ _
            have L15 : Hid (LR w w15 rb 0 9 N R3 F15) := Lib.hid l15
            clear hHeld hL hps hpg hp l15 f15 k15
            go_wp2_with fail
            go_meet
            exact ⟨rfl, F15, L15⟩
          · (try clear hb); go_simp; refine (n50.out _).mono ?_; rintro e w13 ⟨rfl, hb⟩; replace hL := hL.below hb; (try replace hpg := hpg.below hb); go_wp2_with fail; refine hK.out _ _ ?_ (fun hHeld => ?_); (· exact hHeld.grow hb); clear hK K
            try simp only [Act.put, List.setIfInBounds_toArray, List.set_cons_zero, List.set_cons_succ]
            refine rg_call2 (i := 2) (j := 4) (atS (atS at0)) (atS (atS (atS (atS at0)))) (by kernel_rfl) ?_ ?_ (fun K hK => ?_) (fun K hK => ?_)
            · rfl
            · rfl
            · (try clear hb); go_simp; refine pf_one_k (x := netP 0) (netP_ok (by decide)) (p := K _) ?_; intro w14 hpg hb; replace hL := hL.below hb; (try replace hps := hps.below hb); refine hK.out _ _ ?_ (fun hHeld => ?_); (· exact hHeld.grow hb); clear hK K
              try simp only [Act.put, List.setIfInBounds_toArray, List.set_cons_zero, List.set_cons_succ]
              refine rg_call (i := 4) (atN rfl) (by kernel_rfl) ?_ (fun K hK => ?_); (· rfl); (try clear hb); go_simp; refine pf_one_k (x := netP 50) (netP_ok (by decide)) (p := K _) ?_; intro w14 hps hb; replace hL := hL.below hb; (try replace hpg := hpg.below hb); refine hK.out _ _ ?_ (fun hHeld => ?_); (· exact hHeld.grow hb); clear hK K
              try simp only [Act.put, List.setIfInBounds_toArray, List.set_cons_zero, List.set_cons_succ]
              refine rgy (i := 6) (v := ?_) (atN rfl) (by kernel_rfl) (fun _ _ _ h => h) ?_ ?_ hHeld ?_; rotate_left 1; (· rfl); (· intro w' hSw; (try clear hHeld); go_simp; try with_reducible rfl)
              try simp only [Act.put, List.setIfInBounds_toArray, List.set_cons_zero, List.set_cons_succ]
              refine rg_call (i := 7) (atN rfl) (by kernel_rfl) ?_ (fun K hK => ?_); (· rfl); (try clear hb); go_simp; refine (ad_Update (mgV _ 1 1 (avK 14) _ 1 1) [netP 0] [netP 50] (atK 14) _ hL.rib hpg hps (fun W _ => avK_at 14 W) (by simp) (atK_sz 14)).mono ?_; intro e w15 hp; rw [show updP 9 N RR (mgV _ 1 1 (avK 14) _ 1 1).kind [netP 0] [netP 50] (atK 14) = _ from U3.out] at hp; obtain ⟨v15, F15, rfl, -, l15, f15, -, k15⟩ := hL.upd hp; go_wp2_with fail; refine hK.out _ _ ?_ (fun hHeld => ?_); (· exact hHeld.trans k15); clear hK K
              try simp only [Act.put, List.setIfInBounds_toArray, List.set_cons_zero, List.set_cons_succ]
              refine rgy (i := 8) (v := ?_) (atN rfl) (by kernel_rfl) (fun _ _ _ h => h) ?_ ?_ hHeld ?_; rotate_left 1; (· rfl); (· intro w' hSw; (try clear hHeld); go_simp; try with_reducible rfl)
              try simp only [Act.put, List.setIfInBounds_toArray, List.set_cons_zero, List.set_cons_succ]
              refine rgy (i := 9) (v := ?_) (atN rfl) (by kernel_rfl) (fun _ _ _ h => h) ?_ ?_ hHeld ?_; rotate_left 1; (· rfl); (· intro w' hSw; (try clear hHeld); go_simp; try with_reducible rfl)
              try simp only [Act.put, List.setIfInBounds_toArray, List.set_cons_zero, List.set_cons_succ]
              refine rgy (i := 10) (v := ?_) (atN rfl) (by kernel_rfl) (fun _ _ _ h => h) ?_ ?_ hHeld ?_; rotate_left 1; (· rfl); (· intro w' hSw; (try clear hHeld); go_simp; try with_reducible rfl)
              try simp only [Act.put, List.setIfInBounds_toArray, List.set_cons_zero, List.set_cons_succ]
              refine rgy (i := 11) (v := ?_) (atN rfl) (by kernel_rfl) (fun _ _ _ h => h) ?_ ?_ hHeld ?_; rotate_left 1; (· rfl); (· intro w' hSw; (try clear hHeld); go_simp; try with_reducible rfl)
              try simp only [Act.put, List.setIfInBounds_toArray, List.set_cons_zero, List.set_cons_succ]
              refine rgy (i := 12) (v := ?_) (atN rfl) (by kernel_rfl) (fun _ _ _ h => h) ?_ ?_ hHeld ?_; rotate_left 1; (· rfl); (· intro w' hSw; (try clear hHeld); go_simp; try with_reducible rfl)
              try simp only [Act.put, List.setIfInBounds_toArray, List.set_cons_zero, List.set_cons_succ]
              refine wpAnyH_done (by kernel_rfl) ?_ _
              have L15 : Hid (LR w w15 rb 0 9 N R3 F15) := Lib.hid l15
              clear hHeld hL hps hpg hp l15 f15 k15
              go_wp2_with fail
              go_meet
              exact ⟨rfl, F15, L15⟩
            · (try clear hb); go_simp; refine pf_one_k (x := netP 50) (netP_ok (by decide)) (p := K _) ?_; intro w14 hps hb; replace hL := hL.below hb; (try replace hpg := hpg.below hb); refine hK.out _ _ ?_ (fun hHeld => ?_); (· exact hHeld.grow hb); clear hK K
              try simp only [Act.put, List.setIfInBounds_toArray, List.set_cons_zero, List.set_cons_succ]
              refine rg_call (i := 2) (atN rfl) (by kernel_rfl) ?_ (fun K hK => ?_); (· rfl); (try clear hb); go_simp; refine pf_one_k (x := netP 0) (netP_ok (by decide)) (p := K _) ?_; intro w14 hpg hb; replace hL := hL.below hb; (try replace hps := hps.below hb); refine hK.out _ _ ?_ (fun hHeld => ?_); (· exact hHeld.grow hb); clear hK K
              try simp only [Act.put, List.setIfInBounds_toArray, List.set_cons_zero, List.set_cons_succ]
              refine rgy (i := 6) (v := ?_) (atN rfl) (by kernel_rfl) (fun _ _ _ h => h) ?_ ?_ hHeld ?_; rotate_left 1; (· rfl); (· intro w' hSw; (try clear hHeld); go_simp; try with_reducible rfl)
              try simp only [Act.put, List.setIfInBounds_toArray, List.set_cons_zero, List.set_cons_succ]
              refine rg_call (i := 7) (atN rfl) (by kernel_rfl) ?_ (fun K hK => ?_); (· rfl); (try clear hb); go_simp; refine (ad_Update (mgV _ 1 1 (avK 14) _ 1 1) [netP 0] [netP 50] (atK 14) _ hL.rib hpg hps (fun W _ => avK_at 14 W) (by simp) (atK_sz 14)).mono ?_; intro e w15 hp; rw [show updP 9 N RR (mgV _ 1 1 (avK 14) _ 1 1).kind [netP 0] [netP 50] (atK 14) = _ from U3.out] at hp; obtain ⟨v15, F15, rfl, -, l15, f15, -, k15⟩ := hL.upd hp; go_wp2_with fail; refine hK.out _ _ ?_ (fun hHeld => ?_); (· exact hHeld.trans k15); clear hK K
              try simp only [Act.put, List.setIfInBounds_toArray, List.set_cons_zero, List.set_cons_succ]
              refine rgy (i := 8) (v := ?_) (atN rfl) (by kernel_rfl) (fun _ _ _ h => h) ?_ ?_ hHeld ?_; rotate_left 1; (· rfl); (· intro w' hSw; (try clear hHeld); go_simp; try with_reducible rfl)
              try simp only [Act.put, List.setIfInBounds_toArray, List.set_cons_zero, List.set_cons_succ]
              refine rgy (i := 9) (v := ?_) (atN rfl) (by kernel_rfl) (fun _ _ _ h => h) ?_ ?_ hHeld ?_; rotate_left 1; (· rfl); (· intro w' hSw; (try clear hHeld); go_simp; try with_reducible rfl)
              try simp only [Act.put, List.setIfInBounds_toArray, List.set_cons_zero, List.set_cons_succ]
              refine rgy (i := 10) (v := ?_) (atN rfl) (by kernel_rfl) (fun _ _ _ h => h) ?_ ?_ hHeld ?_; rotate_left 1; (· rfl); (· intro w' hSw; (try clear hHeld); go_simp; try with_reducible rfl)
              try simp only [Act.put, List.setIfInBounds_toArray, List.set_cons_zero, List.set_cons_succ]
              refine rgy (i := 11) (v := ?_) (atN rfl) (by kernel_rfl) (fun _ _ _ h => h) ?_ ?_ hHeld ?_; rotate_left 1; (· rfl); (· intro w' hSw; (try clear hHeld); go_simp; try with_reducible rfl)
              try simp only [Act.put, List.setIfInBounds_toArray, List.set_cons_zero, List.set_cons_succ]
              refine rgy (i := 12) (v := ?_) (atN rfl) (by kernel_rfl) (fun _ _ _ h => h) ?_ ?_ hHeld ?_; rotate_left 1; (· rfl); (· intro w' hSw; (try clear hHeld); go_simp; try with_reducible rfl)
              try simp only [Act.put, List.setIfInBounds_toArray, List.set_cons_zero, List.set_cons_succ]
              refine wpAnyH_done (by kernel_rfl) ?_ _
              have L15 : Hid (LR w w15 rb 0 9 N R3 F15) := Lib.hid l15
              clear hHeld hL hps hpg hp l15 f15 k15
              go_wp2_with fail
              go_meet
              exact ⟨rfl, F15, L15⟩
        case rest =>
          obtain ⟨rfl, F15, L15⟩ := hcut
          obtain ⟨w16, hw16⟩ : ∃ w16 : World, w16 = wc := ⟨_, rfl⟩
          rw [← hw16] at L15 ⊢
          clear hw16 hL J Q12 NF12
          have LE := Lib.hid (ad_Len L15.out.rib)
          rw [HL3.out] at LE
          go_wp2_with fail
          refine LE.out.mono ?_
          rintro e w17 ⟨rfl, rfl⟩
          go_wp2_with fail
          go_ret
          exact ⟨rfl, L15.out.bel⟩
namespace adjRoom
open Go.ChangeShapes Go.WideShapes Go.ChangeAt Go.RowKit
set_option linter.unusedVariables false
set_option maxRecDepth 100000 in
theorem lifted (os : Os) (started : os.Started) (H : Type) (enc : TypeId × Value → H) :
    ReturnsInHanded {} Try.checked os 3 .any (Rows.adjRoomSpec.pre6 enc Try.prog Try.f3 Rows.adjRoomRow.domain false) (Rows.adjRoomSpec.post enc Try.prog Try.f3 false true false false) := by
  refine returnsInHanded_of_change (C := Try.checked) fr_own started (by kernel_rfl) Try.func3
    (ChangeSpec.witness6 (enc := enc) (C := Try.checked) false ⟨#[], #[.int .i64 0], []⟩ 8 (by kernel_rfl) (by kernel_rfl) (by kernel_rfl) (by kernel_rfl)) ?_
  intro W base args ds gs before hval0 hW hcnd _
  have hval : ∀ (j : Nat) t v, Try.f3.params[j]? = some t → args[j]? = some v → Value.okWide Try.prog W .any base t v := hval0
  have hW' := hW
  obtain ⟨p, q, hA0, hV, rfl, hfz, hnd⟩ := hW
  have hA : DataW.TrodAll enc Try.prog W 0 (fun _ => true) true Try.f3.params.toList args.toList ds p := hA0
  rw [Try.params3] at hA hval
  obtain ⟨v0, vs0, d0, ds0, p0, q0, hargs, rfl, rfl, h0, r0⟩ := trodAll_cons hA
  obtain ⟨rfl, rfl, rfl⟩ := trodAll_nil r0
  obtain rfl : args = #[v0] := by cases args; simp_all
  obtain ⟨rfl, rfl⟩ := trodVars_none hV
  have lt0 : ∀ x ∈ p0, x.block < W.heap.size := by obtain ⟨m, hm⟩ := h0; exact DataW.trod_lt m _ _ _ hm
  obtain ⟨n, rfl, nl, nh⟩ := open_i64 (hval 0 3 v0 rfl rfl)
  clear hA0 hval0
  refine (law_AdjRoom n W).mono fun e W' ⟨he, bel⟩ => ?_
  subst he
  exact ⟨_, rfl, _, _, _, [], _, [], hW', trodAll_mk1 (shut_bool Try.underlying4 _), (trodAll_cons_mk (Below.trod fr_laidOut (by kernel_rfl) (of_decide_eq_true (by kernel_rfl)) h0 bel lt0) trodAll_mk0), rfl, bel.frame _, fun h => by cases h⟩
theorem over : Rows.adjRoomRow.holds Try.pinned (OpenSpec.ofChange Rows.adjRoomSpec) :=
  OpenClaim.holds_of_wide 3 Try.f3 rfl rfl rfl rfl rfl rfl rfl ⟨rfl, rfl, rfl, rfl, rfl⟩ rfl rfl rfl rfl rfl (by kernel_rfl) Try.func3 (by kernel_rfl)
    (of_decide_eq_true (by kernel_rfl)) (by unfold Func.isWrapper; first | (rw [if_pos (by decide +kernel)]; kernel_rfl) | (rw [if_neg (by decide +kernel)]; exact ⟨rfl, rfl⟩))
    (fun os started H enc _ => lifted os started H enc)
/-- THE STATEMENT AdjRoom. -/
theorem proved : Rows.AdjRoomSaid := over
#print axioms proved
end adjRoom
end Go.Proofs.Ytadlecnlgkhneaa
