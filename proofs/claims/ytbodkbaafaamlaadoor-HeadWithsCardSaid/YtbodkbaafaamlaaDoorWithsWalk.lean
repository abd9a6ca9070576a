/-
  HeadWiths, the walk: any header with any number in any field, or why not: that field has it, all others stay.
-/
import Derived.Test.YtbodkbaafaamlaaDoorTwiceWalk
import Derived.Test.YtbodkbaafaamlaaDoorOrdersWalk
import Derived.Test.YtbodkbaafaamlaaDoorRg2
namespace Go.Proofs.YtbodkbaafaamlaaDoor
open Go.RowKit

theorem run_eql_header0 (a : Hdr) (w : World) : (binOp .eql 33 (hdrV a) (.agg #[.int .i64 0, .int .u8 0, .int .u8 0, .int .u8 0, .int .u8 0, .int .u8 0, .int .u8 0, .int .u8 0, .int .u8 0, .int .u8 0, .int .u8 0, .int .u8 0, .int .u8 0, .int .i64 0, .int .u32 0, .int .u32 0, .int .i64 0, .int .i64 0, .int .i64 0])).run Tryd.prog w = .ok (.bool (eqH a hdr0)) w := run_eql_header a hdr0 w
attribute [go_sem ↓] run_eql_header0
theorem head_With_as {h r : Hdr} {f n : Int} (hr : setH h f n = r) (hw : withOk f n = true) (hn : 0 ≤ n) (w : World) (hT : Wid w) :
    Calls Tryd.prog 11 #[hdrV h, .int .i64 f, .int .u64 n] w fun e w' => e = .returned (.tuple #[hdrV r, .int .i64 0]) ∧ Below w.heap.size w w' := by
  refine (head_With h f n w hT hn).mono ?_
  rintro e w1 ⟨rfl, hb⟩
  refine ⟨?_, hb⟩
  unfold withH
  rw [hw, if_pos rfl, hr]
  rfl
theorem onDrewN2 {w W : World} {x y : Hdr} {a b c d n : Nat} (h : Below w.heap.size w W ∧ Wid W ∧ HBox W a x ∧ HBox W b y ∧ NBox W c x ∧ NBox W d y) :
    Below w.heap.size w (W.drewN n) ∧ Wid (W.drewN n) ∧ HBox (W.drewN n) a x ∧ HBox (W.drewN n) b y ∧ NBox (W.drewN n) c x ∧ NBox (W.drewN n) d y := onDrewN h
theorem box_at {w : World} (h : Hdr) {p : World → Prop} (H : ∀ W0, HBox W0 w.heap.size h → Below w.heap.size w W0 → p W0) : p (w.alloc (.cells (hdrC h) 33)) :=
  H _ (heap_alloc_new w _) ((Below.refl _ _).alloc (Nat.le_refl _) _)
theorem num_one (h : Hdr) : (numC h).all (·.oneCell') = true := by simp [numC, Value.oneCell']
set_option maxRecDepth 100000 in
set_option maxHeartbeats 6400000 in
theorem law_HeadWiths (h : Hdr) (f n : Int) (w : World) (hT : Wid w) (ok : h.Ok) (n0 : 0 ≤ n) :
    Calls Tryd.prog 7 #[hdrV h, .int .i64 f, .int .u64 n] w fun e w' => e = .returned (.bool true) ∧ Below w.heap.size w w' := by
  have HT := Lib.hid hT
  have HT0 := Lib.hid hT
  clear hT
  have OK := Lib.hid ok
  clear ok
  go_enter Tryd.func7, Tryd.ntmps7
  go_wp2_with fail
  obtain ⟨W0, hW0, hx, hB⟩ := boxH w h
  rw [← hW0]; clear hW0
  refine (head_With hdr0 8 80 _ (HT.out.below hB) (by decide)).mono ?_
  rintro e w1 ⟨rfl, hb⟩
  rw [with80.1, with80.2]
  replace hx := hx.below hb
  replace hB := below_on hB hb
  clear hb
  have HX := Lib.hid hx
  clear hx
  go_wp2_with (first | (refine wpList_store_fresh rfl 33 _ _ rfl rfl (hdrC hdr0) (hdrC hdr80) rfl (by kernel_rfl) rfl (hdr_one _) ?_) | (with_reducible refine stop_load (ty := 33) (x := .tmp 3) ?_ ?_; (· rfl)))
  obtain ⟨W2, hW2, _, hb⟩ := boxH w1 hdr80
  rw [← hW2]; clear hW2
  have hx := HX.out.below hb
  replace hB := below_on hB hb
  clear hb HX
  unfold Stop
  refine wpList_load_at (by rfl) 33 _ rfl w.heap.size rfl 33 _ (0, 0) _ hx Tryd.underlying33 rfl (by kernel_rfl) ?_
  have HX := Lib.hid hx
  clear hx
  go_wp2_with fail
  refine (head_With h f n _ (HT.out.below hB) n0).mono ?_
  rintro e w3 ⟨rfl, hb⟩
  have hx := HX.out.below hb
  replace hB := below_on hB hb
  clear hb HX
  have PO : Hid (withH h f n).Ok := withH_ok OK.out n0
  obtain ⟨W4, hW4, hp, hb⟩ := boxH w3 (withH h f n)
  have hB4 := below_on hB hb
  have HT4 := Lib.hid (HT.out.below hB4)
  have HP := Lib.hid hp
  have HX := Lib.hid (hx.below hb)
  have HB := Lib.hid hB4
  clear hB hb hp hx hB4
  rw [hW4] at HT4 HP HX HB
  clear hW4 W4
  cases hok : withOk f n with
  | false =>
    have hP : withH h f n = hdr0 := by unfold withH; rw [hok]; rfl
    rw [hP] at PO HP HX HB HT4 ⊢
    rw [show errI false = 1 from rfl]
    have hc : f < 0 ∨ (¬ f < 0 ∧ 9 ≤ f) ∨ (0 ≤ f ∧ f < 9 ∧ fullI f < n) := by
      rcases (by omega : f < 0 ∨ (¬ f < 0 ∧ 9 ≤ f) ∨ (0 ≤ f ∧ f < 9)) with a | a | a
      · exact .inl a
      · exact .inr (.inl a)
      · refine .inr (.inr ⟨a.1, a.2, ?_⟩)
        rcases (by omega : fullI f < n ∨ n ≤ fullI f) with b | b
        · exact b
        · rw [(withOk_iff f n).2 ⟨a.1, a.2, b⟩] at hok; cases hok
    rcases hc with a | ⟨a, a2⟩ | ⟨a, a2, a3⟩
    all_goals
      try have d1 : decide (fullI f < n) = true := decide_eq_true a3
      clear HT
      have HT := HT4
      go_wp2_with (first | (refine wpList_store_fresh rfl 33 _ _ rfl rfl (hdrC hdr0) (hdrC hdr0) rfl (by kernel_rfl) rfl (hdr_one _) ?_) | (go_at_call 10; refine (head_Full _ _ HT.out).mono ?_; rintro e _ ⟨rfl, rfl⟩) | (refine wpList_load_at ?_ 33 _ rfl w3.heap.size ?_ 33 _ (0, 0) _ HP.out Tryd.underlying33 rfl ?_ ?_; (· rfl); (· rfl); (· kernel_rfl)))
      go_ret
      exact ⟨ret_bool (eqH_self _), HB.out⟩
  | true =>
    obtain ⟨f0, f1, f2⟩ := (withOk_iff f n).1 hok
    have hP : withH h f n = setH h f n := by unfold withH; rw [hok]; rfl
    have g1 : getI (setH h f n) f = n := getI_set n0 hok
    have g2 : Hid (∀ i, 0 ≤ i → i < 9 → i ≠ f → getI (setH h f n) i = getI h i) := Lib.hid fun i i0 i1 hi => getI_other h f n i f0 f1 i0 i1 hi
    have g3 : Hid (checkB h = true → setH (setH h f n) f (getI h f) = h) := Lib.hid fun hc => setH_back h f n OK.out hc f0 f1
    have g4 := Lib.hid (withOk_get h f OK.out f0 f1)
    have g5 := Lib.hid (getI_lo h f OK.out)
    rw [hP] at PO HP HX HB HT4 ⊢
    rw [show errI true = 0 from rfl]
    generalize setH h f n = P at *
    clear hP
    have G1 := Lib.hid g1
    clear g1
    clear HT
    have HT := HT4
    clear HT4
    have d0 : decide (f < 0) = false := decide_eq_false (by omega)
    have d1 : decide (9 ≤ f) = false := decide_eq_false (by omega)
    have d2 : decide (fullI f < n) = false := decide_eq_false (by omega)
    go_wp2_with (first | (refine wpList_store_fresh rfl 33 _ _ rfl rfl (hdrC hdr0) (hdrC P) rfl (by kernel_rfl) rfl (hdr_one _) ?_) | (go_at_call 10; refine (head_Full _ _ HT.out).mono ?_; rintro e _ ⟨rfl, rfl⟩) | (with_reducible refine stop_load (ty := 33) (x := .tmp 9) ?_ ?_; (· rfl)))
    obtain ⟨W4, hW4⟩ : ∃ W4, W4 = w3.alloc (.cells (hdrC P) 33) := ⟨_, rfl⟩
    rw [← hW4] at HP HX HB HT ⊢
    clear hW4 d0 d1 d2
    unfold Stop
    refine wpList_load_at (by rfl) 33 _ rfl w3.heap.size rfl 33 _ (0, 0) _ HP.out Tryd.underlying33 rfl (by kernel_rfl) ?_
    go_wp2_with fail
    refine (head_Get P f _ HT.out PO.out).mono ?_
    rintro e w5 ⟨rfl, hb⟩
    rw [G1.out]
    have hx := HX.out.below hb
    have hp := HP.out.below hb
    have hB := below_on HB.out hb
    clear hb HX HP HB HT
    have HX := Lib.hid hx
    clear hx
    go_wp2_with (with_reducible refine stop_load (ty := 33) (x := .tmp 3) ?_ ?_; (· rfl))
    unfold Stop
    refine wpList_load_at (by rfl) 33 _ rfl w.heap.size rfl 33 _ (0, 0) _ HX.out Tryd.underlying33 rfl (by kernel_rfl) ?_
    go_wp2_with fail
    refine (law_numbers h _ OK.out).mono ?_
    rintro e w6 ⟨rfl, hb⟩
    have hx := HX.out.below hb
    replace hp := hp.below hb
    replace hB := below_on hB hb
    clear hb HX
    have HP := Lib.hid hp
    have HX := Lib.hid hx
    clear hp hx
    go_wp2_with (first | (refine wpList_store_fresh rfl 39 _ _ rfl rfl (zeroC) (numC h) rfl (by kernel_rfl) rfl (num_one _) ?_) | (with_reducible refine stop_load (ty := 33) (x := .tmp 9) ?_ ?_; (· rfl)))
    obtain ⟨W7, hW7, na, hb⟩ := boxN w6 h
    rw [← hW7]; clear hW7
    have hx := HX.out.below hb
    have hp := HP.out.below hb
    replace hB := below_on hB hb
    clear hb HX HP
    unfold Stop
    refine wpList_load_at (by rfl) 33 _ rfl w3.heap.size rfl 33 _ (0, 0) _ hp Tryd.underlying33 rfl (by kernel_rfl) ?_
    go_wp2_with fail
    refine (law_numbers P _ PO.out).mono ?_
    rintro e w8 ⟨rfl, hb⟩
    replace hx := hx.below hb
    replace hp := hp.below hb
    replace na := na.below hb
    replace hB := below_on hB hb
    clear hb
    have HP := Lib.hid hp
    have HX := Lib.hid hx
    clear hp hx
    go_wp2_with (refine wpList_store_fresh rfl 39 _ _ rfl rfl (zeroC) (numC P) rfl (by kernel_rfl) rfl (num_one _) ?_)
    obtain ⟨W9, hW9, nb, hb⟩ := boxN w8 P
    rw [← hW9]; clear hW9
    have hx := HX.out.below hb
    have hp := HP.out.below hb
    replace na := na.below hb
    replace hB := below_on hB hb
    clear hb HX HP
    have hT := HT0.out.below hB
    have C0 := Lib.hid (⟨hB, hT, hx, hp, na, nb⟩ : Below w.heap.size w W9 ∧ Wid W9 ∧ HBox W9 w.heap.size h ∧ HBox W9 w3.heap.size P ∧ NBox W9 w6.heap.size h ∧ NBox W9 w8.heap.size P)
    clear hB hT hx hp na nb
    go_wp2_with fail
    go_loopw [66] (fun t wr => ∃ k : Nat, k ≤ 9 ∧ t = .int .i64 k ∧ (Below w.heap.size w wr ∧ Wid wr ∧ HBox wr w.heap.size h ∧ HBox wr w3.heap.size P ∧ NBox wr w6.heap.size h ∧ NBox wr w8.heap.size P)) (fun t _ => 9 - (intOf t).toNat)
    case atStart => exact ⟨0, by omega, rfl, C0.out⟩
    case round =>
      obtain ⟨k, hk, rfl, hC⟩ := hrel
      have C := Lib.hid hC
      clear hC C0
      rcases Nat.lt_or_ge k 9 with hlt | hge
      · have hk9 : ((k : Int) < 9) := by omega
        have hw : IntKind.i64.wrap ((k : Int) + 1) = ((k + 1 : Nat) : Int) := by rw [IntWalk.i64_in _ (by omega)]; omega
        by_cases hkf : (k : Int) = f
        · have hne : ((k : Int) != f) = false := by simp [hkf]
          go_wp2_with (go_quiet (fail))
          refine ⟨⟨k + 1, by omega, by first | (simp; done) | (simp; omega), onDrewN2 C.out⟩, by simp [intOf]; omega⟩
        · have hne : ((k : Int) != f) = true := by simp [hkf]
          have ca := C.out.2.2.2.2.1.cell k (by omega)
          have cb := C.out.2.2.2.2.2.cell k (by omega)
          rw [g2.out k (by omega) (by omega) hkf] at cb
          generalize getI h k = gk at ca cb
          have hgk : (gk != gk) = false := by simp
          go_wp2_with (go_quiet (fail))
          refine ⟨⟨k + 1, by omega, by simp, onDrewN2 C.out⟩, by simp [intOf]; omega⟩
      · obtain rfl : k = 9 := by omega
        obtain ⟨hB, hT, hx, hp, _⟩ := C.out
        clear C g2
        go_wp2_with fail
        have HG0 : ∃ v, getI h f = v := ⟨_, rfl⟩
        obtain ⟨v, hv⟩ := HG0
        have HG : Hid (∀ W, Wid W → Calls Tryd.prog 12 #[hdrV h, .int .i64 f] W fun e w' => e = .returned (.int .u64 v) ∧ Below W.heap.size W w') := Lib.hid fun W hT => by
          have := head_Get h f W hT OK.out; rwa [hv] at this
        rw [hv] at g3 g4 g5
        clear hv
        have HBK : ∃ r, setH P f v = r := ⟨_, rfl⟩
        obtain ⟨r, hr⟩ := HBK
        rw [hr] at g3
        have HR := Lib.hid hr
        clear hr
        have HX := Lib.hid hx
        have HP := Lib.hid hp
        have HW := Lib.hid hT
        have HB := Lib.hid hB
        clear hx hp hT hB HT0 G1
        refine wp_region_held_drew (S := fun w' => Below wr.heap.size wr w') (by kernel_rfl) ?_ (fun hHeld => ?_)
        · exact (Below.refl _ _).drew
        generalize World.drew wr = wd at hHeld ⊢
        refine rg_yes (i := 0) (v := ?_) at0 (by kernel_rfl) (by kernel_rfl) (by kernel_rfl) (fun _ _ _ h => h) ?_ ?_ hHeld ?_; rotate_left 1; (· rfl); (· intro w' hSw; (try dsimp only at hSw); refine exec_load_row 33 (.tmp 9) ?_ w3.heap.size ?_ 33 _ (0, 0) _ (HP.out.below hSw) Tryd.underlying33 rfl (by kernel_rfl) <;> rfl)
        try simp only [Act.put, List.setIfInBounds_toArray, List.set_cons_zero, List.set_cons_succ]
        refine rg_yes (i := 1) (v := ?_) (atS at0) (by kernel_rfl) (by kernel_rfl) (by kernel_rfl) (fun _ _ _ h => h) ?_ ?_ hHeld ?_; rotate_left 1; (· rfl); (· intro w' hSw; (try dsimp only at hSw); (try clear hHeld); go_simp; try with_reducible rfl)
        try simp only [Act.put, List.setIfInBounds_toArray, List.set_cons_zero, List.set_cons_succ]
        refine rg_yes (i := 2) (v := ?_) (atS (atS at0)) (by kernel_rfl) (by kernel_rfl) (by kernel_rfl) (fun _ _ _ h => h) ?_ ?_ hHeld ?_; rotate_left 1; (· rfl); (· intro w' hSw; (try dsimp only at hSw); refine exec_load_row 33 (.tmp 3) ?_ w.heap.size ?_ 33 _ (0, 0) _ (HX.out.below hSw) Tryd.underlying33 rfl (by kernel_rfl) <;> rfl)
        try simp only [Act.put, List.setIfInBounds_toArray, List.set_cons_zero, List.set_cons_succ]
        refine rg_yes (i := 3) (v := ?_) (atS (atS (atS at0))) (by kernel_rfl) (by kernel_rfl) (by kernel_rfl) (fun _ _ _ h => h) ?_ ?_ hHeld ?_; rotate_left 1; (· rfl); (· intro w' hSw; (try dsimp only at hSw); (try clear hHeld); go_simp; try with_reducible rfl)
        try simp only [Act.put, List.setIfInBounds_toArray, List.set_cons_zero, List.set_cons_succ]
        refine rg_call2 (i := 4) (j := 9) (atS (atS (atS (atS at0)))) (atS (atS (atS (atS (atS (atS (atS (atS (atS at0))))))))) (by kernel_rfl) ?_ ?_ (fun K hK => ?_) (fun K hK => ?_)
        · rfl
        · rfl
        · (try clear hb); go_simp; (refine (HG.out _ (HW.out.below hHeld)).mono ?_; rintro e w1 ⟨rfl, hb⟩); (try replace hz := hz.below hb); go_wp2_with fail; refine hK.out _ _ ?_ (fun hHeld => ?_); (· exact hHeld.trans (hb.mono hHeld.size)); clear hK K
          try simp only [Act.put, List.setIfInBounds_toArray, List.set_cons_zero, List.set_cons_succ]
          refine rg_call2 (i := 5) (j := 9) (atS (atS (atS (atS (atS at0))))) (atS (atS (atS (atS (atS (atS (atS (atS (atS at0))))))))) (by kernel_rfl) ?_ ?_ (fun K hK => ?_) (fun K hK => ?_)
          · rfl
          · rfl
          · (try clear hb); go_simp; (refine (head_With_as HR.out g4.out g5.out _ (HW.out.below hHeld)).mono ?_; rintro e w1 ⟨rfl, hb⟩); (try replace hz := hz.below hb); go_wp2_with fail; refine hK.out _ _ ?_ (fun hHeld => ?_); (· exact hHeld.trans (hb.mono hHeld.size)); clear hK K
            try simp only [Act.put, List.setIfInBounds_toArray, List.set_cons_zero, List.set_cons_succ]
            refine rg_yes (i := 6) (v := ?_) (atS (atS (atS (atS (atS (atS at0)))))) (by kernel_rfl) (by kernel_rfl) (by kernel_rfl) (fun _ _ _ h => h) ?_ ?_ hHeld ?_; rotate_left 1; (· rfl); (· intro w' hSw; (try dsimp only at hSw); (try clear hHeld); go_simp; try with_reducible rfl)
            try simp only [Act.put, List.setIfInBounds_toArray, List.set_cons_zero, List.set_cons_succ]
            refine rg_yes (i := 7) (v := ?_) (atS (atS (atS (atS (atS (atS (atS at0))))))) (by kernel_rfl) (by kernel_rfl) (by kernel_rfl) (fun _ _ _ h => h) ?_ ?_ hHeld ?_; rotate_left 1; (· rfl); (· intro w' hSw; (try dsimp only at hSw); (try clear hHeld); go_simp; try with_reducible rfl)
            try simp only [Act.put, List.setIfInBounds_toArray, List.set_cons_zero, List.set_cons_succ]
            refine rg_yes (i := 8) (v := ?_) (atS (atS (atS (atS (atS (atS (atS (atS at0)))))))) (by kernel_rfl) (by kernel_rfl) (by kernel_rfl) (fun _ _ _ h => h) ?_ ?_ hHeld ?_; rotate_left 1; (· rfl); (· intro w' hSw; (try dsimp only at hSw); (try clear hHeld); go_simp; try with_reducible rfl)
            try simp only [Act.put, List.setIfInBounds_toArray, List.set_cons_zero, List.set_cons_succ]
            refine rg_call (i := 9) (atS (atS (atS (atS (atS (atS (atS (atS (atS at0))))))))) (by kernel_rfl) ?_ (fun K hK => ?_); (· rfl); (try clear hb); go_simp; (refine box_at hdr0 (p := K _) ?_); intro w1 hz hb; have hzB := hHeld.size; refine hK.out _ _ ?_ (fun hHeld => ?_); (· exact hHeld.trans (hb.mono hHeld.size)); clear hK K
            try simp only [Act.put, List.setIfInBounds_toArray, List.set_cons_zero, List.set_cons_succ]
            refine rg_call (i := 10) (atS (atS (atS (atS (atS (atS (atS (atS (atS (atS at0)))))))))) (by kernel_rfl) ?_ (fun K hK => ?_); (· rfl); (try clear hb); refine wp_store_rowat 33 (.tmp 13) (.tmp 89) rfl _ rfl 33 (hdrC hdr0) (hdrC r) rfl hz (by kernel_rfl) rfl (hdr_one _) ?_; refine hK.out _ _ ?_ (fun hHeld => ?_); (· exact below_setRow hHeld hzB _); clear hK K
            try simp only [Act.put]
            refine rg_yes (i := 11) (v := ?_) (atS (atS (atS (atS (atS (atS (atS (atS (atS (atS (atS at0))))))))))) (by kernel_rfl) (by kernel_rfl) (by kernel_rfl) (fun _ _ _ h => h) ?_ ?_ hHeld ?_; rotate_left 1; (· rfl); (· intro w' hSw; (try dsimp only at hSw); (try clear hHeld); go_simp; try with_reducible rfl)
            try simp only [Act.put, List.setIfInBounds_toArray, List.set_cons_zero, List.set_cons_succ]
            refine wpAnyH_done (by kernel_rfl) ?_ _
            have HZ := Lib.hid (hz.row r)
            have HX2 := Lib.hid (HX.out.below hHeld)
            have HB2 := Lib.hid (below_on HB.out hHeld)
            have HT2 := Lib.hid (HW.out.below hHeld)
            clear hHeld hz HX HB HW HP HG
            cases hc : checkB h with
            | false =>
              go_wp2_with (with_reducible refine stop_load (ty := 33) (x := .tmp 3) ?_ ?_; (· rfl))
              unfold Stop
              refine wpList_load_at (by rfl) 33 _ rfl w.heap.size rfl 33 _ (0, 0) _ HX2.out Tryd.underlying33 rfl (by kernel_rfl) ?_
              go_wp2_with fail
              refine (head_Check h _ HT2.out OK.out).mono ?_
              rintro e w5 ⟨rfl, hb⟩
              rw [hc, show errI false = 1 from rfl]
              go_wp2_with fail
              go_ret
              exact ⟨rfl, below_on HB2.out hb⟩
            | true =>
              obtain rfl : r = h := HR.out.symm.trans (by rw [HR.out]; exact g3.out hc)
              go_wp2_with (with_reducible refine stop_load (ty := 33) (x := .tmp 3) ?_ ?_; (· rfl))
              unfold Stop
              refine wpList_load_at (by rfl) 33 _ rfl w.heap.size rfl 33 _ (0, 0) _ HX2.out Tryd.underlying33 rfl (by kernel_rfl) ?_
              go_wp2_with fail
              refine (head_Check _ _ HT2.out OK.out).mono ?_
              rintro e w5 ⟨rfl, hb⟩
              rw [hc, show errI true = 0 from rfl]
              have HZ3 := Lib.hid (HZ.out.below hb)
              have HX3 := Lib.hid (HX2.out.below hb)
              have HB3 := Lib.hid (below_on HB2.out hb)
              clear HZ HX2 HB2 HT2 hb
              go_wp2_with (with_reducible refine stop_load (ty := 33) (x := .tmp 13) ?_ ?_; (· rfl))
              unfold Stop
              refine wpList_load_at (by rfl) 33 _ rfl _ rfl 33 _ (0, 0) _ HZ3.out Tryd.underlying33 rfl (by kernel_rfl) ?_
              go_wp2_with (with_reducible refine stop_load (ty := 33) (x := .tmp 3) ?_ ?_; (· rfl))
              unfold Stop
              refine wpList_load_at (by rfl) 33 _ rfl w.heap.size rfl 33 _ (0, 0) _ HX3.out Tryd.underlying33 rfl (by kernel_rfl) ?_
              go_wp2_with fail
              go_ret
              exact ⟨ret_bool (eqH_self _), HB3.out⟩
          · (try clear hb); go_simp; (refine box_at hdr0 (p := K _) ?_); intro w1 hz hb; have hzB := hHeld.size; refine hK.out _ _ ?_ (fun hHeld => ?_); (· exact hHeld.trans (hb.mono hHeld.size)); clear hK K
            try simp only [Act.put, List.setIfInBounds_toArray, List.set_cons_zero, List.set_cons_succ]
            refine rg_call (i := 5) (atS (atS (atS (atS (atS at0))))) (by kernel_rfl) ?_ (fun K hK => ?_); (· rfl); (try clear hb); go_simp; (refine (head_With_as HR.out g4.out g5.out _ (HW.out.below hHeld)).mono ?_; rintro e w1 ⟨rfl, hb⟩); (try replace hz := hz.below hb); go_wp2_with fail; refine hK.out _ _ ?_ (fun hHeld => ?_); (· exact hHeld.trans (hb.mono hHeld.size)); clear hK K
            try simp only [Act.put, List.setIfInBounds_toArray, List.set_cons_zero, List.set_cons_succ]
            refine rg_yes (i := 6) (v := ?_) (atS (atS (atS (atS (atS (atS at0)))))) (by kernel_rfl) (by kernel_rfl) (by kernel_rfl) (fun _ _ _ h => h) ?_ ?_ hHeld ?_; rotate_left 1; (· rfl); (· intro w' hSw; (try dsimp only at hSw); (try clear hHeld); go_simp; try with_reducible rfl)
            try simp only [Act.put, List.setIfInBounds_toArray, List.set_cons_zero, List.set_cons_succ]
            refine rg_yes (i := 7) (v := ?_) (atS (atS (atS (atS (atS (atS (atS at0))))))) (by kernel_rfl) (by kernel_rfl) (by kernel_rfl) (fun _ _ _ h => h) ?_ ?_ hHeld ?_; rotate_left 1; (· rfl); (· intro w' hSw; (try dsimp only at hSw); (try clear hHeld); go_simp; try with_reducible rfl)
            try simp only [Act.put, List.setIfInBounds_toArray, List.set_cons_zero, List.set_cons_succ]
            refine rg_yes (i := 8) (v := ?_) (atS (atS (atS (atS (atS (atS (atS (atS at0)))))))) (by kernel_rfl) (by kernel_rfl) (by kernel_rfl) (fun _ _ _ h => h) ?_ ?_ hHeld ?_; rotate_left 1; (· rfl); (· intro w' hSw; (try dsimp only at hSw); (try clear hHeld); go_simp; try with_reducible rfl)
            try simp only [Act.put, List.setIfInBounds_toArray, List.set_cons_zero, List.set_cons_succ]
            refine rg_call (i := 10) (atS (atS (atS (atS (atS (atS (atS (atS (atS (atS at0)))))))))) (by kernel_rfl) ?_ (fun K hK => ?_); (· rfl); (try clear hb); refine wp_store_rowat 33 (.tmp 13) (.tmp 89) rfl _ rfl 33 (hdrC hdr0) (hdrC r) rfl hz (by kernel_rfl) rfl (hdr_one _) ?_; refine hK.out _ _ ?_ (fun hHeld => ?_); (· exact below_setRow hHeld hzB _); clear hK K
            try simp only [Act.put]
            refine rg_yes (i := 11) (v := ?_) (atS (atS (atS (atS (atS (atS (atS (atS (atS (atS (atS at0))))))))))) (by kernel_rfl) (by kernel_rfl) (by kernel_rfl) (fun _ _ _ h => h) ?_ ?_ hHeld ?_; rotate_left 1; (· rfl); (· intro w' hSw; (try dsimp only at hSw); (try clear hHeld); go_simp; try with_reducible rfl)
            try simp only [Act.put, List.setIfInBounds_toArray, List.set_cons_zero, List.set_cons_succ]
            refine wpAnyH_done (by kernel_rfl) ?_ _
            have HZ := Lib.hid (hz.row r)
            have HX2 := Lib.hid (HX.out.below hHeld)
            have HB2 := Lib.hid (below_on HB.out hHeld)
            have HT2 := Lib.hid (HW.out.below hHeld)
            clear hHeld hz HX HB HW HP HG
            cases hc : checkB h with
            | false =>
              go_wp2_with (with_reducible refine stop_load (ty := 33) (x := .tmp 3) ?_ ?_; (· rfl))
              unfold Stop
              refine wpList_load_at (by rfl) 33 _ rfl w.heap.size rfl 33 _ (0, 0) _ HX2.out Tryd.underlying33 rfl (by kernel_rfl) ?_
              go_wp2_with fail
              refine (head_Check h _ HT2.out OK.out).mono ?_
              rintro e w5 ⟨rfl, hb⟩
              rw [hc, show errI false = 1 from rfl]
              go_wp2_with fail
              go_ret
              exact ⟨rfl, below_on HB2.out hb⟩
            | true =>
              obtain rfl : r = h := HR.out.symm.trans (by rw [HR.out]; exact g3.out hc)
              go_wp2_with (with_reducible refine stop_load (ty := 33) (x := .tmp 3) ?_ ?_; (· rfl))
              unfold Stop
              refine wpList_load_at (by rfl) 33 _ rfl w.heap.size rfl 33 _ (0, 0) _ HX2.out Tryd.underlying33 rfl (by kernel_rfl) ?_
              go_wp2_with fail
              refine (head_Check _ _ HT2.out OK.out).mono ?_
              rintro e w5 ⟨rfl, hb⟩
              rw [hc, show errI true = 0 from rfl]
              have HZ3 := Lib.hid (HZ.out.below hb)
              have HX3 := Lib.hid (HX2.out.below hb)
              have HB3 := Lib.hid (below_on HB2.out hb)
              clear HZ HX2 HB2 HT2 hb
              go_wp2_with (with_reducible refine stop_load (ty := 33) (x := .tmp 13) ?_ ?_; (· rfl))
              unfold Stop
              refine wpList_load_at (by rfl) 33 _ rfl _ rfl 33 _ (0, 0) _ HZ3.out Tryd.underlying33 rfl (by kernel_rfl) ?_
              go_wp2_with (with_reducible refine stop_load (ty := 33) (x := .tmp 3) ?_ ?_; (· rfl))
              unfold Stop
              refine wpList_load_at (by rfl) 33 _ rfl w.heap.size rfl 33 _ (0, 0) _ HX3.out Tryd.underlying33 rfl (by kernel_rfl) ?_
              go_wp2_with fail
              go_ret
              exact ⟨ret_bool (eqH_self _), HB3.out⟩
        · (try clear hb); go_simp; (refine box_at hdr0 (p := K _) ?_); intro w1 hz hb; have hzB := hHeld.size; refine hK.out _ _ ?_ (fun hHeld => ?_); (· exact hHeld.trans (hb.mono hHeld.size)); clear hK K
          try simp only [Act.put, List.setIfInBounds_toArray, List.set_cons_zero, List.set_cons_succ]
          refine rg_call (i := 4) (atS (atS (atS (atS at0)))) (by kernel_rfl) ?_ (fun K hK => ?_); (· rfl); (try clear hb); go_simp; (refine (HG.out _ (HW.out.below hHeld)).mono ?_; rintro e w1 ⟨rfl, hb⟩); (try replace hz := hz.below hb); go_wp2_with fail; refine hK.out _ _ ?_ (fun hHeld => ?_); (· exact hHeld.trans (hb.mono hHeld.size)); clear hK K
          try simp only [Act.put, List.setIfInBounds_toArray, List.set_cons_zero, List.set_cons_succ]
          refine rg_call (i := 5) (atS (atS (atS (atS (atS at0))))) (by kernel_rfl) ?_ (fun K hK => ?_); (· rfl); (try clear hb); go_simp; (refine (head_With_as HR.out g4.out g5.out _ (HW.out.below hHeld)).mono ?_; rintro e w1 ⟨rfl, hb⟩); (try replace hz := hz.below hb); go_wp2_with fail; refine hK.out _ _ ?_ (fun hHeld => ?_); (· exact hHeld.trans (hb.mono hHeld.size)); clear hK K
          try simp only [Act.put, List.setIfInBounds_toArray, List.set_cons_zero, List.set_cons_succ]
          refine rg_yes (i := 6) (v := ?_) (atS (atS (atS (atS (atS (atS at0)))))) (by kernel_rfl) (by kernel_rfl) (by kernel_rfl) (fun _ _ _ h => h) ?_ ?_ hHeld ?_; rotate_left 1; (· rfl); (· intro w' hSw; (try dsimp only at hSw); (try clear hHeld); go_simp; try with_reducible rfl)
          try simp only [Act.put, List.setIfInBounds_toArray, List.set_cons_zero, List.set_cons_succ]
          refine rg_yes (i := 7) (v := ?_) (atS (atS (atS (atS (atS (atS (atS at0))))))) (by kernel_rfl) (by kernel_rfl) (by kernel_rfl) (fun _ _ _ h => h) ?_ ?_ hHeld ?_; rotate_left 1; (· rfl); (· intro w' hSw; (try dsimp only at hSw); (try clear hHeld); go_simp; try with_reducible rfl)
          try simp only [Act.put, List.setIfInBounds_toArray, List.set_cons_zero, List.set_cons_succ]
          refine rg_yes (i := 8) (v := ?_) (atS (atS (atS (atS (atS (atS (atS (atS at0)))))))) (by kernel_rfl) (by kernel_rfl) (by kernel_rfl) (fun _ _ _ h => h) ?_ ?_ hHeld ?_; rotate_left 1; (· rfl); (· intro w' hSw; (try dsimp only at hSw); (try clear hHeld); go_simp; try with_reducible rfl)
          try simp only [Act.put, List.setIfInBounds_toArray, List.set_cons_zero, List.set_cons_succ]
          refine rg_call (i := 10) (atS (atS (atS (atS (atS (atS (atS (atS (atS (atS at0)))))))))) (by kernel_rfl) ?_ (fun K hK => ?_); (· rfl); (try clear hb); refine wp_store_rowat 33 (.tmp 13) (.tmp 89) rfl _ rfl 33 (hdrC hdr0) (hdrC r) rfl hz (by kernel_rfl) rfl (hdr_one _) ?_; refine hK.out _ _ ?_ (fun hHeld => ?_); (· exact below_setRow hHeld hzB _); clear hK K
          try simp only [Act.put]
          refine rg_yes (i := 11) (v := ?_) (atS (atS (atS (atS (atS (atS (atS (atS (atS (atS (atS at0))))))))))) (by kernel_rfl) (by kernel_rfl) (by kernel_rfl) (fun _ _ _ h => h) ?_ ?_ hHeld ?_; rotate_left 1; (· rfl); (· intro w' hSw; (try dsimp only at hSw); (try clear hHeld); go_simp; try with_reducible rfl)
          try simp only [Act.put, List.setIfInBounds_toArray, List.set_cons_zero, List.set_cons_succ]
          refine wpAnyH_done (by kernel_rfl) ?_ _
          have HZ := Lib.hid (hz.row r)
          have HX2 := Lib.hid (HX.out.below hHeld)
          have HB2 := Lib.hid (below_on HB.out hHeld)
          have HT2 := Lib.hid (HW.out.below hHeld)
          clear hHeld hz HX HB HW HP HG
          cases hc : checkB h with
          | false =>
            go_wp2_with (with_reducible refine stop_load (ty := 33) (x := .tmp 3) ?_ ?_; (· rfl))
            unfold Stop
            refine wpList_load_at (by rfl) 33 _ rfl w.heap.size rfl 33 _ (0, 0) _ HX2.out Tryd.underlying33 rfl (by kernel_rfl) ?_
            go_wp2_with fail
            refine (head_Check h _ HT2.out OK.out).mono ?_
            rintro e w5 ⟨rfl, hb⟩
            rw [hc, show errI false = 1 from rfl]
            go_wp2_with fail
            go_ret
            exact ⟨rfl, below_on HB2.out hb⟩
          | true =>
            obtain rfl : r = h := HR.out.symm.trans (by rw [HR.out]; exact g3.out hc)
            go_wp2_with (with_reducible refine stop_load (ty := 33) (x := .tmp 3) ?_ ?_; (· rfl))
            unfold Stop
            refine wpList_load_at (by rfl) 33 _ rfl w.heap.size rfl 33 _ (0, 0) _ HX2.out Tryd.underlying33 rfl (by kernel_rfl) ?_
            go_wp2_with fail
            refine (head_Check _ _ HT2.out OK.out).mono ?_
            rintro e w5 ⟨rfl, hb⟩
            rw [hc, show errI true = 0 from rfl]
            have HZ3 := Lib.hid (HZ.out.below hb)
            have HX3 := Lib.hid (HX2.out.below hb)
            have HB3 := Lib.hid (below_on HB2.out hb)
            clear HZ HX2 HB2 HT2 hb
            go_wp2_with (with_reducible refine stop_load (ty := 33) (x := .tmp 13) ?_ ?_; (· rfl))
            unfold Stop
            refine wpList_load_at (by rfl) 33 _ rfl _ rfl 33 _ (0, 0) _ HZ3.out Tryd.underlying33 rfl (by kernel_rfl) ?_
            go_wp2_with (with_reducible refine stop_load (ty := 33) (x := .tmp 3) ?_ ?_; (· rfl))
            unfold Stop
            refine wpList_load_at (by rfl) 33 _ rfl w.heap.size rfl 33 _ (0, 0) _ HX3.out Tryd.underlying33 rfl (by kernel_rfl) ?_
            go_wp2_with fail
            go_ret
            exact ⟨ret_bool (eqH_self _), HB3.out⟩
end Go.Proofs.YtbodkbaafaamlaaDoor
