/- Texts of one proof, one behind another. -/
import Derived.Test.YtadlecnlgkhneaaRu12
import Derived.Test.YtadlecnlgkhneaaRu4
/-
  ALL ROUTES OF A PEER: New, Len, Get.
-/
namespace Go.Proofs.Ytadlecnlgkhneaa
open Go.RowKit

set_option maxHeartbeats 1600000 in
set_option maxRecDepth 100000 in
theorem ad_New (peer own most : Int) (w : World) : Calls Try.prog 8 #[.int .i64 peer, .int .i64 own, .int .i64 most] w fun e w' => ∃ rb, e = .returned (.pointer (some ⟨rb, 0, none⟩)) ∧ RibAt w' rb peer own (min (max most 0) 256) [] (fun k => w.heap.size ≤ k ∧ k < w'.heap.size) ∧ Below w.heap.size w w' := by
  have FIN : Hid (∀ m w1, m = min (max most 0) 256 → TrI w1 w.heap.size (fun _ => none) [] (min (max m 0) 4096) → Below w.heap.size w w1 → RibAt (w1.alloc (.cells #[.int .i64 peer, .int .i64 own, .int .i64 m, .pointer (some ⟨w.heap.size, 0, none⟩)] 73)) w1.heap.size peer own (min (max most 0) 256) [] (fun k => w.heap.size ≤ k ∧ k < (w1.alloc (.cells #[.int .i64 peer, .int .i64 own, .int .i64 m, .pointer (some ⟨w.heap.size, 0, none⟩)] 73)).heap.size)) := Lib.hid (by
    intro m w1 hm ht hb
    rw [← hm]
    have e : min (max m 0) 4096 = m := by omega
    rw [e] at ht
    have hlt := ht.lt
    refine ⟨w.heap.size, fun _ => none, [], ⟨heap_alloc_new w1 _, ht.below ((Below.refl _ _).alloc (Nat.le_refl _) _), by simp, by simp, by simp, ?_, ?_, by simp, ?_, by simp, by omega, by omega, by simp; omega⟩, rfl⟩
    · have := hb.size; simp; omega
    · intro b hb'
      rcases hb' with rfl | ⟨k, hk⟩
      · simp; omega
      · cases hk
    · intro x
      rcases x with x | ⟨k, hk⟩
      · omega
      · cases hk)
  have TN := Lib.hid (fun m => trI_New m w)
  go_enter Try.func8, Try.ntmps8
  go_upto_region 2 with (fail)
  all_goals
    go_wp2_with fail
    refine (TN.out _).mono ?_
    rintro e w1 ⟨rfl, T1, hb⟩
    have T := Lib.hid T1
    have HB := Lib.hid hb
    clear T1 hb
    go_wp2_with fail
    go_ret
    exact ⟨_, rfl, FIN.out _ _ (by omega) T.out HB.out, HB.out.alloc HB.out.size _⟩

set_option maxHeartbeats 400000 in
theorem ad_Len {rb : Nat} {peer own most : Int} {R : List (Pf × At)} {F : Nat → Prop} {w : World} (h : RibAt w rb peer own most R F) : Calls Try.prog 11 #[.pointer (some ⟨rb, 0, none⟩)] w fun e w' => e = .returned (.int .i64 R.length) ∧ w = w' := by
  obtain ⟨tb, N, E, hI, rfl⟩ := h
  have c3 := hI.cells.2.2.2
  have LT := Lib.hid (trI_Len hI.tri)
  simp only [List.length_map] at LT ⊢
  clear hI
  go_enter Try.func11, Try.ntmps11
  go_wp2_with fail
  refine LT.out.mono ?_
  rintro e w1 ⟨rfl, rfl⟩
  go_wp2_with fail
  go_ret
  exact ⟨rfl, rfl⟩
set_option maxHeartbeats 400000 in
theorem ad_Len_nil (w : World) : Calls Try.prog 11 #[.pointer none] w fun e w' => e = .returned (.int .i64 0) ∧ w = w' := by
  go_enter Try.func11, Try.ntmps11
  go_wp2_with fail
  go_ret
  exact ⟨rfl, rfl⟩
/-- a route as the program has it. -/
abbrev rtC (peer : Int) (p : Pf) (v : AV) : Array Value := #[.int .i64 peer, .int .u32 p.1, .int .i64 p.2, .int .i64 v.has, .int .i64 v.origin, .slice v.ps v.pn v.pc, .int .u32 v.hop, .int .i64 v.med, .int .i64 v.loc, .int .i64 v.aggrAs, .int .u32 v.aggrId, .slice v.cs v.cn v.cc, .slice v.os v.on v.oc]
theorem rt_one (peer : Int) (p : Pf) (v : AV) : ((rtC peer p v).all (·.oneCell')) = true := by simp [Value.oneCell']
theorem results_GetR (tmps : Array Value) (W : World) (b : Nat) (C : Array Value) (hC : C.size = 13) (c : Bool) (h4 : tmps.getD 4 undef = .pointer (some ⟨b, 0, none⟩)) (h5 : tmps.getD 5 undef = .bool c) (hb : W.heap[b]? = some (.cells C 48 (0, 0))) :
    (results Try.f14 tmps).run Try.prog W = .ok (.tuple #[.agg C, .bool c]) W := by
  have hl := run_loadVar_row (P := Try.prog) W b 48 48 C (0, 0) _ hb Try.underlying48 rfl (by rw [hC]; kernel_rfl)
  unfold results
  rw [Try.results14]
  simp [h4, h5, hl, asAddr, -Array.getD_eq_getD_getElem?]
theorem box_pr (w : World) (a n : Int) : ∃ W0, W0 = (w.alloc (.cells #[.int .u32 a, .int .i64 n] 29)).alloc (.cells #[.int .i64 0, .int .u32 0, .int .i64 0, .int .i64 0, .int .i64 0, .slice none 0 0, .int .u32 0, .int .i64 0, .int .i64 0, .int .i64 0, .int .u32 0, .slice none 0 0, .slice none 0 0] 48) ∧ W0.cell? ⟨w.heap.size, 0, none⟩ = some (.int .u32 a) ∧ W0.cell? ⟨w.heap.size, 1, none⟩ = some (.int .i64 n) ∧ W0.heap[w.heap.size + 1]? = some (.cells (rtC 0 (0, 0) av0) 48 (0, 0)) ∧ Below w.heap.size w W0 := by
  obtain ⟨W0, h1, h2, h3, h4⟩ := boxTwo w #[.int .u32 a, .int .i64 n] 29 (rtC 0 (0, 0) av0) 48
  exact ⟨W0, h1, row_cell h2 0, row_cell h2 1, h3, h4⟩
def GetPost (peer : Int) (R : List (Pf × At)) (p : Pf) (w : World) (e : Ending) (w' : World) : Prop :=
  (getL R p = none ∧ e = .returned (.tuple #[.agg (rtC 0 (0, 0) av0), .bool false]) ∧ Below w.heap.size w w') ∨
  ∃ (a : At) (v : AV), getL R p = some a ∧ e = .returned (.tuple #[.agg (rtC peer p v), .bool true]) ∧ AtSz a ∧ Fresh w.heap.size w' (fun W => AvU W a v) ∧ Below w.heap.size w w'

/-- a block of attributes is made, within a region. -/
theorem box_zk {W : World} {p : World → Prop} (h : ∀ w1 : World, w1.heap[W.heap.size]? = some (.cells av0.C 35 (0, 0)) → Below W.heap.size W w1 → p w1) : p (W.alloc (.cells #[.int .i64 0, .int .i64 0, .slice none 0 0, .int .u32 0, .int .i64 0, .int .i64 0, .int .i64 0, .int .u32 0, .slice none 0 0, .slice none 0 0] 35)) :=
  h _ (heap_alloc_new W _) ((Below.refl _ _).alloc (Nat.le_refl _) _)
theorem setRow_k {W : World} {p : World → Prop} {g : Nat} {old cs : Array Value} {t : TypeId} (hg : W.heap[g]? = some (.cells old t (0, 0))) (h : ∀ w1 : World, w1.heap[g]? = some (.cells cs t (0, 0)) → Kept (fun b => b = g) W w1 → p w1) : p (W.setRow g cs) :=
  h _ (setRow_heap _ _ _ _ _ _ hg) (kept_setRow _ _ rfl)
/-- what the trie's Get answers of any prefix. -/
theorem rib_get {rb tb : Nat} {N : Nat → Option Nat} {E : List Ent} {peer own most : Int} {F : Nat → Prop} (p : Pf) (W : World) (h : RibIn W rb tb N E peer own most F) (hp : OkP p) :
    (findE E p = none → Calls Try.prog 30 #[.pointer (some ⟨tb, 0, none⟩), .agg #[.int .u32 p.1, .int .i64 p.2]] W fun e w' => e = .returned (.tuple #[av0.V, .bool false]) ∧ Below W.heap.size W w') ∧
      ∀ x, findE E p = some x → Calls Try.prog 30 #[.pointer (some ⟨tb, 0, none⟩), .agg #[.int .u32 p.1, .int .i64 p.2]] W fun e w' => e = .returned (.tuple #[x.v.V, .bool true]) ∧ Below W.heap.size W w' := by
  have ht := h.tri
  by_cases hr : rightB p.1 p.2 = true
  · obtain ⟨a, n, rfl, ha, hn, -, hr'⟩ := (show RgtP p from ⟨hp, hr⟩).nat
    have key := find_kvs h.rgt (p := ((a : Int), (n : Int))) ⟨hp, hr⟩
    have G := trI_Get a n W ht ha hr'
    have e1 : pKey ((a : Int), (n : Int)) = keyN a n := rfl
    rw [e1] at key
    refine ⟨fun hn => ?_, fun x hx => ?_⟩
    · rw [hn] at key
      refine G.mono ?_
      rintro e w' ⟨rfl, hb⟩
      exact ⟨(getE_no key).symm, hb⟩
    · rw [hx] at key
      refine G.mono ?_
      rintro e w' ⟨rfl, hb⟩
      exact ⟨(getE_yes key).symm, hb⟩
  · refine ⟨fun _ => trI_Get_no _ p.1 p.2 W hp.1 hp.2 (by simpa using hr), fun x hx => ?_⟩
    obtain ⟨hm, rfl⟩ := findE_mem hx
    exact absurd (h.rgt x hm).2 hr
set_option maxHeartbeats 3200000 in
set_option maxRecDepth 100000 in
theorem ad_Get_in {rb tb : Nat} {N : Nat → Option Nat} {E : List Ent} {peer own most : Int} {F : Nat → Prop} (p : Pf) (w : World) (h : RibIn w rb tb N E peer own most F) (hp : OkP p) :
    Calls Try.prog 14 #[.pointer (some ⟨rb, 0, none⟩), .agg #[.int .u32 p.1, .int .i64 p.2]] w (GetPost peer (rts E) p w) := by
  have hfind := find_rts E p
  have TG := Lib.hid (fun W (hb : Below w.heap.size w W) => rib_get p W (h.below hb) hp)
  have HI := Lib.hid h
  have HL : Hid (rb < w.heap.size) := Lib.hid (row_lt h.row)
  obtain ⟨r0, _, _, r3⟩ := h.cells
  have R0 := Lib.hid r0
  have R3 := Lib.hid r3
  clear h r0 r3
  go_enter Try.func14, Try.ntmps14
  go_upto_region 1 with (fail)
  obtain ⟨W0, hW0, c0, c1, rz, hB⟩ := box_pr w p.1 p.2
  rw [← hW0]; clear hW0
  have RZ := Lib.hid rz
  have HB := Lib.hid hB
  have q3 := cell_below R3.out hB
  clear rz hB
  cases hx : findE E p with
  | none =>
    have GP := Lib.hid (fun W (hb : Below W0.heap.size W0 W) => (TG.out W (below_on HB.out hb)).1 hx)
    have FN : Hid (getL (rts E) p = none) := Lib.hid (by rw [hfind, hx]; rfl)
    clear hx hfind TG
    go_upto_region 3 with (fail)
    go_cut [6, 7] (fun s6 s7 wx => s7 = .bool false ∧ Hid (Below W0.heap.size W0 wx))
    case first =>
      refine wp_region_held_drew (S := fun w' => Below W0.heap.size W0 w') (by kernel_rfl) ?_ (fun hHeld => ?_)
      · exact (Below.refl _ _).drew
      generalize World.drew W0 = wd at hHeld ⊢
      refine rgy (i := 0) (v := ?_) (atN rfl) (by kernel_rfl) (fun _ _ _ h => h) ?_ ?_ hHeld ?_; rotate_left 1; (· rfl); (· intro w' hSw; (try clear hHeld); go_simp; try with_reducible rfl)
      try simp only [Act.put, List.setIfInBounds_toArray, List.set_cons_zero, List.set_cons_succ]
      refine rgy (i := 4) (v := ?_) (atN rfl) (by kernel_rfl) (fun _ _ _ h => h) ?_ ?_ hHeld ?_; rotate_left 1; (· rfl); (· intro w' hSw; have c0 := cell_below c0 hSw; have c1 := cell_below c1 hSw; have q3 := cell_below q3 hSw; (try clear hHeld); go_simp; try with_reducible rfl)
      try simp only [Act.put, List.setIfInBounds_toArray, List.set_cons_zero, List.set_cons_succ]
      refine rg_call2 (i := 1) (j := 9) (atS at0) (atS (atS (atS (atS (atS (atS (atS (atS (atS at0))))))))) (by kernel_rfl) ?_ ?_ (fun K hK => ?_) (fun K hK => ?_)
      · rfl
      · rfl
      · (try clear hb); go_simp; go_wp2_with fail; refine hK.out _ _ ?_ (fun hHeld => ?_); (· exact hHeld); clear hK K
        try simp only [Act.put, List.setIfInBounds_toArray, List.set_cons_zero, List.set_cons_succ]
        refine rgy (i := 2) (v := ?_) (atN rfl) (by kernel_rfl) (fun _ _ _ h => h) ?_ ?_ hHeld ?_; rotate_left 1; (· rfl); (· intro w' hSw; (try clear hHeld); go_simp; try with_reducible rfl)
        try simp only [Act.put, List.setIfInBounds_toArray, List.set_cons_zero, List.set_cons_succ]
        refine rgy (i := 3) (v := ?_) (atN rfl) (by kernel_rfl) (fun _ _ _ h => h) ?_ ?_ hHeld ?_; rotate_left 1; (· rfl); (· intro w' hSw; have c0 := cell_below c0 hSw; have c1 := cell_below c1 hSw; have q3 := cell_below q3 hSw; (try clear hHeld); go_simp; try with_reducible rfl)
        try simp only [Act.put, List.setIfInBounds_toArray, List.set_cons_zero, List.set_cons_succ]
        refine rg_call2 (i := 5) (j := 9) (atS (atS (atS (atS (atS at0))))) (atS (atS (atS (atS (atS (atS (atS (atS (atS at0))))))))) (by kernel_rfl) ?_ ?_ (fun K hK => ?_) (fun K hK => ?_)
        · rfl
        · rfl
        · (try clear hb); go_simp; (refine (GP.out _ hHeld).mono ?_; rintro e w1 ⟨rfl, hb⟩); (try replace hz := (hb.block _ (row_lt hz)).trans hz); go_wp2_with fail; refine hK.out _ _ ?_ (fun hHeld => ?_); (· exact hHeld.trans (hb.mono hHeld.size)); clear hK K
          try simp only [Act.put, List.setIfInBounds_toArray, List.set_cons_zero, List.set_cons_succ]
          refine rgy (i := 6) (v := ?_) (atN rfl) (by kernel_rfl) (fun _ _ _ h => h) ?_ ?_ hHeld ?_; rotate_left 1; (· rfl); (· intro w' hSw; (try clear hHeld); go_simp; try with_reducible rfl)
          try simp only [Act.put, List.setIfInBounds_toArray, List.set_cons_zero, List.set_cons_succ]
          refine rgy (i := 7) (v := ?_) (atN rfl) (by kernel_rfl) (fun _ _ _ h => h) ?_ ?_ hHeld ?_; rotate_left 1; (· rfl); (· intro w' hSw; (try clear hHeld); go_simp; try with_reducible rfl)
          try simp only [Act.put, List.setIfInBounds_toArray, List.set_cons_zero, List.set_cons_succ]
          refine rgy (i := 8) (v := ?_) (atN rfl) (by kernel_rfl) (fun _ _ _ h => h) ?_ ?_ hHeld ?_; rotate_left 1; (· rfl); (· intro w' hSw; (try clear hHeld); go_simp; try with_reducible rfl)
          try simp only [Act.put, List.setIfInBounds_toArray, List.set_cons_zero, List.set_cons_succ]
          refine rg_call (i := 9) (atN rfl) (by kernel_rfl) ?_ (fun K hK => ?_); (· rfl); (try clear hb); go_simp; refine box_zk (p := K _) ?_; intro w1 hz hb; have hgs := hHeld.size; refine hK.out _ _ ?_ (fun hHeld => ?_); (· exact below_on hHeld hb); clear hK K
          try simp only [Act.put, List.setIfInBounds_toArray, List.set_cons_zero, List.set_cons_succ]
          refine rg_call (i := 10) (atN rfl) (by kernel_rfl) ?_ (fun K hK => ?_); (· rfl); (try clear hb); refine wp_store_rowat 35 (.tmp 6) (.tmp 18) rfl _ rfl 35 av0.C _ rfl hz (by kernel_rfl) rfl (AV.one _) ?_; refine setRow_k hz (p := K _) ?_; intro w2 hr hk2; refine hK.out _ _ ?_ (fun hHeld => ?_); (· exact hHeld.trans (hk2.below hHeld.size (by rintro k rfl; exact hgs))); clear hK K
          try simp only [Act.put]
          refine rgy (i := 11) (v := ?_) (atN rfl) (by kernel_rfl) (fun _ _ _ h => h) ?_ ?_ hHeld ?_; rotate_left 1; (· rfl); (· intro w' hSw; (try clear hHeld); go_simp; try with_reducible rfl)
          try simp only [Act.put, List.setIfInBounds_toArray, List.set_cons_zero, List.set_cons_succ]
          refine wpAnyH_done (by kernel_rfl) ?_ _
          go_wp2_with fail
          go_meet
          exact ⟨rfl, Lib.hid hHeld⟩
        · (try clear hb); go_simp; refine box_zk (p := K _) ?_; intro w1 hz hb; have hgs := hHeld.size; refine hK.out _ _ ?_ (fun hHeld => ?_); (· exact below_on hHeld hb); clear hK K
          try simp only [Act.put, List.setIfInBounds_toArray, List.set_cons_zero, List.set_cons_succ]
          refine rg_call (i := 5) (atN rfl) (by kernel_rfl) ?_ (fun K hK => ?_); (· rfl); (try clear hb); go_simp; (refine (GP.out _ hHeld).mono ?_; rintro e w1 ⟨rfl, hb⟩); (try replace hz := (hb.block _ (row_lt hz)).trans hz); go_wp2_with fail; refine hK.out _ _ ?_ (fun hHeld => ?_); (· exact hHeld.trans (hb.mono hHeld.size)); clear hK K
          try simp only [Act.put, List.setIfInBounds_toArray, List.set_cons_zero, List.set_cons_succ]
          refine rgy (i := 6) (v := ?_) (atN rfl) (by kernel_rfl) (fun _ _ _ h => h) ?_ ?_ hHeld ?_; rotate_left 1; (· rfl); (· intro w' hSw; (try clear hHeld); go_simp; try with_reducible rfl)
          try simp only [Act.put, List.setIfInBounds_toArray, List.set_cons_zero, List.set_cons_succ]
          refine rgy (i := 7) (v := ?_) (atN rfl) (by kernel_rfl) (fun _ _ _ h => h) ?_ ?_ hHeld ?_; rotate_left 1; (· rfl); (· intro w' hSw; (try clear hHeld); go_simp; try with_reducible rfl)
          try simp only [Act.put, List.setIfInBounds_toArray, List.set_cons_zero, List.set_cons_succ]
          refine rgy (i := 8) (v := ?_) (atN rfl) (by kernel_rfl) (fun _ _ _ h => h) ?_ ?_ hHeld ?_; rotate_left 1; (· rfl); (· intro w' hSw; (try clear hHeld); go_simp; try with_reducible rfl)
          try simp only [Act.put, List.setIfInBounds_toArray, List.set_cons_zero, List.set_cons_succ]
          refine rg_call (i := 10) (atN rfl) (by kernel_rfl) ?_ (fun K hK => ?_); (· rfl); (try clear hb); refine wp_store_rowat 35 (.tmp 6) (.tmp 18) rfl _ rfl 35 av0.C _ rfl hz (by kernel_rfl) rfl (AV.one _) ?_; refine setRow_k hz (p := K _) ?_; intro w2 hr hk2; refine hK.out _ _ ?_ (fun hHeld => ?_); (· exact hHeld.trans (hk2.below hHeld.size (by rintro k rfl; exact hgs))); clear hK K
          try simp only [Act.put]
          refine rgy (i := 11) (v := ?_) (atN rfl) (by kernel_rfl) (fun _ _ _ h => h) ?_ ?_ hHeld ?_; rotate_left 1; (· rfl); (· intro w' hSw; (try clear hHeld); go_simp; try with_reducible rfl)
          try simp only [Act.put, List.setIfInBounds_toArray, List.set_cons_zero, List.set_cons_succ]
          refine wpAnyH_done (by kernel_rfl) ?_ _
          go_wp2_with fail
          go_meet
          exact ⟨rfl, Lib.hid hHeld⟩
      · (try clear hb); go_simp; refine box_zk (p := K _) ?_; intro w1 hz hb; have hgs := hHeld.size; refine hK.out _ _ ?_ (fun hHeld => ?_); (· exact below_on hHeld hb); clear hK K
        try simp only [Act.put, List.setIfInBounds_toArray, List.set_cons_zero, List.set_cons_succ]
        refine rg_call (i := 1) (atN rfl) (by kernel_rfl) ?_ (fun K hK => ?_); (· rfl); (try clear hb); go_simp; go_wp2_with fail; refine hK.out _ _ ?_ (fun hHeld => ?_); (· exact hHeld); clear hK K
        try simp only [Act.put, List.setIfInBounds_toArray, List.set_cons_zero, List.set_cons_succ]
        refine rgy (i := 2) (v := ?_) (atN rfl) (by kernel_rfl) (fun _ _ _ h => h) ?_ ?_ hHeld ?_; rotate_left 1; (· rfl); (· intro w' hSw; (try clear hHeld); go_simp; try with_reducible rfl)
        try simp only [Act.put, List.setIfInBounds_toArray, List.set_cons_zero, List.set_cons_succ]
        refine rgy (i := 3) (v := ?_) (atN rfl) (by kernel_rfl) (fun _ _ _ h => h) ?_ ?_ hHeld ?_; rotate_left 1; (· rfl); (· intro w' hSw; have c0 := cell_below c0 hSw; have c1 := cell_below c1 hSw; have q3 := cell_below q3 hSw; (try clear hHeld); go_simp; try with_reducible rfl)
        try simp only [Act.put, List.setIfInBounds_toArray, List.set_cons_zero, List.set_cons_succ]
        refine rg_call (i := 5) (atN rfl) (by kernel_rfl) ?_ (fun K hK => ?_); (· rfl); (try clear hb); go_simp; (refine (GP.out _ hHeld).mono ?_; rintro e w1 ⟨rfl, hb⟩); (try replace hz := (hb.block _ (row_lt hz)).trans hz); go_wp2_with fail; refine hK.out _ _ ?_ (fun hHeld => ?_); (· exact hHeld.trans (hb.mono hHeld.size)); clear hK K
        try simp only [Act.put, List.setIfInBounds_toArray, List.set_cons_zero, List.set_cons_succ]
        refine rgy (i := 6) (v := ?_) (atN rfl) (by kernel_rfl) (fun _ _ _ h => h) ?_ ?_ hHeld ?_; rotate_left 1; (· rfl); (· intro w' hSw; (try clear hHeld); go_simp; try with_reducible rfl)
        try simp only [Act.put, List.setIfInBounds_toArray, List.set_cons_zero, List.set_cons_succ]
        refine rgy (i := 7) (v := ?_) (atN rfl) (by kernel_rfl) (fun _ _ _ h => h) ?_ ?_ hHeld ?_; rotate_left 1; (· rfl); (· intro w' hSw; (try clear hHeld); go_simp; try with_reducible rfl)
        try simp only [Act.put, List.setIfInBounds_toArray, List.set_cons_zero, List.set_cons_succ]
        refine rgy (i := 8) (v := ?_) (atN rfl) (by kernel_rfl) (fun _ _ _ h => h) ?_ ?_ hHeld ?_; rotate_left 1; (· rfl); (· intro w' hSw; (try clear hHeld); go_simp; try with_reducible rfl)
        try simp only [Act.put, List.setIfInBounds_toArray, List.set_cons_zero, List.set_cons_succ]
        refine rg_call (i := 10) (atN rfl) (by kernel_rfl) ?_ (fun K hK => ?_); (· rfl); (try clear hb); refine wp_store_rowat 35 (.tmp 6) (.tmp 18) rfl _ rfl 35 av0.C _ rfl hz (by kernel_rfl) rfl (AV.one _) ?_; refine setRow_k hz (p := K _) ?_; intro w2 hr hk2; refine hK.out _ _ ?_ (fun hHeld => ?_); (· exact hHeld.trans (hk2.below hHeld.size (by rintro k rfl; exact hgs))); clear hK K
        try simp only [Act.put]
        refine rgy (i := 11) (v := ?_) (atN rfl) (by kernel_rfl) (fun _ _ _ h => h) ?_ ?_ hHeld ?_; rotate_left 1; (· rfl); (· intro w' hSw; (try clear hHeld); go_simp; try with_reducible rfl)
        try simp only [Act.put, List.setIfInBounds_toArray, List.set_cons_zero, List.set_cons_succ]
        refine wpAnyH_done (by kernel_rfl) ?_ _
        go_wp2_with fail
        go_meet
        exact ⟨rfl, Lib.hid hHeld⟩
    case rest =>
      obtain ⟨rfl, HH⟩ := hcut
      have RZ1 := Lib.hid ((HH.out.block _ (row_lt RZ.out)).trans RZ.out)
      have B1 := Lib.hid (below_on HB.out HH.out)
      obtain ⟨wd, hwd⟩ : ∃ wd : World, wd = wc := ⟨_, rfl⟩
      rw [← hwd] at RZ1 B1 ⊢
      clear hwd c0 c1 q3 HH
      go_wp2_with ((with_reducible refine halt_at (X := .store 48 (.tmp 4) (.tmp 22)) ?_ ?_); (· rfl))
      unfold Halt
      refine st_row rfl 48 _ _ rfl (w.heap.size + 1) rfl 48 (rtC 0 (0, 0) av0) (rtC 0 (0, 0) av0) rfl RZ1.out (by kernel_rfl) rfl (rt_one _ _ _) ?_
      go_wp2_with fail
      refine bodyPost_ret (results_GetR _ _ (w.heap.size + 1) (rtC 0 (0, 0) av0) rfl false ?_ ?_ (setRow_heap _ _ _ _ _ _ RZ1.out)) rfl (.inl ⟨FN.out, rfl, below_setRow B1.out (Nat.le_succ _) _⟩) <;> rfl
  | some x =>
    have GP := Lib.hid (fun W (hb : Below W0.heap.size W0 W) => (TG.out W (below_on HB.out hb)).2 x hx)
    have FN : Hid (getL (rts E) p = some x.a) := Lib.hid (by rw [hfind, hx]; rfl)
    have XM := Lib.hid (findE_mem hx).1
    clear hx hfind TG
    go_upto_region 3 with (fail)
    go_cut [6, 7] (fun s6 s7 wx => ∃ g, s6 = .pointer (some ⟨g, 0, none⟩) ∧ s7 = .bool true ∧ Hid (Below W0.heap.size W0 wx ∧ W0.heap.size ≤ g ∧ wx.heap[g]? = some (.cells x.v.C 35 (0, 0))))
    case first =>
      refine wp_region_held_drew (S := fun w' => Below W0.heap.size W0 w') (by kernel_rfl) ?_ (fun hHeld => ?_)
      · exact (Below.refl _ _).drew
      generalize World.drew W0 = wd at hHeld ⊢
      refine rgy (i := 0) (v := ?_) (atN rfl) (by kernel_rfl) (fun _ _ _ h => h) ?_ ?_ hHeld ?_; rotate_left 1; (· rfl); (· intro w' hSw; (try clear hHeld); go_simp; try with_reducible rfl)
      try simp only [Act.put, List.setIfInBounds_toArray, List.set_cons_zero, List.set_cons_succ]
      refine rgy (i := 4) (v := ?_) (atN rfl) (by kernel_rfl) (fun _ _ _ h => h) ?_ ?_ hHeld ?_; rotate_left 1; (· rfl); (· intro w' hSw; have c0 := cell_below c0 hSw; have c1 := cell_below c1 hSw; have q3 := cell_below q3 hSw; (try clear hHeld); go_simp; try with_reducible rfl)
      try simp only [Act.put, List.setIfInBounds_toArray, List.set_cons_zero, List.set_cons_succ]
      refine rg_call2 (i := 1) (j := 9) (atS at0) (atS (atS (atS (atS (atS (atS (atS (atS (atS at0))))))))) (by kernel_rfl) ?_ ?_ (fun K hK => ?_) (fun K hK => ?_)
      · rfl
      · rfl
      · (try clear hb); go_simp; go_wp2_with fail; refine hK.out _ _ ?_ (fun hHeld => ?_); (· exact hHeld); clear hK K
        try simp only [Act.put, List.setIfInBounds_toArray, List.set_cons_zero, List.set_cons_succ]
        refine rgy (i := 2) (v := ?_) (atN rfl) (by kernel_rfl) (fun _ _ _ h => h) ?_ ?_ hHeld ?_; rotate_left 1; (· rfl); (· intro w' hSw; (try clear hHeld); go_simp; try with_reducible rfl)
        try simp only [Act.put, List.setIfInBounds_toArray, List.set_cons_zero, List.set_cons_succ]
        refine rgy (i := 3) (v := ?_) (atN rfl) (by kernel_rfl) (fun _ _ _ h => h) ?_ ?_ hHeld ?_; rotate_left 1; (· rfl); (· intro w' hSw; have c0 := cell_below c0 hSw; have c1 := cell_below c1 hSw; have q3 := cell_below q3 hSw; (try clear hHeld); go_simp; try with_reducible rfl)
        try simp only [Act.put, List.setIfInBounds_toArray, List.set_cons_zero, List.set_cons_succ]
        refine rg_call2 (i := 5) (j := 9) (atS (atS (atS (atS (atS at0))))) (atS (atS (atS (atS (atS (atS (atS (atS (atS at0))))))))) (by kernel_rfl) ?_ ?_ (fun K hK => ?_) (fun K hK => ?_)
        · rfl
        · rfl
        · (try clear hb); go_simp; (refine (GP.out _ hHeld).mono ?_; rintro e w1 ⟨rfl, hb⟩); (try replace hz := (hb.block _ (row_lt hz)).trans hz); go_wp2_with fail; refine hK.out _ _ ?_ (fun hHeld => ?_); (· exact hHeld.trans (hb.mono hHeld.size)); clear hK K
          try simp only [Act.put, List.setIfInBounds_toArray, List.set_cons_zero, List.set_cons_succ]
          refine rgy (i := 6) (v := ?_) (atN rfl) (by kernel_rfl) (fun _ _ _ h => h) ?_ ?_ hHeld ?_; rotate_left 1; (· rfl); (· intro w' hSw; (try clear hHeld); go_simp; try with_reducible rfl)
          try simp only [Act.put, List.setIfInBounds_toArray, List.set_cons_zero, List.set_cons_succ]
          refine rgy (i := 7) (v := ?_) (atN rfl) (by kernel_rfl) (fun _ _ _ h => h) ?_ ?_ hHeld ?_; rotate_left 1; (· rfl); (· intro w' hSw; (try clear hHeld); go_simp; try with_reducible rfl)
          try simp only [Act.put, List.setIfInBounds_toArray, List.set_cons_zero, List.set_cons_succ]
          refine rgy (i := 8) (v := ?_) (atN rfl) (by kernel_rfl) (fun _ _ _ h => h) ?_ ?_ hHeld ?_; rotate_left 1; (· rfl); (· intro w' hSw; (try clear hHeld); go_simp; try with_reducible rfl)
          try simp only [Act.put, List.setIfInBounds_toArray, List.set_cons_zero, List.set_cons_succ]
          refine rg_call (i := 9) (atN rfl) (by kernel_rfl) ?_ (fun K hK => ?_); (· rfl); (try clear hb); go_simp; refine box_zk (p := K _) ?_; intro w1 hz hb; have hgs := hHeld.size; refine hK.out _ _ ?_ (fun hHeld => ?_); (· exact below_on hHeld hb); clear hK K
          try simp only [Act.put, List.setIfInBounds_toArray, List.set_cons_zero, List.set_cons_succ]
          refine rg_call (i := 10) (atN rfl) (by kernel_rfl) ?_ (fun K hK => ?_); (· rfl); (try clear hb); refine wp_store_rowat 35 (.tmp 6) (.tmp 18) rfl _ rfl 35 av0.C _ rfl hz (by kernel_rfl) rfl (AV.one _) ?_; refine setRow_k hz (p := K _) ?_; intro w2 hr hk2; refine hK.out _ _ ?_ (fun hHeld => ?_); (· exact hHeld.trans (hk2.below hHeld.size (by rintro k rfl; exact hgs))); clear hK K
          try simp only [Act.put]
          refine rgy (i := 11) (v := ?_) (atN rfl) (by kernel_rfl) (fun _ _ _ h => h) ?_ ?_ hHeld ?_; rotate_left 1; (· rfl); (· intro w' hSw; (try clear hHeld); go_simp; try with_reducible rfl)
          try simp only [Act.put, List.setIfInBounds_toArray, List.set_cons_zero, List.set_cons_succ]
          refine wpAnyH_done (by kernel_rfl) ?_ _
          go_wp2_with fail
          go_meet
          exact ⟨_, rfl, rfl, Lib.hid ⟨hHeld, hgs, hr⟩⟩
        · (try clear hb); go_simp; refine box_zk (p := K _) ?_; intro w1 hz hb; have hgs := hHeld.size; refine hK.out _ _ ?_ (fun hHeld => ?_); (· exact below_on hHeld hb); clear hK K
          try simp only [Act.put, List.setIfInBounds_toArray, List.set_cons_zero, List.set_cons_succ]
          refine rg_call (i := 5) (atN rfl) (by kernel_rfl) ?_ (fun K hK => ?_); (· rfl); (try clear hb); go_simp; (refine (GP.out _ hHeld).mono ?_; rintro e w1 ⟨rfl, hb⟩); (try replace hz := (hb.block _ (row_lt hz)).trans hz); go_wp2_with fail; refine hK.out _ _ ?_ (fun hHeld => ?_); (· exact hHeld.trans (hb.mono hHeld.size)); clear hK K
          try simp only [Act.put, List.setIfInBounds_toArray, List.set_cons_zero, List.set_cons_succ]
          refine rgy (i := 6) (v := ?_) (atN rfl) (by kernel_rfl) (fun _ _ _ h => h) ?_ ?_ hHeld ?_; rotate_left 1; (· rfl); (· intro w' hSw; (try clear hHeld); go_simp; try with_reducible rfl)
          try simp only [Act.put, List.setIfInBounds_toArray, List.set_cons_zero, List.set_cons_succ]
          refine rgy (i := 7) (v := ?_) (atN rfl) (by kernel_rfl) (fun _ _ _ h => h) ?_ ?_ hHeld ?_; rotate_left 1; (· rfl); (· intro w' hSw; (try clear hHeld); go_simp; try with_reducible rfl)
          try simp only [Act.put, List.setIfInBounds_toArray, List.set_cons_zero, List.set_cons_succ]
          refine rgy (i := 8) (v := ?_) (atN rfl) (by kernel_rfl) (fun _ _ _ h => h) ?_ ?_ hHeld ?_; rotate_left 1; (· rfl); (· intro w' hSw; (try clear hHeld); go_simp; try with_reducible rfl)
          try simp only [Act.put, List.setIfInBounds_toArray, List.set_cons_zero, List.set_cons_succ]
          refine rg_call (i := 10) (atN rfl) (by kernel_rfl) ?_ (fun K hK => ?_); (· rfl); (try clear hb); refine wp_store_rowat 35 (.tmp 6) (.tmp 18) rfl _ rfl 35 av0.C _ rfl hz (by kernel_rfl) rfl (AV.one _) ?_; refine setRow_k hz (p := K _) ?_; intro w2 hr hk2; refine hK.out _ _ ?_ (fun hHeld => ?_); (· exact hHeld.trans (hk2.below hHeld.size (by rintro k rfl; exact hgs))); clear hK K
          try simp only [Act.put]
          refine rgy (i := 11) (v := ?_) (atN rfl) (by kernel_rfl) (fun _ _ _ h => h) ?_ ?_ hHeld ?_; rotate_left 1; (· rfl); (· intro w' hSw; (try clear hHeld); go_simp; try with_reducible rfl)
          try simp only [Act.put, List.setIfInBounds_toArray, List.set_cons_zero, List.set_cons_succ]
          refine wpAnyH_done (by kernel_rfl) ?_ _
          go_wp2_with fail
          go_meet
          exact ⟨_, rfl, rfl, Lib.hid ⟨hHeld, hgs, hr⟩⟩
      · (try clear hb); go_simp; refine box_zk (p := K _) ?_; intro w1 hz hb; have hgs := hHeld.size; refine hK.out _ _ ?_ (fun hHeld => ?_); (· exact below_on hHeld hb); clear hK K
        try simp only [Act.put, List.setIfInBounds_toArray, List.set_cons_zero, List.set_cons_succ]
        refine rg_call (i := 1) (atN rfl) (by kernel_rfl) ?_ (fun K hK => ?_); (· rfl); (try clear hb); go_simp; go_wp2_with fail; refine hK.out _ _ ?_ (fun hHeld => ?_); (· exact hHeld); clear hK K
        try simp only [Act.put, List.setIfInBounds_toArray, List.set_cons_zero, List.set_cons_succ]
        refine rgy (i := 2) (v := ?_) (atN rfl) (by kernel_rfl) (fun _ _ _ h => h) ?_ ?_ hHeld ?_; rotate_left 1; (· rfl); (· intro w' hSw; (try clear hHeld); go_simp; try with_reducible rfl)
        try simp only [Act.put, List.setIfInBounds_toArray, List.set_cons_zero, List.set_cons_succ]
        refine rgy (i := 3) (v := ?_) (atN rfl) (by kernel_rfl) (fun _ _ _ h => h) ?_ ?_ hHeld ?_; rotate_left 1; (· rfl); (· intro w' hSw; have c0 := cell_below c0 hSw; have c1 := cell_below c1 hSw; have q3 := cell_below q3 hSw; (try clear hHeld); go_simp; try with_reducible rfl)
        try simp only [Act.put, List.setIfInBounds_toArray, List.set_cons_zero, List.set_cons_succ]
        refine rg_call (i := 5) (atN rfl) (by kernel_rfl) ?_ (fun K hK => ?_); (· rfl); (try clear hb); go_simp; (refine (GP.out _ hHeld).mono ?_; rintro e w1 ⟨rfl, hb⟩); (try replace hz := (hb.block _ (row_lt hz)).trans hz); go_wp2_with fail; refine hK.out _ _ ?_ (fun hHeld => ?_); (· exact hHeld.trans (hb.mono hHeld.size)); clear hK K
        try simp only [Act.put, List.setIfInBounds_toArray, List.set_cons_zero, List.set_cons_succ]
        refine rgy (i := 6) (v := ?_) (atN rfl) (by kernel_rfl) (fun _ _ _ h => h) ?_ ?_ hHeld ?_; rotate_left 1; (· rfl); (· intro w' hSw; (try clear hHeld); go_simp; try with_reducible rfl)
        try simp only [Act.put, List.setIfInBounds_toArray, List.set_cons_zero, List.set_cons_succ]
        refine rgy (i := 7) (v := ?_) (atN rfl) (by kernel_rfl) (fun _ _ _ h => h) ?_ ?_ hHeld ?_; rotate_left 1; (· rfl); (· intro w' hSw; (try clear hHeld); go_simp; try with_reducible rfl)
        try simp only [Act.put, List.setIfInBounds_toArray, List.set_cons_zero, List.set_cons_succ]
        refine rgy (i := 8) (v := ?_) (atN rfl) (by kernel_rfl) (fun _ _ _ h => h) ?_ ?_ hHeld ?_; rotate_left 1; (· rfl); (· intro w' hSw; (try clear hHeld); go_simp; try with_reducible rfl)
        try simp only [Act.put, List.setIfInBounds_toArray, List.set_cons_zero, List.set_cons_succ]
        refine rg_call (i := 10) (atN rfl) (by kernel_rfl) ?_ (fun K hK => ?_); (· rfl); (try clear hb); refine wp_store_rowat 35 (.tmp 6) (.tmp 18) rfl _ rfl 35 av0.C _ rfl hz (by kernel_rfl) rfl (AV.one _) ?_; refine setRow_k hz (p := K _) ?_; intro w2 hr hk2; refine hK.out _ _ ?_ (fun hHeld => ?_); (· exact hHeld.trans (hk2.below hHeld.size (by rintro k rfl; exact hgs))); clear hK K
        try simp only [Act.put]
        refine rgy (i := 11) (v := ?_) (atN rfl) (by kernel_rfl) (fun _ _ _ h => h) ?_ ?_ hHeld ?_; rotate_left 1; (· rfl); (· intro w' hSw; (try clear hHeld); go_simp; try with_reducible rfl)
        try simp only [Act.put, List.setIfInBounds_toArray, List.set_cons_zero, List.set_cons_succ]
        refine wpAnyH_done (by kernel_rfl) ?_ _
        go_wp2_with fail
        go_meet
        exact ⟨_, rfl, rfl, Lib.hid ⟨hHeld, hgs, hr⟩⟩
    case rest =>
      obtain ⟨g, rfl, rfl, HH⟩ := hcut
      have rz0 := (HH.out.1.block _ (row_lt RZ.out)).trans RZ.out
      have B1 := Lib.hid (below_on HB.out HH.out.1)
      have RG := Lib.hid HH.out.2.2
      have NE0 : Hid (¬ w.heap.size = w.heap.size + 1) := Lib.hid (by omega)
      have NE1 : Hid (¬ rb = w.heap.size + 1) := Lib.hid (by have := HL.out; omega)
      have NE2 : Hid (¬ g = w.heap.size + 1) := Lib.hid (by have := HH.out.2.1; have := row_lt RZ.out; omega)
      have c0 := cell_below c0 HH.out.1
      have c1 := cell_below c1 HH.out.1
      have SZ := Lib.hid (HI.out.szs x XM.out)
      have ON := Lib.hid (HI.out.ent x XM.out).2
      obtain ⟨wd, hwd⟩ : ∃ wd : World, wd = wc := ⟨_, rfl⟩
      rw [← hwd] at rz0 B1 RG c0 c1 ⊢
      clear hwd q3 HH RZ
      have q0 : wd.cell? ⟨rb, 0, none⟩ = some (.int .i64 peer) := (B1.out.cell (p := ⟨rb, 0, none⟩) HL.out).trans R0.out
      have CL : Hid (∀ W, Kept (fun b => b = w.heap.size + 1) wd W → Calls Try.prog 16 #[x.v.V] W fun e w' => ∃ u : AV, e = .returned u.V ∧ Fresh W.heap.size w' (fun W => AvU W x.a u) ∧ Below W.heap.size W w') := Lib.hid (fun W hk => av_CloneU x.a x.v W ((ON.out.below (B1.out.trans (hk.below B1.out.size (by rintro k rfl; omega)))).self) SZ.out)
      have rz : wd.drew.heap[w.heap.size + 1]? = some (.cells (rtC 0 (0, 0) av0) 48 (0, 0)) := rz0
      have WZ := Lib.hid (row_lt rz0)
      clear rz0
      go_wp2_with fail
      refine wp_region_held_drew (S := fun w1 => Kept (fun b => b = w.heap.size + 1) wd w1) (by kernel_rfl) ?_ (fun hHeld => ?_)
      · exact (Kept.refl _ _).drew
      generalize World.drew wd = wg at rz hHeld ⊢
      refine rgy (i := 0) (v := ?_) (atN rfl) (by kernel_rfl) (fun _ _ _ h => h) ?_ ?_ hHeld ?_; rotate_left 1; (· rfl); (· intro w' hSw; (try clear hHeld); go_simp; try with_reducible rfl)
      try simp only [Act.put, List.setIfInBounds_toArray, List.set_cons_zero, List.set_cons_succ]
      refine rgy (i := 4) (v := ?_) (atN rfl) (by kernel_rfl) (fun _ _ _ h => h) ?_ ?_ hHeld ?_; rotate_left 1; (· rfl); (· intro w' hSw; have c0 := hSw.cell c0 NE0.out; have c1 := hSw.cell c1 NE0.out; have q0 := hSw.cell q0 NE1.out; (try clear hHeld); go_simp; try with_reducible rfl)
      try simp only [Act.put, List.setIfInBounds_toArray, List.set_cons_zero, List.set_cons_succ]
      refine rgy (i := 5) (v := ?_) (atN rfl) (by kernel_rfl) (fun _ _ _ h => h) ?_ ?_ hHeld ?_; rotate_left 1; (· rfl); (· intro w' hSw; refine exec_ld 35 (.tmp 6) ?_ g ?_ 35 x.v.C (0, 0) _ ((hSw.block _ (row_lt RG.out) NE2.out).trans RG.out) Try.underlying35 rfl (by kernel_rfl) <;> rfl)
      try simp only [Act.put, List.setIfInBounds_toArray, List.set_cons_zero, List.set_cons_succ]
      refine rg_call2 (i := 1) (j := 6) (atS at0) (atS (atS (atS (atS (atS (atS at0)))))) (by kernel_rfl) ?_ ?_ (fun K hK => ?_) (fun K hK => ?_)
      · rfl
      · rfl
      · (try clear hb); go_simp; go_wp2_with fail; refine hK.out _ _ ?_ (fun hHeld => ?_); (· exact hHeld); clear hK K
        try simp only [Act.put, List.setIfInBounds_toArray, List.set_cons_zero, List.set_cons_succ]
        refine rgy (i := 2) (v := ?_) (atN rfl) (by kernel_rfl) (fun _ _ _ h => h) ?_ ?_ hHeld ?_; rotate_left 1; (· rfl); (· intro w' hSw; (try clear hHeld); go_simp; try with_reducible rfl)
        try simp only [Act.put, List.setIfInBounds_toArray, List.set_cons_zero, List.set_cons_succ]
        refine rgy (i := 3) (v := ?_) (atN rfl) (by kernel_rfl) (fun _ _ _ h => h) ?_ ?_ hHeld ?_; rotate_left 1; (· rfl); (· intro w' hSw; have c0 := hSw.cell c0 NE0.out; have c1 := hSw.cell c1 NE0.out; have q0 := hSw.cell q0 NE1.out; (try clear hHeld); go_simp; try with_reducible rfl)
        try simp only [Act.put, List.setIfInBounds_toArray, List.set_cons_zero, List.set_cons_succ]
        refine rg_call (i := 6) (atN rfl) (by kernel_rfl) ?_ (fun K hK => ?_); (· rfl); (try clear hb); go_simp; have hcs := hHeld.size; refine (CL.out _ hHeld).mono ?_; rintro e w1 ⟨u, rfl, fr, hb⟩; have FR := Lib.hid fr; clear fr; replace rz := (hb.block _ (row_lt rz)).trans rz; go_wp2_with fail; refine hK.out _ _ ?_ (fun hHeld => ?_); (· exact hHeld.grow hb); clear hK K
        try simp only [Act.put, List.setIfInBounds_toArray, List.set_cons_zero, List.set_cons_succ]
        refine rgy (i := 7) (v := ?_) (atN rfl) (by kernel_rfl) (fun _ _ _ h => h) ?_ ?_ hHeld ?_; rotate_left 1; (· rfl); (· intro w' hSw; (try clear hHeld); go_simp; try with_reducible rfl)
        try simp only [Act.put, List.setIfInBounds_toArray, List.set_cons_zero, List.set_cons_succ]
        refine rg_call (i := 8) (atN rfl) (by kernel_rfl) ?_ (fun K hK => ?_); (· rfl); (try clear hb); refine wp_store_rowat 48 (.tmp 4) (.tmp 30) rfl (w.heap.size + 1) rfl 48 (rtC 0 (0, 0) av0) (rtC peer p u) rfl rz (by kernel_rfl) rfl (rt_one _ _ _) ?_; refine setRow_k rz (p := K _) ?_; intro w2 hr hk2; refine hK.out _ _ ?_ (fun hHeld => ?_); (· exact hHeld.trans hk2); clear hK K
        try simp only [Act.put]
        refine rgy (i := 9) (v := ?_) (atN rfl) (by kernel_rfl) (fun _ _ _ h => h) ?_ ?_ hHeld ?_; rotate_left 1; (· rfl); (· intro w' hSw; (try clear hHeld); go_simp; try with_reducible rfl)
        try simp only [Act.put, List.setIfInBounds_toArray, List.set_cons_zero, List.set_cons_succ]
        refine wpAnyH_done (by kernel_rfl) ?_ _
        go_wp2_with fail
        refine bodyPost_ret (results_GetR _ _ (w.heap.size + 1) (rtC peer p u) rfl true ?_ ?_ hr) rfl (.inr ⟨x.a, u, FN.out, rfl, SZ.out, (FR.out.kept hk2 (fun k _ hl e => by have := WZ.out; omega)).wide (fun k hk _ => by have := WZ.out; omega), B1.out.trans (hHeld.below B1.out.size (by rintro k rfl; omega))⟩) <;> rfl
      · (try clear hb); go_simp; have hcs := hHeld.size; refine (CL.out _ hHeld).mono ?_; rintro e w1 ⟨u, rfl, fr, hb⟩; have FR := Lib.hid fr; clear fr; replace rz := (hb.block _ (row_lt rz)).trans rz; go_wp2_with fail; refine hK.out _ _ ?_ (fun hHeld => ?_); (· exact hHeld.grow hb); clear hK K
        try simp only [Act.put, List.setIfInBounds_toArray, List.set_cons_zero, List.set_cons_succ]
        refine rg_call (i := 1) (atN rfl) (by kernel_rfl) ?_ (fun K hK => ?_); (· rfl); (try clear hb); go_simp; go_wp2_with fail; refine hK.out _ _ ?_ (fun hHeld => ?_); (· exact hHeld); clear hK K
        try simp only [Act.put, List.setIfInBounds_toArray, List.set_cons_zero, List.set_cons_succ]
        refine rgy (i := 2) (v := ?_) (atN rfl) (by kernel_rfl) (fun _ _ _ h => h) ?_ ?_ hHeld ?_; rotate_left 1; (· rfl); (· intro w' hSw; (try clear hHeld); go_simp; try with_reducible rfl)
        try simp only [Act.put, List.setIfInBounds_toArray, List.set_cons_zero, List.set_cons_succ]
        refine rgy (i := 3) (v := ?_) (atN rfl) (by kernel_rfl) (fun _ _ _ h => h) ?_ ?_ hHeld ?_; rotate_left 1; (· rfl); (· intro w' hSw; have c0 := hSw.cell c0 NE0.out; have c1 := hSw.cell c1 NE0.out; have q0 := hSw.cell q0 NE1.out; (try clear hHeld); go_simp; try with_reducible rfl)
        try simp only [Act.put, List.setIfInBounds_toArray, List.set_cons_zero, List.set_cons_succ]
        refine rgy (i := 7) (v := ?_) (atN rfl) (by kernel_rfl) (fun _ _ _ h => h) ?_ ?_ hHeld ?_; rotate_left 1; (· rfl); (· intro w' hSw; (try clear hHeld); go_simp; try with_reducible rfl)
        try simp only [Act.put, List.setIfInBounds_toArray, List.set_cons_zero, List.set_cons_succ]
        refine rg_call (i := 8) (atN rfl) (by kernel_rfl) ?_ (fun K hK => ?_); (· rfl); (try clear hb); refine wp_store_rowat 48 (.tmp 4) (.tmp 30) rfl (w.heap.size + 1) rfl 48 (rtC 0 (0, 0) av0) (rtC peer p u) rfl rz (by kernel_rfl) rfl (rt_one _ _ _) ?_; refine setRow_k rz (p := K _) ?_; intro w2 hr hk2; refine hK.out _ _ ?_ (fun hHeld => ?_); (· exact hHeld.trans hk2); clear hK K
        try simp only [Act.put]
        refine rgy (i := 9) (v := ?_) (atN rfl) (by kernel_rfl) (fun _ _ _ h => h) ?_ ?_ hHeld ?_; rotate_left 1; (· rfl); (· intro w' hSw; (try clear hHeld); go_simp; try with_reducible rfl)
        try simp only [Act.put, List.setIfInBounds_toArray, List.set_cons_zero, List.set_cons_succ]
        refine wpAnyH_done (by kernel_rfl) ?_ _
        go_wp2_with fail
        refine bodyPost_ret (results_GetR _ _ (w.heap.size + 1) (rtC peer p u) rfl true ?_ ?_ hr) rfl (.inr ⟨x.a, u, FN.out, rfl, SZ.out, (FR.out.kept hk2 (fun k _ hl e => by have := WZ.out; omega)).wide (fun k hk _ => by have := WZ.out; omega), B1.out.trans (hHeld.below B1.out.size (by rintro k rfl; omega))⟩) <;> rfl
theorem ad_Get {rb : Nat} {peer own most : Int} {R : List (Pf × At)} {F : Nat → Prop} (p : Pf) (w : World) (h : RibAt w rb peer own most R F) (hp : OkP p) :
    Calls Try.prog 14 #[.pointer (some ⟨rb, 0, none⟩), .agg #[.int .u32 p.1, .int .i64 p.2]] w (GetPost peer R p w) := by
  obtain ⟨tb, N, E, hI, rfl⟩ := h
  exact ad_Get_in p w hI hp
end Go.Proofs.Ytadlecnlgkhneaa

/-
  ALL ROUTES OF A PEER: what Drop and Put of the trie make of it.
-/
namespace Go.Proofs.Ytadlecnlgkhneaa
open Go.RowKit
theorem own_lt {w : World} {B k n : Nat} {e : TypeId} {v : Value} {xs : List Value} (h : w.ownsRow B e k v n xs) : ∀ g, v.ownBlock = some g → g < w.heap.size := by
  obtain ⟨_, ⟨rfl, _⟩ | ⟨g, cap, cur, rfl, _, hg, _⟩⟩ := h
  · intro g hg; cases hg
  · intro g' hg'; cases hg'; exact row_lt hg
theorem OwnPs.kept {w w' : World} {B : Nat} {v : Value} {xs : List Pf} {F : Nat → Prop} (h : OwnPs w B v xs) (hk : Kept F w w') (hF : ∀ g, v.ownBlock = some g → ¬ F g) : OwnPs w' B v xs :=
  ⟨((own_on h.1).kept hk fun k _ hl => hF k hl).self, h.2⟩
theorem psAt_new (W : World) (x : Pf) (T : TypeId) (hx : OkP x) : PsAt (W.alloc (.cells #[.int .u32 x.1, .int .i64 x.2] T)) (.slice (some ⟨W.heap.size, 0, none⟩) 1 1) [x] := by
  refine ⟨_, 1, rfl, Nat.le_refl _, by simp [maxLen], fun _ => ⟨W.heap.size, 0, rfl, fun i y hy => ?_⟩⟩
  match i, hy with
  | 0, hy =>
    simp at hy
    subst hy
    refine ⟨encP x, rfl, ⟨rfl, hx⟩, fun j c hc => ?_⟩
    rw [row_cell (heap_alloc_new W _)]
    simpa [encP] using hc
theorem Kept.belowOn {F : Nat → Prop} {w w1 w2 : World} (h : Kept F w w1) (hb : Below w.heap.size w1 w2) : Kept F w w2 :=
  ⟨hb.os.trans h.os, hb.tape.trans h.tape, hb.output.trans h.output, Nat.le_trans h.size hb.size, fun k hk hf => (hb.block k hk).trans (h.block k hk hf)⟩
theorem turn_none {R : Rts} {E : List Ent} {ns : List Pf} {a : At} {x : Pf} (hg : getL R x = getL (rts E) x) (hf : findE E x = none) : turnB R ns a x = decide (x ∈ ns) := by
  unfold turnB
  rw [hg, find_rts, hf]
  rfl
theorem turn_some {R : Rts} {E : List Ent} {ns : List Pf} {a : At} {x : Pf} {e : Ent} (hg : getL R x = getL (rts E) x) (hf : findE E x = some e) : turnB R ns a x = (!(decide (x ∈ ns)) || !(sameA e.a a)) := by
  unfold turnB
  rw [hg, find_rts, hf]
  rfl
section
variable {rb tb : Nat} {N : Nat → Option Nat} {E : List Ent} {peer own most : Int} {F : Nat → Prop}
theorem rib_drop (p : Pf) (W : World) (h : RibIn W rb tb N E peer own most F) (hp : RgtP p) :
    Calls Try.prog 32 #[.pointer (some ⟨tb, 0, none⟩), .agg #[.int .u32 p.1, .int .i64 p.2]] W fun e w' => ∃ N' c, e = .returned (.bool c) ∧ RibIn w' rb tb N' (delE E p) peer own most F ∧ Kept (TOwn tb N) W w' := by
  have hp0 := hp
  obtain ⟨a, n, rfl, ha, hn, -, hr'⟩ := hp.nat
  have hl : (kvs E).length ≤ 4096 := by rw [List.length_map]; have := h.room; have := h.most1; omega
  refine (trI_Drop a n W h.tri hl ha hr').mono ?_
  rintro e w' ⟨N', rfl, ht, hs, hk⟩
  exact ⟨N', _, rfl, h.drop hp0 ht hs hk, hk⟩
theorem rib_put (p : Pf) (a : At) (v : AV) (lo : Nat) (W : World) (h : RibIn W rb tb N E peer own most F) (hp : RgtP p) (hz : AtSz a) (hon : Fresh lo W (fun W => AvAt W a v)) (hlo : ∀ b, TOwn tb N b ∨ b = rb → b < lo) (hr : ((delE E p).length : Int) + 1 ≤ most) :
    Calls Try.prog 33 #[.pointer (some ⟨tb, 0, none⟩), .agg #[.int .u32 p.1, .int .i64 p.2], v.V] W fun e w' => ∃ N' c, e = .returned (.int .i64 c) ∧ RibIn w' rb tb N' (delE E p ++ [⟨p, a, v, lo, W.heap.size⟩]) peer own most (fun b => (F b ∨ (lo ≤ b ∧ b < W.heap.size)) ∨ (W.heap.size ≤ b ∧ b < w'.heap.size)) ∧ Kept (TOwn tb N) W w' := by
  have hp0 := hp
  obtain ⟨x, n, rfl, ha, hn, -, hr'⟩ := hp.nat
  have key := find_kvs h.rgt hp0
  have m1 := h.most1
  have R : putR (kvs E) most (keyN x n) v = (0, delL (kvs E) (keyN x n) ++ [(keyN x n, v)]) := by
    cases hg : getL (kvs E) (keyN x n) with
    | none =>
      refine putR_new hg ?_
      have e : delE E ((x : Int), (n : Int)) = E := by
        unfold delE
        rw [List.filter_eq_self]
        intro e he
        simp only [Bool.not_eq_true', decide_eq_false_iff_not]
        intro hx
        have : findE E ((x : Int), (n : Int)) = none := by
          have k2 : getL (kvs E) (pKey ((x : Int), (n : Int))) = none := hg
          rw [key] at k2
          simpa using k2
        unfold findE at this
        rw [List.find?_eq_none] at this
        exact this e he (by simpa using hx)
      rw [e] at hr
      rw [List.length_map]
      omega
    | some u => exact putR_old (by rw [hg]; rfl)
  refine (trI_Put x n v W h.tri (by omega) ha hr').mono ?_
  rintro e w' ⟨N', rfl, ht, hs, hk⟩
  rw [R] at ht
  refine ⟨N', _, rfl, ?_, hk⟩
  have hw : RibIn W rb tb N E peer own most (fun b => F b ∨ (lo ≤ b ∧ b < W.heap.size)) := h.wide fun k hk => .inl hk
  exact hw.put hp0 hz (hon.wide fun k hk hl => ⟨hk, hl⟩) (Nat.le_refl _) (fun b hb hx => by have := hlo b hb; omega) (fun k h1 h2 => .inr ⟨h1, h2⟩) ht hs.2 hk hr
theorem rib_put2 {F0 : Nat → Prop} {w0 : Nat} (p : Pf) (a : At) (v : AV) (lo : Nat) (W W1 : World) (h : RibIn W1 rb tb N E peer own most F) (hb : Below W1.heap.size W1 W) (hF : ∀ b, F b → F0 b ∨ (w0 ≤ b ∧ b < W1.heap.size)) (hw0 : w0 ≤ W1.heap.size)
    (hp : RgtP p) (hz : AtSz a) (hlo : W1.heap.size ≤ lo) (hon : Fresh lo W (fun W => AvAt W a v)) (hr : (E.length : Int) + 1 ≤ most) :
    Calls Try.prog 33 #[.pointer (some ⟨tb, 0, none⟩), .agg #[.int .u32 p.1, .int .i64 p.2], v.V] W fun e w' => ∃ N' E' F' c, e = .returned (.int .i64 c) ∧ RibIn w' rb tb N' E' peer own most F' ∧ rts E' = putP (rts E) p a ∧ (∀ b, F' b → F0 b ∨ (w0 ≤ b ∧ b < w'.heap.size)) ∧ Kept (TOwn tb N) W w' := by
  have hd : (delE E p).length ≤ E.length := List.length_filter_le ..
  refine (rib_put p a v lo W (h.below hb) hp hz hon (fun b hb' => ?_) (by omega)).mono ?_
  · have := row_lt h.row
    rcases hb' with hb' | rfl
    · have := h.tri.own_lt hb'; omega
    · omega
  · rintro e w' ⟨N', c, rfl, hi, hk⟩
    refine ⟨N', _, _, c, rfl, hi, ?_, ?_, hk⟩
    · rw [rts, List.map_append]
      unfold putP
      rw [del_rts]
      rfl
    · have h1 := hk.size
      have h2 := hb.size
      rintro b ((hb | hb) | hb)
      · exact (hF b hb).imp_right fun h => by omega
      · exact .inr (by omega)
      · exact .inr (by omega)
end
/-- how many routes there are on the way. -/
theorem put_room {R : Rts} {said ns : List Pf} {a : At} {most : Int} {k : Nat} (hs : Srt ns) (hsub : ∀ p ∈ ns, p ∈ said) (hk : k < ns.length) (hc : ((dropAll R said).length : Int) + ns.length ≤ most) {E : List Ent} (hE : rts E = putAll (dropAll R said) (ns.take k) a) : (E.length : Int) + 1 ≤ most := by
  have h1 := len_putAll a (ns.take k) (dropAll R said) ((srt_nodup hs).sublist (List.take_sublist k ns)) (fun p hp => by
    rw [getL_dropAll, if_pos (hsub p (List.mem_of_mem_take hp))])
  rw [← hE, List.length_map, List.length_take] at h1
  omega
end Go.Proofs.Ytadlecnlgkhneaa
