/- Texts of one proof, one behind another. -/
import Derived.Test.YtkoidahgbbabiaaGreatSf9
import Derived.Test.YtkoidahgbbabiaaGreatSf2
import Derived.Deep.QuietTactic
import Derived.BigQuiet
import Derived.Deep.CutBlock
import Derived.Shelf.GgSortFunc.RowK
import Derived.Lib.SliceRun
import Derived.Shelf.SlGeneric
import Derived.Shelf.SlSortCmp.NoneTotal
import Derived.Ground.SlsfProg
import Derived.Test.YtkoidahgbbabiaaGreatProg
import Derived.Test.YtkoidahgbbabiaaGreatSf6
import Derived.Test.YtkoidahgbbabiaaGreatSf1
/-
  SETS OF PREFIXES: slices.Clone, BinarySearchFunc, Equal, CompareFunc over prefixes.
-/
namespace Go.Proofs.YtkoidahgbbabiaaGreat
open Go.RowKit
theorem info_pref : (Tryz.prog.info? 53).map (fun i => (i.zero, i.size, i.bytes)) = some (some (.agg #[.int .u32 0, .int .i64 0]), 2, 16) := by kernel_rfl
set_option maxHeartbeats 1600000 in
set_option maxRecDepth 100000 in
theorem sl_ClonePf (sa : Option Addr) (n cap : Nat) (cs : List Value) (w : World) (hl : cs.length = n * 2) (hn : n ≤ maxLen) (hc : 0 < n → ∃ b off, sa = some ⟨b, off, none⟩ ∧ ∀ q u, cs[q]? = some u → w.cell? ⟨b, off + q, none⟩ = some u)
    (h1 : ∀ u ∈ cs, u.oneCell' = true) (hb : n * 16 ≤ 140737488351232) : Calls Tryz.prog 95 #[.slice sa n cap] w fun e w' => ∃ v', e = .returned v' ∧ w'.ownsRow w.heap.size 53 2 v' n cs ∧ Below w.heap.size w w' := by
  obtain ⟨i0, hii, hz0, hz1, hz2⟩ := info_parts info_pref
  have HC := Lib.hid hc
  have HL := Lib.hid hl
  have H1 := Lib.hid h1
  unfold maxLen at hn
  clear hc hl h1
  go_enter Tryz.func95, Tryz.ntmps95
  cases sa with
  | none =>
    obtain rfl : n = 0 := by
      by_cases h0 : 0 < n
      · obtain ⟨b, off, h, _⟩ := HC.out h0
        cases h
      · omega
    obtain rfl : cs = [] := List.length_eq_zero_iff.1 (by have := HL.out; omega)
    have EQ := Lib.run_eql_slice_nil (P := Tryz.prog) w 23 53 none 0 cap 0 0 Tryz.underlying23
    simp only [Option.isNone_none] at EQ
    go_wp2_with fail
    go_ret
    exact ⟨_, rfl, ⟨by simp, .inl ⟨rfl, rfl⟩⟩, Below.refl _ _⟩
  | some a =>
    have CC : Hid (∀ q u, cs[q]? = some u → w.cell? (a.add q) = some u) := Lib.hid (by
      intro q u hq
      by_cases h0 : 0 < n
      · obtain ⟨b, off, h, h2⟩ := HC.out h0
        injection h with h
        subst h
        have e : (⟨b, off, none⟩ : Addr).add q = ⟨b, off + q, none⟩ := by
          unfold Addr.add
          split
          · next h => rw [h]; simp
          · rfl
        rw [e]
        exact h2 q u hq
      · have := (List.getElem?_eq_some_iff.1 hq).1
        rw [HL.out] at this
        have : n = 0 := by omega
        subst this
        omega)
    clear HC
    have OE := Lib.hid (own_empty (w := w) (B := w.heap.size) (e := 53) (k := 2) (Nat.le_refl _))
    have EQ := Lib.run_eql_slice_nil (P := Tryz.prog) w 23 53 (some a) n cap 0 0 Tryz.underlying23
    simp only [Option.isNone_some] at EQ
    go_wp2_with (at_builtin; refine wpList_append_own _ rfl _ _ 23 rfl w.heap.size 53 i0 _ 2 16 Tryz.underlying23 hii hz0 hz1 hz2 rfl (by decide) _ 0 [] rfl OE.out a n cap cs rfl HL.out (fun q u hq => cell_below (CC.out q u hq) ((Below.refl _ _).alloc (Nat.le_refl _) _)) H1.out (by unfold maxLen; omega) (by omega) (by simp) ?_)
    intro v' w' hown hgrow _
    have OW : Hid (w'.ownsRow w.heap.size 53 2 v' n cs) := Lib.hid (by simpa using hown)
    have BW : Hid (Below w.heap.size w w') := Lib.hid (((Below.refl _ _).alloc (Nat.le_refl _) _).grown hgrow (by simp) (fun g hg => by cases hg; exact Nat.le_refl _))
    clear hown hgrow
    go_wp2_with fail
    go_ret
    exact ⟨_, rfl, OW.out, BW.out⟩
def OwnPs (w : World) (B : Nat) (v : Value) (xs : List Pf) : Prop := w.ownsRow B 53 2 v xs.length (xs.flatMap encP) ∧ ∀ p ∈ xs, OkP p
theorem OwnPs.at {w : World} {B : Nat} {v : Value} {xs : List Pf} (h : OwnPs w B v xs) : PsAt w v xs := (own_slat encP_len h.1).imp fun _ _ hx hc => ⟨hc, h.2 _ hx⟩
theorem OwnPs.below {w w' : World} {B : Nat} {v : Value} {xs : List Pf} (h : OwnPs w B v xs) (hb : Below w.heap.size w w') : OwnPs w' B v xs := ⟨own_below h.1 hb, h.2⟩
theorem ps_Clone (v : Value) (xs : List Pf) (w : World) (h : PsAt w v xs) (hb : xs.length * 16 ≤ 140737488351232) :
    Calls Tryz.prog 95 #[v] w fun e w' => ∃ v', e = .returned v' ∧ OwnPs w' w.heap.size v' xs ∧ Below w.heap.size w w' := by
  have hok := ps_ok h
  obtain ⟨sa, cap, rfl, h2, h3, h4⟩ := h
  refine (sl_ClonePf sa xs.length cap (xs.flatMap encP) w (flat_len encP_len xs) (by omega) (fun h0 => ?_) (flat_one encP_one xs) hb).mono ?_
  · obtain ⟨b, off, h5, h6⟩ := h4 h0
    refine ⟨b, off, h5, fun q u hq => ?_⟩
    have hql := (List.getElem?_eq_some_iff.1 hq).1
    rw [flat_len encP_len] at hql
    have hi : q / 2 < xs.length := by omega
    have hf := flat_get encP_len xs (q / 2) _ (List.getElem?_eq_getElem hi) (q % 2) (by omega)
    have e : q / 2 * 2 + q % 2 = q := by omega
    rw [e, hq] at hf
    obtain ⟨cs, -, ⟨rfl, -⟩, hc⟩ := h6 (q / 2) _ (List.getElem?_eq_getElem hi)
    have := hc (q % 2) u hf.symm
    rw [Nat.add_assoc, e] at this
    exact this
  · rintro e w' ⟨v', rfl, ho, hb⟩
    exact ⟨v', rfl, ⟨ho, hok⟩, hb⟩
def BsPost (xs : List Pf) (p : Pf) (w : World) (e : Ending) (w' : World) : Prop := ∃ i : Nat, e = .returned (.tuple #[.int .i64 i, .bool (decide (p ∈ xs))]) ∧ i ≤ xs.length ∧ (p ∈ xs → xs[i]? = some p) ∧ Below w.heap.size w w'
def Lows (xs : List Pf) (p : Pf) (i j : Nat) : Prop := (∀ (k : Nat) (x : Pf), k < i → xs[k]? = some x → plt x p) ∧ ∀ (k : Nat) (x : Pf), j ≤ k → xs[k]? = some x → ¬ plt x p
theorem lows_start (xs : List Pf) (p : Pf) : Lows xs p 0 xs.length := ⟨fun k x h => by omega, fun k x h hx => by have := (List.getElem?_eq_some_iff.1 hx).1; omega⟩
theorem lows_up {xs : List Pf} {p x : Pf} {i j h : Nat} (hs : Srt xs) (hL : Lows xs p i j) (hx : xs[h]? = some x) (hlt : plt x p) : Lows xs p (h + 1) j := by
  refine ⟨fun k y hk hy => ?_, hL.2⟩
  by_cases e : k = h
  · subst e; rw [hx] at hy; obtain rfl := Option.some.inj hy; exact hlt
  · exact plt_trans (srt_lt hs hy hx (by omega)) hlt
theorem lows_down {xs : List Pf} {p x : Pf} {i j h : Nat} (hs : Srt xs) (hL : Lows xs p i j) (hx : xs[h]? = some x) (hlt : ¬ plt x p) : Lows xs p i h := by
  refine ⟨hL.1, fun k y hk hy => ?_⟩
  by_cases e : k = h
  · subst e; rw [hx] at hy; obtain rfl := Option.some.inj hy; exact hlt
  · exact fun h2 => hlt (plt_trans (srt_lt hs hx hy (by omega)) h2)
theorem lows_not {xs : List Pf} {p x : Pf} {i : Nat} (hs : Srt xs) (hL : Lows xs p i i) (hx : xs[i]? = some x) (hne : x ≠ p) : p ∉ xs := by
  intro hp
  obtain ⟨k, hk⟩ := List.mem_iff_getElem?.1 hp
  by_cases h1 : k < i
  · exact plt_irrefl _ (hL.1 k p h1 hk)
  · by_cases e : k = i
    · subst e; rw [hx] at hk; exact hne (Option.some.inj hk)
    · exact hL.2 i x (Nat.le_refl _) hx (srt_lt hs hx hk (by omega))
theorem lows_over {xs : List Pf} {p : Pf} (hL : Lows xs p xs.length xs.length) : p ∉ xs := by
  intro hp
  obtain ⟨k, hk⟩ := List.mem_iff_getElem?.1 hp
  exact plt_irrefl _ (hL.1 k p (List.getElem?_eq_some_iff.1 hk).1 hk)
set_option maxHeartbeats 3200000 in
set_option maxRecDepth 100000 in
theorem ps_Search (v : Value) (xs : List Pf) (p : Pf) (w : World) (h : PsAt w v xs) (hs : Srt xs) :
    Calls Tryz.prog 98 #[v, .agg #[.int .u32 p.1, .int .i64 p.2], .func (.func 22) #[] #[]] w (BsPost xs p w) := by
  obtain ⟨sa, cap, rfl, hlc, hcm, hV⟩ := h
  have HV := Lib.hid hV
  have HS := Lib.hid hs
  unfold maxLen at hcm
  clear hV hs
  go_enter Tryz.func98, Tryz.ntmps98
  go_wp2_with fail
  obtain ⟨W0, hW0, c0, c1, hB⟩ := box2 w (.int .u32 p.1) (.int .i64 p.2) 53
  rw [← hW0]
  clear hW0
  have C0 := Lib.hid c0
  have C1 := Lib.hid c1
  have L0 := Lib.hid (lows_start xs p)
  clear c0 c1
  go_loopw [9, 10] (fun i j wr => ∃ a b : Nat, a ≤ b ∧ b ≤ xs.length ∧ i = .int .i64 a ∧ j = .int .i64 b ∧ Hid (Lows xs p a b) ∧ Hid (Below W0.heap.size W0 wr)) (fun i j _ => (intOf j).toNat - (intOf i).toNat)
  case atStart => exact ⟨0, xs.length, by omega, by omega, rfl, rfl, L0, Lib.hid (Below.refl _ _)⟩
  case round =>
    obtain ⟨a, b, hab, hbl, rfl, rfl, L, B⟩ := hrel
    by_cases hlt : a < b
    · have j0 : decide ((a : Int) < (b : Int)) = true := by simpa using hlt
      have eh : wrap64 (IntKind.u64.wrap (wrap64 ((a : Int) + (b : Int))) / 2) = ((((a + b) / 2 : Nat)) : Int) := by
        have e2 : IntKind.u64.wrap (wrap64 ((a : Int) + (b : Int))) = (a : Int) + b := by
          simp [IntKind.wrap, IntKind.bits, IntKind.signed, wrap64]
          omega
        rw [e2]
        unfold wrap64; omega
      have EH := Lib.hid eh
      clear eh
      go_wp2_with fail
      rw [EH.out]
      obtain ⟨m, hm⟩ : ∃ m, (a + b) / 2 = m := ⟨_, rfl⟩
      rw [hm]
      have m0 : a ≤ m := by omega
      have m1 : m < b := by omega
      clear hm EH
      obtain ⟨x, hx⟩ : ∃ x, xs[m]? = some x := ⟨_, List.getElem?_eq_getElem (by omega)⟩
      obtain ⟨bb, off, hsa, hP⟩ := HV.out (by omega)
      subst hsa
      obtain ⟨x0, x1⟩ := ps_two hP hx
      have x0 := (B.out.cell (size_lt (cell_below x0 hB))).trans (cell_below x0 hB)
      have x1 := (B.out.cell (size_lt (cell_below x1 hB))).trans (cell_below x1 hB)
      have c0 := (B.out.cell (size_lt C0.out)).trans C0.out
      have c1 := (B.out.cell (size_lt C1.out)).trans C1.out
      have n0 : (0 : Int) ≤ (m : Int) := by omega
      have n1 : (m : Int) < (xs.length : Int) := by omega
      have HX := Lib.hid hx
      clear hP hx
      have PC := Lib.hid (fun (W : World) => ps_Cmp x p W)
      by_cases hp : plt x p
      · have PB : Hid (decide (pcmp x p < 0) = true) := Lib.hid (by simpa using pcmp_lt.2 hp)
        have L2 := Lib.hid (lows_up HS.out L.out HX.out hp)
        generalize pcmp x p = c at PC PB
        have hpb := PB.out
        clear PB hp
        refine wp_region_held_drew (S := fun w' => Below wr.heap.size wr w') (by kernel_rfl) ?_ (fun hHeld => ?_)
        · exact (Below.refl _ _).drew
        refine rg_yes (i := 0) (v := ?_) at0 (by kernel_rfl) (by kernel_rfl) (by kernel_rfl) (fun _ _ _ h => h) ?_ ?_ hHeld ?_; rotate_left 1; (· rfl); (· intro w' hSw; (try dsimp only at hSw); (try clear hHeld); go_simp; try with_reducible rfl)
        try simp only [zp1, zp3, zp4, zp5]
        refine rg_yes (i := 1) (v := ?_) (atS at0) (by kernel_rfl) (by kernel_rfl) (by kernel_rfl) (fun _ _ _ h => h) ?_ ?_ hHeld ?_; rotate_left 1; (· rfl); (· intro w' hSw; (try dsimp only at hSw); (try clear hHeld); go_simp; try with_reducible rfl)
        try simp only [zp1, zp3, zp4, zp5]
        refine rg_yes (i := 2) (v := ?_) (atS (atS at0)) (by kernel_rfl) (by kernel_rfl) (by kernel_rfl) (fun _ _ _ h => h) ?_ ?_ hHeld ?_; rotate_left 1; (· rfl); (· intro w' hSw; (try dsimp only at hSw); (try clear hHeld); go_simp; try with_reducible rfl)
        try simp only [zp1, zp3, zp4, zp5]
        refine rg_yes (i := 3) (v := ?_) (atS (atS (atS at0))) (by kernel_rfl) (by kernel_rfl) (by kernel_rfl) (fun _ _ _ h => h) ?_ ?_ hHeld ?_; rotate_left 1; (· rfl); (· intro w' hSw; (try dsimp only at hSw); have x0 := cell_below x0 hSw; have x1 := cell_below x1 hSw; have c0 := cell_below c0 hSw; have c1 := cell_below c1 hSw; (try clear hHeld); go_simp; try with_reducible rfl)
        try simp only [zp1, zp3, zp4, zp5]
        refine rg_yes (i := 4) (v := ?_) (atS (atS (atS (atS at0)))) (by kernel_rfl) (by kernel_rfl) (by kernel_rfl) (fun _ _ _ h => h) ?_ ?_ hHeld ?_; rotate_left 1; (· rfl); (· intro w' hSw; (try dsimp only at hSw); have x0 := cell_below x0 hSw; have x1 := cell_below x1 hSw; have c0 := cell_below c0 hSw; have c1 := cell_below c1 hSw; (try clear hHeld); go_simp; try with_reducible rfl)
        try simp only [zp1, zp3, zp4, zp5]
        refine rg_yes (i := 5) (v := ?_) (atS (atS (atS (atS (atS at0))))) (by kernel_rfl) (by kernel_rfl) (by kernel_rfl) (fun _ _ _ h => h) ?_ ?_ hHeld ?_; rotate_left 1; (· rfl); (· intro w' hSw; (try dsimp only at hSw); have x0 := cell_below x0 hSw; have x1 := cell_below x1 hSw; have c0 := cell_below c0 hSw; have c1 := cell_below c1 hSw; (try clear hHeld); go_simp; try with_reducible rfl)
        try simp only [zp1, zp3, zp4, zp5]
        refine rg_call (i := 6) (atS (atS (atS (atS (atS (atS at0)))))) (by kernel_rfl) ?_ (fun K hK => ?_); (· rfl); (try clear hb); go_simp; (refine (PC.out _).mono ?_; rintro e w1 ⟨rfl, hb⟩); go_wp2_with fail; refine hK.out _ _ ?_ (fun hHeld => ?_); (· exact hHeld.trans (hb.mono hHeld.size)); clear hK K
        try simp only [zp1, zp3, zp4, zp5]
        refine rg_yes (i := 7) (v := ?_) (atS (atS (atS (atS (atS (atS (atS at0))))))) (by kernel_rfl) (by kernel_rfl) (by kernel_rfl) (fun _ _ _ h => h) ?_ ?_ hHeld ?_; rotate_left 1; (· rfl); (· intro w' hSw; (try dsimp only at hSw); (try clear hHeld); go_simp; try with_reducible rfl)
        try simp only [zp1, zp3, zp4, zp5]
        refine wpAnyH_done (by kernel_rfl) ?_ _
        have B2 := Lib.hid (below_on B.out hHeld)
        clear hHeld hb
        go_wp2_with fail
        exact ⟨⟨m + 1, b, by omega, by omega, by go_num, rfl, L2, B2⟩, by simp [intOf]; omega⟩
      · have PB : Hid (decide (pcmp x p < 0) = false) := Lib.hid (by simpa using fun h => hp (pcmp_lt.1 h))
        have L2 := Lib.hid (lows_down HS.out L.out HX.out hp)
        generalize pcmp x p = c at PC PB
        have hpb := PB.out
        clear PB hp
        refine wp_region_held_drew (S := fun w' => Below wr.heap.size wr w') (by kernel_rfl) ?_ (fun hHeld => ?_)
        · exact (Below.refl _ _).drew
        refine rg_yes (i := 0) (v := ?_) at0 (by kernel_rfl) (by kernel_rfl) (by kernel_rfl) (fun _ _ _ h => h) ?_ ?_ hHeld ?_; rotate_left 1; (· rfl); (· intro w' hSw; (try dsimp only at hSw); (try clear hHeld); go_simp; try with_reducible rfl)
        try simp only [zp1, zp3, zp4, zp5]
        refine rg_yes (i := 1) (v := ?_) (atS at0) (by kernel_rfl) (by kernel_rfl) (by kernel_rfl) (fun _ _ _ h => h) ?_ ?_ hHeld ?_; rotate_left 1; (· rfl); (· intro w' hSw; (try dsimp only at hSw); (try clear hHeld); go_simp; try with_reducible rfl)
        try simp only [zp1, zp3, zp4, zp5]
        refine rg_yes (i := 2) (v := ?_) (atS (atS at0)) (by kernel_rfl) (by kernel_rfl) (by kernel_rfl) (fun _ _ _ h => h) ?_ ?_ hHeld ?_; rotate_left 1; (· rfl); (· intro w' hSw; (try dsimp only at hSw); (try clear hHeld); go_simp; try with_reducible rfl)
        try simp only [zp1, zp3, zp4, zp5]
        refine rg_yes (i := 3) (v := ?_) (atS (atS (atS at0))) (by kernel_rfl) (by kernel_rfl) (by kernel_rfl) (fun _ _ _ h => h) ?_ ?_ hHeld ?_; rotate_left 1; (· rfl); (· intro w' hSw; (try dsimp only at hSw); have x0 := cell_below x0 hSw; have x1 := cell_below x1 hSw; have c0 := cell_below c0 hSw; have c1 := cell_below c1 hSw; (try clear hHeld); go_simp; try with_reducible rfl)
        try simp only [zp1, zp3, zp4, zp5]
        refine rg_yes (i := 4) (v := ?_) (atS (atS (atS (atS at0)))) (by kernel_rfl) (by kernel_rfl) (by kernel_rfl) (fun _ _ _ h => h) ?_ ?_ hHeld ?_; rotate_left 1; (· rfl); (· intro w' hSw; (try dsimp only at hSw); have x0 := cell_below x0 hSw; have x1 := cell_below x1 hSw; have c0 := cell_below c0 hSw; have c1 := cell_below c1 hSw; (try clear hHeld); go_simp; try with_reducible rfl)
        try simp only [zp1, zp3, zp4, zp5]
        refine rg_yes (i := 5) (v := ?_) (atS (atS (atS (atS (atS at0))))) (by kernel_rfl) (by kernel_rfl) (by kernel_rfl) (fun _ _ _ h => h) ?_ ?_ hHeld ?_; rotate_left 1; (· rfl); (· intro w' hSw; (try dsimp only at hSw); have x0 := cell_below x0 hSw; have x1 := cell_below x1 hSw; have c0 := cell_below c0 hSw; have c1 := cell_below c1 hSw; (try clear hHeld); go_simp; try with_reducible rfl)
        try simp only [zp1, zp3, zp4, zp5]
        refine rg_call (i := 6) (atS (atS (atS (atS (atS (atS at0)))))) (by kernel_rfl) ?_ (fun K hK => ?_); (· rfl); (try clear hb); go_simp; (refine (PC.out _).mono ?_; rintro e w1 ⟨rfl, hb⟩); go_wp2_with fail; refine hK.out _ _ ?_ (fun hHeld => ?_); (· exact hHeld.trans (hb.mono hHeld.size)); clear hK K
        try simp only [zp1, zp3, zp4, zp5]
        refine rg_yes (i := 7) (v := ?_) (atS (atS (atS (atS (atS (atS (atS at0))))))) (by kernel_rfl) (by kernel_rfl) (by kernel_rfl) (fun _ _ _ h => h) ?_ ?_ hHeld ?_; rotate_left 1; (· rfl); (· intro w' hSw; (try dsimp only at hSw); (try clear hHeld); go_simp; try with_reducible rfl)
        try simp only [zp1, zp3, zp4, zp5]
        refine wpAnyH_done (by kernel_rfl) ?_ _
        have B2 := Lib.hid (below_on B.out hHeld)
        clear hHeld hb
        go_wp2_with fail
        exact ⟨⟨a, m, by omega, by omega, rfl, rfl, L2, B2⟩, by simp [intOf]; omega⟩
    · obtain rfl : a = b := by omega
      have j0 : decide ((a : Int) < (a : Int)) = false := by simp
      by_cases hin : a < xs.length
      · obtain ⟨x, hx⟩ : ∃ x, xs[a]? = some x := ⟨_, List.getElem?_eq_getElem hin⟩
        obtain ⟨bb, off, hsa, hP⟩ := HV.out (by omega)
        subst hsa
        obtain ⟨x0, x1⟩ := ps_two hP hx
        have x0 := (B.out.cell (size_lt (cell_below x0 hB))).trans (cell_below x0 hB)
        have x1 := (B.out.cell (size_lt (cell_below x1 hB))).trans (cell_below x1 hB)
        have c0 := (B.out.cell (size_lt C0.out)).trans C0.out
        have c1 := (B.out.cell (size_lt C1.out)).trans C1.out
        have n0 : (0 : Int) ≤ (a : Int) := by omega
        have n1 : (a : Int) < (xs.length : Int) := by omega
        have j1 : decide ((a : Int) < (xs.length : Int)) = true := by simpa using hin
        have HX := Lib.hid hx
        clear hP hx
        have PC := Lib.hid (fun (W : World) => ps_Cmp x p W)
        have PB : Hid ((pcmp x p == 0) = decide (p ∈ xs)) := Lib.hid (by
          by_cases e : x = p
          · have h1 : pcmp x p = 0 := pcmp_eq.2 e
            rw [h1]
            have : p ∈ xs := e ▸ List.mem_of_getElem? HX.out
            simp [this]
          · have h1 : pcmp x p ≠ 0 := fun h => e (pcmp_eq.1 h)
            have := lows_not HS.out L.out HX.out e
            simp [this, h1])
        have PX : Hid (p ∈ xs → xs[a]? = some p) := Lib.hid (fun hmem => by
          by_cases e : x = p
          · rw [← e]; exact HX.out
          · exact absurd hmem (lows_not HS.out L.out HX.out e))
        clear HX L
        generalize pcmp x p = c at PC PB
        generalize hd : decide (p ∈ xs) = d at PB
        have HD := Lib.hid hd
        have hpb := PB.out
        clear PB hd
        go_wp2_with fail
        refine wp_region_held_drew (S := fun w' => Below wr.heap.size wr w') (by kernel_rfl) ?_ (fun hHeld => ?_)
        · exact (Below.refl _ _).drew
        refine rg_yes (i := 0) (v := ?_) at0 (by kernel_rfl) (by kernel_rfl) (by kernel_rfl) (fun _ _ _ h => h) ?_ ?_ hHeld ?_; rotate_left 1; (· rfl); (· intro w' hSw; (try dsimp only at hSw); (try clear hHeld); go_simp; try with_reducible rfl)
        try simp only [zp1, zp3, zp4, zp5]
        refine rg_yes (i := 1) (v := ?_) (atS at0) (by kernel_rfl) (by kernel_rfl) (by kernel_rfl) (fun _ _ _ h => h) ?_ ?_ hHeld ?_; rotate_left 1; (· rfl); (· intro w' hSw; (try dsimp only at hSw); (try clear hHeld); go_simp; try with_reducible rfl)
        try simp only [zp1, zp3, zp4, zp5]
        refine rg_yes (i := 2) (v := ?_) (atS (atS at0)) (by kernel_rfl) (by kernel_rfl) (by kernel_rfl) (fun _ _ _ h => h) ?_ ?_ hHeld ?_; rotate_left 1; (· rfl); (· intro w' hSw; (try dsimp only at hSw); (try clear hHeld); go_simp; try with_reducible rfl)
        try simp only [zp1, zp3, zp4, zp5]
        refine rg_yes (i := 3) (v := ?_) (atS (atS (atS at0))) (by kernel_rfl) (by kernel_rfl) (by kernel_rfl) (fun _ _ _ h => h) ?_ ?_ hHeld ?_; rotate_left 1; (· rfl); (· intro w' hSw; (try dsimp only at hSw); (try clear hHeld); go_simp; try with_reducible rfl)
        try simp only [zp1, zp3, zp4, zp5]
        refine rg_yes (i := 4) (v := ?_) (atS (atS (atS (atS at0)))) (by kernel_rfl) (by kernel_rfl) (by kernel_rfl) (fun _ _ _ h => h) ?_ ?_ hHeld ?_; rotate_left 1; (· rfl); (· intro w' hSw; (try dsimp only at hSw); (try clear hHeld); go_simp; try with_reducible rfl)
        try simp only [zp1, zp3, zp4, zp5]
        first | (refine rg_no (i := 5) (atS (atS (atS (atS (atS at0))))) (by kernel_rfl) (by kernel_rfl) (by kernel_rfl) (fun _ _ _ h => h) ?_ hHeld ?_; (· rfl)) | (refine rg_yes (i := 5) (v := ?_) (atS (atS (atS (atS (atS at0))))) (by kernel_rfl) (by kernel_rfl) (by kernel_rfl) (fun _ _ _ h => h) ?_ ?_ hHeld ?_; rotate_left 1; (· rfl); (· intro w' hSw; (try dsimp only at hSw); (try clear hHeld); go_simp; try with_reducible rfl))
        try simp only [zp1, zp3, zp4, zp5]
        first | (refine rg_no (i := 6) (atS (atS (atS (atS (atS (atS at0)))))) (by kernel_rfl) (by kernel_rfl) (by kernel_rfl) (fun _ _ _ h => h) ?_ hHeld ?_; (· rfl)) | (refine rg_yes (i := 6) (v := ?_) (atS (atS (atS (atS (atS (atS at0)))))) (by kernel_rfl) (by kernel_rfl) (by kernel_rfl) (fun _ _ _ h => h) ?_ ?_ hHeld ?_; rotate_left 1; (· rfl); (· intro w' hSw; (try dsimp only at hSw); (try clear hHeld); go_simp; try with_reducible rfl))
        try simp only [zp1, zp3, zp4, zp5]
        first | (refine rg_no (i := 7) (atS (atS (atS (atS (atS (atS (atS at0))))))) (by kernel_rfl) (by kernel_rfl) (by kernel_rfl) (fun _ _ _ h => h) ?_ hHeld ?_; (· rfl)) | (refine rg_yes (i := 7) (v := ?_) (atS (atS (atS (atS (atS (atS (atS at0))))))) (by kernel_rfl) (by kernel_rfl) (by kernel_rfl) (fun _ _ _ h => h) ?_ ?_ hHeld ?_; rotate_left 1; (· rfl); (· intro w' hSw; (try dsimp only at hSw); (try clear hHeld); go_simp; try with_reducible rfl))
        try simp only [zp1, zp3, zp4, zp5]
        first | (refine rg_no (i := 8) (atS (atS (atS (atS (atS (atS (atS (atS at0)))))))) (by kernel_rfl) (by kernel_rfl) (by kernel_rfl) (fun _ _ _ h => h) ?_ hHeld ?_; (· rfl)) | (refine rg_yes (i := 8) (v := ?_) (atS (atS (atS (atS (atS (atS (atS (atS at0)))))))) (by kernel_rfl) (by kernel_rfl) (by kernel_rfl) (fun _ _ _ h => h) ?_ ?_ hHeld ?_; rotate_left 1; (· rfl); (· intro w' hSw; (try dsimp only at hSw); have x0 := cell_below x0 hSw; have x1 := cell_below x1 hSw; have c0 := cell_below c0 hSw; have c1 := cell_below c1 hSw; (try clear hHeld); go_simp; try with_reducible rfl))
        try simp only [zp1, zp3, zp4, zp5]
        first | (refine rg_no (i := 9) (atS (atS (atS (atS (atS (atS (atS (atS (atS at0))))))))) (by kernel_rfl) (by kernel_rfl) (by kernel_rfl) (fun _ _ _ h => h) ?_ hHeld ?_; (· rfl)) | (refine rg_yes (i := 9) (v := ?_) (atS (atS (atS (atS (atS (atS (atS (atS (atS at0))))))))) (by kernel_rfl) (by kernel_rfl) (by kernel_rfl) (fun _ _ _ h => h) ?_ ?_ hHeld ?_; rotate_left 1; (· rfl); (· intro w' hSw; (try dsimp only at hSw); have x0 := cell_below x0 hSw; have x1 := cell_below x1 hSw; have c0 := cell_below c0 hSw; have c1 := cell_below c1 hSw; (try clear hHeld); go_simp; try with_reducible rfl))
        try simp only [zp1, zp3, zp4, zp5]
        first | (refine rg_no (i := 10) (atS (atS (atS (atS (atS (atS (atS (atS (atS (atS at0)))))))))) (by kernel_rfl) (by kernel_rfl) (by kernel_rfl) (fun _ _ _ h => h) ?_ hHeld ?_; (· rfl)) | (refine rg_yes (i := 10) (v := ?_) (atS (atS (atS (atS (atS (atS (atS (atS (atS (atS at0)))))))))) (by kernel_rfl) (by kernel_rfl) (by kernel_rfl) (fun _ _ _ h => h) ?_ ?_ hHeld ?_; rotate_left 1; (· rfl); (· intro w' hSw; (try dsimp only at hSw); have x0 := cell_below x0 hSw; have x1 := cell_below x1 hSw; have c0 := cell_below c0 hSw; have c1 := cell_below c1 hSw; (try clear hHeld); go_simp; try with_reducible rfl))
        try simp only [zp1, zp3, zp4, zp5]
        first | (refine rg_no (i := 11) (atS (atS (atS (atS (atS (atS (atS (atS (atS (atS (atS at0))))))))))) (by kernel_rfl) (by kernel_rfl) (by kernel_rfl) (fun _ _ _ h => h) ?_ hHeld ?_; (· rfl)) | (refine rg_call (i := 11) (atS (atS (atS (atS (atS (atS (atS (atS (atS (atS (atS at0))))))))))) (by kernel_rfl) ?_ (fun K hK => ?_); (· rfl); (try clear hb); go_simp; (refine (PC.out _).mono ?_; rintro e w1 ⟨rfl, hb⟩); go_wp2_with fail; refine hK.out _ _ ?_ (fun hHeld => ?_); (· exact hHeld.trans (hb.mono hHeld.size)); clear hK K)
        try simp only [zp1, zp3, zp4, zp5]
        first | (refine rg_no (i := 12) (atS (atS (atS (atS (atS (atS (atS (atS (atS (atS (atS (atS at0)))))))))))) (by kernel_rfl) (by kernel_rfl) (by kernel_rfl) (fun _ _ _ h => h) ?_ hHeld ?_; (· rfl)) | (refine rg_yes (i := 12) (v := ?_) (atS (atS (atS (atS (atS (atS (atS (atS (atS (atS (atS (atS at0)))))))))))) (by kernel_rfl) (by kernel_rfl) (by kernel_rfl) (fun _ _ _ h => h) ?_ ?_ hHeld ?_; rotate_left 1; (· rfl); (· intro w' hSw; (try dsimp only at hSw); (try clear hHeld); go_simp; try with_reducible rfl))
        try simp only [zp1, zp3, zp4, zp5]
        refine rg_yes (i := 13) (v := ?_) (atS (atS (atS (atS (atS (atS (atS (atS (atS (atS (atS (atS (atS at0))))))))))))) (by kernel_rfl) (by kernel_rfl) (by kernel_rfl) (fun _ _ _ h => h) ?_ ?_ hHeld ?_; rotate_left 1; (· rfl); (· intro w' hSw; (try dsimp only at hSw); (try clear hHeld); go_simp; try with_reducible rfl)
        try simp only [zp1, zp3, zp4, zp5]
        refine rg_yes (i := 14) (v := ?_) (atS (atS (atS (atS (atS (atS (atS (atS (atS (atS (atS (atS (atS (atS at0)))))))))))))) (by kernel_rfl) (by kernel_rfl) (by kernel_rfl) (fun _ _ _ h => h) ?_ ?_ hHeld ?_; rotate_left 1; (· rfl); (· intro w' hSw; (try dsimp only at hSw); (try clear hHeld); go_simp; try with_reducible rfl)
        try simp only [zp1, zp3, zp4, zp5]
        refine rg_yes (i := 15) (v := ?_) (atS (atS (atS (atS (atS (atS (atS (atS (atS (atS (atS (atS (atS (atS (atS at0))))))))))))))) (by kernel_rfl) (by kernel_rfl) (by kernel_rfl) (fun _ _ _ h => h) ?_ ?_ hHeld ?_; rotate_left 1; (· rfl); (· intro w' hSw; (try dsimp only at hSw); (try clear hHeld); go_simp; try with_reducible rfl)
        try simp only [zp1, zp3, zp4, zp5]
        refine wpAnyH_done (by kernel_rfl) ?_ _
        have B2 := Lib.hid (below_on B.out hHeld)
        clear hHeld hb
        go_wp2_with fail
        go_ret2
        exact ⟨a, by rw [HD.out]; rfl, by omega, PX.out, below_on hB B2.out⟩
      · obtain rfl : a = xs.length := by omega
        have PX : Hid (p ∉ xs) := Lib.hid (lows_over L.out)
        have j1 : decide ((xs.length : Int) < (xs.length : Int)) = false := by simp
        have c0 := (B.out.cell (size_lt C0.out)).trans C0.out
        have c1 := (B.out.cell (size_lt C1.out)).trans C1.out
        clear L
        go_wp2_with fail
        refine wp_region_held_drew (S := fun w' => Below wr.heap.size wr w') (by kernel_rfl) ?_ (fun hHeld => ?_)
        · exact (Below.refl _ _).drew
        refine rg_yes (i := 0) (v := ?_) at0 (by kernel_rfl) (by kernel_rfl) (by kernel_rfl) (fun _ _ _ h => h) ?_ ?_ hHeld ?_; rotate_left 1; (· rfl); (· intro w' hSw; (try dsimp only at hSw); (try clear hHeld); go_simp; try with_reducible rfl)
        try simp only [zp1, zp3, zp4, zp5]
        refine rg_yes (i := 1) (v := ?_) (atS at0) (by kernel_rfl) (by kernel_rfl) (by kernel_rfl) (fun _ _ _ h => h) ?_ ?_ hHeld ?_; rotate_left 1; (· rfl); (· intro w' hSw; (try dsimp only at hSw); (try clear hHeld); go_simp; try with_reducible rfl)
        try simp only [zp1, zp3, zp4, zp5]
        refine rg_yes (i := 2) (v := ?_) (atS (atS at0)) (by kernel_rfl) (by kernel_rfl) (by kernel_rfl) (fun _ _ _ h => h) ?_ ?_ hHeld ?_; rotate_left 1; (· rfl); (· intro w' hSw; (try dsimp only at hSw); (try clear hHeld); go_simp; try with_reducible rfl)
        try simp only [zp1, zp3, zp4, zp5]
        refine rg_yes (i := 3) (v := ?_) (atS (atS (atS at0))) (by kernel_rfl) (by kernel_rfl) (by kernel_rfl) (fun _ _ _ h => h) ?_ ?_ hHeld ?_; rotate_left 1; (· rfl); (· intro w' hSw; (try dsimp only at hSw); (try clear hHeld); go_simp; try with_reducible rfl)
        try simp only [zp1, zp3, zp4, zp5]
        refine rg_yes (i := 4) (v := ?_) (atS (atS (atS (atS at0)))) (by kernel_rfl) (by kernel_rfl) (by kernel_rfl) (fun _ _ _ h => h) ?_ ?_ hHeld ?_; rotate_left 1; (· rfl); (· intro w' hSw; (try dsimp only at hSw); (try clear hHeld); go_simp; try with_reducible rfl)
        try simp only [zp1, zp3, zp4, zp5]
        first | (refine rg_no (i := 5) (atS (atS (atS (atS (atS at0))))) (by kernel_rfl) (by kernel_rfl) (by kernel_rfl) (fun _ _ _ h => h) ?_ hHeld ?_; (· rfl)) | (refine rg_yes (i := 5) (v := ?_) (atS (atS (atS (atS (atS at0))))) (by kernel_rfl) (by kernel_rfl) (by kernel_rfl) (fun _ _ _ h => h) ?_ ?_ hHeld ?_; rotate_left 1; (· rfl); (· intro w' hSw; (try dsimp only at hSw); (try clear hHeld); go_simp; try with_reducible rfl))
        try simp only [zp1, zp3, zp4, zp5]
        first | (refine rg_no (i := 6) (atS (atS (atS (atS (atS (atS at0)))))) (by kernel_rfl) (by kernel_rfl) (by kernel_rfl) (fun _ _ _ h => h) ?_ hHeld ?_; (· rfl)) | (refine rg_yes (i := 6) (v := ?_) (atS (atS (atS (atS (atS (atS at0)))))) (by kernel_rfl) (by kernel_rfl) (by kernel_rfl) (fun _ _ _ h => h) ?_ ?_ hHeld ?_; rotate_left 1; (· rfl); (· intro w' hSw; (try dsimp only at hSw); (try clear hHeld); go_simp; try with_reducible rfl))
        try simp only [zp1, zp3, zp4, zp5]
        first | (refine rg_no (i := 7) (atS (atS (atS (atS (atS (atS (atS at0))))))) (by kernel_rfl) (by kernel_rfl) (by kernel_rfl) (fun _ _ _ h => h) ?_ hHeld ?_; (· rfl)) | (refine rg_yes (i := 7) (v := ?_) (atS (atS (atS (atS (atS (atS (atS at0))))))) (by kernel_rfl) (by kernel_rfl) (by kernel_rfl) (fun _ _ _ h => h) ?_ ?_ hHeld ?_; rotate_left 1; (· rfl); (· intro w' hSw; (try dsimp only at hSw); (try clear hHeld); go_simp; try with_reducible rfl))
        try simp only [zp1, zp3, zp4, zp5]
        first | (refine rg_no (i := 8) (atS (atS (atS (atS (atS (atS (atS (atS at0)))))))) (by kernel_rfl) (by kernel_rfl) (by kernel_rfl) (fun _ _ _ h => h) ?_ hHeld ?_; (· rfl)) | (refine rg_yes (i := 8) (v := ?_) (atS (atS (atS (atS (atS (atS (atS (atS at0)))))))) (by kernel_rfl) (by kernel_rfl) (by kernel_rfl) (fun _ _ _ h => h) ?_ ?_ hHeld ?_; rotate_left 1; (· rfl); (· intro w' hSw; (try dsimp only at hSw); have c0 := cell_below c0 hSw; have c1 := cell_below c1 hSw; (try clear hHeld); go_simp; try with_reducible rfl))
        try simp only [zp1, zp3, zp4, zp5]
        first | (refine rg_no (i := 9) (atS (atS (atS (atS (atS (atS (atS (atS (atS at0))))))))) (by kernel_rfl) (by kernel_rfl) (by kernel_rfl) (fun _ _ _ h => h) ?_ hHeld ?_; (· rfl)) | (refine rg_yes (i := 9) (v := ?_) (atS (atS (atS (atS (atS (atS (atS (atS (atS at0))))))))) (by kernel_rfl) (by kernel_rfl) (by kernel_rfl) (fun _ _ _ h => h) ?_ ?_ hHeld ?_; rotate_left 1; (· rfl); (· intro w' hSw; (try dsimp only at hSw); have c0 := cell_below c0 hSw; have c1 := cell_below c1 hSw; (try clear hHeld); go_simp; try with_reducible rfl))
        try simp only [zp1, zp3, zp4, zp5]
        first | (refine rg_no (i := 10) (atS (atS (atS (atS (atS (atS (atS (atS (atS (atS at0)))))))))) (by kernel_rfl) (by kernel_rfl) (by kernel_rfl) (fun _ _ _ h => h) ?_ hHeld ?_; (· rfl)) | (refine rg_yes (i := 10) (v := ?_) (atS (atS (atS (atS (atS (atS (atS (atS (atS (atS at0)))))))))) (by kernel_rfl) (by kernel_rfl) (by kernel_rfl) (fun _ _ _ h => h) ?_ ?_ hHeld ?_; rotate_left 1; (· rfl); (· intro w' hSw; (try dsimp only at hSw); have c0 := cell_below c0 hSw; have c1 := cell_below c1 hSw; (try clear hHeld); go_simp; try with_reducible rfl))
        try simp only [zp1, zp3, zp4, zp5]
        first | (refine rg_no (i := 11) (atS (atS (atS (atS (atS (atS (atS (atS (atS (atS (atS at0))))))))))) (by kernel_rfl) (by kernel_rfl) (by kernel_rfl) (fun _ _ _ h => h) ?_ hHeld ?_; (· rfl)) | (refine rg_call (i := 11) (atS (atS (atS (atS (atS (atS (atS (atS (atS (atS (atS at0))))))))))) (by kernel_rfl) ?_ (fun K hK => ?_); (· rfl); (try clear hb); go_simp; (refine (ps_Cmp p p _).mono ?_; rintro e w1 ⟨rfl, hb⟩); go_wp2_with fail; refine hK.out _ _ ?_ (fun hHeld => ?_); (· exact hHeld.trans (hb.mono hHeld.size)); clear hK K)
        try simp only [zp1, zp3, zp4, zp5]
        first | (refine rg_no (i := 12) (atS (atS (atS (atS (atS (atS (atS (atS (atS (atS (atS (atS at0)))))))))))) (by kernel_rfl) (by kernel_rfl) (by kernel_rfl) (fun _ _ _ h => h) ?_ hHeld ?_; (· rfl)) | (refine rg_yes (i := 12) (v := ?_) (atS (atS (atS (atS (atS (atS (atS (atS (atS (atS (atS (atS at0)))))))))))) (by kernel_rfl) (by kernel_rfl) (by kernel_rfl) (fun _ _ _ h => h) ?_ ?_ hHeld ?_; rotate_left 1; (· rfl); (· intro w' hSw; (try dsimp only at hSw); (try clear hHeld); go_simp; try with_reducible rfl))
        try simp only [zp1, zp3, zp4, zp5]
        refine rg_yes (i := 13) (v := ?_) (atS (atS (atS (atS (atS (atS (atS (atS (atS (atS (atS (atS (atS at0))))))))))))) (by kernel_rfl) (by kernel_rfl) (by kernel_rfl) (fun _ _ _ h => h) ?_ ?_ hHeld ?_; rotate_left 1; (· rfl); (· intro w' hSw; (try dsimp only at hSw); (try clear hHeld); go_simp; try with_reducible rfl)
        try simp only [zp1, zp3, zp4, zp5]
        refine rg_yes (i := 14) (v := ?_) (atS (atS (atS (atS (atS (atS (atS (atS (atS (atS (atS (atS (atS (atS at0)))))))))))))) (by kernel_rfl) (by kernel_rfl) (by kernel_rfl) (fun _ _ _ h => h) ?_ ?_ hHeld ?_; rotate_left 1; (· rfl); (· intro w' hSw; (try dsimp only at hSw); (try clear hHeld); go_simp; try with_reducible rfl)
        try simp only [zp1, zp3, zp4, zp5]
        refine rg_yes (i := 15) (v := ?_) (atS (atS (atS (atS (atS (atS (atS (atS (atS (atS (atS (atS (atS (atS (atS at0))))))))))))))) (by kernel_rfl) (by kernel_rfl) (by kernel_rfl) (fun _ _ _ h => h) ?_ ?_ hHeld ?_; rotate_left 1; (· rfl); (· intro w' hSw; (try dsimp only at hSw); (try clear hHeld); go_simp; try with_reducible rfl)
        try simp only [zp1, zp3, zp4, zp5]
        refine wpAnyH_done (by kernel_rfl) ?_ _
        have B2 := Lib.hid (below_on B.out hHeld)
        clear hHeld
        go_wp2_with fail
        go_ret2
        exact ⟨xs.length, by rw [show decide (p ∈ xs) = false by simpa using PX.out]; rfl, by omega, fun h => absurd h PX.out, below_on hB B2.out⟩
end Go.Proofs.YtkoidahgbbabiaaGreat
/-
  SETS OF PREFIXES: slices.Compact over prefixes of the call's own.
-/
namespace Go.Proofs.YtkoidahgbbabiaaGreat
open Go.RowKit
theorem blk_setCells {g : Nat} {T : TypeId} : ∀ (vs : List Value) (o : Nat) (w : World) (cur : Array Value), w.heap[g]? = some (.cells cur T (0, 0)) → (w.setCells g o vs).heap[g]? = some (.cells (Sort.setMany cur o vs) T (0, 0))
  | [], _, _, _, h => h
  | v :: r, o, _, _, h => blk_setCells r (o + 1) _ _ (set_same h o v)
theorem kept_setCells {F : Nat → Prop} {g : Nat} (hF : F g) : ∀ (vs : List Value) (o : Nat) (w : World), Kept F w (w.setCells g o vs)
  | [], _, _ => Kept.refl _ _
  | v :: r, o, _ => (Kept.setCell ⟨g, o, none⟩ v hF).trans (kept_setCells hF r (o + 1) _)
theorem own_front {w : World} {B n g c k m : Nat} {e : TypeId} {xs : List Value} (h : w.ownsRow B e k (.slice (some ⟨g, 0, none⟩) n c) n xs) (hm : m ≤ n) (vs : List Value) :
    (w.setCells g (m * k) vs).ownsRow B e k (.slice (some ⟨g, 0, none⟩) m c) m (xs.take (m * k)) := by
  obtain ⟨h1, ⟨h2, _⟩ | ⟨g', cap, cur, h2, hB, hg, hn, hm2, hs, hc⟩⟩ := h
  · cases h2
  · injection h2 with e1 e2 e3
    injection e1 with e1
    injection e1 with e1
    subst e1; subst e3
    have hmk : m * k ≤ n * k := Nat.mul_le_mul_right _ hm
    have hnk : n * k ≤ c * k := Nat.mul_le_mul_right _ hn
    refine ⟨by rw [List.length_take, h1]; omega, .inr ⟨g, c, _, rfl, hB, blk_setCells vs (m * k) w cur hg, by omega, hm2, by rw [Sort.size_setMany, hs], ?_⟩⟩
    rw [← hc, List.take_take, Nat.min_eq_left hmk]
    apply List.ext_getElem?
    intro i
    by_cases hi : i < m * k
    · rw [List.getElem?_take_of_lt hi, List.getElem?_take_of_lt hi]
      have hil : i < cur.size := by omega
      have hg2 := Sort.get_setMany vs (m * k) cur i hil
      rw [if_neg (by omega), getElem!_pos (Sort.setMany cur (m * k) vs) i (by rw [Sort.size_setMany]; exact hil), getElem!_pos cur i hil] at hg2
      simp [hil, hg2]
    · rw [List.getElem?_eq_none (by simp; omega), List.getElem?_eq_none (by simp; omega)]
theorem own_setP {w : World} {B n g c : Nat} {L : List Pf} {i : Nat} (h : w.ownsRow B 53 2 (.slice (some ⟨g, 0, none⟩) n c) n (L.flatMap encP)) (hi : i < L.length) (y : Pf) :
    (w.setCells g (i * 2) (encP y)).ownsRow B 53 2 (.slice (some ⟨g, 0, none⟩) n c) n ((L.set i y).flatMap encP) := by
  have h1 := own_set h rfl (i * 2) (.int .u32 y.1)
  have h2 := own_set h1 rfl (i * 2 + 1) (.int .i64 y.2)
  have hk : ∀ r ∈ L.map encP, r.length = 2 := fun r hr => by
    obtain ⟨p, -, rfl⟩ := List.mem_map.1 hr
    rfl
  have hr : (L.map encP)[i]? = some (encP L[i]) := by rw [List.getElem?_map, List.getElem?_eq_getElem hi]; rfl
  have e1 := rows_set hk hr (j := 0) (by decide) (.int .u32 y.1)
  have hk2 : ∀ r ∈ (L.map encP).set i ((encP L[i]).set 0 (.int .u32 y.1)), r.length = 2 := fun r hr => by
    rcases List.mem_or_eq_of_mem_set hr with h | rfl
    · exact hk r h
    · rfl
  have hr2 : ((L.map encP).set i ((encP L[i]).set 0 (.int .u32 y.1)))[i]? = some ((encP L[i]).set 0 (.int .u32 y.1)) := List.getElem?_set_self (by simpa using hi)
  have e2 := rows_set hk2 hr2 (j := 1) (by decide) (.int .i64 y.2)
  rw [List.flatMap_def] at h2
  rw [show i * 2 = i * 2 + 0 from rfl, ← e1] at h2
  rw [show i * 2 + 0 + 1 = i * 2 + 1 from rfl, ← e2, List.set_set] at h2
  rw [List.flatMap_def, List.map_set]
  exact h2
theorem own_two {w : World} {B n g c : Nat} {L : List Pf} {i : Nat} {x : Pf} (h : w.ownsRow B 53 2 (.slice (some ⟨g, 0, none⟩) n c) n (L.flatMap encP)) (hx : L[i]? = some x) :
    w.cell? ⟨g, i * 2, none⟩ = some (.int .u32 x.1) ∧ w.cell? ⟨g, i * 2 + 1, none⟩ = some (.int .i64 x.2) ∧ w.frozen? ⟨g, i * 2, none⟩ = false ∧ w.frozen? ⟨g, i * 2 + 1, none⟩ = false := by
  have h0 := flat_get encP_len L i x hx 0 (by decide)
  have h1 := flat_get encP_len L i x hx 1 (by decide)
  obtain ⟨a1, a2, -⟩ := own_row_cell h rfl h0
  obtain ⟨b1, b2, -⟩ := own_row_cell h rfl h1
  exact ⟨a1, b1, a2, b2⟩
abbrev pfZ : Array Value := #[.int .u32 0, .int .i64 0]
theorem run_clear_pf (w : World) (g o n c : Nat) (hn : 0 < n) (ht : w.there g o (n * 2)) :
    ∃ L : List Value, ∀ ty, (Builtin.clear_ #[23] ty #[.slice (some ⟨g, o, none⟩) n c]).run Tryz.prog w = .ok (.tuple #[]) (w.setCells g o L) := by
  have hlen : (Builtin.zeroCells pfZ n).toList.length = n * 2 := by simp [Builtin.zeroCells, pfZ]
  refine ⟨(Builtin.zeroCells pfZ n).toList, fun ty => ?_⟩
  have hst := run_storeCells_cells (P := Tryz.prog) g o (Builtin.zeroCells pfZ n).toList 0 w (fun j hj => by rw [Nat.add_zero]; exact (ht j (by rw [hlen] at hj; exact hj)).1) (fun j hj => by rw [Nat.add_zero]; exact (ht j (by rw [hlen] at hj; exact hj)).2) (zeroCells_one pfZ (by intro v hv; simp at hv; rcases hv with rfl | rfl <;> rfl) (by decide) n)
  simp only [Nat.add_zero] at hst
  obtain ⟨m, rfl⟩ : ∃ m, n = m + 1 := ⟨n - 1, by omega⟩
  simp [Builtin.clear_, run_underlying Tryz.underlying23, Value.cells, hst]
theorem own_there {w : World} {B n g c : Nat} {L : List Pf} (h : w.ownsRow B 53 2 (.slice (some ⟨g, 0, none⟩) n c) n (L.flatMap encP)) (hl : L.length = n) {k : Nat} (hk : k ≤ n) : w.there g (k * 2) ((n - k) * 2) := by
  intro j hj
  have hi : (k * 2 + j) / 2 < L.length := by omega
  obtain ⟨a, b, c, d⟩ := own_two h (List.getElem?_eq_getElem hi)
  rcases (by omega : k * 2 + j = (k * 2 + j) / 2 * 2 ∨ k * 2 + j = (k * 2 + j) / 2 * 2 + 1) with e | e
  · rw [e]; exact ⟨by rw [a]; rfl, c⟩
  · rw [e]; exact ⟨by rw [b]; rfl, d⟩
def CompAt (xs L : List Pf) (k r : Nat) : Prop := L.length = xs.length ∧ k + 1 ≤ r ∧ r ≤ xs.length ∧ L.take k = comp (xs.take r) ∧ (comp (xs.take r)).length = k ∧ ∀ i, r ≤ i + 1 → L[i]? = xs[i]?
theorem compAt_start {xs : List Pf} {k : Nat} {x : Pf} (h0 : ∀ (i : Nat) (x y : Pf), i + 1 < k + 1 → xs[i]? = some x → xs[i + 1]? = some y → x ≠ y) (hx : xs[k]? = some x) (hy : xs[k + 1]? = some x) : CompAt xs xs (k + 1) (k + 2) := by
  have hl := (List.getElem?_eq_some_iff.1 hy).1
  have hw := comp_whole (l := xs) (k + 1) h0 (by omega)
  have e : comp (xs.take (k + 2)) = xs.take (k + 1) := by rw [comp_next hx hy, if_pos rfl, hw]
  exact ⟨rfl, by omega, by omega, e.symm, by rw [e, List.length_take]; omega, fun i _ => rfl⟩
theorem compAt_skip {xs L : List Pf} {k r : Nat} {x : Pf} (h : CompAt xs L k (r + 1)) (hx : xs[r]? = some x) (hy : xs[r + 1]? = some x) : CompAt xs L k (r + 2) := by
  obtain ⟨h1, h2, h3, h4, h5, h6⟩ := h
  have hl := (List.getElem?_eq_some_iff.1 hy).1
  have e := comp_next hx hy
  rw [if_pos rfl] at e
  exact ⟨h1, by omega, by omega, by rw [e, h4], by rw [e, h5], fun i hi => h6 i (by omega)⟩
theorem compAt_keep {xs L : List Pf} {k r : Nat} {x y : Pf} (h : CompAt xs L k (r + 1)) (hx : xs[r]? = some x) (hy : xs[r + 1]? = some y) (hne : x ≠ y) : CompAt xs (L.set k y) (k + 1) (r + 2) := by
  obtain ⟨h1, h2, h3, h4, h5, h6⟩ := h
  have hl := (List.getElem?_eq_some_iff.1 hy).1
  have e := comp_next hx hy
  rw [if_neg hne] at e
  refine ⟨by rw [List.length_set, h1], by omega, by omega, ?_, by rw [e, List.length_append, h5]; rfl, fun i hi => ?_⟩
  · rw [e, ← h4, List.take_add_one, List.getElem?_set_self (by omega), List.take_set, List.set_eq_of_length_le (by rw [List.length_take]; omega)]
    rfl
  · rw [List.getElem?_set_ne (by omega)]
    exact h6 i (by omega)
def CompPost (B : Nat) (v : Value) (xs : List Pf) (w : World) (e : Ending) (w' : World) : Prop := ∃ v', e = .returned v' ∧ OwnPs w' B v' (comp xs) ∧ Kept (fun b => v.ownBlock = some b) w w'
theorem pair_eq (x y : Pf) : (x.1 == y.1 && x.2 == y.2) = decide (x = y) := by
  obtain ⟨a, b⟩ := x
  obtain ⟨c, d⟩ := y
  by_cases h1 : a = c <;> by_cases h2 : b = d <;> simp [h1, h2]
set_option maxHeartbeats 6400000 in
set_option maxRecDepth 100000 in
theorem ps_Compact (B : Nat) (v : Value) (xs : List Pf) (w : World) (h : OwnPs w B v xs) (hn : xs.length ≤ 4611686018427387904) :
    Calls Tryz.prog 77 #[v] w (CompPost B v xs w) := by
  obtain ⟨ho, hok⟩ := h
  by_cases hlen : xs.length < 2
  · have H : Hid (CompPost B v xs w (.returned v) w) := Lib.hid (by
      refine ⟨v, rfl, ⟨?_, ?_⟩, Kept.refl _ _⟩
      · have e : comp xs = xs := by
          match xs, hlen with
          | [], _ => rfl
          | [x], _ => rfl
        rw [e]; exact ho
      · have e : comp xs = xs := by
          match xs, hlen with
          | [], _ => rfl
          | [x], _ => rfl
        rw [e]; exact hok)
    have hl : decide ((xs.length : Int) < 2) = true := by simp; omega
    rcases own_slice ho with ⟨rfl, h0⟩ | ⟨g, c, rfl⟩
    · obtain rfl := List.length_eq_zero_iff.1 h0
      clear ho hok
      go_enter Tryz.func77, Tryz.ntmps77
      go_wp2_with fail
      go_ret
      exact H.out
    · clear ho hok
      go_enter Tryz.func77, Tryz.ntmps77
      go_wp2_with fail
      go_ret
      exact H.out
  · obtain ⟨g, c, rfl⟩ : ∃ g c, v = .slice (some ⟨g, 0, none⟩) xs.length c := by
      rcases own_slice ho with ⟨rfl, h0⟩ | ⟨g, c, rfl⟩
      · omega
      · exact ⟨g, c, rfl⟩
    have hcap : xs.length ≤ c ∧ c ≤ 9223372036854775807 := by
      obtain ⟨-, ⟨h2, _⟩ | ⟨g', cap, cur, h2, -, hg, hcn, hm, hs, hc⟩⟩ := ho
      · cases h2
      · injection h2 with e1 e2 e3
        subst e3
        unfold maxLen at hm
        exact ⟨hcn, hm⟩
    obtain ⟨hc1, hc2⟩ := hcap
    have hl : decide ((xs.length : Int) < 2) = false := by simp; omega
    have O := Lib.hid ho
    have OK := Lib.hid hok
    have HL := Lib.hid hlen
    clear ho hok hlen
    go_enter Tryz.func77, Tryz.ntmps77
    go_wp2_with fail
    clear hl
    go_loopw [3] (fun k3 wr => ∃ k : Nat, k + 1 ≤ xs.length ∧ k3 = .int .i64 ((k : Int) + 1) ∧ Hid (∀ (i : Nat) (x y : Pf), i + 1 < k + 1 → xs[i]? = some x → xs[i + 1]? = some y → x ≠ y) ∧ Hid (wr.ownsRow B 53 2 (.slice (some ⟨g, 0, none⟩) xs.length c) xs.length (xs.flatMap encP)) ∧ Hid (Below w.heap.size w wr)) (fun k3 _ => xs.length - (intOf k3).toNat)
    case atStart => exact ⟨0, by have := HL.out; omega, rfl, Lib.hid (fun i x y hi => by omega), O, Lib.hid (Below.refl _ _)⟩
    case round =>
      obtain ⟨k, hk, rfl, N, O1, B1⟩ := hrel
      by_cases hlt : k + 1 < xs.length
      · obtain ⟨x, hx⟩ : ∃ x, xs[k]? = some x := ⟨_, List.getElem?_eq_getElem (by omega)⟩
        obtain ⟨y, hy⟩ : ∃ y, xs[k + 1]? = some y := ⟨_, List.getElem?_eq_getElem hlt⟩
        obtain ⟨x0, x1, -, -⟩ := own_two O1.out hx
        obtain ⟨y0, y1, -, -⟩ := own_two O1.out hy
        have HX := Lib.hid hx
        have HY := Lib.hid hy
        have i0 : (0 : Int) ≤ (k : Int) := by omega
        have i1 : (k : Int) < (xs.length : Int) := by omega
        have i2 : (k : Int) + 1 < (xs.length : Int) := by omega
        have j0 : decide ((k : Int) + 1 < (xs.length : Int)) = true := by simpa using i2
        have j1 : (k : Int) + 1 ≤ (c : Int) := by omega
        have j2 : k + 1 ≤ c := by omega
        have j3 : ¬ c = k + 1 := by omega
        clear hx hy
        go_wp2_with fail
        by_cases he : x = y
        · have EQ : (y.1 == x.1 && y.2 == x.2) = true := by rw [pair_eq]; simp [he]
          have CA : Hid (CompAt xs xs (k + 1) (k + 1 + 1)) := Lib.hid (compAt_start N.out HX.out (by rw [he]; exact HY.out))
          clear he
          go_quiet (fail)
          rename_i nq
          obtain ⟨wq, hwq⟩ : ∃ W, W = wr.drewN nq := ⟨_, rfl⟩
          have O2 : Hid (wq.ownsRow B 53 2 (.slice (some ⟨g, 0, none⟩) xs.length c) xs.length (xs.flatMap encP)) := Lib.hid (by rw [hwq]; exact O1.out)
          have K2 : Hid (Kept (fun b => b = g) w wq) := Lib.hid (by rw [hwq]; exact Kept.of_below B1.out |>.trans ⟨rfl, rfl, rfl, Nat.le_refl _, fun _ _ _ => rfl⟩)
          rw [← hwq]
          clear hwq x0 x1 y0 y1 EQ O1 B1
          go_wp2_with fail
          obtain ⟨n2, hn2⟩ : ∃ n2, xs.length - (k + 1) = n2 := ⟨_, rfl⟩
          rw [hn2]
          have N2 := Lib.hid hn2
          clear hn2
          go_loopw [3, 5] (fun k3 q3 wr => ∃ (kk q : Nat) (L : List Pf), k3 = .int .i64 kk ∧ q3 = .int .i64 ((q : Int) + 1) ∧ q + 1 ≤ n2 ∧ Hid (CompAt xs L kk (k + 1 + q + 1)) ∧ Hid (wr.ownsRow B 53 2 (.slice (some ⟨g, 0, none⟩) xs.length c) xs.length (L.flatMap encP)) ∧ Hid (Kept (fun b => b = g) w wr)) (fun _ q3 _ => n2 - (intOf q3).toNat)
          case atStart => exact ⟨k + 1, 0, xs, by go_num, rfl, by have := N2.out; omega, CA, O2, K2⟩
          case round =>
            clear CA O2 K2 N i0 i1 i2 j0 j1 j2 j3 HX HY
            obtain ⟨kk, q, L, rfl, rfl, hq, CA, O2, K2⟩ := hrel
            by_cases hlt2 : q + 1 < n2
            · obtain ⟨x, hx⟩ : ∃ x, xs[k + 1 + q]? = some x := ⟨_, List.getElem?_eq_getElem (by have := N2.out; omega)⟩
              obtain ⟨y, hy⟩ : ∃ y, xs[k + 1 + q + 1]? = some y := ⟨_, List.getElem?_eq_getElem (by have := N2.out; omega)⟩
              have CL := CA.out.2.2.2.2.2
              obtain ⟨x0, x1, -, -⟩ := own_two O2.out ((CL (k + 1 + q) (by omega)).trans hx)
              obtain ⟨y0, y1, -, -⟩ := own_two O2.out ((CL (k + 1 + q + 1) (by omega)).trans hy)
              rw [show (k + 1 + q) * 2 = (k + 1) * 2 + q * 2 by omega] at x0 x1
              rw [show (k + 1 + q + 1) * 2 = (k + 1) * 2 + (q + 1) * 2 by omega] at y0 y1
              have HX := Lib.hid hx
              have HY := Lib.hid hy
              have i0 : (0 : Int) ≤ (q : Int) := by omega
              have i1 : (q : Int) < (n2 : Int) := by omega
              have i2 : (q : Int) + 1 < (n2 : Int) := by omega
              have j0 : decide ((q : Int) + 1 < (n2 : Int)) = true := by simpa using i2
              have kl : kk < xs.length := by have := CA.out.2.1; have := CA.out.2.2.1; omega
              have k0 : (0 : Int) ≤ (kk : Int) := by omega
              have k1 : (kk : Int) < (xs.length : Int) := by omega
              have nb : (n2 : Int) ≤ 9223372036854775806 := by have := N2.out; omega
              clear hx hy CL
              go_wp2_with fail
              by_cases he : x = y
              · have EQ : (!(y.1 == x.1 && y.2 == x.2)) = false := by rw [pair_eq]; simp [he]
                have CA2 := Lib.hid (compAt_skip CA.out HX.out (by rw [he]; exact HY.out))
                clear he
                go_quiet (fail)
                rename_i nq
                obtain ⟨wq, hwq⟩ : ∃ W, W = wr.drewN nq := ⟨_, rfl⟩
                have O3 : Hid (wq.ownsRow B 53 2 (.slice (some ⟨g, 0, none⟩) xs.length c) xs.length (L.flatMap encP)) := Lib.hid (by rw [hwq]; exact O2.out)
                have K3 : Hid (Kept (fun b => b = g) w wq) := Lib.hid (by rw [hwq]; exact K2.out.trans ⟨rfl, rfl, rfl, Nat.le_refl _, fun _ _ _ => rfl⟩)
                rw [← hwq]
                clear hwq x0 x1 y0 y1 EQ O2 K2 CA
                go_wp2_with fail
                exact ⟨⟨kk, q + 1, L, rfl, by go_num, by omega, CA2, O3, K3⟩, by simp [intOf]; omega⟩
              · have EQ : (!(y.1 == x.1 && y.2 == x.2)) = true := by rw [pair_eq]; simpa using fun h => he h.symm
                have CA2 := Lib.hid (compAt_keep CA.out HX.out HY.out he)
                clear he
                go_quiet (fail)
                rename_i nq
                obtain ⟨wq, hwq⟩ : ∃ W, W = wr.drewN nq := ⟨_, rfl⟩
                have O3 : Hid (wq.ownsRow B 53 2 (.slice (some ⟨g, 0, none⟩) xs.length c) xs.length (L.flatMap encP)) := Lib.hid (by rw [hwq]; exact O2.out)
                have K3 : Hid (Kept (fun b => b = g) w wq) := Lib.hid (by rw [hwq]; exact K2.out.trans ⟨rfl, rfl, rfl, Nat.le_refl _, fun _ _ _ => rfl⟩)
                have y0 : wq.cell? ⟨g, (k + 1) * 2 + (q + 1) * 2, none⟩ = some (.int .u32 y.1) := by rw [hwq]; exact y0
                have y1 : wq.cell? ⟨g, (k + 1) * 2 + (q + 1) * 2 + 1, none⟩ = some (.int .i64 y.2) := by rw [hwq]; exact y1
                rw [← hwq]
                clear hwq EQ O2 K2 x0 x1
                have LL := Lib.hid CA.out.1
                have TH := Lib.hid (own_there O3.out LL.out (k := kk) (by omega))
                have O4 := Lib.hid (own_setP O3.out (i := kk) (by rw [LL.out]; exact kl) y)
                have K4 := Lib.hid (K3.out.trans (kept_setCells (F := fun b => b = g) rfl (encP y) (kk * 2) wq))
                clear O3 K3 CA
                go_wp2_with (with_reducible refine halt_at (X := .store 53 (.tmp 51) (.tmp 50)) ?_ ?_; (· rfl))
                unfold Halt
                refine wpList_store_mid rfl 53 (.tmp 51) (.tmp 50) rfl g (kk * 2) #[.int .u32 y.1, .int .i64 y.2] rfl rfl (fun j hj => TH.out j (by have : j < 2 := hj; omega)) (by kernel_rfl) (all_oneCell_toArray (cs := encP y) (encP_one y)) ?_
                obtain ⟨W6, hW6⟩ : ∃ W6, W6 = wq.setCells g (kk * 2) (encP y) := ⟨_, rfl⟩
                have hW7 : wq.setCells g (kk * 2) (#[Value.int .u32 y.1, Value.int .i64 y.2] : Array Value).toList = W6 := hW6.symm
                rw [hW7]
                rw [← hW6] at O4 K4
                clear hW6 hW7 TH y0 y1 LL
                go_wp2_with fail
                exact ⟨⟨kk + 1, q + 1, L.set kk y, by go_num, by go_num, by omega, CA2, O4, K4⟩, by simp [intOf]; omega⟩
            · obtain rfl : n2 = q + 1 := by omega
              have e : k + 1 + q + 1 = xs.length := by have := N2.out; omega
              have CL : Hid (CompAt xs L kk xs.length) := Lib.hid (by rw [← e]; exact CA.out)
              have kl : kk < xs.length := by have := CL.out.2.1; omega
              have k0 : (0 : Int) ≤ (kk : Int) := by omega
              have k1 : (kk : Int) ≤ (xs.length : Int) := by omega
              have k2 : (kk : Int) ≤ (c : Int) := by omega
              have k3 : kk ≤ c := by omega
              have k4 : ¬ c = kk := by omega
              have j0 : decide ((q : Int) + 1 < ((q + 1 : Nat) : Int)) = false := by simp
              obtain ⟨Z, hcl⟩ := run_clear_pf wr g (kk * 2) (xs.length - kk) (c - kk) (by omega) (own_there O2.out CL.out.1 (by omega))
              have O3 := Lib.hid (own_front O2.out (m := kk) (by omega) Z)
              have K3 := Lib.hid (K2.out.trans (kept_setCells (F := fun b => b = g) rfl Z (kk * 2) wr))
              have FE : Hid ((L.flatMap encP).take (kk * 2) = (comp xs).flatMap encP ∧ (comp xs).length = kk) := Lib.hid (by
                obtain ⟨h1, h2, h3, h4, h5, h6⟩ := CL.out
                rw [List.take_length] at h4 h5
                refine ⟨?_, h5⟩
                rw [← h4, ← List.take_append_drop kk L, List.flatMap_append, List.take_append_of_le_length (by rw [flat_len encP_len, List.length_take]; omega), List.take_of_length_le (by rw [flat_len encP_len, List.length_take]; omega)]
                rw [List.take_append_drop])
              clear e CL CA O2 K2 N2
              go_wp2_with (simp only [hcl])
              go_ret
              exact ⟨_, rfl, ⟨by rw [FE.out.2, ← FE.out.1]; exact O3.out, fun p hp => OK.out p (comp_sub hp)⟩, K3.out.imp fun b hb => by rw [hb]; rfl⟩
        · have EQ : (y.1 == x.1 && y.2 == x.2) = false := by rw [pair_eq]; simpa using fun h => he h.symm
          have N2 : Hid (∀ (i : Nat) (x y : Pf), i + 1 < k + 1 + 1 → xs[i]? = some x → xs[i + 1]? = some y → x ≠ y) := Lib.hid (fun i a b hi ha hb => by
            by_cases e : i = k
            · subst e
              rw [HX.out] at ha
              rw [HY.out] at hb
              obtain rfl := Option.some.inj ha
              obtain rfl := Option.some.inj hb
              exact he
            · exact N.out i a b (by omega) ha hb)
          clear he
          go_quiet (fail)
          rename_i nq
          obtain ⟨wq, hwq⟩ : ∃ W, W = wr.drewN nq := ⟨_, rfl⟩
          have O2 : Hid (wq.ownsRow B 53 2 (.slice (some ⟨g, 0, none⟩) xs.length c) xs.length (xs.flatMap encP)) := Lib.hid (by rw [hwq]; exact O1.out)
          have B2 : Hid (Below w.heap.size w wq) := Lib.hid (by rw [hwq]; exact below_on B1.out ⟨rfl, rfl, rfl, Nat.le_refl _, fun _ _ => rfl⟩)
          rw [← hwq]
          clear hwq x0 x1 y0 y1 EQ O1 B1
          go_wp2_with fail
          exact ⟨⟨k + 1, by omega, by go_num, N2, O2, B2⟩, by simp [intOf]; omega⟩
      · have e : k + 1 = xs.length := by omega
        have CW : Hid (comp xs = xs) := Lib.hid (by
          have := comp_whole (l := xs) (k + 1) N.out (by omega)
          rw [e, List.take_length] at this
          exact this)
        have j0 : decide ((k : Int) + 1 < (xs.length : Int)) = false := by simp; omega
        clear e
        go_wp2_with fail
        go_ret
        exact ⟨_, rfl, ⟨by rw [CW.out]; exact O1.out, by rw [CW.out]; exact OK.out⟩, Kept.of_below B1.out⟩
end Go.Proofs.YtkoidahgbbabiaaGreat
/-
  DERIVED: THE SHELF's CONTRACTS AT THIS DUMP, IN PLAIN WORDS (tools/lay-plain.mjs out of 'TryzShelf.lean', which tools/lay-shelf.mjs wrote): THE SAME DECLARATIONS UNDER THE SAME NAMES: 'import', 'namespace', 'open', 'def', 'theorem' AND NOTHING ELSE: no command of the shelf's: FOR A HAND-IN. Each laying: the table of numbers ('.._ren') and one theorem, a field a fact of the dump's own or the kernel's comparison; each contract: ONE APPLICATION.
-/
namespace Go.Proofs
open Go.Shelf
def Tryz.sortP_ren : Go.Shelf.Ren := ⟨fun | 6 => 59 | 15 => 109 | 14 => 108 | 28 => 148 | 29 => 149 | 20 => 140 | 21 => 141 | 22 => 142 | 23 => 143 | 24 => 144 | 25 => 145 | 26 => 146 | 27 => 147 | 46 => 179 | 47 => 180 | 48 => 181 | 49 => 182 | 50 => 183 | 57 => 193 | n => n, fun | 22 => 23 | 24 => 53 | 25 => 134 | 3 => 3 | 39 => 117 | 0 => 0 | 53 => 35 | 55 => 234 | 4 => 4 | 46 => 227 | 45 => 226 | 50 => 177 | 5 => 5 | 9 => 9 | 66 => 256 | 70 => 260 | 76 => 268 | 77 => 269 | n => n, fun | n => n⟩
theorem Tryz.sortP : Go.Proofs.SlLaysF0.n6 Tryz.prog Tryz.sortP_ren := {
  mixed := by kernel_rfl
  f6 := ⟨Tryz.f59.name, by decide, Tryz.func59.trans (congrArg some (by kernel_rfl))⟩
  f14 := ⟨Tryz.f108.name, by decide, Tryz.func108.trans (congrArg some (by kernel_rfl))⟩
  f15 := Tryz.func109.trans (congrArg some (by kernel_rfl))
  f20 := ⟨Tryz.f140.name, by decide, Tryz.func140.trans (congrArg some (by kernel_rfl))⟩
  f21 := ⟨Tryz.f141.name, by decide, Tryz.func141.trans (congrArg some (by kernel_rfl))⟩
  f22 := ⟨Tryz.f142.name, by decide, Tryz.func142.trans (congrArg some (by kernel_rfl))⟩
  f23 := ⟨Tryz.f143.name, by decide, Tryz.func143.trans (congrArg some (by kernel_rfl))⟩
  f24 := ⟨Tryz.f144.name, by decide, Tryz.func144.trans (congrArg some (by kernel_rfl))⟩
  f25 := ⟨Tryz.f145.name, by decide, Tryz.func145.trans (congrArg some (by kernel_rfl))⟩
  f26 := ⟨Tryz.f146.name, by decide, Tryz.func146.trans (congrArg some (by kernel_rfl))⟩
  f27 := ⟨Tryz.f147.name, by decide, Tryz.func147.trans (congrArg some (by kernel_rfl))⟩
  f28 := Tryz.func148.trans (congrArg some (by kernel_rfl))
  f29 := Tryz.func149.trans (congrArg some (by kernel_rfl))
  f46 := ⟨Tryz.f179.name, by decide, Tryz.func179.trans (congrArg some (by kernel_rfl))⟩
  f47 := Tryz.func180.trans (congrArg some (by kernel_rfl))
  f48 := Tryz.func181.trans (congrArg some (by kernel_rfl))
  f49 := ⟨Tryz.f182.name, by decide, Tryz.func182.trans (congrArg some (by kernel_rfl))⟩
  f50 := ⟨Tryz.f183.name, by decide, Tryz.func183.trans (congrArg some (by kernel_rfl))⟩
  f57 := ⟨Tryz.f193.name, by decide, Tryz.func193.trans (congrArg some (by kernel_rfl))⟩
  t0 := Tryz.underlying0
  a0 := Tryz.isAgg0
  z0 := Tryz.sizeOf0
  v0 := Tryz.zeroValue0
  t3 := Tryz.underlying3
  a3 := Tryz.isAgg3
  z3 := Tryz.sizeOf3
  v3 := Tryz.zeroValue3
  t4 := Tryz.underlying4
  a4 := Tryz.isAgg4
  z4 := Tryz.sizeOf4
  v4 := Tryz.zeroValue4
  t5 := Tryz.underlying5
  a5 := Tryz.isAgg5
  z5 := Tryz.sizeOf5
  v5 := Tryz.zeroValue5
  t9 := Tryz.underlying9
  a9 := Tryz.isAgg9
  z9 := Tryz.sizeOf9
  v9 := Tryz.zeroValue9
  t22 := Tryz.underlying23
  a22 := Tryz.isAgg23
  z22 := Tryz.sizeOf23
  v22 := Tryz.zeroValue23
  t25 := Tryz.underlying134
  a25 := Tryz.isAgg134
  z25 := Tryz.sizeOf134
  v25 := Tryz.zeroValue134
  t39 := Tryz.underlying117
  a39 := Tryz.isAgg117
  z39 := Tryz.sizeOf117
  v39 := Tryz.zeroValue117
  t45 := Tryz.underlying226
  a45 := Tryz.isAgg226
  z45 := Tryz.sizeOf226
  v45 := Tryz.zeroValue226
  t46 := Tryz.underlying227
  a46 := Tryz.isAgg227
  z46 := Tryz.sizeOf227
  v46 := Tryz.zeroValue227
  t50 := Tryz.underlying177
  a50 := Tryz.isAgg177
  z50 := Tryz.sizeOf177
  v50 := Tryz.zeroValue177
  t53 := Tryz.underlying35
  a53 := Tryz.isAgg35
  z53 := Tryz.sizeOf35
  v53 := Tryz.zeroValue35
  t55 := Tryz.underlying234
  a55 := Tryz.isAgg234
  z55 := Tryz.sizeOf234
  v55 := Tryz.zeroValue234
  t66 := Tryz.underlying256
  a66 := Tryz.isAgg256
  z66 := Tryz.sizeOf256
  v66 := Tryz.zeroValue256
  t70 := Tryz.underlying260
  a70 := Tryz.isAgg260
  z70 := Tryz.sizeOf260
  v70 := Tryz.zeroValue260
  t76 := Tryz.underlying268
  a76 := Tryz.isAgg268
  z76 := Tryz.sizeOf268
  v76 := Tryz.zeroValue268
  t77 := Tryz.underlying269
  a77 := Tryz.isAgg269
  z77 := Tryz.sizeOf269
  v77 := Tryz.zeroValue269 }
end Go.Proofs
