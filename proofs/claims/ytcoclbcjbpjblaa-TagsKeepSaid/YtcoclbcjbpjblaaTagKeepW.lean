/-
  TagsKeep, the walk.
-/
import Derived.Test.YtcoclbcjbpjblaaTagKeepL
import Derived.Test.YtcoclbcjbpjblaaMapE
import Derived.Test.YtcoclbcjbpjblaaKeyEq
import Derived.Test.YtcoclbcjbpjblaaRgS
import Derived.Test.YtcoclbcjbpjblaaRg2
import Derived.Test.YtcoclbcjbpjblaaBits
import Derived.Deep.DeepCutAuto
import Derived.Deep.CutBlock
namespace Go.Proofs.Ytcoclbcjbpjblaa
open Go.RowKit
structure KD (w W : World) (g a b x y : Nat) (p : Pl) (L1 L2 : List (Ky × Int)) : Prop where
  h : Held w W g a b p
  m1 : MapT kyV nV KyOk W x L1
  m2 : MapT kyV nV KyOk W y L2
  hx : w.heap.size ≤ x
  hy : w.heap.size ≤ y
  nxy : x ≠ y
  nxa : x ≠ a
  nxb : x ≠ b
  nya : y ≠ a
  nyb : y ≠ b
theorem KD.on {w W W' : World} {g a b x y : Nat} {p : Pl} {L1 L2 : List (Ky × Int)} (h : KD w W g a b x y p L1 L2) (hb : Below W.heap.size W W') : KD w W' g a b x y p L1 L2 :=
  ⟨h.h.on hb, h.m1.below hb, h.m2.below hb, h.hx, h.hy, h.nxy, h.nxa, h.nxb, h.nya, h.nyb⟩
theorem KD.step {w W W' : World} {g a b x y : Nat} {p p' : Pl} {L1 L2 : List (Ky × Int)} (h : KD w W g a b x y p L1 L2) (hp : PoolAt W' g a b p') (hk : Kept (Of2 a b) W W') : KD w W' g a b x y p' L1 L2 :=
  ⟨h.h.step hp hk, h.m1.kept hk (by rintro (e | e); exact h.nxa e; exact h.nxb e), h.m2.kept hk (by rintro (e | e); exact h.nya e; exact h.nyb e), h.hx, h.hy, h.nxy, h.nxa, h.nxb, h.nya, h.nyb⟩
theorem KD.put1 {w W W1 : World} {g a b x y : Nat} {p : Pl} {L1 L2 M : List (Ky × Int)} {o : Obj} (h : KD w W g a b x y p L1 L2) (hb : Below W.heap.size W W1) (hm : MapT kyV nV KyOk (ChangeMaps.setBlock W1 x o) x M) : KD w (ChangeMaps.setBlock W1 x o) g a b x y p M L2 := by
  have h1 := h.on hb
  have hk : Kept (fun k => k = x) W1 (ChangeMaps.setBlock W1 x o) := Kept.setBlock o rfl
  have ngx : g ≠ x := by rintro rfl; obtain ⟨es, c, q, _⟩ := h1.m1; rw [h1.h.at_.row] at q; cases q
  exact ⟨⟨h1.h.at_.kept hk ngx (fun e => h1.nxa e.symm) (fun e => h1.nxb e.symm), h1.h.below.trans (hk.below h1.h.below.size (by rintro k rfl; exact h1.hx)), h1.h.hg, h1.h.ha, h1.h.hb⟩, hm, h1.m2.kept hk (fun e => h1.nxy e.symm), h1.hx, h1.hy, h1.nxy, h1.nxa, h1.nxb, h1.nya, h1.nyb⟩
theorem KD.put2' {w W W1 : World} {g a b x y : Nat} {p : Pl} {L1 L2 M : List (Ky × Int)} (h : KD w W g a b x y p L1 L2) (hk : Kept (fun k => k = y) W W1) (hm : MapT kyV nV KyOk W1 y M) : KD w W1 g a b x y p L1 M := by
  have ngy : g ≠ y := by rintro rfl; obtain ⟨es, c, q, _⟩ := h.m2; rw [h.h.at_.row] at q; cases q
  exact ⟨⟨h.h.at_.kept hk ngy (fun e => h.nya e.symm) (fun e => h.nyb e.symm), h.h.below.trans (hk.below h.h.below.size (by rintro k rfl; exact h.hy)), h.h.hg, h.h.ha, h.h.hb⟩, h.m1.kept hk h.nxy, hm, h.hx, h.hy, h.nxy, h.nxa, h.nxb, h.nya, h.nyb⟩
/-- what does not touch any of it. -/
theorem KD.kept {w W W' : World} {g a b x y : Nat} {p : Pl} {L1 L2 : List (Ky × Int)} (h : KD w W g a b x y p L1 L2) {r : Nat} (hk : Kept (fun k => k = r) W W') (hg : r ≠ g) (ha : r ≠ a) (hb : r ≠ b) (hx : r ≠ x) (hy : r ≠ y) (hr : w.heap.size ≤ r) : KD w W' g a b x y p L1 L2 :=
  ⟨⟨h.h.at_.kept hk (fun e => hg e.symm) (fun e => ha e.symm) (fun e => hb e.symm), h.h.below.trans (hk.below h.h.below.size (by rintro k rfl; exact hr)), h.h.hg, h.h.ha, h.h.hb⟩, h.m1.kept hk (fun e => hx e.symm), h.m2.kept hk (fun e => hy e.symm), h.hx, h.hy, h.nxy, h.nxa, h.nxb, h.nya, h.nyb⟩
theorem KD.lts {w W : World} {g a b x y : Nat} {p : Pl} {L1 L2 : List (Ky × Int)} (h : KD w W g a b x y p L1 L2) : g < W.heap.size ∧ a < W.heap.size ∧ b < W.heap.size ∧ x < W.heap.size ∧ y < W.heap.size ∧ w.heap.size ≤ W.heap.size :=
  ⟨h.h.at_.lt, h.h.at_.tg.lt, h.h.at_.hd.lt, h.m1.lt, h.m2.lt, h.h.below.size⟩
theorem look_num {W : World} {y : Nat} {L : List (Ky × Int)} (hm : MapT kyV nV KyOk W y L) (k : Ky) (hk : KyOk k) (w : World) (hw : w.heap[y]? = W.heap[y]?) : (Instr.lookup 35 (.map (some y)) (.agg #[.int .i64 k.1, .int .i64 k.2.1, .int .i64 k.2.2]) false).run Try.prog w = .ok (.int .i64 (numL L k)) w := by
  have := hm.look key_enc Try.underlying35 k hk zero_int w hw false
  rw [this]
  unfold numL
  cases getL L k <;> rfl
theorem store_num {W : World} {y : Nat} {L : List (Ky × Int)} (hm : MapT kyV nV KyOk W y L) (k : Ky) (hk : KyOk k) (v : Int) (hr : L.length < maxLen) (w : World) (hw : w.heap[y]? = W.heap[y]?) : ∃ o, (Instr.mapUpdate 35 (.map (some y)) (.agg #[.int .i64 k.1, .int .i64 k.2.1, .int .i64 k.2.2]) (.int .i64 v)).run Try.prog w = .ok () (ChangeMaps.setBlock w y o) ∧ MapT kyV nV KyOk (ChangeMaps.setBlock w y o) y (putL L k v) :=
  hm.store key_enc Try.underlying35 k hk v hr w hw
/-- m[k] is changed: the entry, the look-up on either side of it, the store. -/
theorem bump_num {W : World} {y : Nat} {L : List (Ky × Int)} (hm : MapT kyV nV KyOk W y L) (k : Ky) (hk : KyOk k) (v : Int) (hr : L.length < maxLen) (w : World) (hw : w.heap[y]? = W.heap[y]?) : ∃ (o o2 : Obj) (s : Int),
    (Instr.mapEntry 35 (.map (some y)) (.agg #[.int .i64 k.1, .int .i64 k.2.1, .int .i64 k.2.2])).run Try.prog w = .ok (.tuple #[.int .i64 (numL L k), .int .i64 s]) (ChangeMaps.setBlock w y o) ∧
    (Instr.lookup 35 (.map (some y)) (.agg #[.int .i64 k.1, .int .i64 k.2.1, .int .i64 k.2.2]) false).run Try.prog w = .ok (.int .i64 (numL L k)) w ∧
    (Instr.lookup 35 (.map (some y)) (.agg #[.int .i64 k.1, .int .i64 k.2.1, .int .i64 k.2.2]) false).run Try.prog (ChangeMaps.setBlock w y o) = .ok (.int .i64 (numL L k)) (ChangeMaps.setBlock w y o) ∧
    (Instr.entryStore 35 (.map (some y)) (.int .i64 s) (.int .i64 v)).run Try.prog (ChangeMaps.setBlock w y o) = .ok () (ChangeMaps.setBlock (ChangeMaps.setBlock w y o) y o2) ∧
    MapT kyV nV KyOk (ChangeMaps.setBlock (ChangeMaps.setBlock w y o) y o2) y (putL L k v) := by
  obtain ⟨o, s, h1, h2, h3⟩ := hm.entry key_enc Try.underlying35 k hk (0 : Int) zero_int hr w hw
  obtain ⟨o2, h4, h5⟩ := h2.entryStore (t := 35) (P := Try.prog) key_enc.inj k s h3 v (ChangeMaps.setBlock w y o) rfl
  rw [putL_twice] at h5
  have h6 := look_num h2 k hk (ChangeMaps.setBlock w y o) rfl
  rw [numL_put, if_pos rfl] at h6
  exact ⟨o, o2, (s : Int), h1, look_num hm k hk w hw, h6, h4, h5⟩
set_option maxRecDepth 100000 in
set_option maxHeartbeats 6400000 in
theorem law_TagsKeep (most : Int) (v : Value) (xs : List St) (w : World) (hS : StepsAt w v xs) : Calls Try.prog 4 #[.int .i64 most, v] w fun e w' => e = .returned (.bool true) ∧ Below w.heap.size w w' := by
  obtain ⟨sa, cap, rfl, hlen, hcells⟩ := hS
  have HC := Lib.hid hcells
  clear hcells
  have e1 := and_31 most
  obtain ⟨n, hn⟩ : ∃ n : Nat, most % 32 = (n : Int) := ⟨(most % 32).toNat, by omega⟩
  have hn31 : n ≤ 31 := by omega
  rw [hn] at e1
  clear hn
  have hmm := @run_makeMap Try.prog
  unfold maxLen at hlen
  go_enter Try.func4, Try.ntmps4
  go_wp2_with fail
  refine (law_head _).mono ?_
  rintro e w0 ⟨rfl, hB0⟩
  go_wp2_with fail
  refine (pool_New_ok (n : Int) (by omega) (by omega) w0).mono ?_
  rintro e w1 ⟨g, a, b, rfl, hp, hg, ha, hb, hB⟩
  have H := Lib.hid (⟨hp, below_on hB0 hB, Nat.le_trans hB0.size hg, Nat.le_trans hB0.size ha, Nat.le_trans hB0.size hb⟩ : Held w w1 g a b ⟨n, [], []⟩)
  have la := hp.tg.lt
  have lb := hp.hd.lt
  clear hp hB hg ha hb hB0
  go_wp2_with fail
  have D : Hid (KD w ((w1.alloc (.map #[] 0)).alloc (.map #[] 0)) g a b w1.heap.size (w1.heap.size + 1) ⟨n, [], []⟩ [] []) := Lib.hid (by
    have hb1 : Below w1.heap.size w1 (w1.alloc (.map #[] 0)) := (Below.refl _ _).alloc (Nat.le_refl _) _
    have hb2 : Below (w1.alloc (.map #[] 0)).heap.size (w1.alloc (.map #[] 0)) ((w1.alloc (.map #[] 0)).alloc (.map #[] 0)) := (Below.refl _ _).alloc (Nat.le_refl _) _
    have m1 := (MapT.made (ek := kyV) (ev := nV) (ok := KyOk) w1).below hb2
    have m2 := MapT.made (ek := kyV) (ev := nV) (ok := KyOk) (w1.alloc (.map #[] 0))
    have hz := H.out.below.size
    refine ⟨(H.out.on hb1).on hb2, m1, by simpa using m2, by omega, by omega, by omega, by omega, by omega, by omega, by omega⟩)
  clear H hmm
  generalize (w1.alloc (.map #[] 0)).alloc (.map #[] 0) = w2 at D ⊢
  generalize w1.heap.size = x at D la lb ⊢
  generalize x + 1 = y at D ⊢
  clear la lb
  go_loopw [9] (fun t wr => ∃ (i : Nat) (p : Pl) (L1 L2 : List (Ky × Int)), i ≤ xs.length ∧ i ≤ 80 ∧ t = .int .i64 i ∧ KD w wr g a b x y p L1 L2 ∧ KeepI n i p L1 L2) (fun t _ => 80 - (intOf t).toNat)
  case atStart => exact ⟨0, _, _, _, by omega, by omega, rfl, D.out, KeepI.start n⟩
  case round =>
    obtain ⟨i, p, L1, L2, hi, hi80, rfl, hD, hI⟩ := hrel
    clear D
    have D := Lib.hid hD
    have I := Lib.hid hI
    clear hD hI
    have hw : IntKind.i64.wrap ((i : Int) + 1) = ((i + 1 : Nat) : Int) := by rw [IntWalk.i64_in _ (by omega)]; omega
    by_cases hlt : i < xs.length ∧ i < 80
    · obtain ⟨hl1, hl2⟩ := hlt
      obtain ⟨bb, off, hsa, hcl⟩ := HC.out (by omega)
      subst hsa
      obtain ⟨s, hs⟩ : ∃ s, xs[i]? = some s := ⟨xs[i], List.getElem?_eq_getElem hl1⟩
      obtain ⟨hok, d0, d1, d2, d3, d4⟩ := hcl i s hs
      obtain ⟨sk, ⟨k1, k2, k3⟩, st⟩ := s
      have hBw := D.out.h.below
      replace d0 := (hBw.cell (size_lt d0)).trans d0
      replace d1 := (hBw.cell (size_lt d1)).trans d1
      replace d2 := (hBw.cell (size_lt d2)).trans d2
      replace d3 := (hBw.cell (size_lt d3)).trans d3
      replace d4 := (hBw.cell (size_lt d4)).trans d4
      clear hcl hs hBw
      simp only at d0 d1 d2 d3 d4
      have hbS : Below wr.heap.size wr (wr.alloc (.cells #[.int .i64 sk, .int .i64 k1, .int .i64 k2, .int .i64 k3, .int .i64 st] 37)) := (Below.refl _ _).alloc (Nat.le_refl _) _
      have hbS : Below wr.heap.size wr (wr.alloc (.cells #[.int .i64 sk, .int .i64 k1, .int .i64 k2, .int .i64 k3, .int .i64 st] 37)) := (Below.refl _ _).alloc (Nat.le_refl _) _
      have hbS : Below wr.heap.size wr (wr.alloc (.cells #[.int .i64 sk, .int .i64 k1, .int .i64 k2, .int .i64 k3, .int .i64 st] 37)) := (Below.refl _ _).alloc (Nat.le_refl _) _
      have hbS : Below wr.heap.size wr (wr.alloc (.cells #[.int .i64 sk, .int .i64 k1, .int .i64 k2, .int .i64 k3, .int .i64 st] 37)) := (Below.refl _ _).alloc (Nat.le_refl _) _
      have hbS : Below wr.heap.size wr (wr.alloc (.cells #[.int .i64 sk, .int .i64 k1, .int .i64 k2, .int .i64 k3, .int .i64 st] 37)) := (Below.refl _ _).alloc (Nat.le_refl _) _
      have hbS : Below wr.heap.size wr (wr.alloc (.cells #[.int .i64 sk, .int .i64 k1, .int .i64 k2, .int .i64 k3, .int .i64 st] 37)) := (Below.refl _ _).alloc (Nat.le_refl _) _
      have hbS : Below wr.heap.size wr (wr.alloc (.cells #[.int .i64 sk, .int .i64 k1, .int .i64 k2, .int .i64 k3, .int .i64 st] 37)) := (Below.refl _ _).alloc (Nat.le_refl _) _
      have hbS : Below wr.heap.size wr (wr.alloc (.cells #[.int .i64 sk, .int .i64 k1, .int .i64 k2, .int .i64 k3, .int .i64 st] 37)) := (Below.refl _ _).alloc (Nat.le_refl _) _
      have hbS : Below wr.heap.size wr (wr.alloc (.cells #[.int .i64 sk, .int .i64 k1, .int .i64 k2, .int .i64 k3, .int .i64 st] 37)) := (Below.refl _ _).alloc (Nat.le_refl _) _
      go_upto_block 2 with fail
      have D3 := Lib.hid (D.out.on hbS)
      have s0 : (wr.alloc (.cells #[.int .i64 sk, .int .i64 k1, .int .i64 k2, .int .i64 k3, .int .i64 st] 37)).cell? ⟨wr.heap.size, 0, none⟩ = some (.int .i64 sk) := by simp
      have s1 : (wr.alloc (.cells #[.int .i64 sk, .int .i64 k1, .int .i64 k2, .int .i64 k3, .int .i64 st] 37)).cell? ⟨wr.heap.size, 1, none⟩ = some (.int .i64 k1) := by simp
      have s2 : (wr.alloc (.cells #[.int .i64 sk, .int .i64 k1, .int .i64 k2, .int .i64 k3, .int .i64 st] 37)).cell? ⟨wr.heap.size, 2, none⟩ = some (.int .i64 k2) := by simp
      have s3 : (wr.alloc (.cells #[.int .i64 sk, .int .i64 k1, .int .i64 k2, .int .i64 k3, .int .i64 st] 37)).cell? ⟨wr.heap.size, 3, none⟩ = some (.int .i64 k3) := by simp
      have s4 : (wr.alloc (.cells #[.int .i64 sk, .int .i64 k1, .int .i64 k2, .int .i64 k3, .int .i64 st] 37)).cell? ⟨wr.heap.size, 4, none⟩ = some (.int .i64 st) := by simp
      obtain ⟨lg, la, lb, lx, ly, lw⟩ := D.out.lts
      clear hbS D d0 d1 d2 d3 d4
      generalize wr.alloc (.cells #[.int .i64 sk, .int .i64 k1, .int .i64 k2, .int .i64 k3, .int .i64 st] 37) = W3 at D3 s0 s1 s2 s3 s4 ⊢
      generalize wr.heap.size = q at s0 s1 s2 s3 s4 lg la lb lx ly lw ⊢
      have hqo : ¬ Of2 a b q := by rintro (e | e) <;> omega
      go_cut [11, 12, 13, 14] (fun _ _ _ _ wx => ∃ (p' : Pl) (M1 M2 : List (Ky × Int)), KD w wx g a b x y p' M1 M2 ∧ KeepI n (i + 1) p' M1 M2)
      case first =>
        by_cases h0 : sk = 0
        · subst h0
          cases ht : getL p.tg (k1, k2, k3) with
          | some t =>
            obtain ⟨u, hu⟩ := I.out.c1 _ _ ht
            obtain ⟨-, hu0, hui, -, htI, -⟩ := I.out.c2 _ _ _ hu
            have IH := Lib.hid (I.out.had (k1, k2, k3) t u ht hu)
            have HT := Lib.hid (pool_Take_had D3.out.h.at_ (k1, k2, k3) hok.2.1 t htI u ht hu hu0 (by omega) (by have := I.out.hdl; unfold maxLen; omega))
            have hpos : 0 < numL L2 (k1, k2, k3) → numL L1 (k1, k2, k3) = t := fun h => by have := I.out.c3 _ h; rw [ht] at this; injection this with this; exact this.symm
            have HP := Lib.hid hpos
            clear ht hu hpos
            go_wp2_with fail
            refine HT.out.mono ?_
            rintro e w2 ⟨rfl, hp, hkp⟩
            have DD := Lib.hid (D3.out.step hp hkp)
            replace s0 := hkp.cell s0 hqo
            replace s1 := hkp.cell s1 hqo
            replace s2 := hkp.cell s2 hqo
            replace s3 := hkp.cell s3 hqo
            clear hp hkp D3 HT s4
            have hqy : ¬ (fun j => j = y) q := fun e => by have e2 : q = y := e; omega
            obtain ⟨o1, hs1, hm1⟩ := store_num DD.out.m1 (k1, k2, k3) hok.2.1 (t) (by have := I.out.l1; unfold maxLen; omega) w2 rfl
            simp only at hs1
            have lk2 := look_num DD.out.m2 (k1, k2, k3) hok.2.1 w2 rfl
            have lk1 := look_num DD.out.m1 (k1, k2, k3) hok.2.1 w2 rfl
            simp only at lk1 lk2
            by_cases hc : 0 < numL L2 (k1, k2, k3)
            · have hne : (numL L1 (k1, k2, k3) != t) = false := by rw [HP.out hc]; simp
              go_wp2_with fail
              have DE := Lib.hid (DD.out.put1 (below_same w2) hm1)
              have hk1 : Kept (fun j => j = x) w2 (ChangeMaps.setBlock w2 x o1) := Kept.setBlock o1 rfl
              replace s0 := hk1.cell s0 (fun e => by have e2 : q = x := e; omega)
              replace s1 := hk1.cell s1 (fun e => by have e2 : q = x := e; omega)
              replace s2 := hk1.cell s2 (fun e => by have e2 : q = x := e; omega)
              replace s3 := hk1.cell s3 (fun e => by have e2 : q = x := e; omega)
              clear hs1 hm1 hk1 lk1 lk2 DD
              have DD := DE
              clear DE
              generalize ChangeMaps.setBlock w2 x o1 = wd0 at DD s0 s1 s2 s3 ⊢
              have hwn : IntKind.i64.wrap (numL L2 (k1, k2, k3) + 1) = numL L2 (k1, k2, k3) + 1 := IntWalk.i64_in _ (by have := I.out.c5 (k1, k2, k3); omega)
              obtain ⟨oE, oS, sE, hrE, lkA, lkB, hrS, hmS⟩ := bump_num DD.out.m2 (k1, k2, k3) hok.2.1 (numL L2 (k1, k2, k3) + 1) (by have := I.out.l2; unfold maxLen; omega) wd0.drew rfl
              simp only at hrE lkA lkB hrS
              refine wp_region_held_drew (S := fun w' => Kept (fun j => j = y) wd0 w') (by kernel_rfl) ?_ (fun hHeld => ?_)
              · exact (Kept.refl _ _).drew
              generalize World.drew wd0 = wd at hrE hrS lkA lkB hmS hHeld ⊢
              refine rgy (i := 0) (v := ?_) (atN rfl) (by kernel_rfl) (fun _ _ _ h => h) ?_ ?_ hHeld ?_; rotate_left 1; (· rfl); (· intro w' hSw; (try clear hHeld); go_simp; try with_reducible rfl)
              try simp only [Act.put, List.setIfInBounds_toArray, List.set_cons_zero, List.set_cons_succ]
              refine rgy (i := 1) (v := ?_) (atN rfl) (by kernel_rfl) (fun _ _ _ h => h) ?_ ?_ hHeld ?_; rotate_left 1; (· rfl); (· intro w' hSw; (try clear hHeld); go_simp; try with_reducible rfl)
              try simp only [Act.put, List.setIfInBounds_toArray, List.set_cons_zero, List.set_cons_succ]
              refine rgy (i := 2) (v := ?_) (atN rfl) (by kernel_rfl) (fun _ _ _ h => h) ?_ ?_ hHeld ?_; rotate_left 1; (· rfl); (· intro w' hSw; have s1 := hSw.cell s1 hqy; have s2 := hSw.cell s2 hqy; have s3 := hSw.cell s3 hqy; (try clear hHeld); go_simp; try with_reducible rfl)
              try simp only [Act.put, List.setIfInBounds_toArray, List.set_cons_zero, List.set_cons_succ]
              refine rg_call2 (i := 3) (j := 5) (atS (atS (atS at0))) (atS (atS (atS (atS (atS at0))))) (by kernel_rfl) ?_ ?_ (fun K hK => ?_) (fun K hK => ?_)
              · rfl
              · rfl
              · (try clear hb); (first | refine wp_look 35 (.tmp 78) (.tmp 80) false rfl rfl rfl lkA ?_ | refine wp_look 35 (.tmp 78) (.tmp 80) false rfl rfl rfl lkB ?_); refine hK.out _ _ ?_ (fun hHeld => ?_); (· exact hHeld); clear hK K
                try simp only [Act.put, List.setIfInBounds_toArray, List.set_cons_zero, List.set_cons_succ]
                refine rgy (i := 4) (v := ?_) (atN rfl) (by kernel_rfl) (fun _ _ _ h => h) ?_ ?_ hHeld ?_; rotate_left 1; (· rfl); (· intro w' hSw; (try clear hHeld); go_simp; try with_reducible rfl)
                try simp only [Act.put, List.setIfInBounds_toArray, List.set_cons_zero, List.set_cons_succ]
                refine rg_call (i := 5) (atN rfl) (by kernel_rfl) ?_ (fun K hK => ?_); (· rfl); (try clear hb); refine wp_mapEntry 35 (.tmp 78) (.tmp 80) rfl rfl rfl hrE ?_; refine hK.out _ _ ?_ (fun hHeld => ?_); (· exact hHeld.trans (Kept.setBlock _ rfl)); clear hK K
                try simp only [Act.put, List.setIfInBounds_toArray, List.set_cons_zero, List.set_cons_succ]
                refine rgy (i := 6) (v := ?_) (atN rfl) (by kernel_rfl) (fun _ _ _ h => h) ?_ ?_ hHeld ?_; rotate_left 1; (· rfl); (· intro w' hSw; (try clear hHeld); go_simp; try with_reducible rfl)
                try simp only [Act.put, List.setIfInBounds_toArray, List.set_cons_zero, List.set_cons_succ]
                refine rg_call (i := 7) (atN rfl) (by kernel_rfl) ?_ (fun K hK => ?_); (· rfl); (try clear hb); refine wp_entryStore 35 (.tmp 78) (.tmp 84) (.tmp 82) rfl rfl rfl rfl hrS ?_; refine hK.out _ _ ?_ (fun hHeld => ?_); (· exact hHeld.trans (Kept.setBlock _ rfl)); clear hK K
                try simp only [Act.put]
                refine wpAnyH_done (by kernel_rfl) ?_ _
                have hHeldS := hHeld
                try go_wp2_with fail
                have DF := DD.out.put2' hHeldS hmS
                go_wp2_with fail
                go_meet
                exact ⟨_, _, _, DF, IH.out⟩
              · (try clear hb); refine wp_mapEntry 35 (.tmp 78) (.tmp 80) rfl rfl rfl hrE ?_; refine hK.out _ _ ?_ (fun hHeld => ?_); (· exact hHeld.trans (Kept.setBlock _ rfl)); clear hK K
                try simp only [Act.put, List.setIfInBounds_toArray, List.set_cons_zero, List.set_cons_succ]
                refine rgy (i := 6) (v := ?_) (atN rfl) (by kernel_rfl) (fun _ _ _ h => h) ?_ ?_ hHeld ?_; rotate_left 1; (· rfl); (· intro w' hSw; (try clear hHeld); go_simp; try with_reducible rfl)
                try simp only [Act.put, List.setIfInBounds_toArray, List.set_cons_zero, List.set_cons_succ]
                refine rg_call (i := 3) (atN rfl) (by kernel_rfl) ?_ (fun K hK => ?_); (· rfl); (try clear hb); (first | refine wp_look 35 (.tmp 78) (.tmp 80) false rfl rfl rfl lkA ?_ | refine wp_look 35 (.tmp 78) (.tmp 80) false rfl rfl rfl lkB ?_); refine hK.out _ _ ?_ (fun hHeld => ?_); (· exact hHeld); clear hK K
                try simp only [Act.put, List.setIfInBounds_toArray, List.set_cons_zero, List.set_cons_succ]
                refine rgy (i := 4) (v := ?_) (atN rfl) (by kernel_rfl) (fun _ _ _ h => h) ?_ ?_ hHeld ?_; rotate_left 1; (· rfl); (· intro w' hSw; (try clear hHeld); go_simp; try with_reducible rfl)
                try simp only [Act.put, List.setIfInBounds_toArray, List.set_cons_zero, List.set_cons_succ]
                refine rg_call (i := 7) (atN rfl) (by kernel_rfl) ?_ (fun K hK => ?_); (· rfl); (try clear hb); refine wp_entryStore 35 (.tmp 78) (.tmp 84) (.tmp 82) rfl rfl rfl rfl hrS ?_; refine hK.out _ _ ?_ (fun hHeld => ?_); (· exact hHeld.trans (Kept.setBlock _ rfl)); clear hK K
                try simp only [Act.put]
                refine wpAnyH_done (by kernel_rfl) ?_ _
                have hHeldS := hHeld
                try go_wp2_with fail
                have DF := DD.out.put2' hHeldS hmS
                go_wp2_with fail
                go_meet
                exact ⟨_, _, _, DF, IH.out⟩
            · have hne : True := trivial
              go_wp2_with fail
              have DE := Lib.hid (DD.out.put1 (below_same w2) hm1)
              have hk1 : Kept (fun j => j = x) w2 (ChangeMaps.setBlock w2 x o1) := Kept.setBlock o1 rfl
              replace s0 := hk1.cell s0 (fun e => by have e2 : q = x := e; omega)
              replace s1 := hk1.cell s1 (fun e => by have e2 : q = x := e; omega)
              replace s2 := hk1.cell s2 (fun e => by have e2 : q = x := e; omega)
              replace s3 := hk1.cell s3 (fun e => by have e2 : q = x := e; omega)
              clear hs1 hm1 hk1 lk1 lk2 DD
              have DD := DE
              clear DE
              generalize ChangeMaps.setBlock w2 x o1 = wd0 at DD s0 s1 s2 s3 ⊢
              have hwn : IntKind.i64.wrap (numL L2 (k1, k2, k3) + 1) = numL L2 (k1, k2, k3) + 1 := IntWalk.i64_in _ (by have := I.out.c5 (k1, k2, k3); omega)
              obtain ⟨oE, oS, sE, hrE, lkA, lkB, hrS, hmS⟩ := bump_num DD.out.m2 (k1, k2, k3) hok.2.1 (numL L2 (k1, k2, k3) + 1) (by have := I.out.l2; unfold maxLen; omega) wd0.drew rfl
              simp only at hrE lkA lkB hrS
              refine wp_region_held_drew (S := fun w' => Kept (fun j => j = y) wd0 w') (by kernel_rfl) ?_ (fun hHeld => ?_)
              · exact (Kept.refl _ _).drew
              generalize World.drew wd0 = wd at hrE hrS lkA lkB hmS hHeld ⊢
              refine rgy (i := 0) (v := ?_) (atN rfl) (by kernel_rfl) (fun _ _ _ h => h) ?_ ?_ hHeld ?_; rotate_left 1; (· rfl); (· intro w' hSw; (try clear hHeld); go_simp; try with_reducible rfl)
              try simp only [Act.put, List.setIfInBounds_toArray, List.set_cons_zero, List.set_cons_succ]
              refine rgy (i := 1) (v := ?_) (atN rfl) (by kernel_rfl) (fun _ _ _ h => h) ?_ ?_ hHeld ?_; rotate_left 1; (· rfl); (· intro w' hSw; (try clear hHeld); go_simp; try with_reducible rfl)
              try simp only [Act.put, List.setIfInBounds_toArray, List.set_cons_zero, List.set_cons_succ]
              refine rgy (i := 2) (v := ?_) (atN rfl) (by kernel_rfl) (fun _ _ _ h => h) ?_ ?_ hHeld ?_; rotate_left 1; (· rfl); (· intro w' hSw; have s1 := hSw.cell s1 hqy; have s2 := hSw.cell s2 hqy; have s3 := hSw.cell s3 hqy; (try clear hHeld); go_simp; try with_reducible rfl)
              try simp only [Act.put, List.setIfInBounds_toArray, List.set_cons_zero, List.set_cons_succ]
              refine rg_call2 (i := 3) (j := 5) (atS (atS (atS at0))) (atS (atS (atS (atS (atS at0))))) (by kernel_rfl) ?_ ?_ (fun K hK => ?_) (fun K hK => ?_)
              · rfl
              · rfl
              · (try clear hb); (first | refine wp_look 35 (.tmp 78) (.tmp 80) false rfl rfl rfl lkA ?_ | refine wp_look 35 (.tmp 78) (.tmp 80) false rfl rfl rfl lkB ?_); refine hK.out _ _ ?_ (fun hHeld => ?_); (· exact hHeld); clear hK K
                try simp only [Act.put, List.setIfInBounds_toArray, List.set_cons_zero, List.set_cons_succ]
                refine rgy (i := 4) (v := ?_) (atN rfl) (by kernel_rfl) (fun _ _ _ h => h) ?_ ?_ hHeld ?_; rotate_left 1; (· rfl); (· intro w' hSw; (try clear hHeld); go_simp; try with_reducible rfl)
                try simp only [Act.put, List.setIfInBounds_toArray, List.set_cons_zero, List.set_cons_succ]
                refine rg_call (i := 5) (atN rfl) (by kernel_rfl) ?_ (fun K hK => ?_); (· rfl); (try clear hb); refine wp_mapEntry 35 (.tmp 78) (.tmp 80) rfl rfl rfl hrE ?_; refine hK.out _ _ ?_ (fun hHeld => ?_); (· exact hHeld.trans (Kept.setBlock _ rfl)); clear hK K
                try simp only [Act.put, List.setIfInBounds_toArray, List.set_cons_zero, List.set_cons_succ]
                refine rgy (i := 6) (v := ?_) (atN rfl) (by kernel_rfl) (fun _ _ _ h => h) ?_ ?_ hHeld ?_; rotate_left 1; (· rfl); (· intro w' hSw; (try clear hHeld); go_simp; try with_reducible rfl)
                try simp only [Act.put, List.setIfInBounds_toArray, List.set_cons_zero, List.set_cons_succ]
                refine rg_call (i := 7) (atN rfl) (by kernel_rfl) ?_ (fun K hK => ?_); (· rfl); (try clear hb); refine wp_entryStore 35 (.tmp 78) (.tmp 84) (.tmp 82) rfl rfl rfl rfl hrS ?_; refine hK.out _ _ ?_ (fun hHeld => ?_); (· exact hHeld.trans (Kept.setBlock _ rfl)); clear hK K
                try simp only [Act.put]
                refine wpAnyH_done (by kernel_rfl) ?_ _
                have hHeldS := hHeld
                try go_wp2_with fail
                have DF := DD.out.put2' hHeldS hmS
                go_wp2_with fail
                go_meet
                exact ⟨_, _, _, DF, IH.out⟩
              · (try clear hb); refine wp_mapEntry 35 (.tmp 78) (.tmp 80) rfl rfl rfl hrE ?_; refine hK.out _ _ ?_ (fun hHeld => ?_); (· exact hHeld.trans (Kept.setBlock _ rfl)); clear hK K
                try simp only [Act.put, List.setIfInBounds_toArray, List.set_cons_zero, List.set_cons_succ]
                refine rgy (i := 6) (v := ?_) (atN rfl) (by kernel_rfl) (fun _ _ _ h => h) ?_ ?_ hHeld ?_; rotate_left 1; (· rfl); (· intro w' hSw; (try clear hHeld); go_simp; try with_reducible rfl)
                try simp only [Act.put, List.setIfInBounds_toArray, List.set_cons_zero, List.set_cons_succ]
                refine rg_call (i := 3) (atN rfl) (by kernel_rfl) ?_ (fun K hK => ?_); (· rfl); (try clear hb); (first | refine wp_look 35 (.tmp 78) (.tmp 80) false rfl rfl rfl lkA ?_ | refine wp_look 35 (.tmp 78) (.tmp 80) false rfl rfl rfl lkB ?_); refine hK.out _ _ ?_ (fun hHeld => ?_); (· exact hHeld); clear hK K
                try simp only [Act.put, List.setIfInBounds_toArray, List.set_cons_zero, List.set_cons_succ]
                refine rgy (i := 4) (v := ?_) (atN rfl) (by kernel_rfl) (fun _ _ _ h => h) ?_ ?_ hHeld ?_; rotate_left 1; (· rfl); (· intro w' hSw; (try clear hHeld); go_simp; try with_reducible rfl)
                try simp only [Act.put, List.setIfInBounds_toArray, List.set_cons_zero, List.set_cons_succ]
                refine rg_call (i := 7) (atN rfl) (by kernel_rfl) ?_ (fun K hK => ?_); (· rfl); (try clear hb); refine wp_entryStore 35 (.tmp 78) (.tmp 84) (.tmp 82) rfl rfl rfl rfl hrS ?_; refine hK.out _ _ ?_ (fun hHeld => ?_); (· exact hHeld.trans (Kept.setBlock _ rfl)); clear hK K
                try simp only [Act.put]
                refine wpAnyH_done (by kernel_rfl) ?_ _
                have hHeldS := hHeld
                try go_wp2_with fail
                have DF := DD.out.put2' hHeldS hmS
                go_wp2_with fail
                go_meet
                exact ⟨_, _, _, DF, IH.out⟩
          | none =>
            have hc : ¬ (0 < numL L2 (k1, k2, k3)) := fun h => by have := I.out.c3 _ h; rw [ht] at this; cases this
            rcases least_free (fun j => (getL p.hd (j : Int)).isSome) n with hall | ⟨t0, ht0, hfree, hall⟩
            · have HT := Lib.hid (pool_Take_full D3.out.h.at_ (k1, k2, k3) hok.2.1 n I.out.most (by omega) ht hall)
              clear ht hall
              go_wp2_with fail
              refine HT.out.mono ?_
              rintro e w2 ⟨rfl, hp, hkp⟩
              have DD := Lib.hid (D3.out.step hp hkp)
              clear hp hkp HT
              go_wp2_with fail
              go_meet
              exact ⟨_, _, _, DD.out, I.out.idle⟩
            · have hfree' : getL p.hd (t0 : Int) = none := by
                cases hq : getL p.hd (t0 : Int) with
                | none => rfl
                | some z => rw [hq] at hfree; cases hfree
              have htI : I64 (t0 : Int) := by unfold I64; omega
              have IH := Lib.hid (I.out.new (k1, k2, k3) hok.2.1 (t0 : Int) htI ht hfree')
              have HT := Lib.hid (pool_Take_new D3.out.h.at_ (k1, k2, k3) hok.2.1 (by have := I.out.tgl; unfold maxLen; omega) (by have := I.out.hdl; unfold maxLen; omega) n I.out.most (by omega) ht t0 ht0 hfree' hall)
              clear ht hall hfree hfree'
              go_wp2_with fail
              refine HT.out.mono ?_
              rintro e w2 ⟨rfl, hp, hkp⟩
              have DD := Lib.hid (D3.out.step hp hkp)
              replace s0 := hkp.cell s0 hqo
              replace s1 := hkp.cell s1 hqo
              replace s2 := hkp.cell s2 hqo
              replace s3 := hkp.cell s3 hqo
              clear hp hkp D3 HT s4
              have hqy : ¬ (fun j => j = y) q := fun e => by have e2 : q = y := e; omega
              obtain ⟨o1, hs1, hm1⟩ := store_num DD.out.m1 (k1, k2, k3) hok.2.1 ((t0 : Int)) (by have := I.out.l1; unfold maxLen; omega) w2 rfl
              simp only at hs1
              have lk2 := look_num DD.out.m2 (k1, k2, k3) hok.2.1 w2 rfl
              have lk1 := look_num DD.out.m1 (k1, k2, k3) hok.2.1 w2 rfl
              simp only at lk1 lk2
              go_wp2_with fail
              have DE := Lib.hid (DD.out.put1 (below_same w2) hm1)
              have hk1 : Kept (fun j => j = x) w2 (ChangeMaps.setBlock w2 x o1) := Kept.setBlock o1 rfl
              replace s0 := hk1.cell s0 (fun e => by have e2 : q = x := e; omega)
              replace s1 := hk1.cell s1 (fun e => by have e2 : q = x := e; omega)
              replace s2 := hk1.cell s2 (fun e => by have e2 : q = x := e; omega)
              replace s3 := hk1.cell s3 (fun e => by have e2 : q = x := e; omega)
              clear hs1 hm1 hk1 lk1 lk2 DD
              have DD := DE
              clear DE
              generalize ChangeMaps.setBlock w2 x o1 = wd0 at DD s0 s1 s2 s3 ⊢
              have hwn : IntKind.i64.wrap (numL L2 (k1, k2, k3) + 1) = numL L2 (k1, k2, k3) + 1 := IntWalk.i64_in _ (by have := I.out.c5 (k1, k2, k3); omega)
              obtain ⟨oE, oS, sE, hrE, lkA, lkB, hrS, hmS⟩ := bump_num DD.out.m2 (k1, k2, k3) hok.2.1 (numL L2 (k1, k2, k3) + 1) (by have := I.out.l2; unfold maxLen; omega) wd0.drew rfl
              simp only at hrE lkA lkB hrS
              refine wp_region_held_drew (S := fun w' => Kept (fun j => j = y) wd0 w') (by kernel_rfl) ?_ (fun hHeld => ?_)
              · exact (Kept.refl _ _).drew
              generalize World.drew wd0 = wd at hrE hrS lkA lkB hmS hHeld ⊢
              refine rgy (i := 0) (v := ?_) (atN rfl) (by kernel_rfl) (fun _ _ _ h => h) ?_ ?_ hHeld ?_; rotate_left 1; (· rfl); (· intro w' hSw; (try clear hHeld); go_simp; try with_reducible rfl)
              try simp only [Act.put, List.setIfInBounds_toArray, List.set_cons_zero, List.set_cons_succ]
              refine rgy (i := 1) (v := ?_) (atN rfl) (by kernel_rfl) (fun _ _ _ h => h) ?_ ?_ hHeld ?_; rotate_left 1; (· rfl); (· intro w' hSw; (try clear hHeld); go_simp; try with_reducible rfl)
              try simp only [Act.put, List.setIfInBounds_toArray, List.set_cons_zero, List.set_cons_succ]
              refine rgy (i := 2) (v := ?_) (atN rfl) (by kernel_rfl) (fun _ _ _ h => h) ?_ ?_ hHeld ?_; rotate_left 1; (· rfl); (· intro w' hSw; have s1 := hSw.cell s1 hqy; have s2 := hSw.cell s2 hqy; have s3 := hSw.cell s3 hqy; (try clear hHeld); go_simp; try with_reducible rfl)
              try simp only [Act.put, List.setIfInBounds_toArray, List.set_cons_zero, List.set_cons_succ]
              refine rg_call2 (i := 3) (j := 5) (atS (atS (atS at0))) (atS (atS (atS (atS (atS at0))))) (by kernel_rfl) ?_ ?_ (fun K hK => ?_) (fun K hK => ?_)
              · rfl
              · rfl
              · (try clear hb); (first | refine wp_look 35 (.tmp 78) (.tmp 80) false rfl rfl rfl lkA ?_ | refine wp_look 35 (.tmp 78) (.tmp 80) false rfl rfl rfl lkB ?_); refine hK.out _ _ ?_ (fun hHeld => ?_); (· exact hHeld); clear hK K
                try simp only [Act.put, List.setIfInBounds_toArray, List.set_cons_zero, List.set_cons_succ]
                refine rgy (i := 4) (v := ?_) (atN rfl) (by kernel_rfl) (fun _ _ _ h => h) ?_ ?_ hHeld ?_; rotate_left 1; (· rfl); (· intro w' hSw; (try clear hHeld); go_simp; try with_reducible rfl)
                try simp only [Act.put, List.setIfInBounds_toArray, List.set_cons_zero, List.set_cons_succ]
                refine rg_call (i := 5) (atN rfl) (by kernel_rfl) ?_ (fun K hK => ?_); (· rfl); (try clear hb); refine wp_mapEntry 35 (.tmp 78) (.tmp 80) rfl rfl rfl hrE ?_; refine hK.out _ _ ?_ (fun hHeld => ?_); (· exact hHeld.trans (Kept.setBlock _ rfl)); clear hK K
                try simp only [Act.put, List.setIfInBounds_toArray, List.set_cons_zero, List.set_cons_succ]
                refine rgy (i := 6) (v := ?_) (atN rfl) (by kernel_rfl) (fun _ _ _ h => h) ?_ ?_ hHeld ?_; rotate_left 1; (· rfl); (· intro w' hSw; (try clear hHeld); go_simp; try with_reducible rfl)
                try simp only [Act.put, List.setIfInBounds_toArray, List.set_cons_zero, List.set_cons_succ]
                refine rg_call (i := 7) (atN rfl) (by kernel_rfl) ?_ (fun K hK => ?_); (· rfl); (try clear hb); refine wp_entryStore 35 (.tmp 78) (.tmp 84) (.tmp 82) rfl rfl rfl rfl hrS ?_; refine hK.out _ _ ?_ (fun hHeld => ?_); (· exact hHeld.trans (Kept.setBlock _ rfl)); clear hK K
                try simp only [Act.put]
                refine wpAnyH_done (by kernel_rfl) ?_ _
                have hHeldS := hHeld
                try go_wp2_with fail
                have DF := DD.out.put2' hHeldS hmS
                go_wp2_with fail
                go_meet
                exact ⟨_, _, _, DF, IH.out⟩
              · (try clear hb); refine wp_mapEntry 35 (.tmp 78) (.tmp 80) rfl rfl rfl hrE ?_; refine hK.out _ _ ?_ (fun hHeld => ?_); (· exact hHeld.trans (Kept.setBlock _ rfl)); clear hK K
                try simp only [Act.put, List.setIfInBounds_toArray, List.set_cons_zero, List.set_cons_succ]
                refine rgy (i := 6) (v := ?_) (atN rfl) (by kernel_rfl) (fun _ _ _ h => h) ?_ ?_ hHeld ?_; rotate_left 1; (· rfl); (· intro w' hSw; (try clear hHeld); go_simp; try with_reducible rfl)
                try simp only [Act.put, List.setIfInBounds_toArray, List.set_cons_zero, List.set_cons_succ]
                refine rg_call (i := 3) (atN rfl) (by kernel_rfl) ?_ (fun K hK => ?_); (· rfl); (try clear hb); (first | refine wp_look 35 (.tmp 78) (.tmp 80) false rfl rfl rfl lkA ?_ | refine wp_look 35 (.tmp 78) (.tmp 80) false rfl rfl rfl lkB ?_); refine hK.out _ _ ?_ (fun hHeld => ?_); (· exact hHeld); clear hK K
                try simp only [Act.put, List.setIfInBounds_toArray, List.set_cons_zero, List.set_cons_succ]
                refine rgy (i := 4) (v := ?_) (atN rfl) (by kernel_rfl) (fun _ _ _ h => h) ?_ ?_ hHeld ?_; rotate_left 1; (· rfl); (· intro w' hSw; (try clear hHeld); go_simp; try with_reducible rfl)
                try simp only [Act.put, List.setIfInBounds_toArray, List.set_cons_zero, List.set_cons_succ]
                refine rg_call (i := 7) (atN rfl) (by kernel_rfl) ?_ (fun K hK => ?_); (· rfl); (try clear hb); refine wp_entryStore 35 (.tmp 78) (.tmp 84) (.tmp 82) rfl rfl rfl rfl hrS ?_; refine hK.out _ _ ?_ (fun hHeld => ?_); (· exact hHeld.trans (Kept.setBlock _ rfl)); clear hK K
                try simp only [Act.put]
                refine wpAnyH_done (by kernel_rfl) ?_ _
                have hHeldS := hHeld
                try go_wp2_with fail
                have DF := DD.out.put2' hHeldS hmS
                go_wp2_with fail
                go_meet
                exact ⟨_, _, _, DF, IH.out⟩
        · have h0' : (sk == 0) = false := by rw [beq_eq_false_iff_ne]; exact h0
          by_cases h1 : sk = 1
          · subst h1
            have HK := Lib.hid (pool_Key D3.out.h.at_ st hok.2.2)
            cases hg : getL p.hd st with
            | none =>
              rw [hg] at HK
              clear hg
              go_wp2_with fail
              refine HK.out.mono ?_
              rintro e w2 ⟨rfl, hb⟩
              have DD := Lib.hid ((D3.out.on hb).on ((Below.refl _ _).alloc (Nat.le_refl _) (.cells #[.int .i64 0, .int .i64 0, .int .i64 0] 30)))
              clear hb HK
              go_wp2_with fail
              go_meet
              exact ⟨_, _, _, DD.out, I.out.idle⟩
            | some z =>
              obtain ⟨⟨j1, j2, j3⟩, u⟩ := z
              obtain ⟨-, hu0, hui, hkj, -, -⟩ := I.out.c2 _ _ _ hg
              have HK2 := HK.out
              rw [hg] at HK2
              simp only [Option.getD_some, Option.isSome_some] at HK2
              have HK3 := Lib.hid HK2
              clear HK HK2
              have HG := Lib.hid hg
              clear hg
              go_wp2_with fail
              refine HK3.out.mono ?_
              rintro e w2 ⟨rfl, hb⟩
              have hb2 : Below w2.heap.size w2 (w2.alloc (.cells #[.int .i64 j1, .int .i64 j2, .int .i64 j3] 30)) := (Below.refl _ _).alloc (Nat.le_refl _) _
              have DD := Lib.hid ((D3.out.on hb).on hb2)
              have hz := hb.size
              have lq := size_lt s4
              replace s2 := cell_below (cell_below s2 hb) hb2
              replace s4 := cell_below (cell_below s4 hb) hb2
              have r0 : (w2.alloc (.cells #[.int .i64 j1, .int .i64 j2, .int .i64 j3] 30)).cell? ⟨w2.heap.size, 0, none⟩ = some (.int .i64 j1) := by simp
              have r1 : (w2.alloc (.cells #[.int .i64 j1, .int .i64 j2, .int .i64 j3] 30)).cell? ⟨w2.heap.size, 1, none⟩ = some (.int .i64 j2) := by simp
              have r2 : (w2.alloc (.cells #[.int .i64 j1, .int .i64 j2, .int .i64 j3] 30)).cell? ⟨w2.heap.size, 2, none⟩ = some (.int .i64 j3) := by simp
              have hcut2 : True := trivial
              have lz := D3.out.lts
              clear D3 HK3 hb hb2 s0 s1 s3
              go_upto_region 23 with fail
              generalize w2.alloc (.cells #[.int .i64 j1, .int .i64 j2, .int .i64 j3] 30) = wk at DD s2 s4 r0 r1 r2 ⊢
              generalize w2.heap.size = z at r0 r1 r2 hz ⊢
              have hzo : ¬ Of2 a b z := by rintro (e | e) <;> omega
              have hqy : ¬ (fun j => j = y) z := fun e => by have e2 : z = y := e; omega
              by_cases hu : u = 0
              · have HT := Lib.hid (pool_Give_no DD.out.h.at_ st hok.2.2 (by rw [HG.out, hu]; rfl))
                clear hu
                go_wp2_with fail
                refine HT.out.mono ?_
                rintro e w5 ⟨rfl, hb⟩
                have DE := Lib.hid (DD.out.on hb)
                clear hb HT
                go_wp2_with fail
                go_meet
                exact ⟨_, _, _, DE.out, I.out.idle⟩
              · have IH := Lib.hid (I.out.give (j1, j2, j3) st u HG.out (by omega))
                have HT := Lib.hid (pool_Give_yes DD.out.h.at_ st hok.2.2 (j1, j2, j3) u HG.out (by omega) (by omega) (by have := I.out.hdl; unfold maxLen; omega))
                go_wp2_with fail
                refine HT.out.mono ?_
                rintro e wd0 ⟨rfl, hp, hkp⟩
                have DE := Lib.hid (DD.out.step hp hkp)
                replace r0 := hkp.cell r0 hzo
                replace r1 := hkp.cell r1 hzo
                replace r2 := hkp.cell r2 hzo
                clear hp hkp HT DD s2 s4
                have DD := DE
                clear DE
                have hwn : IntKind.i64.wrap (numL L2 (j1, j2, j3) - 1) = numL L2 (j1, j2, j3) - 1 := IntWalk.i64_in _ (by have := I.out.c5 (j1, j2, j3); omega)
                go_wp2_with fail
                obtain ⟨oE, oS, sE, hrE, lkA, lkB, hrS, hmS⟩ := bump_num DD.out.m2 (j1, j2, j3) hkj (numL L2 (j1, j2, j3) - 1) (by have := I.out.l2; unfold maxLen; omega) wd0.drew rfl
                simp only at hrE lkA lkB hrS
                refine wp_region_held_drew (S := fun w' => Kept (fun j => j = y) wd0 w') (by kernel_rfl) ?_ (fun hHeld => ?_)
                · exact (Kept.refl _ _).drew
                generalize World.drew wd0 = wd at hrE hrS lkA lkB hmS hHeld ⊢
                refine rgy (i := 0) (v := ?_) (atN rfl) (by kernel_rfl) (fun _ _ _ h => h) ?_ ?_ hHeld ?_; rotate_left 1; (· rfl); (· intro w' hSw; (try clear hHeld); go_simp; try with_reducible rfl)
                try simp only [Act.put, List.setIfInBounds_toArray, List.set_cons_zero, List.set_cons_succ]
                refine rgy (i := 1) (v := ?_) (atN rfl) (by kernel_rfl) (fun _ _ _ h => h) ?_ ?_ hHeld ?_; rotate_left 1; (· rfl); (· intro w' hSw; have r0 := hSw.cell r0 hqy; have r1 := hSw.cell r1 hqy; have r2 := hSw.cell r2 hqy; (try clear hHeld); go_simp; try with_reducible rfl)
                try simp only [Act.put, List.setIfInBounds_toArray, List.set_cons_zero, List.set_cons_succ]
                refine rg_call2 (i := 2) (j := 4) (atS (atS at0)) (atS (atS (atS (atS at0)))) (by kernel_rfl) ?_ ?_ (fun K hK => ?_) (fun K hK => ?_)
                · rfl
                · rfl
                · (try clear hb); (first | refine wp_look 35 (.tmp 102) (.tmp 103) false rfl rfl rfl lkA ?_ | refine wp_look 35 (.tmp 102) (.tmp 103) false rfl rfl rfl lkB ?_); refine hK.out _ _ ?_ (fun hHeld => ?_); (· exact hHeld); clear hK K
                  try simp only [Act.put, List.setIfInBounds_toArray, List.set_cons_zero, List.set_cons_succ]
                  refine rgy (i := 3) (v := ?_) (atN rfl) (by kernel_rfl) (fun _ _ _ h => h) ?_ ?_ hHeld ?_; rotate_left 1; (· rfl); (· intro w' hSw; (try clear hHeld); go_simp; try with_reducible rfl)
                  try simp only [Act.put, List.setIfInBounds_toArray, List.set_cons_zero, List.set_cons_succ]
                  refine rg_call (i := 4) (atN rfl) (by kernel_rfl) ?_ (fun K hK => ?_); (· rfl); (try clear hb); refine wp_mapEntry 35 (.tmp 102) (.tmp 103) rfl rfl rfl hrE ?_; refine hK.out _ _ ?_ (fun hHeld => ?_); (· exact hHeld.trans (Kept.setBlock _ rfl)); clear hK K
                  try simp only [Act.put, List.setIfInBounds_toArray, List.set_cons_zero, List.set_cons_succ]
                  refine rgy (i := 5) (v := ?_) (atN rfl) (by kernel_rfl) (fun _ _ _ h => h) ?_ ?_ hHeld ?_; rotate_left 1; (· rfl); (· intro w' hSw; (try clear hHeld); go_simp; try with_reducible rfl)
                  try simp only [Act.put, List.setIfInBounds_toArray, List.set_cons_zero, List.set_cons_succ]
                  refine rg_call (i := 6) (atN rfl) (by kernel_rfl) ?_ (fun K hK => ?_); (· rfl); (try clear hb); refine wp_entryStore 35 (.tmp 102) (.tmp 107) (.tmp 105) rfl rfl rfl rfl hrS ?_; refine hK.out _ _ ?_ (fun hHeld => ?_); (· exact hHeld.trans (Kept.setBlock _ rfl)); clear hK K
                  try simp only [Act.put]
                  refine wpAnyH_done (by kernel_rfl) ?_ _
                  have hHeldS := hHeld
                  try go_wp2_with fail
                  have DF := DD.out.put2' hHeldS hmS
                  go_wp2_with fail
                  go_meet
                  exact ⟨_, _, _, DF, IH.out⟩
                · (try clear hb); refine wp_mapEntry 35 (.tmp 102) (.tmp 103) rfl rfl rfl hrE ?_; refine hK.out _ _ ?_ (fun hHeld => ?_); (· exact hHeld.trans (Kept.setBlock _ rfl)); clear hK K
                  try simp only [Act.put, List.setIfInBounds_toArray, List.set_cons_zero, List.set_cons_succ]
                  refine rgy (i := 5) (v := ?_) (atN rfl) (by kernel_rfl) (fun _ _ _ h => h) ?_ ?_ hHeld ?_; rotate_left 1; (· rfl); (· intro w' hSw; (try clear hHeld); go_simp; try with_reducible rfl)
                  try simp only [Act.put, List.setIfInBounds_toArray, List.set_cons_zero, List.set_cons_succ]
                  refine rg_call (i := 2) (atN rfl) (by kernel_rfl) ?_ (fun K hK => ?_); (· rfl); (try clear hb); (first | refine wp_look 35 (.tmp 102) (.tmp 103) false rfl rfl rfl lkA ?_ | refine wp_look 35 (.tmp 102) (.tmp 103) false rfl rfl rfl lkB ?_); refine hK.out _ _ ?_ (fun hHeld => ?_); (· exact hHeld); clear hK K
                  try simp only [Act.put, List.setIfInBounds_toArray, List.set_cons_zero, List.set_cons_succ]
                  refine rgy (i := 3) (v := ?_) (atN rfl) (by kernel_rfl) (fun _ _ _ h => h) ?_ ?_ hHeld ?_; rotate_left 1; (· rfl); (· intro w' hSw; (try clear hHeld); go_simp; try with_reducible rfl)
                  try simp only [Act.put, List.setIfInBounds_toArray, List.set_cons_zero, List.set_cons_succ]
                  refine rg_call (i := 6) (atN rfl) (by kernel_rfl) ?_ (fun K hK => ?_); (· rfl); (try clear hb); refine wp_entryStore 35 (.tmp 102) (.tmp 107) (.tmp 105) rfl rfl rfl rfl hrS ?_; refine hK.out _ _ ?_ (fun hHeld => ?_); (· exact hHeld.trans (Kept.setBlock _ rfl)); clear hK K
                  try simp only [Act.put]
                  refine wpAnyH_done (by kernel_rfl) ?_ _
                  have hHeldS := hHeld
                  try go_wp2_with fail
                  have DF := DD.out.put2' hHeldS hmS
                  go_wp2_with fail
                  go_meet
                  exact ⟨_, _, _, DF, IH.out⟩
          · have h1' : (sk == 1) = false := by rw [beq_eq_false_iff_ne]; exact h1
            by_cases h2 : sk = 2
            · subst h2
              have HT := Lib.hid (pool_Sweep D3.out.h.at_ (by have := I.out.hdl; omega) (fun e he => (I.out.c2 e.1 e.2.1 e.2.2 (getL_of_mem D3.out.h.at_.hd.apart he)).2.2.2.1))
              go_wp2_with fail
              refine HT.out.mono ?_
              rintro e w2 ⟨rfl, hp, hkp⟩
              have DD := Lib.hid (D3.out.step hp hkp)
              have IS := Lib.hid (I.out.sweep D3.out.h.at_.tg.apart D3.out.h.at_.hd.apart)
              clear hp hkp HT D3
              go_wp2_with fail
              go_meet
              exact ⟨_, _, _, DD.out, IS.out⟩
            · have h2' : (sk == 2) = false := by rw [beq_eq_false_iff_ne]; exact h2
              go_wp2_with fail
              go_meet
              exact ⟨_, _, _, D3.out, I.out.idle⟩
      case rest =>
        obtain ⟨p2, M1, M2, hD, hI⟩ := hcut
        have J := Lib.hid hI
        obtain ⟨W1, hr, hR, hB, hz⟩ := hD.m2.range Try.underlying35
        obtain ⟨mg, ma, mb, mx, my, mw⟩ := hD.lts
        have E0 := Lib.hid (⟨hD.on hB, hR⟩ : KD w W1 g a b x y p2 M1 M2 ∧ RangeT kyV nV KyOk W1 y wc.heap.size M2 M2)
        clear D3 I s0 s1 s2 s3 s4 hqo hI hD hR hB hz lg la lb lx ly lw
        go_wp2_with fail
        clear hr
        generalize wc.heap.size = r at E0 mg ma mb mx my mw ⊢
        go_loopw [16] (fun _ wr2 => ∃ left : List (Ky × Int), KD w wr2 g a b x y p2 M1 M2 ∧ RangeT kyV nV KyOk wr2 y r M2 left) (fun _ wr2 => wr2.rangeLeft y r)
        case atStart => exact ⟨M2, E0.out⟩
        case round =>
          obtain ⟨left, hD, hR⟩ := hrel
          clear E0
          have hrl := hR.left_eq
          have HRL := Lib.hid hrl
          clear hrl
          rcases hR.next (P := Try.prog) 0 with ⟨rfl, hn⟩ | ⟨ii, qq, W2, hi2, hq, hn, hR1, hk1, hz1, hen⟩
          · have hn' : ∀ ty, (Instr.next (.pointer (some ⟨r, 0, none⟩)) false ty).run Try.prog wr = .ok (.tuple #[.bool false]) wr := fun _ => hn
            have DD := Lib.hid hD
            clear hn hR hD
            go_wp2_with fail
            exact ⟨⟨i + 1, p2, M1, M2, by omega, by omega, by simp, DD.out, J.out⟩, by simp [intOf]; omega⟩
          · have hlen2 : (left.eraseIdx ii).length < left.length := by
              have := (List.getElem?_eq_some_iff.1 hi2).1
              rw [List.length_eraseIdx_of_lt this]; omega
            have HL2 := Lib.hid hlen2
            have HQ := Lib.hid hq
            obtain ⟨⟨j1, j2, j3⟩, u⟩ := qq
            have hkj : KyOk (j1, j2, j3) := hD.m2.oks _ hq
            have hD2 := hD.kept hk1 (by omega) (by omega) (by omega) (by omega) (by omega) (by omega)
            have hbk : Below W2.heap.size W2 (W2.alloc (.cells #[.int .i64 j1, .int .i64 j2, .int .i64 j3] 30)) := (Below.refl _ _).alloc (Nat.le_refl _) _
            obtain ⟨W5, hr2, hRi, hBi, hzi⟩ := (hD2.on hbk).m2.range Try.underlying35
            have r0 : (W2.alloc (.cells #[.int .i64 j1, .int .i64 j2, .int .i64 j3] 30)).cell? ⟨W2.heap.size, 0, none⟩ = some (.int .i64 j1) := by simp
            have r1 : (W2.alloc (.cells #[.int .i64 j1, .int .i64 j2, .int .i64 j3] 30)).cell? ⟨W2.heap.size, 1, none⟩ = some (.int .i64 j2) := by simp
            have r2 : (W2.alloc (.cells #[.int .i64 j1, .int .i64 j2, .int .i64 j3] 30)).cell? ⟨W2.heap.size, 2, none⟩ = some (.int .i64 j3) := by simp
            have hs1 : (W2.alloc (.cells #[.int .i64 j1, .int .i64 j2, .int .i64 j3] 30)).heap.size = W2.heap.size + 1 := by simp
            rw [hs1] at hRi hr2
            have hrW2 : r < W2.heap.size := by rw [hz1]; exact hR.lt
            have F0 := Lib.hid (⟨(hD2.on hbk).on hBi, (hR1.below hbk).below hBi, hRi, cell_below r0 hBi, cell_below r1 hBi, cell_below r2 hBi⟩ : KD w W5 g a b x y p2 M1 M2 ∧ RangeT kyV nV KyOk W5 y r M2 (left.eraseIdx ii) ∧ RangeT kyV nV KyOk W5 y (W2.heap.size + 1) M2 M2 ∧ W5.cell? ⟨W2.heap.size, 0, none⟩ = some (.int .i64 j1) ∧ W5.cell? ⟨W2.heap.size, 1, none⟩ = some (.int .i64 j2) ∧ W5.cell? ⟨W2.heap.size, 2, none⟩ = some (.int .i64 j3))
            simp only [kyV, kyC, nV] at hn hen
            have hn' : ∀ ty, (Instr.next (.pointer (some ⟨r, 0, none⟩)) false ty).run Try.prog wr = .ok (.tuple #[.bool true, .agg #[.int .i64 j1, .int .i64 j2, .int .i64 j3], .int .i64 u]) W2 := fun _ => hn
            clear hn hq hi2 hR1 hk1 hz1 hbk hRi hBi hzi r0 r1 r2 hs1 hD2 hR hlen2 hD
            go_wp2_with fail
            clear hn' hen hr2
            generalize W2.heap.size = z at F0 hrW2 ⊢
            go_loopw [18] (fun _ wr3 => ∃ left2 : List (Ky × Int), KD w wr3 g a b x y p2 M1 M2 ∧ RangeT kyV nV KyOk wr3 y r M2 (left.eraseIdx ii) ∧ RangeT kyV nV KyOk wr3 y (z + 1) M2 left2 ∧ wr3.cell? ⟨z, 0, none⟩ = some (.int .i64 j1) ∧ wr3.cell? ⟨z, 1, none⟩ = some (.int .i64 j2) ∧ wr3.cell? ⟨z, 2, none⟩ = some (.int .i64 j3)) (fun _ wr3 => wr3.rangeLeft y (z + 1))
            case atStart => exact ⟨M2, F0.out⟩
            case round =>
              obtain ⟨left2, hD, hR, hRi, r0, r1, r2⟩ := hrel
              clear F0
              have HRL2 := Lib.hid hRi.left_eq
              have hU : numL M2 (j1, j2, j3) = u := by unfold numL; rw [getL_of_mem hD.m2.apart HQ.out]; rfl
              have HU := Lib.hid hU
              clear hU
              rcases hRi.next (P := Try.prog) 0 with ⟨rfl, hn⟩ | ⟨i3, q3, W6, hi3, hq3, hn, hR6, hk6, hz6, hen⟩
              · have hn' : ∀ ty, (Instr.next (.pointer (some ⟨z + 1, 0, none⟩)) false ty).run Try.prog wr = .ok (.tuple #[.bool false]) wr := fun _ => hn
                have lk1 := look_num hD.m1 (j1, j2, j3) hkj wr rfl
                simp only at lk1
                have GG := Lib.hid (⟨hD, hR⟩ : KD w wr g a b x y p2 M1 M2 ∧ RangeT kyV nV KyOk wr y r M2 (left.eraseIdx ii))
                have HK := pool_Key hD.h.at_ (numL M1 (j1, j2, j3)) (J.out.c4 _)
                clear hn hRi hD hR
                by_cases hu : 0 < u
                · obtain ⟨v', hv⟩ := J.out.held (k := (j1, j2, j3)) (by rw [HU.out]; exact hu)
                  rw [hv] at HK
                  simp only [Option.getD_some, Option.isSome_some] at HK
                  have HK2 := Lib.hid HK
                  clear HK hv
                  have ek := eqK_yes j1 j2 j3
                  go_wp2_with fail
                  refine HK2.out.mono ?_
                  rintro e w8 ⟨rfl, hb⟩
                  have hbx : Below w8.heap.size w8 (w8.alloc (.cells #[.int .i64 j1, .int .i64 j2, .int .i64 j3] 30)) := (Below.refl _ _).alloc (Nat.le_refl _) _
                  have G8 := Lib.hid (⟨(GG.out.1.on hb).on hbx, (GG.out.2.below hb).below hbx⟩ : KD w (w8.alloc (.cells #[.int .i64 j1, .int .i64 j2, .int .i64 j3] 30)) g a b x y p2 M1 M2 ∧ RangeT kyV nV KyOk (w8.alloc (.cells #[.int .i64 j1, .int .i64 j2, .int .i64 j3] 30)) y r M2 (left.eraseIdx ii))
                  have hz8 := hb.size
                  have hz9 := size_lt r0
                  have hz10 : z < w8.heap.size := by omega
                  replace r0 := cell_below r0 hb
                  replace r1 := cell_below r1 hb
                  replace r2 := cell_below r2 hb
                  clear hb hbx HK2 lk1 hn' GG
                  go_wp2_with fail
                  exact ⟨⟨_, G8.out⟩, by rw [G8.out.2.left_eq, HRL.out]; exact HL2.out⟩
                · have hu' : decide (0 < u) = false := by simpa using hu
                  generalize ((getL p2.hd (numL M1 (j1, j2, j3))).getD ((0, 0, 0), 0)).1 = kk at HK
                  generalize (getL p2.hd (numL M1 (j1, j2, j3))).isSome = okb at HK
                  obtain ⟨x1, x2, x3⟩ := kk
                  have HK2 := Lib.hid HK
                  clear HK
                  go_wp2_with fail
                  refine HK2.out.mono ?_
                  rintro e w8 ⟨rfl, hb⟩
                  have hbx : Below w8.heap.size w8 (w8.alloc (.cells #[.int .i64 x1, .int .i64 x2, .int .i64 x3] 30)) := (Below.refl _ _).alloc (Nat.le_refl _) _
                  have G8 := Lib.hid (⟨(GG.out.1.on hb).on hbx, (GG.out.2.below hb).below hbx⟩ : KD w (w8.alloc (.cells #[.int .i64 x1, .int .i64 x2, .int .i64 x3] 30)) g a b x y p2 M1 M2 ∧ RangeT kyV nV KyOk (w8.alloc (.cells #[.int .i64 x1, .int .i64 x2, .int .i64 x3] 30)) y r M2 (left.eraseIdx ii))
                  clear hb hbx HK2 lk1 hn' GG r0 r1 r2
                  go_wp2_with fail
                  exact ⟨⟨_, G8.out⟩, by rw [G8.out.2.left_eq, HRL.out]; exact HL2.out⟩
              · have hlen3 : (left2.eraseIdx i3).length < left2.length := by
                  have := (List.getElem?_eq_some_iff.1 hi3).1
                  rw [List.length_eraseIdx_of_lt this]; omega
                have HL3 := Lib.hid hlen3
                obtain ⟨⟨l1, l2, l3⟩, m⟩ := q3
                have hkl : KyOk (l1, l2, l3) := hD.m2.oks _ hq3
                have hM : numL M2 (l1, l2, l3) = m := by unfold numL; rw [getL_of_mem hD.m2.apart hq3]; rfl
                have HM := Lib.hid hM
                have hD6 := hD.kept hk6 (by omega) (by omega) (by omega) (by omega) (by omega) (by omega)
                have hR7 := hR.kept hk6 (fun e => by have e2 : y = z + 1 := e; omega) (fun e => by have e2 : r = z + 1 := e; omega)
                have t0 := hk6.cell r0 (fun e => by have e2 : z = z + 1 := e; omega)
                have t1 := hk6.cell r1 (fun e => by have e2 : z = z + 1 := e; omega)
                have t2 := hk6.cell r2 (fun e => by have e2 : z = z + 1 := e; omega)
                have hbl : Below W6.heap.size W6 (W6.alloc (.cells #[.int .i64 l1, .int .i64 l2, .int .i64 l3] 30)) := (Below.refl _ _).alloc (Nat.le_refl _) _
                have GG := Lib.hid (⟨hD6.on hbl, hR7.below hbl, hR6.below hbl⟩ : KD w (W6.alloc (.cells #[.int .i64 l1, .int .i64 l2, .int .i64 l3] 30)) g a b x y p2 M1 M2 ∧ RangeT kyV nV KyOk (W6.alloc (.cells #[.int .i64 l1, .int .i64 l2, .int .i64 l3] 30)) y r M2 (left.eraseIdx ii) ∧ RangeT kyV nV KyOk (W6.alloc (.cells #[.int .i64 l1, .int .i64 l2, .int .i64 l3] 30)) y (z + 1) M2 (left2.eraseIdx i3))
                replace t0 := cell_below t0 hbl
                replace t1 := cell_below t1 hbl
                replace t2 := cell_below t2 hbl
                have v0 : (W6.alloc (.cells #[.int .i64 l1, .int .i64 l2, .int .i64 l3] 30)).cell? ⟨W6.heap.size, 0, none⟩ = some (.int .i64 l1) := by simp
                have v1 : (W6.alloc (.cells #[.int .i64 l1, .int .i64 l2, .int .i64 l3] 30)).cell? ⟨W6.heap.size, 1, none⟩ = some (.int .i64 l2) := by simp
                have v2 : (W6.alloc (.cells #[.int .i64 l1, .int .i64 l2, .int .i64 l3] 30)).cell? ⟨W6.heap.size, 2, none⟩ = some (.int .i64 l3) := by simp
                simp only [kyV, kyC, nV] at hn hen
                have hn' : ∀ ty, (Instr.next (.pointer (some ⟨z + 1, 0, none⟩)) false ty).run Try.prog wr = .ok (.tuple #[.bool true, .agg #[.int .i64 l1, .int .i64 l2, .int .i64 l3], .int .i64 m]) W6 := fun _ => hn
                clear hn hq3 hi3 hR6 hk6 hz6 hbl hD6 hR7 hR hRi hD hlen3 hM r0 r1 r2
                go_wp2_with fail
                generalize W6.alloc (.cells #[.int .i64 l1, .int .i64 l2, .int .i64 l3] 30) = Wl at GG t0 t1 t2 v0 v1 v2 ⊢
                clear hn' hen
                generalize W6.heap.size = zz at v0 v1 v2 ⊢
                have lkk := fun nq => look_num GG.out.1.m1 (j1, j2, j3) hkj (Wl.drewN nq) rfl
                have lkl := fun nq => look_num GG.out.1.m1 (l1, l2, l3) hkl (Wl.drewN nq) rfl
                simp only at lkk lkl
                by_cases hu : 0 < u
                · have hu' : decide (0 < u) = true := by simpa using hu
                  by_cases hm : 0 < m
                  · have hm' : decide (0 < m) = true := by simpa using hm
                    by_cases hkl2 : ((j1, j2, j3) : Ky) = (l1, l2, l3)
                    · have hek : eqK j1 j2 j3 l1 l2 l3 = true := (eqK_iff _ _ _ _ _ _).2 hkl2
                      clear hkl2
                      go_quiet (fail)
                      have hB9 : Below Wl.heap.size Wl (Wl.drewN nq) := ⟨rfl, rfl, rfl, Nat.le_refl _, fun _ _ => rfl⟩
                      generalize Wl.drewN nq = W9 at hB9 ⊢
                      have G9 := Lib.hid (⟨GG.out.1.on hB9, GG.out.2.1.below hB9, GG.out.2.2.below hB9, cell_below t0 hB9, cell_below t1 hB9, cell_below t2 hB9⟩ : KD w W9 g a b x y p2 M1 M2 ∧ RangeT kyV nV KyOk W9 y r M2 (left.eraseIdx ii) ∧ RangeT kyV nV KyOk W9 y (z + 1) M2 (left2.eraseIdx i3) ∧ W9.cell? ⟨z, 0, none⟩ = some (.int .i64 j1) ∧ W9.cell? ⟨z, 1, none⟩ = some (.int .i64 j2) ∧ W9.cell? ⟨z, 2, none⟩ = some (.int .i64 j3))
                      clear hB9 t0 t1 t2 v0 v1 v2 lkk lkl GG
                      go_wp2_with fail
                      exact ⟨⟨_, G9.out⟩, by rw [G9.out.2.2.1.left_eq, HRL2.out]; exact HL3.out⟩
                    · have hek : eqK j1 j2 j3 l1 l2 l3 = false := by
                        cases hq9 : eqK j1 j2 j3 l1 l2 l3 with
                        | false => rfl
                        | true => exact absurd ((eqK_iff _ _ _ _ _ _).1 hq9) hkl2
                      have hne : (numL M1 (j1, j2, j3) == numL M1 (l1, l2, l3)) = false := by
                        rw [beq_eq_false_iff_ne]
                        exact J.out.apart (by rw [HU.out]; exact hu) (by rw [HM.out]; exact hm) hkl2
                      clear hkl2
                      go_quiet (fail)
                      have hB9 : Below Wl.heap.size Wl (Wl.drewN nq) := ⟨rfl, rfl, rfl, Nat.le_refl _, fun _ _ => rfl⟩
                      generalize Wl.drewN nq = W9 at hB9 ⊢
                      have G9 := Lib.hid (⟨GG.out.1.on hB9, GG.out.2.1.below hB9, GG.out.2.2.below hB9, cell_below t0 hB9, cell_below t1 hB9, cell_below t2 hB9⟩ : KD w W9 g a b x y p2 M1 M2 ∧ RangeT kyV nV KyOk W9 y r M2 (left.eraseIdx ii) ∧ RangeT kyV nV KyOk W9 y (z + 1) M2 (left2.eraseIdx i3) ∧ W9.cell? ⟨z, 0, none⟩ = some (.int .i64 j1) ∧ W9.cell? ⟨z, 1, none⟩ = some (.int .i64 j2) ∧ W9.cell? ⟨z, 2, none⟩ = some (.int .i64 j3))
                      clear hB9 t0 t1 t2 v0 v1 v2 lkk lkl GG
                      go_wp2_with fail
                      exact ⟨⟨_, G9.out⟩, by rw [G9.out.2.2.1.left_eq, HRL2.out]; exact HL3.out⟩
                  · have hm' : decide (0 < m) = false := by simpa using hm
                    go_quiet (fail)
                    have hB9 : Below Wl.heap.size Wl (Wl.drewN nq) := ⟨rfl, rfl, rfl, Nat.le_refl _, fun _ _ => rfl⟩
                    generalize Wl.drewN nq = W9 at hB9 ⊢
                    have G9 := Lib.hid (⟨GG.out.1.on hB9, GG.out.2.1.below hB9, GG.out.2.2.below hB9, cell_below t0 hB9, cell_below t1 hB9, cell_below t2 hB9⟩ : KD w W9 g a b x y p2 M1 M2 ∧ RangeT kyV nV KyOk W9 y r M2 (left.eraseIdx ii) ∧ RangeT kyV nV KyOk W9 y (z + 1) M2 (left2.eraseIdx i3) ∧ W9.cell? ⟨z, 0, none⟩ = some (.int .i64 j1) ∧ W9.cell? ⟨z, 1, none⟩ = some (.int .i64 j2) ∧ W9.cell? ⟨z, 2, none⟩ = some (.int .i64 j3))
                    clear hB9 t0 t1 t2 v0 v1 v2 lkk lkl GG
                    go_wp2_with fail
                    exact ⟨⟨_, G9.out⟩, by rw [G9.out.2.2.1.left_eq, HRL2.out]; exact HL3.out⟩
                · have hu' : decide (0 < u) = false := by simpa using hu
                  go_quiet (fail)
                  have hB9 : Below Wl.heap.size Wl (Wl.drewN nq) := ⟨rfl, rfl, rfl, Nat.le_refl _, fun _ _ => rfl⟩
                  generalize Wl.drewN nq = W9 at hB9 ⊢
                  have G9 := Lib.hid (⟨GG.out.1.on hB9, GG.out.2.1.below hB9, GG.out.2.2.below hB9, cell_below t0 hB9, cell_below t1 hB9, cell_below t2 hB9⟩ : KD w W9 g a b x y p2 M1 M2 ∧ RangeT kyV nV KyOk W9 y r M2 (left.eraseIdx ii) ∧ RangeT kyV nV KyOk W9 y (z + 1) M2 (left2.eraseIdx i3) ∧ W9.cell? ⟨z, 0, none⟩ = some (.int .i64 j1) ∧ W9.cell? ⟨z, 1, none⟩ = some (.int .i64 j2) ∧ W9.cell? ⟨z, 2, none⟩ = some (.int .i64 j3))
                  clear hB9 t0 t1 t2 v0 v1 v2 lkk lkl GG
                  go_wp2_with fail
                  exact ⟨⟨_, G9.out⟩, by rw [G9.out.2.2.1.left_eq, HRL2.out]; exact HL3.out⟩
    · have hlt' : ¬ (i < xs.length) ∨ ¬ (i < 80) := by omega
      clear hlt
      by_cases hl1 : i < xs.length
      · have hl2 : ¬ ((i : Int) < 80) := by omega
        go_wp2_with fail
        go_ret
        exact ⟨rfl, D.out.h.below⟩
      · go_wp2_with fail
        go_ret
        exact ⟨rfl, D.out.h.below⟩
end Go.Proofs.Ytcoclbcjbpjblaa
