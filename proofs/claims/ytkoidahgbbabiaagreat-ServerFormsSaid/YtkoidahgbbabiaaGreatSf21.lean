/- Texts of one proof, one behind another. -/
import Derived.Test.YtkoidahgbbabiaaGreatSf19
import Derived.Test.YtkoidahgbbabiaaGreatSf20
import Derived.Test.YtkoidahgbbabiaaGreatSf1
/-
  THE SERVER, MADE: New, walked.
-/
namespace Go.Proofs.YtkoidahgbbabiaaGreat
open Go.RowKit
theorem sd_pair {w : World} {s : Option Addr} {n c : Nat} {xs : List Sd} (h : SdsAt w (.slice s n c) xs) {i : Nat} {x : Sd} (hx : xs[i]? = some x) : ∃ g o, s = some ⟨g, o, none⟩ ∧ (x.2 < 4294967296 ∧ I64r x.1) ∧ w.cell? ⟨g, o + i * 2, none⟩ = some (.int .i64 x.1) ∧ w.cell? ⟨g, o + i * 2 + 1, none⟩ = some (.int .u32 x.2) := by
  obtain ⟨s', c', e, h1, h2, h3⟩ := h
  injection e with e _ _
  subst e
  have hi := (List.getElem?_eq_some_iff.1 hx).1
  obtain ⟨b, off, rfl, h4⟩ := h3 (by omega)
  obtain ⟨cs, l, ⟨rfl, hR⟩, hc⟩ := h4 i x hx
  exact ⟨b, off, rfl, hR, hc 0 _ rfl, hc 1 _ rfl⟩
theorem SdsAt.below {W W' : World} {v : Value} {xs : List Sd} (h : SdsAt W v xs) (hb : Below W.heap.size W W') : SdsAt W' v xs := SlAt.below h hb fun _ _ h => h
theorem mb_built (a : Int) (id rb bb nb : Nat) : Tryz.prog.built 130 [(0, .agg #[.int .i64 a, .int .u32 id]), (2, .pointer (some ⟨rb, 0, none⟩)), (3, .map (some bb)), (4, .map (some nb))] = some #[.int .i64 a, .int .u32 id, .bool false, .pointer (some ⟨rb, 0, none⟩), .map (some bb), .map (some nb)] := by kernel_rfl
theorem exec_built4 {P : Program} {oi : Oper} {ev : Operand → Value} {w : World} (t : TypeId) (i0 i1 i2 i3 : Nat) (x0 x1 x2 x3 : Operand) (ho : oi.op = .build t #[(i0, x0), (i1, x1), (i2, x2), (i3, x3)]) (v0 v1 v2 v3 : Value) (h0 : ev x0 = v0) (h1 : ev x1 = v1) (h2 : ev x2 = v2) (h3 : ev x3 = v3) (cells : Array Value) (hc : P.built t [(i0, v0), (i1, v1), (i2, v2), (i3, v3)] = some cells) : (execOp ev oi).run P w = .ok (.value (.agg cells)) w := by
  have hr := run_build (P := P) w t ((#[(i0, x0), (i1, x1), (i2, x2), (i3, x3)] : Array (Nat × Operand)).map fun (i, x) => (i, ev x)) cells (by simp [h0, h1, h2, h3, hc])
  unfold execOp
  simp only [ho, Sem.run_bind, hr, Sem.run_pure, Result.andThen_ok]
section
variable {W : World} {p : World → Prop}
theorem map_kB (h : ∀ w1 : World, BestT w1 W.heap.size [] → Below W.heap.size W w1 → w1.heap.size = W.heap.size + 1 → p w1) : p (W.alloc (.map #[] 0)) := h _ (MapT.made W) ((Below.refl _ _).alloc (Nat.le_refl _) _) (by simp)
theorem map_kN (h : ∀ w1 : World, NewsT w1 W.heap.size [] → Below W.heap.size W w1 → w1.heap.size = W.heap.size + 1 → p w1) : p (W.alloc (.map #[] 0)) := h _ (MapT.made W) ((Below.refl _ _).alloc (Nat.le_refl _) _) (by simp)
theorem row_k {C : Array Value} {T : TypeId} (h : ∀ w1 : World, w1.heap[W.heap.size]? = some (.cells C T (0, 0)) → Below W.heap.size W w1 → w1.heap.size = W.heap.size + 1 → p w1) : p (W.alloc (.cells C T)) := h _ (heap_alloc_new W _) ((Below.refl _ _).alloc (Nat.le_refl _) _) (by simp)
end
theorem cell_k {W : World} {p : World → Prop} {C : Array Value} {T : TypeId} (h : ∀ w1 : World, (∀ (j : Nat) (u : Value), C.toList[j]? = some u → w1.cell? ((⟨W.heap.size, 0, none⟩ : Addr).add j) = some u) → Below W.heap.size W w1 → w1.heap.size = W.heap.size + 1 → p w1) : p (W.alloc (.cells C T)) := h _ (new_cells W C T) ((Below.refl _ _).alloc (Nat.le_refl _) _) (by simp)
theorem info_mp : (Tryz.prog.info? 126).map (fun i => (i.zero, i.size, i.bytes)) = some (some (.pointer none), 1, 8) := by kernel_rfl
def NewPost (own most : Int) (xs : List Sd) (W : World) (e : Ending) (w' : World) : Prop :=
  (newCd own xs ≠ 0 ∧ e = .returned (.tuple #[.pointer none, .int .i64 (newCd own xs)]) ∧ Below W.heap.size W w') ∨
  (newCd own xs = 0 ∧ ∃ (rho : Nat → Role) (sb fb : Nat) (ls : List Pl), e = .returned (.tuple #[.pointer (some ⟨sb, 0, none⟩), .int .i64 0]) ∧ SrvM w' rho sb fb ls (newSv own most xs) ∧ (∀ k, rho k ≠ .no → W.heap.size ≤ k) ∧ Below W.heap.size W w')
theorem newCd_arg {own : Int} {xs : List Sd} (h : sysB own = false ∨ xs.length = 0) : newCd own xs = 1 := by unfold newCd; rw [if_pos h]
theorem newCd_many {own : Int} {xs : List Sd} (h : ¬ (sysB own = false ∨ xs.length = 0)) (h2 : 16 < xs.length) : newCd own xs = 3 := by unfold newCd; rw [if_neg h, if_pos h2]
theorem newCd_bad {own : Int} {xs : List Sd} (h : ¬ (sysB own = false ∨ xs.length = 0)) (h2 : ¬ 16 < xs.length) (h3 : xs.all sdB = false) : newCd own xs = 1 := by unfold newCd; rw [if_neg h, if_neg h2, if_neg (by rw [h3]; simp)]
theorem newCd_ok {own : Int} {xs : List Sd} (h : ¬ (sysB own = false ∨ xs.length = 0)) (h2 : ¬ 16 < xs.length) (h3 : xs.all sdB = true) : newCd own xs = 0 := by unfold newCd; rw [if_neg h, if_neg h2, if_pos h3]
theorem all_bad {xs : List Sd} {k : Nat} {x : Sd} (hx : xs[k]? = some x) (h : sdB x = false) : xs.all sdB = false := by
  rw [List.all_eq_false]; exact ⟨x, List.mem_of_getElem? hx, by rw [h]; simp⟩
theorem all_ok {xs : List Sd} (h : ∀ (i : Nat) (x : Sd), i < xs.length → xs[i]? = some x → sdB x = true) : xs.all sdB = true := by
  rw [List.all_eq_true]
  intro x hx
  obtain ⟨i, hi⟩ := List.getElem?_of_mem hx
  exact h i x (List.getElem?_eq_some_iff.1 hi).1 hi
set_option maxHeartbeats 6400000 in
set_option maxRecDepth 100000 in
theorem sv_New (own most : Int) (v : Value) (xs : List Sd) (W : World) (hxs : SdsAt W v xs) : Calls Tryz.prog 14 #[.int .i64 own, v, .int .i64 most] W (NewPost own most xs W) := by
  obtain ⟨s0, cap0, rfl, hl1, hl2, -⟩ := id hxs
  have pl : xs.length ≤ 9223372036854775807 := Nat.le_trans hl1 hl2
  have HX := Lib.hid hxs
  have SY := Lib.hid (sv_system own)
  clear hxs hl1 hl2
  go_enter Tryz.func14, Tryz.ntmps14
  go_wp2_with fail
  refine (SY.out _).mono ?_
  rintro e w1 ⟨rfl, rfl⟩
  rcases hso : sysB own with _ | _
  · have C1 := Lib.hid (newCd_arg (xs := xs) (.inl hso))
    clear hso
    go_wp2_with fail
    refine bodyPost_ret (v := .tuple #[.pointer none, .int .i64 1]) (by simp [results, Tryz.results14, go_sem]) rfl (.inl ⟨by rw [C1.out]; decide, by rw [C1.out], Below.refl _ _⟩)
  · by_cases h0 : xs.length = 0
    · have C1 := Lib.hid (newCd_arg (own := own) (xs := xs) (.inr h0))
      have d0 : ((xs.length : Int) == 0) = true := by simp [h0]
      clear hso h0
      go_wp2_with fail
      refine bodyPost_ret (v := .tuple #[.pointer none, .int .i64 1]) (by simp [results, Tryz.results14, go_sem]) rfl (.inl ⟨by rw [C1.out]; decide, by rw [C1.out], Below.refl _ _⟩)
    · have NC : Hid (¬ (sysB own = false ∨ xs.length = 0)) := Lib.hid (by rw [hso]; simp [h0])
      have OWN : Hid (1 ≤ own ∧ own ≤ 65535) := Lib.hid (by unfold sysB at hso; simpa using hso)
      have d0 : ((xs.length : Int) == 0) = false := by simpa using h0
      clear hso h0
      by_cases h16 : 16 < xs.length
      · have C3 := Lib.hid (newCd_many NC.out h16)
        have d1 : decide ((xs.length : Int) > 16) = true := by simp; omega
        go_wp2_with fail
        refine bodyPost_ret (v := .tuple #[.pointer none, .int .i64 3]) (by simp [results, Tryz.results14, go_sem]) rfl (.inl ⟨by rw [C3.out]; decide, by rw [C3.out], Below.refl _ _⟩)
      · have d1 : decide ((xs.length : Int) > 16) = false := by simp; omega
        have NM := Lib.hid h16
        have XF := Lib.hid (ex_New own W)
        have om : Hid (own % 65536 = own) := Lib.hid (by have := OWN.out; omega)
        rw [om.out] at XF
        clear h16
        go_upto_region 5 with (fail)
        go_wp2_with fail
        refine XF.out.mono ?_
        rintro e w2 ⟨rfl, hf, hb2⟩
        have N0 : Hid (NewAt W (w2.alloc (.cells #[.slice none 0 0, .pointer (some ⟨W.heap.size, 0, none⟩)] 125)) w2.heap.size W.heap.size own (min (max most 0) 256) xs 0 none 0 [] (fun _ => .no)) := Lib.hid (by
          have s2 := hb2.size
          have fl := hf.lt
          have ha : Below w2.heap.size w2 (w2.alloc (.cells #[.slice none 0 0, .pointer (some ⟨W.heap.size, 0, none⟩)] 125)) := (Below.refl _ _).alloc (Nat.le_refl _) _
          exact ⟨heap_alloc_new w2 _, ⟨rfl, .inl ⟨rfl, rfl⟩⟩, hf.below ha, (fun i l x hl => by simp at hl), rfl, fun j hj => absurd rfl hj, rfl, rfl, by omega, (fun g hg => by cases hg), s2, Nat.le_refl _, below_on hb2 ha⟩)
        clear hf XF hb2 om d1 d0
        obtain ⟨sb, hsb⟩ : ∃ sb, sb = w2.heap.size := ⟨_, rfl⟩
        obtain ⟨fb, hfb⟩ : ∃ fb, fb = W.heap.size := ⟨_, rfl⟩
        rw [← hsb, ← hfb] at N0
        go_wp2_with fail
        rw [← hsb, ← hfb]
        clear hsb hfb
        go_loopw [28] (fun t28 wr => ∃ (k : Nat) (s : Option Addr) (c : Nat) (ls : List Pl) (rho : Nat → Role), k ≤ xs.length ∧ t28 = .int .i64 k ∧ Hid (NewAt W wr sb fb own (min (max most 0) 256) xs k s c ls rho) ∧ Hid (∀ (i : Nat) x, i < k → xs[i]? = some x → sdB x = true)) (fun t28 _ => xs.length - (intOf t28).toNat)
        case atStart => exact ⟨0, none, 0, [], _, by omega, rfl, N0, Lib.hid (fun i x hi => absurd hi (by omega))⟩
        case round =>
          clear N0
          obtain ⟨k, s, c, ls, rho, hk, rfl, NA, OKS⟩ := hrel
          by_cases hkl : k < xs.length
          · obtain ⟨x, hx⟩ : ∃ x, xs[k]? = some x := ⟨_, List.getElem?_eq_getElem hkl⟩
            obtain ⟨g2, o2, rfl, ⟨hx2, hx1⟩, x0, x1⟩ := sd_pair (HX.out.below NA.out.bel) hx
            have HXK := Lib.hid hx
            have HX2 := Lib.hid hx2
            have k0 : (0 : Int) ≤ (k : Int) := by omega
            have k1 : (k : Int) < (xs.length : Int) := by omega
            have SX := Lib.hid (sv_system x.1)
            clear hx hx2 hx1
            go_upto_region 9 with (fail)
            obtain ⟨v1, hv1, c0, c1, hb1⟩ := box2 wr (.int .i64 x.1) (.int .u32 x.2) 75
            rw [← hv1]
            obtain ⟨pb, hpb⟩ : ∃ pb, pb = wr.heap.size := ⟨_, rfl⟩
            rw [← hpb] at c0 c1 ⊢
            have NA1 := Lib.hid (NA.out.below hb1)
            have NA0 := Lib.hid NA.out
            have PBW : Hid (pb = wr.heap.size) := Lib.hid hpb
            clear hv1 hb1 NA x0 x1 hpb
            go_wp2_with fail
            refine (SX.out _).mono ?_
            rintro e w4 ⟨rfl, rfl⟩
            rcases hs1 : sysB x.1 with _ | _
            · have CB := Lib.hid (newCd_bad NC.out NM.out (all_bad HXK.out (by unfold sdB; rw [hs1]; rfl)))
              clear hs1
              go_wp2_with fail
              refine bodyPost_ret (v := .tuple #[.pointer none, .int .i64 1]) (by simp [results, Tryz.results14, go_sem]) rfl (.inl ⟨by rw [CB.out]; decide, by rw [CB.out], NA1.out.bel⟩)
            · rcases hs2 : (x.2 == 0) with _ | _
              · have d2 : ((x.2 : Int) == 0) = false := by simp at hs2 ⊢; omega
                have X1 : Hid (1 ≤ x.1 ∧ x.1 ≤ 65535) := Lib.hid (by unfold sysB at hs1; simpa using hs1)
                have X2 : Hid (0 < x.2 ∧ x.2 < 4294967296) := Lib.hid ⟨by simp at hs2; omega, HX2.out⟩
                have OKS2 : Hid (∀ (i : Nat) y, i < k + 1 → xs[i]? = some y → sdB y = true) := Lib.hid (fun i y hi hy => by
                  by_cases e : i = k
                  · subst e
                    rw [HXK.out] at hy; injection hy with hy; subst hy
                    unfold sdB; rw [hs1, hs2]; rfl
                  · exact OKS.out i y (by omega) hy)
                clear hs1 hs2 OKS
                go_upto_region 11 with (fail)
                have t0 : v1.cell? ⟨sb, 0, none⟩ = some (.slice s k c) := row_cell NA1.out.top 0
                have NAD := Lib.hid (NA1.out.below (Below.refl v1.heap.size v1).drew)
                have BD := Lib.hid (Below.refl v1.drew.heap.size v1.drew)
                have NSB : Hid (¬ (Value.slice s k c).ownBlock = some sb) := Lib.hid (fun e => (NA1.out.srow _ e).2.1 rfl)
                have NPB : Hid (¬ (pb = sb ∨ (Value.slice s k c).ownBlock = some pb)) := Lib.hid (fun e => by
                  have h1 := row_lt NA0.out.top
                  have h2 := own_lt NA0.out.row
                  rcases e with e | e
                  · have := PBW.out; omega
                  · have := h2 _ e; have := PBW.out; omega)
                have BW := Lib.hid NA1.out.bel.size
                obtain ⟨i0, hii, hz0, hz1, hz2⟩ := info_parts info_mp
                have L1 : Hid (k + 1 ≤ maxLen) := Lib.hid (by have := NM.out; unfold maxLen; omega)
                have L2 : Hid ((k + 1) * 8 ≤ 140737488355328) := Lib.hid (by have := NM.out; omega)
                clear NA0 PBW
                refine wp_region_held_drew (S := fun w' => Kept (fun q => q = sb ∨ (Value.slice s k c).ownBlock = some q) v1 w') (by kernel_rfl) ?_ (fun hHeld => ?_)
                · exact (Kept.refl _ _).drew
                generalize World.drew v1 = wd at NAD BD hHeld ⊢
                (refine qy 0 ?_ ?_ ?_ hHeld ?_; rotate_left 1; (· rfl); (· intro w' hSw; (try clear hHeld); go_simp; try with_reducible rfl)); try simp only [zp1, zp3, zp4, zp5]
                (refine qy 1 ?_ ?_ ?_ hHeld ?_; rotate_left 1; (· rfl); (· intro w' hSw; (try clear hHeld); go_simp; try with_reducible rfl)); try simp only [zp1, zp3, zp4, zp5]
                (refine qy 2 ?_ ?_ ?_ hHeld ?_; rotate_left 1; (· rfl); (· intro w' hSw; (try clear hHeld); go_simp; try with_reducible rfl)); try simp only [zp1, zp3, zp4, zp5]
                (refine qy 3 ?_ ?_ ?_ hHeld ?_; rotate_left 1; (· rfl); (· intro w' hSw; (try clear hHeld); go_simp; try with_reducible rfl)); try simp only [zp1, zp3, zp4, zp5]
                (refine qy 5 ?_ ?_ ?_ hHeld ?_; rotate_left 1; (· rfl); (· intro w' hSw; have c0 := hSw.cell c0 NPB.out; have c1 := hSw.cell c1 NPB.out; (try clear hHeld); go_simp; try with_reducible rfl)); try simp only [zp1, zp3, zp4, zp5]
                (refine qy 6 ?_ ?_ ?_ hHeld ?_; rotate_left 1; (· rfl); (· intro w' hSw; (try clear hHeld); go_simp; try with_reducible rfl)); try simp only [zp1, zp3, zp4, zp5]
                (refine qy 7 ?_ ?_ ?_ hHeld ?_; rotate_left 1; (· rfl); (· intro w' hSw; (try clear hHeld); go_simp; try with_reducible rfl)); try simp only [zp1, zp3, zp4, zp5]
                (refine qy 8 ?_ ?_ ?_ hHeld ?_; rotate_left 1; (· rfl); (· intro w' hSw; (try clear hHeld); go_simp; try with_reducible rfl)); try simp only [zp1, zp3, zp4, zp5]
                refine rg_call4 (i := 4) (j := 9) (k := 10) (l := 11) (atN rfl) (atN rfl) (atN rfl) (atN rfl) (by kernel_rfl) ?_ ?_ ?_ ?_ (fun K hK => ?_) (fun K hK => ?_) (fun K hK => ?_) (fun K hK => ?_); (· rfl); (· rfl); (· rfl); (· rfl)
                all_goals
                  first
                  | ((show Oper.wp _ { dst := some 46, op := _, type := _, pos := _, after := _, guard := _ } _ _ _ _); (try clear hb); have t1 : _ = some (Value.slice s k c) := row_cell (NAD.out.below BD.out).top 0; go_simp; go_wp2_with fail; refine hK.out _ _ ?_ (fun hHeld => ?_); (· exact hHeld); clear hK K; try simp only [zp1, zp3, zp4, zp5])
                  | ((show Oper.wp _ { dst := some 51, op := _, type := _, pos := _, after := _, guard := _ } _ _ _ _); (try clear hb); go_simp; refine (ad_New k own most _).mono ?_; rintro e w9 ⟨rb, rfl, hrib, hb9⟩; have Z9 := Lib.hid hb9.size; replace BD := Lib.hid (below_on BD.out hb9); (try replace hbm := hbm.below hb9); (try replace hnm := hnm.below hb9); go_wp2_with fail; refine hK.out _ _ ?_ (fun hHeld => ?_); (· exact hHeld.grow hb9); clear hK K; try simp only [zp1, zp3, zp4, zp5])
                  | ((show Oper.wp _ { dst := some 52, op := _, type := _, pos := _, after := _, guard := _ } _ _ _ _); (try clear hb); go_simp; refine map_kB (p := K _) ?_; intro w10 hbm hb10 z10; have Z10 := Lib.hid z10; clear z10; obtain ⟨bb, hbb, hbm⟩ : ∃ bb, bb = _ ∧ BestT w10 bb [] := ⟨_, rfl, hbm⟩; rw [← hbb]; have Hbb := Lib.hid hbb; clear hbb; replace BD := Lib.hid (below_on BD.out hb10); (try replace hrib := hrib.below hb10); (try replace hnm := hnm.below hb10); refine hK.out _ _ ?_ (fun hHeld => ?_); (· exact hHeld.grow hb10); clear hK K; try simp only [zp1, zp3, zp4, zp5])
                  | ((show Oper.wp _ { dst := some 53, op := _, type := _, pos := _, after := _, guard := _ } _ _ _ _); (try clear hb); go_simp; refine map_kN (p := K _) ?_; intro w11 hnm hb11 z11; have Z11 := Lib.hid z11; clear z11; obtain ⟨nb, hnb, hnm⟩ : ∃ nb, nb = _ ∧ NewsT w11 nb [] := ⟨_, rfl, hnm⟩; rw [← hnb]; have Hnb := Lib.hid hnb; clear hnb; replace BD := Lib.hid (below_on BD.out hb11); (try replace hrib := hrib.below hb11); (try replace hbm := hbm.below hb11); refine hK.out _ _ ?_ (fun hHeld => ?_); (· exact hHeld.grow hb11); clear hK K; try simp only [zp1, zp3, zp4, zp5])
                (focus (refine rg_call3 (i := 9) (j := 10) (k := 11) (atN rfl) (atN rfl) (atN rfl) (by kernel_rfl) ?_ ?_ ?_ (fun K hK => ?_) (fun K hK => ?_) (fun K hK => ?_); (· rfl); (· rfl); (· rfl))); rotate_left 3
                (focus (refine rg_call3 (i := 4) (j := 10) (k := 11) (atN rfl) (atN rfl) (atN rfl) (by kernel_rfl) ?_ ?_ ?_ (fun K hK => ?_) (fun K hK => ?_) (fun K hK => ?_); (· rfl); (· rfl); (· rfl))); rotate_left 3
                (focus (refine rg_call3 (i := 4) (j := 9) (k := 11) (atN rfl) (atN rfl) (atN rfl) (by kernel_rfl) ?_ ?_ ?_ (fun K hK => ?_) (fun K hK => ?_) (fun K hK => ?_); (· rfl); (· rfl); (· rfl))); rotate_left 3
                (focus (refine rg_call3 (i := 4) (j := 9) (k := 10) (atN rfl) (atN rfl) (atN rfl) (by kernel_rfl) ?_ ?_ ?_ (fun K hK => ?_) (fun K hK => ?_) (fun K hK => ?_); (· rfl); (· rfl); (· rfl))); rotate_left 3
                all_goals
                  first
                  | ((show Oper.wp _ { dst := some 46, op := _, type := _, pos := _, after := _, guard := _ } _ _ _ _); (try clear hb); have t1 : _ = some (Value.slice s k c) := row_cell (NAD.out.below BD.out).top 0; go_simp; go_wp2_with fail; refine hK.out _ _ ?_ (fun hHeld => ?_); (· exact hHeld); clear hK K; try simp only [zp1, zp3, zp4, zp5])
                  | ((show Oper.wp _ { dst := some 51, op := _, type := _, pos := _, after := _, guard := _ } _ _ _ _); (try clear hb); go_simp; refine (ad_New k own most _).mono ?_; rintro e w9 ⟨rb, rfl, hrib, hb9⟩; have Z9 := Lib.hid hb9.size; replace BD := Lib.hid (below_on BD.out hb9); (try replace hbm := hbm.below hb9); (try replace hnm := hnm.below hb9); go_wp2_with fail; refine hK.out _ _ ?_ (fun hHeld => ?_); (· exact hHeld.grow hb9); clear hK K; try simp only [zp1, zp3, zp4, zp5])
                  | ((show Oper.wp _ { dst := some 52, op := _, type := _, pos := _, after := _, guard := _ } _ _ _ _); (try clear hb); go_simp; refine map_kB (p := K _) ?_; intro w10 hbm hb10 z10; have Z10 := Lib.hid z10; clear z10; obtain ⟨bb, hbb, hbm⟩ : ∃ bb, bb = _ ∧ BestT w10 bb [] := ⟨_, rfl, hbm⟩; rw [← hbb]; have Hbb := Lib.hid hbb; clear hbb; replace BD := Lib.hid (below_on BD.out hb10); (try replace hrib := hrib.below hb10); (try replace hnm := hnm.below hb10); refine hK.out _ _ ?_ (fun hHeld => ?_); (· exact hHeld.grow hb10); clear hK K; try simp only [zp1, zp3, zp4, zp5])
                  | ((show Oper.wp _ { dst := some 53, op := _, type := _, pos := _, after := _, guard := _ } _ _ _ _); (try clear hb); go_simp; refine map_kN (p := K _) ?_; intro w11 hnm hb11 z11; have Z11 := Lib.hid z11; clear z11; obtain ⟨nb, hnb, hnm⟩ : ∃ nb, nb = _ ∧ NewsT w11 nb [] := ⟨_, rfl, hnm⟩; rw [← hnb]; have Hnb := Lib.hid hnb; clear hnb; replace BD := Lib.hid (below_on BD.out hb11); (try replace hrib := hrib.below hb11); (try replace hbm := hbm.below hb11); refine hK.out _ _ ?_ (fun hHeld => ?_); (· exact hHeld.grow hb11); clear hK K; try simp only [zp1, zp3, zp4, zp5])
                (focus (refine rg_call2 (i := 10) (j := 11) (atN rfl) (atN rfl) (by kernel_rfl) ?_ ?_ (fun K hK => ?_) (fun K hK => ?_); (· rfl); (· rfl))); rotate_left 2
                (focus (refine rg_call2 (i := 9) (j := 11) (atN rfl) (atN rfl) (by kernel_rfl) ?_ ?_ (fun K hK => ?_) (fun K hK => ?_); (· rfl); (· rfl))); rotate_left 2
                (focus (refine rg_call2 (i := 9) (j := 10) (atN rfl) (atN rfl) (by kernel_rfl) ?_ ?_ (fun K hK => ?_) (fun K hK => ?_); (· rfl); (· rfl))); rotate_left 2
                (focus (refine rg_call2 (i := 10) (j := 11) (atN rfl) (atN rfl) (by kernel_rfl) ?_ ?_ (fun K hK => ?_) (fun K hK => ?_); (· rfl); (· rfl))); rotate_left 2
                (focus (refine rg_call2 (i := 4) (j := 11) (atN rfl) (atN rfl) (by kernel_rfl) ?_ ?_ (fun K hK => ?_) (fun K hK => ?_); (· rfl); (· rfl))); rotate_left 2
                (focus (refine rg_call2 (i := 4) (j := 10) (atN rfl) (atN rfl) (by kernel_rfl) ?_ ?_ (fun K hK => ?_) (fun K hK => ?_); (· rfl); (· rfl))); rotate_left 2
                (focus (refine rg_call2 (i := 9) (j := 11) (atN rfl) (atN rfl) (by kernel_rfl) ?_ ?_ (fun K hK => ?_) (fun K hK => ?_); (· rfl); (· rfl))); rotate_left 2
                (focus (refine rg_call2 (i := 4) (j := 11) (atN rfl) (atN rfl) (by kernel_rfl) ?_ ?_ (fun K hK => ?_) (fun K hK => ?_); (· rfl); (· rfl))); rotate_left 2
                (focus (refine rg_call2 (i := 4) (j := 9) (atN rfl) (atN rfl) (by kernel_rfl) ?_ ?_ (fun K hK => ?_) (fun K hK => ?_); (· rfl); (· rfl))); rotate_left 2
                (focus (refine rg_call2 (i := 9) (j := 10) (atN rfl) (atN rfl) (by kernel_rfl) ?_ ?_ (fun K hK => ?_) (fun K hK => ?_); (· rfl); (· rfl))); rotate_left 2
                (focus (refine rg_call2 (i := 4) (j := 10) (atN rfl) (atN rfl) (by kernel_rfl) ?_ ?_ (fun K hK => ?_) (fun K hK => ?_); (· rfl); (· rfl))); rotate_left 2
                (focus (refine rg_call2 (i := 4) (j := 9) (atN rfl) (atN rfl) (by kernel_rfl) ?_ ?_ (fun K hK => ?_) (fun K hK => ?_); (· rfl); (· rfl))); rotate_left 2
                all_goals
                  first
                  | ((show Oper.wp _ { dst := some 46, op := _, type := _, pos := _, after := _, guard := _ } _ _ _ _); (try clear hb); have t1 : _ = some (Value.slice s k c) := row_cell (NAD.out.below BD.out).top 0; go_simp; go_wp2_with fail; refine hK.out _ _ ?_ (fun hHeld => ?_); (· exact hHeld); clear hK K; try simp only [zp1, zp3, zp4, zp5])
                  | ((show Oper.wp _ { dst := some 51, op := _, type := _, pos := _, after := _, guard := _ } _ _ _ _); (try clear hb); go_simp; refine (ad_New k own most _).mono ?_; rintro e w9 ⟨rb, rfl, hrib, hb9⟩; have Z9 := Lib.hid hb9.size; replace BD := Lib.hid (below_on BD.out hb9); (try replace hbm := hbm.below hb9); (try replace hnm := hnm.below hb9); go_wp2_with fail; refine hK.out _ _ ?_ (fun hHeld => ?_); (· exact hHeld.grow hb9); clear hK K; try simp only [zp1, zp3, zp4, zp5])
                  | ((show Oper.wp _ { dst := some 52, op := _, type := _, pos := _, after := _, guard := _ } _ _ _ _); (try clear hb); go_simp; refine map_kB (p := K _) ?_; intro w10 hbm hb10 z10; have Z10 := Lib.hid z10; clear z10; obtain ⟨bb, hbb, hbm⟩ : ∃ bb, bb = _ ∧ BestT w10 bb [] := ⟨_, rfl, hbm⟩; rw [← hbb]; have Hbb := Lib.hid hbb; clear hbb; replace BD := Lib.hid (below_on BD.out hb10); (try replace hrib := hrib.below hb10); (try replace hnm := hnm.below hb10); refine hK.out _ _ ?_ (fun hHeld => ?_); (· exact hHeld.grow hb10); clear hK K; try simp only [zp1, zp3, zp4, zp5])
                  | ((show Oper.wp _ { dst := some 53, op := _, type := _, pos := _, after := _, guard := _ } _ _ _ _); (try clear hb); go_simp; refine map_kN (p := K _) ?_; intro w11 hnm hb11 z11; have Z11 := Lib.hid z11; clear z11; obtain ⟨nb, hnb, hnm⟩ : ∃ nb, nb = _ ∧ NewsT w11 nb [] := ⟨_, rfl, hnm⟩; rw [← hnb]; have Hnb := Lib.hid hnb; clear hnb; replace BD := Lib.hid (below_on BD.out hb11); (try replace hrib := hrib.below hb11); (try replace hbm := hbm.below hb11); refine hK.out _ _ ?_ (fun hHeld => ?_); (· exact hHeld.grow hb11); clear hK K; try simp only [zp1, zp3, zp4, zp5])
                (focus (refine rg_call (i := 11) (atN rfl) (by kernel_rfl) ?_ (fun K hK => ?_); (· rfl))); rotate_left 1
                (focus (refine rg_call (i := 10) (atN rfl) (by kernel_rfl) ?_ (fun K hK => ?_); (· rfl))); rotate_left 1
                (focus (refine rg_call (i := 11) (atN rfl) (by kernel_rfl) ?_ (fun K hK => ?_); (· rfl))); rotate_left 1
                (focus (refine rg_call (i := 9) (atN rfl) (by kernel_rfl) ?_ (fun K hK => ?_); (· rfl))); rotate_left 1
                (focus (refine rg_call (i := 10) (atN rfl) (by kernel_rfl) ?_ (fun K hK => ?_); (· rfl))); rotate_left 1
                (focus (refine rg_call (i := 9) (atN rfl) (by kernel_rfl) ?_ (fun K hK => ?_); (· rfl))); rotate_left 1
                (focus (refine rg_call (i := 11) (atN rfl) (by kernel_rfl) ?_ (fun K hK => ?_); (· rfl))); rotate_left 1
                (focus (refine rg_call (i := 10) (atN rfl) (by kernel_rfl) ?_ (fun K hK => ?_); (· rfl))); rotate_left 1
                (focus (refine rg_call (i := 11) (atN rfl) (by kernel_rfl) ?_ (fun K hK => ?_); (· rfl))); rotate_left 1
                (focus ((refine qy 12 ?_ ?_ ?_ hHeld ?_; rotate_left 1; (· rfl); (· intro w' hSw; refine exec_built4 130 0 2 3 4 (.tmp 47) (.tmp 51) (.tmp 52) (.tmp 53) ?_ (.agg #[.int .i64 x.1, .int .u32 x.2]) (.pointer (some ⟨rb, 0, none⟩)) (.map (some bb)) (.map (some nb)) ?_ ?_ ?_ ?_ _ (mb_built x.1 x.2 rb bb nb) <;> rfl)); try simp only [zp1, zp3, zp4, zp5]; refine rg_call2 (i := 4) (j := 13) (atN rfl) (atN rfl) (by kernel_rfl) ?_ ?_ (fun K hK => ?_) (fun K hK => ?_); (· rfl); (· rfl))); rotate_left 2
                (focus (refine rg_call (i := 10) (atN rfl) (by kernel_rfl) ?_ (fun K hK => ?_); (· rfl))); rotate_left 1
                (focus ((refine qy 12 ?_ ?_ ?_ hHeld ?_; rotate_left 1; (· rfl); (· intro w' hSw; refine exec_built4 130 0 2 3 4 (.tmp 47) (.tmp 51) (.tmp 52) (.tmp 53) ?_ (.agg #[.int .i64 x.1, .int .u32 x.2]) (.pointer (some ⟨rb, 0, none⟩)) (.map (some bb)) (.map (some nb)) ?_ ?_ ?_ ?_ _ (mb_built x.1 x.2 rb bb nb) <;> rfl)); try simp only [zp1, zp3, zp4, zp5]; refine rg_call2 (i := 4) (j := 13) (atN rfl) (atN rfl) (by kernel_rfl) ?_ ?_ (fun K hK => ?_) (fun K hK => ?_); (· rfl); (· rfl))); rotate_left 2
                (focus (refine rg_call (i := 11) (atN rfl) (by kernel_rfl) ?_ (fun K hK => ?_); (· rfl))); rotate_left 1
                (focus (refine rg_call (i := 9) (atN rfl) (by kernel_rfl) ?_ (fun K hK => ?_); (· rfl))); rotate_left 1
                (focus (refine rg_call (i := 11) (atN rfl) (by kernel_rfl) ?_ (fun K hK => ?_); (· rfl))); rotate_left 1
                (focus ((refine qy 12 ?_ ?_ ?_ hHeld ?_; rotate_left 1; (· rfl); (· intro w' hSw; refine exec_built4 130 0 2 3 4 (.tmp 47) (.tmp 51) (.tmp 52) (.tmp 53) ?_ (.agg #[.int .i64 x.1, .int .u32 x.2]) (.pointer (some ⟨rb, 0, none⟩)) (.map (some bb)) (.map (some nb)) ?_ ?_ ?_ ?_ _ (mb_built x.1 x.2 rb bb nb) <;> rfl)); try simp only [zp1, zp3, zp4, zp5]; refine rg_call2 (i := 4) (j := 13) (atN rfl) (atN rfl) (by kernel_rfl) ?_ ?_ (fun K hK => ?_) (fun K hK => ?_); (· rfl); (· rfl))); rotate_left 2
                (focus (refine rg_call (i := 9) (atN rfl) (by kernel_rfl) ?_ (fun K hK => ?_); (· rfl))); rotate_left 1
                (focus ((refine qy 12 ?_ ?_ ?_ hHeld ?_; rotate_left 1; (· rfl); (· intro w' hSw; refine exec_built4 130 0 2 3 4 (.tmp 47) (.tmp 51) (.tmp 52) (.tmp 53) ?_ (.agg #[.int .i64 x.1, .int .u32 x.2]) (.pointer (some ⟨rb, 0, none⟩)) (.map (some bb)) (.map (some nb)) ?_ ?_ ?_ ?_ _ (mb_built x.1 x.2 rb bb nb) <;> rfl)); try simp only [zp1, zp3, zp4, zp5]; refine rg_call2 (i := 4) (j := 13) (atN rfl) (atN rfl) (by kernel_rfl) ?_ ?_ (fun K hK => ?_) (fun K hK => ?_); (· rfl); (· rfl))); rotate_left 2
                (focus (refine rg_call (i := 10) (atN rfl) (by kernel_rfl) ?_ (fun K hK => ?_); (· rfl))); rotate_left 1
                (focus (refine rg_call (i := 9) (atN rfl) (by kernel_rfl) ?_ (fun K hK => ?_); (· rfl))); rotate_left 1
                (focus (refine rg_call (i := 10) (atN rfl) (by kernel_rfl) ?_ (fun K hK => ?_); (· rfl))); rotate_left 1
                (focus ((refine qy 12 ?_ ?_ ?_ hHeld ?_; rotate_left 1; (· rfl); (· intro w' hSw; refine exec_built4 130 0 2 3 4 (.tmp 47) (.tmp 51) (.tmp 52) (.tmp 53) ?_ (.agg #[.int .i64 x.1, .int .u32 x.2]) (.pointer (some ⟨rb, 0, none⟩)) (.map (some bb)) (.map (some nb)) ?_ ?_ ?_ ?_ _ (mb_built x.1 x.2 rb bb nb) <;> rfl)); try simp only [zp1, zp3, zp4, zp5]; refine rg_call2 (i := 4) (j := 13) (atN rfl) (atN rfl) (by kernel_rfl) ?_ ?_ (fun K hK => ?_) (fun K hK => ?_); (· rfl); (· rfl))); rotate_left 2
                (focus (refine rg_call (i := 9) (atN rfl) (by kernel_rfl) ?_ (fun K hK => ?_); (· rfl))); rotate_left 1
                (focus ((refine qy 12 ?_ ?_ ?_ hHeld ?_; rotate_left 1; (· rfl); (· intro w' hSw; refine exec_built4 130 0 2 3 4 (.tmp 47) (.tmp 51) (.tmp 52) (.tmp 53) ?_ (.agg #[.int .i64 x.1, .int .u32 x.2]) (.pointer (some ⟨rb, 0, none⟩)) (.map (some bb)) (.map (some nb)) ?_ ?_ ?_ ?_ _ (mb_built x.1 x.2 rb bb nb) <;> rfl)); try simp only [zp1, zp3, zp4, zp5]; refine rg_call2 (i := 4) (j := 13) (atN rfl) (atN rfl) (by kernel_rfl) ?_ ?_ (fun K hK => ?_) (fun K hK => ?_); (· rfl); (· rfl))); rotate_left 2
                all_goals
                  first
                  | ((show Oper.wp _ { dst := some 46, op := _, type := _, pos := _, after := _, guard := _ } _ _ _ _); (try clear hb); have t1 : _ = some (Value.slice s k c) := row_cell (NAD.out.below BD.out).top 0; go_simp; go_wp2_with fail; refine hK.out _ _ ?_ (fun hHeld => ?_); (· exact hHeld); clear hK K; try simp only [zp1, zp3, zp4, zp5])
                  | ((show Oper.wp _ { dst := some 51, op := _, type := _, pos := _, after := _, guard := _ } _ _ _ _); (try clear hb); go_simp; refine (ad_New k own most _).mono ?_; rintro e w9 ⟨rb, rfl, hrib, hb9⟩; have Z9 := Lib.hid hb9.size; replace BD := Lib.hid (below_on BD.out hb9); (try replace hbm := hbm.below hb9); (try replace hnm := hnm.below hb9); go_wp2_with fail; refine hK.out _ _ ?_ (fun hHeld => ?_); (· exact hHeld.grow hb9); clear hK K; try simp only [zp1, zp3, zp4, zp5])
                  | ((show Oper.wp _ { dst := some 52, op := _, type := _, pos := _, after := _, guard := _ } _ _ _ _); (try clear hb); go_simp; refine map_kB (p := K _) ?_; intro w10 hbm hb10 z10; have Z10 := Lib.hid z10; clear z10; obtain ⟨bb, hbb, hbm⟩ : ∃ bb, bb = _ ∧ BestT w10 bb [] := ⟨_, rfl, hbm⟩; rw [← hbb]; have Hbb := Lib.hid hbb; clear hbb; replace BD := Lib.hid (below_on BD.out hb10); (try replace hrib := hrib.below hb10); (try replace hnm := hnm.below hb10); refine hK.out _ _ ?_ (fun hHeld => ?_); (· exact hHeld.grow hb10); clear hK K; try simp only [zp1, zp3, zp4, zp5])
                  | ((show Oper.wp _ { dst := some 53, op := _, type := _, pos := _, after := _, guard := _ } _ _ _ _); (try clear hb); go_simp; refine map_kN (p := K _) ?_; intro w11 hnm hb11 z11; have Z11 := Lib.hid z11; clear z11; obtain ⟨nb, hnb, hnm⟩ : ∃ nb, nb = _ ∧ NewsT w11 nb [] := ⟨_, rfl, hnm⟩; rw [← hnb]; have Hnb := Lib.hid hnb; clear hnb; replace BD := Lib.hid (below_on BD.out hb11); (try replace hrib := hrib.below hb11); (try replace hbm := hbm.below hb11); refine hK.out _ _ ?_ (fun hHeld => ?_); (· exact hHeld.grow hb11); clear hK K; try simp only [zp1, zp3, zp4, zp5])
                  | ((show Oper.wp _ { dst := some 55, op := _, type := _, pos := _, after := _, guard := _ } _ _ _ _); (try clear hb); go_simp; refine row_k (p := K _) ?_; intro w13 hmb hb13 z13; have Z13 := Lib.hid z13; clear z13; obtain ⟨mb, hmbb, hmb⟩ : ∃ mb, mb = _ ∧ w13.heap[mb]? = _ := ⟨_, rfl, hmb⟩; rw [← hmbb]; have Hmb := Lib.hid hmbb; clear hmbb; replace BD := Lib.hid (below_on BD.out hb13); replace hrib := hrib.below hb13; replace hbm := hbm.below hb13; replace hnm := hnm.below hb13; refine hK.out _ _ ?_ (fun hHeld => ?_); (· exact hHeld.grow hb13); clear hK K; try simp only [zp1, zp3, zp4, zp5])
                (focus ((refine qy 12 ?_ ?_ ?_ hHeld ?_; rotate_left 1; (· rfl); (· intro w' hSw; refine exec_built4 130 0 2 3 4 (.tmp 47) (.tmp 51) (.tmp 52) (.tmp 53) ?_ (.agg #[.int .i64 x.1, .int .u32 x.2]) (.pointer (some ⟨rb, 0, none⟩)) (.map (some bb)) (.map (some nb)) ?_ ?_ ?_ ?_ _ (mb_built x.1 x.2 rb bb nb) <;> rfl)); try simp only [zp1, zp3, zp4, zp5]; refine rg_call (i := 13) (atN rfl) (by kernel_rfl) ?_ (fun K hK => ?_); (· rfl))); rotate_left 1
                (focus ((refine qy 12 ?_ ?_ ?_ hHeld ?_; rotate_left 1; (· rfl); (· intro w' hSw; refine exec_built4 130 0 2 3 4 (.tmp 47) (.tmp 51) (.tmp 52) (.tmp 53) ?_ (.agg #[.int .i64 x.1, .int .u32 x.2]) (.pointer (some ⟨rb, 0, none⟩)) (.map (some bb)) (.map (some nb)) ?_ ?_ ?_ ?_ _ (mb_built x.1 x.2 rb bb nb) <;> rfl)); try simp only [zp1, zp3, zp4, zp5]; refine rg_call (i := 13) (atN rfl) (by kernel_rfl) ?_ (fun K hK => ?_); (· rfl))); rotate_left 1
                (focus ((refine qy 12 ?_ ?_ ?_ hHeld ?_; rotate_left 1; (· rfl); (· intro w' hSw; refine exec_built4 130 0 2 3 4 (.tmp 47) (.tmp 51) (.tmp 52) (.tmp 53) ?_ (.agg #[.int .i64 x.1, .int .u32 x.2]) (.pointer (some ⟨rb, 0, none⟩)) (.map (some bb)) (.map (some nb)) ?_ ?_ ?_ ?_ _ (mb_built x.1 x.2 rb bb nb) <;> rfl)); try simp only [zp1, zp3, zp4, zp5]; refine rg_call (i := 13) (atN rfl) (by kernel_rfl) ?_ (fun K hK => ?_); (· rfl))); rotate_left 1
                (focus ((refine qy 12 ?_ ?_ ?_ hHeld ?_; rotate_left 1; (· rfl); (· intro w' hSw; refine exec_built4 130 0 2 3 4 (.tmp 47) (.tmp 51) (.tmp 52) (.tmp 53) ?_ (.agg #[.int .i64 x.1, .int .u32 x.2]) (.pointer (some ⟨rb, 0, none⟩)) (.map (some bb)) (.map (some nb)) ?_ ?_ ?_ ?_ _ (mb_built x.1 x.2 rb bb nb) <;> rfl)); try simp only [zp1, zp3, zp4, zp5]; refine rg_call (i := 13) (atN rfl) (by kernel_rfl) ?_ (fun K hK => ?_); (· rfl))); rotate_left 1
                (focus ((refine qy 12 ?_ ?_ ?_ hHeld ?_; rotate_left 1; (· rfl); (· intro w' hSw; refine exec_built4 130 0 2 3 4 (.tmp 47) (.tmp 51) (.tmp 52) (.tmp 53) ?_ (.agg #[.int .i64 x.1, .int .u32 x.2]) (.pointer (some ⟨rb, 0, none⟩)) (.map (some bb)) (.map (some nb)) ?_ ?_ ?_ ?_ _ (mb_built x.1 x.2 rb bb nb) <;> rfl)); try simp only [zp1, zp3, zp4, zp5]; refine rg_call (i := 13) (atN rfl) (by kernel_rfl) ?_ (fun K hK => ?_); (· rfl))); rotate_left 1
                (focus ((refine qy 12 ?_ ?_ ?_ hHeld ?_; rotate_left 1; (· rfl); (· intro w' hSw; refine exec_built4 130 0 2 3 4 (.tmp 47) (.tmp 51) (.tmp 52) (.tmp 53) ?_ (.agg #[.int .i64 x.1, .int .u32 x.2]) (.pointer (some ⟨rb, 0, none⟩)) (.map (some bb)) (.map (some nb)) ?_ ?_ ?_ ?_ _ (mb_built x.1 x.2 rb bb nb) <;> rfl)); try simp only [zp1, zp3, zp4, zp5]; refine rg_call (i := 13) (atN rfl) (by kernel_rfl) ?_ (fun K hK => ?_); (· rfl))); rotate_left 1
                (focus ((refine qy 12 ?_ ?_ ?_ hHeld ?_; rotate_left 1; (· rfl); (· intro w' hSw; refine exec_built4 130 0 2 3 4 (.tmp 47) (.tmp 51) (.tmp 52) (.tmp 53) ?_ (.agg #[.int .i64 x.1, .int .u32 x.2]) (.pointer (some ⟨rb, 0, none⟩)) (.map (some bb)) (.map (some nb)) ?_ ?_ ?_ ?_ _ (mb_built x.1 x.2 rb bb nb) <;> rfl)); try simp only [zp1, zp3, zp4, zp5]; refine rg_call (i := 13) (atN rfl) (by kernel_rfl) ?_ (fun K hK => ?_); (· rfl))); rotate_left 1
                (focus ((refine qy 12 ?_ ?_ ?_ hHeld ?_; rotate_left 1; (· rfl); (· intro w' hSw; refine exec_built4 130 0 2 3 4 (.tmp 47) (.tmp 51) (.tmp 52) (.tmp 53) ?_ (.agg #[.int .i64 x.1, .int .u32 x.2]) (.pointer (some ⟨rb, 0, none⟩)) (.map (some bb)) (.map (some nb)) ?_ ?_ ?_ ?_ _ (mb_built x.1 x.2 rb bb nb) <;> rfl)); try simp only [zp1, zp3, zp4, zp5]; refine rg_call (i := 13) (atN rfl) (by kernel_rfl) ?_ (fun K hK => ?_); (· rfl))); rotate_left 1
                (focus ((refine qy 12 ?_ ?_ ?_ hHeld ?_; rotate_left 1; (· rfl); (· intro w' hSw; refine exec_built4 130 0 2 3 4 (.tmp 47) (.tmp 51) (.tmp 52) (.tmp 53) ?_ (.agg #[.int .i64 x.1, .int .u32 x.2]) (.pointer (some ⟨rb, 0, none⟩)) (.map (some bb)) (.map (some nb)) ?_ ?_ ?_ ?_ _ (mb_built x.1 x.2 rb bb nb) <;> rfl)); try simp only [zp1, zp3, zp4, zp5]; refine rg_call (i := 13) (atN rfl) (by kernel_rfl) ?_ (fun K hK => ?_); (· rfl))); rotate_left 1
                (focus (refine rg_call (i := 13) (atN rfl) (by kernel_rfl) ?_ (fun K hK => ?_); (· rfl))); rotate_left 1
                (focus (refine rg_call2 (i := 4) (j := 14) (atN rfl) (atN rfl) (by kernel_rfl) ?_ ?_ (fun K hK => ?_) (fun K hK => ?_); (· rfl); (· rfl))); rotate_left 2
                (focus ((refine qy 12 ?_ ?_ ?_ hHeld ?_; rotate_left 1; (· rfl); (· intro w' hSw; refine exec_built4 130 0 2 3 4 (.tmp 47) (.tmp 51) (.tmp 52) (.tmp 53) ?_ (.agg #[.int .i64 x.1, .int .u32 x.2]) (.pointer (some ⟨rb, 0, none⟩)) (.map (some bb)) (.map (some nb)) ?_ ?_ ?_ ?_ _ (mb_built x.1 x.2 rb bb nb) <;> rfl)); try simp only [zp1, zp3, zp4, zp5]; refine rg_call (i := 13) (atN rfl) (by kernel_rfl) ?_ (fun K hK => ?_); (· rfl))); rotate_left 1
                (focus (refine rg_call (i := 13) (atN rfl) (by kernel_rfl) ?_ (fun K hK => ?_); (· rfl))); rotate_left 1
                (focus (refine rg_call2 (i := 4) (j := 14) (atN rfl) (atN rfl) (by kernel_rfl) ?_ ?_ (fun K hK => ?_) (fun K hK => ?_); (· rfl); (· rfl))); rotate_left 2
                (focus ((refine qy 12 ?_ ?_ ?_ hHeld ?_; rotate_left 1; (· rfl); (· intro w' hSw; refine exec_built4 130 0 2 3 4 (.tmp 47) (.tmp 51) (.tmp 52) (.tmp 53) ?_ (.agg #[.int .i64 x.1, .int .u32 x.2]) (.pointer (some ⟨rb, 0, none⟩)) (.map (some bb)) (.map (some nb)) ?_ ?_ ?_ ?_ _ (mb_built x.1 x.2 rb bb nb) <;> rfl)); try simp only [zp1, zp3, zp4, zp5]; refine rg_call (i := 13) (atN rfl) (by kernel_rfl) ?_ (fun K hK => ?_); (· rfl))); rotate_left 1
                (focus ((refine qy 12 ?_ ?_ ?_ hHeld ?_; rotate_left 1; (· rfl); (· intro w' hSw; refine exec_built4 130 0 2 3 4 (.tmp 47) (.tmp 51) (.tmp 52) (.tmp 53) ?_ (.agg #[.int .i64 x.1, .int .u32 x.2]) (.pointer (some ⟨rb, 0, none⟩)) (.map (some bb)) (.map (some nb)) ?_ ?_ ?_ ?_ _ (mb_built x.1 x.2 rb bb nb) <;> rfl)); try simp only [zp1, zp3, zp4, zp5]; refine rg_call (i := 13) (atN rfl) (by kernel_rfl) ?_ (fun K hK => ?_); (· rfl))); rotate_left 1
                (focus ((refine qy 12 ?_ ?_ ?_ hHeld ?_; rotate_left 1; (· rfl); (· intro w' hSw; refine exec_built4 130 0 2 3 4 (.tmp 47) (.tmp 51) (.tmp 52) (.tmp 53) ?_ (.agg #[.int .i64 x.1, .int .u32 x.2]) (.pointer (some ⟨rb, 0, none⟩)) (.map (some bb)) (.map (some nb)) ?_ ?_ ?_ ?_ _ (mb_built x.1 x.2 rb bb nb) <;> rfl)); try simp only [zp1, zp3, zp4, zp5]; refine rg_call (i := 13) (atN rfl) (by kernel_rfl) ?_ (fun K hK => ?_); (· rfl))); rotate_left 1
                (focus (refine rg_call (i := 13) (atN rfl) (by kernel_rfl) ?_ (fun K hK => ?_); (· rfl))); rotate_left 1
                (focus (refine rg_call2 (i := 4) (j := 14) (atN rfl) (atN rfl) (by kernel_rfl) ?_ ?_ (fun K hK => ?_) (fun K hK => ?_); (· rfl); (· rfl))); rotate_left 2
                (focus ((refine qy 12 ?_ ?_ ?_ hHeld ?_; rotate_left 1; (· rfl); (· intro w' hSw; refine exec_built4 130 0 2 3 4 (.tmp 47) (.tmp 51) (.tmp 52) (.tmp 53) ?_ (.agg #[.int .i64 x.1, .int .u32 x.2]) (.pointer (some ⟨rb, 0, none⟩)) (.map (some bb)) (.map (some nb)) ?_ ?_ ?_ ?_ _ (mb_built x.1 x.2 rb bb nb) <;> rfl)); try simp only [zp1, zp3, zp4, zp5]; refine rg_call (i := 13) (atN rfl) (by kernel_rfl) ?_ (fun K hK => ?_); (· rfl))); rotate_left 1
                (focus (refine rg_call (i := 13) (atN rfl) (by kernel_rfl) ?_ (fun K hK => ?_); (· rfl))); rotate_left 1
                (focus (refine rg_call2 (i := 4) (j := 14) (atN rfl) (atN rfl) (by kernel_rfl) ?_ ?_ (fun K hK => ?_) (fun K hK => ?_); (· rfl); (· rfl))); rotate_left 2
                (focus ((refine qy 12 ?_ ?_ ?_ hHeld ?_; rotate_left 1; (· rfl); (· intro w' hSw; refine exec_built4 130 0 2 3 4 (.tmp 47) (.tmp 51) (.tmp 52) (.tmp 53) ?_ (.agg #[.int .i64 x.1, .int .u32 x.2]) (.pointer (some ⟨rb, 0, none⟩)) (.map (some bb)) (.map (some nb)) ?_ ?_ ?_ ?_ _ (mb_built x.1 x.2 rb bb nb) <;> rfl)); try simp only [zp1, zp3, zp4, zp5]; refine rg_call (i := 13) (atN rfl) (by kernel_rfl) ?_ (fun K hK => ?_); (· rfl))); rotate_left 1
                (focus ((refine qy 12 ?_ ?_ ?_ hHeld ?_; rotate_left 1; (· rfl); (· intro w' hSw; refine exec_built4 130 0 2 3 4 (.tmp 47) (.tmp 51) (.tmp 52) (.tmp 53) ?_ (.agg #[.int .i64 x.1, .int .u32 x.2]) (.pointer (some ⟨rb, 0, none⟩)) (.map (some bb)) (.map (some nb)) ?_ ?_ ?_ ?_ _ (mb_built x.1 x.2 rb bb nb) <;> rfl)); try simp only [zp1, zp3, zp4, zp5]; refine rg_call (i := 13) (atN rfl) (by kernel_rfl) ?_ (fun K hK => ?_); (· rfl))); rotate_left 1
                (focus ((refine qy 12 ?_ ?_ ?_ hHeld ?_; rotate_left 1; (· rfl); (· intro w' hSw; refine exec_built4 130 0 2 3 4 (.tmp 47) (.tmp 51) (.tmp 52) (.tmp 53) ?_ (.agg #[.int .i64 x.1, .int .u32 x.2]) (.pointer (some ⟨rb, 0, none⟩)) (.map (some bb)) (.map (some nb)) ?_ ?_ ?_ ?_ _ (mb_built x.1 x.2 rb bb nb) <;> rfl)); try simp only [zp1, zp3, zp4, zp5]; refine rg_call (i := 13) (atN rfl) (by kernel_rfl) ?_ (fun K hK => ?_); (· rfl))); rotate_left 1
                (focus (refine rg_call (i := 13) (atN rfl) (by kernel_rfl) ?_ (fun K hK => ?_); (· rfl))); rotate_left 1
                (focus (refine rg_call2 (i := 4) (j := 14) (atN rfl) (atN rfl) (by kernel_rfl) ?_ ?_ (fun K hK => ?_) (fun K hK => ?_); (· rfl); (· rfl))); rotate_left 2
                (focus ((refine qy 12 ?_ ?_ ?_ hHeld ?_; rotate_left 1; (· rfl); (· intro w' hSw; refine exec_built4 130 0 2 3 4 (.tmp 47) (.tmp 51) (.tmp 52) (.tmp 53) ?_ (.agg #[.int .i64 x.1, .int .u32 x.2]) (.pointer (some ⟨rb, 0, none⟩)) (.map (some bb)) (.map (some nb)) ?_ ?_ ?_ ?_ _ (mb_built x.1 x.2 rb bb nb) <;> rfl)); try simp only [zp1, zp3, zp4, zp5]; refine rg_call (i := 13) (atN rfl) (by kernel_rfl) ?_ (fun K hK => ?_); (· rfl))); rotate_left 1
                (focus (refine rg_call (i := 13) (atN rfl) (by kernel_rfl) ?_ (fun K hK => ?_); (· rfl))); rotate_left 1
                (focus (refine rg_call2 (i := 4) (j := 14) (atN rfl) (atN rfl) (by kernel_rfl) ?_ ?_ (fun K hK => ?_) (fun K hK => ?_); (· rfl); (· rfl))); rotate_left 2
                all_goals
                  first
                  | ((show Oper.wp _ { dst := some 46, op := _, type := _, pos := _, after := _, guard := _ } _ _ _ _); (try clear hb); have t1 : _ = some (Value.slice s k c) := row_cell (NAD.out.below BD.out).top 0; go_simp; go_wp2_with fail; refine hK.out _ _ ?_ (fun hHeld => ?_); (· exact hHeld); clear hK K; try simp only [zp1, zp3, zp4, zp5])
                  | ((show Oper.wp _ { dst := some 55, op := _, type := _, pos := _, after := _, guard := _ } _ _ _ _); (try clear hb); go_simp; refine row_k (p := K _) ?_; intro w13 hmb hb13 z13; have Z13 := Lib.hid z13; clear z13; obtain ⟨mb, hmbb, hmb⟩ : ∃ mb, mb = _ ∧ w13.heap[mb]? = _ := ⟨_, rfl, hmb⟩; rw [← hmbb]; have Hmb := Lib.hid hmbb; clear hmbb; replace BD := Lib.hid (below_on BD.out hb13); replace hrib := hrib.below hb13; replace hbm := hbm.below hb13; replace hnm := hnm.below hb13; refine hK.out _ _ ?_ (fun hHeld => ?_); (· exact hHeld.grow hb13); clear hK K; try simp only [zp1, zp3, zp4, zp5])
                  | ((show Oper.wp _ { dst := some 56, op := _, type := _, pos := _, after := _, guard := _ } _ _ _ _); (try clear hb); go_simp; refine cell_k (p := K _) ?_; intro w14 hn14 hb14 z14; have Z14 := Lib.hid z14; clear z14; have B13 := Lib.hid BD.out; have B14 := Lib.hid hb14; replace BD := Lib.hid (below_on BD.out hb14); refine hK.out _ _ ?_ (fun hHeld => ?_); (· exact hHeld.grow hb14); clear hK K; try simp only [zp1, zp3, zp4, zp5])
                (focus (refine rg_call (i := 14) (atN rfl) (by kernel_rfl) ?_ (fun K hK => ?_); (· rfl))); rotate_left 1
                (focus (refine rg_call (i := 14) (atN rfl) (by kernel_rfl) ?_ (fun K hK => ?_); (· rfl))); rotate_left 1
                (focus (refine rg_call (i := 14) (atN rfl) (by kernel_rfl) ?_ (fun K hK => ?_); (· rfl))); rotate_left 1
                (focus (refine rg_call (i := 14) (atN rfl) (by kernel_rfl) ?_ (fun K hK => ?_); (· rfl))); rotate_left 1
                (focus (refine rg_call (i := 14) (atN rfl) (by kernel_rfl) ?_ (fun K hK => ?_); (· rfl))); rotate_left 1
                (focus (refine rg_call (i := 14) (atN rfl) (by kernel_rfl) ?_ (fun K hK => ?_); (· rfl))); rotate_left 1
                (focus (refine rg_call (i := 14) (atN rfl) (by kernel_rfl) ?_ (fun K hK => ?_); (· rfl))); rotate_left 1
                (focus (refine rg_call (i := 14) (atN rfl) (by kernel_rfl) ?_ (fun K hK => ?_); (· rfl))); rotate_left 1
                (focus (refine rg_call (i := 14) (atN rfl) (by kernel_rfl) ?_ (fun K hK => ?_); (· rfl))); rotate_left 1
                (focus (refine rg_call (i := 14) (atN rfl) (by kernel_rfl) ?_ (fun K hK => ?_); (· rfl))); rotate_left 1
                (focus (refine rg_call (i := 14) (atN rfl) (by kernel_rfl) ?_ (fun K hK => ?_); (· rfl))); rotate_left 1
                (focus (refine rg_call (i := 4) (atN rfl) (by kernel_rfl) ?_ (fun K hK => ?_); (· rfl))); rotate_left 1
                (focus (refine rg_call (i := 14) (atN rfl) (by kernel_rfl) ?_ (fun K hK => ?_); (· rfl))); rotate_left 1
                (focus (refine rg_call (i := 14) (atN rfl) (by kernel_rfl) ?_ (fun K hK => ?_); (· rfl))); rotate_left 1
                (focus (refine rg_call (i := 14) (atN rfl) (by kernel_rfl) ?_ (fun K hK => ?_); (· rfl))); rotate_left 1
                (focus (refine rg_call (i := 4) (atN rfl) (by kernel_rfl) ?_ (fun K hK => ?_); (· rfl))); rotate_left 1
                (focus (refine rg_call (i := 14) (atN rfl) (by kernel_rfl) ?_ (fun K hK => ?_); (· rfl))); rotate_left 1
                (focus (refine rg_call (i := 14) (atN rfl) (by kernel_rfl) ?_ (fun K hK => ?_); (· rfl))); rotate_left 1
                (focus (refine rg_call (i := 14) (atN rfl) (by kernel_rfl) ?_ (fun K hK => ?_); (· rfl))); rotate_left 1
                (focus (refine rg_call (i := 14) (atN rfl) (by kernel_rfl) ?_ (fun K hK => ?_); (· rfl))); rotate_left 1
                (focus (refine rg_call (i := 14) (atN rfl) (by kernel_rfl) ?_ (fun K hK => ?_); (· rfl))); rotate_left 1
                (focus (refine rg_call (i := 4) (atN rfl) (by kernel_rfl) ?_ (fun K hK => ?_); (· rfl))); rotate_left 1
                (focus (refine rg_call (i := 14) (atN rfl) (by kernel_rfl) ?_ (fun K hK => ?_); (· rfl))); rotate_left 1
                (focus (refine rg_call (i := 14) (atN rfl) (by kernel_rfl) ?_ (fun K hK => ?_); (· rfl))); rotate_left 1
                (focus (refine rg_call (i := 14) (atN rfl) (by kernel_rfl) ?_ (fun K hK => ?_); (· rfl))); rotate_left 1
                (focus (refine rg_call (i := 4) (atN rfl) (by kernel_rfl) ?_ (fun K hK => ?_); (· rfl))); rotate_left 1
                (focus (refine rg_call (i := 14) (atN rfl) (by kernel_rfl) ?_ (fun K hK => ?_); (· rfl))); rotate_left 1
                (focus (refine rg_call (i := 14) (atN rfl) (by kernel_rfl) ?_ (fun K hK => ?_); (· rfl))); rotate_left 1
                (focus (refine rg_call (i := 14) (atN rfl) (by kernel_rfl) ?_ (fun K hK => ?_); (· rfl))); rotate_left 1
                (focus (refine rg_call (i := 14) (atN rfl) (by kernel_rfl) ?_ (fun K hK => ?_); (· rfl))); rotate_left 1
                (focus (refine rg_call (i := 14) (atN rfl) (by kernel_rfl) ?_ (fun K hK => ?_); (· rfl))); rotate_left 1
                (focus (refine rg_call (i := 4) (atN rfl) (by kernel_rfl) ?_ (fun K hK => ?_); (· rfl))); rotate_left 1
                (focus (refine rg_call (i := 14) (atN rfl) (by kernel_rfl) ?_ (fun K hK => ?_); (· rfl))); rotate_left 1
                (focus (refine rg_call (i := 14) (atN rfl) (by kernel_rfl) ?_ (fun K hK => ?_); (· rfl))); rotate_left 1
                (focus (refine rg_call (i := 14) (atN rfl) (by kernel_rfl) ?_ (fun K hK => ?_); (· rfl))); rotate_left 1
                (focus (refine rg_call (i := 4) (atN rfl) (by kernel_rfl) ?_ (fun K hK => ?_); (· rfl))); rotate_left 1
                all_goals
                  first
                  | ((show Oper.wp _ { dst := some 46, op := _, type := _, pos := _, after := _, guard := _ } _ _ _ _); (try clear hb); have t1 : _ = some (Value.slice s k c) := row_cell (NAD.out.below BD.out).top 0; go_simp; go_wp2_with fail; refine hK.out _ _ ?_ (fun hHeld => ?_); (· exact hHeld); clear hK K; try simp only [zp1, zp3, zp4, zp5])
                  | ((show Oper.wp _ { dst := some 56, op := _, type := _, pos := _, after := _, guard := _ } _ _ _ _); (try clear hb); go_simp; refine cell_k (p := K _) ?_; intro w14 hn14 hb14 z14; have Z14 := Lib.hid z14; clear z14; have B13 := Lib.hid BD.out; have B14 := Lib.hid hb14; replace BD := Lib.hid (below_on BD.out hb14); refine hK.out _ _ ?_ (fun hHeld => ?_); (· exact hHeld.grow hb14); clear hK K; try simp only [zp1, zp3, zp4, zp5])
                  | skip
                all_goals
                  (refine rg_call (i := 15) (atN rfl) (by kernel_rfl) ?_ (fun K hK => ?_); (· rfl); (try clear hb); have OX := own_below NAD.out.row BD.out; refine wp_append_at (.tmp 46) (.tmp 56) 123 ?_ W.heap.size 126 i0 _ 1 8 Tryz.underlying123 hii hz0 hz1 hz2 rfl (by decide) (.slice s k c) k (ls.flatMap plC) ?_ OX ⟨w13.heap.size, 0, none⟩ 1 1 [.pointer (some ⟨mb, 0, none⟩)] ?_ rfl hn14 ?_ L1.out L2.out ?_ ?_; (· rfl); (· rfl); (· rfl); (· intro u hu; simp at hu; subst hu; rfl); (· have h1 := BW.out; have h2 := hHeld.size; omega); intro v' w' hown hgrow hat; obtain ⟨s6, c6, hv6, -⟩ := own_form hown; subst hv6; refine hK.out _ _ ?_ (fun hHeld => ?_); (· exact hHeld.trans ((kept_gr hgrow).imp fun q hq => .inr hq)); clear hK K); try simp only [zp1, zp3, zp4, zp5]
                  (refine qy 16 ?_ ?_ ?_ hHeld ?_; rotate_left 1; (· rfl); (· intro w' hSw; (try clear hHeld); go_simp; try with_reducible rfl)); try simp only [zp1, zp3, zp4, zp5]
                  (refine qy 17 ?_ ?_ ?_ hHeld ?_; rotate_left 1; (· rfl); (· intro w' hSw; (try clear hHeld); go_simp; try with_reducible rfl)); try simp only [zp1, zp3, zp4, zp5]
                  (refine rg_call (i := 18) (atN rfl) (by kernel_rfl) ?_ (fun K hK => ?_); (· rfl); (try clear hb); have tp := ((kept_gr hgrow).block _ (row_lt (NAD.out.below BD.out).top) NSB.out).trans (NAD.out.below BD.out).top; have tw : _ = some (Value.slice s k c) := row_cell tp 0; have fz := row_free tp 0; go_simp; go_wp2_with fail; refine hK.out _ _ ?_ (fun hHeld => ?_); (· exact hHeld.trans (Kept.setCell _ _ (.inl rfl))); clear hK K); try simp only [Act.put]
                  refine wpAnyH_done (by kernel_rfl) ?_ _
                  obtain ⟨s7, c7, rho7, hv7, NX⟩ := NAD.out.step HXK.out X1.out X2.out hrib hbm hnm hmb B13.out (by have := Z9.out; have := Z10.out; have := Z11.out; have := Z13.out; have := Hbb.out; have := Hnb.out; have := Hmb.out; omega) (by have := Z9.out; have := Z10.out; have := Z11.out; have := Z13.out; have := Hbb.out; have := Hnb.out; have := Hmb.out; omega) (by have := Z9.out; have := Z10.out; have := Z11.out; have := Z13.out; have := Hbb.out; have := Hnb.out; have := Hmb.out; omega) (by have := Z9.out; have := Z10.out; have := Z11.out; have := Z13.out; have := Hbb.out; have := Hnb.out; have := Hmb.out; omega) (by have := Z9.out; have := Z10.out; have := Z11.out; have := Z13.out; have := Hbb.out; have := Hnb.out; have := Hmb.out; omega) (by have := Z9.out; have := Z10.out; have := Z11.out; have := Z13.out; have := Hbb.out; have := Hnb.out; have := Hmb.out; omega) (by have := Z9.out; have := Z10.out; have := Z11.out; have := Z13.out; have := Hbb.out; have := Hnb.out; have := Hmb.out; omega) (by have := Z9.out; have := Z10.out; have := Z11.out; have := Z13.out; have := Hbb.out; have := Hnb.out; have := Hmb.out; omega) (by have := Z9.out; have := Z10.out; have := Z11.out; have := Z13.out; have := Hbb.out; have := Hnb.out; have := Hmb.out; omega) (by have := Z9.out; have := Z10.out; have := Z11.out; have := Z13.out; have := Hbb.out; have := Hnb.out; have := Hmb.out; omega) (by have := Z9.out; have := Z10.out; have := Z11.out; have := Z13.out; have := Hbb.out; have := Hnb.out; have := Hmb.out; omega) B14.out hown (kept_gr hgrow) hat
                  injection hv7 with e1 _ e2
                  subst e1; subst e2
                  have NX2 := Lib.hid NX
                  clear hHeld hown hgrow hat hrib hbm hnm hmb NX tw tp fz
                  go_wp2_with fail
                  exact ⟨⟨k + 1, s6, c6, _, rho7, by omega, by go_num, NX2, OKS2⟩, by simp [intOf]; omega⟩
              · have d2 : ((x.2 : Int) == 0) = true := by simp at hs2 ⊢; omega
                have CB := Lib.hid (newCd_bad NC.out NM.out (all_bad HXK.out (by unfold sdB; rw [hs1, hs2]; rfl)))
                clear hs1 hs2
                go_wp2_with fail
                refine bodyPost_ret (v := .tuple #[.pointer none, .int .i64 1]) (by simp [results, Tryz.results14, go_sem]) rfl (.inl ⟨by rw [CB.out]; decide, by rw [CB.out], NA1.out.bel⟩)
          · obtain rfl : k = xs.length := by omega
            obtain ⟨rho', hS, hlo⟩ := NA.out.done OWN.out (by have := NM.out; omega) (most0 := most) rfl
            have C0 := Lib.hid (newCd_ok NC.out NM.out (all_ok OKS.out))
            have FIN : Hid (NewPost own most xs W (.returned (.tuple #[.pointer (some ⟨sb, 0, none⟩), .int .i64 0])) wr) := Lib.hid (.inr ⟨C0.out, rho', sb, fb, ls, rfl, hS, hlo, NA.out.bel⟩)
            clear hS hlo NA OKS
            go_wp2_with fail
            refine bodyPost_ret (v := .tuple #[.pointer (some ⟨sb, 0, none⟩), .int .i64 0]) (by simp [results, Tryz.results14, go_sem]) rfl FIN.out
end Go.Proofs.YtkoidahgbbabiaaGreat
