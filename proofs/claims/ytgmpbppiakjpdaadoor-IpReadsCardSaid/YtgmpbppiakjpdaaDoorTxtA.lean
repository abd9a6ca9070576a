/-
  THE REFERENCE's READING: addr, Parse, ParsePrefix.
-/
import Derived.Test.YtgmpbppiakjpdaaDoorTxtQ
namespace Go.Proofs.YtgmpbppiakjpdaaDoor
open Go.RowKit Go.Shelf

theorem bytesAt_drop {w : World} {g off : Nat} {l : List UInt8} (h : BytesAt w g off l) (at' : Nat) (ha : at' ≤ l.length) : BytesAt w g (off + at') (l.drop at') := by
  intro j hj
  have := h (at' + j) (by simp at hj; omega)
  rw [List.getElem_drop, Nat.add_assoc]
  exact this
theorem slice_from (g off cap q : Nat) (i : Int) (hi : i = q) (l : List UInt8) (hq : q ≤ l.length) (hcap : l.length ≤ cap) (w : World) (hc : BytesAt w g off l) : ∃ X, (∀ W, (Instr.sliceAt 42 (.slice (some ⟨g, off, none⟩) l.length cap) (some (.int .i64 i)) none none).run Tryd.prog W = .ok (.slice (some ⟨g, X, none⟩) (l.length - q) (cap - q)) W) ∧ BytesAt w g X (l.drop q) := by
  subst hi
  have hz : ∀ W, (sizeOf (Tryd.prog.elem 42)).run Tryd.prog W = .ok 1 W := fun W => by kernel_rfl
  have hu : Tryd.prog.underlying 42 = some (.slice (Tryd.prog.elem 42)) := by kernel_rfl
  by_cases he : cap = q
  · refine ⟨off, fun W => ?_, ?_⟩
    · rw [run_sliceAt_slice (h := hu), run_slice_l (ht := hu) (h0 := by omega) (h1 := by omega), hz]
      simp [Result.andThen, sliced, he]
    · rw [List.drop_eq_nil_of_le (by omega)]
      intro j hj; simp at hj
  · refine ⟨off + q, fun W => ?_, bytesAt_drop hc q hq⟩
    rw [run_sliceAt_slice (h := hu), run_slice_l (ht := hu) (h0 := by omega) (h1 := by omega), hz]
    simp [Result.andThen, sliced, he, Addr.add]
theorem num_cases {o : Option (Nat × List UInt8)} {k av : Nat} {r : List UInt8} (h : o = numGo k av r) :
    (rnumV r = (-1, 0) ∧ o = none) ∨ ∃ v c : Nat, rnumV r = ((v : Int), (c : Int)) ∧ c ≤ r.length ∧ v < 10000 ∧ ((255 < v ∧ o = none) ∨ (v ≤ 255 ∧ o = adGo k (av * 256 + v) (r.drop c))) := by
  cases hn : numS (lead 4 r)
  · refine .inl ⟨by unfold rnumV; rw [hn]; rfl, ?_⟩
    rw [h]; unfold numGo numOk; rw [hn]; rfl
  · have hlen : (lead 4 r).length ≤ 4 := by
      have := hn
      simp [numS] at this
      omega
    have hv : valD (lead 4 r) 0 < 10000 := by
      have h1 := valD_lt (lead 4 r) 0 (lead_dig 4 r)
      have h2 : (10 : Nat) ^ (lead 4 r).length ≤ 10 ^ 4 := Nat.pow_le_pow_right (by decide) hlen
      omega
    refine .inr ⟨_, _, by unfold rnumV; rw [hn]; rfl, lead_le 4 r, hv, ?_⟩
    by_cases hv2 : valD (lead 4 r) 0 ≤ 255
    · have hk : numOk (lead 4 r) 255 = true := by unfold numOk; rw [hn]; simp [hv2]
      exact .inr ⟨hv2, by rw [h]; unfold numGo; rw [hk]; rfl⟩
    · have hk : numOk (lead 4 r) 255 = false := by unfold numOk; rw [hn]; simp [hv2]
      exact .inl ⟨by omega, by rw [h]; unfold numGo; rw [hk]; rfl⟩
/-- what addr gives back. -/
def adE (l : List UInt8) : Option (Nat × List UInt8) → Ending
  | some (a, r) => .returned (.tuple #[.int .u32 a, .int .i64 (l.length - r.length : Nat), .bool true])
  | none => .returned (.tuple #[.int .u32 0, .int .i64 0, .bool false])
theorem ad_no {l : List UInt8} {o : Option (Nat × List UInt8)} (h : o = none) : Ending.returned (.tuple #[.int .u32 0, .int .i64 0, .bool false]) = adE l o := by rw [h]; rfl
theorem ad_yes {l : List UInt8} {o : Option (Nat × List UInt8)} {a q : Nat} (hq : q ≤ l.length) (h : o = some (a, l.drop q)) : Ending.returned (.tuple #[.int .u32 a, .int .i64 q, .bool true]) = adE l o := by
  rw [h]
  simp only [adE, List.length_drop]
  rw [show l.length - (l.length - q) = q by omega]
theorem ad_dot {l : List UInt8} {k av q : Nat} (hk0 : 0 < k) (hk : k < 4) (hq : q < l.length) (h : l[q].toNat = 46) : adGo (4 - k) av (l.drop q) = numGo (3 - k) av (l.drop (q + 1)) := by
  have e : l[q] = 46 := UInt8.toNat_inj.1 (by rw [h]; rfl)
  rw [show 4 - k = (3 - k) + 1 by omega, adGo_step (by omega), List.drop_eq_getElem_cons hq, e, undot_yes]
theorem ad_nodot {l : List UInt8} {k av q : Nat} (hk0 : 0 < k) (hk : k < 4) (hq : q < l.length) (h : ¬ l[q].toNat = 46) : adGo (4 - k) av (l.drop q) = none := by
  have e : l[q] ≠ 46 := fun e => h (by rw [e]; rfl)
  rw [show 4 - k = (3 - k) + 1 by omega, adGo_step (by omega), List.drop_eq_getElem_cons hq, undot_no e]
theorem ad_over {l : List UInt8} {k av q : Nat} (hk0 : 0 < k) (hk : k < 4) (hq : l.length ≤ q) : adGo (4 - k) av (l.drop q) = none := by
  rw [show 4 - k = (3 - k) + 1 by omega, adGo_step (by omega), List.drop_eq_nil_of_le hq]; rfl
theorem pow_256 {av k : Nat} (h : av < 256 ^ k) (hk : k < 4) : av < 16777216 :=
  Nat.lt_of_lt_of_le h (by calc 256 ^ k ≤ 256 ^ 3 := Nat.pow_le_pow_right (by decide) (by omega)
    _ = 16777216 := by decide)

theorem ref_number' (g off len cap : Nat) (l : List UInt8) (hlen : len = l.length) (hl : l.length ≤ 1000000) (w : World) (hc : BytesAt w g off l) : Calls Tryd.prog 24 #[.slice (some ⟨g, off, none⟩) len cap] w fun e w' => e = .returned (.tuple #[.int .i64 (rnumV l).1, .int .i64 (rnumV l).2]) ∧ w = w' := by
  subst hlen; exact ref_number g off cap l hl w hc

set_option maxHeartbeats 3200000 in
set_option maxRecDepth 100000 in
theorem ref_addr (g off cap : Nat) (l : List UInt8) (hl : l.length ≤ 1000000) (hcap : l.length ≤ cap) (w : World) (hc : BytesAt w g off l) : Calls Tryd.prog 23 #[.slice (some ⟨g, off, none⟩) l.length cap] w fun e w' => e = adE l (adGo 4 0 l) ∧ w = w' := by
  have HC := Lib.hid hc
  clear hc
  generalize hO : adGo 4 0 l = o
  go_enter Tryd.func23, Tryd.ntmps23
  go_wp2_with fail
  go_loop [5, 6, 7] (fun a p i => ∃ k av q : Nat, k ≤ 4 ∧ q ≤ l.length ∧ i = .int .i64 k ∧ a = .int .u32 av ∧ p = .int .i64 q ∧ av < 256 ^ k ∧ Hid (o = adGo (4 - k) av (l.drop q))) (fun _ _ i => 4 - (intOf i).toNat)
  case atStart => exact ⟨0, 0, 0, by omega, by omega, rfl, rfl, rfl, by decide, Lib.hid hO.symm⟩
  case round =>
    clear hO
    obtain ⟨k, av, q, hk, hq, rfl, rfl, rfl, hav, HP⟩ := hrel
    by_cases hlt : k < 4
    · have ha24 := pow_256 hav hlt
      by_cases hk0 : 0 < k
      · by_cases hql : q < l.length
        · have hcq := HC.out q hql
          have xk : l[q].toNat < 256 := l[q].toNat_lt
          by_cases hdot : l[q].toNat = 46
          · have HN := Lib.hid (HP.out.trans (ad_dot hk0 hlt hql hdot))
            have z1 : (((l[q].toNat : Nat) : Int) != 46) = false := by rw [bne_eq_false_iff_eq]; omega
            clear HP hdot
            obtain ⟨X, hX, hB⟩ := slice_from g off cap (q + 1) ((q : Int) + 1) (by omega) l (by omega) hcap w HC.out
            have HB := Lib.hid hB
            clear hB
            go_wp2_with fail
            refine (ref_number' g X _ _ (l.drop (q + 1)) (by simp) (by simp; omega) w HB.out).mono ?_
            rintro e w1 ⟨rfl, rfl⟩
            clear hX
            rcases num_cases HN.out with ⟨e1, e2⟩ | ⟨v, c, e1, hc, hv, ⟨hv2, e2⟩ | ⟨hv2, e2⟩⟩
            · rw [e1]
              have E := Lib.hid e2
              clear e1 e2 HN
              go_wp2_with fail
              exact bodyPost_ret (v := .tuple #[.int .u32 0, .int .i64 0, .bool false]) (by simp [results, Tryd.results23, go_sem]) rfl ⟨ad_no E.out, rfl⟩
            · rw [e1]
              have E := Lib.hid e2
              clear e1 e2 HN
              go_wp2_with fail
              exact bodyPost_ret (v := .tuple #[.int .u32 0, .int .i64 0, .bool false]) (by simp [results, Tryd.results23, go_sem]) rfl ⟨ad_no E.out, rfl⟩
            · rw [e1]
              rw [List.drop_drop] at e2
              simp only [List.length_drop] at hc
              have E := Lib.hid e2
              clear e1 e2 HN
              have hpow : av * 256 + v < 256 ^ (k + 1) := by rw [Nat.pow_succ]; omega
              go_wp2_with fail
              exact ⟨⟨k + 1, av * 256 + v, (q + 1) + c, by omega, by omega, by go_num, by go_num, by go_num, hpow, Lib.hid (by rw [E.out, show 4 - (k + 1) = 3 - k by omega])⟩, by simp [intOf]; try omega⟩
          · have HN := Lib.hid (HP.out.trans (ad_nodot hk0 hlt hql hdot))
            have z1 : (((l[q].toNat : Nat) : Int) != 46) = true := by rw [bne_iff_ne]; omega
            clear HP hdot
            go_wp2_with fail
            exact bodyPost_ret (v := .tuple #[.int .u32 0, .int .i64 0, .bool false]) (by simp [results, Tryd.results23, go_sem]) rfl ⟨ad_no HN.out, rfl⟩
        · have HN := Lib.hid (HP.out.trans (ad_over hk0 hlt (by omega)))
          clear HP
          go_wp2_with fail
          exact bodyPost_ret (v := .tuple #[.int .u32 0, .int .i64 0, .bool false]) (by simp [results, Tryd.results23, go_sem]) rfl ⟨ad_no HN.out, rfl⟩
      · obtain rfl : k = 0 := by omega
        have HN : Hid (o = numGo (3 - 0) av (l.drop q)) := Lib.hid HP.out
        clear HP
        obtain ⟨X, hX, hB⟩ := slice_from g off cap q (q : Int) (by omega) l (by omega) hcap w HC.out
        have HB := Lib.hid hB
        clear hB
        go_wp2_with fail
        refine (ref_number' g X _ _ (l.drop q) (by simp) (by simp; omega) w HB.out).mono ?_
        rintro e w1 ⟨rfl, rfl⟩
        clear hX
        rcases num_cases HN.out with ⟨e1, e2⟩ | ⟨v, c, e1, hc, hv, ⟨hv2, e2⟩ | ⟨hv2, e2⟩⟩
        · rw [e1]
          have E := Lib.hid e2
          clear e1 e2 HN
          go_wp2_with fail
          exact bodyPost_ret (v := .tuple #[.int .u32 0, .int .i64 0, .bool false]) (by simp [results, Tryd.results23, go_sem]) rfl ⟨ad_no E.out, rfl⟩
        · rw [e1]
          have E := Lib.hid e2
          clear e1 e2 HN
          go_wp2_with fail
          exact bodyPost_ret (v := .tuple #[.int .u32 0, .int .i64 0, .bool false]) (by simp [results, Tryd.results23, go_sem]) rfl ⟨ad_no E.out, rfl⟩
        · rw [e1]
          rw [List.drop_drop] at e2
          simp only [List.length_drop] at hc
          have E := Lib.hid e2
          clear e1 e2 HN
          have hpow : av * 256 + v < 256 ^ (0 + 1) := by rw [Nat.pow_succ]; omega
          go_wp2_with fail
          exact ⟨⟨0 + 1, av * 256 + v, q + c, by omega, by omega, by go_num, by go_num, by go_num, hpow, Lib.hid (by rw [E.out, show 4 - (0 + 1) = 3 - 0 by omega])⟩, by simp [intOf]; try omega⟩
    · obtain rfl : k = 4 := by omega
      have E := HP.out
      have E' := Lib.hid (ad_yes hq (show o = some (av, l.drop q) from E))
      clear HP E
      go_wp2_with fail
      exact bodyPost_ret (v := .tuple #[.int .u32 av, .int .i64 q, .bool true]) (by simp [results, Tryd.results23, go_sem]) rfl ⟨E'.out, rfl⟩

/-! ### texts as bytes -/
theorem bytes_run (l : List UInt8) (w : World) : ∃ (C : Nat) (w1 : World), (convert 9 42 (.string ⟨l.toArray⟩)).run Tryd.prog w = .ok (.slice (some ⟨w.heap.size, 0, none⟩) l.length C) w1 ∧ l.length ≤ C ∧ BytesAt w1 w.heap.size 0 l ∧ Below w.heap.size w w1 := by
  have h := run_bytes_of_string (P := Tryd.prog) w 9 42 5 ⟨l.toArray⟩ Tryd.underlying9 Tryd.underlying42 Tryd.underlying5
  have hs : (ByteArray.mk l.toArray).size = l.length := by simp [ByteArray.size]
  have hC : l.length ≤ grownCap w l.length 0 5 := Nat.le_add_right _ _
  rw [hs] at h
  refine ⟨_, _, h, hC, ?_, ?_⟩
  · intro j hj
    have hj2 : j < (bytesRow ⟨l.toArray⟩ (grownCap w l.length 0 5)).size := by
      unfold bytesRow
      simp
      omega
    have : ((w.drew.alloc (.cells (bytesRow ⟨l.toArray⟩ (grownCap w l.length 0 5)) 5 ((bytesRow ⟨l.toArray⟩ (grownCap w l.length 0 5)).size, (bytesRow ⟨l.toArray⟩ (grownCap w l.length 0 5)).size + 1))).cell? ⟨w.heap.size, 0 + j, none⟩) = (bytesRow ⟨l.toArray⟩ (grownCap w l.length 0 5))[j]? := by
      rw [Nat.zero_add]
      exact World.cell?_alloc_mark w.drew _ _ _ j
    rw [this]
    unfold bytesRow
    rw [Array.getElem?_append_left (by simpa using hj)]
    simp [hj]
  · exact ((Below.refl _ _).drew).alloc (Nat.le_refl _) _
theorem ad_suffix : ∀ (k : Nat), k ≤ 3 → ∀ (a : Nat) (f : List UInt8) (v : Nat) (r : List UInt8), numGo k a f = some (v, r) → r <:+ f := by
  intro k
  induction k with
  | zero =>
    intro _ a f v r h
    unfold numGo at h
    split at h
    · unfold adGo at h
      rw [← (Prod.mk.inj (Option.some.inj h)).2]
      exact List.drop_suffix _ _
    · cases h
  | succ k ih =>
    intro hk a f v r h
    have hs := fun a r => adGo_step (k := k) (by omega) a r
    unfold numGo at h
    split at h
    · rw [hs] at h
      cases hd : f.drop (lead 4 f).length with
      | nil => rw [hd] at h; cases h
      | cons c t =>
        rw [hd] at h
        by_cases hc : c = 46
        · subst hc
          rw [undot_yes] at h
          have h1 := ih (by omega) _ _ _ _ h
          have h2 : (46 :: t) <:+ f := by rw [← hd]; exact List.drop_suffix _ _
          exact (h1.trans (List.suffix_cons _ _)).trans h2
        · rw [undot_no hc] at h; cases h
    · cases h
end Go.Proofs.YtgmpbppiakjpdaaDoor
