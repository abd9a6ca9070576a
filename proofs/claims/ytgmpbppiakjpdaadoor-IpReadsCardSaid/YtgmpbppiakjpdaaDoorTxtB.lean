/-
  THE REFERENCE's Parse, ParsePrefix.
-/
import Derived.Test.YtgmpbppiakjpdaaDoorTxtA
namespace Go.Proofs.YtgmpbppiakjpdaaDoor
open Go.RowKit Go.Shelf

theorem suf_drop {l r : List UInt8} (h : r <:+ l) : r.length ≤ l.length ∧ l.drop (l.length - r.length) = r :=
  ⟨h.length_le, (List.suffix_iff_eq_drop.1 h).symm⟩
theorem par_nil {l : List UInt8} {a : Nat} (h : adGo 4 0 l = some (a, [])) : parseL l = some a := by rw [parseL_ref, h]; rfl
theorem par_cons {l : List UInt8} {a : Nat} {c : UInt8} {t : List UInt8} (h : adGo 4 0 l = some (a, c :: t)) : parseL l = none := by rw [parseL_ref, h]; rfl
theorem par_none {l : List UInt8} (h : adGo 4 0 l = none) : parseL l = none := by rw [parseL_ref, h]; rfl
theorem ad_lt {l : List UInt8} {a : Nat} {r : List UInt8} (h : adGo 4 0 l = some (a, r)) : a < 4294967296 := by
  have aux : ∀ (k : Nat) (a : Nat) (f : List UInt8) (v : Nat) (r : List UInt8), adGo k a f = some (v, r) → v < (a + 1) * 256 ^ k := by
    intro k
    induction k with
    | zero => intro a f v r h; unfold adGo at h; have := (Prod.mk.inj (Option.some.inj h)).1; subst this; simp
    | succ k ih =>
      intro a f v r h
      unfold adGo at h
      split at h
      · cases h
      · split at h
        · next hn =>
          have hv := num_lt hn
          refine Nat.lt_of_lt_of_le (ih _ _ _ _ h) ?_
          rw [Nat.pow_succ, Nat.mul_comm (256 ^ k) 256, ← Nat.mul_assoc]
          exact Nat.mul_le_mul_right _ (by omega)
        · cases h
  have := aux 4 0 l a r h
  omega

set_option maxHeartbeats 1600000 in
set_option maxRecDepth 100000 in
theorem ref_Parse (l : List UInt8) (hl : l.length ≤ 1000000) (w : World) : Calls Tryd.prog 13 #[.string ⟨l.toArray⟩] w fun e w' => e = .returned (.tuple #[.int .u32 (parV l), .int .i64 (parE l)]) ∧ Below w.heap.size w w' := by
  obtain ⟨C, w1, hrun, hC, hB, hb⟩ := bytes_run l w
  have HC := Lib.hid hB
  clear hB
  have HR := Lib.hid (ref_addr w.heap.size 0 C l hl hC w1 HC.out)
  cases ho : adGo 4 0 l with
  | none =>
    have E := Lib.hid (par_no (par_none ho))
    rw [ho] at HR
    have HR' : Hid (Calls Tryd.prog 23 #[.slice (some ⟨w.heap.size, 0, none⟩) l.length C] w1 fun e w' => e = .returned (.tuple #[.int .u32 0, .int .i64 0, .bool false]) ∧ w1 = w') := Lib.hid HR.out
    clear ho HR
    go_enter Tryd.func13, Tryd.ntmps13
    go_wp2_with fail
    refine HR'.out.mono ?_
    rintro e w2 ⟨rfl, rfl⟩
    clear HR'
    go_wp2_with fail
    exact bodyPost_ret (v := .tuple #[.int .u32 0, .int .i64 2]) (by simp [results, Tryd.results13, go_sem]) rfl ⟨E.out, hb⟩
  | some x =>
    obtain ⟨a, r⟩ := x
    have ha := ad_lt ho
    obtain ⟨h1, h2⟩ := suf_drop (ad_suffix 3 (by omega) _ _ _ _ ho)
    rw [ho] at HR
    cases r with
    | nil =>
      have E := Lib.hid (par_yes (par_nil ho))
      have HR' : Hid (Calls Tryd.prog 23 #[.slice (some ⟨w.heap.size, 0, none⟩) l.length C] w1 fun e w' => e = .returned (.tuple #[.int .u32 a, .int .i64 l.length, .bool true]) ∧ w1 = w') := Lib.hid HR.out
      clear ho h1 h2 HR
      go_enter Tryd.func13, Tryd.ntmps13
      go_wp2_with fail
      refine HR'.out.mono ?_
      rintro e w2 ⟨rfl, rfl⟩
      clear HR'
      go_wp2_with fail
      exact bodyPost_ret (v := .tuple #[.int .u32 a, .int .i64 0]) (by simp [results, Tryd.results13, go_sem]) rfl ⟨E.out, hb⟩
    | cons c t =>
      have E := Lib.hid (par_no (par_cons ho))
      have hn : l.length - (c :: t).length < l.length := by simp at h1 ⊢; omega
      have HR' : Hid (Calls Tryd.prog 23 #[.slice (some ⟨w.heap.size, 0, none⟩) l.length C] w1 fun e w' => e = .returned (.tuple #[.int .u32 a, .int .i64 (l.length - (c :: t).length : Nat), .bool true]) ∧ w1 = w') := Lib.hid HR.out
      clear ho h1 h2 HR
      generalize l.length - (c :: t).length = n at *
      have z1 : ((n : Int) != (l.length : Int)) = true := by rw [bne_iff_ne]; omega
      go_enter Tryd.func13, Tryd.ntmps13
      go_wp2_with fail
      refine HR'.out.mono ?_
      rintro e w2 ⟨rfl, rfl⟩
      clear HR'
      go_wp2_with fail
      exact bodyPost_ret (v := .tuple #[.int .u32 0, .int .i64 2]) (by simp [results, Tryd.results13, go_sem]) rfl ⟨E.out, hb⟩

/-! ### the net -/
theorem net_cases (t : List UInt8) :
    (rnumV t = (-1, 0) ∧ numOk (lead 4 t) 32 = false) ∨ ∃ v c : Nat, rnumV t = ((v : Int), (c : Int)) ∧ c ≤ t.length ∧ v < 10000 ∧ valD (lead 4 t) 0 = v ∧ (lead 4 t).length = c ∧ (numOk (lead 4 t) 32 = true ↔ v ≤ 32) := by
  cases hn : numS (lead 4 t)
  · refine .inl ⟨by unfold rnumV; rw [hn]; rfl, ?_⟩
    unfold numOk; rw [hn]; rfl
  · have hlen : (lead 4 t).length ≤ 4 := by
      have := hn
      simp [numS] at this
      omega
    have hv : valD (lead 4 t) 0 < 10000 := by
      have h1 := valD_lt (lead 4 t) 0 (lead_dig 4 t)
      have h2 : (10 : Nat) ^ (lead 4 t).length ≤ 10 ^ 4 := Nat.pow_le_pow_right (by decide) hlen
      omega
    refine .inr ⟨_, _, by unfold rnumV; rw [hn]; rfl, lead_le 4 t, hv, rfl, rfl, ?_⟩
    unfold numOk; rw [hn]; simp
abbrev rppE (l : List UInt8) : Ending := .returned (.tuple #[.int .u32 (ppR l).1, .int .i64 (ppR l).2.1, .int .i64 (ppR l).2.2])
theorem rpp_eq {l : List UInt8} {a n e : Nat} (h : refPP l = (a, n, e)) : Ending.returned (.tuple #[.int .u32 a, .int .i64 n, .int .i64 e]) = rppE l := by unfold rppE; rw [← refPP_eq, h]
theorem rpp_none {l : List UInt8} (h : adGo 4 0 l = none) : refPP l = (0, 0, 2) := by unfold refPP; rw [h]
theorem rpp_nil {l : List UInt8} {a : Nat} (h : adGo 4 0 l = some (a, [])) : refPP l = (0, 0, 2) := by unfold refPP; rw [h]
theorem rpp_no {l : List UInt8} {a : Nat} {c : UInt8} {t : List UInt8} (h : adGo 4 0 l = some (a, c :: t)) (hn : ¬ (c = 47 ∧ numOk (lead 4 t) 32 = true ∧ (lead 4 t).length = t.length)) : refPP l = (0, 0, 2) := by
  unfold refPP; rw [h]; exact if_neg hn
theorem rpp_yes {l : List UInt8} {a v : Nat} {t : List UInt8} (h : adGo 4 0 l = some (a, 47 :: t)) (hn : numOk (lead 4 t) 32 = true ∧ (lead 4 t).length = t.length) (hv : valD (lead 4 t) 0 = v) : refPP l = if rightB a v then (a, v, 0) else (0, 0, 1) := by
  unfold refPP; rw [h]; subst hv; exact if_pos ⟨rfl, hn⟩

set_option maxHeartbeats 3200000 in
set_option maxRecDepth 100000 in
theorem ref_PP (l : List UInt8) (hl : l.length ≤ 1000000) (w : World) : Calls Tryd.prog 14 #[.string ⟨l.toArray⟩] w fun e w' => e = rppE l ∧ Below w.heap.size w w' := by
  obtain ⟨C, w1, hrun, hC, hB, hb⟩ := bytes_run l w
  have HC := Lib.hid hB
  clear hB
  have HR := Lib.hid (ref_addr w.heap.size 0 C l hl hC w1 HC.out)
  cases ho : adGo 4 0 l with
  | none =>
    have E := Lib.hid (rpp_eq (rpp_none ho))
    rw [ho] at HR
    have HR' : Hid (Calls Tryd.prog 23 #[.slice (some ⟨w.heap.size, 0, none⟩) l.length C] w1 fun e w' => e = .returned (.tuple #[.int .u32 0, .int .i64 0, .bool false]) ∧ w1 = w') := Lib.hid HR.out
    clear ho HR
    go_enter Tryd.func14, Tryd.ntmps14
    go_wp2_with fail
    refine HR'.out.mono ?_
    rintro e w2 ⟨rfl, rfl⟩
    clear HR'
    go_wp2_with fail
    exact bodyPost_ret (v := .tuple #[.int .u32 0, .int .i64 0, .int .i64 2]) (by simp [results, Tryd.results14, go_sem]) rfl ⟨E.out, hb⟩
  | some x =>
    obtain ⟨a, r⟩ := x
    have ha := ad_lt ho
    obtain ⟨h1, h2⟩ := suf_drop (ad_suffix 3 (by omega) _ _ _ _ ho)
    rw [ho] at HR
    cases r with
    | nil =>
      have E := Lib.hid (rpp_eq (rpp_nil ho))
      have HR' : Hid (Calls Tryd.prog 23 #[.slice (some ⟨w.heap.size, 0, none⟩) l.length C] w1 fun e w' => e = .returned (.tuple #[.int .u32 a, .int .i64 l.length, .bool true]) ∧ w1 = w') := Lib.hid HR.out
      clear ho h1 h2 HR
      go_enter Tryd.func14, Tryd.ntmps14
      go_wp2_with fail
      refine HR'.out.mono ?_
      rintro e w2 ⟨rfl, rfl⟩
      clear HR'
      go_wp2_with fail
      exact bodyPost_ret (v := .tuple #[.int .u32 0, .int .i64 0, .int .i64 2]) (by simp [results, Tryd.results14, go_sem]) rfl ⟨E.out, hb⟩
    | cons c t =>
      have hn : l.length - (c :: t).length < l.length := by simp at h1 ⊢; omega
      have HR' : Hid (Calls Tryd.prog 23 #[.slice (some ⟨w.heap.size, 0, none⟩) l.length C] w1 fun e w' => e = .returned (.tuple #[.int .u32 a, .int .i64 (l.length - (c :: t).length : Nat), .bool true]) ∧ w1 = w') := Lib.hid HR.out
      have ht : t.length = l.length - (l.length - (c :: t).length + 1) := by simp at h1 ⊢; omega
      generalize l.length - (c :: t).length = n at *
      clear h1 HR
      rw [List.drop_eq_getElem_cons hn] at h2
      obtain ⟨rfl, rfl⟩ := List.cons.inj h2
      clear h2
      have hcn0 := HC.out n hn
      rw [Nat.zero_add] at hcn0
      have xk : l[n].toNat < 256 := l[n].toNat_lt
      by_cases hs : l[n].toNat = 47
      · have e47 : l[n] = 47 := UInt8.toNat_inj.1 (by rw [hs]; rfl)
        rw [e47] at ho
        have z1 : (((l[n].toNat : Nat) : Int) != 47) = false := by rw [bne_eq_false_iff_eq]; omega
        clear hs e47
        obtain ⟨X, hX, hBX⟩ := slice_from w.heap.size 0 C (n + 1) ((n : Int) + 1) (by omega) l (by omega) hC w1 HC.out
        have HB := Lib.hid hBX
        clear hBX
        have htl : (l.drop (n + 1)).length ≤ 1000000 := by simp; omega
        have htl2 : l.length - (n + 1) = (l.drop (n + 1)).length := by simp
        have HQ := Lib.hid (ref_number' w.heap.size X _ (C - (n + 1)) (l.drop (n + 1)) htl2 htl w1 HB.out)
        clear HB htl htl2
        rcases net_cases (l.drop (n + 1)) with ⟨e1, e2⟩ | ⟨v, c, e1, hc, hv, v1, v2, v3⟩
        · have E := Lib.hid (rpp_eq (rpp_no ho (fun h => by rw [e2] at h; cases h.2.1)))
          rw [e1] at HQ
          clear ho e1 e2 ht
          go_enter Tryd.func14, Tryd.ntmps14
          go_wp2_with fail
          refine HR'.out.mono ?_
          rintro e w2 ⟨rfl, rfl⟩
          clear HR'
          go_wp2_with fail
          refine HQ.out.mono ?_
          rintro e w2 ⟨rfl, rfl⟩
          clear HQ
          go_wp2_with fail
          exact bodyPost_ret (v := .tuple #[.int .u32 0, .int .i64 0, .int .i64 2]) (by simp [results, Tryd.results14, go_sem]) rfl ⟨E.out, hb⟩
        · rw [e1] at HQ
          clear e1
          simp only [List.length_drop] at hc
          by_cases hv32 : v ≤ 32
          · have d1 : decide ((32 : Int) < (v : Int)) = false := by simp; omega
            by_cases hct : c = (l.drop (n + 1)).length
            · have E0 := rpp_yes ho ⟨v3.2 hv32, by rw [v2, hct]⟩ v1
              have RT := Lib.hid (ref_Right a v (h0 := by omega) (h := by omega))
              have z2 : ((n : Int) + 1 + (c : Int) != (l.length : Int)) = false := by rw [bne_eq_false_iff_eq]; simp at hct; omega
              cases hR : rightB a v
              · have E := Lib.hid (rpp_eq (E0.trans (if_neg (by rw [hR]; decide))))
                clear v1 v2 v3 ho ht hct E0
                go_enter Tryd.func14, Tryd.ntmps14
                go_wp2_with fail
                refine HR'.out.mono ?_
                rintro e w2 ⟨rfl, rfl⟩
                clear HR'
                go_wp2_with fail
                refine HQ.out.mono ?_
                rintro e w2 ⟨rfl, rfl⟩
                clear HQ
                go_wp2_with fail
                refine (RT.out _).mono ?_
                rintro e w3 ⟨rfl, hb2⟩
                rw [hR]
                have hbb := below_on hb hb2
                go_wp2_with fail
                exact bodyPost_ret (v := .tuple #[.int .u32 0, .int .i64 0, .int .i64 1]) (by simp [results, Tryd.results14, go_sem]) rfl ⟨E.out, hbb⟩
              · have E := Lib.hid (rpp_eq (E0.trans (if_pos hR)))
                clear v1 v2 v3 ho ht hct E0
                go_enter Tryd.func14, Tryd.ntmps14
                go_wp2_with fail
                refine HR'.out.mono ?_
                rintro e w2 ⟨rfl, rfl⟩
                clear HR'
                go_wp2_with fail
                refine HQ.out.mono ?_
                rintro e w2 ⟨rfl, rfl⟩
                clear HQ
                go_wp2_with fail
                refine (RT.out _).mono ?_
                rintro e w3 ⟨rfl, hb2⟩
                rw [hR]
                have hbb := below_on hb hb2
                go_wp2_with fail
                exact bodyPost_ret (v := .tuple #[.int .u32 a, .int .i64 v, .int .i64 0]) (by simp [results, Tryd.results14, go_sem]) rfl ⟨E.out, hbb⟩
            · have E := Lib.hid (rpp_eq (rpp_no ho (fun h => hct (by rw [← v2]; exact h.2.2))))
              have z2 : ((n : Int) + 1 + (c : Int) != (l.length : Int)) = true := by rw [bne_iff_ne]; simp at hct; omega
              clear v1 v2 v3 ho ht hct
              go_enter Tryd.func14, Tryd.ntmps14
              go_wp2_with fail
              refine HR'.out.mono ?_
              rintro e w2 ⟨rfl, rfl⟩
              clear HR'
              go_wp2_with fail
              refine HQ.out.mono ?_
              rintro e w2 ⟨rfl, rfl⟩
              clear HQ
              go_wp2_with fail
              exact bodyPost_ret (v := .tuple #[.int .u32 0, .int .i64 0, .int .i64 2]) (by simp [results, Tryd.results14, go_sem]) rfl ⟨E.out, hb⟩
          · have E := Lib.hid (rpp_eq (rpp_no ho (fun h => hv32 (v3.1 h.2.1))))
            have d1 : decide ((32 : Int) < (v : Int)) = true := by simp; omega
            clear v1 v2 v3 ho ht
            go_enter Tryd.func14, Tryd.ntmps14
            go_wp2_with fail
            refine HR'.out.mono ?_
            rintro e w2 ⟨rfl, rfl⟩
            clear HR'
            go_wp2_with fail
            refine HQ.out.mono ?_
            rintro e w2 ⟨rfl, rfl⟩
            clear HQ
            go_wp2_with fail
            exact bodyPost_ret (v := .tuple #[.int .u32 0, .int .i64 0, .int .i64 2]) (by simp [results, Tryd.results14, go_sem]) rfl ⟨E.out, hb⟩
      · have hne : l[n] ≠ 47 := fun e => hs (by rw [e]; rfl)
        have E := Lib.hid (rpp_eq (rpp_no ho (fun h => hne h.1)))
        have z1 : (((l[n].toNat : Nat) : Int) != 47) = true := by rw [bne_iff_ne]; omega
        clear hs hne ho ht
        go_enter Tryd.func14, Tryd.ntmps14
        go_wp2_with fail
        refine HR'.out.mono ?_
        rintro e w2 ⟨rfl, rfl⟩
        clear HR'
        go_wp2_with fail
        exact bodyPost_ret (v := .tuple #[.int .u32 0, .int .i64 0, .int .i64 2]) (by simp [results, Tryd.results14, go_sem]) rfl ⟨E.out, hb⟩
end Go.Proofs.YtgmpbppiakjpdaaDoor
