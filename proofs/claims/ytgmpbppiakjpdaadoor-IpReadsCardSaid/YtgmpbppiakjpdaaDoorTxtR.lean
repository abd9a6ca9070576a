/-
  THE REFERENCE's READING OF TEXTS: number, addr, Parse, ParsePrefix over a row of bytes.
-/
import Derived.Test.YtgmpbppiakjpdaaDoorTxtP
import Derived.Test.YtgmpbppiakjpdaaDoorTxtT
namespace Go.Proofs.YtgmpbppiakjpdaaDoor
open Go.RowKit Go.Shelf

/-- a slice's cells are the bytes l. -/
abbrev BytesAt (w : World) (g off : Nat) (l : List UInt8) : Prop := ∀ j, (hj : j < l.length) → w.cell? ⟨g, off + j, none⟩ = some (.int .u8 (l[j].toNat : Int))
/-- the digits ahead, at most k of them. -/
def lead : Nat → List UInt8 → List UInt8
  | 0, _ => []
  | _, [] => []
  | k + 1, c :: l => if dig c then c :: lead k l else []
/-- the number ahead and how many bytes; -1: none. -/
def rnumV (l : List UInt8) : Int × Int :=
  if numS (lead 4 l) then ((valD (lead 4 l) 0 : Nat), (lead 4 l).length) else (-1, 0)

theorem lead_take : ∀ (m k : Nat) (l : List UInt8), k ≤ m → k ≤ l.length → (∀ c ∈ l.take k, dig c = true) → (k = m ∨ k = l.length ∨ ∃ h : k < l.length, dig l[k] = false) → lead m l = l.take k
  | 0, k, l, hk, _, _, _ => by
    obtain rfl : k = 0 := by omega
    simp [lead]
  | m + 1, k, [], _, hl, _, _ => by
    obtain rfl : k = 0 := by simpa using hl
    simp [lead]
  | m + 1, 0, c :: l, _, _, _, he => by
    rcases he with he | he | ⟨h, he⟩
    · omega
    · simp at he
    · simp at he; simp [lead, he]
  | m + 1, k + 1, c :: l, hk, hl, hd, he => by
    have hc : dig c = true := hd c (by simp)
    have ih := lead_take m k l (by omega) (by simpa using hl) (fun x hx => hd x (by simp [hx])) (by
      rcases he with he | he | ⟨h, he⟩
      · exact .inl (by omega)
      · exact .inr (.inl (by simpa using he))
      · exact .inr (.inr ⟨by simpa using h, by simpa using he⟩))
    simp [lead, hc, ih]
theorem valD_snoc : ∀ (p : List UInt8) (c : UInt8) (n : Nat), valD (p ++ [c]) n = 10 * valD p n + (c.toNat - 48)
  | [], c, n => rfl
  | x :: p, c, n => by simp only [List.cons_append, valD]; exact valD_snoc p c _
theorem valD_lt : ∀ (p : List UInt8) (n : Nat), (∀ c ∈ p, dig c = true) → valD p n < (n + 1) * 10 ^ p.length
  | [], n, _ => by simp [valD]
  | x :: p, n, h => by
    have hx : dig x = true := h x (by simp)
    simp [dig] at hx
    have ih := valD_lt p (10 * n + (x.toNat - 48)) (fun c hc => h c (by simp [hc]))
    refine Nat.lt_of_lt_of_le ih ?_
    rw [List.length_cons, Nat.pow_succ, Nat.mul_comm (10 ^ p.length) 10, ← Nat.mul_assoc]
    exact Nat.mul_le_mul_right _ (by omega)
theorem take_snoc (l : List UInt8) (k : Nat) (h : k < l.length) : l.take (k + 1) = l.take k ++ [l[k]] := by
  rw [List.take_add_one, List.getElem?_eq_getElem h]; rfl

theorem rnum_no {l : List UInt8} {k : Nat} (hk : k ≤ l.length) (HL : lead 4 l = l.take k) (_hd : ∀ c ∈ l.take k, dig c = true) (h : k = 0 ∨ 3 < k ∨ (1 < k ∧ ∃ h : 0 < l.length, l[0].toNat = 48)) : rnumV l = (-1, 0) := by
  have hn : numS (l.take k) = false := by
    have hlen : (l.take k).length = k := by simp; omega
    rcases h with rfl | h | ⟨h, h0, hz⟩
    · simp [numS]
    · simp [numS]; omega
    · obtain ⟨a, l', rfl⟩ : ∃ a l', l = a :: l' := by cases l with | nil => simp at h0 | cons a l' => exact ⟨a, l', rfl⟩
      obtain ⟨k', rfl⟩ : ∃ k', k = k' + 2 := ⟨k - 2, by omega⟩
      have : a = 48 := (head_ne a).2 hz
      subst this
      unfold numS
      rw [hlen]
      simp
  unfold rnumV
  rw [HL, hn]; rfl
theorem rnum_yes {l : List UInt8} {k : Nat} (hk : k ≤ l.length) (HL : lead 4 l = l.take k) (hd : ∀ c ∈ l.take k, dig c = true) (h1 : 1 ≤ k) (h3 : k ≤ 3) (h : k = 1 ∨ ∃ h : 0 < l.length, l[0].toNat ≠ 48) : rnumV l = (((valD (l.take k) 0 : Nat) : Int), (k : Int)) := by
  have hlen : (l.take k).length = k := by simp; omega
  have hn : numS (l.take k) = true := by
    unfold numS
    rw [hlen]
    have ha : (l.take k).all dig = true := List.all_eq_true.2 hd
    rw [ha]
    rcases h with rfl | ⟨h0, hz⟩
    · simp
    · obtain ⟨a, l', rfl⟩ : ∃ a l', l = a :: l' := by cases l with | nil => simp at h0 | cons a l' => exact ⟨a, l', rfl⟩
      obtain ⟨k', rfl⟩ : ∃ k', k = k' + 1 := ⟨k - 1, by omega⟩
      have : a ≠ 48 := fun e => hz ((head_ne a).1 e)
      simp [this]; omega
  unfold rnumV
  rw [HL, hn, hlen]; rfl

set_option maxHeartbeats 3200000 in
set_option maxRecDepth 100000 in
theorem ref_number (g off cap : Nat) (l : List UInt8) (hl : l.length ≤ 1000000) (w : World) (hc : BytesAt w g off l) : Calls Tryd.prog 24 #[.slice (some ⟨g, off, none⟩) l.length cap] w fun e w' => e = .returned (.tuple #[.int .i64 (rnumV l).1, .int .i64 (rnumV l).2]) ∧ w = w' := by
  have HC := Lib.hid hc
  clear hc
  go_enter Tryd.func24, Tryd.ntmps24
  go_wp2
  go_loop [4, 5] (fun n t => ∃ k : Nat, k ≤ 4 ∧ k ≤ l.length ∧ t = .int .i64 k ∧ n = .int .i64 (valD (l.take k) 0 : Nat) ∧ Hid (∀ c ∈ l.take k, dig c = true)) (fun _ t => 4 - (intOf t).toNat)
  case atStart => exact ⟨0, by omega, by omega, rfl, by simp [valD], Lib.hid (by simp)⟩
  case round =>
    obtain ⟨k, hk, hkl, rfl, rfl, HD⟩ := hrel
    have hv : valD (l.take k) 0 < 10000 := by
      have h1 := valD_lt (l.take k) 0 HD.out
      have h2 : (10 : Nat) ^ (l.take k).length ≤ 10 ^ 4 := Nat.pow_le_pow_right (by decide) (by simp; omega)
      omega
    by_cases hlt : k < l.length
    · have hck := HC.out k hlt
      have xk : l[k].toNat < 256 := l[k].toNat_lt
      by_cases hd : dig l[k] = true
      · have hd2 : 48 ≤ l[k].toNat ∧ l[k].toNat ≤ 57 := by simpa [dig] using hd
        obtain ⟨d1, d2⟩ := hd2
        by_cases h4 : k < 4
        · have E := Lib.hid (show valD (l.take (k + 1)) 0 = 10 * valD (l.take k) 0 + (l[k].toNat - 48) by rw [take_snoc l k hlt, valD_snoc])
          have HD' : Hid (∀ c ∈ l.take (k + 1), dig c = true) := Lib.hid (by
            rw [take_snoc l k hlt]
            intro c hc
            rcases List.mem_append.1 hc with hc | hc
            · exact HD.out c hc
            · simp at hc; rw [hc]; exact hd)
          clear HD hd
          generalize l[k].toNat = y at *
          go_wp2
          exact ⟨⟨k + 1, by omega, by omega, by go_num, congrArg (Value.int .i64) (by rw [E.out]; omega), HD'⟩, by simp [intOf]; omega⟩
        · obtain rfl : k = 4 := by omega
          have HL := lead_take 4 4 l (by omega) hkl HD.out (.inl rfl)
          have E := Lib.hid (rnum_no hkl HL HD.out (.inr (.inl (by omega))))
          have hd2 : 48 ≤ l[4].toNat ∧ l[4].toNat ≤ 57 := by simpa [dig] using hd
          obtain ⟨d1, d2⟩ := hd2
          clear HL HD hd
          go_wp2
          exact bodyPost_ret (v := .tuple #[.int .i64 (-1), .int .i64 0]) (by simp [results, Tryd.results24, go_sem]) rfl ⟨by rw [E.out], rfl⟩
      · have hd2 : ¬ (48 ≤ l[k].toNat ∧ l[k].toNat ≤ 57) := by simpa [dig] using hd
        have HL := Lib.hid (lead_take 4 k l hk hkl HD.out (.inr (.inr ⟨hlt, by simpa using hd⟩)))
        clear hd
        by_cases dlo : l[k].toNat < 48
        · by_cases k0 : k = 0
          · subst k0
            have hck0 : w.cell? ⟨g, off, none⟩ = some (.int .u8 (l[0].toNat : Int)) := hck
            have E := Lib.hid (rnum_no hkl HL.out HD.out (.inl rfl))
            clear HL HD
            go_wp2
            exact bodyPost_ret (v := .tuple #[.int .i64 (-1), .int .i64 0]) (by simp [results, Tryd.results24, go_sem]) rfl ⟨by rw [E.out], rfl⟩
          by_cases k3 : 3 < k
          · have E := Lib.hid (rnum_no hkl HL.out HD.out (.inr (.inl k3)))
            clear HL HD
            go_wp2
            all_goals exact bodyPost_ret (v := .tuple #[.int .i64 (-1), .int .i64 0]) (by simp [results, Tryd.results24, go_sem]) rfl ⟨by rw [E.out], rfl⟩
          have hl0 : 0 < l.length := by omega
          have c0 : w.cell? ⟨g, off, none⟩ = some (.int .u8 (l[0].toNat : Int)) := HC.out 0 hl0
          have z256 : l[0].toNat < 256 := l[0].toNat_lt
          by_cases k1 : k = 1
          · subst k1
            have E := Lib.hid (rnum_yes hkl HL.out HD.out (by omega) (by omega) (.inl rfl))
            clear HL HD
            go_wp2
            exact bodyPost_ret (v := .tuple #[.int .i64 (valD (l.take 1) 0 : Nat), .int .i64 1]) (by simp [results, Tryd.results24, go_sem]) rfl ⟨by rw [E.out]; rfl, rfl⟩
          by_cases z0 : l[0].toNat = 48
          · have E := Lib.hid (rnum_no hkl HL.out HD.out (.inr (.inr ⟨by omega, hl0, z0⟩)))
            clear HL HD
            go_wp2
            all_goals exact bodyPost_ret (v := .tuple #[.int .i64 (-1), .int .i64 0]) (by simp [results, Tryd.results24, go_sem]) rfl ⟨by rw [E.out], rfl⟩
          · have E := Lib.hid (rnum_yes hkl HL.out HD.out (by omega) (by omega) (.inr ⟨hl0, z0⟩))
            have zb : (((l[0].toNat : Nat) : Int) == 48) = false := by rw [beq_eq_false_iff_ne]; omega
            have kb : ((k : Int) == 0) = false := by rw [beq_eq_false_iff_ne]; omega
            clear HL HD
            go_wp2
            exact bodyPost_ret (v := .tuple #[.int .i64 (valD (l.take k) 0 : Nat), .int .i64 k]) (by simp [results, Tryd.results24, go_sem]) rfl ⟨by rw [E.out], rfl⟩
        · have dhi : 57 < l[k].toNat := by omega
          by_cases k0 : k = 0
          · subst k0
            have hck0 : w.cell? ⟨g, off, none⟩ = some (.int .u8 (l[0].toNat : Int)) := hck
            have E := Lib.hid (rnum_no hkl HL.out HD.out (.inl rfl))
            clear HL HD
            go_wp2
            exact bodyPost_ret (v := .tuple #[.int .i64 (-1), .int .i64 0]) (by simp [results, Tryd.results24, go_sem]) rfl ⟨by rw [E.out], rfl⟩
          by_cases k3 : 3 < k
          · have E := Lib.hid (rnum_no hkl HL.out HD.out (.inr (.inl k3)))
            clear HL HD
            go_wp2
            all_goals exact bodyPost_ret (v := .tuple #[.int .i64 (-1), .int .i64 0]) (by simp [results, Tryd.results24, go_sem]) rfl ⟨by rw [E.out], rfl⟩
          have hl0 : 0 < l.length := by omega
          have c0 : w.cell? ⟨g, off, none⟩ = some (.int .u8 (l[0].toNat : Int)) := HC.out 0 hl0
          have z256 : l[0].toNat < 256 := l[0].toNat_lt
          by_cases k1 : k = 1
          · subst k1
            have E := Lib.hid (rnum_yes hkl HL.out HD.out (by omega) (by omega) (.inl rfl))
            clear HL HD
            go_wp2
            exact bodyPost_ret (v := .tuple #[.int .i64 (valD (l.take 1) 0 : Nat), .int .i64 1]) (by simp [results, Tryd.results24, go_sem]) rfl ⟨by rw [E.out]; rfl, rfl⟩
          by_cases z0 : l[0].toNat = 48
          · have E := Lib.hid (rnum_no hkl HL.out HD.out (.inr (.inr ⟨by omega, hl0, z0⟩)))
            clear HL HD
            go_wp2
            all_goals exact bodyPost_ret (v := .tuple #[.int .i64 (-1), .int .i64 0]) (by simp [results, Tryd.results24, go_sem]) rfl ⟨by rw [E.out], rfl⟩
          · have E := Lib.hid (rnum_yes hkl HL.out HD.out (by omega) (by omega) (.inr ⟨hl0, z0⟩))
            have zb : (((l[0].toNat : Nat) : Int) == 48) = false := by rw [beq_eq_false_iff_ne]; omega
            have kb : ((k : Int) == 0) = false := by rw [beq_eq_false_iff_ne]; omega
            clear HL HD
            go_wp2
            exact bodyPost_ret (v := .tuple #[.int .i64 (valD (l.take k) 0 : Nat), .int .i64 k]) (by simp [results, Tryd.results24, go_sem]) rfl ⟨by rw [E.out], rfl⟩
    · have hkk : k = l.length := by omega
      have HL := Lib.hid (lead_take 4 k l hk hkl HD.out (.inr (.inl hkk)))
      clear hkk
      by_cases k0 : k = 0
      · subst k0
        have E := Lib.hid (rnum_no hkl HL.out HD.out (.inl rfl))
        clear HL HD
        go_wp2
        exact bodyPost_ret (v := .tuple #[.int .i64 (-1), .int .i64 0]) (by simp [results, Tryd.results24, go_sem]) rfl ⟨by rw [E.out], rfl⟩
      by_cases k3 : 3 < k
      · have E := Lib.hid (rnum_no hkl HL.out HD.out (.inr (.inl k3)))
        clear HL HD
        go_wp2
        all_goals exact bodyPost_ret (v := .tuple #[.int .i64 (-1), .int .i64 0]) (by simp [results, Tryd.results24, go_sem]) rfl ⟨by rw [E.out], rfl⟩
      have hl0 : 0 < l.length := by omega
      have c0 : w.cell? ⟨g, off, none⟩ = some (.int .u8 (l[0].toNat : Int)) := HC.out 0 hl0
      have z256 : l[0].toNat < 256 := l[0].toNat_lt
      by_cases k1 : k = 1
      · subst k1
        have E := Lib.hid (rnum_yes hkl HL.out HD.out (by omega) (by omega) (.inl rfl))
        clear HL HD
        go_wp2
        exact bodyPost_ret (v := .tuple #[.int .i64 (valD (l.take 1) 0 : Nat), .int .i64 1]) (by simp [results, Tryd.results24, go_sem]) rfl ⟨by rw [E.out]; rfl, rfl⟩
      by_cases z0 : l[0].toNat = 48
      · have E := Lib.hid (rnum_no hkl HL.out HD.out (.inr (.inr ⟨by omega, hl0, z0⟩)))
        clear HL HD
        go_wp2
        all_goals exact bodyPost_ret (v := .tuple #[.int .i64 (-1), .int .i64 0]) (by simp [results, Tryd.results24, go_sem]) rfl ⟨by rw [E.out], rfl⟩
      · have E := Lib.hid (rnum_yes hkl HL.out HD.out (by omega) (by omega) (.inr ⟨hl0, z0⟩))
        have zb : (((l[0].toNat : Nat) : Int) == 48) = false := by rw [beq_eq_false_iff_ne]; omega
        have kb : ((k : Int) == 0) = false := by rw [beq_eq_false_iff_ne]; omega
        clear HL HD
        go_wp2
        exact bodyPost_ret (v := .tuple #[.int .i64 (valD (l.take k) 0 : Nat), .int .i64 k]) (by simp [results, Tryd.results24, go_sem]) rfl ⟨by rw [E.out], rfl⟩
end Go.Proofs.YtgmpbppiakjpdaaDoor
