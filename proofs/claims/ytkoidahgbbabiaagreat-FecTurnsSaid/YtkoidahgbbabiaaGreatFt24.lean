/- Texts of one proof, one behind another. -/
import Derived.Test.YtkoidahgbbabiaaGreatFt22
import Derived.Test.YtkoidahgbbabiaaGreatFt20
import Derived.Test.YtkoidahgbbabiaaGreatFt23
import Derived.Test.YtkoidahgbbabiaaGreatFt8
import Derived.Test.YtkoidahgbbabiaaGreatFt1
namespace Go.Proofs.YtkoidahgbbabiaaGreat
open Go.RowKit
theorem and_3f (x : Int) : bits .and .i64 x 3 = x % 4 := and_low_i64 x 2 (by decide)
def Ab.blockI (A : Ab) (n k : Int) (b : Bool) : Ab := if (0 ≤ n ∧ n < (A.V.length : Int)) ∧ (0 ≤ k ∧ k < (A.V.length : Int)) then A.block n.toNat k.toNat b else A
section
variable {w W : World} {rho : Nat → Role} {sb fb : Nat} {ls : List Pl} {A : Ab}
theorem ls_BlockI (h : LSv w W rho sb fb ls A) (n k : Int) (b : Bool) :
  Calls Tryz.prog 26 #[.pointer (some ⟨sb, 0, none⟩), .int .i64 n, .int .i64 k, .bool b] W fun e w' => ∃ (rho' : Nat → Role) (c : Int), e = .returned (.int .i64 c) ∧ LSv w w' rho' sb fb ls (A.blockI n k b) ∧ Step rho rho' W w' := by
 by_cases hn : (0 ≤ n ∧ n < (A.V.length : Int)) ∧ (0 ≤ k ∧ k < (A.V.length : Int))
 ·obtain ⟨i, rfl⟩ := Int.eq_ofNat_of_zero_le hn.1.1
  obtain ⟨j, rfl⟩ := Int.eq_ofNat_of_zero_le hn.2.1
  refine (ls_Block h (i := i) (j := j) (by omega) (by omega) b).mono ?_
  rintro e w' ⟨rho', rfl, hl, st⟩
  refine ⟨rho', _, rfl, ?_, st⟩
  unfold Ab.blockI
  rw [if_pos hn]
  exact hl
 ·refine (ls_Block_no h hn b).mono ?_
  rintro e w' ⟨rfl, rfl⟩
  refine ⟨rho, _, rfl, ?_, Step.refl⟩
  unfold Ab.blockI
  rw [if_neg hn]
  exact h
end
def Ab.say21 (A : Ab) (s : Stp) : Ab := if bigM s.x then A else if s.on then A.blockI (s.n % 4) (s.to_ % 4) (bits .and .i64 s.n 4 == 0) else A.updI (s.n % 4) s.x.m.kind s.x.gone s.x.nets s.x.a
def Ab.says21 (A : Ab) (xs : List Stp) : Ab := xs.foldl Ab.say21 A
theorem says21_snoc (A : Ab) (xs : List Stp) (s : Stp) : A.says21 (xs ++ [s]) = (A.says21 xs).say21 s := by unfold Ab.says21; rw [List.foldl_append]; rfl
structure SameIn (A B : Ab) : Prop where
 len : B.V.length = A.V.length
 th : B.th = A.th
 own : B.own = A.own
 most : B.most = A.most
theorem SameIn.trans {A B C : Ab} (h : SameIn A B) (k : SameIn B C) : SameIn A C := ⟨k.len.trans h.len, k.th.trans h.th, k.own.trans h.own, k.most.trans h.most⟩
theorem in_say21 (A : Ab) (s : Stp) : SameIn A (A.say21 s) := by
 unfold Ab.say21
 split
 ·exact ⟨rfl, rfl, rfl, rfl⟩
 ·split
  ·unfold Ab.blockI
   split <;> exact ⟨rfl, rfl, rfl, rfl⟩
  ·have := same_updI A (s.n % 4) s.x.m.kind s.x.gone s.x.nets s.x.a
   exact ⟨this.len, this.th, this.own, this.most⟩
theorem in_says21 : ∀ (xs : List Stp) (A : Ab), SameIn A (A.says21 xs)
 | [], _ => ⟨rfl, rfl, rfl, rfl⟩
 | s :: xs, A => (in_say21 A s).trans (in_says21 xs (A.say21 s))
def toldA (n : Nat) (xs : List Stp) : Ab := (joinN (newA 65000 40 (sdsN n)) n).says21 (xs.take 20)
theorem toldA_len (n : Nat) (xs : List Stp) : (toldA n xs).V.length = n := by
 unfold toldA
 rw [(in_says21 _ _).len, (joinN_V _ _).1, newA_len]
theorem saids_at {w : World} {s : Option Addr} {n c : Nat} {xs : List Stp} (h : SaidsAt w (.slice s n c) xs) {i : Nat} {x : Stp} (hx : xs[i]? = some x) : ∃ g o, s = some ⟨g, o, none⟩ ∧ w.rangeAt g (o + i * 23) x.C21.toList ∧ StpOk x ∧ MsAt w x.x := by
 obtain ⟨s', c', e, h1, h2, h3⟩ := h
 injection e with e _ _
 subst e
 have hi := (List.getElem?_eq_some_iff.1 hx).1
 obtain ⟨b, off, rfl, h4⟩ := h3 (by omega)
 obtain ⟨cs, l, ⟨rfl, hR, hm⟩, hc⟩ := h4 i x hx
 exact ⟨b, off, rfl, fun j v hv => hc j v hv, hR, hm⟩
theorem said_range {W : World} {g o : Nat} {s : Stp} (h : W.rangeAt g o s.C21.toList) : W.rangeAt g (o + 3) s.x.m.C.toList := by
 intro j v hv
 have hj : j < 20 := by have := (List.getElem?_eq_some_iff.1 hv).1; simpa using this
 have h4 := h (3 + j) v (by
  rw [← hv]
  match j, hj with
  | 0, _ => rfl
  | 1, _ => rfl
  | 2, _ => rfl
  | 3, _ => rfl
  | 4, _ => rfl
  | 5, _ => rfl
  | 6, _ => rfl
  | 7, _ => rfl
  | 8, _ => rfl
  | 9, _ => rfl
  | 10, _ => rfl
  | 11, _ => rfl
  | 12, _ => rfl
  | 13, _ => rfl
  | 14, _ => rfl
  | 15, _ => rfl
  | 16, _ => rfl
  | 17, _ => rfl
  | 18, _ => rfl
  | 19, _ => rfl)
 rw [← h4]
 congr 2; omega
theorem sz_sai : (Tryz.prog.info? 183).map (·.size) = some 23 := by kernel_rfl
theorem sai_one (x : Stp) : x.C21.all (·.oneCell') = true := by simp [Value.oneCell']
set_option maxHeartbeats 6400000 in
set_option maxRecDepth 100000 in
theorem l_told (n : Nat) (h1 : 1 ≤ n) (h16 : n ≤ 16) (v : Value) (xs : List Stp) (w : World) (hv : SaidsAt w v xs) (hz : ∀ x ∈ xs, MsSz x.x) :
  Calls Tryz.prog 52 #[.int .i64 n, v] w fun e w' => ∃ (rho : Nat → Role) (sb fb : Nat) (ls : List Pl), e = .returned (.pointer (some ⟨sb, 0, none⟩)) ∧ LSv w w' rho sb fb ls (toldA n xs) := by
 obtain ⟨s0, c0, rfl, hl1, hl2, -⟩ := id hv
 have xl : xs.length ≤ 9223372036854775807 := Nat.le_trans hl1 hl2
 have HV := jh hv
 have HZ := jh hz
 have SD := jh (l_sides21 n h16)
 have NC := jh (newCd_sds (n := n) (by omega) h16)
 clear hv hz hl1 hl2
 go_enter Tryz.func52, Tryz.ntmps52
 go_wp2_with fail
 refine (SD.out w).mono ?_
 rintro e w2 ⟨s1, c1, rfl, ow, hb2⟩
 have NW := jh (ls_New 65000 40 (.slice s1 n c1) (sdsN n) w w2 hb2 (sds_own ow h16) NC.out)
 clear ow hb2
 go_wp2_with fail
 refine NW.out.mono ?_
 rintro e w3 ⟨rho, sb, fb, ls, rfl, L0, -, -⟩
 obtain ⟨A1, hA1⟩ : ∃ A1, newA 65000 40 (sdsN n) = A1 := ⟨_, rfl⟩
 have V1 : Hid (A1.V.length = n) := jh (by rw [← hA1]; exact newA_len ..)
 have T1 : Hid (∀ i, A1.th i = false) := jh (by rw [← hA1]; exact fun _ => rfl)
 have TA : Hid (toldA n xs = (joinN A1 n).says21 (xs.take 20)) := jh (by unfold toldA; rw [hA1])
 rw [hA1] at L0
 have J0 : Hid (LSv w w3 rho sb fb ls (joinN A1 0)) := jh L0
 clear hA1 L0 NW SD NC
 go_wp2_with fail
 go_loopw [7] (fun t7 wr => ∃ k : Nat, k ≤ n ∧ t7 = .int .i64 k ∧ Hid (LSv w wr rho sb fb ls (joinN A1 k))) (fun t7 _ => n - (intOf t7).toNat)
 case atStart => exact ⟨0, by omega, rfl, J0⟩
 case round =>
  clear J0
  obtain ⟨k, hk, rfl, LJ⟩ := hrel
  by_cases hkn : k < n
  ·have dk : decide ((k : Int) < (n : Int)) = true := by simp; omega
   have JN := jh (ls_Join LJ.out (i := k) (by rw [(joinN_V A1 k).1, V1.out]; exact hkn) (by rw [joinN_th, if_neg (by omega)]; exact T1.out k))
   clear LJ
   go_wp2_with fail
   refine JN.out.mono ?_
   rintro e w6 ⟨rfl, hl, -⟩
   have LJ2 : Hid (LSv w w6 rho sb fb ls (joinN A1 (k + 1))) := jh (by rw [joinN_succ]; exact hl)
   clear hl JN
   go_wp2_with fail
   exact ⟨⟨k + 1, by omega, by go_num, LJ2⟩, by simp [intOf]; omega⟩
  ·obtain rfl : k = n := by omega
   have dk : decide ((k : Int) < (k : Int)) = false := by simp
   obtain ⟨A2, hA2⟩ : ∃ A2, joinN A1 k = A2 := ⟨_, rfl⟩
   rw [hA2] at LJ TA
   have U0 : Hid (LSv w wr rho sb fb ls (A2.says21 (xs.take 0))) := LJ
   clear hA2 LJ V1 T1 hkn hk
   go_wp2_with fail
   clear dk
   go_loopw [8] (fun t8 wr => ∃ (j : Nat) (rho2 : Nat → Role), j ≤ xs.length ∧ j ≤ 20 ∧ t8 = .int .i64 j ∧ Hid (LSv w wr rho2 sb fb ls (A2.says21 (xs.take j)))) (fun t8 _ => xs.length - (intOf t8).toNat)
   case atStart => exact ⟨0, rho, by omega, by omega, rfl, U0⟩
   case round =>
    clear U0
    obtain ⟨j, rho2, hj, hj20, rfl, LU⟩ := hrel
    by_cases hjl : j < xs.length ∧ j < 20
    ·obtain ⟨x, hx⟩ : ∃ x, xs[j]? = some x := ⟨_, List.getElem?_eq_getElem hjl.1⟩
     have j1 : decide ((j : Int) < (xs.length : Int)) = true := by simp; omega
     have j2 : decide ((j : Int) < 20) = true := by simp; omega
     have i0 : (0 : Int) ≤ (j : Int) := by omega
     have i1 : (j : Int) < (xs.length : Int) := by omega
     have SN : Hid (A2.says21 (xs.take (j + 1)) = (A2.says21 (xs.take j)).say21 x) := jh (by rw [take_snoc hx, says21_snoc])
     have JL := jh hjl
     have MZ := jh (HZ.out x (List.mem_of_getElem? hx))
     obtain ⟨g, o, rfl, hrg, hok, hms⟩ := saids_at HV.out hx
     have RG := jh (range_below hrg LU.out.bel)
     have MS := jh hms
     clear hx hrg hok hms hjl hj hj20
     go_wp2_with ((with_reducible refine jM (X := .load 183 (.tmp 38)) ?_ ?_); (· rfl))
     unfold Halt
     refine ldm_at (by rfl) 183 (.tmp 38) rfl g (o + j * 23) rfl x.C21.toList _ RG.out Tryz.underlying183 rfl sz_sai ?_
     go_wp2_with ((with_reducible refine jM (X := .store 183 (.tmp 9) (.tmp 39)) ?_ ?_); (· rfl))
     unfold Halt
     refine st_fresh rfl 183 (.tmp 9) (.tmp 39) rfl rfl _ x.C21 rfl sz_sai rfl (sai_one x) ?_
     obtain ⟨w4, hw4, q4, hb4, -⟩ := box1 wr x.C21 183
     rw [← hw4]
     obtain ⟨tb, htb⟩ : ∃ tb, tb = wr.heap.size := ⟨_, rfl⟩
     rw [← htb] at q4 ⊢
     have d0 : w4.cell? ⟨tb, 0, none⟩ = some (.int .i64 x.n) := jB q4 0
     have d1 : w4.cell? ⟨tb, 1, none⟩ = some (.int .i64 x.to_) := jB q4 1
     have d2 : w4.cell? ⟨tb, 2, none⟩ = some (.bool x.on) := jB q4 2
     have RM : Hid (w4.rangeAt tb 3 x.x.m.C.toList) := jh (by
      have := said_range (W := w4) (g := tb) (o := 0) (s := x) (fun j v hv => by
       rw [jB q4 (0 + j), Nat.zero_add]
       simpa using hv)
      simpa using this)
     have LU4 := jh (LU.out.below hb4)
     have BG := jh (l_big21 x.x w4 (MS.out.below LU4.out.bel))
     clear hw4 q4 hb4 htb RG LU
     simp only [Act.put]
     go_wp2_with ((with_reducible refine jM (X := .load 46 (.tmp 40)) ?_ ?_); (· rfl))
     unfold Halt
     refine ldm_at (by rfl) 46 (.tmp 40) rfl tb 3 rfl x.x.m.C.toList _ RM.out Tryz.underlying46 rfl sz_msgS ?_
     go_wp2_with fail
     refine BG.out.mono ?_
     rintro e w5 ⟨rfl, hb5⟩
     have LU5 := jh (LU4.out.below hb5)
     have RM5 := jh (range_below RM.out hb5)
     replace d0 := jA d0 hb5
     replace d1 := jA d1 hb5
     replace d2 := jA d2 hb5
     clear hb5 BG LU4 RM
     rcases hbg : bigM x.x with _ | _
     ·have GA := jh (bigM_no hbg MZ.out)
      have a3 : bits .and .i64 x.n 3 = x.n % 4 := and_3f x.n
      rcases hon : x.on with _ | _
      ·rw [hon] at d2
       have SE : Hid (A2.says21 (xs.take (j + 1)) = (A2.says21 (xs.take j)).updI (x.n % 4) x.x.m.kind x.x.gone x.x.nets x.x.a) := jh (by rw [SN.out]; unfold Ab.say21; rw [hbg, hon]; rfl)
       have UP := jh (ls_UpdateI LU5.out (x.n % 4) x.x (LU5.out.ms MS.out) GA.out.1 GA.out.2)
       clear hbg hon SN LU5 d1
       go_wp2_with ((with_reducible refine jM (X := .load 46 (.tmp 61)) ?_ ?_); (· rfl))
       unfold Halt
       refine ldm_at (by rfl) 46 (.tmp 61) rfl tb 3 rfl x.x.m.C.toList _ RM5.out Tryz.underlying46 rfl sz_msgS ?_
       go_wp2_with fail
       refine UP.out.mono ?_
       rintro e w6 ⟨rho3, v6, c6, rfl, l6, -⟩
       have LU6 : Hid (LSv w w6 rho3 sb fb ls (A2.says21 (xs.take (j + 1)))) := jh (by rw [SE.out]; exact l6)
       clear l6 UP d0 d2 RM5 a3
       go_wp2_with fail
       exact ⟨⟨j + 1, rho3, by have := JL.out; omega, by have := JL.out; omega, by go_num, LU6⟩, by have := JL.out; simp [intOf]; omega⟩
      ·rw [hon] at d2
       have a3t : bits .and .i64 x.to_ 3 = x.to_ % 4 := and_3f x.to_
       obtain ⟨z, hz⟩ : ∃ z, (bits .and .i64 x.n 4 == 0) = z := ⟨_, rfl⟩
       have SE : Hid (A2.says21 (xs.take (j + 1)) = (A2.says21 (xs.take j)).blockI (x.n % 4) (x.to_ % 4) z) := jh (by rw [SN.out]; unfold Ab.say21; rw [hbg, hon, hz]; rfl)
       have BK := jh (ls_BlockI LU5.out (x.n % 4) (x.to_ % 4) z)
       clear hbg hon SN LU5 RM5
       go_wp2_with fail
       refine BK.out.mono ?_
       rintro e w6 ⟨rho3, c6, rfl, l6, -⟩
       have LU6 : Hid (LSv w w6 rho3 sb fb ls (A2.says21 (xs.take (j + 1)))) := jh (by rw [SE.out]; exact l6)
       clear l6 BK d0 d1 d2 a3 a3t hz
       go_wp2_with fail
       exact ⟨⟨j + 1, rho3, by have := JL.out; omega, by have := JL.out; omega, by go_num, LU6⟩, by have := JL.out; simp [intOf]; omega⟩
     ·have LU8 : Hid (LSv w w5 rho2 sb fb ls (A2.says21 (xs.take (j + 1)))) := jh (by rw [SN.out]; unfold Ab.say21; rw [hbg]; exact LU5.out)
      clear hbg SN d0 d1 d2 LU5 RM5
      go_wp2_with fail
      exact ⟨⟨j + 1, rho2, by have := JL.out; omega, by have := JL.out; omega, by go_num, LU8⟩, by have := JL.out; simp [intOf]; omega⟩
    ·have TK : xs.take j = xs.take 20 := by
      by_cases h : j < 20
      ·have : j = xs.length := by omega
       subst this
       rw [List.take_length, List.take_of_length_le (by omega)]
      ·have : j = 20 := by omega
       rw [this]
     have F0 : Hid (LSv w wr rho2 sb fb ls (toldA k xs)) := jh (by rw [TA.out, ← TK]; exact LU.out)
     clear LU TK
     by_cases hj1 : j < xs.length
     ·have hj2 : ¬ j < 20 := fun h => hjl ⟨hj1, h⟩
      have j1 : decide ((j : Int) < (xs.length : Int)) = true := by simp; omega
      have j2 : decide ((j : Int) < 20) = false := by simp; omega
      have j3 : decide (j < 20) = false := by simp; omega
      have j4 : decide (j < xs.length) = true := by simp; omega
      clear hj1 hj2 hjl
      go_wp2_with fail
      go_ret
      exact ⟨rho2, sb, fb, ls, rfl, F0.out⟩
     ·have j1 : decide ((j : Int) < (xs.length : Int)) = false := by simp; omega
      have j4 : decide (j < xs.length) = false := by simp; omega
      clear hj1 hjl
      go_wp2_with fail
      go_ret
      exact ⟨rho2, sb, fb, ls, rfl, F0.out⟩
open Go.RowKit
theorem klt_ext : ∀ {l m : List Ky}, l.Pairwise klt → m.Pairwise klt → (∀ p, p ∈ l ↔ p ∈ m) → l = m
 | [], [], _, _, _ => rfl
 | [], q :: m, _, _, h => by have := (h q).2 (List.mem_cons_self ..); simp at this
 | p :: l, [], _, _, h => by have := (h p).1 (List.mem_cons_self ..); simp at this
 | p :: l, q :: m, hl, hm, h => by
  rw [List.pairwise_cons] at hl hm
  have e : p = q := by
   have h1 := (h p).1 (List.mem_cons_self ..)
   have h2 := (h q).2 (List.mem_cons_self ..)
   rcases List.mem_cons.1 h1 with h1 | h1
   ·exact h1
   ·rcases List.mem_cons.1 h2 with h2 | h2
    ·exact h2.symm
    ·exact absurd (klt_trans (hl.1 q h2) (hm.1 p h1)) (klt_irrefl _)
  subst e
  have := klt_ext hl.2 hm.2 fun x => by
   have hx := h x
   rw [List.mem_cons, List.mem_cons] at hx
   constructor
   ·intro k
    rcases hx.1 (.inr k) with e | e
    ·subst e; exact absurd (hl.1 _ k) (klt_irrefl _)
    ·exact e
   ·intro k
    rcases hx.2 (.inr k) with e | e
    ·subst e; exact absurd (hm.1 _ k) (klt_irrefl _)
    ·exact e
  rw [this]
def at7 : At := ⟨14, 0, [(false, [7])], 167772161, 0, 0, 0, 0, [], []⟩
abbrev avH (b : Nat) : AV := ⟨14, 0, some ⟨b, 0, none⟩, 1, 1, 167772161, 0, 0, 0, 0, none, 0, 0, none, 0, 0⟩
abbrev hX0 (s : Option Addr) (c b : Nat) : Stp := ⟨0, 0, 0, false, ⟨⟨2, 0, 0, 0, none, 0, 0, none, 0, 0, avH b, s, 2, c, 0, 0, ⟨#[]⟩⟩, [], [netP 1, netP 2], at7⟩⟩
abbrev hX1 (s : Option Addr) (c b : Nat) : Stp := ⟨0, 1, 0, false, ⟨⟨2, 0, 0, 0, none, 0, 0, none, 0, 0, avH b, s, 1, c, 0, 0, ⟨#[]⟩⟩, [], [netP 2], at7⟩⟩
def hB0 : Ab := joinN (newA 65000 40 (sdsN 3)) 3
def hB1 : Ab := hB0.upd 0 2 [] [netP 1, netP 2] at7
def hB2 : Ab := hB1.upd 1 2 [] [netP 2] at7
theorem h_set2 : setOf [netP 1, netP 2] = [netP 1, netP 2] := setOf_is (by simp [Srt, netP, plt]) (fun p => by simp)
theorem h_set1 : setOf [netP 2] = [netP 2] := setOf_is (by simp [Srt]) (fun p => by simp)
theorem h_own : passB at7.path 65000 = false := by decide +kernel
theorem hB_r1 : hB0.updR 0 2 [] [netP 1, netP 2] at7 = (0, [netP 1, netP 2], [(netP 1, at7), (netP 2, at7)]) := by
 show updP 65000 40 [] 2 [] [netP 1, netP 2] at7 = _
 have h1 : saidP [] [netP 1, netP 2] = [netP 1, netP 2] := h_set2
 have h2 : netsP 65000 [netP 1, netP 2] at7 = [netP 1, netP 2] := by unfold netsP; rw [h_own]; exact h_set2
 unfold updP
 rw [h1, h2]
 rfl
theorem hB1_is : hB1 = hB0.turn hB0.bl (setV hB0.V 0 [(netP 1, at7), (netP 2, at7)]) := by
 unfold hB1 Ab.upd
 rw [hB_r1]
 rfl
theorem hB_r2 : hB1.updR 1 2 [] [netP 2] at7 = (0, [netP 2], [(netP 2, at7)]) := by
 rw [hB1_is]
 show updP 65000 40 [] 2 [] [netP 2] at7 = _
 have h1 : saidP [] [netP 2] = [netP 2] := h_set1
 have h2 : netsP 65000 [netP 2] at7 = [netP 2] := by unfold netsP; rw [h_own]; exact h_set1
 unfold updP
 rw [h1, h2]
 rfl
theorem hB2_is : hB2 = hB1.turn hB1.bl (setV hB1.V 1 [(netP 2, at7)]) := by
 unfold hB2 Ab.upd
 rw [hB_r2]
 rfl
theorem hB2_V : hB2.V = [(65001, 1, [(netP 1, at7), (netP 2, at7)]), (65002, 2, [(netP 2, at7)]), (65003, 3, [])] := by
 rw [hB2_is, hB1_is]; rfl
theorem hB2_own : hB2.own = 65000 ∧ hB2.bl = fun _ => false := by rw [hB2_is, hB1_is]; exact ⟨rfl, rfl⟩
theorem big7 (m : MV) (n : List Pf) (h : n.length ≤ 20) : bigM ⟨m, [], n, at7⟩ = false := by
 unfold bigM
 have h1 : decide (20 < n.length) = false := by simp; omega
 have h2 : (decide (6 < at7.path.length) || (decide (40 < at7.comms.length) || (decide (5 < at7.others.length) || checkI at7 != 0))) = false := by decide +kernel
 simp only [h1, h2]
 rfl
theorem told_head (s s' : Option Addr) (c c' b b' : Nat) : toldA 3 [hX0 s c b, hX1 s' c' b'] = hB2 := by
 unfold toldA
 show ((hB0.say21 (hX0 s c b)).say21 (hX1 s' c' b')) = hB2
 have e1 : hB0.say21 (hX0 s c b) = hB1 := by
  unfold Ab.say21
  rw [big7 _ _ (by decide)]
  rfl
 rw [e1]
 unfold Ab.say21
 rw [big7 _ _ (by decide)]
 show hB1.updI 1 2 [] [netP 2] at7 = hB2
 unfold Ab.updI
 rw [if_pos (by rw [hB1_is]; decide +kernel)]
 rfl
theorem hB2_best1 : hB2.best 2 (netP 1) = some (0, at7) := by
 unfold Ab.best
 rw [hB2_V, hB2_own.1, hB2_own.2]
 rfl
theorem hB2_best2 : hB2.best 2 (netP 2) = some (0, at7) := by
 unfold Ab.best
 rw [hB2_V, hB2_own.1, hB2_own.2]
 rfl
theorem hB2_may1 : hB2.may 2 (netP 1) = 1 := by
 unfold Ab.may Ab.offs
 rw [hB2_V, hB2_own.1, hB2_own.2]
 rfl
theorem hB2_may2 : hB2.may 2 (netP 2) = 3 := by
 unfold Ab.may Ab.offs
 rw [hB2_V, hB2_own.1, hB2_own.2]
 rfl
theorem hB2_len : hB2.V.length = 3 := by rw [hB2_V]; rfl
theorem hB2_bestI (p : Pf) : hB2.bestI 2 p = hB2.best 2 p := by
 unfold Ab.bestI
 rw [hB2_len]; rfl
theorem hB2_some (p : Pf) : (hB2.bestI 2 p).isSome = true ↔ p ∈ [netP 1, netP 2] := by
 rw [hB2_bestI]
 constructor
 ·intro h
  obtain ⟨b, hb⟩ := Option.isSome_iff_exists.1 h
  obtain ⟨k, v, -, hv, hg, -⟩ := best_from (A := hB2) (i := 2) (p := p) (j := b.1) (a := b.2) hb
  rw [hB2_V] at hv
  have hm := getL_mem hg
  match k, hv with
  | 0, hv => simp at hv; subst hv; simp at hm; simp; rcases hm with h | h <;> simp [h.1]
  | 1, hv => simp at hv; subst hv; simp at hm; simp [hm.1]
  | 2, hv => simp at hv; subst hv; simp at hm
 ·intro h
  simp at h
  rcases h with rfl | rfl
  ·rw [hB2_best1]; rfl
  ·rw [hB2_best2]; rfl
theorem hB2_kf1 : hB2.kf 2 (netP 1) = ⟨2, 0, 1⟩ := by
 have e : hB2.keyI 2 (netP 1) = hB2.key 2 (netP 1) := keyI_at hB2 (i := 2) (by rw [hB2_len]; decide) _
 unfold Ab.kf
 rw [e]
 unfold Ab.key
 rw [hB2_best1, hB2_may1]; rfl
theorem hB2_kf2 : hB2.kf 2 (netP 2) = ⟨2, 0, 3⟩ := by
 have e : hB2.keyI 2 (netP 2) = hB2.key 2 (netP 2) := keyI_at hB2 (i := 2) (by rw [hB2_len]; decide) _
 unfold Ab.kf
 rw [e]
 unfold Ab.key
 rw [hB2_best2, hB2_may2]; rfl
theorem hB2_all {L : List Cls} {ps : List Pf} (h1 : Srt ps) (h2 : ∀ p, p ∈ ps ↔ (hB2.bestI 2 p).isSome = true) (h3 : (L.map (·.key)).Pairwise klt) (h4 : ∀ x ∈ L, x.ps = psOf (hB2.kf 2) x.key ps ∧ x.ps ≠ []) (h5 : ∀ p ∈ ps, hB2.kf 2 p ∈ L.map (·.key)) :
  ∃ x y, L = [x, y] ∧ x.key = ⟨2, 0, 1⟩ ∧ y.key = ⟨2, 0, 3⟩ ∧ y.ps = [netP 2] := by
 have e : ps = [netP 1, netP 2] := srt_ext h1 (by simp [Srt, netP, plt]) fun p => (h2 p).trans (hB2_some p)
 subst e
 have hk : L.map (·.key) = [⟨2, 0, 1⟩, ⟨2, 0, 3⟩] := klt_ext h3 (by simp [klt]) fun k => by
  constructor
  ·intro hk
   obtain ⟨x, hx, rfl⟩ := List.mem_map.1 hk
   obtain ⟨g1, g2⟩ := h4 x hx
   obtain ⟨p, hp⟩ := List.exists_mem_of_ne_nil _ g2
   rw [g1] at hp
   obtain ⟨q1, q2⟩ := psOf_mem.1 hp
   rw [← q2]
   simp at q1
   rcases q1 with rfl | rfl
   ·rw [hB2_kf1]; simp
   ·rw [hB2_kf2]; simp
  ·intro hk
   simp at hk
   rcases hk with rfl | rfl
   ·rw [← hB2_kf1]; exact h5 _ (by simp)
   ·rw [← hB2_kf2]; exact h5 _ (by simp)
 have hl : L.length = 2 := by have := congrArg List.length hk; simpa using this
 match L, hl, h4, hk with
 | [x, y], _, h4, hk =>
  simp at hk
  refine ⟨x, y, rfl, hk.1, hk.2, ?_⟩
  rw [(h4 y (by simp)).1, hk.2]
  unfold psOf
  rw [List.filter_cons, List.filter_cons, hB2_kf1, hB2_kf2]
  rfl
open Go.RowKit
theorem boxCC (w : World) (C : Array Value) (T : TypeId) (Z : Array Value) (U : TypeId) : ∃ W0, W0 = (w.alloc (.cells C T)).alloc (.cells Z U) ∧ W0.heap[w.heap.size]? = some (.cells C T (0, 0)) ∧ W0.heap[w.heap.size + 1]? = some (.cells Z U (0, 0)) ∧ Below w.heap.size w W0 := by
 refine ⟨_, rfl, ?_, ?_, ((Below.refl _ _).alloc (Nat.le_refl _) _).alloc (by simp) _⟩
 ·have h1 := heap_alloc_new w (.cells C T)
  have h2 : Below (w.alloc (.cells C T)).heap.size (w.alloc (.cells C T)) ((w.alloc (.cells C T)).alloc (.cells Z U)) := (Below.refl _ _).alloc (Nat.le_refl _) _
  exact (h2.block _ (jE h1)).trans h1
 ·have h1 := heap_alloc_new (w.alloc (.cells C T)) (.cells Z U)
  simpa using h1
set_option maxRecDepth 100000 in
theorem ps_Len (v : Value) (xs : List Pf) (w : World) (h : PsAt w v xs) : Calls Tryz.prog 103 #[.agg #[v]] w fun e w' => e = .returned (.int .i64 xs.length) ∧ Below w.heap.size w w' := by
 obtain ⟨sa, cap, rfl, -⟩ := h
 go_enter Tryz.func103, Tryz.ntmps103
 go_wp2_with fail
 go_ret
 exact ⟨rfl, (Below.refl _ _).alloc (Nat.le_refl _) _⟩
set_option maxRecDepth 100000 in
theorem ps_Has (v : Value) (xs : List Pf) (p : Pf) (w : World) (h : PsAt w v xs) (hs : Srt xs) : Calls Tryz.prog 102 #[.agg #[v], .agg #[.int .u32 p.1, .int .i64 p.2]] w fun e w' => e = .returned (.bool (decide (p ∈ xs))) ∧ Below w.heap.size w w' := by
 have HA := jh h
 obtain ⟨sa, cap, rfl, -⟩ := h
 have HS := jh hs
 clear hs
 go_enter Tryz.func102, Tryz.ntmps102
 go_upto_region 1 with (fail)
 obtain ⟨W0, hW0, q0, q1, hB⟩ := boxCC w #[.slice sa xs.length cap] 113 #[.int .u32 p.1, .int .i64 p.2] 53
 rw [← hW0]
 clear hW0
 have c0 : W0.cell? ⟨w.heap.size, 0, none⟩ = some (.slice sa xs.length cap) := jB q0 0
 have c1 : W0.cell? ⟨w.heap.size + 1, 0, none⟩ = some (.int .u32 p.1) := jB q1 0
 have c2 : W0.cell? ⟨w.heap.size + 1, 1, none⟩ = some (.int .i64 p.2) := jB q1 1
 have SE := jh (ps_Search _ xs p W0 (HA.out.below hB) HS.out)
 have HB := jh hB
 clear q0 q1 hB
 go_wp2_with fail
 refine SE.out.mono ?_
 rintro e w2 ⟨i, rfl, -, -, hb2⟩
 have B2 := jh (jC HB.out hb2)
 clear hb2 c0 c1 c2 SE
 generalize hd : decide (p ∈ xs) = d
 have HD := jh hd
 clear hd
 go_wp2_with fail
 go_ret
 exact ⟨jL HD.out.symm, B2.out⟩
open Go.RowKit
theorem at7_at {W : World} {b ib : Nat} (h1 : W.heap[b]? = some (.cells #[.bool false, .slice (some ⟨ib, 0, none⟩) 1 1] 121 (0, 0))) (h2 : W.heap[ib]? = some (.cells #[.int .i64 7] 3 (0, 0))) : AvAt W at7 (avH b) := by
 refine ⟨some ⟨b, 0, none⟩, 1, none, 0, none, 0, rfl, ?_, SlAt.nil, SlAt.nil⟩
 refine ⟨_, 1, rfl, Nat.le_refl _, by simp [maxLen], fun _ => ⟨b, 0, rfl, fun i x hx => ?_⟩⟩
 obtain ⟨rfl, rfl⟩ : i = 0 ∧ x = (false, [7]) := by
  have h := (List.getElem?_eq_some_iff.1 hx).1
  simp [at7] at h
  subst h
  simp [at7] at hx
  exact ⟨rfl, hx.symm⟩
 refine ⟨[.bool false, .slice (some ⟨ib, 0, none⟩) 1 1], rfl, ⟨_, rfl, ?_⟩, fun j u hu => ?_⟩
 ·refine ⟨_, 1, rfl, Nat.le_refl _, by simp [maxLen], fun _ => ⟨ib, 0, rfl, fun i x hx => ?_⟩⟩
  match i, hx with
  | 0, hx =>
   simp at hx
   subst hx
   refine ⟨[.int .i64 7], rfl, ⟨rfl, by unfold I64r; omega⟩, fun j u hu => ?_⟩
   rw [jB h2]
   simpa using hu
 ·rw [jB h1]
  simpa using hu
theorem msg_built (b : Nat) (s : Option Addr) (n c : Nat) : Tryz.prog.built 46 [(0, .int .i64 2), (7, .slice s n c), (6, .agg (avH b).C)] = some (MV.C ⟨2, 0, 0, 0, none, 0, 0, none, 0, 0, avH b, s, n, c, 0, 0, ⟨#[]⟩⟩) := by kernel_rfl
theorem said_built (i : Int) (m : MV) (gone nets : List Pf) (a : At) : Tryz.prog.built 183 [(0, .int .i64 i), (3, .agg m.C)] = some (Stp.C21 ⟨0, i, 0, false, ⟨m, gone, nets, a⟩⟩) := by kernel_rfl
theorem info_said : (Tryz.prog.info? 183).map (fun i => (i.zero, i.size, i.bytes)) = some (some (.agg #[.int .i64 0, .int .i64 0, .bool false, .int .i64 0, .int .i64 0, .int .i64 0, .int .u32 0, .slice none 0 0, .slice none 0 0, .int .i64 0, .int .i64 0, .slice none 0 0, .int .u32 0, .int .i64 0, .int .i64 0, .int .i64 0, .int .u32 0, .slice none 0 0, .slice none 0 0, .slice none 0 0, .int .i64 0, .int .i64 0, .string ⟨#[]⟩]), 23, 288) := by kernel_rfl
theorem wp_sd2 {o : Oper} {a : Act} {w : World} {K : Act → World → Prop} {Q : Exit → Act → World → Prop} (x0 x1 : Operand) (ho : o.op = .buildSlice 110 2 #[(0, x0), (1, x1)]) (x y : Stp) (hx : a.eval x0 = .agg x.C21) (hy : a.eval x1 = .agg y.C21)
  (h : ∀ w2 : World, (∀ (j : Nat) (u : Value), (x.C21.toList ++ y.C21.toList)[j]? = some u → w2.cell? ((⟨w.heap.size, 0, none⟩ : Addr).add j) = some u) → Below w.heap.size w w2 → K (a.put o.dst (.slice (some ⟨w.heap.size, 0, none⟩) 2 2)) w2) : o.wp Tryz.prog a w K Q := by
 obtain ⟨i0, hii, hz0, hz1, hz2⟩ := info_parts info_said
 refine wp_buildSlice 110 183 2 _ ho (x.C21 ++ y.C21) i0 _ Tryz.underlying110 hii hz0 (by rw [hz1]; decide) (by rw [hz1]; decide) ?_ (h _ ?_ ((Below.refl _ _).alloc (Nat.le_refl _) _))
 ·rw [hz1]
  simp only [List.map_toArray, List.map_cons, List.map_nil, hx, hy]
  kernel_rfl
 ·intro j u hu
  exact new_cells w (x.C21 ++ y.C21) 183 j u (by simpa using hu)
theorem pf2_at {V : World} {g : Nat} {T : TypeId} (x y : Pf) (hx : OkP x) (hy : OkP y) (q : V.heap[g]? = some (.cells #[.int .u32 x.1, .int .i64 x.2, .int .u32 y.1, .int .i64 y.2] T (0, 0))) : PsAt V (.slice (some ⟨g, 0, none⟩) 2 2) [x, y] := by
 refine ⟨_, 2, rfl, Nat.le_refl _, by simp [maxLen], fun _ => ⟨g, 0, rfl, fun i z hz => ?_⟩⟩
 match i, hz with
 | 0, hz =>
  simp at hz
  subst hz
  refine ⟨encP x, rfl, ⟨rfl, hx⟩, fun j c hc => ?_⟩
  rw [jB q]
  match j, hc with
  | 0, hc => simpa [encP] using hc
  | 1, hc => simpa [encP] using hc
 | 1, hz =>
  simp at hz
  subst hz
  refine ⟨encP y, rfl, ⟨rfl, hy⟩, fun j c hc => ?_⟩
  rw [jB q]
  match j, hc with
  | 0, hc => simpa [encP] using hc
  | 1, hc => simpa [encP] using hc
theorem pf2_k {W : World} {p : World → Prop} {x y : Pf} {T : TypeId} (hx : OkP x) (hy : OkP y) (h : ∀ w1 : World, Fresh W.heap.size w1 (fun V => PsAt V (.slice (some ⟨W.heap.size, 0, none⟩) 2 2) [x, y]) → Below W.heap.size W w1 → p w1) : p (W.alloc (.cells #[.int .u32 x.1, .int .i64 x.2, .int .u32 y.1, .int .i64 y.2] T)) :=
 h _ (fun V hV => pf2_at x y hx hy (by rw [hV _ (Nat.le_refl _) (by simp)]; exact heap_alloc_new W _)) ((Below.refl _ _).alloc (Nat.le_refl _) _)
theorem pf1_k {W : World} {p : World → Prop} {x : Pf} {T : TypeId} (hx : OkP x) (h : ∀ w1 : World, Fresh W.heap.size w1 (fun V => PsAt V (.slice (some ⟨W.heap.size, 0, none⟩) 1 1) [x]) → Below W.heap.size W w1 → p w1) : p (W.alloc (.cells #[.int .u32 x.1, .int .i64 x.2] T)) :=
 h _ (one_fresh W x T hx) ((Below.refl _ _).alloc (Nat.le_refl _) _)
theorem saids_two {W : World} {g : Nat} {s s' : Option Addr} {c c' b : Nat} (hc : ∀ (j : Nat) (u : Value), ((hX0 s c b).C21.toList ++ (hX1 s' c' b).C21.toList)[j]? = some u → W.cell? ((⟨g, 0, none⟩ : Addr).add j) = some u) (fa : PsAt W (.slice s 2 c) [netP 1, netP 2]) (fb : PsAt W (.slice s' 1 c') [netP 2]) (ha : AvAt W at7 (avH b)) :
  SaidsAt W (.slice (some ⟨g, 0, none⟩) 2 2) [hX0 s c b, hX1 s' c' b] := by
 have hcell : ∀ (j : Nat) (u : Value), ((hX0 s c b).C21.toList ++ (hX1 s' c' b).C21.toList)[j]? = some u → W.cell? ⟨g, j, none⟩ = some u := fun j u hu => by
  have := hc j u hu
  unfold Addr.add at this
  split at this
  ·rename_i e; subst e; exact this
  ·simpa using this
 refine ⟨_, 2, rfl, Nat.le_refl _, by simp [maxLen], fun _ => ⟨g, 0, rfl, fun i z hz => ?_⟩⟩
 match i, hz with
 | 0, hz =>
  simp at hz
  subst hz
  refine ⟨(hX0 s c b).C21.toList, rfl, ⟨rfl, ⟨by simp [I64r], by simp [I64r], by simp [I64r]⟩, ⟨SlAt.nil, fa, ha⟩⟩, fun j u hu => ?_⟩
  have := hcell j u (by rw [List.getElem?_append_left (List.getElem?_eq_some_iff.1 hu).1]; exact hu)
  simpa using this
 | 1, hz =>
  simp at hz
  subst hz
  refine ⟨(hX1 s' c' b).C21.toList, rfl, ⟨rfl, ⟨by simp [I64r], by simp [I64r], by simp [I64r]⟩, ⟨SlAt.nil, fb, ha⟩⟩, fun j u hu => ?_⟩
  have := hcell (23 + j) u (by
   rw [List.getElem?_append_right (by show 23 ≤ 23 + j; omega)]
   show (hX1 s' c' b).C21.toList[23 + j - 23]? = some u
   rw [show 23 + j - 23 = j by omega]; exact hu)
  simpa using this
theorem cl_at {w : World} {s : Option Addr} {n c : Nat} {xs : List Cls} (h : SlAt w 4 (fun x cs => cs = clL x) (.slice s n c) xs) {i : Nat} {x : Cls} (hx : xs[i]? = some x) : ∃ g o, s = some ⟨g, o, none⟩ ∧ w.rangeAt g (o + i * 4) (clL x) := by
 obtain ⟨s', c', e, h1, h2, h3⟩ := h
 injection e with e _ _
 subst e
 have hi := (List.getElem?_eq_some_iff.1 hx).1
 obtain ⟨b, off, rfl, h4⟩ := h3 (by omega)
 obtain ⟨cs, -, rfl, hc⟩ := h4 i x hx
 exact ⟨b, off, rfl, fun j v hv => hc j v hv⟩
theorem ms7 (s s' : Option Addr) (c c' b : Nat) : ∀ x ∈ [hX0 s c b, hX1 s' c' b], MsSz x.x := by
 have h : AtSz at7 ∧ at7.Rng := by
  refine ⟨⟨?_, ?_, ?_, ?_, ?_⟩, ⟨?_, ?_, ?_, ?_, ?_, ?_, ?_⟩⟩ <;> simp [at7, SgSz, I64r]
 intro x hx
 simp at hx
 rcases hx with rfl | rfl <;> exact ⟨h.1, h.2⟩
set_option maxHeartbeats 6400000 in
set_option maxRecDepth 100000 in
theorem law_head21 (w : World) : Calls Tryz.prog 47 #[] w fun e w' => e = .returned (.bool true) ∧ Below w.heap.size w w' := by
 have n1 := jh (l_net21 1 (by decide))
 have n2 := jh (l_net21 2 (by decide))
 go_enter Tryz.func47, Tryz.ntmps47
 go_upto_region 2 with (fail)
 obtain ⟨w0, hw0⟩ : ∃ w0, w0 = (((w.alloc (.cells #[.int .i64 7] 3)).alloc (.cells #[.bool false, .slice (some ⟨w.heap.size, 0, none⟩) 1 1] 121)).alloc (.cells (avH (w.heap.size + 1)).C 42)) := ⟨_, rfl⟩
 rw [show (((w.alloc (.cells #[.int .i64 7] 3)).alloc (.cells #[.bool false, .slice (some ⟨w.heap.size, 0, none⟩) 1 1] 121)).alloc (.cells #[.int .i64 14, .int .i64 0, .slice (some ⟨w.heap.size + 1, 0, none⟩) 1 1, .int .u32 167772161, .int .i64 0, .int .i64 0, .int .i64 0, .int .u32 0, .slice none 0 0, .slice none 0 0] 42)) = w0 from hw0.symm]
 have H0 : Hid (w0.heap[w.heap.size + 1 + 1]? = some (.cells (avH (w.heap.size + 1)).C 42 (0, 0)) ∧ AvAt w0 at7 (avH (w.heap.size + 1)) ∧ Below w.heap.size w w0) := jh (by
  have b1 : Below w.heap.size w (w.alloc (.cells #[.int .i64 7] 3)) := (Below.refl _ _).alloc (Nat.le_refl _) _
  have q1 := heap_alloc_new w (.cells #[.int .i64 7] 3)
  have b2 : Below (w.alloc (.cells #[.int .i64 7] 3)).heap.size (w.alloc (.cells #[.int .i64 7] 3)) ((w.alloc (.cells #[.int .i64 7] 3)).alloc (.cells #[.bool false, .slice (some ⟨w.heap.size, 0, none⟩) 1 1] 121)) := (Below.refl _ _).alloc (Nat.le_refl _) _
  have q2 := heap_alloc_new (w.alloc (.cells #[.int .i64 7] 3)) (.cells #[.bool false, .slice (some ⟨w.heap.size, 0, none⟩) 1 1] 121)
  have b3 : Below ((w.alloc (.cells #[.int .i64 7] 3)).alloc (.cells #[.bool false, .slice (some ⟨w.heap.size, 0, none⟩) 1 1] 121)).heap.size ((w.alloc (.cells #[.int .i64 7] 3)).alloc (.cells #[.bool false, .slice (some ⟨w.heap.size, 0, none⟩) 1 1] 121)) w0 := by rw [hw0]; exact (Below.refl _ _).alloc (Nat.le_refl _) _
  have q3 := heap_alloc_new ((w.alloc (.cells #[.int .i64 7] 3)).alloc (.cells #[.bool false, .slice (some ⟨w.heap.size, 0, none⟩) 1 1] 121)) (.cells (avH (w.heap.size + 1)).C 42)
  rw [← hw0] at q3
  have q2' := (b3.block _ (jE q2)).trans q2
  have q1' := (b3.block _ (Nat.lt_of_lt_of_le (jE q1) b2.size)).trans ((b2.block _ (jE q1)).trans q1)
  refine ⟨by simpa using q3, at7_at (ib := w.heap.size) (by simpa using q2') q1', jC (jC b1 b2) b3⟩)
 obtain ⟨sgb, hsgb⟩ : ∃ b, b = w.heap.size + 1 := ⟨_, rfl⟩
 obtain ⟨ab, hab⟩ : ∃ b, b = w.heap.size + 1 + 1 := ⟨_, rfl⟩
 rw [← hab, ← hsgb] at H0 ⊢
 clear hw0 hsgb hab
 go_cut [2] from 8 to 20 (fun s2 wx => ∃ sb : Nat, s2 = .pointer (some ⟨sb, 0, none⟩) ∧ Hid (Below w0.heap.size w0 wx ∧ ∃ (wz : World) (rho : Nat → Role) (fb : Nat) (ls : List Pl), LSv wz wx rho sb fb ls hB2))
 case first =>
  refine wp_region_held_drew (S := fun w' => Below w0.heap.size w0 w') (by kernel_rfl) ?_ (fun hHeld => ?_)
  ·exact (Below.refl _ _).drew
  generalize World.drew w0 = wd at hHeld ⊢
  refine qy 3 ?_ ?_ ?_ hHeld ?_; rotate_left 1; (· rfl); (· intro w' hSw; refine exec_ld 42 (.tmp 1) ?_ ab ?_ 42 (avH sgb).C (0, 0) _ ((hSw.block _ (jE H0.out.1)).trans H0.out.1) Tryz.underlying42 rfl sz_avS <;> rfl)
  try simp only [jz]
  refine qy 8 ?_ ?_ ?_ hHeld ?_; rotate_left 1; (· rfl); (· intro w' hSw; refine exec_ld 42 (.tmp 1) ?_ ab ?_ 42 (avH sgb).C (0, 0) _ ((hSw.block _ (jE H0.out.1)).trans H0.out.1) Tryz.underlying42 rfl sz_avS <;> rfl)
  try simp only [jz]
  refine jr 0 ?_ fun K hK => ?_; (· rfl); (try clear hb); go_simp; (refine (n1.out _).mono ?_; rintro e w1 ⟨rfl, hb⟩); (try replace fa := fa.below hb); (try replace fb := fb.below hb); go_wp2_with fail; refine hK.out _ _ ?_ (fun hHeld => ?_); (· exact jC hHeld hb); clear hK K
  try simp only [jz]
  refine jr 1 ?_ fun K hK => ?_; (· rfl); (try clear hb); go_simp; (refine (n2.out _).mono ?_; rintro e w1 ⟨rfl, hb⟩); (try replace fa := fa.below hb); (try replace fb := fb.below hb); go_wp2_with fail; refine hK.out _ _ ?_ (fun hHeld => ?_); (· exact jC hHeld hb); clear hK K
  try simp only [jz]
  refine jI (i := 2) (j := 6) (atS (atS at0)) (atS (atS (atS (atS (atS (atS at0)))))) (by kernel_rfl) ?_ ?_ (fun K hK => ?_) (fun K hK => ?_)
  ·rfl
  ·rfl
  ·(try clear hb); go_simp; refine pf2_k (p := K _) (x := netP 1) (y := netP 2) (netP_ok (by decide)) (netP_ok (by decide)) ?_; intro wA fa hb; (try replace fb := fb.below hb); refine hK.out _ _ ?_ (fun hHeld => ?_); (· exact jC hHeld hb); clear hK K
   try simp only [jz]
   refine qy 4 ?_ ?_ ?_ hHeld ?_; rotate_left 1; (· rfl); (· intro w' hSw; have mbl := msg_built sgb; (try clear hHeld); go_simp; try with_reducible rfl)
   try simp only [jz]
   refine qy 5 ?_ ?_ ?_ hHeld ?_; rotate_left 1; (· rfl); (· intro w' hSw; have mbl := fun m => said_built 0 m [] [netP 1, netP 2] at7; (try clear hHeld); go_simp; try with_reducible rfl)
   try simp only [jz]
   refine jr 6 ?_ fun K hK => ?_; (· rfl); (try clear hb); go_simp; (refine (n2.out _).mono ?_; rintro e w1 ⟨rfl, hb⟩); (try replace fa := fa.below hb); (try replace fb := fb.below hb); go_wp2_with fail; refine hK.out _ _ ?_ (fun hHeld => ?_); (· exact jC hHeld hb); clear hK K
   try simp only [jz]
   refine jr 7 ?_ fun K hK => ?_; (· rfl); (try clear hb); go_simp; refine pf1_k (p := K _) (x := netP 2) (netP_ok (by decide)) ?_; intro wA fb hb; (try replace fa := fa.below hb); refine hK.out _ _ ?_ (fun hHeld => ?_); (· exact jC hHeld hb); clear hK K
   try simp only [jz]
   refine qy 9 ?_ ?_ ?_ hHeld ?_; rotate_left 1; (· rfl); (· intro w' hSw; have mbl := msg_built sgb; (try clear hHeld); go_simp; try with_reducible rfl)
   try simp only [jz]
   refine qy 10 ?_ ?_ ?_ hHeld ?_; rotate_left 1; (· rfl); (· intro w' hSw; have mbl := fun m => said_built 1 m [] [netP 2] at7; (try clear hHeld); go_simp; try with_reducible rfl)
   try simp only [jz]
   refine jr 11 ?_ fun K hK => ?_; (· rfl); (try clear hb); refine wp_sd2 (.tmp 13) (.tmp 18) rfl (hX0 _ _ sgb) (hX1 _ _ sgb) rfl rfl ?_; intro wB nc hb; (try replace fa := fa.below hb); (try replace fb := fb.below hb); refine hK.out _ _ ?_ (fun hHeld => ?_); (· exact jC hHeld hb); clear hK K
   try simp only [jz]
   refine jr 12 ?_ fun K hK => ?_; (· rfl); (try clear hb); go_simp; refine (l_told 3 (by decide) (by decide) _ _ _ (saids_two nc fa.self fb.self (H0.out.2.1.below hHeld)) (ms7 _ _ _ _ _)).mono ?_; rintro e wq ⟨rho, sb, fb2, ls, rfl, hl⟩; rw [told_head] at hl; have hbq := hl.bel; go_wp2_with fail; refine hK.out _ _ ?_ (fun hHeld => ?_); (· exact jC hHeld hbq); clear hK K
   try simp only [jz]
   refine qy 13 ?_ ?_ ?_ hHeld ?_; rotate_left 1; (· rfl); (· intro w' hSw; (try clear hHeld); go_simp; try with_reducible rfl)
   try simp only [jz]
   refine wpAnyH_done (by kernel_rfl) ?_ _
   go_wp2_with fail
   go_meet
   exact ⟨sb, rfl, jh ⟨hHeld, _, rho, fb2, ls, hl⟩⟩
  ·(try clear hb); go_simp; (refine (n2.out _).mono ?_; rintro e w1 ⟨rfl, hb⟩); (try replace fa := fa.below hb); (try replace fb := fb.below hb); go_wp2_with fail; refine hK.out _ _ ?_ (fun hHeld => ?_); (· exact jC hHeld hb); clear hK K
   try simp only [jz]
   refine jI (i := 2) (j := 7) (atS (atS at0)) (atS (atS (atS (atS (atS (atS (atS at0))))))) (by kernel_rfl) ?_ ?_ (fun K hK => ?_) (fun K hK => ?_)
   ·rfl
   ·rfl
   ·(try clear hb); go_simp; refine pf2_k (p := K _) (x := netP 1) (y := netP 2) (netP_ok (by decide)) (netP_ok (by decide)) ?_; intro wA fa hb; (try replace fb := fb.below hb); refine hK.out _ _ ?_ (fun hHeld => ?_); (· exact jC hHeld hb); clear hK K
    try simp only [jz]
    refine qy 4 ?_ ?_ ?_ hHeld ?_; rotate_left 1; (· rfl); (· intro w' hSw; have mbl := msg_built sgb; (try clear hHeld); go_simp; try with_reducible rfl)
    try simp only [jz]
    refine qy 5 ?_ ?_ ?_ hHeld ?_; rotate_left 1; (· rfl); (· intro w' hSw; have mbl := fun m => said_built 0 m [] [netP 1, netP 2] at7; (try clear hHeld); go_simp; try with_reducible rfl)
    try simp only [jz]
    refine jr 7 ?_ fun K hK => ?_; (· rfl); (try clear hb); go_simp; refine pf1_k (p := K _) (x := netP 2) (netP_ok (by decide)) ?_; intro wA fb hb; (try replace fa := fa.below hb); refine hK.out _ _ ?_ (fun hHeld => ?_); (· exact jC hHeld hb); clear hK K
    try simp only [jz]
    refine qy 9 ?_ ?_ ?_ hHeld ?_; rotate_left 1; (· rfl); (· intro w' hSw; have mbl := msg_built sgb; (try clear hHeld); go_simp; try with_reducible rfl)
    try simp only [jz]
    refine qy 10 ?_ ?_ ?_ hHeld ?_; rotate_left 1; (· rfl); (· intro w' hSw; have mbl := fun m => said_built 1 m [] [netP 2] at7; (try clear hHeld); go_simp; try with_reducible rfl)
    try simp only [jz]
    refine jr 11 ?_ fun K hK => ?_; (· rfl); (try clear hb); refine wp_sd2 (.tmp 13) (.tmp 18) rfl (hX0 _ _ sgb) (hX1 _ _ sgb) rfl rfl ?_; intro wB nc hb; (try replace fa := fa.below hb); (try replace fb := fb.below hb); refine hK.out _ _ ?_ (fun hHeld => ?_); (· exact jC hHeld hb); clear hK K
    try simp only [jz]
    refine jr 12 ?_ fun K hK => ?_; (· rfl); (try clear hb); go_simp; refine (l_told 3 (by decide) (by decide) _ _ _ (saids_two nc fa.self fb.self (H0.out.2.1.below hHeld)) (ms7 _ _ _ _ _)).mono ?_; rintro e wq ⟨rho, sb, fb2, ls, rfl, hl⟩; rw [told_head] at hl; have hbq := hl.bel; go_wp2_with fail; refine hK.out _ _ ?_ (fun hHeld => ?_); (· exact jC hHeld hbq); clear hK K
    try simp only [jz]
    refine qy 13 ?_ ?_ ?_ hHeld ?_; rotate_left 1; (· rfl); (· intro w' hSw; (try clear hHeld); go_simp; try with_reducible rfl)
    try simp only [jz]
    refine wpAnyH_done (by kernel_rfl) ?_ _
    go_wp2_with fail
    go_meet
    exact ⟨sb, rfl, jh ⟨hHeld, _, rho, fb2, ls, hl⟩⟩
   ·(try clear hb); go_simp; refine pf1_k (p := K _) (x := netP 2) (netP_ok (by decide)) ?_; intro wA fb hb; (try replace fa := fa.below hb); refine hK.out _ _ ?_ (fun hHeld => ?_); (· exact jC hHeld hb); clear hK K
    try simp only [jz]
    refine qy 9 ?_ ?_ ?_ hHeld ?_; rotate_left 1; (· rfl); (· intro w' hSw; have mbl := msg_built sgb; (try clear hHeld); go_simp; try with_reducible rfl)
    try simp only [jz]
    refine qy 10 ?_ ?_ ?_ hHeld ?_; rotate_left 1; (· rfl); (· intro w' hSw; have mbl := fun m => said_built 1 m [] [netP 2] at7; (try clear hHeld); go_simp; try with_reducible rfl)
    try simp only [jz]
    refine jr 2 ?_ fun K hK => ?_; (· rfl); (try clear hb); go_simp; refine pf2_k (p := K _) (x := netP 1) (y := netP 2) (netP_ok (by decide)) (netP_ok (by decide)) ?_; intro wA fa hb; (try replace fb := fb.below hb); refine hK.out _ _ ?_ (fun hHeld => ?_); (· exact jC hHeld hb); clear hK K
    try simp only [jz]
    refine qy 4 ?_ ?_ ?_ hHeld ?_; rotate_left 1; (· rfl); (· intro w' hSw; have mbl := msg_built sgb; (try clear hHeld); go_simp; try with_reducible rfl)
    try simp only [jz]
    refine qy 5 ?_ ?_ ?_ hHeld ?_; rotate_left 1; (· rfl); (· intro w' hSw; have mbl := fun m => said_built 0 m [] [netP 1, netP 2] at7; (try clear hHeld); go_simp; try with_reducible rfl)
    try simp only [jz]
    refine jr 11 ?_ fun K hK => ?_; (· rfl); (try clear hb); refine wp_sd2 (.tmp 13) (.tmp 18) rfl (hX0 _ _ sgb) (hX1 _ _ sgb) rfl rfl ?_; intro wB nc hb; (try replace fa := fa.below hb); (try replace fb := fb.below hb); refine hK.out _ _ ?_ (fun hHeld => ?_); (· exact jC hHeld hb); clear hK K
    try simp only [jz]
    refine jr 12 ?_ fun K hK => ?_; (· rfl); (try clear hb); go_simp; refine (l_told 3 (by decide) (by decide) _ _ _ (saids_two nc fa.self fb.self (H0.out.2.1.below hHeld)) (ms7 _ _ _ _ _)).mono ?_; rintro e wq ⟨rho, sb, fb2, ls, rfl, hl⟩; rw [told_head] at hl; have hbq := hl.bel; go_wp2_with fail; refine hK.out _ _ ?_ (fun hHeld => ?_); (· exact jC hHeld hbq); clear hK K
    try simp only [jz]
    refine qy 13 ?_ ?_ ?_ hHeld ?_; rotate_left 1; (· rfl); (· intro w' hSw; (try clear hHeld); go_simp; try with_reducible rfl)
    try simp only [jz]
    refine wpAnyH_done (by kernel_rfl) ?_ _
    go_wp2_with fail
    go_meet
    exact ⟨sb, rfl, jh ⟨hHeld, _, rho, fb2, ls, hl⟩⟩
 case rest =>
  obtain ⟨sb, rfl, HH⟩ := hcut
  obtain ⟨w1, hw1⟩ : ∃ w1 : World, w1 = wc := ⟨_, rfl⟩
  rw [← hw1] at HH ⊢
  obtain ⟨hb1, wz, rho, fb, ls, hl⟩ := HH.out
  have AL := jh (ls_All hl 2)
  have B1 := jh (jC H0.out.2.2 hb1)
  clear hw1 HH hl hb1 H0
  go_wp2_with fail
  refine AL.out.mono ?_
  rintro e w2 ⟨s, c, L, Q, ps, rfl, oc, h1, h2, h3, h4, h5, h6, hb2⟩
  obtain ⟨x, y, rfl, hx, hy, hyp⟩ := hB2_all h1 h2 h4 h5 h6
  have B2 := jh (jC B1.out hb2)
  obtain ⟨g, o, rfl, rx⟩ := cl_at (own_slat clL_len oc.own) (i := 0) (x := x) rfl
  obtain ⟨g', o', hgo, ry⟩ := cl_at (own_slat clL_len oc.own) (i := 1) (x := y) rfl
  injection hgo with hgo
  injection hgo with e1 e2 _
  subst e1; subst e2
  have py := oc.mem.self y (by simp)
  rw [hyp] at py
  obtain ⟨sv, cv, hyv, -⟩ := id py
  have hyv : y.v = .slice sv 1 cv := hyv
  rw [hyv] at py
  have x0 : w2.cell? ⟨g, o, none⟩ = some (.int .i64 2) := by have := rx 0 _ rfl; rw [hx] at this; exact this
  have x1 : w2.cell? ⟨g, o + 1, none⟩ = some (.int .i64 0) := by have := rx 1 _ rfl; rw [hx] at this; exact this
  have x2 : w2.cell? ⟨g, o + 2, none⟩ = some (.int .i64 1) := by have := rx 2 _ rfl; rw [hx] at this; exact this
  have y0 : w2.cell? ⟨g, o + 4, none⟩ = some (.int .i64 2) := by have := ry 0 _ rfl; rw [hy] at this; exact this
  have y1 : w2.cell? ⟨g, o + 4 + 1, none⟩ = some (.int .i64 0) := by have := ry 1 _ rfl; rw [hy] at this; exact this
  have y2 : w2.cell? ⟨g, o + 4 + 2, none⟩ = some (.int .i64 3) := by have := ry 2 _ rfl; rw [hy] at this; exact this
  have y3 : w2.cell? ⟨g, o + 4 + 3, none⟩ = some (.slice sv 1 cv) := by have := ry 3 _ rfl; rw [← hyv]; exact this
  have HS : Hid (∀ w', Below w2.heap.size w2 w' → Calls Tryz.prog 102 #[.agg #[.slice sv 1 cv], .agg #[.int .u32 (netP 2).1, .int .i64 (netP 2).2]] w' fun e w3 => e = .returned (.bool true) ∧ Below w'.heap.size w' w3) := jh (fun w' hb => by
   have := ps_Has (.slice sv 1 cv) [netP 2] (netP 2) w' (py.below hb) (by simp [Srt])
   simpa using this)
  have LN : Hid (∀ w', Below w2.heap.size w2 w' → Calls Tryz.prog 103 #[.agg #[.slice sv 1 cv]] w' fun e w3 => e = .returned (.int .i64 1) ∧ Below w'.heap.size w' w3) := jh (fun w' hb => ps_Len (.slice sv 1 cv) [netP 2] w' (py.below hb))
  clear h1 h2 h3 h4 h5 h6 hx hy hyp rx ry py hyv oc hb2 AL B1
  go_upto_region 6 with (fail)
  refine wp_region_held_drew (S := fun w' => Below w2.heap.size w2 w') (by kernel_rfl) ?_ (fun hHeld => ?_)
  ·exact (Below.refl _ _).drew
  generalize World.drew w2 = wd at hHeld ⊢
  refine qy 0 ?_ ?_ ?_ hHeld ?_; rotate_left 1; (· rfl); (· intro w' hSw; (try clear hHeld); go_simp; try with_reducible rfl)
  try simp only [jz]
  refine qy 1 ?_ ?_ ?_ hHeld ?_; rotate_left 1; (· rfl); (· intro w' hSw; (try clear hHeld); go_simp; try with_reducible rfl)
  try simp only [jz]
  refine qy 2 ?_ ?_ ?_ hHeld ?_; rotate_left 1; (· rfl); (· intro w' hSw; (try clear hHeld); go_simp; try with_reducible rfl)
  try simp only [jz]
  refine qy 3 ?_ ?_ ?_ hHeld ?_; rotate_left 1; (· rfl); (· intro w' hSw; (try clear hHeld); go_simp; try with_reducible rfl)
  try simp only [jz]
  refine qy 4 ?_ ?_ ?_ hHeld ?_; rotate_left 1; (· rfl); (· intro w' hSw; (try clear hHeld); go_simp; try with_reducible rfl)
  try simp only [jz]
  refine qy 5 ?_ ?_ ?_ hHeld ?_; rotate_left 1; (· rfl); (· intro w' hSw; have x0 := jA x0 hSw; have x1 := jA x1 hSw; have x2 := jA x2 hSw; have y0 := jA y0 hSw; have y1 := jA y1 hSw; have y2 := jA y2 hSw; have y3 := jA y3 hSw; (try clear hHeld); go_simp; try with_reducible rfl)
  try simp only [jz]
  refine qy 6 ?_ ?_ ?_ hHeld ?_; rotate_left 1; (· rfl); (· intro w' hSw; (try clear hHeld); go_simp; try with_reducible rfl)
  try simp only [jz]
  refine qy 7 ?_ ?_ ?_ hHeld ?_; rotate_left 1; (· rfl); (· intro w' hSw; have x0 := jA x0 hSw; have x1 := jA x1 hSw; have x2 := jA x2 hSw; have y0 := jA y0 hSw; have y1 := jA y1 hSw; have y2 := jA y2 hSw; have y3 := jA y3 hSw; (try clear hHeld); go_simp; try with_reducible rfl)
  try simp only [jz]
  refine qy 8 ?_ ?_ ?_ hHeld ?_; rotate_left 1; (· rfl); (· intro w' hSw; (try clear hHeld); go_simp; try with_reducible rfl)
  try simp only [jz]
  refine qy 9 ?_ ?_ ?_ hHeld ?_; rotate_left 1; (· rfl); (· intro w' hSw; (try clear hHeld); go_simp; try with_reducible rfl)
  try simp only [jz]
  refine qy 10 ?_ ?_ ?_ hHeld ?_; rotate_left 1; (· rfl); (· intro w' hSw; (try clear hHeld); go_simp; try with_reducible rfl)
  try simp only [jz]
  refine qy 11 ?_ ?_ ?_ hHeld ?_; rotate_left 1; (· rfl); (· intro w' hSw; (try clear hHeld); go_simp; try with_reducible rfl)
  try simp only [jz]
  refine qy 12 ?_ ?_ ?_ hHeld ?_; rotate_left 1; (· rfl); (· intro w' hSw; (try clear hHeld); go_simp; try with_reducible rfl)
  try simp only [jz]
  refine qy 13 ?_ ?_ ?_ hHeld ?_; rotate_left 1; (· rfl); (· intro w' hSw; have x0 := jA x0 hSw; have x1 := jA x1 hSw; have x2 := jA x2 hSw; have y0 := jA y0 hSw; have y1 := jA y1 hSw; have y2 := jA y2 hSw; have y3 := jA y3 hSw; (try clear hHeld); go_simp; try with_reducible rfl)
  try simp only [jz]
  refine qy 14 ?_ ?_ ?_ hHeld ?_; rotate_left 1; (· rfl); (· intro w' hSw; (try clear hHeld); go_simp; try with_reducible rfl)
  try simp only [jz]
  refine qy 15 ?_ ?_ ?_ hHeld ?_; rotate_left 1; (· rfl); (· intro w' hSw; have x0 := jA x0 hSw; have x1 := jA x1 hSw; have x2 := jA x2 hSw; have y0 := jA y0 hSw; have y1 := jA y1 hSw; have y2 := jA y2 hSw; have y3 := jA y3 hSw; (try clear hHeld); go_simp; try with_reducible rfl)
  try simp only [jz]
  refine qy 16 ?_ ?_ ?_ hHeld ?_; rotate_left 1; (· rfl); (· intro w' hSw; (try clear hHeld); go_simp; try with_reducible rfl)
  try simp only [jz]
  refine qy 17 ?_ ?_ ?_ hHeld ?_; rotate_left 1; (· rfl); (· intro w' hSw; (try clear hHeld); go_simp; try with_reducible rfl)
  try simp only [jz]
  refine qy 18 ?_ ?_ ?_ hHeld ?_; rotate_left 1; (· rfl); (· intro w' hSw; (try clear hHeld); go_simp; try with_reducible rfl)
  try simp only [jz]
  refine qy 19 ?_ ?_ ?_ hHeld ?_; rotate_left 1; (· rfl); (· intro w' hSw; (try clear hHeld); go_simp; try with_reducible rfl)
  try simp only [jz]
  refine qy 20 ?_ ?_ ?_ hHeld ?_; rotate_left 1; (· rfl); (· intro w' hSw; (try clear hHeld); go_simp; try with_reducible rfl)
  try simp only [jz]
  refine qy 21 ?_ ?_ ?_ hHeld ?_; rotate_left 1; (· rfl); (· intro w' hSw; have x0 := jA x0 hSw; have x1 := jA x1 hSw; have x2 := jA x2 hSw; have y0 := jA y0 hSw; have y1 := jA y1 hSw; have y2 := jA y2 hSw; have y3 := jA y3 hSw; (try clear hHeld); go_simp; try with_reducible rfl)
  try simp only [jz]
  refine qy 22 ?_ ?_ ?_ hHeld ?_; rotate_left 1; (· rfl); (· intro w' hSw; (try clear hHeld); go_simp; try with_reducible rfl)
  try simp only [jz]
  refine qy 23 ?_ ?_ ?_ hHeld ?_; rotate_left 1; (· rfl); (· intro w' hSw; have x0 := jA x0 hSw; have x1 := jA x1 hSw; have x2 := jA x2 hSw; have y0 := jA y0 hSw; have y1 := jA y1 hSw; have y2 := jA y2 hSw; have y3 := jA y3 hSw; (try clear hHeld); go_simp; try with_reducible rfl)
  try simp only [jz]
  refine jr 24 ?_ fun K hK => ?_; (· rfl); (try clear hb); go_simp; (refine (n2.out _).mono ?_; rintro e w1 ⟨rfl, hb⟩); go_wp2_with fail; refine hK.out _ _ ?_ (fun hHeld => ?_); (· exact hHeld.trans (hb.mono hHeld.size)); clear hK K
  try simp only [jz]
  refine jr 25 ?_ fun K hK => ?_; (· rfl); (try clear hb); go_simp; (refine (HS.out _ hHeld).mono ?_; rintro e w1 ⟨rfl, hb⟩); go_wp2_with fail; refine hK.out _ _ ?_ (fun hHeld => ?_); (· exact hHeld.trans (hb.mono hHeld.size)); clear hK K
  try simp only [jz]
  refine qy 26 ?_ ?_ ?_ hHeld ?_; rotate_left 1; (· rfl); (· intro w' hSw; (try clear hHeld); go_simp; try with_reducible rfl)
  try simp only [jz]
  refine qy 27 ?_ ?_ ?_ hHeld ?_; rotate_left 1; (· rfl); (· intro w' hSw; (try clear hHeld); go_simp; try with_reducible rfl)
  try simp only [jz]
  refine qy 28 ?_ ?_ ?_ hHeld ?_; rotate_left 1; (· rfl); (· intro w' hSw; (try clear hHeld); go_simp; try with_reducible rfl)
  try simp only [jz]
  refine qy 29 ?_ ?_ ?_ hHeld ?_; rotate_left 1; (· rfl); (· intro w' hSw; have x0 := jA x0 hSw; have x1 := jA x1 hSw; have x2 := jA x2 hSw; have y0 := jA y0 hSw; have y1 := jA y1 hSw; have y2 := jA y2 hSw; have y3 := jA y3 hSw; (try clear hHeld); go_simp; try with_reducible rfl)
  try simp only [jz]
  refine qy 30 ?_ ?_ ?_ hHeld ?_; rotate_left 1; (· rfl); (· intro w' hSw; (try clear hHeld); go_simp; try with_reducible rfl)
  try simp only [jz]
  refine qy 31 ?_ ?_ ?_ hHeld ?_; rotate_left 1; (· rfl); (· intro w' hSw; have x0 := jA x0 hSw; have x1 := jA x1 hSw; have x2 := jA x2 hSw; have y0 := jA y0 hSw; have y1 := jA y1 hSw; have y2 := jA y2 hSw; have y3 := jA y3 hSw; (try clear hHeld); go_simp; try with_reducible rfl)
  try simp only [jz]
  refine jr 32 ?_ fun K hK => ?_; (· rfl); (try clear hb); go_simp; (refine (LN.out _ hHeld).mono ?_; rintro e w1 ⟨rfl, hb⟩); go_wp2_with fail; refine hK.out _ _ ?_ (fun hHeld => ?_); (· exact hHeld.trans (hb.mono hHeld.size)); clear hK K
  try simp only [jz]
  refine qy 33 ?_ ?_ ?_ hHeld ?_; rotate_left 1; (· rfl); (· intro w' hSw; (try clear hHeld); go_simp; try with_reducible rfl)
  try simp only [jz]
  refine qy 34 ?_ ?_ ?_ hHeld ?_; rotate_left 1; (· rfl); (· intro w' hSw; (try clear hHeld); go_simp; try with_reducible rfl)
  try simp only [jz]
  refine qy 35 ?_ ?_ ?_ hHeld ?_; rotate_left 1; (· rfl); (· intro w' hSw; (try clear hHeld); go_simp; try with_reducible rfl)
  try simp only [Act.put, List.setIfInBounds_toArray, List.set_cons_zero]
  refine wpAnyH_done (by kernel_rfl) ?_ _
  have B3 := jh (jC B2.out hHeld)
  clear hHeld
  go_wp2_with fail
  go_ret
  exact ⟨rfl, B3.out⟩
open Go.RowKit
theorem best_goes {A : Ab} {r : Nat} {p : Pf} {b : Int × At} (h : A.best r p = some b) : ∃ n : Nat, b.1 = (n : Int) ∧ n < A.V.length ∧ A.goes n r p = true := by
 rw [best_offs] at h
 have hne : A.offs r p ≠ [] := fun e => by rw [e] at h; cases h
 obtain ⟨i, c, hi, -, hp⟩ := pickB_some hne
 rw [hp] at h
 injection h with h
 have hm := List.mem_of_getElem? hi
 obtain ⟨n, v, h1, h2, -⟩ := offs_mem hm
 exact ⟨n, by rw [← h]; exact h1, (List.getElem?_eq_some_iff.1 h2).1, goes_iff.2 ⟨c, hm, h1⟩⟩
theorem goes_none {A : Ab} {r : Nat} {p : Pf} (h : A.best r p = none) (n : Nat) : A.goes n r p = false := by
 cases hg : A.goes n r p with
 | false => rfl
 | true =>
  obtain ⟨c, hc, -⟩ := goes_iff.1 hg
  rw [best_offs, pickB_none] at h
  rw [h] at hc; cases hc
theorem keyI_some {A : Ab} {from_ : Int} {p : Pf} {k : Ky} (h : A.keyI from_ p = some k) : ∃ (j n : Nat) (b : Int × At), from_ = (j : Int) ∧ j < A.V.length ∧ A.best j p = some b ∧ b.1 = (n : Int) ∧ n < A.V.length ∧ A.goes n j p = true ∧ k = ⟨j, n, A.may j p⟩ := by
 unfold Ab.keyI at h
 split at h
 ·rename_i hn
  obtain ⟨j, rfl⟩ := Int.eq_ofNat_of_zero_le hn.1
  rw [Int.toNat_natCast] at h
  unfold Ab.key at h
  cases hb : A.best j p with
  | none => rw [hb] at h; cases h
  | some b =>
   rw [hb] at h
   injection h with h
   obtain ⟨n, h1, h2, h3⟩ := best_goes hb
   exact ⟨j, n, b, rfl, by omega, hb, h1, h2, h3, by rw [← h, ← h1]⟩
 ·cases h
theorem key_goes {A : Ab} {i j : Nat} {p : Pf} (hj : j < A.V.length) (h : A.goes i j p = true) : (A.keyI j p).isSome = true := by
 rw [keyI_at A hj]
 unfold Ab.key
 cases hb : A.best j p with
 | none => rw [goes_none hb] at h; cases h
 | some b => rfl
theorem key_can {A : Ab} (few : A.V.length ≤ 16) {from_ : Int} {p : Pf} {k : Ky} (h : A.keyI from_ p = some k) : ∃ (n : Nat) (M : Nat), k.best = (n : Int) ∧ k.may = (M : Int) ∧ (decide ((0 : Int) ≤ (n : Int) ∧ (n : Int) < 16) && M.testBit (n : Int).toNat) = true := by
 obtain ⟨j, n, b, rfl, hj, hb, hbn, hn, hg, rfl⟩ := keyI_some h
 refine ⟨n, A.may j p, rfl, rfl, ?_⟩
 rw [Int.toNat_natCast, may_bit few, decide_eq_true hn, hg, show decide ((0 : Int) ≤ (n : Int) ∧ (n : Int) < 16) = true from decide_eq_true ⟨by omega, by omega⟩]
 rfl
theorem updI_len (A : Ab) (n kind : Int) (gone nets : List Pf) (a : At) : (A.updI n kind gone nets a).V.length = A.V.length := by
 unfold Ab.updI
 split
 ·unfold Ab.upd
  split
  ·exact setV_len _ _ _
  ·rfl
 ·rfl
theorem turn_key {A : Ab} {i : Nat} {R : Rts} {q : Pf} (h : getL R q = getL (A.R i) q) (n : Int) : (A.turn A.bl (setV A.V i R)).keyI n q = A.keyI n q := by
 have hl : A.V.length = (setV A.V i R).length := (setV_len _ _ _).symm
 have cg : ∀ (k : Nat) v v', A.V[k]? = some v → (setV A.V i R)[k]? = some v' → v.1 = v'.1 ∧ v.2.1 = v'.2.1 ∧ getL v.2.2 q = getL v'.2.2 q := by
  intro k v v' h1 h2
  rw [setV_get, h1] at h2
  by_cases e : k = i
  ·subst e
   simp at h2
   subst h2
   refine ⟨rfl, rfl, ?_⟩
   show _ = getL R q
   rw [h]
   unfold Ab.R
   rw [h1]
   rfl
  ·simp [e] at h2
   subst h2
   exact ⟨rfl, rfl, rfl⟩
 unfold Ab.keyI
 show (if 0 ≤ n ∧ n < ((setV A.V i R).length : Int) then _ else _) = _
 rw [← hl]
 split
 ·have e1 : (A.turn A.bl (setV A.V i R)).best n.toNat q = A.best n.toNat q := (bestV_congr hl cg fun _ _ _ _ _ => rfl).symm
  have e2 : (A.turn A.bl (setV A.V i R)).offs n.toNat q = A.offs n.toNat q := (offV_congr hl cg fun _ _ _ _ _ => rfl).symm
  unfold Ab.key Ab.may
  rw [e1, e2]
 ·rfl
theorem updI_key (A : Ab) (who kind : Int) (p q : Pf) (a : At) (hq : q ≠ p) (n : Int) : (A.updI who kind [] [p] a).keyI n q = A.keyI n q := by
 unfold Ab.updI
 split
 ·unfold Ab.upd
  split
  ·exact turn_key (updP_keeps (by simpa using hq)) n
  ·rfl
 ·rfl
end Go.Proofs.YtkoidahgbbabiaaGreat
