/- Texts of one proof, one behind another. -/
import Derived.Test.YtkoidahgbbabiaaGreatFt1
import Derived.LoopTactic
import Derived.OwnWalk
import Derived.Deep.DeepCutAuto
import Derived.LoopN
namespace Go.Proofs.YtkoidahgbbabiaaGreat
open Go.RowKit Go.ChangeShapes Go.WideShapes
abbrev Sg := Bool × List Int
abbrev Oth := Int × List Nat
structure At where
 has : Int
 origin : Int
 path : List Sg
 hop : Nat
 med : Int
 loc : Int
 aggrAs : Int
 aggrId : Nat
 comms : List Int
 others : List Oth
def ByteC (n : Nat) (cs : List Value) : Prop := cs = [.int .u8 n] ∧ n < 256
abbrev BytesAt (w : World) (v : Value) (xs : List Nat) : Prop := SlAt w 1 ByteC v xs
def SegC (w : World) (s : Sg) (cs : List Value) : Prop := ∃ u, cs = [.bool s.1, u] ∧ IntsAt w u s.2
def OthC (w : World) (o : Oth) (cs : List Value) : Prop := ∃ u, cs = [.int .i64 o.1, u] ∧ I64r o.1 ∧ BytesAt w u o.2
abbrev PathAt (w : World) (v : Value) (p : List Sg) : Prop := SlAt w 2 (SegC w) v p
abbrev OthersAt (w : World) (v : Value) (os : List Oth) : Prop := SlAt w 2 (OthC w) v os
theorem BytesAt.below {w w' : World} {v : Value} {xs : List Nat} (h : BytesAt w v xs) (hb : Below w.heap.size w w') : BytesAt w' v xs := SlAt.below h hb fun _ _ h => h
theorem SegC.below {w w' : World} {s : Sg} {cs : List Value} (h : SegC w s cs) (hb : Below w.heap.size w w') : SegC w' s cs := by
 obtain ⟨u, h1, h2⟩ := h; exact ⟨u, h1, h2.below hb⟩
theorem OthC.below {w w' : World} {s : Oth} {cs : List Value} (h : OthC w s cs) (hb : Below w.heap.size w w') : OthC w' s cs := by
 obtain ⟨u, h1, h2, h3⟩ := h; exact ⟨u, h1, h2, h3.below hb⟩
theorem PathAt.below {w w' : World} {v : Value} {p : List Sg} (h : PathAt w v p) (hb : Below w.heap.size w w') : PathAt w' v p := SlAt.below h hb fun _ _ h => h.below hb
theorem OthersAt.below {w w' : World} {v : Value} {p : List Oth} (h : OthersAt w v p) (hb : Below w.heap.size w w') : OthersAt w' v p := SlAt.below h hb fun _ _ h => h.below hb
def atV (a : At) (vp vc vo : Value) : List Value := [.int .i64 a.has, .int .i64 a.origin, vp, .int .u32 a.hop, .int .i64 a.med, .int .i64 a.loc, .int .i64 a.aggrAs, .int .u32 a.aggrId, vc, vo]
def At.Rng (a : At) : Prop := I64r a.has ∧ I64r a.origin ∧ a.hop < 4294967296 ∧ I64r a.med ∧ I64r a.loc ∧ I64r a.aggrAs ∧ a.aggrId < 4294967296
def AtL (w : World) (a : At) (vp vc vo : Value) : Prop := PathAt w vp a.path ∧ IntsAt w vc a.comms ∧ OthersAt w vo a.others
theorem AtL.below {w w' : World} {a : At} {vp vc vo : Value} (h : AtL w a vp vc vo) (hb : Below w.heap.size w w') : AtL w' a vp vc vo := ⟨h.1.below hb, h.2.1.below hb, h.2.2.below hb⟩
def AtC (w : World) (a : At) (cs : List Value) : Prop := ∃ vp vc vo, cs = atV a vp vc vo ∧ a.Rng ∧ AtL w a vp vc vo
theorem AtC.below {w w' : World} {a : At} {cs : List Value} (h : AtC w a cs) (hb : Below w.heap.size w w') : AtC w' a cs := by
 obtain ⟨vp, vc, vo, h1, h2, h3⟩ := h; exact ⟨vp, vc, vo, h1, h2, h3.below hb⟩
section
variable {H : Type} {enc : TypeId × Value → H} {w : World} {base : Nat} {spare : Nat → Bool} {held : Bool}
theorem sl_u32 {f : Nat} {c : List Value} {y : DataW H × List MemPlace} (h : DataW.trod enc Tryz.prog w base spare held f 36 c = some y) : ∃ n : Nat, c = [.int .u32 n] ∧ n < 4294967296 := by
 obtain ⟨n, h1, _, h2⟩ := DataW.trod_int Tryz.underlying36 h
 simp [Lit.wf, IntKind.min, IntKind.max, IntKind.bits, IntKind.signed] at h2
 obtain ⟨m, rfl⟩ := Int.eq_ofNat_of_zero_le (show 0 ≤ n by omega)
 exact ⟨m, h1, by omega⟩
theorem sl_u8 {f : Nat} {c : List Value} {y : DataW H × List MemPlace} (h : DataW.trod enc Tryz.prog w base spare held f 5 c = some y) : ∃ n : Nat, ByteC n c := by
 obtain ⟨n, h1, _, h2⟩ := DataW.trod_int Tryz.underlying5 h
 simp [Lit.wf, IntKind.min, IntKind.max, IntKind.bits, IntKind.signed] at h2
 obtain ⟨m, rfl⟩ := Int.eq_ofNat_of_zero_le (show 0 ≤ n by omega)
 exact ⟨m, h1, by omega⟩
end
open Go.RowKit
def hopsN : List Sg → Nat
 | [] => 0
 | s :: p => (if s.1 then 1 else s.2.length) + hopsN p
theorem hopsN_append (p q : List Sg) : hopsN (p ++ q) = hopsN p + hopsN q := by
 induction p with
 | nil => simp [hopsN]
 | cons s p ih => simp only [List.cons_append, hopsN, ih]; omega
theorem hopsN_step {p : List Sg} {k : Nat} {s : Sg} (hs : p[k]? = some s) : hopsN (p.take (k + 1)) = hopsN (p.take k) + (if s.1 then 1 else s.2.length) := by
 obtain ⟨h1, h2⟩ := List.getElem?_eq_some_iff.1 hs
 rw [List.take_succ_eq_append_getElem h1, hopsN_append, h2]
 simp [hopsN]
theorem hopsN_le (p : List Sg) (k : Nat) : hopsN (p.take k) ≤ hopsN p := by
 conv => rhs; rw [← List.take_append_drop k p]
 rw [hopsN_append]; omega
def firstN : List Sg → Int
 | [] => 0
 | s :: _ => if s.1 then 0 else s.2.headD 0
theorem boxA (w : World) (c0 c1 c2 c3 c4 c5 c6 c7 c8 c9 : Value) : ∃ W0, W0 = w.alloc (.cells #[c0, c1, c2, c3, c4, c5, c6, c7, c8, c9] 42) ∧ W0.heap[w.heap.size]? = some (.cells #[c0, c1, c2, c3, c4, c5, c6, c7, c8, c9] 42 (0, 0)) ∧ Below w.heap.size w W0 ∧ W0.heap.size = w.heap.size + 1 :=
 ⟨_, rfl, heap_alloc_new w _, (Below.refl _ _).alloc (Nat.le_refl _) _, by simp⟩
set_option maxHeartbeats 1600000 in
set_option maxRecDepth 100000 in
theorem at_Hops (c0 c1 vp c3 c4 c5 c6 c7 c8 c9 : Value) (p : List Sg) (w : World) (hP : PathAt w vp p) (hh : hopsN p ≤ 4611686018427387904) :
  Calls Tryz.prog 187 #[.agg #[c0, c1, vp, c3, c4, c5, c6, c7, c8, c9]] w fun e w' => e = .returned (.int .i64 (hopsN p)) ∧ Below w.heap.size w w' := by
 obtain ⟨sa, cap, rfl, hlc, hcm, hV⟩ := hP
 have HV := jh hV
 have HH := jh hh
 unfold maxLen at hcm
 clear hV hh
 go_enter Tryz.func187, Tryz.ntmps187
 go_upto_region 2 with (fail)
 obtain ⟨W0, hW0, q, hb0, _⟩ := boxA w c0 c1 (.slice sa p.length cap) c3 c4 c5 c6 c7 c8 c9
 rw [← hW0]
 clear hW0
 have y2 : W0.cell? ⟨w.heap.size, 2, none⟩ = some (.slice sa p.length cap) := jB q 2
 clear q
 go_wp2_with fail
 go_loopw [3, 9] (fun n i wr => ∃ k : Nat, k ≤ p.length ∧ i = .int .i64 k ∧ n = .int .i64 (hopsN (p.take k)) ∧ Below w.heap.size w wr) (fun _ i _ => p.length - (intOf i).toNat)
 case atStart => exact ⟨0, by omega, rfl, rfl, hb0⟩
 case round =>
  obtain ⟨k, hk, rfl, rfl, hb⟩ := hrel
  by_cases hlt : k < p.length
  ·obtain ⟨s, hs⟩ : ∃ s, p[k]? = some s := ⟨_, List.getElem?_eq_getElem hlt⟩
   obtain ⟨b, off, hsa, hP⟩ := HV.out (by omega)
   subst hsa
   obtain ⟨cs, _, ⟨u, rfl, sb, cb, rfl, hl1, hl2, _⟩, hc⟩ := hP k s hs
   have d0 := (hb.cell (jH (hc 0 _ rfl))).trans (hc 0 _ rfl)
   have d1 := (hb.cell (jH (hc 1 _ rfl))).trans (hc 1 _ rfl)
   simp only [Nat.add_zero] at d0
   have ST := jh (hopsN_step hs)
   have h1 := hopsN_le p k
   have h2 := hopsN_le p (k + 1)
   rw [ST.out] at h2
   have h3 := HH.out
   unfold maxLen at hl2
   obtain ⟨set, ss⟩ := s
   simp only at d0 d1 ST h2 hl1 hl2
   have hB : Hid (∀ o, Below w.heap.size w (wr.alloc o)) := jh fun o => hb.alloc hb.size o
   clear hP hc hs
   cases set
   ·simp only [Bool.false_eq_true, if_false] at ST h2
    have e1 : (hopsN (List.take k p) : Int) + (ss.length : Int) ≤ 4611686018427387904 := by omega
    go_wp2_with fail
    exact ⟨⟨k + 1, by omega, by go_num, by rw [ST.out]; go_num, hB.out _⟩, by simp [intOf]; omega⟩
   ·simp only [if_true] at ST h2
    have e1 : (hopsN (List.take k p) : Int) + 1 ≤ 4611686018427387904 := by omega
    go_wp2_with fail
    exact ⟨⟨k + 1, by omega, by go_num, by rw [ST.out]; go_num, hB.out _⟩, by simp [intOf]; omega⟩
  ·obtain rfl : k = p.length := by omega
   go_wp2_with fail
   go_ret
   exact ⟨jU (by rw [List.take_length]), hb⟩
open Go.RowKit
def knownB (t : Int) : Bool := decide (1 ≤ t) && decide (t ≤ 8)
def bitB (has : Int) (t : Nat) : Bool := bits .and .i64 (has / 2 ^ t) 1 == 1
def isB (has t : Int) : Bool := knownB t && bitB has t.toNat
theorem at_isKnown (t : Int) (w : World) : Calls Tryz.prog 150 #[.int .i64 t] w fun e w' => e = .returned (.bool (knownB t)) ∧ w = w' := by
 cases h1 : decide (1 ≤ t)
 ·have K : Hid (knownB t = false) := jh (by unfold knownB; rw [h1]; rfl)
  go_enter Tryz.func150, Tryz.ntmps150
  go_wp2
  go_ret
  exact ⟨jL K.out.symm, rfl⟩
 ·have K : Hid (knownB t = decide (t ≤ 8)) := jh (by unfold knownB; rw [h1]; rfl)
  go_enter Tryz.func150, Tryz.ntmps150
  go_wp2
  go_ret
  exact ⟨jL K.out.symm, rfl⟩
set_option maxHeartbeats 1600000 in
set_option maxRecDepth 100000 in
theorem at_Is (has : Int) (c1 c2 c3 c4 c5 c6 c7 c8 c9 : Value) (t : Int) (w : World) :
  Calls Tryz.prog 110 #[.agg #[.int .i64 has, c1, c2, c3, c4, c5, c6, c7, c8, c9], .int .i64 t] w fun e w' => e = .returned (.bool (isB has t)) ∧ Below w.heap.size w w' := by
 cases hk : knownB t
 ·have K := jh (at_isKnown t)
  rw [hk] at K
  have E : Hid (isB has t = false) := jh (by unfold isB; rw [hk]; rfl)
  clear hk
  go_enter Tryz.func110, Tryz.ntmps110
  go_wp2_with fail
  obtain ⟨W0, hW0, q, hb0, _⟩ := boxA w (.int .i64 has) c1 c2 c3 c4 c5 c6 c7 c8 c9
  rw [← hW0]
  clear hW0
  refine (K.out _).mono ?_
  rintro e w1 ⟨rfl, rfl⟩
  go_wp2_with fail
  go_ret
  exact ⟨jL E.out.symm, hb0⟩
 ·have K := jh (at_isKnown t)
  rw [hk] at K
  have k1 : 1 ≤ t ∧ t ≤ 8 := by unfold knownB at hk; simpa using hk
  obtain ⟨n, rfl⟩ := Int.eq_ofNat_of_zero_le (show 0 ≤ t by omega)
  have k2 : n < 64 := by omega
  have E : Hid (isB has n = bitB has n) := jh (by unfold isB; rw [hk]; rfl)
  clear hk
  go_enter Tryz.func110, Tryz.ntmps110
  go_wp2_with fail
  obtain ⟨W0, hW0, q, hb0, _⟩ := boxA w (.int .i64 has) c1 c2 c3 c4 c5 c6 c7 c8 c9
  rw [← hW0]
  clear hW0
  have y0 : W0.cell? ⟨w.heap.size, 0, none⟩ = some (.int .i64 has) := jB q 0
  clear q
  refine (K.out _).mono ?_
  rintro e w1 ⟨rfl, rfl⟩
  go_wp2_with fail
  go_ret
  exact ⟨jL E.out.symm, hb0⟩
set_option maxHeartbeats 1600000 in
set_option maxRecDepth 100000 in
theorem at_First (c0 c1 vp c3 c4 c5 c6 c7 c8 c9 : Value) (p : List Sg) (w : World) (hP : PathAt w vp p) :
  Calls Tryz.prog 188 #[.agg #[c0, c1, vp, c3, c4, c5, c6, c7, c8, c9]] w fun e w' => e = .returned (.int .i64 (firstN p)) ∧ Below w.heap.size w w' := by
 obtain ⟨sa, cap, rfl, hlc, hcm, hV⟩ := hP
 have HV := jh hV
 unfold maxLen at hcm
 clear hV
 cases p with
 | nil =>
  go_enter Tryz.func188, Tryz.ntmps188
  go_upto_region 1 with (fail)
  obtain ⟨W0, hW0, q, hb0, _⟩ := boxA w c0 c1 (.slice sa 0 cap) c3 c4 c5 c6 c7 c8 c9
  try simp only [List.length_nil]
  rw [← hW0]
  clear hW0
  have y2 : W0.cell? ⟨w.heap.size, 2, none⟩ = some (.slice sa 0 cap) := jB q 2
  clear q
  go_wp2_with fail
  go_ret
  exact ⟨rfl, hb0⟩
 | cons s p =>
  obtain ⟨b, off, hsa, hP⟩ := HV.out (by simp)
  subst hsa
  obtain ⟨cs, _, ⟨u, rfl, sb, cb, rfl, hl1, hl2, hL⟩, hc⟩ := hP 0 s rfl
  have d0 := hc 0 _ rfl
  have d1 := hc 1 _ rfl
  simp only [Nat.add_zero, Nat.zero_mul] at d0 d1
  obtain ⟨set, ss⟩ := s
  simp only at d0 d1 hl1 hl2 hL
  have HL := jh hL
  unfold maxLen at hl2
  clear hP hc hL HV
  simp only [List.length_cons] at hlc ⊢
  have n0 : ((p.length : Int) + 1 == 0) = false := by rw [beq_eq_false_iff_ne]; omega
  have n1 : (0 : Int) < (p.length : Int) + 1 := by omega
  cases set
  ·cases ss with
   | nil =>
    simp only [List.length_nil] at d1
    go_enter Tryz.func188, Tryz.ntmps188
    go_upto_region 1 with (fail)
    obtain ⟨W0, hW0, q, hb0, _⟩ := boxA w c0 c1 (.slice (some ⟨b, off, none⟩) (p.length + 1) cap) c3 c4 c5 c6 c7 c8 c9
    rw [← hW0]
    clear hW0
    have y2 : W0.cell? ⟨w.heap.size, 2, none⟩ = some (.slice (some ⟨b, off, none⟩) (p.length + 1) cap) := jB q 2
    have d0 := jA d0 hb0
    have d1 := jA d1 hb0
    clear q
    go_wp2_with fail
    go_ret
    exact ⟨rfl, hb0⟩
   | cons x ss =>
    obtain ⟨b', off', hsb, hP⟩ := HL.out (by simp)
    subst hsb
    obtain ⟨cs, _, ⟨rfl, _⟩, hc⟩ := hP 0 x rfl
    have d2 := hc 0 _ rfl
    simp only [Nat.add_zero, Nat.zero_mul] at d2
    simp only [List.length_cons] at d1
    clear HL hP hc
    have n2 : ((ss.length : Int) + 1 == 0) = false := by rw [beq_eq_false_iff_ne]; omega
    have n3 : (0 : Int) < (ss.length : Int) + 1 := by omega
    go_enter Tryz.func188, Tryz.ntmps188
    go_upto_region 1 with (fail)
    obtain ⟨W0, hW0, q, hb0, _⟩ := boxA w c0 c1 (.slice (some ⟨b, off, none⟩) (p.length + 1) cap) c3 c4 c5 c6 c7 c8 c9
    rw [← hW0]
    clear hW0
    have y2 : W0.cell? ⟨w.heap.size, 2, none⟩ = some (.slice (some ⟨b, off, none⟩) (p.length + 1) cap) := jB q 2
    have d0 := jA d0 hb0
    have d1 := jA d1 hb0
    have d2 := jA d2 hb0
    clear q
    go_wp2_with fail
    go_ret
    exact ⟨rfl, hb0⟩
  ·go_enter Tryz.func188, Tryz.ntmps188
   go_upto_region 1 with (fail)
   obtain ⟨W0, hW0, q, hb0, _⟩ := boxA w c0 c1 (.slice (some ⟨b, off, none⟩) (p.length + 1) cap) c3 c4 c5 c6 c7 c8 c9
   rw [← hW0]
   clear hW0
   have y2 : W0.cell? ⟨w.heap.size, 2, none⟩ = some (.slice (some ⟨b, off, none⟩) (p.length + 1) cap) := jB q 2
   have d0 := jA d0 hb0
   clear q
   go_wp2_with fail
   go_ret
   exact ⟨rfl, hb0⟩
end Go.Proofs.YtkoidahgbbabiaaGreat
