/- Texts of one proof, one behind another. -/
import Derived.Test.YtohkbcdnlmjcjaaDoorFm20
import Derived.Test.YtohkbcdnlmjcjaaDoorFm15
import Derived.Test.YtohkbcdnlmjcjaaDoorFm9
/-
  ATTRIBUTES: what Decode reads is right, plain.
-/
namespace Go.Proofs.YtohkbcdnlmjcjaaDoor
open Go.RowKit

set_option maxRecDepth 100000 in
theorem take_ok {a : At} {hd t : Nat} {xs : List Nat} (h : (takeP a hd t xs).1 = 0) :
    szBad t xs.length = false ∧ ¬ (t = 8 ∧ xs.length / 4 > 256) ∧ (setP a t xs).1 = true ∧ (t = 1 → goodB (setP a t xs).2 1 = true) ∧ (t = 3 → goodB (setP a t xs).2 3 = true) ∧ (takeP a hd t xs).2 = { (setP a t xs).2 with has := bits .or .i64 (setP a t xs).2.has (2 ^ t) } := by
  unfold takeP at h ⊢
  split at h
  · cases h
  rename_i h1
  rw [if_neg h1]
  split at h
  · cases h
  rename_i h2
  rw [if_neg h2]
  split at h
  · cases h
  rename_i h3
  rw [if_neg h3]
  split at h
  · cases h
  rename_i h4
  rw [if_neg h4]
  split at h
  · cases h
  rename_i h5
  rw [if_neg h5]
  split at h
  · cases h
  rename_i h6
  rw [if_neg h6]
  refine ⟨by simpa using h2, h3, by simpa using h4, fun e => ?_, fun e => ?_, rfl⟩
  · cases hg : goodB (setP a t xs).2 1 with
    | true => rfl
    | false => exact absurd ⟨e, hg⟩ h5
  · cases hg : goodB (setP a t xs).2 3 with
    | true => rfl
    | false => exact absurd ⟨e, hg⟩ h6
set_option maxRecDepth 100000 in
theorem within_is {n m : Int} (h0 : 0 ≤ n) (hm : n ≤ m) : withinB n m = true := by
  unfold withinB
  simp [h0, hm]
set_option maxRecDepth 100000 in
theorem gz (a b : At) (t : Nat) (h1 : t ≠ 1 → b.origin = a.origin) (h2 : t ≠ 2 → b.path = a.path) (h3 : t ≠ 3 → b.hop = a.hop) (h4 : t ≠ 4 → b.med = a.med) (h5 : t ≠ 5 → b.loc = a.loc) (h7 : t ≠ 7 → b.aggrAs = a.aggrAs ∧ b.aggrId = a.aggrId) (h8 : t ≠ 8 → b.comms = a.comms) :
    ∀ u, u ≠ t → goodB b u = goodB a u ∧ zeroB b u = zeroB a u := by
  intro u hu
  match u, hu with
  | 0, _ => exact ⟨rfl, rfl⟩
  | 1, hu =>
    show withinB b.origin 2 = withinB a.origin 2 ∧ (b.origin == 0) = (a.origin == 0)
    rw [h1 hu.symm]; exact ⟨rfl, rfl⟩
  | 2, hu =>
    show pathB b.path = pathB a.path ∧ (((b.path.length : Nat) : Int) == 0) = (((a.path.length : Nat) : Int) == 0)
    rw [h2 hu.symm]; exact ⟨rfl, rfl⟩
  | 3, hu =>
    show hopB b.hop = hopB a.hop ∧ ((b.hop : Int) == 0) = ((a.hop : Int) == 0)
    rw [h3 hu.symm]; exact ⟨rfl, rfl⟩
  | 4, hu =>
    show withinB b.med 4294967295 = withinB a.med 4294967295 ∧ (b.med == 0) = (a.med == 0)
    rw [h4 hu.symm]; exact ⟨rfl, rfl⟩
  | 5, hu =>
    show withinB b.loc 4294967295 = withinB a.loc 4294967295 ∧ (b.loc == 0) = (a.loc == 0)
    rw [h5 hu.symm]; exact ⟨rfl, rfl⟩
  | 6, _ => exact ⟨rfl, rfl⟩
  | 7, hu =>
    show withinB b.aggrAs 65535 = withinB a.aggrAs 65535 ∧ ((b.aggrAs == 0) && ((b.aggrId : Int) == 0)) = ((a.aggrAs == 0) && ((a.aggrId : Int) == 0))
    rw [(h7 hu.symm).1, (h7 hu.symm).2]; exact ⟨rfl, rfl⟩
  | 8, hu =>
    show commsB b.comms = commsB a.comms ∧ (((b.comms.length : Nat) : Int) == 0) = (((a.comms.length : Nat) : Int) == 0)
    rw [h8 hu.symm]; exact ⟨rfl, rfl⟩
  | n + 9, _ => exact ⟨rfl, rfl⟩
set_option maxRecDepth 100000 in
/-- what was set is in its bounds; the rest is as it was. -/
theorem set_good {a : At} {t : Nat} {xs : List Nat} (h1 : 1 ≤ t) (h8 : t ≤ 8) (hx : ∀ x ∈ xs, x < 256) (hz : szBad t xs.length = false) (hc : ¬ (t = 8 ∧ xs.length / 4 > 256)) (hs : (setP a t xs).1 = true) (g1 : t = 1 → goodB (setP a t xs).2 1 = true) (g3 : t = 3 → goodB (setP a t xs).2 3 = true) :
    goodB (setP a t xs).2 t = true ∧ (∀ u, u ≠ t → goodB (setP a t xs).2 u = goodB a u ∧ zeroB (setP a t xs).2 u = zeroB a u) ∧ (setP a t xs).2.has = a.has ∧ (setP a t xs).2.others = a.others := by
  have r4 : xs.length = 4 → readN xs < 4294967296 := fun h => readN_four hx (by omega)
  obtain rfl | rfl | rfl | rfl | rfl | rfl | rfl | rfl := eight h1 h8
  · exact ⟨g1 rfl, gz _ _ 1 (fun h => absurd rfl h) (fun _ => rfl) (fun _ => rfl) (fun _ => rfl) (fun _ => rfl) (fun _ => ⟨rfl, rfl⟩) (fun _ => rfl), rfl, rfl⟩
  · unfold setP at hs ⊢
    simp only [show ¬ (2 : Nat) = 1 by decide, if_false, if_true] at hs ⊢
    cases hp : rdPath xs with
    | none => rw [hp] at hs; cases hs
    | some p =>
      rw [hp] at hs
      exact ⟨hs, gz _ _ 2 (fun _ => rfl) (fun h => absurd rfl h) (fun _ => rfl) (fun _ => rfl) (fun _ => rfl) (fun _ => ⟨rfl, rfl⟩) (fun _ => rfl), rfl, rfl⟩
  · exact ⟨g3 rfl, gz _ _ 3 (fun _ => rfl) (fun _ => rfl) (fun h => absurd rfl h) (fun _ => rfl) (fun _ => rfl) (fun _ => ⟨rfl, rfl⟩) (fun _ => rfl), rfl, rfl⟩
  · have hl : (xs.length : Int) = 4 := by simpa [szBad, sizL, bne] using hz
    have := r4 (by omega)
    exact ⟨within_is (n := (readN xs : Int)) (by omega) (by omega), gz _ _ 4 (fun _ => rfl) (fun _ => rfl) (fun _ => rfl) (fun h => absurd rfl h) (fun _ => rfl) (fun _ => ⟨rfl, rfl⟩) (fun _ => rfl), rfl, rfl⟩
  · have hl : (xs.length : Int) = 4 := by simpa [szBad, sizL, bne] using hz
    have := r4 (by omega)
    exact ⟨within_is (n := (readN xs : Int)) (by omega) (by omega), gz _ _ 5 (fun _ => rfl) (fun _ => rfl) (fun _ => rfl) (fun _ => rfl) (fun h => absurd rfl h) (fun _ => ⟨rfl, rfl⟩) (fun _ => rfl), rfl, rfl⟩
  · exact ⟨rfl, fun u hu => ⟨rfl, rfl⟩, rfl, rfl⟩
  · have h2 : readN (xs.take 2) < 65536 := by
      have := readN_two hx 0
      simpa using this
    exact ⟨within_is (n := (readN (xs.take 2) : Int)) (by omega) (by omega), gz _ _ 7 (fun _ => rfl) (fun _ => rfl) (fun _ => rfl) (fun _ => rfl) (fun _ => rfl) (fun h => absurd rfl h) (fun _ => rfl), rfl, rfl⟩
  · have hq : commsB (quN xs (xs.length / 4)) = true := by
      unfold commsB
      rw [quN_len]
      simp only [Bool.and_eq_true, decide_eq_true_eq, List.all_eq_true]
      refine ⟨fun x hx' => ?_, by omega⟩
      have := quN_rng hx _ x hx'
      exact within_is this.1 (by omega)
    exact ⟨hq, gz _ _ 8 (fun _ => rfl) (fun _ => rfl) (fun _ => rfl) (fun _ => rfl) (fun _ => rfl) (fun _ => ⟨rfl, rfl⟩) (fun h => absurd rfl h), rfl, rfl⟩
end Go.Proofs.YtohkbcdnlmjcjaaDoor

/-
  ATTRIBUTES: what Decode reads is right, plain: lengths; the invariant.
-/
namespace Go.Proofs.YtohkbcdnlmjcjaaDoor
open Go.RowKit

set_option maxRecDepth 100000 in
theorem rdPath_len : ∀ (n : Nat) (xs : List Nat) (p : List Sg), xs.length ≤ n → rdPath xs = some p → (pathL p).length = xs.length
  | _, [], p, _, h => by
    rw [rdPath_nil] at h
    obtain rfl := Option.some.inj h
    rfl
  | _, [x], p, _, h => by rw [rdPath_one] at h; cases h
  | 0, _ :: _ :: _, _, hn, _ => by simp at hn
  | n + 1, k :: m :: l, p, hn, h => by
    rw [rdPath_two] at h
    split at h
    · split at h
      · cases h
      · rename_i hl
        obtain ⟨q, hq, rfl⟩ := Option.map_eq_some_iff.1 h
        have ih := rdPath_len n (l.drop (2 * m)) q (by rw [List.length_drop]; simp at hn; omega) hq
        show (segL _ ++ pathL q).length = _
        rw [List.length_append, segL_len, ih, List.length_drop, prN_len]
        simp only [List.length_cons]
        omega
    · cases h
set_option maxRecDepth 100000 in
theorem val_read {a : At} {t : Nat} {xs : List Nat} (h1 : 1 ≤ t) (h8 : t ≤ 8) (hz : szBad t xs.length = false) (hs : (setP a t xs).1 = true) : (valL (setP a t xs).2 t).length = xs.length := by
  obtain rfl | rfl | rfl | rfl | rfl | rfl | rfl | rfl := eight h1 h8
  · have hl : (xs.length : Int) = 1 := by simpa [szBad, sizL, bne] using hz
    show (numB _ 1).length = _
    rw [numB_len]; omega
  · unfold setP at hs ⊢
    simp only [show ¬ (2 : Nat) = 1 by decide, if_false, if_true] at hs ⊢
    cases hp : rdPath xs with
    | none => rw [hp] at hs; cases hs
    | some p => exact rdPath_len _ xs p (Nat.le_refl _) hp
  · have hl : (xs.length : Int) = 4 := by simpa [szBad, sizL, bne] using hz
    show (numB _ 4).length = _
    rw [numB_len]; omega
  · have hl : (xs.length : Int) = 4 := by simpa [szBad, sizL, bne] using hz
    show (numB _ 4).length = _
    rw [numB_len]; omega
  · have hl : (xs.length : Int) = 4 := by simpa [szBad, sizL, bne] using hz
    show (numB _ 4).length = _
    rw [numB_len]; omega
  · have hl : xs = [] := by simpa [szBad, sizL, bne] using hz
    rw [hl]; rfl
  · have hl : (xs.length : Int) = 6 := by simpa [szBad, sizL, bne] using hz
    show (numB _ 2 ++ numB _ 4).length = _
    rw [List.length_append, numB_len, numB_len]; omega
  · have hl : xs.length % 4 = 0 := by simpa [szBad, sizL, bne] using hz
    show ((quN xs (xs.length / 4)).flatMap fun c => numB c 4).length = _
    rw [flat4_len, quN_len]; omega
set_option maxRecDepth 100000 in
/-- an attribute as it is written is no longer than as it was read. -/
theorem lay_le {ys v : List Nat} (hv : v.length = ((ys.take (cutN ys)).drop (fromN ys)).length) (hy : ∀ y ∈ ys, y < 256) (h2 : cutN ys ≤ ys.length) (fl t : Int) : (layL fl t v).length ≤ cutN ys := by
  have hl : v.length = cutN ys - fromN ys := by rw [hv, List.length_drop, List.length_take]; omega
  have hc : fromN ys ≤ cutN ys := by unfold cutN; omega
  have h3 : fromN ys = 3 → v.length ≤ 255 := fun h => by
    have : cutN ys = 3 + readN ((ys.take 3).drop 2) := by unfold cutN; rw [h]
    have hr := readN_lt (xs := (ys.take 3).drop 2) (fun y hy' => hy y (List.mem_of_mem_take (List.mem_of_mem_drop hy'))) _ (Nat.le_refl _)
    rw [List.take_length] at hr
    have h4 : ((ys.take 3).drop 2).length ≤ 1 := by rw [List.length_drop, List.length_take]; omega
    have h5 : 256 ^ ((ys.take 3).drop 2).length ≤ 256 ^ 1 := Nat.pow_le_pow_right (by decide) h4
    omega
  unfold layL
  by_cases h : 255 < v.length
  · rw [if_pos h]
    simp only [List.length_append, numB_len]
    rcases from_le ys with e | e
    · have := h3 e; omega
    · omega
  · rw [if_neg h]
    simp only [List.length_append, numB_len]
    rcases from_le ys with e | e <;> omega
/-- the sum of all lengths. -/
def lenOfE (a : At) : Nat := ((List.range' 1 8).map fun t => (knL a t).length).sum + (a.others.map fun o => (othL o).length).sum
set_option maxRecDepth 100000 in
theorem flat_sum {α : Type} (f : α → List Nat) : ∀ l : List α, (l.flatMap f).length = (l.map fun x => (f x).length).sum
  | [] => rfl
  | x :: l => by rw [List.flatMap_cons, List.length_append, flat_sum f l, List.map_cons, List.sum_cons]
set_option maxRecDepth 100000 in
theorem enc_len (a : At) : (encL a).length = lenOfE a := by
  unfold encL knsL lenOfE
  rw [List.length_append, flat_sum, flat_sum]
set_option maxRecDepth 100000 in
theorem sum_one {f g : Nat → Nat} {t : Nat} (h : ∀ u, u ≠ t → g u = f u) (h0 : f t = 0) : ∀ l : List Nat, l.Nodup → (l.map g).sum ≤ (l.map f).sum + g t
  | [], _ => by simp
  | x :: l, hn => by
    obtain ⟨n1, n2⟩ := List.nodup_cons.1 hn
    rw [List.map_cons, List.map_cons, List.sum_cons, List.sum_cons]
    by_cases e : x = t
    · subst e
      have : l.map g = l.map f := List.map_congr_left fun u hu => h u fun e => n1 (e ▸ hu)
      rw [this]; omega
    · have := sum_one h h0 l n2
      rw [h x e]; omega
end Go.Proofs.YtohkbcdnlmjcjaaDoor

/-
  ATTRIBUTES: what Decode reads is right, plain: the invariant.
-/
namespace Go.Proofs.YtohkbcdnlmjcjaaDoor
open Go.RowKit

set_option maxRecDepth 100000 in
theorem val_same (a b : At) (t : Nat) (h1 : t ≠ 1 → b.origin = a.origin) (h2 : t ≠ 2 → b.path = a.path) (h3 : t ≠ 3 → b.hop = a.hop) (h4 : t ≠ 4 → b.med = a.med) (h5 : t ≠ 5 → b.loc = a.loc) (h7 : t ≠ 7 → b.aggrAs = a.aggrAs ∧ b.aggrId = a.aggrId) (h8 : t ≠ 8 → b.comms = a.comms) :
    ∀ u, u ≠ t → valL b u = valL a u := by
  intro u hu
  unfold valL
  by_cases e1 : u = 1
  · subst e1; rw [if_pos rfl, if_pos rfl, h1 hu.symm]
  rw [if_neg e1, if_neg e1]
  by_cases e2 : u = 2
  · subst e2; rw [if_pos rfl, if_pos rfl, h2 hu.symm]
  rw [if_neg e2, if_neg e2]
  by_cases e3 : u = 3
  · subst e3; rw [if_pos rfl, if_pos rfl, h3 hu.symm]
  rw [if_neg e3, if_neg e3]
  by_cases e4 : u = 4
  · subst e4; rw [if_pos rfl, if_pos rfl, h4 hu.symm]
  rw [if_neg e4, if_neg e4]
  by_cases e5 : u = 5
  · subst e5; rw [if_pos rfl, if_pos rfl, h5 hu.symm]
  rw [if_neg e5, if_neg e5]
  by_cases e7 : u = 7
  · subst e7; rw [if_pos rfl, if_pos rfl, (h7 hu.symm).1, (h7 hu.symm).2]
  rw [if_neg e7, if_neg e7]
  by_cases e8 : u = 8
  · subst e8; rw [if_pos rfl, if_pos rfl, h8 hu.symm]
  rw [if_neg e8, if_neg e8]
set_option maxRecDepth 100000 in
theorem set_val {a : At} {t : Nat} {xs : List Nat} (h1 : 1 ≤ t) (h8 : t ≤ 8) : ∀ u, u ≠ t → valL (setP a t xs).2 u = valL a u := by
  obtain rfl | rfl | rfl | rfl | rfl | rfl | rfl | rfl := eight h1 h8
  · exact val_same _ _ 1 (fun h => absurd rfl h) (fun _ => rfl) (fun _ => rfl) (fun _ => rfl) (fun _ => rfl) (fun _ => ⟨rfl, rfl⟩) (fun _ => rfl)
  · unfold setP
    simp only [show ¬ (2 : Nat) = 1 by decide, if_false, if_true]
    cases rdPath xs with
    | none => exact val_same _ _ 2 (fun _ => rfl) (fun h => absurd rfl h) (fun _ => rfl) (fun _ => rfl) (fun _ => rfl) (fun _ => ⟨rfl, rfl⟩) (fun _ => rfl)
    | some p => exact val_same _ _ 2 (fun _ => rfl) (fun h => absurd rfl h) (fun _ => rfl) (fun _ => rfl) (fun _ => rfl) (fun _ => ⟨rfl, rfl⟩) (fun _ => rfl)
  · exact val_same _ _ 3 (fun _ => rfl) (fun _ => rfl) (fun h => absurd rfl h) (fun _ => rfl) (fun _ => rfl) (fun _ => ⟨rfl, rfl⟩) (fun _ => rfl)
  · exact val_same _ _ 4 (fun _ => rfl) (fun _ => rfl) (fun _ => rfl) (fun h => absurd rfl h) (fun _ => rfl) (fun _ => ⟨rfl, rfl⟩) (fun _ => rfl)
  · exact val_same _ _ 5 (fun _ => rfl) (fun _ => rfl) (fun _ => rfl) (fun _ => rfl) (fun h => absurd rfl h) (fun _ => ⟨rfl, rfl⟩) (fun _ => rfl)
  · exact fun u hu => rfl
  · exact val_same _ _ 7 (fun _ => rfl) (fun _ => rfl) (fun _ => rfl) (fun _ => rfl) (fun _ => rfl) (fun h => absurd rfl h) (fun _ => rfl)
  · exact val_same _ _ 8 (fun _ => rfl) (fun _ => rfl) (fun _ => rfl) (fun _ => rfl) (fun _ => rfl) (fun _ => ⟨rfl, rfl⟩) (fun h => absurd rfl h)
/-- what has been read is right. -/
structure Rt (a : At) (seen : List Nat) (n : Nat) : Prop where
  has : ∃ m : Nat, a.has = (m : Int) ∧ m < 512 ∧ m.testBit 0 = false ∧ ∀ t, 1 ≤ t → t ≤ 8 → (m.testBit t = true ↔ t ∈ seen)
  gd : ∀ t, 1 ≤ t → t ≤ 8 → (t ∈ seen → goodB a t = true) ∧ (t ∉ seen → zeroB a t = true)
  oth : ∀ o ∈ a.others, 9 ≤ o.1 ∧ o.1 ≤ 255 ∧ o.1.toNat ∈ seen
  apt : a.others.Pairwise (fun x y => x.1 ≠ y.1)
  len : lenOfE a ≤ n
set_option maxRecDepth 100000 in
theorem rt_start : Rt atO [] 0 := by
  refine ⟨⟨0, rfl, by decide, by decide, fun t _ _ => by simp⟩, fun t h1 h8 => ⟨fun h => by simp at h, fun _ => ?_⟩, fun o h => by simp [atO] at h, List.Pairwise.nil, ?_⟩
  · obtain rfl | rfl | rfl | rfl | rfl | rfl | rfl | rfl := eight h1 h8 <;> decide
  · decide +kernel
set_option maxRecDepth 100000 in
theorem Rt.known {a : At} {seen ys : List Nat} {n hd t : Nat} (h : Rt a seen n) (h1 : 1 ≤ t) (h8 : t ≤ 8) (hn : t ∉ seen) (hy : ∀ y ∈ ys, y < 256) (hcut : cutN ys ≤ ys.length) (hs : (takeP a hd t ((ys.take (cutN ys)).drop (fromN ys))).1 = 0) :
    Rt (takeP a hd t ((ys.take (cutN ys)).drop (fromN ys))).2 (t :: seen) (n + cutN ys) := by
  obtain ⟨hz, hc, ho, g1, g3, e⟩ := take_ok hs
  have hvy : ∀ x ∈ (ys.take (cutN ys)).drop (fromN ys), x < 256 := fun x hx => hy x (List.mem_of_mem_take (List.mem_of_mem_drop hx))
  obtain ⟨s1, s2, s3, s4⟩ := set_good h1 h8 hvy hz hc ho g1 g3
  have hv := val_read h1 h8 hz ho
  have hvs := set_val (a := a) (xs := (ys.take (cutN ys)).drop (fromN ys)) h1 h8
  have hle := lay_le hv hy hcut
  rw [e]
  generalize (setP a t ((ys.take (cutN ys)).drop (fromN ys))).2 = S at s1 s2 s3 s4 hvs hle
  obtain ⟨m, m1, m2, m3, m4⟩ := h.has
  have hp : 2 ^ t < 512 := Nat.lt_of_le_of_lt (Nat.pow_le_pow_right (by decide) h8) (by decide)
  obtain ⟨o1, o2⟩ := or_nat m2 hp
  have eh : bits .or .i64 S.has (2 ^ t) = ((m ||| 2 ^ t : Nat) : Int) := by
    rw [s3, m1, ← o1]; push_cast; rfl
  rw [eh]
  have tb : ∀ u, (m ||| 2 ^ t).testBit u = (m.testBit u || decide (t = u)) := fun u => by rw [Nat.testBit_or, Nat.testBit_two_pow]
  refine ⟨⟨m ||| 2 ^ t, rfl, o2, by rw [tb, m3, decide_eq_false (by omega)]; rfl, fun u u1 u8 => ?_⟩, fun u u1 u8 => ?_, fun o hm => ?_, ?_, ?_⟩
  · rw [tb, Bool.or_eq_true, decide_eq_true_eq, m4 u u1 u8, List.mem_cons]
    constructor
    · rintro (h | h)
      · exact .inr h
      · exact .inl h.symm
    · rintro (h | h)
      · exact .inr h.symm
      · exact .inl h
  · have eg : ∀ x : Int, goodB { S with has := x } u = goodB S u ∧ zeroB { S with has := x } u = zeroB S u := fun x => ⟨rfl, rfl⟩
    rw [(eg _).1, (eg _).2]
    by_cases hu : u = t
    · subst hu
      exact ⟨fun _ => s1, fun hh => absurd List.mem_cons_self hh⟩
    · rw [(s2 u hu).1, (s2 u hu).2]
      obtain ⟨i1, i2⟩ := h.gd u u1 u8
      refine ⟨fun hm => i1 ?_, fun hm => i2 fun hh => hm (List.mem_cons_of_mem _ hh)⟩
      rcases List.mem_cons.1 hm with e | hh
      · exact absurd e hu
      · exact hh
  · have := h.oth o (by rw [← s4]; exact hm)
    exact ⟨this.1, this.2.1, List.mem_cons_of_mem _ this.2.2⟩
  · show S.others.Pairwise _
    rw [s4]; exact h.apt
  · have hl := h.len
    unfold lenOfE at hl ⊢
    have nb : isB a.has (t : Int) = false := by
      rw [m1, is_nat m t h1 h8]
      cases hb : m.testBit t with
      | false => rfl
      | true => exact absurd ((m4 t h1 h8).1 hb) hn
    have k0 : (knL a t).length = 0 := by unfold knL; rw [nb]; rfl
    have k1 : (knL { S with has := ((m ||| 2 ^ t : Nat) : Int) } t).length ≤ cutN ys := by
      unfold knL
      split
      · exact hle _ _
      · simp
    have ks : ∀ u, u ≠ t → (knL { S with has := ((m ||| 2 ^ t : Nat) : Int) } u).length = (knL a u).length := by
      intro u hu
      unfold knL
      have ev : valL { S with has := ((m ||| 2 ^ t : Nat) : Int) } u = valL a u := hvs u hu
      have eb : isB ((m ||| 2 ^ t : Nat) : Int) (u : Int) = isB a.has (u : Int) := by
        rw [m1]
        unfold isB
        rw [Int.toNat_natCast, bit_nat, bit_nat, tb, decide_eq_false (fun e => hu e.symm), Bool.or_false]
      show (if isB ((m ||| 2 ^ t : Nat) : Int) (u : Int) = true then layL (flgL.getD u 0) u (valL { S with has := ((m ||| 2 ^ t : Nat) : Int) } u) else ([] : List Nat)).length = _
      rw [eb, ev]
    have key := sum_one (f := fun u => (knL a u).length) (g := fun u => (knL { S with has := ((m ||| 2 ^ t : Nat) : Int) } u).length) ks k0 (List.range' 1 8) (List.nodup_range' (step := 1))
    have eo : (S.others.map fun o => (othL o).length).sum = (a.others.map fun o => (othL o).length).sum := by rw [s4]
    show ((List.range' 1 8).map fun u => (knL { S with has := ((m ||| 2 ^ t : Nat) : Int) } u).length).sum + (S.others.map fun o => (othL o).length).sum ≤ n + cutN ys
    rw [eo]
    exact Nat.le_trans (Nat.add_le_add_right (Nat.le_trans key (Nat.add_le_add_left k1 _)) _) (by omega)
end Go.Proofs.YtohkbcdnlmjcjaaDoor

/-
  ATTRIBUTES: what Decode reads is right, plain: all of it.
-/
namespace Go.Proofs.YtohkbcdnlmjcjaaDoor
open Go.RowKit

set_option maxRecDepth 100000 in
theorem known_nat {m : Nat} (h : m < 512) (h0 : m.testBit 0 = false) : knownM (m : Int) = true := by
  have : ∀ i : Fin 512, (i.val.testBit 0 = false → knownM (i.val : Int) = true) := by decide +kernel
  exact this ⟨m, h⟩ h0
set_option maxRecDepth 100000 in
theorem Rt.more {a : At} {seen : List Nat} {n k t : Nat} (h : Rt a seen n) (ht : ¬ (1 ≤ t ∧ t ≤ 8)) : Rt a (t :: seen) (n + k) := by
  obtain ⟨m, m1, m2, m3, m4⟩ := h.has
  have hm : ∀ u, 1 ≤ u → u ≤ 8 → (u ∈ t :: seen ↔ u ∈ seen) := fun u u1 u8 => by
    rw [List.mem_cons]
    exact ⟨fun e => e.resolve_left fun e => ht (by omega), .inr⟩
  exact ⟨⟨m, m1, m2, m3, fun u u1 u8 => (m4 u u1 u8).trans (hm u u1 u8).symm⟩, fun u u1 u8 => ⟨fun e => (h.gd u u1 u8).1 ((hm u u1 u8).1 e), fun e => (h.gd u u1 u8).2 fun f => e ((hm u u1 u8).2 f)⟩,
    fun o ho => ⟨(h.oth o ho).1, (h.oth o ho).2.1, List.mem_cons_of_mem _ (h.oth o ho).2.2⟩, h.apt, Nat.le_trans h.len (Nat.le_add_right _ _)⟩
set_option maxRecDepth 100000 in
theorem Rt.other {a : At} {seen ys : List Nat} {n hd t : Nat} (h : Rt a seen n) (ht : ¬ (1 ≤ t ∧ t ≤ 8)) (hn : t ∉ seen) (h256 : t < 256) (hy : ∀ y ∈ ys, y < 256) (hcut : cutN ys ≤ ys.length) :
    Rt (othP a hd t ((ys.take (cutN ys)).drop (fromN ys))).2 (t :: seen) (n + cutN ys) := by
  have hm := h.more (k := 0) ht
  unfold othP
  split
  · exact h.more ht
  split
  · rename_i h2
    simp only [Bool.and_eq_true, bne_iff_ne, ne_eq] at h2
    have t0 := h2.2
    have hle := lay_le (v := (ys.take (cutN ys)).drop (fromN ys)) rfl hy hcut 224 (t : Int)
    refine ⟨hm.has, hm.gd, fun o ho => ?_, ?_, ?_⟩
    · rcases List.mem_append.1 ho with ho | ho
      · exact hm.oth o ho
      · rw [List.mem_singleton.1 ho]
        refine ⟨by simp only; omega, by simp only; omega, ?_⟩
        show ((t : Int)).toNat ∈ _
        rw [Int.toNat_natCast]; exact List.mem_cons_self
    · show (a.others ++ [_]).Pairwise _
      rw [List.pairwise_append]
      refine ⟨h.apt, List.pairwise_singleton _ _, fun x hx y hy' => ?_⟩
      rw [List.mem_singleton.1 hy']
      intro e
      have := (h.oth x hx).2.2
      simp only at e
      rw [e, Int.toNat_natCast] at this
      exact hn this
    · have hl := h.len
      unfold lenOfE at hl ⊢
      show ((List.range' 1 8).map fun u => (knL a u).length).sum + ((a.others ++ [((t : Int), (ys.take (cutN ys)).drop (fromN ys))]).map fun o => (othL o).length).sum ≤ n + cutN ys
      rw [List.map_append, List.sum_append]
      have e : ([((t : Int), (ys.take (cutN ys)).drop (fromN ys))].map fun o : Oth => (othL o).length).sum = (layL 224 (t : Int) ((ys.take (cutN ys)).drop (fromN ys))).length := by simp [othL]
      rw [e]
      omega
  · exact h.more ht
set_option maxRecDepth 100000 in
/-- Decode's attributes are right. -/
theorem decP_right : ∀ (k : Nat) (a : At) (seen ys : List Nat) (n : Nat), ys.length ≤ k → Rt a seen n → (∀ y ∈ ys, y < 256) → (decP a seen ys).1 = 0 → ∃ seen', Rt (decP a seen ys).2 seen' (n + ys.length)
  | k, a, seen, [], n, _, h, _, _ => by rw [decP_nil]; exact ⟨seen, h⟩
  | 0, _, _, _ :: _, _, hk, _, _, _ => by simp at hk
  | k + 1, a, seen, y :: zs, n, hk, h, hy, hd => by
    have hne : y :: zs ≠ [] := by simp
    obtain ⟨ys, hys⟩ : ∃ ys, y :: zs = ys := ⟨_, rfl⟩
    rw [hys] at hk hy hd hne ⊢
    by_cases hb : ys.length < fromN ys ∨ ys.length < cutN ys ∨ ys.getD 1 0 ∈ seen
    · rw [decP_bad hne hb] at hd; cases hd
    · by_cases hs : (decStep a ys).1 = 0
      · rw [decP_next hne hb hs] at hd ⊢
        have hc : cutN ys ≤ ys.length := by omega
        have c3 := cut_ge ys
        have hn : ys.getD 1 0 ∉ seen := fun h => hb (.inr (.inr h))
        have ht : ys.getD 1 0 < 256 := by
          rw [List.getD_eq_getElem?_getD, List.getElem?_eq_getElem (show 1 < ys.length by omega)]
          exact hy _ (List.getElem_mem ..)
        have hR : Rt (decStep a ys).2 (ys.getD 1 0 :: seen) (n + cutN ys) := by
          unfold decStep at hs ⊢
          by_cases hk8 : 1 ≤ ys.getD 1 0 ∧ ys.getD 1 0 ≤ 8
          · rw [if_pos hk8] at hs ⊢
            exact h.known hk8.1 hk8.2 hn hy hc hs
          · rw [if_neg hk8] at hs ⊢
            exact h.other hk8 hn ht hy hc
        obtain ⟨seen', hf⟩ := decP_right k _ _ (ys.drop (cutN ys)) _ (by rw [List.length_drop]; omega) hR (fun x hx => hy x (List.mem_of_mem_drop hx)) hd
        refine ⟨seen', ?_⟩
        rw [List.length_drop] at hf
        rw [show n + cutN ys + (ys.length - cutN ys) = n + ys.length by omega] at hf
        exact hf
      · rw [decP_fault hne hb hs] at hd
        exact absurd hd hs
set_option maxRecDepth 100000 in
/-- a right answer, its others in order, passes. -/
theorem rt_check {a : At} {seen : List Nat} {n : Nat} (h : Rt a seen n) {os : List Oth} (hp : os.Perm a.others) (hs : os.Pairwise (fun x y => x.1 ≤ y.1)) : checkB { a with others := os } = true ∧ (encL { a with others := os }).length ≤ n := by
  obtain ⟨m, m1, m2, m3, m4⟩ := h.has
  have apt : os.Pairwise (fun x y => x.1 ≠ y.1) := (hp.pairwise_iff (fun {x y} e => Ne.symm e)).2 h.apt
  have srt : os.Pairwise (fun x y => x.1 < y.1) := by
    have := hs.and apt
    exact this.imp fun {x y} e => by omega
  have rng : ∀ o ∈ os, 8 < o.1 ∧ o.1 ≤ 255 := fun o ho => by have := h.oth o (hp.mem_iff.1 ho); omega
  have oth : ∀ (os : List Oth) (l : Int), (∀ o ∈ os, l < o.1 ∧ o.1 ≤ 255) → os.Pairwise (fun x y => x.1 < y.1) → othB l os = true := by
    intro os
    induction os with
    | nil => intro l _ _; rfl
    | cons o os ih =>
      intro l h1 h2
      obtain ⟨p1, p2⟩ := List.pairwise_cons.1 h2
      unfold othB
      have := h1 o List.mem_cons_self
      rw [ih o.1 (fun x hx => ⟨p1 x hx, (h1 x (List.mem_cons_of_mem _ hx)).2⟩) p2]
      simp [this.1, this.2]
  refine ⟨?_, ?_⟩
  · unfold checkB
    rw [Bool.and_eq_true, Bool.and_eq_true]
    refine ⟨?_, List.all_eq_true.2 fun t ht => ?_, oth os 8 rng srt⟩
    · show knownM a.has = true
      rw [m1]
      exact known_nat m2 m3
    · obtain ⟨t1, t9⟩ := List.mem_range'_1.1 ht
      have t8 : t ≤ 8 := by omega
      have e : okT { a with others := os } t = (if isB a.has (t : Nat) then goodB a t else zeroB a t) := rfl
      rw [e, m1, is_nat m t t1 t8]
      obtain ⟨g1, g2⟩ := h.gd t t1 t8
      by_cases hb : m.testBit t = true
      · rw [if_pos hb]; exact g1 ((m4 t t1 t8).1 hb)
      · rw [if_neg hb]; exact g2 fun hh => hb ((m4 t t1 t8).2 hh)
  · rw [enc_len]
    have e : lenOfE { a with others := os } = lenOfE a := by
      unfold lenOfE
      have : (os.map fun o => (othL o).length).sum = (a.others.map fun o => (othL o).length).sum := (hp.map _).sum_nat
      show ((List.range' 1 8).map fun t => (knL a t).length).sum + (os.map fun o => (othL o).length).sum = _
      rw [this]
    rw [e]; exact h.len
set_option maxRecDepth 100000 in
theorem takeP_code (a : At) (hd t : Nat) (xs : List Nat) : (takeP a hd t xs).1 ≤ 11 := by
  unfold takeP
  repeat' split
  all_goals simp
set_option maxRecDepth 100000 in
theorem othP_code (a : At) (hd t : Nat) (xs : List Nat) : (othP a hd t xs).1 ≤ 11 := by
  unfold othP
  repeat' split
  all_goals simp
set_option maxRecDepth 100000 in
theorem decP_code : ∀ (k : Nat) (a : At) (seen ys : List Nat), ys.length ≤ k → (decP a seen ys).1 ≤ 11
  | k, a, seen, [], _ => by rw [decP_nil]; simp
  | 0, _, _, _ :: _, hk => by simp at hk
  | k + 1, a, seen, y :: zs, hk => by
    have hne : y :: zs ≠ [] := by simp
    obtain ⟨ys, hys⟩ : ∃ ys, y :: zs = ys := ⟨_, rfl⟩
    rw [hys] at hk hne ⊢
    by_cases hb : ys.length < fromN ys ∨ ys.length < cutN ys ∨ ys.getD 1 0 ∈ seen
    · rw [decP_bad hne hb]; simp
    · by_cases hs : (decStep a ys).1 = 0
      · rw [decP_next hne hb hs]
        have c3 := cut_ge ys
        have : 0 < ys.length := List.length_pos_iff.2 hne
        exact decP_code k _ _ _ (by rw [List.length_drop]; omega)
      · rw [decP_fault hne hb hs]
        unfold decStep
        split
        · exact takeP_code ..
        · exact othP_code ..
end Go.Proofs.YtohkbcdnlmjcjaaDoor

/-
  ATTRIBUTES: what is right is no larger than its bytes, plain.
-/
namespace Go.Proofs.YtohkbcdnlmjcjaaDoor
open Go.RowKit

set_option maxRecDepth 100000 in
theorem lay_ge (fl t : Int) (v : List Nat) : v.length + 3 ≤ (layL fl t v).length := by
  unfold layL
  split <;> simp only [List.length_append, numB_len] <;> omega
set_option maxRecDepth 100000 in
theorem flat_le {α : Type} {f : α → List Nat} {l : List α} {x : α} (h : x ∈ l) : (f x).length ≤ (l.flatMap f).length := by
  induction l with
  | nil => simp at h
  | cons y l ih =>
    rw [List.flatMap_cons, List.length_append]
    rcases List.mem_cons.1 h with rfl | h
    · omega
    · have := ih h; omega
set_option maxRecDepth 100000 in
theorem flat_count {α : Type} {f : α → List Nat} : ∀ {l : List α}, (∀ x ∈ l, 1 ≤ (f x).length) → l.length ≤ (l.flatMap f).length
  | [], _ => by simp
  | x :: l, h => by
    have h1 := h x List.mem_cons_self
    have h2 := flat_count (l := l) fun y hy => h y (List.mem_cons_of_mem _ hy)
    rw [List.flatMap_cons, List.length_append, List.length_cons]
    omega
set_option maxRecDepth 100000 in
theorem enc_val {a : At} {t : Nat} (h1 : 1 ≤ t) (h8 : t ≤ 8) (hi : isB a.has t = true) : (valL a t).length ≤ (encL a).length := by
  have h2 : (knL a t).length ≤ (knsL a 8).length := flat_le (List.mem_range'_1.2 ⟨h1, by omega⟩)
  have h3 : (valL a t).length + 3 ≤ (knL a t).length := by unfold knL; rw [if_pos hi]; exact lay_ge _ _ _
  unfold encL
  rw [List.length_append]
  omega
set_option maxRecDepth 100000 in
theorem enc_oths (a : At) : a.others.length ≤ (encL a).length ∧ ∀ o ∈ a.others, o.2.length ≤ (encL a).length := by
  have e : (encL a).length = (knsL a 8).length + (a.others.flatMap othL).length := by unfold encL; rw [List.length_append]
  constructor
  · have := flat_count (f := othL) (l := a.others) fun o _ => by have := lay_ge 224 o.1 o.2; unfold othL; omega
    omega
  · intro o ho
    have h1 := flat_le (f := othL) ho
    have h2 := lay_ge 224 o.1 o.2
    unfold othL at h1
    have : (a.others.flatMap othL).length = (a.others.flatMap fun o => layL 224 o.1 o.2).length := rfl
    omega
set_option maxRecDepth 100000 in
theorem enc_path {a : At} (hc : checkB a = true) : a.path.length ≤ (encL a).length ∧ ∀ s ∈ a.path, s.2.length ≤ (encL a).length := by
  cases hi : isB a.has ((2 : Nat) : Int) with
  | true =>
    have hv := enc_val (a := a) (t := 2) (by decide) (by decide) hi
    have e : valL a 2 = pathL a.path := rfl
    rw [e] at hv
    constructor
    · have := flat_count (f := segL) (l := a.path) fun s _ => by rw [segL_len]; omega
      unfold pathL at hv
      omega
    · intro s hs
      have := flat_le (f := segL) hs
      rw [segL_len] at this
      unfold pathL at hv
      omega
  | false =>
    have := check_ok hc (t := 2) (by decide) (by decide)
    unfold okT at this
    rw [hi] at this
    have hz : zeroB a 2 = true := this
    have hp : a.path = [] := by simpa [zeroB] using hz
    rw [hp]
    exact ⟨by simp, fun s hs => by simp at hs⟩
set_option maxRecDepth 100000 in
theorem enc_comms {a : At} (hc : checkB a = true) : a.comms.length ≤ (encL a).length := by
  cases hi : isB a.has ((8 : Nat) : Int) with
  | true =>
    have hv := enc_val (a := a) (t := 8) (by decide) (by decide) hi
    have e : (valL a 8).length = 4 * a.comms.length := flat4_len _
    omega
  | false =>
    have := check_ok hc (t := 8) (by decide) (by decide)
    unfold okT at this
    rw [hi] at this
    have hz : zeroB a 8 = true := this
    have hp : a.comms = [] := by simpa [zeroB] using hz
    rw [hp]; simp
end Go.Proofs.YtohkbcdnlmjcjaaDoor

/-
  ATTRIBUTES: the document's example.
-/
namespace Go.Proofs.YtohkbcdnlmjcjaaDoor
open Go.RowKit

set_option maxRecDepth 100000 in
theorem lit_bytes {w : World} {g : Nat} {T : TypeId} {C : List Nat} (q : w.heap[g]? = some (.cells (C.map fun (x : Nat) => Value.int .u8 (x : Int)).toArray T (0, 0))) (hC : ∀ x ∈ C, x < 256) (hl : C.length ≤ maxLen) : BytesAt w (.slice (some ⟨g, 0, none⟩) C.length C.length) C := by
  refine ⟨_, _, rfl, Nat.le_refl _, hl, fun _ => ⟨g, 0, rfl, fun i x hx => ⟨[.int .u8 x], rfl, ⟨rfl, hC x (List.mem_of_getElem? hx)⟩, fun j c hc => ?_⟩⟩⟩
  match j, hc with
  | 0, hc =>
    simp at hc; subst hc
    rw [row_cell q]
    simp [hx]
  | j + 1, hc => simp at hc
set_option maxRecDepth 100000 in
theorem flt_eql (w : World) : (binOp .eql 54 (.agg fltZ) (.agg fltZ)).run Tryd.prog w = .ok (.bool true) w := by kernel_rfl
set_option maxRecDepth 100000 in
theorem box_more (w : World) (C : Array Value) (T : TypeId) (Z : Array Value) (U : TypeId) : ∃ W0, W0 = (w.alloc (.cells C T)).alloc (.cells Z U) ∧ W0.heap[w.heap.size]? = some (.cells C T (0, 0)) ∧ W0.heap[w.heap.size + 1]? = some (.cells Z U (0, 0)) ∧ Below w.heap.size w W0 := boxTwo w C T Z U
set_option maxHeartbeats 6400000 in
set_option maxRecDepth 100000 in
theorem law_head (w : World) (hT : Tabs w) : Calls Tryd.prog 7 #[] w fun e w' => e = .returned (.bool true) ∧ Below w.heap.size w w' := by
  have HT := Lib.hid hT
  clear hT
  go_enter Tryd.func7, Tryd.ntmps7
  go_wp2_with fail
  obtain ⟨W1, hW1, q1, hb1, hs1⟩ := box1 w #[.int .u8 64, .int .u8 1, .int .u8 1, .int .u8 2] 5
  rw [← hW1]
  clear hW1
  have I1 : BytesAt W1 (.slice (some ⟨w.heap.size, 0, none⟩) 4 4) [64, 1, 1, 2] := lit_bytes (C := [64, 1, 1, 2]) q1 (by decide) (by decide)
  have B1 := Lib.hid hb1
  refine (dec_two w.heap.size W1 (HT.out.below hb1) (by omega) I1).mono ?_
  rintro e w2 ⟨rfl, hb2⟩
  have B2 := Lib.hid (below_on B1.out hb2)
  clear q1 hb1 hs1 I1 hb2 B1
  go_upto_region 2 with (fail)
  obtain ⟨W3, hW3, qa, qf, hb3⟩ := box_more w2 at22 28 fltZ 54
  rw [← hW3]
  clear hW3
  have B3 := Lib.hid (below_on B2.out hb3)
  have QA := Lib.hid qa
  have QF := Lib.hid qf
  clear qa qf hb3 B2
  generalize w2.heap.size = ab at QA QF ⊢
  go_wp2_with fail
  obtain ⟨W4, hW4, q4, hb4, hs4⟩ := box1 W3 #[.int .u8 64, .int .u8 1, .int .u8 1, .int .u8 3] 5
  rw [← hW4]
  clear hW4
  have I4 : BytesAt W4 (.slice (some ⟨W3.heap.size, 0, none⟩) 4 4) [64, 1, 1, 3] := lit_bytes (C := [64, 1, 1, 3]) q4 (by decide) (by decide)
  have B4 := Lib.hid (below_on B3.out hb4)
  have QA4 := Lib.hid ((hb4.block _ (row_lt QA.out)).trans QA.out)
  have QF4 := Lib.hid ((hb4.block _ (row_lt QF.out)).trans QF.out)
  refine (dec_three W3.heap.size W4 (HT.out.below B4.out) (by omega) I4).mono ?_
  rintro e w5 ⟨⟨st, rfl⟩, hb5⟩
  have B5 := Lib.hid (below_on B4.out hb5)
  have QA5 := Lib.hid ((hb5.block _ (row_lt QA4.out)).trans QA4.out)
  have QF5 := Lib.hid ((hb5.block _ (row_lt QF4.out)).trans QF4.out)
  clear q4 hb4 hs4 I4 hb5 B4 QA QF QA4 QF4 B3
  go_upto_region 3 with (fail)
  obtain ⟨W6, hW6, qg, qh, hb6⟩ := box_more w5 atZ6 28 #[.int .i64 3, .int .i64 6, .string st] 54
  rw [← hW6]
  clear hW6
  have B6 := Lib.hid (below_on B5.out hb6)
  have QA6 := Lib.hid ((hb6.block _ (row_lt QA5.out)).trans QA5.out)
  have QF6 := Lib.hid ((hb6.block _ (row_lt QF5.out)).trans QF5.out)
  have QH := Lib.hid qh
  clear qg qh hb6 B5 QA5 QF5
  generalize w5.heap.size = gb at QH ⊢
  obtain ⟨y0, y1, y2, y3, y4, y5, y6, y7, y8, y9⟩ := at10 QA6.out
  have f0 := row_cell QF6.out 0
  have f1 := row_cell QF6.out 1
  have f2 := row_cell QF6.out 2
  have EQ := flt_eql W6
  have IS := Lib.hid (at_Is 2 (.int .i64 2) (.slice none 0 0) (.int .u32 0) (.int .i64 0) (.int .i64 0) (.int .i64 0) (.int .u32 0) (.slice none 0 0) (.slice none 0 0) 1 W6)
  rw [show isB 2 1 = true by decide +kernel] at IS
  go_wp2_with fail
  refine IS.out.mono ?_
  rintro e w7 ⟨rfl, hb7⟩
  have y1 := cell_below y1 hb7
  have h0 := cell_below (row_cell QH.out 0) hb7
  have h1 := cell_below (row_cell QH.out 1) hb7
  have B7 := Lib.hid (below_on B6.out hb7)
  clear hb7 y0 y2 y3 y4 y5 y6 y7 y8 y9 f0 f1 f2 EQ IS
  replace h0 : w7.cell? ⟨gb + 1, 0, none⟩ = some (.int .i64 3) := h0
  replace h1 : w7.cell? ⟨gb + 1, 1, none⟩ = some (.int .i64 6) := h1
  go_wp2_with fail
  go_ret
  exact ⟨rfl, B7.out⟩
end Go.Proofs.YtohkbcdnlmjcjaaDoor
