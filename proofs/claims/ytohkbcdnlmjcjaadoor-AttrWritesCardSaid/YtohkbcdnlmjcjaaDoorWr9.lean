/- Texts of one proof, one behind another. -/
import Derived.Test.YtohkbcdnlmjcjaaDoorWr6
import Derived.Test.YtohkbcdnlmjcjaaDoorWr2
import Derived.Test.YtohkbcdnlmjcjaaDoorWr8
import Derived.Test.YtohkbcdnlmjcjaaDoorWr1
import Derived.Test.YtohkbcdnlmjcjaaDoorWr4
import Derived.LoopTactic
import Derived.OwnWalk
import Derived.Deep.DeepCutAuto
import Derived.LoopN
/-
  ATTRIBUTES: what Encode writes, plain: bounds; value of any kind that is there.
-/
namespace Go.Proofs.YtohkbcdnlmjcjaaDoor
open Go.RowKit

/-- a known attribute's bytes, if it is there. -/
def knL (a : At) (t : Nat) : List Nat := if isB a.has t then layL (flgL.getD t 0) t (valL a t) else []
def knsL (a : At) (n : Nat) : List Nat := (List.range' 1 n).flatMap (knL a)
def othL (o : Oth) : List Nat := layL 224 o.1 o.2
/-- all attributes' bytes. -/
def encL (a : At) : List Nat := knsL a 8 ++ a.others.flatMap othL
def encI (a : At) : Int := if checkB a then if a.others.all (fun o => decide (o.2.length ≤ 4096)) then if (encL a).length ≤ 4096 then 0 else 6 else 6 else 1
set_option maxRecDepth 100000 in
theorem knsL_succ (a : At) (n : Nat) : knsL a (n + 1) = knsL a n ++ knL a (n + 1) := by
  unfold knsL
  rw [List.range'_1_concat, List.flatMap_append, Nat.add_comm 1 n]
  simp
set_option maxRecDepth 100000 in
theorem check_ok {a : At} (h : checkB a = true) {t : Nat} (h1 : 1 ≤ t) (h8 : t ≤ 8) : okT a t = true := by
  unfold checkB at h
  simp only [Bool.and_eq_true] at h
  exact List.all_eq_true.1 h.2.1 t (by rw [List.mem_range'_1]; omega)
set_option maxRecDepth 100000 in
theorem check_oth {a : At} (h : checkB a = true) : othB 8 a.others = true := by
  unfold checkB at h
  simp only [Bool.and_eq_true] at h
  exact h.2.2
set_option maxRecDepth 100000 in
theorem check_segs {a : At} (h : checkB a = true) (hi : isB a.has (2 : Nat) = true) : ∀ s ∈ a.path, 1 ≤ s.2.length ∧ s.2.length ≤ 255 ∧ s.2.all asB = true := by
  have := check_ok h (t := 2) (by decide) (by decide)
  unfold okT at this
  rw [hi] at this
  have h2 : pathB a.path = true := this
  unfold pathB at h2
  rw [List.all_eq_true] at h2
  intro s hs
  have := h2 s hs
  unfold segB at this
  simp only [Bool.and_eq_true, decide_eq_true_eq] at this
  exact ⟨this.1.1, this.1.2, this.2⟩
set_option maxRecDepth 100000 in
theorem check_comms {a : At} (h : checkB a = true) (hi : isB a.has (8 : Nat) = true) : commsB a.comms = true := by
  have := check_ok h (t := 8) (by decide) (by decide)
  unfold okT at this
  rw [hi] at this
  exact this
set_option maxRecDepth 100000 in
theorem comms_len {c : List Int} (h : commsB c = true) : c.length ≤ 256 := by
  unfold commsB at h
  simp only [Bool.and_eq_true, decide_eq_true_eq] at h
  exact h.2
set_option maxRecDepth 100000 in
theorem val_len {a : At} (h : checkB a = true) (hp : a.path.length ≤ 65536) {t : Nat} (hi : isB a.has t = true) : (valL a t).length ≤ 33554432 := by
  unfold valL
  split
  · rw [numB_len]; decide
  split
  · rename_i h2
    subst h2
    have hs := check_segs h hi
    have := pathL_le (p := a.path) (m := 512) (fun s hx => by have := (hs s hx).2.1; omega) a.path.length
    rw [List.take_length] at this
    omega
  split
  · rw [numB_len]; decide
  split
  · rw [numB_len]; decide
  split
  · rw [numB_len]; decide
  split
  · rw [List.length_append, numB_len, numB_len]; decide
  split
  · rename_i h8
    subst h8
    have hc := comms_len (check_comms h hi)
    have := flatM_len (fun c : Int => numB c 4) 4 a.comms (fun x _ => by rw [numB_len]; exact Nat.le_refl _)
    omega
  · simp
set_option maxRecDepth 100000 in
theorem lay_len (fl t : Int) (ys : List Nat) : (layL fl t ys).length ≤ ys.length + 4 := by
  unfold layL
  split <;> simp only [List.length_append, numB_len] <;> omega
set_option maxRecDepth 100000 in
theorem kn_len {a : At} (h : checkB a = true) (hp : a.path.length ≤ 65536) (t : Nat) : (knL a t).length ≤ 33554436 := by
  unfold knL
  split
  · rename_i hi
    have := lay_len (flgL.getD t 0) t (valL a t)
    have := val_len h hp hi
    omega
  · simp
set_option maxRecDepth 100000 in
theorem kns_len {a : At} (h : checkB a = true) (hp : a.path.length ≤ 65536) : ∀ n, (knsL a n).length ≤ n * 33554436
  | 0 => by simp [knsL]
  | n + 1 => by
    have := kns_len h hp n
    have := kn_len h hp (n + 1)
    rw [knsL_succ, List.length_append]
    omega
set_option maxRecDepth 100000 in
theorem oths_len {os : List Oth} (h : ∀ o ∈ os, o.2.length ≤ 4096) : (os.flatMap othL).length ≤ os.length * 4100 :=
  flatM_len othL 4100 os fun o ho => by
    have := lay_len 224 o.1 o.2
    have := h o ho
    unfold othL
    omega
set_option maxRecDepth 100000 in
theorem flat_lt {α : Type} {f : α → List Nat} {l : List α} (h : ∀ x ∈ l, ∀ y ∈ f x, y < 256) : ∀ y ∈ l.flatMap f, y < 256 := by
  intro y hy
  obtain ⟨x, hx, hy⟩ := List.mem_flatMap.1 hy
  exact h x hx y hy
set_option maxRecDepth 100000 in
theorem app_lt {l k : List Nat} (h : ∀ y ∈ l, y < 256) (h2 : ∀ y ∈ k, y < 256) : ∀ y ∈ l ++ k, y < 256 := by
  intro y hy
  rcases List.mem_append.1 hy with hy | hy
  · exact h y hy
  · exact h2 y hy
set_option maxRecDepth 100000 in
theorem val_lt (a : At) (t : Nat) : ∀ y ∈ valL a t, y < 256 := by
  unfold valL
  split
  · exact numB_lt _ _
  split
  · exact flat_lt fun s _ => app_lt (numB_lt _ _) (app_lt (numB_lt _ _) (flat_lt fun n _ => numB_lt _ _))
  split
  · exact numB_lt _ _
  split
  · exact numB_lt _ _
  split
  · exact numB_lt _ _
  split
  · exact app_lt (numB_lt _ _) (numB_lt _ _)
  split
  · exact flat_lt fun n _ => numB_lt _ _
  · simp
set_option maxRecDepth 100000 in
theorem lay_lt (fl t : Int) {ys : List Nat} (h : ∀ y ∈ ys, y < 256) : ∀ y ∈ layL fl t ys, y < 256 := by
  unfold layL
  split
  · exact app_lt (numB_lt _ _) (app_lt (numB_lt _ _) (app_lt (numB_lt _ _) h))
  · exact app_lt (numB_lt _ _) (app_lt (numB_lt _ _) (app_lt (numB_lt _ _) h))
set_option maxRecDepth 100000 in
theorem enc_lt {a : At} (h : ∀ o ∈ a.others, ∀ y ∈ o.2, y < 256) : ∀ y ∈ encL a, y < 256 := by
  refine app_lt (flat_lt fun t _ => ?_) (flat_lt fun o ho => lay_lt _ _ (h o ho))
  unfold knL
  split
  · exact lay_lt _ _ (val_lt a t)
  · simp
set_option maxRecDepth 100000 in
theorem ownB_kept {w w' : World} {B : Nat} {v : Value} {xs : List Nat} {F : Nat → Prop} (h : OwnB w B v xs) (hk : Kept F w w') (hF : ∀ g, v.ownBlock = some g → ¬ F g) : OwnB w' B v xs := by
  obtain ⟨h1, ⟨rfl, h0⟩ | ⟨g, cap, cur, rfl, hb, hg, r⟩⟩ := h
  · exact ⟨h1, .inl ⟨rfl, h0⟩⟩
  · exact ⟨h1, .inr ⟨g, cap, cur, rfl, hb, (hk.block g (row_lt hg) (hF g rfl)).trans hg, r⟩⟩
set_option maxRecDepth 100000 in
theorem ownB_bytes {w : World} {B : Nat} {v : Value} {xs : List Nat} (h : OwnB w B v xs) (hx : ∀ x ∈ xs, x < 256) : BytesAt w v xs := by
  refine own_u8s (B := B) (e := 5) ?_ hx
  have : ∀ xs : List Nat, xs.flatMap u8L = xs.map bV := by
    intro xs
    induction xs with
    | nil => rfl
    | cons x xs ih => rw [List.flatMap_cons, List.map_cons, ih]; rfl
  rw [this]
  exact h
set_option maxRecDepth 100000 in
/-- value of a kind that is there. -/
theorem at_value (a : At) (vp vc vo : Value) (t : Nat) (w : World) (hA : AtL w a vp vc vo) (hr : a.Rng) (hc : checkB a = true) (hp : a.path.length ≤ 65536) (h1 : 1 ≤ t) (h8 : t ≤ 8) (hi : isB a.has t = true) :
    Calls Tryd.prog 33 #[.agg #[.int .i64 a.has, .int .i64 a.origin, vp, .int .u32 a.hop, .int .i64 a.med, .int .i64 a.loc, .int .i64 a.aggrAs, .int .u32 a.aggrId, vc, vo], .int .i64 t] w (ValPost a t w) := by
  obtain rfl | rfl | rfl | rfl | rfl | rfl | rfl | rfl : t = 1 ∨ t = 2 ∨ t = 3 ∨ t = 4 ∨ t = 5 ∨ t = 6 ∨ t = 7 ∨ t = 8 := by omega
  · exact at_value_1 a vp vc vo w hA
  · exact at_value_2 a vp vc vo w hA hp (fun s hs => by have := (check_segs hc hi s hs).2.1; omega)
  · exact at_value_3 a vp vc vo w hA hr
  · exact at_value_4 a vp vc vo w hA
  · exact at_value_5 a vp vc vo w hA
  · exact at_value_6 a vp vc vo w hA
  · exact at_value_7 a vp vc vo w hA hr
  · exact at_value_comms a vp vc vo w hA (by have := comms_len (check_comms hc hi); omega)
set_option maxRecDepth 100000 in
theorem flg_or {t : Nat} (h1 : 1 ≤ t) (h8 : t ≤ 8) : bits .or .i64 (flgL.getD t 0) 16 = flgL.getD t 0 + 16 := by
  obtain rfl | rfl | rfl | rfl | rfl | rfl | rfl | rfl : t = 1 ∨ t = 2 ∨ t = 3 ∨ t = 4 ∨ t = 5 ∨ t = 6 ∨ t = 7 ∨ t = 8 := by omega
  all_goals decide +kernel
set_option maxRecDepth 100000 in
theorem oth_or : bits .or .i64 224 16 = 224 + 16 := by decide +kernel
end Go.Proofs.YtohkbcdnlmjcjaaDoor

/-
  slices.Index, slices.Contains over integers: where the first one is; whether one is there.
-/
namespace Go.Proofs.YtohkbcdnlmjcjaaDoor
open Go.RowKit

def idxI (t : Int) : List Int → Nat → Int
  | [], _ => -1
  | r :: rs, k => if t = r then (k : Int) else idxI t rs (k + 1)
set_option maxRecDepth 100000 in
theorem idxI_step {t : Int} {rs : List Int} {k : Nat} {r : Int} (h : rs[k]? = some r) : idxI t (rs.drop k) k = if t = r then (k : Int) else idxI t (rs.drop (k + 1)) (k + 1) := by
  obtain ⟨h1, h2⟩ := List.getElem?_eq_some_iff.1 h
  rw [List.drop_eq_getElem_cons h1, h2]; rfl
set_option maxRecDepth 100000 in
theorem idxI_has (t : Int) : ∀ (rs : List Int) (k : Nat), decide (idxI t rs k ≥ 0) = rs.contains t
  | [], k => by simp [idxI]
  | r :: rs, k => by
    have ih := idxI_has t rs (k + 1)
    unfold idxI
    rw [List.contains_cons]
    by_cases h : t = r
    · subst h; simp
    · rw [if_neg h, ih]
      simp [h]
set_option maxRecDepth 100000 in
set_option maxHeartbeats 1600000 in
theorem sl_Index (v : Value) (xs : List Int) (t : Int) (w : World) (h : IntsAt w v xs) : Calls Tryd.prog 56 #[v, .int .i64 t] w fun e w' => e = .returned (.int .i64 (idxI t xs 0)) ∧ w = w' := by
  obtain ⟨sa, cap, rfl, hlc, hcm, hV⟩ := h
  have HV := Lib.hid hV
  unfold maxLen at hcm
  clear hV
  go_enter Tryd.func56, Tryd.ntmps56
  go_wp2_with fail
  go_loopw [8] (fun i wr => ∃ k : Nat, k ≤ xs.length ∧ i = .int .i64 k ∧ Hid (idxI t xs 0 = idxI t (xs.drop k) k) ∧ wr = w) (fun i _ => xs.length - (intOf i).toNat)
  case atStart => exact ⟨0, by omega, rfl, Lib.hid rfl, rfl⟩
  case round =>
    obtain ⟨k, hk, rfl, E, rfl⟩ := hrel
    by_cases hlt : k < xs.length
    · obtain ⟨r, hr⟩ : ∃ r, xs[k]? = some r := ⟨_, List.getElem?_eq_getElem hlt⟩
      obtain ⟨b, off, hsa, hP⟩ := HV.out (by omega)
      subst hsa
      obtain ⟨cs, _, ⟨rfl, _⟩, hc⟩ := hP k r hr
      have x0 := hc 0 _ rfl
      simp only [Nat.add_zero, Nat.mul_one] at x0
      have E2 : Hid (idxI t xs 0 = if t = r then (k : Int) else idxI t (xs.drop (k + 1)) (k + 1)) := Lib.hid (by rw [E.out, idxI_step hr])
      have j0 : (0 : Int) ≤ (k : Int) := by omega
      have j1 : (k : Int) < (xs.length : Int) := by omega
      clear hP hc hr E
      by_cases hp : t = r
      · have E3 : Hid (idxI t xs 0 = (k : Int)) := Lib.hid (by rw [E2.out, if_pos hp])
        have hb : (t == r) = true := by simpa using hp
        clear E2 hp
        go_wp2_with fail
        go_ret
        exact ⟨ret_int E3.out.symm, rfl⟩
      · have E3 : Hid (idxI t xs 0 = idxI t (xs.drop (k + 1)) (k + 1)) := Lib.hid (by rw [E2.out, if_neg hp])
        have hb : (t == r) = false := by simpa using hp
        clear E2 hp
        go_wp2_with fail
        exact ⟨⟨k + 1, by omega, by go_num, E3, trivial⟩, by simp [intOf]; omega⟩
    · obtain rfl : k = xs.length := by omega
      have E3 : Hid (idxI t xs 0 = -1) := Lib.hid (by rw [E.out, List.drop_length]; rfl)
      clear E
      go_wp2_with fail
      go_ret
      exact ⟨ret_int E3.out.symm, rfl⟩
set_option maxRecDepth 100000 in
theorem sl_Contains (v : Value) (xs : List Int) (t : Int) (w : World) (h : IntsAt w v xs) : Calls Tryd.prog 26 #[v, .int .i64 t] w fun e w' => e = .returned (.bool (xs.contains t)) ∧ w = w' := by
  have RI := Lib.hid (sl_Index v xs t w h)
  have EQ := Lib.hid (idxI_has t xs 0)
  generalize idxI t xs 0 = n at RI EQ
  clear h
  go_enter Tryd.func26, Tryd.ntmps26
  go_wp2_with fail
  refine RI.out.mono ?_
  rintro e w1 ⟨rfl, rfl⟩
  go_wp2_with fail
  go_ret
  exact ⟨ret_bool EQ.out, rfl⟩
end Go.Proofs.YtohkbcdnlmjcjaaDoor

/-
  ATTRIBUTES: Passes: whether a system is on the path.
-/
namespace Go.Proofs.YtohkbcdnlmjcjaaDoor
open Go.RowKit

set_option maxRecDepth 100000 in
theorem box1 (w : World) (C : Array Value) (T : TypeId) : ∃ W0, W0 = w.alloc (.cells C T) ∧ W0.heap[w.heap.size]? = some (.cells C T (0, 0)) ∧ Below w.heap.size w W0 ∧ W0.heap.size = w.heap.size + 1 :=
  ⟨_, rfl, heap_alloc_new w _, (Below.refl _ _).alloc (Nat.le_refl _) _, by simp⟩
set_option maxRecDepth 100000 in
theorem boxTwo (w : World) (C : Array Value) (T : TypeId) (Z : Array Value) (U : TypeId) : ∃ W0, W0 = (w.alloc (.cells C T)).alloc (.cells Z U) ∧ W0.heap[w.heap.size]? = some (.cells C T (0, 0)) ∧ W0.heap[w.heap.size + 1]? = some (.cells Z U (0, 0)) ∧ Below w.heap.size w W0 := by
  refine ⟨_, rfl, ?_, ?_, ((Below.refl _ _).alloc (Nat.le_refl _) _).alloc (by simp) _⟩
  · have h1 := heap_alloc_new w (.cells C T)
    have h2 : Below (w.alloc (.cells C T)).heap.size (w.alloc (.cells C T)) ((w.alloc (.cells C T)).alloc (.cells Z U)) := (Below.refl _ _).alloc (Nat.le_refl _) _
    exact (h2.block _ (row_lt h1)).trans h1
  · have h1 := heap_alloc_new (w.alloc (.cells C T)) (.cells Z U)
    simpa using h1
/-- whether a system is on a path. -/
def passB (p : List Sg) (t : Int) : Bool := p.any fun s => s.2.contains t
set_option maxHeartbeats 1600000 in
set_option maxRecDepth 100000 in
theorem at_pass1 (b : Bool) (u : Value) (l : List Int) (tb : Nat) (t : Int) (w : World) (hu : IntsAt w u l) (ht : w.cell? ⟨tb, 0, none⟩ = some (.int .i64 t)) :
    Calls Tryd.prog 25 #[.agg #[.bool b, u], .pointer (some ⟨tb, 0, none⟩)] w fun e w' => e = .returned (.bool (l.contains t)) ∧ Below w.heap.size w w' := by
  have HU := Lib.hid hu
  go_enter Tryd.func25, Tryd.ntmps25
  go_upto_region 1 with (fail)
  obtain ⟨W0, hW0, q0, hb0, -⟩ := box1 w #[.bool b, u] 32
  rw [← hW0]
  clear hW0
  have c1 : W0.cell? ⟨w.heap.size, 1, none⟩ = some u := row_cell q0 1
  have t0 := cell_below ht hb0
  have H0 := Lib.hid (HU.out.below hb0)
  clear q0 ht hu
  have CT := Lib.hid (sl_Contains _ l t _ H0.out)
  generalize hz : l.contains t = z at CT
  have HZ := Lib.hid hz
  clear hz
  obtain ⟨sa, cap, rfl, -⟩ := id HU.out
  go_wp2_with fail
  refine CT.out.mono ?_
  rintro e w1 ⟨rfl, rfl⟩
  clear c1 t0
  go_wp2_with fail
  go_ret
  exact ⟨ret_bool HZ.out.symm, hb0⟩
def idxP (t : Int) : List Sg → Nat → Int
  | [], _ => -1
  | r :: rs, k => if r.2.contains t = true then (k : Int) else idxP t rs (k + 1)
set_option maxRecDepth 100000 in
theorem idxP_step {t : Int} {rs : List Sg} {k : Nat} {r : Sg} (h : rs[k]? = some r) : idxP t (rs.drop k) k = if r.2.contains t = true then (k : Int) else idxP t (rs.drop (k + 1)) (k + 1) := by
  obtain ⟨h1, h2⟩ := List.getElem?_eq_some_iff.1 h
  rw [List.drop_eq_getElem_cons h1, h2]; rfl
set_option maxRecDepth 100000 in
theorem idxP_has (t : Int) : ∀ (rs : List Sg) (k : Nat), decide (idxP t rs k ≥ 0) = passB rs t
  | [], k => by simp [idxP, passB]
  | r :: rs, k => by
    have ih := idxP_has t rs (k + 1)
    unfold idxP
    unfold passB at ih ⊢
    rw [List.any_cons]
    cases h : r.2.contains t
    · simpa using ih
    · simp
set_option maxHeartbeats 3200000 in
set_option maxRecDepth 100000 in
theorem at_IndexF (v : Value) (p : List Sg) (tb : Nat) (t : Int) (w : World) (h : PathAt w v p) (ht : w.cell? ⟨tb, 0, none⟩ = some (.int .i64 t)) :
    Calls Tryd.prog 55 #[v, .func (.func 25) #[] #[.pointer (some ⟨tb, 0, none⟩)]] w fun e w' => e = .returned (.int .i64 (idxP t p 0)) ∧ Below w.heap.size w w' := by
  obtain ⟨sa, cap, rfl, hlc, hcm, hV⟩ := h
  have HV := Lib.hid hV
  have HT := Lib.hid ht
  unfold maxLen at hcm
  clear hV ht
  go_enter Tryd.func55, Tryd.ntmps55
  go_wp2_with fail
  go_loopw [8] (fun i wr => ∃ k : Nat, k ≤ p.length ∧ i = .int .i64 k ∧ Hid (idxP t p 0 = idxP t (p.drop k) k) ∧ Hid (Below w.heap.size w wr)) (fun i _ => p.length - (intOf i).toNat)
  case atStart => exact ⟨0, by omega, rfl, Lib.hid rfl, Lib.hid (Below.refl _ _)⟩
  case round =>
    obtain ⟨k, hk, rfl, E, B⟩ := hrel
    by_cases hlt : k < p.length
    · obtain ⟨r, hr⟩ : ∃ r, p[k]? = some r := ⟨_, List.getElem?_eq_getElem hlt⟩
      obtain ⟨b, off, hsa, hP⟩ := HV.out (by omega)
      subst hsa
      obtain ⟨cs, _, ⟨u, rfl, hu⟩, hc⟩ := hP k r hr
      have x0 := hc 0 _ rfl
      have x1 := hc 1 _ rfl
      simp only [Nat.add_zero] at x0
      have x0 := (B.out.cell (size_lt x0)).trans x0
      have x1 := (B.out.cell (size_lt x1)).trans x1
      have t0 := Lib.hid ((B.out.cell (size_lt HT.out)).trans HT.out)
      have P1 := Lib.hid (at_pass1 r.1 u r.2 tb t wr (hu.below B.out) t0.out)
      obtain ⟨su, cu, rfl, -⟩ := hu
      have E2 : Hid (idxP t p 0 = if r.2.contains t = true then (k : Int) else idxP t (p.drop (k + 1)) (k + 1)) := Lib.hid (by rw [E.out, idxP_step hr])
      have j0 : (0 : Int) ≤ (k : Int) := by omega
      have j1 : (k : Int) < (p.length : Int) := by omega
      clear hP hc hr E t0
      generalize hz : r.2.contains t = z at P1 E2
      go_wp2_with fail
      refine P1.out.mono ?_
      rintro e w2 ⟨rfl, hb2⟩
      have B2 := Lib.hid (below_on B.out hb2)
      clear hb2 B x0 x1 P1 hz
      cases z
      · have E3 : Hid (idxP t p 0 = idxP t (p.drop (k + 1)) (k + 1)) := Lib.hid (by rw [E2.out, if_neg (by simp)])
        clear E2
        go_wp2_with fail
        exact ⟨⟨k + 1, by omega, by go_num, E3, B2⟩, by simp [intOf]; omega⟩
      · have E3 : Hid (idxP t p 0 = (k : Int)) := Lib.hid (by rw [E2.out, if_pos rfl])
        clear E2
        go_wp2_with fail
        go_ret
        exact ⟨ret_int E3.out.symm, B2.out⟩
    · obtain rfl : p.length = k := by omega
      have E3 : Hid (idxP t p 0 = -1) := Lib.hid (by rw [E.out, List.drop_length]; rfl)
      clear E
      go_wp2_with fail
      go_ret
      exact ⟨ret_int E3.out.symm, B.out⟩
set_option maxRecDepth 100000 in
theorem at_ContainsF (v : Value) (p : List Sg) (tb : Nat) (t : Int) (w : World) (h : PathAt w v p) (ht : w.cell? ⟨tb, 0, none⟩ = some (.int .i64 t)) :
    Calls Tryd.prog 24 #[v, .func (.func 25) #[] #[.pointer (some ⟨tb, 0, none⟩)]] w fun e w' => e = .returned (.bool (passB p t)) ∧ Below w.heap.size w w' := by
  have RI := Lib.hid (at_IndexF v p tb t w h ht)
  have EQ := Lib.hid (idxP_has t p 0)
  generalize idxP t p 0 = n at RI EQ
  clear h ht
  go_enter Tryd.func24, Tryd.ntmps24
  go_wp2_with fail
  refine RI.out.mono ?_
  rintro e w1 ⟨rfl, hb⟩
  go_wp2_with fail
  go_ret
  exact ⟨ret_bool EQ.out, hb⟩
set_option maxHeartbeats 1600000 in
set_option maxRecDepth 100000 in
theorem at_Passes (a : At) (vp vc vo : Value) (t : Int) (w : World) (hP : PathAt w vp a.path) : Calls Tryd.prog 10 #[.agg (atV a vp vc vo).toArray, .int .i64 t] w fun e w' => e = .returned (.bool (passB a.path t)) ∧ Below w.heap.size w w' := by
  show Calls Tryd.prog 10 #[.agg #[.int .i64 a.has, .int .i64 a.origin, vp, .int .u32 a.hop, .int .i64 a.med, .int .i64 a.loc, .int .i64 a.aggrAs, .int .u32 a.aggrId, vc, vo], .int .i64 t] w _
  have HP := Lib.hid hP
  obtain ⟨sa, cap, rfl, -⟩ := hP
  go_enter Tryd.func10, Tryd.ntmps10
  go_upto_region 1 with (fail)
  obtain ⟨W0, hW0, q0, q1, hb0⟩ := boxTwo w #[.int .i64 a.has, .int .i64 a.origin, .slice sa a.path.length cap, .int .u32 a.hop, .int .i64 a.med, .int .i64 a.loc, .int .i64 a.aggrAs, .int .u32 a.aggrId, vc, vo] 28 #[.int .i64 t] 3
  rw [← hW0]
  clear hW0
  have c2 : W0.cell? ⟨w.heap.size, 2, none⟩ = some (.slice sa a.path.length cap) := row_cell q0 2
  have t0 : W0.cell? ⟨w.heap.size + 1, 0, none⟩ = some (.int .i64 t) := row_cell q1 0
  have CF := Lib.hid (at_ContainsF _ a.path (w.heap.size + 1) t W0 (HP.out.below hb0) t0)
  clear q0 q1
  go_wp2_with fail
  refine CF.out.mono ?_
  rintro e w1 ⟨rfl, hb⟩
  have hb2 := Lib.hid (below_on hb0 hb)
  clear hb c2 t0 hb0 CF
  go_wp2_with fail
  go_ret
  exact ⟨rfl, hb2.out⟩
end Go.Proofs.YtohkbcdnlmjcjaaDoor

/-
  ATTRIBUTES: Encode.
-/
namespace Go.Proofs.YtohkbcdnlmjcjaaDoor
open Go.RowKit
set_option maxRecDepth 100000 in
theorem sz_attrs : (Tryd.prog.info? 28).map (·.size) = some 10 := by kernel_rfl
def EncPost (a : At) (w : World) (e : Ending) (w' : World) : Prop := ∃ v, e = .returned (.tuple #[v, .int .i64 (encI a)]) ∧ (encI a = 0 → OwnB w' w.heap.size v (encL a)) ∧ (encI a ≠ 0 → v = .slice none 0 0) ∧ Below w.heap.size w w'
set_option maxHeartbeats 6400000 in
set_option maxRecDepth 100000 in
theorem at_Encode (a : At) (vp vc vo : Value) (w : World) (hA : AtL w a vp vc vo) (hr : a.Rng) (hT : Tabs w) (hp : a.path.length ≤ 65536) (ho : a.others.length ≤ 65536) :
    Calls Tryd.prog 15 #[.agg #[.int .i64 a.has, .int .i64 a.origin, vp, .int .u32 a.hop, .int .i64 a.med, .int .i64 a.loc, .int .i64 a.aggrAs, .int .u32 a.aggrId, vc, vo]] w (EncPost a w) := by
  have HA := Lib.hid hA
  have HR := Lib.hid hr
  have HP := Lib.hid hp
  have HT := Lib.hid hT
  obtain ⟨-, -, ⟨so, co, rfl, hol, hoc, hO⟩⟩ := hA
  have HO := Lib.hid hO
  unfold maxLen at hoc
  clear hO hr hT hp
  go_enter Tryd.func15, Tryd.ntmps15
  go_upto_region 1 with (fail)
  obtain ⟨W0, hW0, q, hb0, -⟩ := box1 w #[.int .i64 a.has, .int .i64 a.origin, vp, .int .u32 a.hop, .int .i64 a.med, .int .i64 a.loc, .int .i64 a.aggrAs, .int .u32 a.aggrId, vc, .slice so a.others.length co] 28
  rw [← hW0]
  clear hW0
  have B0 := Lib.hid hb0
  have Q0 := Lib.hid q
  have CK := Lib.hid (at_Check a vp vc (.slice so a.others.length co) W0 (HA.out.below hb0))
  clear q hb0
  go_wp2_with ((with_reducible refine halt_at (X := .load 28 (.tmp 1)) ?_ ?_); (· rfl))
  unfold Halt
  refine ld_at (by rfl) 28 (.tmp 1) rfl w.heap.size rfl 28 #[.int .i64 a.has, .int .i64 a.origin, vp, .int .u32 a.hop, .int .i64 a.med, .int .i64 a.loc, .int .i64 a.aggrAs, .int .u32 a.aggrId, vc, .slice so a.others.length co] (0, 0) _ Q0.out Tryd.underlying28 rfl sz_attrs ?_
  go_wp2_with fail
  refine CK.out.mono ?_
  rintro e w1 ⟨rfl, hb1⟩
  have B1 := Lib.hid (below_on B0.out hb1)
  have Q1 := Lib.hid ((hb1.block _ (row_lt Q0.out)).trans Q0.out)
  clear CK hb1 Q0 B0
  cases hck : checkB a with
  | false =>
    have E : Hid (encI a = 1) := Lib.hid (by unfold encI; rw [hck]; rfl)
    have E2 : Hid (checkI a = 1) := Lib.hid (by unfold checkI; rw [hck]; rfl)
    rw [E2.out]
    clear hck E2
    go_wp2_with fail
    exact bodyPost_ret (v := .tuple #[.slice none 0 0, .int .i64 1]) (by simp [results, Tryd.results15, go_sem]) rfl ⟨.slice none 0 0, by rw [E.out], fun h => absurd (E.out ▸ h) (by decide), fun _ => rfl, B1.out⟩
  | true =>
    have HC := Lib.hid hck
    have E2 : Hid (checkI a = 0) := Lib.hid (by unfold checkI; rw [hck]; rfl)
    rw [E2.out]
    clear hck E2
    have NF : Hid (0 < w.heap.size) := Lib.hid (size_lt (HT.out.flag 0 (by decide)))
    have CI := Lib.hid (fun (t : Nat) W => at_Is a.has (.int .i64 a.origin) vp (.int .u32 a.hop) (.int .i64 a.med) (.int .i64 a.loc) (.int .i64 a.aggrAs) (.int .u32 a.aggrId) vc (.slice so a.others.length co) t W)
    have CV := Lib.hid (fun (t : Nat) W (h : Below w.heap.size w W) h1 h8 hi => at_value a vp vc (.slice so a.others.length co) t W (HA.out.below h) HR.out HC.out HP.out h1 h8 hi)
    have Q1a := Q1.out
    have B1s : Hid (w.heap.size < w1.heap.size) := Lib.hid (row_lt Q1.out)
    clear Q1a
    go_wp2_with fail
    go_loopw [6, 5] (fun i v5 wr => ∃ n : Nat, n ≤ 8 ∧ i = .int .i64 ((n + 1 : Nat) : Int) ∧ Hid (OwnB wr w1.heap.size v5 (knsL a n)) ∧ Hid (Below w1.heap.size w1 wr)) (fun i _ _ => 9 - (intOf i).toNat)
    case atStart => exact ⟨0, by omega, rfl, Lib.hid (ownB_nil _ _), Lib.hid (Below.refl _ _)⟩
    case round =>
      obtain ⟨n, hn, rfl, O, BR⟩ := hrel
      have QR := Lib.hid ((BR.out.block _ (row_lt Q1.out)).trans Q1.out)
      by_cases hlt : n < 8
      · obtain ⟨t, ht⟩ : ∃ t, t = n + 1 := ⟨_, rfl⟩
        have KS : Hid (knsL a t = knsL a n ++ knL a t) := Lib.hid (by rw [ht]; exact knsL_succ a n)
        have KL := kns_len HC.out HP.out n
        rw [← ht]
        have t1 : 1 ≤ t := by omega
        have t8 : t ≤ 8 := by omega
        have TN := Lib.hid ht
        clear ht
        have k0 : (0 : Int) ≤ (t : Int) := by omega
        have k1 : (t : Int) ≤ 8 := by omega
        have k2 : (t : Int) < 9 := by omega
        cases hi : isB a.has t with
        | false =>
          have CI1 := Lib.hid (CI.out t wr)
          rw [hi] at CI1
          have KE : Hid (knsL a t = knsL a n) := Lib.hid (by rw [KS.out]; unfold knL; rw [hi]; simp)
          clear hi
          go_wp2_with ((with_reducible refine halt_at (X := .load 28 (.tmp 1)) ?_ ?_); (· rfl))
          unfold Halt
          refine ld_at (by rfl) 28 (.tmp 1) rfl w.heap.size rfl 28 #[.int .i64 a.has, .int .i64 a.origin, vp, .int .u32 a.hop, .int .i64 a.med, .int .i64 a.loc, .int .i64 a.aggrAs, .int .u32 a.aggrId, vc, .slice so a.others.length co] (0, 0) _ QR.out Tryd.underlying28 rfl sz_attrs ?_
          go_wp2_with fail
          refine CI1.out.mono ?_
          rintro e w2 ⟨rfl, hb2⟩
          have O2 : Hid (OwnB w2 w1.heap.size u5 (knsL a t)) := Lib.hid (by rw [KE.out]; exact O.out.below hb2)
          have B2 := Lib.hid (below_on BR.out hb2)
          clear hb2 CI1 O BR QR
          go_wp2_with fail
          exact ⟨⟨t, by omega, by go_num, O2, B2⟩, by simp [intOf]; omega⟩
        | true =>
          have CI1 := Lib.hid (CI.out t wr)
          rw [hi] at CI1
          have KE : Hid (knsL a t = knsL a n ++ layL (flgL.getD t 0) t (valL a t)) := Lib.hid (by rw [KS.out]; unfold knL; rw [hi]; simp)
          have VL := val_len HC.out HP.out hi
          have HI := Lib.hid hi
          clear hi
          go_wp2_with ((with_reducible refine halt_at (X := .load 28 (.tmp 1)) ?_ ?_); (· rfl))
          unfold Halt
          refine ld_at (by rfl) 28 (.tmp 1) rfl w.heap.size rfl 28 #[.int .i64 a.has, .int .i64 a.origin, vp, .int .u32 a.hop, .int .i64 a.med, .int .i64 a.loc, .int .i64 a.aggrAs, .int .u32 a.aggrId, vc, .slice so a.others.length co] (0, 0) _ QR.out Tryd.underlying28 rfl sz_attrs ?_
          go_wp2_with fail
          refine CI1.out.mono ?_
          rintro e w2 ⟨rfl, hb2⟩
          have O2 : Hid (OwnB w2 w1.heap.size u5 (knsL a n)) := Lib.hid (O.out.below hb2)
          have NE := Lib.hid (fun g (h : u5.ownBlock = some g) => (⟨own_form_le O2.out g h, own_lt O2.out g h⟩ : w1.heap.size ≤ g ∧ g < w2.heap.size))
          have B2 := Lib.hid (below_on BR.out hb2)
          have Q2 := Lib.hid ((hb2.block _ (row_lt QR.out)).trans QR.out)
          clear hb2 CI1 O BR QR
          have BW := Lib.hid (below_on B1.out B2.out)
          have TF := Lib.hid ((HT.out.below BW.out).flag t (by omega))
          obtain ⟨fl, hfl⟩ : ∃ fl, flgL.getD t 0 = fl := ⟨_, rfl⟩
          have FO := Lib.hid (flg_or t1 t8)
          rw [hfl] at TF KE FO
          clear hfl
          have CV1 := Lib.hid (CV.out t w2.drew BW.out.drew t1 t8 HI.out)
          have CP := Lib.hid (fun v3 (W : World) (o : OwnB W w2.heap.size v3 (valL a t)) (hk : Kept (fun b => u5.ownBlock = some b) w2 W) (h0 : OwnB W w1.heap.size u5 (knsL a n)) (hs : w1.heap.size ≤ W.heap.size) =>
            at_put w1.heap.size u5 (knsL a n) fl t v3 (valL a t) W h0 hs FO.out (fun W' hk' => ownB_bytes (ownB_kept o hk' (fun g hg h => by have := own_form_le o g hg; have := (NE.out g h).2; omega)) (val_lt a t)) (by omega) (by omega))
          have N1 : Hid (¬ u5.ownBlock = some w.heap.size) := Lib.hid (fun h => by have := (NE.out _ h).1; have := B1s.out; omega)
          have N2 : Hid (¬ u5.ownBlock = some 0) := Lib.hid (fun h => by have := (NE.out _ h).1; have := B1s.out; have := NF.out; omega)
          clear FO VL KL TN
          go_upto_region 9 with (fail)
          refine wp_region_held_drew (S := fun w' => Kept (fun b => u5.ownBlock = some b) w2 w') (by kernel_rfl) ?_ (fun hHeld => ?_)
          · exact (Kept.refl _ _).drew
          refine rg_yes (i := 0) (v := ?_) at0 (by kernel_rfl) (by kernel_rfl) (by kernel_rfl) (fun _ _ _ h => h) ?_ ?_ hHeld ?_; rotate_left 1; (· rfl); (· intro w' hSw; (try dsimp only at hSw); (try clear hHeld); go_simp; try with_reducible rfl)
          try simp only [Act.put, List.setIfInBounds_toArray, List.set_cons_zero, List.set_cons_succ]
          refine rg_yes (i := 1) (v := ?_) (atS at0) (by kernel_rfl) (by kernel_rfl) (by kernel_rfl) (fun _ _ _ h => h) ?_ ?_ hHeld ?_; rotate_left 1; (· rfl); (· intro w' hSw; (try dsimp only at hSw); (try clear hHeld); go_simp; try with_reducible rfl)
          try simp only [Act.put, List.setIfInBounds_toArray, List.set_cons_zero, List.set_cons_succ]
          refine rg_yes (i := 2) (v := ?_) (atS (atS at0)) (by kernel_rfl) (by kernel_rfl) (by kernel_rfl) (fun _ _ _ h => h) ?_ ?_ hHeld ?_; rotate_left 1; (· rfl); (· intro w' hSw; (try dsimp only at hSw); have tf := hSw.cell TF.out N2.out; (try clear hHeld); go_simp; try with_reducible rfl)
          try simp only [Act.put, List.setIfInBounds_toArray, List.set_cons_zero, List.set_cons_succ]
          refine rg_yes (i := 3) (v := ?_) (atS (atS (atS at0))) (by kernel_rfl) (by kernel_rfl) (by kernel_rfl) (fun _ _ _ h => h) ?_ ?_ hHeld ?_; rotate_left 1; (· rfl); (· intro w' hSw; (try dsimp only at hSw); have tf := hSw.cell TF.out N2.out; (try clear hHeld); go_simp; try with_reducible rfl)
          try simp only [Act.put, List.setIfInBounds_toArray, List.set_cons_zero, List.set_cons_succ]
          refine rg_yes (i := 4) (v := ?_) (atS (atS (atS (atS at0)))) (by kernel_rfl) (by kernel_rfl) (by kernel_rfl) (fun _ _ _ h => h) ?_ ?_ hHeld ?_; rotate_left 1; (· rfl); (· intro w' hSw; (try dsimp only at hSw); (try clear hHeld); go_simp; try with_reducible rfl)
          try simp only [Act.put, List.setIfInBounds_toArray, List.set_cons_zero, List.set_cons_succ]
          refine rg_yes (i := 5) (v := ?_) (atS (atS (atS (atS (atS at0))))) (by kernel_rfl) (by kernel_rfl) (by kernel_rfl) (fun _ _ _ h => h) ?_ ?_ hHeld ?_; rotate_left 1; (· rfl); (· intro w' hSw; (try dsimp only at hSw); refine exec_ld 28 (.tmp 1) ?_ w.heap.size ?_ 28 #[.int .i64 a.has, .int .i64 a.origin, vp, .int .u32 a.hop, .int .i64 a.med, .int .i64 a.loc, .int .i64 a.aggrAs, .int .u32 a.aggrId, vc, .slice so a.others.length co] (0, 0) _ ((hSw.block _ (row_lt Q2.out) N1.out).trans Q2.out) Tryd.underlying28 rfl sz_attrs <;> rfl)
          try simp only [Act.put, List.setIfInBounds_toArray, List.set_cons_zero, List.set_cons_succ]
          refine rg_yes (i := 6) (v := ?_) (atS (atS (atS (atS (atS (atS at0)))))) (by kernel_rfl) (by kernel_rfl) (by kernel_rfl) (fun _ _ _ h => h) ?_ ?_ hHeld ?_; rotate_left 1; (· rfl); (· intro w' hSw; (try dsimp only at hSw); (try clear hHeld); go_simp; try with_reducible rfl)
          try simp only [Act.put, List.setIfInBounds_toArray, List.set_cons_zero, List.set_cons_succ]
          refine rg_call (i := 7) (atS (atS (atS (atS (atS (atS (atS at0))))))) (by kernel_rfl) ?_ (fun K hK => ?_); (· rfl); (try clear hb); go_simp; (refine CV1.out.mono ?_; rintro e w3 ⟨v3, rfl, o3, b3⟩); have O3 := Lib.hid o3; have K3 : Hid (Kept (fun b => u5.ownBlock = some b) w2 w3) := Lib.hid ((Kept.refl _ _).drew.trans (Kept.of_below b3)); have P3 : Hid (OwnB w3 w1.heap.size u5 (knsL a n)) := Lib.hid ((O2.out.below (Below.refl _ _).drew).below b3); clear o3 b3 CV1; go_wp2_with fail; refine hK.out _ _ ?_ (fun hHeld => ?_); (· exact K3.out); clear hK K
          try simp only [Act.put, List.setIfInBounds_toArray, List.set_cons_zero, List.set_cons_succ]
          refine rg_call (i := 8) (atS (atS (atS (atS (atS (atS (atS (atS at0)))))))) (by kernel_rfl) ?_ (fun K hK => ?_); (· rfl); (try clear hb); go_simp; (refine (CP.out v3 w3 O3.out K3.out P3.out (Nat.le_trans B2.out.size K3.out.size)).mono ?_; rintro e w4 ⟨v4, rfl, o4, k4, -⟩); have O4 : Hid (OwnB w4 w1.heap.size v4 (knsL a t)) := Lib.hid (by rw [KE.out]; exact o4); have K4 := Lib.hid (K3.out.trans k4); clear o4 k4 CP; go_wp2_with fail; refine hK.out _ _ ?_ (fun hHeld => ?_); (· exact K4.out); clear hK K
          try simp only [Act.put, List.setIfInBounds_toArray, List.set_cons_zero, List.set_cons_succ]
          refine rg_yes (i := 9) (v := ?_) (atS (atS (atS (atS (atS (atS (atS (atS (atS at0))))))))) (by kernel_rfl) (by kernel_rfl) (by kernel_rfl) (fun _ _ _ h => h) ?_ ?_ hHeld ?_; rotate_left 1; (· rfl); (· intro w' hSw; (try dsimp only at hSw); (try clear hHeld); go_simp; try with_reducible rfl)
          try simp only [Act.put, List.setIfInBounds_toArray, List.set_cons_zero, List.set_cons_succ]
          refine wpAnyH_done (by kernel_rfl) ?_ _
          have B4 := Lib.hid (ownB_next B2.out O2.out K4.out)
          clear hHeld O2 O3 P3 K3 K4 Q2 B2 BW TF N1 N2 NE
          go_wp2_with fail
          exact ⟨⟨t, by omega, by go_num, O4, B4⟩, by simp [intOf]; omega⟩
      · obtain rfl : n = 8 := by omega
        rw [show ((8 + 1 : Nat) : Int) = 9 from rfl]
        have z9 : wr.cell? ⟨w.heap.size, 9, none⟩ = some (.slice so a.others.length co) := row_cell QR.out 9
        have BW := Lib.hid (below_on B1.out BR.out)
        have O8 := Lib.hid O.out
        have KL := kns_len HC.out HP.out 8
        have EC : Hid (encI a = if a.others.all (fun o => decide (o.2.length ≤ 4096)) then if (encL a).length ≤ 4096 then 0 else 6 else 6) := Lib.hid (by unfold encI; rw [HC.out]; rfl)
        have EL : Hid (encL a = knsL a 8 ++ a.others.flatMap othL) := Lib.hid rfl
        have SZ8 := Lib.hid BR.out.size
        clear O QR hn CI CV NF
        obtain ⟨ks, hks⟩ : ∃ ks, knsL a 8 = ks := ⟨_, rfl⟩
        rw [hks] at O8 KL EL
        clear hks
        go_wp2_with fail
        go_loopw [33, 5] (fun i v5 wr => ∃ k : Nat, k ≤ a.others.length ∧ i = .int .i64 k ∧ Hid (OwnB wr w1.heap.size v5 (ks ++ (a.others.take k).flatMap othL)) ∧ Hid (∀ o ∈ a.others.take k, o.2.length ≤ 4096) ∧ Hid (Below w1.heap.size w1 wr)) (fun i _ _ => a.others.length - (intOf i).toNat)
        case atStart => exact ⟨0, by omega, rfl, Lib.hid (by simpa using O8.out), Lib.hid (by simp), BR⟩
        case round =>
          clear O8 BR BW z9 SZ8
          obtain ⟨k, hk, rfl, O, AL, BR⟩ := hrel
          by_cases hlt : k < a.others.length
          · obtain ⟨o, hoo⟩ : ∃ o, a.others[k]? = some o := ⟨_, List.getElem?_eq_getElem hlt⟩
            obtain ⟨b2, off2, hsa, hP⟩ := HO.out (by omega)
            obtain ⟨cs, -, ⟨u, rfl, -, hu⟩, hc⟩ := hP k o hoo
            have BW := Lib.hid (below_on B1.out BR.out)
            have x0 := cell_below (hc 0 _ rfl) BW.out
            have x1 := cell_below (hc 1 _ rfl) BW.out
            have HU := Lib.hid hu
            obtain ⟨su, cu, rfl, hlu, hcu, -⟩ := hu
            subst hsa
            simp only [Nat.add_zero] at x0
            unfold maxLen at hcu
            have ST := Lib.hid (flat_take othL hoo)
            have TS : Hid (a.others.take (k + 1) = a.others.take k ++ [o]) := Lib.hid (by rw [List.take_add_one, hoo]; rfl)
            have OM := Lib.hid (List.mem_of_getElem? hoo)
            have LL := oths_len AL.out
            have LT : (a.others.take k).length ≤ a.others.length := List.length_take_le' k a.others
            have k0 : (0 : Int) ≤ (k : Int) := by omega
            have k1 : (k : Int) < (a.others.length : Int) := by omega
            clear hP hc hoo
            obtain ⟨ot, ov⟩ := o
            simp only at x0 x1 hlu HU
            go_upto_region 13 with (fail)
            obtain ⟨w2, hw2, c0, c1, hb2⟩ := box2 wr (.int .i64 ot) (.slice su ov.length cu) 61
            rw [← hw2]
            clear hw2 x0 x1
            have O2 := Lib.hid (O.out.below hb2)
            have B2 := Lib.hid (below_on BR.out hb2)
            clear hb2 O BR BW
            by_cases hl : ov.length ≤ 4096
            · have e1 : decide ((ov.length : Int) > 4096) = false := by simp; omega
              have CP := Lib.hid (at_put w1.heap.size u5 _ 224 ot (.slice su ov.length cu) ov w2 O2.out B2.out.size oth_or (fun W hk => HU.out.below (below_on B1.out (ownB_next B2.out O2.out hk))) (by rw [List.length_append]; omega) (by omega))
              have HL := Lib.hid hl
              clear hl LL LT
              go_wp2_with fail
              refine CP.out.mono ?_
              rintro e w3 ⟨v3, rfl, o3, k3, -⟩
              have O3 : Hid (OwnB w3 w1.heap.size v3 (ks ++ (a.others.take (k + 1)).flatMap othL)) := Lib.hid (by rw [ST.out, ← List.append_assoc]; exact o3)
              have B3 := Lib.hid (ownB_next B2.out O2.out k3)
              have A3 : Hid (∀ o ∈ a.others.take (k + 1), o.2.length ≤ 4096) := Lib.hid (by
                rw [TS.out]
                intro x hx
                rcases List.mem_append.1 hx with hx | hx
                · exact AL.out x hx
                · rw [List.mem_singleton.1 hx]; exact HL.out)
              clear o3 k3 O2 B2 c0 c1 CP AL
              go_wp2_with fail
              exact ⟨⟨k + 1, by omega, by go_num, O3, A3, B3⟩, by simp [intOf]; omega⟩
            · have e1 : decide ((ov.length : Int) > 4096) = true := by simp; omega
              have E6 : Hid (encI a = 6) := Lib.hid (by
                rw [EC.out, if_neg]
                intro h
                have := List.all_eq_true.1 h _ OM.out
                simp only [decide_eq_true_eq] at this
                exact hl this)
              clear LL LT hl
              go_wp2_with fail
              exact bodyPost_ret (v := .tuple #[.slice none 0 0, .int .i64 6]) (by simp [results, Tryd.results15, go_sem]) rfl ⟨.slice none 0 0, by rw [E6.out], fun h => absurd (E6.out ▸ h) (by decide), fun _ => rfl, below_on B1.out B2.out⟩
          · obtain rfl : k = a.others.length := by omega
            have O3 : Hid (OwnB wr w1.heap.size u5 (encL a)) := Lib.hid (by rw [EL.out]; have := O.out; rw [List.take_length] at this; exact this)
            have AA : a.others.all (fun o => decide (o.2.length ≤ 4096)) = true := by
              rw [List.all_eq_true]
              intro x hx
              have := AL.out
              rw [List.take_length] at this
              simpa using this x hx
            have EC2 : Hid (encI a = if (encL a).length ≤ 4096 then 0 else 6) := Lib.hid (by rw [EC.out, if_pos AA])
            obtain ⟨s5, c5, hv5, -⟩ := own_form O3.out
            subst hv5
            have BF := Lib.hid (below_on B1.out BR.out)
            clear AA EC O AL EL
            by_cases hl : (encL a).length ≤ 4096
            · have e1 : decide (((encL a).length : Int) > 4096) = false := by simp; omega
              have E6 : Hid (encI a = 0) := Lib.hid (by rw [EC2.out, if_pos hl])
              clear EC2
              go_wp2_with fail
              exact bodyPost_ret (v := .tuple #[.slice s5 (encL a).length c5, .int .i64 0]) (by simp [results, Tryd.results15, go_sem]) rfl ⟨.slice s5 (encL a).length c5, by rw [E6.out], fun _ => ownB_base O3.out (Nat.le_of_lt B1s.out), fun h => absurd E6.out h, BF.out⟩
            · have e1 : decide (((encL a).length : Int) > 4096) = true := by simp; omega
              have E6 : Hid (encI a = 6) := Lib.hid (by rw [EC2.out, if_neg hl])
              clear EC2
              go_wp2_with fail
              exact bodyPost_ret (v := .tuple #[.slice none 0 0, .int .i64 6]) (by simp [results, Tryd.results15, go_sem]) rfl ⟨.slice none 0 0, by rw [E6.out], fun h => absurd (E6.out ▸ h) (by decide), fun _ => rfl, BF.out⟩
end Go.Proofs.YtohkbcdnlmjcjaaDoor

/-
  A PART OF A SLICE OF SINGLE CELLS: the operation, and what the part holds.
-/
namespace Go.Proofs.YtohkbcdnlmjcjaaDoor
open Go.RowKit

def sub1 (sa : Option Addr) (l cap : Nat) : Option Addr := if cap = l then sa else sa.map (·.add (l * 1))
set_option maxRecDepth 100000 in
theorem slat_part {α : Type} {w : World} {R : α → List Value → Prop} {sa : Option Addr} {cap : Nat} {xs : List α} (h : SlAt w 1 R (.slice sa xs.length cap) xs) {l k : Nat} (hlk : l ≤ k) (hk : k ≤ xs.length) :
    ∃ s c, Value.slice (sub1 sa l cap) (k - l) (cap - l) = .slice s ((xs.take k).drop l).length c ∧ ((xs.take k).drop l).length ≤ c ∧ c ≤ cap ∧ SlAt w 1 R (.slice s ((xs.take k).drop l).length c) ((xs.take k).drop l) := by
  have hl : ((xs.take k).drop l).length = k - l := by rw [List.length_drop, List.length_take]; omega
  obtain ⟨sa', c', h1, h2, h3, h4⟩ := h
  injection h1 with h1 _ h1c
  subst h1; subst h1c
  refine ⟨sub1 sa l cap, cap - l, by rw [hl], by omega, by omega, ⟨_, _, rfl, by omega, by omega, fun h0 => ?_⟩⟩
  obtain ⟨b, off, rfl, hP⟩ := h4 (by omega)
  have hne : cap ≠ l := by omega
  refine ⟨b, off + l, ?_, fun i x hx => ?_⟩
  · unfold sub1
    rw [if_neg hne]
    unfold Addr.add
    by_cases h0 : l = 0
    · subst h0; simp
    · simp [h0]
  · have hi := (List.getElem?_eq_some_iff.1 hx).1
    rw [hl] at hi
    rw [List.getElem?_drop, List.getElem?_take_of_lt (by omega)] at hx
    obtain ⟨cs, c1, c2, c3⟩ := hP _ x hx
    refine ⟨cs, c1, c2, fun j c hc => ?_⟩
    have := c3 j c hc
    rw [show off + l + i * 1 + j = off + (l + i) * 1 + j by omega]
    exact this
set_option maxRecDepth 100000 in
theorem slat_part' {α : Type} {w : World} {R : α → List Value → Prop} {sa : Option Addr} {cap : Nat} {xs : List α} (h : SlAt w 1 R (.slice sa xs.length cap) xs) {l k : Nat} (hlk : l ≤ k) (hk : k ≤ xs.length) :
    SlAt w 1 R (.slice (sub1 sa l cap) (k - l) (cap - l)) ((xs.take k).drop l) := by
  obtain ⟨s, c, e, -, -, h⟩ := slat_part h hlk hk
  rw [e]; exact h
set_option maxRecDepth 100000 in
theorem run_sub {P : Program} {ty e : TypeId} (ht : P.underlying ty = some (.slice e)) (hz : ∀ w, (sizeOf e).run P w = .ok 1 w) (sa : Option Addr) (n cap : Nat) (l k : Nat) (hlk : l ≤ k) (hk : k ≤ cap) (kl kh : IntKind) (w : World) :
    (Instr.sliceAt ty (.slice sa n cap) (some (.int kl l)) (some (.int kh k)) none).run P w = .ok (.slice (sub1 sa l cap) (k - l) (cap - l)) w := by
  have he : P.elem ty = e := by unfold Program.elem; rw [ht]
  have ht' : P.underlying ty = some (.slice (P.elem ty)) := by rw [he]; exact ht
  rw [run_sliceAt_slice _ _ _ _ _ _ ht', run_slice_lh _ _ _ _ _ ht' _ _ _ _ (by omega) (by omega) (by omega), he, hz]
  rfl
set_option maxRecDepth 100000 in
theorem run_subh {P : Program} {ty e : TypeId} (ht : P.underlying ty = some (.slice e)) (hz : ∀ w, (sizeOf e).run P w = .ok 1 w) (sa : Option Addr) (n cap : Nat) (k : Nat) (hk : k ≤ cap) (kh : IntKind) (w : World) :
    (Instr.sliceAt ty (.slice sa n cap) none (some (.int kh k)) none).run P w = .ok (.slice (sub1 sa 0 cap) (k - 0) (cap - 0)) w := by
  have he : P.elem ty = e := by unfold Program.elem; rw [ht]
  have ht' : P.underlying ty = some (.slice (P.elem ty)) := by rw [he]; exact ht
  rw [run_sliceAt_slice _ _ _ _ _ _ ht', run_slice_h _ _ _ _ _ ht' _ _ (by omega) (by omega), he, hz]
  rfl
set_option maxRecDepth 100000 in
theorem run_subl {P : Program} {ty e : TypeId} (ht : P.underlying ty = some (.slice e)) (hz : ∀ w, (sizeOf e).run P w = .ok 1 w) (sa : Option Addr) (n cap : Nat) (l : Nat) (hl : l ≤ n) (kl : IntKind) (w : World) :
    (Instr.sliceAt ty (.slice sa n cap) (some (.int kl l)) none none).run P w = .ok (.slice (sub1 sa l cap) (n - l) (cap - l)) w := by
  have he : P.elem ty = e := by unfold Program.elem; rw [ht]
  have ht' : P.underlying ty = some (.slice (P.elem ty)) := by rw [he]; exact ht
  rw [run_sliceAt_slice _ _ _ _ _ _ ht', run_slice_l _ _ _ _ _ ht' _ _ (by omega) (by omega), he, hz]
  rfl
set_option maxRecDepth 100000 in
theorem exec_slc {P : Program} {oi : Oper} {ev : Operand → Value} {w : World} (ty : TypeId) (x : Operand) (lo hi : Option Operand) (ho : oi.op = .slice ty x lo hi none) {V X : Value} {l' h' : Option Value} (hr : (Instr.sliceAt ty X l' h' none).run P w = .ok V w)
    (hx : ev x = X) (hl : lo.map ev = l') (hh : hi.map ev = h') : (execOp ev oi).run P w = .ok (.value V) w := by
  subst hx; subst hl; subst hh
  unfold execOp
  simp only [ho, Option.map_none, Sem.run_bind, hr, Result.andThen_ok, Sem.run_pure]
section
variable {P : Program} {ops : Array Oper} {rest : List Oper} {o : Oper} {a : Act} {w : World} {Q : Exit → Act → World → Prop}
set_option maxRecDepth 100000 in
theorem slc_at (hgd : o.guard = none) (ty : TypeId) (x : Operand) (lo hi : Option Operand) (ho : o.op = .slice ty x lo hi none) {V X : Value} {l' h' : Option Value} (hr : (Instr.sliceAt ty X l' h' none).run P w = .ok V w)
    (hx : a.eval x = X) (hl : lo.map a.eval = l') (hh : hi.map a.eval = h') (h : wpList P ops Q rest (a.put o.dst V) w) : wpList P ops Q (o :: rest) a w :=
  wpList_plain hgd fun K hK => by
    unfold Oper.wp
    rw [exec_slc ty x lo hi ho hr hx hl hh]
    exact hK _ _ h
end
end Go.Proofs.YtohkbcdnlmjcjaaDoor
