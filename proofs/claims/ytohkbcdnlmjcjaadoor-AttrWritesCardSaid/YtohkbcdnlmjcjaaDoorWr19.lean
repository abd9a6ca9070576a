/- Texts of one proof, one behind another. -/
import Derived.Test.YtohkbcdnlmjcjaaDoorWr18
import Derived.Test.YtohkbcdnlmjcjaaDoorWr2
/-
  ATTRIBUTES: what was written is read again, plain: numbers, heads, paths, communities.
-/
namespace Go.Proofs.YtohkbcdnlmjcjaaDoor
open Go.RowKit

/-! ### numbers -/
set_option maxRecDepth 100000 in
theorem readN_app (xs ys : List Nat) : readN (xs ++ ys) = readN xs * 256 ^ ys.length + readN ys := by
  unfold readN
  rw [List.foldl_append]
  generalize xs.foldl (fun n b => n * 256 + b) 0 = s
  have : ∀ (ys : List Nat) (s : Nat), ys.foldl (fun n b => n * 256 + b) s = s * 256 ^ ys.length + ys.foldl (fun n b => n * 256 + b) 0 := by
    intro ys
    induction ys with
    | nil => intro s; simp
    | cons y ys ih =>
      intro s
      rw [List.foldl_cons, ih, List.foldl_cons, ih (0 * 256 + y), List.length_cons, Nat.pow_succ]
      generalize 256 ^ ys.length = p
      generalize ys.foldl (fun n b => n * 256 + b) 0 = q
      rw [Nat.add_mul, Nat.zero_mul, Nat.zero_add, Nat.mul_assoc, Nat.mul_comm 256 p, Nat.add_assoc]
  exact this ys s
set_option maxRecDepth 100000 in
theorem numB_nat (n : Nat) : ∀ k, readN (numB (n : Int) k) = n % 256 ^ k
  | 0 => by simp [numB, readN, Nat.mod_one]
  | k + 1 => by
    have e : numB (n : Int) (k + 1) = [byN (n : Int) k] ++ numB (n : Int) k := rfl
    rw [e, readN_app, numB_len, numB_nat n k]
    have h1 : readN [byN (n : Int) k] = n / 256 ^ k % 256 := by
      have : byN (n : Int) k = n / 256 ^ k % 256 := by
        unfold byN
        have e2 : (2 : Int) ^ (8 * k) = ((256 ^ k : Nat) : Int) := by rw [show (256 : Nat) = 2 ^ 8 from rfl, ← Nat.pow_mul, Int.natCast_pow]; rfl
        rw [e2]
        have : ((n : Int) / ((256 ^ k : Nat) : Int) % 256) = ((n / 256 ^ k % 256 : Nat) : Int) := by push_cast; rfl
        rw [this, Int.toNat_natCast]
      rw [this]; simp [readN]
    rw [h1, Nat.pow_succ, Nat.mul_comm (n / 256 ^ k % 256)]
    rw [Nat.mod_mul]
    omega
set_option maxRecDepth 100000 in
theorem numB_read {n : Int} {k : Nat} (h0 : 0 ≤ n) (hk : n < 256 ^ k) : (readN (numB n k) : Int) = n := by
  obtain ⟨m, rfl⟩ := Int.eq_ofNat_of_zero_le h0
  have : m < 256 ^ k := by
    have : ((m : Nat) : Int) < ((256 ^ k : Nat) : Int) := by push_cast; exact hk
    omega
  rw [numB_nat, Nat.mod_eq_of_lt this]
set_option maxRecDepth 100000 in
theorem numB_one {n : Nat} (h : n < 256) : numB (n : Int) 1 = [n] := by
  unfold numB byN
  simp [numB]
  omega
/-! ### an attribute's head -/
def hdN (fl : Nat) (ys : List Nat) : Nat := if 255 < ys.length then fl + 16 else fl
set_option maxRecDepth 100000 in
theorem layL_eq {fl t : Nat} (hf : fl + 16 < 256) (ht : t < 256) {ys : List Nat} : layL (fl : Int) (t : Int) ys = hdN fl ys :: t :: ((if 255 < ys.length then numB ys.length 2 else numB ys.length 1) ++ ys) := by
  unfold layL hdN
  by_cases h : 255 < ys.length
  · rw [if_pos h, if_pos h, if_pos h, numB_one ht, show ((fl : Int) + 16) = ((fl + 16 : Nat) : Int) by push_cast; rfl, numB_one hf]; rfl
  · rw [if_neg h, if_neg h, if_neg h, numB_one ht, numB_one (by omega)]; rfl
set_option maxRecDepth 100000 in
/-- where the bytes of an attribute ahead of others end. -/
theorem lay_cut {fl t : Nat} (hf : fl + 16 < 256) (ht : t < 256) {ys : List Nat} (hl : ys.length < 65536) (hb : longB fl = false) (hb2 : longB (fl + 16) = true) (r : List Nat) :
    fromN (layL fl t ys ++ r) ≤ (layL fl t ys ++ r).length ∧ cutN (layL fl t ys ++ r) = (layL fl t ys).length ∧ (layL fl t ys ++ r).getD 0 0 = hdN fl ys ∧ (layL fl t ys ++ r).getD 1 0 = t ∧ (layL fl t ys).drop (fromN (layL fl t ys ++ r)) = ys := by
  rw [layL_eq hf ht]
  by_cases h : 255 < ys.length
  · have e : hdN fl ys = fl + 16 := by unfold hdN; rw [if_pos h]
    rw [e, if_pos h]
    have hn := numB_read (n := (ys.length : Int)) (k := 2) (by omega) (by omega)
    have hl2 := numB_len (ys.length : Int) 2
    generalize numB (ys.length : Int) 2 = q at hn hl2
    match q, hl2 with
    | [x, y], _ =>
      have ef : fromN (((fl + 16) :: t :: ([x, y] ++ ys)) ++ r) = 4 := by
        show (if longB (fl + 16) = true then 4 else 3) = 4
        rw [hb2]; rfl
      refine ⟨by rw [ef]; simp, ?_, rfl, rfl, by rw [ef]; rfl⟩
      unfold cutN
      rw [ef]
      have : (((fl + 16) :: t :: ([x, y] ++ ys) ++ r).take 4).drop 2 = [x, y] := rfl
      rw [this]
      simp only [List.length_cons, List.length_append, List.length_nil]
      omega
  · have e : hdN fl ys = fl := by unfold hdN; rw [if_neg h]
    rw [e, if_neg h, numB_one (by omega)]
    have ef : fromN ((fl :: t :: ([ys.length] ++ ys)) ++ r) = 3 := by
      show (if longB fl = true then 4 else 3) = 3
      rw [hb]; rfl
    refine ⟨by rw [ef]; simp, ?_, rfl, rfl, by rw [ef]; rfl⟩
    unfold cutN
    rw [ef]
    have : ((fl :: t :: ([ys.length] ++ ys) ++ r).take 3).drop 2 = [ys.length] := rfl
    rw [this]
    simp [readN]
    omega
/-! ### paths -/
set_option maxRecDepth 100000 in
theorem prN_cons (x y : Nat) (l : List Nat) (n : Nat) : prN (x :: y :: l) (n + 1) = (readN [x, y] : Int) :: prN l n := by
  unfold prN
  rw [List.range_succ_eq_map, List.map_cons, List.map_map]
  congr 1
set_option maxRecDepth 100000 in
theorem prN_flat (r : List Nat) : ∀ (s : List Int), (∀ x ∈ s, 0 ≤ x ∧ x < 65536) → prN ((s.flatMap fun n => numB n 2) ++ r) s.length = s
  | [], _ => by simp [prN]
  | x :: s, h => by
    have hx := h x List.mem_cons_self
    have e := numB_read (n := x) (k := 2) hx.1 (by have := hx.2; omega)
    have hl := numB_len x 2
    have ih := prN_flat r s fun y hy => h y (List.mem_cons_of_mem _ hy)
    rw [List.flatMap_cons, List.length_cons]
    generalize numB x 2 = q at e hl
    match q, hl with
    | [a, b], _ =>
      show prN (a :: b :: ((s.flatMap fun n => numB n 2) ++ r)) (s.length + 1) = x :: s
      rw [prN_cons, ih, e]
set_option maxRecDepth 100000 in
theorem flat2_len (s : List Int) : (s.flatMap fun n => numB n 2).length = 2 * s.length := by
  induction s with
  | nil => rfl
  | cons x s ih => rw [List.flatMap_cons, List.length_append, ih, numB_len, List.length_cons]; omega
set_option maxRecDepth 100000 in
theorem rdPath_pathL : ∀ (p : List Sg), pathB p = true → rdPath (pathL p) = some p
  | [], _ => by unfold pathL; exact rdPath_nil
  | s :: p, h => by
    unfold pathB at h
    rw [List.all_cons, Bool.and_eq_true] at h
    obtain ⟨h1, h2⟩ := h
    have ih := rdPath_pathL p h2
    unfold segB at h1
    simp only [Bool.and_eq_true, decide_eq_true_eq, List.all_eq_true] at h1
    obtain ⟨⟨l1, l2⟩, l3⟩ := h1
    have hr : ∀ x ∈ s.2, 0 ≤ x ∧ x < 65536 := fun x hx => by
      have := l3 x hx
      unfold asB at this
      simp only [Bool.and_eq_true, decide_eq_true_eq] at this
      omega
    have e : pathL (s :: p) = (if s.1 then 1 else 2) :: s.2.length :: ((s.2.flatMap fun n => numB n 2) ++ pathL p) := by
      show segL s ++ pathL p = _
      unfold segL
      rw [numB_one (n := s.2.length) (by omega)]
      cases s.1
      · show (numB ((2 : Nat) : Int) 1 ++ _) ++ _ = _
        rw [numB_one (by decide)]; rfl
      · show (numB ((1 : Nat) : Int) 1 ++ _) ++ _ = _
        rw [numB_one (by decide)]; rfl
    rw [e, rdPath_two, if_pos (by cases s.1 <;> simp), if_neg (by rw [List.length_append, flat2_len]; omega)]
    have hd : ((s.2.flatMap fun n => numB n 2) ++ pathL p).drop (2 * s.2.length) = pathL p := by rw [← flat2_len, List.drop_left]
    rw [hd, ih, prN_flat _ _ hr]
    simp only [Option.map_some, Option.some.injEq]
    obtain ⟨b, l⟩ := s
    cases b <;> rfl
/-! ### communities -/
set_option maxRecDepth 100000 in
theorem quN_cons (x y z u : Nat) (l : List Nat) (n : Nat) : quN (x :: y :: z :: u :: l) (n + 1) = (readN [x, y, z, u] : Int) :: quN l n := by
  unfold quN
  rw [List.range_succ_eq_map, List.map_cons, List.map_map]
  congr 1
set_option maxRecDepth 100000 in
theorem quN_flat : ∀ (s : List Int), (∀ x ∈ s, 0 ≤ x ∧ x < 4294967296) → quN (s.flatMap fun n => numB n 4) s.length = s
  | [], _ => by simp [quN]
  | x :: s, h => by
    have hx := h x List.mem_cons_self
    have e := numB_read (n := x) (k := 4) hx.1 (by have := hx.2; omega)
    have hl := numB_len x 4
    have ih := quN_flat s fun y hy => h y (List.mem_cons_of_mem _ hy)
    rw [List.flatMap_cons, List.length_cons]
    generalize numB x 4 = q at e hl
    match q, hl with
    | [a, b, c, d], _ =>
      show quN (a :: b :: c :: d :: (s.flatMap fun n => numB n 4)) (s.length + 1) = x :: s
      rw [quN_cons, ih, e]
set_option maxRecDepth 100000 in
theorem flat4_len (s : List Int) : (s.flatMap fun n => numB n 4).length = 4 * s.length := by
  induction s with
  | nil => rfl
  | cons x s ih => rw [List.flatMap_cons, List.length_append, ih, numB_len, List.length_cons]; omega
set_option maxRecDepth 100000 in
theorem comms_rng {c : List Int} (h : commsB c = true) : ∀ x ∈ c, 0 ≤ x ∧ x < 4294967296 := by
  unfold commsB at h
  simp only [Bool.and_eq_true, decide_eq_true_eq, List.all_eq_true] at h
  intro x hx
  have := h.1 x hx
  unfold withinB at this
  simp only [Bool.and_eq_true, decide_eq_true_eq] at this
  omega
end Go.Proofs.YtohkbcdnlmjcjaaDoor

/-
  ATTRIBUTES: one attribute's bytes ahead of others are read as it, plain.
-/
namespace Go.Proofs.YtohkbcdnlmjcjaaDoor
open Go.RowKit

/-- one attribute: a known one, or another. -/
inductive It where
  | kn (t : Nat)
  | ot (o : Oth)
def It.ty : It → Nat
  | .kn t => t
  | .ot o => o.1.toNat
def It.bytes (a : At) : It → List Nat
  | .kn t => layL (flgL.getD t 0) t (valL a t)
  | .ot o => othL o
/-- it may be there. -/
def It.good (a : At) : It → Prop
  | .kn t => 1 ≤ t ∧ t ≤ 8 ∧ isB a.has t = true
  | .ot o => 9 ≤ o.1 ∧ o.1 ≤ 255
/-- a field of another's. -/
def setF (s : At) (t : Nat) (a : At) : At :=
  if t = 1 then { s with origin := a.origin } else if t = 2 then { s with path := a.path } else if t = 3 then { s with hop := a.hop } else if t = 4 then { s with med := a.med }
  else if t = 5 then { s with loc := a.loc } else if t = 7 then { s with aggrAs := a.aggrAs, aggrId := a.aggrId } else if t = 8 then { s with comms := a.comms } else s
def It.app (a s : At) : It → At
  | .kn t => { setF s t a with has := bits .or .i64 s.has (2 ^ t) }
  | .ot o => { s with others := s.others ++ [o] }
set_option maxRecDepth 100000 in
theorem check_good {a : At} (h : checkB a = true) {t : Nat} (h1 : 1 ≤ t) (h8 : t ≤ 8) (hi : isB a.has t = true) : goodB a t = true := by
  have := check_ok h h1 h8
  unfold okT at this
  rw [hi] at this
  exact this
set_option maxRecDepth 100000 in
theorem within_of {n m : Int} (h : withinB n m = true) : 0 ≤ n ∧ n ≤ m := by
  unfold withinB at h
  simpa only [Bool.and_eq_true, decide_eq_true_eq] using h
set_option maxRecDepth 100000 in
theorem eight {t : Nat} (h1 : 1 ≤ t) (h8 : t ≤ 8) : t = 1 ∨ t = 2 ∨ t = 3 ∨ t = 4 ∨ t = 5 ∨ t = 6 ∨ t = 7 ∨ t = 8 := by omega
set_option maxRecDepth 100000 in
theorem setP_val {a : At} (hc : checkB a = true) (hr : a.Rng) (s : At) {t : Nat} (h1 : 1 ≤ t) (h8 : t ≤ 8) (hi : isB a.has t = true) : setP s t (valL a t) = (true, setF s t a) := by
  have hg := check_good hc h1 h8 hi
  obtain rfl | rfl | rfl | rfl | rfl | rfl | rfl | rfl := eight h1 h8
  · have := within_of (show withinB a.origin 2 = true from hg)
    show (true, ({ s with origin := (readN (numB a.origin 1) : Int) } : At)) = (true, { s with origin := a.origin })
    rw [numB_read this.1 (by omega)]
  · show (match rdPath (pathL a.path) with | none => (false, ({ s with path := [] } : At)) | some p => (pathB p, { s with path := p })) = (true, { s with path := a.path })
    have hp : pathB a.path = true := hg
    rw [rdPath_pathL _ hp]
    simp only
    rw [hp]
  · show (true, ({ s with hop := readN (numB (a.hop : Int) 4) } : At)) = (true, { s with hop := a.hop })
    rw [numB_nat, Nat.mod_eq_of_lt hr.2.2.1]
  · have := within_of (show withinB a.med 4294967295 = true from hg)
    show (true, ({ s with med := (readN (numB a.med 4) : Int) } : At)) = (true, { s with med := a.med })
    rw [numB_read this.1 (by omega)]
  · have := within_of (show withinB a.loc 4294967295 = true from hg)
    show (true, ({ s with loc := (readN (numB a.loc 4) : Int) } : At)) = (true, { s with loc := a.loc })
    rw [numB_read this.1 (by omega)]
  · rfl
  · have := within_of (show withinB a.aggrAs 65535 = true from hg)
    show (true, ({ s with aggrAs := (readN ((numB a.aggrAs 2 ++ numB (a.aggrId : Int) 4).take 2) : Int), aggrId := readN ((numB a.aggrAs 2 ++ numB (a.aggrId : Int) 4).drop 2) } : At)) = (true, { s with aggrAs := a.aggrAs, aggrId := a.aggrId })
    rw [List.take_left' (numB_len _ _), List.drop_left' (numB_len _ _), numB_read this.1 (by omega), numB_nat, Nat.mod_eq_of_lt hr.2.2.2.2.2.2]
  · have hcm : commsB a.comms = true := hg
    show (true, ({ s with comms := quN (a.comms.flatMap fun c => numB c 4) ((a.comms.flatMap fun c => numB c 4).length / 4) } : At)) = (true, { s with comms := a.comms })
    rw [flat4_len, Nat.mul_div_cancel_left _ (by decide), quN_flat _ (comms_rng hcm)]
set_option maxRecDepth 100000 in
theorem sz_val {a : At} {t : Nat} (h1 : 1 ≤ t) (h8 : t ≤ 8) : szBad t (valL a t).length = false := by
  obtain rfl | rfl | rfl | rfl | rfl | rfl | rfl | rfl := eight h1 h8
  · show szBad 1 (numB a.origin 1).length = false
    rw [numB_len]; decide
  · show szBad 2 (pathL a.path).length = false
    simp [szBad, sizL]
  · show szBad 3 (numB (a.hop : Int) 4).length = false
    rw [numB_len]; decide
  · show szBad 4 (numB a.med 4).length = false
    rw [numB_len]; decide
  · show szBad 5 (numB a.loc 4).length = false
    rw [numB_len]; decide
  · rfl
  · show szBad 7 (numB a.aggrAs 2 ++ numB (a.aggrId : Int) 4).length = false
    rw [List.length_append, numB_len, numB_len]; decide
  · show szBad 8 (a.comms.flatMap fun c => numB c 4).length = false
    rw [flat4_len]
    simp [szBad, sizL]
set_option maxRecDepth 100000 in
theorem flg_val {t : Nat} (h1 : 1 ≤ t) (h8 : t ≤ 8) : ∃ fl : Nat, flgL.getD t 0 = (fl : Int) ∧ fl + 16 < 256 ∧ longB fl = false ∧ longB (fl + 16) = true ∧ flgBad fl t = false ∧ flgBad (fl + 16) t = false := by
  obtain rfl | rfl | rfl | rfl | rfl | rfl | rfl | rfl := eight h1 h8
  · exact ⟨64, rfl, by decide, by decide +kernel, by decide +kernel, by decide +kernel, by decide +kernel⟩
  · exact ⟨64, rfl, by decide, by decide +kernel, by decide +kernel, by decide +kernel, by decide +kernel⟩
  · exact ⟨64, rfl, by decide, by decide +kernel, by decide +kernel, by decide +kernel, by decide +kernel⟩
  · exact ⟨128, rfl, by decide, by decide +kernel, by decide +kernel, by decide +kernel, by decide +kernel⟩
  · exact ⟨64, rfl, by decide, by decide +kernel, by decide +kernel, by decide +kernel, by decide +kernel⟩
  · exact ⟨64, rfl, by decide, by decide +kernel, by decide +kernel, by decide +kernel, by decide +kernel⟩
  · exact ⟨192, rfl, by decide, by decide +kernel, by decide +kernel, by decide +kernel, by decide +kernel⟩
  · exact ⟨192, rfl, by decide, by decide +kernel, by decide +kernel, by decide +kernel, by decide +kernel⟩
set_option maxRecDepth 100000 in
theorem take_val {a : At} (hc : checkB a = true) (hr : a.Rng) (s : At) {t : Nat} (h1 : 1 ≤ t) (h8 : t ≤ 8) (hi : isB a.has t = true) {hd : Nat} (hf : flgBad hd t = false) : takeP s hd t (valL a t) = (0, (It.kn t).app a s) := by
  have hg := check_good hc h1 h8 hi
  unfold takeP
  rw [if_neg (by rw [hf]; decide), if_neg (by rw [sz_val h1 h8]; decide), if_neg (by
    rintro ⟨rfl, h⟩
    have : (valL a 8).length = 4 * a.comms.length := flat4_len _
    have := comms_len (check_comms hc hi)
    omega), setP_val hc hr s h1 h8 hi]
  rw [if_neg (fun h => by cases h), if_neg (by
    rintro ⟨rfl, h⟩
    have e : goodB (setF s 1 a) 1 = goodB a 1 := rfl
    rw [e, hg] at h; cases h), if_neg (by
    rintro ⟨rfl, h⟩
    have e : goodB (setF s 3 a) 3 = goodB a 3 := rfl
    rw [e, hg] at h; cases h)]
  have : ∀ s t, (setF s t a).has = s.has := by
    intro s t
    unfold setF
    repeat' split
    all_goals rfl
  simp only [It.app, this]
set_option maxRecDepth 100000 in
theorem oth_val (s : At) (o : Oth) (h9 : 9 ≤ o.1) : othP s (hdN 224 o.2) o.1.toNat o.2 = (0, (It.ot o).app s s) := by
  unfold othP
  have h1 : (bits .and .u8 (hdN 224 o.2 : Int) 128 == 0) = false := by
    unfold hdN
    split <;> decide +kernel
  have h2 : (bits .and .u8 (hdN 224 o.2 : Int) 64 != 0) = true := by
    unfold hdN
    split <;> decide +kernel
  have h3 : (o.1.toNat != 0) = true := by simp; omega
  rw [h1, h2, h3]
  simp only [Bool.false_eq_true, if_false, Bool.and_self, if_true, It.app]
  rw [Int.toNat_of_nonneg (by omega)]
set_option maxRecDepth 100000 in
/-- one attribute's bytes, read. -/
theorem dec_item {a : At} (hc : checkB a = true) (hr : a.Rng) (it : It) (hg : it.good a) (hl : (it.bytes a).length ≤ 4096) (s : At) (seen : List Nat) (hs : it.ty ∉ seen) (r : List Nat) :
    decP s seen (it.bytes a ++ r) = decP (it.app a s) (it.ty :: seen) r := by
  have key : ∀ (fl t : Nat) (ys : List Nat), it.bytes a = layL fl t ys → it.ty = t → fl + 16 < 256 → t < 256 → longB fl = false → longB (fl + 16) = true → ((if 1 ≤ t ∧ t ≤ 8 then takeP s (hdN fl ys) t ys else othP s (hdN fl ys) t ys) = (0, it.app a s)) → decP s seen (it.bytes a ++ r) = decP (it.app a s) (it.ty :: seen) r := by
    intro fl t ys hb ht hf ht2 l1 l2 hst
    rw [hb] at hl ⊢
    rw [ht] at hs ⊢
    have hyl : ys.length ≤ (layL fl t ys).length := by
      rw [layL_eq hf ht2]
      simp only [List.length_cons, List.length_append]
      omega
    obtain ⟨c1, c2, c3, c4, c5⟩ := lay_cut hf ht2 (ys := ys) (by omega) l1 l2 r
    have hds : decStep s (layL fl t ys ++ r) = (0, it.app a s) := by
      unfold decStep
      rw [c4, c3, c2, List.take_left, c5]
      exact hst
    have hne : layL fl t ys ++ r ≠ [] := by rw [layL_eq hf ht2]; simp
    rw [decP_next hne (by
      rw [c4, c2]
      rintro (h | h | h)
      · omega
      · rw [List.length_append] at h; omega
      · exact hs h) (by rw [hds]), hds, c4, c2, List.drop_left]
  cases it with
  | kn t =>
    obtain ⟨h1, h8, hi⟩ := hg
    obtain ⟨fl, e, hf, l1, l2, b1, b2⟩ := flg_val h1 h8
    refine key fl t (valL a t) (by show layL _ _ _ = _; rw [e]) rfl hf (by omega) l1 l2 ?_
    rw [if_pos ⟨h1, h8⟩]
    refine take_val hc hr s h1 h8 hi ?_
    unfold hdN
    split
    · exact b2
    · exact b1
  | ot o =>
    obtain ⟨h9, h255⟩ := hg
    have ht : (o.1.toNat : Int) = o.1 := Int.toNat_of_nonneg (by omega)
    refine key 224 o.1.toNat o.2 (by show layL 224 o.1 o.2 = layL ((224 : Nat) : Int) (o.1.toNat : Int) o.2; rw [ht]; rfl) rfl (by decide) (by omega) (by decide +kernel) (by decide +kernel) ?_
    rw [if_neg (by omega)]
    exact oth_val s o h9
end Go.Proofs.YtohkbcdnlmjcjaaDoor

/-
  ATTRIBUTES: lists of attributes read, in whatever order, plain.
-/
namespace Go.Proofs.YtohkbcdnlmjcjaaDoor
open Go.RowKit

set_option maxRecDepth 100000 in
theorem dec_items {a : At} (hc : checkB a = true) (hr : a.Rng) : ∀ (its : List It), (∀ it ∈ its, it.good a ∧ (it.bytes a).length ≤ 4096) → (its.map It.ty).Nodup → ∀ (s : At) (seen : List Nat), (∀ it ∈ its, it.ty ∉ seen) → ∀ r,
    decP s seen (its.flatMap (It.bytes a) ++ r) = decP (its.foldl (fun s it => it.app a s) s) ((its.map It.ty).reverse ++ seen) r
  | [], _, _, s, seen, _, r => by simp
  | it :: its, h, hn, s, seen, hs, r => by
    rw [List.map_cons, List.nodup_cons] at hn
    obtain ⟨h1, h2⟩ := h it List.mem_cons_self
    rw [List.flatMap_cons, List.append_assoc, dec_item hc hr it h1 h2 s seen (hs it List.mem_cons_self),
      dec_items hc hr its (fun x hx => h x (List.mem_cons_of_mem _ hx)) hn.2 _ _ (fun x hx hm => by
        rcases List.mem_cons.1 hm with e | e
        · exact hn.1 (e ▸ List.mem_map_of_mem hx)
        · exact hs x (List.mem_cons_of_mem _ hx) e)]
    simp
/-- all attributes, in the order in which they are written. -/
def itsOf (a : At) : List It := ((List.range' 1 8).filter fun t => isB a.has (t : Nat)).map .kn ++ a.others.map .ot
set_option maxRecDepth 100000 in
theorem enc_its (a : At) : encL a = (itsOf a).flatMap (It.bytes a) := by
  unfold encL itsOf
  rw [List.flatMap_append]
  congr 1
  · unfold knsL
    generalize List.range' 1 8 = l
    induction l with
    | nil => rfl
    | cons t l ih =>
      rw [List.flatMap_cons, ih, List.filter_cons]
      unfold knL
      by_cases h : isB a.has (t : Nat) = true
      · rw [if_pos h, if_pos h, List.map_cons, List.flatMap_cons]; rfl
      · rw [if_neg h, if_neg h]; rfl
  · rw [List.flatMap_map]; rfl
set_option maxRecDepth 100000 in
theorem its_kn {a : At} {t : Nat} : It.kn t ∈ itsOf a ↔ 1 ≤ t ∧ t ≤ 8 ∧ isB a.has (t : Nat) = true := by
  unfold itsOf
  simp only [List.mem_append, List.mem_map, List.mem_filter, List.mem_range'_1, It.kn.injEq, reduceCtorEq, and_false, exists_false, or_false]
  constructor
  · rintro ⟨x, ⟨h1, h2⟩, rfl⟩
    exact ⟨h1.1, by omega, h2⟩
  · rintro ⟨h1, h2, h3⟩
    exact ⟨t, ⟨⟨h1, by omega⟩, h3⟩, rfl⟩
set_option maxRecDepth 100000 in
theorem its_ot {a : At} {o : Oth} : It.ot o ∈ itsOf a ↔ o ∈ a.others := by
  unfold itsOf
  simp
set_option maxRecDepth 100000 in
theorem oth_range : ∀ (os : List Oth) (l : Int), othB l os = true → (∀ o ∈ os, l < o.1 ∧ o.1 ≤ 255) ∧ os.Pairwise (fun x y => x.1 < y.1)
  | [], _, _ => ⟨fun o h => by simp at h, List.Pairwise.nil⟩
  | o :: os, l, h => by
    unfold othB at h
    simp only [Bool.and_eq_true, decide_eq_true_eq] at h
    obtain ⟨⟨h1, h2⟩, h3⟩ := h
    obtain ⟨i1, i2⟩ := oth_range os o.1 h3
    refine ⟨fun x hx => ?_, List.pairwise_cons.2 ⟨fun x hx => (i1 x hx).1, i2⟩⟩
    rcases List.mem_cons.1 hx with rfl | hx
    · exact ⟨h1, h2⟩
    · have := i1 x hx; omega
set_option maxRecDepth 100000 in
theorem its_good {a : At} (hc : checkB a = true) : ∀ it ∈ itsOf a, it.good a := by
  intro it hi
  cases it with
  | kn t => exact its_kn.1 hi
  | ot o =>
    have := (oth_range _ _ (check_oth hc)).1 o (its_ot.1 hi)
    exact ⟨by omega, this.2⟩
set_option maxRecDepth 100000 in
theorem its_nodup {a : At} (hc : checkB a = true) : ((itsOf a).map It.ty).Nodup := by
  unfold itsOf
  rw [List.map_append, List.map_map, List.map_map, List.nodup_append]
  obtain ⟨h1, h2⟩ := oth_range _ _ (check_oth hc)
  refine ⟨?_, ?_, ?_⟩
  · have : (It.ty ∘ It.kn) = id := rfl
    rw [this, List.map_id]
    exact (List.nodup_range' (step := 1)).sublist List.filter_sublist
  · unfold List.Nodup
    rw [List.pairwise_map]
    refine h2.imp_of_mem fun {x y} hx hy h => ?_
    have := h1 x hx
    have := h1 y hy
    show x.1.toNat ≠ y.1.toNat
    omega
  · intro x hx y hy e
    obtain ⟨t, ht, rfl⟩ := List.mem_map.1 hx
    obtain ⟨o, ho, rfl⟩ := List.mem_map.1 hy
    have := h1 o ho
    have ht := List.mem_range'_1.1 (List.mem_filter.1 ht).1
    have e : t = o.1.toNat := e
    omega
set_option maxRecDepth 100000 in
theorem enc_each {a : At} (hl : (encL a).length ≤ 4096) : ∀ it ∈ itsOf a, (it.bytes a).length ≤ 4096 := by
  intro it hi
  rw [enc_its] at hl
  have : ∀ (l : List It), it ∈ l → (it.bytes a).length ≤ (l.flatMap (It.bytes a)).length := by
    intro l
    induction l with
    | nil => intro h; simp at h
    | cons x l ih =>
      intro h
      rw [List.flatMap_cons, List.length_append]
      rcases List.mem_cons.1 h with rfl | h
      · omega
      · have := ih h; omega
  have := this _ hi
  omega
/-! ### what the list leaves -/
set_option maxRecDepth 100000 in
/-- a field that one kind alone turns. -/
theorem fold_field {β : Type} {a : At} (f : At → β) (t : Nat) (h1 : ∀ s, f ((It.kn t).app a s) = f a) (h2 : ∀ (s : At) (it : It), it ≠ .kn t → f (it.app a s) = f s) : ∀ (its : List It) (s : At), (It.kn t ∈ its → f (its.foldl (fun s it => it.app a s) s) = f a) ∧ (It.kn t ∉ its → f (its.foldl (fun s it => it.app a s) s) = f s)
  | [], s => ⟨fun h => by simp at h, fun _ => rfl⟩
  | it :: its, s => by
    obtain ⟨i1, i2⟩ := fold_field f t h1 h2 its (it.app a s)
    rw [List.foldl_cons]
    by_cases hm : It.kn t ∈ its
    · exact ⟨fun _ => i1 hm, fun h => absurd (List.mem_cons_of_mem _ hm) h⟩
    · rw [i2 hm]
      by_cases e : it = .kn t
      · subst e
        exact ⟨fun _ => h1 s, fun h => absurd List.mem_cons_self h⟩
      · refine ⟨fun h => ?_, fun _ => h2 s it e⟩
        rcases List.mem_cons.1 h with h | h
        · exact absurd h.symm e
        · exact absurd h hm
def othsOf : List It → List Oth
  | [] => []
  | .kn _ :: l => othsOf l
  | .ot o :: l => o :: othsOf l
set_option maxRecDepth 100000 in
theorem fold_oth {a : At} : ∀ (its : List It) (s : At), (its.foldl (fun s it => it.app a s) s).others = s.others ++ othsOf its
  | [], s => by simp [othsOf]
  | .kn t :: its, s => by
    rw [List.foldl_cons, fold_oth its]
    have : ((It.kn t).app a s).others = s.others := by
      show (setF s t a).others = s.others
      unfold setF
      repeat' split
      all_goals rfl
    rw [this]; rfl
  | .ot o :: its, s => by
    rw [List.foldl_cons, fold_oth its]
    show (s.others ++ [o]) ++ othsOf its = s.others ++ (o :: othsOf its)
    rw [List.append_assoc]; rfl
def knsOf : List It → List Nat
  | [] => []
  | .kn t :: l => t :: knsOf l
  | .ot _ :: l => knsOf l
set_option maxRecDepth 100000 in
theorem mem_kns {t : Nat} : ∀ {l : List It}, t ∈ knsOf l ↔ It.kn t ∈ l
  | [] => by simp [knsOf]
  | .kn u :: l => by
    simp only [knsOf, List.mem_cons, mem_kns (l := l), It.kn.injEq]
  | .ot o :: l => by
    simp only [knsOf, List.mem_cons, mem_kns (l := l), reduceCtorEq, false_or]
set_option maxRecDepth 100000 in
theorem fold_has {a : At} : ∀ (its : List It) (s : At), (its.foldl (fun s it => it.app a s) s).has = (knsOf its).foldl (fun h t => bits .or .i64 h (2 ^ t)) s.has
  | [], s => rfl
  | .kn t :: its, s => by
    rw [List.foldl_cons, fold_has its]; rfl
  | .ot o :: its, s => by
    rw [List.foldl_cons, fold_has its]; rfl
end Go.Proofs.YtohkbcdnlmjcjaaDoor

/-
  ATTRIBUTES: all that was written is read again, in whatever order, plain.
-/
namespace Go.Proofs.YtohkbcdnlmjcjaaDoor
open Go.RowKit

set_option maxRecDepth 100000 in
theorem wrap0 {n : Nat} (h : n < 18446744073709551616) (hw : IntKind.i64.wrap (n : Int) = 0) : n = 0 := by
  unfold IntKind.wrap IntKind.bits IntKind.signed at hw
  simp at hw
  omega
set_option maxRecDepth 100000 in
theorem known_has {x : Int} (h : knownM x = true) (hr : I64r x) : ∃ n : Nat, x = n ∧ n < 512 ∧ n.testBit 0 = false := by
  have h0 : bits .andNot .i64 x 510 = 0 := by unfold knownM at h; simpa using h
  have h1 : IntKind.i64.wrap (((BitVec.ofInt 64 x &&& ~~~ BitVec.ofInt 64 510).toNat : Nat) : Int) = 0 := h0
  have h2 := wrap0 (BitVec.isLt _) h1
  have h3 : BitVec.ofInt 64 x &&& ~~~ BitVec.ofInt 64 510 = 0#64 := BitVec.eq_of_toNat_eq h2
  have hb : ∀ i, i < 64 → (BitVec.ofInt 64 510).getLsbD i = false → (BitVec.ofInt 64 x).getLsbD i = false := by
    intro i hi h5
    have := congrArg (fun b : BitVec 64 => b.getLsbD i) h3
    simp only [BitVec.getLsbD_and, BitVec.getLsbD_not, hi, decide_true, h5, Bool.not_false, Bool.and_true, BitVec.getLsbD_zero] at this
    exact this
  have h510 : ∀ i, 9 ≤ i → (BitVec.ofInt 64 510).getLsbD i = false := by
    intro i hi
    show (510#64).getLsbD i = false
    rw [BitVec.getLsbD_ofNat]
    have : Nat.testBit 510 i = false := Nat.testBit_lt_two_pow (Nat.lt_of_lt_of_le (by decide : 510 < 2 ^ 9) (Nat.pow_le_pow_right (by decide) hi))
    rw [this, Bool.and_false]
  have hlt : (BitVec.ofInt 64 x).toNat < 2 ^ 9 := by
    refine Nat.lt_pow_two_of_testBit _ fun i hi => ?_
    show (BitVec.ofInt 64 x).getLsbD i = false
    by_cases h64 : i < 64
    · exact hb i h64 (h510 i hi)
    · exact BitVec.getLsbD_of_ge _ _ (by omega)
  have h00 : (BitVec.ofInt 64 x).getLsbD 0 = false := hb 0 (by decide) (by decide +kernel)
  refine ⟨(BitVec.ofInt 64 x).toNat, ?_, by simpa using hlt, h00⟩
  rw [ofInt64_nat] at hlt ⊢
  unfold I64r at hr
  omega
set_option maxRecDepth 100000 in
theorem or_nat {x y : Nat} (hx : x < 512) (hy : y < 512) : bits .or .i64 (x : Int) (y : Int) = ((x ||| y : Nat) : Int) ∧ x ||| y < 512 := by
  have hl : x ||| y < 2 ^ 9 := Nat.or_lt_two_pow (by simpa using hx) (by simpa using hy)
  refine ⟨?_, by simpa using hl⟩
  show IntKind.i64.wrap (((BitVec.ofInt 64 (x : Int) ||| BitVec.ofInt 64 (y : Int)).toNat : Nat) : Int) = _
  rw [BitVec.toNat_or, ofInt64_nat, ofInt64_nat]
  have e1 : ((x : Int) % 18446744073709551616).toNat = x := by omega
  have e2 : ((y : Int) % 18446744073709551616).toNat = y := by omega
  rw [e1, e2, IntWalk.i64_in _ (by have : x ||| y < 512 := by simpa using hl
                                   omega)]
set_option maxRecDepth 100000 in
theorem or_fold : ∀ (ts : List Nat) (h : Nat), h < 512 → (∀ t ∈ ts, t ≤ 8) → ∃ n : Nat, ts.foldl (fun (h : Int) t => bits .or .i64 h (2 ^ t)) (h : Int) = (n : Int) ∧ n < 512 ∧ ∀ j, n.testBit j = (h.testBit j || decide (j ∈ ts))
  | [], h, hh, _ => ⟨h, rfl, hh, fun j => by simp⟩
  | t :: ts, h, hh, ht => by
    have h8 := ht t List.mem_cons_self
    have hp : 2 ^ t < 512 := Nat.lt_of_le_of_lt (Nat.pow_le_pow_right (by decide) h8) (by decide)
    obtain ⟨o1, o2⟩ := or_nat hh hp
    obtain ⟨n, n1, n2, n3⟩ := or_fold ts (h ||| 2 ^ t) o2 fun x hx => ht x (List.mem_cons_of_mem _ hx)
    refine ⟨n, ?_, n2, fun j => ?_⟩
    · rw [List.foldl_cons, ← n1, ← o1]; push_cast; rfl
    · rw [n3 j, Nat.testBit_or, Nat.testBit_two_pow, Bool.or_assoc]
      congr 1
      rw [Bool.eq_iff_iff]
      simp only [Bool.or_eq_true, decide_eq_true_eq, List.mem_cons]
      exact or_congr (eq_comm) Iff.rfl
set_option maxRecDepth 100000 in
theorem bit_nat (n t : Nat) : bitB (n : Int) t = n.testBit t := by
  unfold bitB
  have e : ((n : Int) / 2 ^ t) = ((n / 2 ^ t : Nat) : Int) := by push_cast; rfl
  have := and_low_i64 ((n / 2 ^ t : Nat) : Int) 1 (by decide)
  have e2 : ((2 ^ 1 - 1 : Nat) : Int) = 1 := rfl
  rw [e2] at this
  rw [e, this, Nat.testBit_eq_decide_div_mod_eq, Bool.eq_iff_iff]
  simp only [beq_iff_eq, decide_eq_true_eq]
  have e3 : ((2 ^ 1 : Nat) : Int) = 2 := rfl
  rw [e3]
  omega
set_option maxRecDepth 100000 in
theorem is_nat (n t : Nat) (h1 : 1 ≤ t) (h8 : t ≤ 8) : isB (n : Int) (t : Int) = n.testBit t := by
  unfold isB
  rw [known_iff.2 ⟨h1, h8⟩, Int.toNat_natCast, bit_nat, Bool.true_and]
set_option maxRecDepth 100000 in
theorem sf_origin (s a : At) (u : Nat) (h : u ≠ 1) : (setF s u a).origin = s.origin := by
  unfold setF
  repeat' split
  all_goals first | rfl | (rename_i e; exact absurd e h)
set_option maxRecDepth 100000 in
theorem sf_path (s a : At) (u : Nat) (h : u ≠ 2) : (setF s u a).path = s.path := by
  unfold setF
  repeat' split
  all_goals first | rfl | (rename_i e; exact absurd e h)
set_option maxRecDepth 100000 in
theorem sf_hop (s a : At) (u : Nat) (h : u ≠ 3) : (setF s u a).hop = s.hop := by
  unfold setF
  repeat' split
  all_goals first | rfl | (rename_i e; exact absurd e h)
set_option maxRecDepth 100000 in
theorem sf_med (s a : At) (u : Nat) (h : u ≠ 4) : (setF s u a).med = s.med := by
  unfold setF
  repeat' split
  all_goals first | rfl | (rename_i e; exact absurd e h)
set_option maxRecDepth 100000 in
theorem sf_loc (s a : At) (u : Nat) (h : u ≠ 5) : (setF s u a).loc = s.loc := by
  unfold setF
  repeat' split
  all_goals first | rfl | (rename_i e; exact absurd e h)
set_option maxRecDepth 100000 in
theorem sf_aggrAs (s a : At) (u : Nat) (h : u ≠ 7) : (setF s u a).aggrAs = s.aggrAs := by
  unfold setF
  repeat' split
  all_goals first | rfl | (rename_i e; exact absurd e h)
set_option maxRecDepth 100000 in
theorem sf_aggrId (s a : At) (u : Nat) (h : u ≠ 7) : (setF s u a).aggrId = s.aggrId := by
  unfold setF
  repeat' split
  all_goals first | rfl | (rename_i e; exact absurd e h)
set_option maxRecDepth 100000 in
theorem sf_comms (s a : At) (u : Nat) (h : u ≠ 8) : (setF s u a).comms = s.comms := by
  unfold setF
  repeat' split
  all_goals first | rfl | (rename_i e; exact absurd e h)
set_option maxRecDepth 100000 in
/-- what a list of all attributes leaves, in whatever order. -/
theorem fold_all {a : At} (hc : checkB a = true) (hr : a.Rng) (its : List It) (hm : ∀ it, it ∈ its ↔ it ∈ itsOf a) : its.foldl (fun s it => it.app a s) atO = { a with others := othsOf its } := by
  have hk : ∀ t, It.kn t ∈ its ↔ 1 ≤ t ∧ t ≤ 8 ∧ isB a.has (t : Nat) = true := fun t => (hm _).trans its_kn
  have hz : ∀ t, 1 ≤ t → t ≤ 8 → It.kn t ∉ its → zeroB a t = true := fun t h1 h8 hn => by
    have := check_ok hc h1 h8
    unfold okT at this
    rw [if_neg (fun hi => hn ((hk t).2 ⟨h1, h8, hi⟩))] at this
    exact this
  generalize hS : its.foldl (fun s it => it.app a s) atO = S
  have fld : ∀ {β : Type} (f : At → β) (t : Nat), (∀ s, f ((It.kn t).app a s) = f a) → (∀ (s : At) (it : It), it ≠ .kn t → f (it.app a s) = f s) → (It.kn t ∉ its → f atO = f a) → f S = f a := by
    intro β f t h1 h2 h3
    obtain ⟨i1, i2⟩ := fold_field f t h1 h2 its atO
    rw [hS] at i1 i2
    by_cases h : It.kn t ∈ its
    · exact i1 h
    · rw [i2 h]; exact h3 h
  have ap : ∀ {β : Type} (f : At → β) (t : Nat), (∀ s u, u ≠ t → f ({ setF s u a with has := bits .or .i64 s.has (2 ^ u) }) = f s) → (∀ s o, f ({ s with others := s.others ++ [o] }) = f s) → ∀ (s : At) (it : It), it ≠ .kn t → f (it.app a s) = f s := by
    intro β f t h1 h2 s it hne
    cases it with
    | kn u => exact h1 s u fun e => hne (by rw [e])
    | ot o => exact h2 s o
  have f1 : S.origin = a.origin := by
    refine fld (fun x => x.origin) 1 (fun s => rfl) (ap (fun x => x.origin) 1 (fun s u hu => sf_origin s a u hu) (fun _ _ => rfl)) fun h => ?_
    have := hz 1 (by decide) (by decide) h
    exact (by simpa [zeroB] using this : a.origin = 0).symm
  have f2 : S.path = a.path := by
    refine fld (fun x => x.path) 2 (fun s => rfl) (ap (fun x => x.path) 2 (fun s u hu => sf_path s a u hu) (fun _ _ => rfl)) fun h => ?_
    have := hz 2 (by decide) (by decide) h
    exact (by simpa [zeroB] using this : a.path = []).symm
  have f3 : S.hop = a.hop := by
    refine fld (fun x => x.hop) 3 (fun s => rfl) (ap (fun x => x.hop) 3 (fun s u hu => sf_hop s a u hu) (fun _ _ => rfl)) fun h => ?_
    have := hz 3 (by decide) (by decide) h
    exact (by simpa [zeroB] using this : a.hop = 0).symm
  have f4 : S.med = a.med := by
    refine fld (fun x => x.med) 4 (fun s => rfl) (ap (fun x => x.med) 4 (fun s u hu => sf_med s a u hu) (fun _ _ => rfl)) fun h => ?_
    have := hz 4 (by decide) (by decide) h
    exact (by simpa [zeroB] using this : a.med = 0).symm
  have f5 : S.loc = a.loc := by
    refine fld (fun x => x.loc) 5 (fun s => rfl) (ap (fun x => x.loc) 5 (fun s u hu => sf_loc s a u hu) (fun _ _ => rfl)) fun h => ?_
    have := hz 5 (by decide) (by decide) h
    exact (by simpa [zeroB] using this : a.loc = 0).symm
  have f7 : S.aggrAs = a.aggrAs := by
    refine fld (fun x => x.aggrAs) 7 (fun s => rfl) (ap (fun x => x.aggrAs) 7 (fun s u hu => sf_aggrAs s a u hu) (fun _ _ => rfl)) fun h => ?_
    have := hz 7 (by decide) (by decide) h
    exact (by simpa [zeroB] using this : a.aggrAs = 0 ∧ a.aggrId = 0).1.symm
  have f7' : S.aggrId = a.aggrId := by
    refine fld (fun x => x.aggrId) 7 (fun s => rfl) (ap (fun x => x.aggrId) 7 (fun s u hu => sf_aggrId s a u hu) (fun _ _ => rfl)) fun h => ?_
    have := hz 7 (by decide) (by decide) h
    exact (by simpa [zeroB] using this : a.aggrAs = 0 ∧ a.aggrId = 0).2.symm
  have f8 : S.comms = a.comms := by
    refine fld (fun x => x.comms) 8 (fun s => rfl) (ap (fun x => x.comms) 8 (fun s u hu => sf_comms s a u hu) (fun _ _ => rfl)) fun h => ?_
    have := hz 8 (by decide) (by decide) h
    exact (by simpa [zeroB] using this : a.comms = []).symm
  have fo : S.others = othsOf its := by rw [← hS, fold_oth]; rfl
  have fh : S.has = a.has := by
    have e := fold_has (a := a) its atO
    rw [hS] at e
    obtain ⟨n, n1, n2, n3⟩ := or_fold (knsOf its) 0 (by decide) fun t ht => ((hk t).1 (mem_kns.1 ht)).2.1
    obtain ⟨m, m1, m2, m3⟩ := known_has (x := a.has) (by unfold checkB at hc; simp only [Bool.and_eq_true] at hc; exact hc.1) hr.1
    rw [e, show atO.has = ((0 : Nat) : Int) from rfl, n1, m1]
    congr 1
    refine Nat.eq_of_testBit_eq fun j => ?_
    rw [n3 j, Nat.zero_testBit, Bool.false_or]
    by_cases hj : 1 ≤ j ∧ j ≤ 8
    · rw [← is_nat m j hj.1 hj.2, ← m1, Bool.eq_iff_iff, decide_eq_true_eq, mem_kns, hk]
      exact ⟨fun h => h.2.2, fun h => ⟨hj.1, hj.2, h⟩⟩
    · have : decide (j ∈ knsOf its) = false := decide_eq_false fun h => hj (by have := (hk j).1 (mem_kns.1 h); exact ⟨this.1, this.2.1⟩)
      rw [this]
      by_cases h0 : j = 0
      · subst h0; exact m3.symm
      · exact (Nat.testBit_lt_two_pow (Nat.lt_of_lt_of_le (show m < 2 ^ 9 from m2) (Nat.pow_le_pow_right (by decide) (by omega)))).symm
  cases S
  simp only at f1 f2 f3 f4 f5 f7 f7' f8 fo fh
  subst f1; subst f2; subst f3; subst f4; subst f5; subst f7; subst f7'; subst f8; subst fo; subst fh
  rfl
end Go.Proofs.YtohkbcdnlmjcjaaDoor
