/- Texts of one proof, one behind another. -/
import Derived.Test.YtohkbcdnlmjcjaaDoorWr20
import Derived.Test.YtohkbcdnlmjcjaaDoorWr9
/-
  ATTRIBUTES: one after another; one of a kind twice, plain.
-/
namespace Go.Proofs.YtohkbcdnlmjcjaaDoor
open Go.RowKit

set_option maxRecDepth 100000 in
/-- where one attribute's bytes, ahead of others, end. -/
theorem item_cut {a : At} (it : It) (hg : it.good a) (hl : (it.bytes a).length ≤ 4096) (r : List Nat) :
    fromN (it.bytes a ++ r) ≤ (it.bytes a ++ r).length ∧ cutN (it.bytes a ++ r) = (it.bytes a).length ∧ (it.bytes a ++ r).getD 1 0 = it.ty := by
  have key : ∀ (fl t : Nat) (ys : List Nat), it.bytes a = layL fl t ys → it.ty = t → fl + 16 < 256 → t < 256 → longB fl = false → longB (fl + 16) = true → fromN (it.bytes a ++ r) ≤ (it.bytes a ++ r).length ∧ cutN (it.bytes a ++ r) = (it.bytes a).length ∧ (it.bytes a ++ r).getD 1 0 = it.ty := by
    intro fl t ys hb ht hf ht2 l1 l2
    rw [hb] at hl ⊢
    rw [ht]
    have hyl : ys.length ≤ (layL fl t ys).length := by
      rw [layL_eq hf ht2]
      simp only [List.length_cons, List.length_append]
      omega
    obtain ⟨c1, c2, c3, c4, c5⟩ := lay_cut hf ht2 (ys := ys) (by omega) l1 l2 r
    exact ⟨c1, c2, c4⟩
  cases it with
  | kn t =>
    obtain ⟨h1, h8, hi⟩ := hg
    obtain ⟨fl, e, hf, l1, l2, b1, b2⟩ := flg_val h1 h8
    exact key fl t (valL a t) (by show layL _ _ _ = _; rw [e]) rfl hf (by omega) l1 l2
  | ot o =>
    obtain ⟨h9, h255⟩ := hg
    have ht : (o.1.toNat : Int) = o.1 := Int.toNat_of_nonneg (by omega)
    exact key 224 o.1.toNat o.2 (by show layL 224 o.1 o.2 = layL ((224 : Nat) : Int) (o.1.toNat : Int) o.2; rw [ht]; rfl) rfl (by decide) (by omega) (by decide +kernel) (by decide +kernel)
set_option maxRecDepth 100000 in
/-- the three or four bytes that tell the length. -/
theorem cut_head {xs : List Nat} (h : fromN xs ≤ xs.length) : ∃ x0 x1 x2 l, xs = x0 :: x1 :: x2 :: l ∧ (longB x0 = false ∧ cutN xs = 3 + x2 ∨ longB x0 = true ∧ ∃ x3 l', l = x3 :: l' ∧ cutN xs = 4 + (x2 * 256 + x3)) := by
  have h3 := from_le xs
  match xs, h, h3 with
  | [], h, h3 => simp at h; omega
  | [_], h, h3 => simp at h; omega
  | [_, _], h, h3 => simp at h; omega
  | x0 :: x1 :: x2 :: l, h, h3 =>
    refine ⟨x0, x1, x2, l, rfl, ?_⟩
    cases hb : longB x0 with
    | false =>
      refine .inl ⟨rfl, ?_⟩
      have ef : fromN (x0 :: x1 :: x2 :: l) = 3 := by
        show (if longB x0 = true then 4 else 3) = 3
        rw [hb]; rfl
      unfold cutN
      rw [ef]
      have : ((x0 :: x1 :: x2 :: l).take 3).drop 2 = [x2] := rfl
      rw [this]
      simp [readN]
    | true =>
      refine .inr ⟨rfl, ?_⟩
      have ef : fromN (x0 :: x1 :: x2 :: l) = 4 := by
        show (if longB x0 = true then 4 else 3) = 4
        rw [hb]; rfl
      rw [ef] at h
      match l, h, ef with
      | [], h, _ => simp at h
      | x3 :: l', h, ef =>
        refine ⟨x3, l', rfl, ?_⟩
        unfold cutN
        rw [ef]
        have : ((x0 :: x1 :: x2 :: x3 :: l').take 4).drop 2 = [x2, x3] := rfl
        rw [this]
        simp [readN]
set_option maxRecDepth 100000 in
/-- one of a kind twice is a fault. -/
theorem dec_twice {a : At} (hc : checkB a = true) (hr : a.Rng) (hl : (encL a).length ≤ 4096) {its : List It} (hp : its.Perm (itsOf a)) {it : It} (hi : it ∈ its) : (decP atO [] (its.flatMap (It.bytes a) ++ it.bytes a)).1 = 1 := by
  have h1 := dec_items hc hr its (fun it hi => ⟨its_good hc it (hp.mem_iff.1 hi), enc_each hl it (hp.mem_iff.1 hi)⟩) ((hp.map It.ty).nodup_iff.2 (its_nodup hc)) atO [] (fun _ _ h => by simp at h) (it.bytes a)
  obtain ⟨c1, c2, c3⟩ := item_cut it (its_good hc it (hp.mem_iff.1 hi)) (enc_each hl it (hp.mem_iff.1 hi)) []
  rw [List.append_nil] at c1 c2 c3
  have h0 : it.bytes a ≠ [] := by
    intro h
    rw [h] at c1
    have := from_le []
    simp at c1
    omega
  rw [h1, decP_bad h0 (.inr (.inr (by
    rw [c3]
    refine List.mem_append_left _ (List.mem_reverse.2 (List.mem_map_of_mem hi)))))]
end Go.Proofs.YtohkbcdnlmjcjaaDoor

/-
  BYTES: a whole slice appended to bytes of the call's own; a row of slices of bytes; two parts of a list in another order.
-/
namespace Go.Proofs.YtohkbcdnlmjcjaaDoor
open Go.RowKit

set_option maxRecDepth 100000 in
/-- a whole slice is appended to one's own. -/
theorem wpList_appB {ops : Array Oper} {rest : List Oper} {o : Oper} {a : Act} {Q : Exit → Act → World → Prop} {w : World} (hgd : o.guard = none) (s x : Operand)
    (ho : o.op = .call { callee := .builtin .append, args := #[s, x], argTypes := #[38, 38] })
    (B : Nat) (v u : Value) (xs ys zs : List Nat) (hz : zs = xs ++ ys) (hs : a.eval s = v) (hx : a.eval x = u) (hB : B ≤ w.heap.size) (hv : OwnB w B v xs) (hu : BytesAt w u ys) (hsz : xs.length + ys.length ≤ 8796093022208)
    (h : ∀ sa c w', OwnB w' B (.slice sa zs.length c) zs → Below B w w' → Kept (fun b => v.ownBlock = some b) w w' → wpList Tryd.prog ops Q rest (a.put o.dst (.slice sa zs.length c)) w') : wpList Tryd.prog ops Q (o :: rest) a w := by
  subst hz
  obtain ⟨i0, hii, hz0, hz1, hz2⟩ := info_parts info_byteB
  obtain ⟨sa, cap, rfl, h1, h2, h3⟩ := hu
  obtain ⟨sv, cv, hvf, -⟩ := own_form hv
  subst hvf
  have done : ∀ v' w', OwnB w' B v' (xs ++ ys) → Below B w w' → Kept (fun b => (Value.slice sv xs.length cv).ownBlock = some b) w w' → wpList Tryd.prog ops Q rest (a.put o.dst v') w' := fun v' w' ho2 hb hk => by
    obtain ⟨s', c', hvf, -⟩ := own_form ho2
    subst hvf
    exact h s' c' w' ho2 hb hk
  have app : ∀ v' w', w'.ownsRow B 5 1 v' (xs.length + ys.length) (xs.map bV ++ ys.map bV) → w.grownBy w' (Value.slice sv xs.length cv).ownBlock → wpList Tryd.prog ops Q rest (a.put o.dst v') w' := fun v' w' ho' hg => by
    refine done v' w' ?_ ((Below.refl _ _).grown hg hB (fun k hk => own_form_le hv k hk)) ⟨hg.os, hg.tape, hg.output, hg.size, fun k hk hne => hg.block k hk (fun e => hne e.symm)⟩
    unfold OwnB; rw [List.length_append, List.map_append]; exact ho'
  by_cases h0 : 0 < ys.length
  · obtain ⟨b, off, rfl, hc⟩ := h3 h0
    refine wpList_append_own w hgd s x 38 ho B 5 i0 _ 1 1 Tryd.underlying38 hii hz0 hz1 hz2 rfl (by decide) _ xs.length _ hs hv ⟨b, off, none⟩ ys.length cap (ys.map bV) hx (by simp) (bytes_news hc) (one_bs ys) (by unfold maxLen; omega) (by omega) hB ?_
    exact fun v' w' ho' hg _ => app v' w' ho' hg
  · have e : ys = [] := List.length_eq_zero_iff.1 (by omega)
    subst e
    cases sa with
    | none =>
      refine wpList_append_none0 hgd s x 38 ho B 5 i0 1 cap Tryd.underlying38 hii _ xs.length _ hs hv hx ?_
      exact done _ _ (by rw [List.append_nil]; exact hv) (Below.refl _ _) (Kept.refl _ _)
    | some ad =>
      refine wpList_append_own w hgd s x 38 ho B 5 i0 _ 1 1 Tryd.underlying38 hii hz0 hz1 hz2 rfl (by decide) _ xs.length _ hs hv ad 0 cap [] hx (by simp) (fun j u hj => by simp at hj) (fun u hu => by simp at hu) (by unfold maxLen; simp at hsz; omega) (by simp at hsz; omega) hB ?_
      exact fun v' w' ho' hg _ => app v' w' ho' hg
set_option maxRecDepth 100000 in
theorem info_bytesT : (Tryd.prog.info? 38).map (fun i => (i.zero, i.size, i.bytes)) = some (some (.slice none 0 0), 1, 24) := by kernel_rfl
/-- the parts, told by their values. -/
def PartsAt (w : World) (a : At) (its : List It) (ps : List Value) : Prop := ∀ (i : Nat) (it : It) , its[i]? = some it → i < ps.length → ∃ s c, ps[i]? = some (.slice s (it.bytes a).length c) ∧ BytesAt w (.slice s (it.bytes a).length c) (it.bytes a)
set_option maxRecDepth 100000 in
theorem PartsAt.snoc {w : World} {a : At} {its : List It} {ps : List Value} {it : It} {s : Option Addr} {c : Nat} (h : PartsAt w a its ps) (hi : its[ps.length]? = some it) (hB : BytesAt w (.slice s (it.bytes a).length c) (it.bytes a)) : PartsAt w a its (ps ++ [.slice s (it.bytes a).length c]) := by
  intro i jt hj hl
  rw [List.length_append, List.length_singleton] at hl
  by_cases e : i = ps.length
  · subst e
    rw [hi] at hj
    obtain rfl := Option.some.inj hj
    exact ⟨s, c, by simp, hB⟩
  · obtain ⟨s', c', h1, h2⟩ := h i jt hj (by omega)
    exact ⟨s', c', by rw [List.getElem?_append_left (by omega)]; exact h1, h2⟩
set_option maxRecDepth 100000 in
theorem PartsAt.below {w w' : World} {a : At} {its : List It} {ps : List Value} (h : PartsAt w a its ps) (hb : Below w.heap.size w w') : PartsAt w' a its ps := fun i it hi hl => by
  obtain ⟨s, c, h1, h2⟩ := h i it hi hl
  exact ⟨s, c, h1, h2.below hb⟩
/-- turned by m. -/
def rotL {α : Type} (m : Nat) (l : List α) : List α := l.drop m ++ l.take m
set_option maxRecDepth 100000 in
theorem rot_perm {α : Type} (m : Nat) (l : List α) : (rotL m l).Perm l := by
  unfold rotL
  have := List.perm_append_comm (l₁ := l.drop m) (l₂ := l.take m)
  rw [List.take_append_drop] at this
  exact this
set_option maxRecDepth 100000 in
theorem rot_len {α : Type} (m : Nat) (l : List α) : (rotL m l).length = l.length := (rot_perm m l).length_eq
set_option maxRecDepth 100000 in
theorem rot_at {α : Type} {m : Nat} {l : List α} (hm : m < l.length) {i : Nat} (hi : i < l.length) : (rotL m l)[i]? = l[(i + m) % l.length]? := by
  unfold rotL
  by_cases h : i < l.length - m
  · rw [List.getElem?_append_left (by rw [List.length_drop]; exact h), List.getElem?_drop, Nat.mod_eq_of_lt (by omega)]
    congr 1; omega
  · rw [List.getElem?_append_right (by rw [List.length_drop]; omega), List.length_drop, List.getElem?_take_of_lt (by omega)]
    congr 1
    have : i + m = (i - (l.length - m)) + l.length := by omega
    rw [this, Nat.add_mod_right, Nat.mod_eq_of_lt (by omega)]
set_option maxRecDepth 100000 in
theorem flat_snoc_at {α : Type} {f : α → List Nat} {l : List α} {i : Nat} {x : α} (h : l[i]? = some x) : (l.take (i + 1)).flatMap f = (l.take i).flatMap f ++ f x := by
  obtain ⟨h1, h2⟩ := List.getElem?_eq_some_iff.1 h
  rw [List.take_succ_eq_append_getElem h1, h2]
  simp
set_option maxRecDepth 100000 in
theorem flat_drop_at {α : Type} {f : α → List Nat} {l : List α} {i : Nat} {x : α} (h : l[i]? = some x) : (l.drop i).flatMap f = f x ++ (l.drop (i + 1)).flatMap f := by
  obtain ⟨h1, h2⟩ := List.getElem?_eq_some_iff.1 h
  rw [List.drop_eq_getElem_cons h1, h2]
  simp
set_option maxRecDepth 100000 in
theorem flat_take_le {α : Type} {f : α → List Nat} (l : List α) (i : Nat) : ((l.take i).flatMap f).length ≤ (l.flatMap f).length := by
  have := congrArg (fun x => (x.flatMap f).length) (List.take_append_drop i l)
  simp only [List.flatMap_append, List.length_append] at this
  omega
set_option maxRecDepth 100000 in
theorem flat_perm_len {α : Type} {f : α → List Nat} {l k : List α} (h : l.Perm k) : (l.flatMap f).length = (k.flatMap f).length := (h.flatMap_right f).length_eq
set_option maxRecDepth 100000 in
theorem enc_cases (a : At) : encI a = 0 ∧ checkB a = true ∧ (encL a).length ≤ 4096 ∨ encI a = 6 ∨ encI a = 1 := by
  unfold encI
  cases checkB a with
  | false => exact .inr (.inr rfl)
  | true =>
    rw [if_pos rfl]
    split
    · split
      · exact .inl ⟨rfl, rfl, by assumption⟩
      · exact .inr (.inl rfl)
    · exact .inr (.inl rfl)
set_option maxRecDepth 100000 in
theorem item_lt {a : At} (h : ∀ o ∈ a.others, ∀ y ∈ o.2, y < 256) {it : It} (hi : it ∈ itsOf a) : ∀ y ∈ it.bytes a, y < 256 := by
  intro y hy
  refine enc_lt h y ?_
  rw [enc_its]
  exact List.mem_flatMap.2 ⟨it, hi, hy⟩
set_option maxRecDepth 100000 in
theorem items_lt {a : At} (h : ∀ o ∈ a.others, ∀ y ∈ o.2, y < 256) {its : List It} (hi : ∀ it ∈ its, it ∈ itsOf a) : ∀ y ∈ its.flatMap (It.bytes a), y < 256 := by
  intro y hy
  obtain ⟨it, h1, h2⟩ := List.mem_flatMap.1 hy
  exact item_lt h (hi it h1) y h2
end Go.Proofs.YtohkbcdnlmjcjaaDoor

/-
  THE REFERENCE OF ATTRIBUTES: numbers, bits, bounds, bytes, an attribute's bytes, lists.
-/
namespace Go.Proofs.YtohkbcdnlmjcjaaDoor
open Go.RowKit

set_option maxRecDepth 100000 in
theorem r_in (n lo hi : Int) (w : World) : Calls Tryd.prog 39 #[.int .i64 n, .int .i64 lo, .int .i64 hi] w fun e w' => e = .returned (.bool (decide (lo ≤ n) && decide (n ≤ hi))) ∧ w = w' := by
  rcases h1 : decide (lo ≤ n) with _ | _
  · have h1' : decide (n ≥ lo) = false := h1
    go_enter Tryd.func39, Tryd.ntmps39
    go_wp2_with fail
    go_ret
    exact ⟨rfl, rfl⟩
  · have h1' : decide (n ≥ lo) = true := h1
    go_enter Tryd.func39, Tryd.ntmps39
    go_wp2_with fail
    go_ret
    exact ⟨rfl, rfl⟩
def thB (has : Nat) (t : Nat) : Bool := has / 2 ^ t % 2 == 1
set_option maxRecDepth 100000 in
theorem half_next (has i : Nat) : ((has / 2 ^ i : Nat) : Int).tdiv 2 = ((has / 2 ^ (i + 1) : Nat) : Int) := by
  rw [Int.tdiv_eq_ediv_of_nonneg (Int.natCast_nonneg _), Nat.pow_succ, ← Nat.div_div_eq_div_mul]
  push_cast; rfl
set_option maxRecDepth 100000 in
theorem wrap_nat {n : Nat} (h : n ≤ 9223372036854775807) : IntKind.i64.wrap (n : Int) = (n : Int) := IntWalk.i64_in _ (by omega)
set_option maxRecDepth 100000 in
set_option maxHeartbeats 800000 in
theorem r_there (has t : Nat) (w : World) (hh : has ≤ 511) (ht : t ≤ 8) : Calls Tryd.prog 34 #[.int .i64 has, .int .i64 t] w fun e w' => e = .returned (.bool (thB has t)) ∧ w = w' := by
  go_enter Tryd.func34, Tryd.ntmps34
  go_wp2_with fail
  go_loopw [0, 5] (fun h0 t5 wr => ∃ i y : Nat, i ≤ t ∧ t5 = .int .i64 i ∧ Hid (y = has / 2 ^ i) ∧ y ≤ 511 ∧ h0 = .int .i64 (y : Int) ∧ wr = w) (fun _ t5 _ => t - (intOf t5).toNat)
  case atStart => exact ⟨0, has, by omega, rfl, Lib.hid (by simp), hh, rfl, rfl⟩
  case round =>
    obtain ⟨i, y, hi, rfl, HY, hy, rfl, rfl⟩ := hrel
    by_cases hlt : i < t
    · obtain ⟨x, hx⟩ : ∃ x, has / 2 ^ (i + 1) = x := ⟨_, rfl⟩
      have q : (y : Int).tdiv 2 = (x : Int) := by rw [HY.out, ← hx]; exact half_next has i
      have hx2 : x ≤ 511 := by rw [← hx]; exact Nat.le_trans (Nat.div_le_self _ _) hh
      have il : (i : Int) < (t : Int) := by omega
      have iw : IntKind.i64.wrap ((i : Int) + 1) = (i : Int) + 1 := IntWalk.i64_in _ (by omega)
      have qw : IntKind.i64.wrap (x : Int) = (x : Int) := wrap_nat (by omega)
      have HX := Lib.hid hx.symm
      clear hx HY
      go_wp2_with fail
      exact ⟨⟨i + 1, x, by omega, by go_num, HX, hx2, rfl, trivial⟩, by simp [intOf]; omega⟩
    · obtain rfl : i = t := by omega
      have E : Hid (thB has i = (y % 2 == 1)) := Lib.hid (by rw [HY.out]; rfl)
      have q : (y : Int).tmod 2 = ((y % 2 : Nat) : Int) := by
        rw [IntWalk.rem_in _ _ (by omega)]
        push_cast; rfl
      have hx2 : y % 2 = 0 ∨ y % 2 = 1 := by omega
      clear hlt hi HY
      rcases hx2 with h | h
      · have q0 : (y : Int).tmod 2 = 0 := by rw [q, h]; rfl
        have E0 : Hid (thB has i = false) := Lib.hid (by rw [E.out, h]; rfl)
        clear h q E hy
        go_wp2_with fail
        go_ret
        exact ⟨by rw [E0.out]; rfl, rfl⟩
      · have q0 : (y : Int).tmod 2 = 1 := by rw [q, h]; rfl
        have E0 : Hid (thB has i = true) := Lib.hid (by rw [E.out, h]; rfl)
        clear h q E hy
        go_wp2_with fail
        go_ret
        exact ⟨by rw [E0.out]; rfl, rfl⟩
set_option maxRecDepth 100000 in
theorem r_hop (h : Nat) (hh : (h : Int) ≤ 4294967295) (w : World) : Calls Tryd.prog 40 #[.int .i64 h] w fun e w' => e = .returned (.bool (hopB h)) ∧ w = w' := by
  have q : (h : Int).tdiv 16777216 = ((h / 16777216 : Nat) : Int) := by
    rw [Int.tdiv_eq_ediv_of_nonneg (Int.natCast_nonneg _)]
    exact (Int.natCast_ediv h 16777216).symm
  have E : Hid (hopB h = (((h / 16777216 : Nat) : Int) != 0 && ((h / 16777216 : Nat) : Int) != 127 && decide (((h / 16777216 : Nat) : Int) < 224))) := Lib.hid (by
    unfold hopB
    have : (h : Int) / 2 ^ 24 = ((h / 16777216 : Nat) : Int) := by
      rw [show (2 : Int) ^ 24 = ((16777216 : Nat) : Int) by decide]
      exact (Int.natCast_ediv h 16777216).symm
    rw [this])
  have hx : h / 16777216 ≤ 255 := by omega
  clear hh
  have qw : IntKind.i64.wrap ((h / 16777216 : Nat) : Int) = ((h / 16777216 : Nat) : Int) := wrap_nat (Nat.le_trans hx (by decide))
  generalize h / 16777216 = x at q E hx qw
  have case : ∀ c1 c2 c3 : Bool, ((x : Int) != 0) = c1 → ((x : Int) != 127) = c2 → decide ((x : Int) < 224) = c3 → hopB h = (c1 && c2 && c3) := fun c1 c2 c3 h1 h2 h3 => by rw [E.out, h1, h2, h3]
  have CS := Lib.hid case
  clear case E hx
  rcases h1 : ((x : Int) != 0) with _ | _
  · have E : Hid (hopB h = false) := Lib.hid ((CS.out _ _ _ h1 rfl rfl).trans (by simp))
    clear CS
    go_enter Tryd.func40, Tryd.ntmps40
    go_wp2_with fail
    go_ret
    exact ⟨by rw [E.out]; rfl, rfl⟩
  · rcases h2 : ((x : Int) != 127) with _ | _
    · have E : Hid (hopB h = false) := Lib.hid ((CS.out _ _ _ h1 h2 rfl).trans (by simp))
      clear CS
      go_enter Tryd.func40, Tryd.ntmps40
      go_wp2_with fail
      go_ret
      exact ⟨by rw [E.out]; rfl, rfl⟩
    · have E : Hid (hopB h = decide ((x : Int) < 224)) := Lib.hid ((CS.out _ _ _ h1 h2 rfl).trans (by simp))
      clear CS
      generalize hz : decide ((x : Int) < 224) = z at E
      have HZ := Lib.hid hz
      go_enter Tryd.func40, Tryd.ntmps40
      cases z
      · go_wp2_with fail
        go_ret
        exact ⟨by rw [E.out]; rfl, rfl⟩
      · go_wp2_with fail
        go_ret
        exact ⟨by rw [E.out]; rfl, rfl⟩
set_option maxRecDepth 100000 in
theorem own_newB (wr : World) (B : Nat) (bs : List Nat) (C : Array Value) (hC : C = (bs.map bV).toArray) (hB : B ≤ wr.heap.size) (hl : bs.length ≤ maxLen) : OwnB (wr.alloc (.cells C 5)) B (.slice (some ⟨wr.heap.size, 0, none⟩) bs.length bs.length) bs := by
  subst hC
  refine ⟨by simp, .inr ⟨_, _, _, rfl, hB, heap_alloc_new wr _, Nat.le_refl _, hl, by simp, by rw [Nat.mul_one]; exact List.take_of_length_le (by simp)⟩⟩
set_option maxRecDepth 100000 in
theorem byN_div (x i : Nat) : byN (x : Int) i = x / 256 ^ i % 256 := by
  unfold byN
  have e2 : (2 : Int) ^ (8 * i) = ((256 ^ i : Nat) : Int) := by rw [show (256 : Nat) = 2 ^ 8 from rfl, ← Nat.pow_mul, Int.natCast_pow]; rfl
  rw [e2]
  have : ((x : Int) / ((256 ^ i : Nat) : Int) % 256) = ((x / 256 ^ i % 256 : Nat) : Int) := by push_cast; rfl
  rw [this, Int.toNat_natCast]
set_option maxRecDepth 100000 in
theorem quo_next (x i : Nat) : ((x / 256 ^ i : Nat) : Int).tdiv 256 = ((x / 256 ^ (i + 1) : Nat) : Int) := by
  rw [Int.tdiv_eq_ediv_of_nonneg (Int.natCast_nonneg _), Nat.pow_succ, ← Nat.div_div_eq_div_mul]
  push_cast; rfl
set_option maxRecDepth 100000 in
theorem u8_nat {n : Nat} (h : n < 256) : IntKind.u8.wrap (n : Int) = (n : Int) := by
  unfold IntKind.wrap IntKind.bits IntKind.signed
  simp; omega
set_option maxHeartbeats 1600000 in
set_option maxRecDepth 100000 in
theorem r_bytes (x k : Nat) (w : World) (hx : x ≤ 9223372036854775807) (hk : k ≤ 4) : Calls Tryd.prog 36 #[.int .i64 x, .int .i64 k] w fun e w' => ∃ s c, e = .returned (.slice s k c) ∧ OwnB w' w.heap.size (.slice s k c) (numB (x : Int) k) ∧ Below w.heap.size w w' := by
  have HX := Lib.hid hx
  clear hx
  go_enter Tryd.func36, Tryd.ntmps36
  go_upto_region 2 with (fail)
  obtain ⟨W0, hW0, o0, b0⟩ : ∃ W0, W0 = w.alloc (.cells #[] 5) ∧ OwnB W0 w.heap.size (.slice (some ⟨w.heap.size, 0, none⟩) 0 0) [] ∧ Below w.heap.size w W0 := ⟨_, rfl, own_empty (Nat.le_refl _), (Below.refl _ _).alloc (Nat.le_refl _) _⟩
  rw [← hW0]
  have O0 := Lib.hid o0
  have B0 := Lib.hid b0
  clear hW0 o0 b0
  generalize (some ⟨w.heap.size, 0, none⟩ : Option Addr) = s0 at O0 ⊢
  go_wp2_with fail
  go_loopw [0, 5, 6] (fun x0 o5 i6 wr => ∃ (i y : Nat) (sv : Option Addr) (cv : Nat), i ≤ k ∧ i6 = .int .i64 i ∧ Hid (y = x / 256 ^ i) ∧ x0 = .int .i64 (y : Int) ∧ o5 = .slice sv i cv ∧ Hid (OwnB wr w.heap.size (.slice sv i cv) (numB (x : Int) i)) ∧ Hid (Below w.heap.size w wr)) (fun _ _ i6 _ => k - (intOf i6).toNat)
  case atStart => exact ⟨0, x, s0, 0, by omega, rfl, Lib.hid (by simp), rfl, rfl, O0, B0⟩
  case round =>
    obtain ⟨i, y, sv, cv, hi, rfl, HY, rfl, rfl, O, B⟩ := hrel
    by_cases hlt : i < k
    · obtain ⟨z, hz⟩ : ∃ z, x / 256 ^ (i + 1) = z := ⟨_, rfl⟩
      obtain ⟨b, hb⟩ : ∃ b, y % 256 = b := ⟨_, rfl⟩
      have q : (y : Int).tdiv 256 = (z : Int) := by rw [HY.out, ← hz]; exact quo_next x i
      have q2 : (y : Int).tmod 256 = (b : Int) := by
        rw [IntWalk.rem_in _ _ (by omega), ← hb]
        push_cast; rfl
      have b8 : b < 256 := by omega
      have NB : Hid (numB (x : Int) (i + 1) = [b] ++ numB (x : Int) i) := Lib.hid (by
        show byN (x : Int) i :: _ = _
        rw [byN_div, ← HY.out, hb]; rfl)
      have uw := u8_nat b8
      have qw : IntKind.i64.wrap (z : Int) = (z : Int) := wrap_nat (by rw [← hz]; exact Nat.le_trans (Nat.div_le_self _ _) HX.out)
      have il : (i : Int) < (k : Int) := by omega
      have iw : IntKind.i64.wrap ((i : Int) + 1) = (i : Int) + 1 := IntWalk.i64_in _ (by omega)
      have HZ := Lib.hid hz.symm
      have NL : Hid ((numB (x : Int) i).length = i ∧ i ≤ 4) := Lib.hid ⟨numB_len _ _, by omega⟩
      have B8 := Lib.hid b8
      have BY : Hid (∀ W, Below wr.heap.size wr W → BytesAt W (.slice sv i cv) (numB (x : Int) i)) := Lib.hid fun W h => ownB_bytes (O.out.below h) (numB_lt _ _)
      clear hz hb HY b8
      cases sv with
      | none =>
        go_wp2_with (at_builtin; refine wpList_appB rfl _ _ rfl w.heap.size (.slice (some ⟨wr.heap.size, 0, none⟩) 1 1) (.slice none i cv) [b] (numB (x : Int) i) (numB (x : Int) (i + 1)) NB.out rfl rfl (by have := B.out.size; simp; omega) (own_newB wr w.heap.size [b] _ rfl B.out.size (show 1 ≤ maxLen by decide)) (BY.out _ ((Below.refl _ _).alloc (Nat.le_refl _) _)) (by have := NL.out; simp; omega) ?_)
        intro s7 c7 w7 hown hbel _
        rw [numB_len] at hown ⊢
        have O7 := Lib.hid hown
        have B7 : Hid (Below w.heap.size w w7) := Lib.hid ((B.out.alloc B.out.size _).trans hbel)
        clear hown hbel O B
        go_wp2_with fail
        exact ⟨⟨i + 1, z, s7, c7, by omega, by go_num, HZ, rfl, rfl, O7, B7⟩, by simp [intOf]; omega⟩
      | some ad =>
        go_wp2_with (at_builtin; refine wpList_appB rfl _ _ rfl w.heap.size (.slice (some ⟨wr.heap.size, 0, none⟩) 1 1) (.slice (some ad) i cv) [b] (numB (x : Int) i) (numB (x : Int) (i + 1)) NB.out rfl rfl (by have := B.out.size; simp; omega) (own_newB wr w.heap.size [b] _ rfl B.out.size (show 1 ≤ maxLen by decide)) (BY.out _ ((Below.refl _ _).alloc (Nat.le_refl _) _)) (by have := NL.out; simp; omega) ?_)
        intro s7 c7 w7 hown hbel _
        rw [numB_len] at hown ⊢
        have O7 := Lib.hid hown
        have B7 : Hid (Below w.heap.size w w7) := Lib.hid ((B.out.alloc B.out.size _).trans hbel)
        clear hown hbel O B
        go_wp2_with fail
        exact ⟨⟨i + 1, z, s7, c7, by omega, by go_num, HZ, rfl, rfl, O7, B7⟩, by simp [intOf]; omega⟩
    · obtain rfl : i = k := by omega
      clear hlt hi
      go_wp2_with fail
      go_ret
      exact ⟨_, _, rfl, O.out, B.out⟩
end Go.Proofs.YtohkbcdnlmjcjaaDoor

/-
  THE REFERENCE OF ATTRIBUTES: an attribute's bytes; bytes as strings; lists of numbers.
-/
namespace Go.Proofs.YtohkbcdnlmjcjaaDoor
open Go.RowKit

def strB (xs : List Nat) : ByteArray := Go.strOfNums (xs.map Int.ofNat)
set_option maxRecDepth 100000 in
theorem conv_str {W : World} {v : Value} {xs : List Nat} (h : BytesAt W v xs) : (convert 38 9 v).run Tryd.prog W = .ok (.string (strB xs)) W := by
  obtain ⟨sa, cap, rfl, -, -, hV⟩ := h
  by_cases h0 : 0 < xs.length
  · obtain ⟨b, off, rfl, hP⟩ := hV h0
    refine run_convert_bytes_arg (P := Tryd.prog) W 38 5 Tryd.underlying38 Tryd.underlying5 b off xs.length cap (xs.map Int.ofNat) (by simp) (fun i hi => ?_) 9 Tryd.underlying9
    obtain ⟨cs, -, ⟨rfl, -⟩, hc⟩ := hP i xs[i] (List.getElem?_eq_getElem hi)
    have := hc 0 _ rfl
    rw [Nat.mul_one, Nat.add_zero] at this
    rw [this]
    simp [List.getD, hi]
  · have e : xs = [] := List.length_eq_zero_iff.1 (by omega)
    subst e
    cases sa with
    | none => exact run_convert_bytes_nil W 38 5 Tryd.underlying38 Tryd.underlying5 0 cap 9 Tryd.underlying9
    | some ad =>
      rw [run_convert_bytes_string W 38 9 5 _ _ cap Tryd.underlying38 Tryd.underlying5 Tryd.underlying9]
      simp [Conv.bytesToString, loadCells, loadCellsFrom, strB, Go.strOfNums]
      rfl
set_option maxRecDepth 100000 in
theorem strB_inj {xs ys : List Nat} (hx : ∀ x ∈ xs, x < 256) (hy : ∀ y ∈ ys, y < 256) (h : strB xs = strB ys) : xs = ys := by
  unfold strB Go.strOfNums at h
  have h := ByteArray.mk.inj h
  have h := congrArg Array.toList h
  simp only [List.map_map] at h
  have key : ∀ (xs ys : List Nat), (∀ x ∈ xs, x < 256) → (∀ y ∈ ys, y < 256) → xs.map ((fun n : Int => UInt8.ofNat n.toNat) ∘ Int.ofNat) = ys.map ((fun n : Int => UInt8.ofNat n.toNat) ∘ Int.ofNat) → xs = ys := by
    intro xs
    induction xs with
    | nil => intro ys _ _ h; cases ys with | nil => rfl | cons => simp at h
    | cons x xs ih =>
      intro ys hx hy h
      cases ys with
      | nil => simp at h
      | cons y ys =>
        simp only [List.map_cons, List.cons.injEq, Function.comp] at h
        have e : x = y := by
          have h1 := congrArg UInt8.toNat h.1
          have a1 := hx x List.mem_cons_self
          have a2 := hy y List.mem_cons_self
          simp at h1
          omega
        rw [e, ih ys (fun z hz => hx z (List.mem_cons_of_mem _ hz)) (fun z hz => hy z (List.mem_cons_of_mem _ hz)) h.2]
  exact key xs ys hx hy h
set_option maxRecDepth 100000 in
set_option maxHeartbeats 800000 in
theorem r_Same5 (v u : Value) (xs ys : List Nat) (w : World) (h : BytesAt w v xs) (k : BytesAt w u ys) : Calls Tryd.prog 18 #[v, u] w fun e w' => e = .returned (.bool (decide (xs = ys))) ∧ w = w' := by
  have c1 := conv_str h
  have c2 := conv_str k
  by_cases e : xs = ys
  · subst e
    clear h k
    generalize strB xs = s at c1 c2
    go_enter Tryd.func18, Tryd.ntmps18
    go_wp2_with fail
    go_ret
    exact ⟨by simp, rfl⟩
  · have hne : strB xs ≠ strB ys := fun h2 => e (strB_inj (bytes_rng h) (bytes_rng k) h2)
    have E : Hid (decide (xs = ys) = false) := Lib.hid (by simp [e])
    clear h k e
    generalize strB xs = s at c1 hne
    generalize strB ys = t at c2 hne
    have hb : (s.toList == t.toList) = false := by
      rw [beq_eq_false_iff_ne, ByteArray.toList_eq, ByteArray.toList_eq]
      intro h
      apply hne
      obtain ⟨⟨x⟩⟩ := s
      obtain ⟨⟨y⟩⟩ := t
      simp at h
      rw [h]
    clear hne
    go_enter Tryd.func18, Tryd.ntmps18
    go_wp2_with fail
    go_ret
    exact ⟨by rw [E.out]; rfl, rfl⟩
set_option maxRecDepth 100000 in
theorem list_ne {xs ys : List Int} {i : Nat} {x y : Int} (hx : xs[i]? = some x) (hy : ys[i]? = some y) (h : x ≠ y) : decide (xs = ys) = false := by
  rw [decide_eq_false_iff_not]
  intro e
  rw [e, hy] at hx
  exact h (Option.some.inj hx).symm
set_option maxRecDepth 100000 in
theorem list_eq_of {xs ys : List Int} (hl : xs.length = ys.length) (h : ∀ i, i < xs.length → xs[i]? = ys[i]?) : xs = ys := by
  refine List.ext_getElem? fun i => ?_
  by_cases hi : i < xs.length
  · exact h i hi
  · rw [List.getElem?_eq_none (by omega), List.getElem?_eq_none (by omega)]
set_option maxRecDepth 100000 in
theorem int_at {w : World} {s : Option Addr} {n c : Nat} {xs : List Int} (h : IntsAt w (.slice s n c) xs) {i : Nat} {x : Int} (hx : xs[i]? = some x) : ∃ g o, s = some ⟨g, o, none⟩ ∧ w.cell? ⟨g, o + i, none⟩ = some (.int .i64 x) := by
  obtain ⟨s', c', e, -, -, h3⟩ := h
  injection e with e _ _
  subst e
  obtain ⟨g, o, rfl, h4⟩ := h3 (by have := (List.getElem?_eq_some_iff.1 hx).1; omega)
  obtain ⟨cs, -, ⟨rfl, -⟩, hc⟩ := h4 i x hx
  have := hc 0 _ rfl
  rw [Nat.mul_one, Nat.add_zero] at this
  exact ⟨g, o, rfl, this⟩
set_option maxHeartbeats 1600000 in
set_option maxRecDepth 100000 in
theorem r_list (v u : Value) (xs ys : List Int) (w : World) (h : IntsAt w v xs) (k : IntsAt w u ys) : Calls Tryd.prog 41 #[v, u] w fun e w' => e = .returned (.bool (decide (xs = ys))) ∧ Below w.heap.size w w' := by
  have H := Lib.hid h
  have K := Lib.hid k
  obtain ⟨s, c, rfl, h1, h2, -⟩ := h
  obtain ⟨t, d, rfl, k1, k2, -⟩ := k
  have xl : xs.length ≤ 9223372036854775807 := Nat.le_trans h1 h2
  clear h1 h2 k1 k2
  by_cases hl : xs.length = ys.length
  · have d0 : ((xs.length : Int) != (ys.length : Int)) = false := by rw [hl]; simp
    have HL := Lib.hid hl
    clear hl
    go_enter Tryd.func41, Tryd.ntmps41
    go_wp2_with fail
    clear d0
    go_loopw [13] (fun t13 wr => ∃ i : Nat, i ≤ xs.length ∧ t13 = .int .i64 i ∧ Hid (∀ j, j < i → xs[j]? = ys[j]?) ∧ Hid (Below w.heap.size w wr)) (fun t13 _ => xs.length - (intOf t13).toNat)
    case atStart => exact ⟨0, by omega, rfl, Lib.hid (fun j hj => by omega), Lib.hid (Below.refl _ _)⟩
    case round =>
      obtain ⟨i, hi, rfl, E, B⟩ := hrel
      by_cases hlt : i < xs.length
      · obtain ⟨x, hx⟩ : ∃ x, xs[i]? = some x := ⟨_, List.getElem?_eq_getElem hlt⟩
        obtain ⟨y, hy⟩ : ∃ y, ys[i]? = some y := ⟨_, List.getElem?_eq_getElem (by have := HL.out; omega)⟩
        obtain ⟨g, o, rfl, c1⟩ := int_at (IntsAt.below H.out B.out) hx
        obtain ⟨g2, o2, rfl, c2⟩ := int_at (IntsAt.below K.out B.out) hy
        have i0 : (0 : Int) ≤ (i : Int) := by omega
        have i1 : (i : Int) < (xs.length : Int) := by omega
        have i2 : (i : Int) < (ys.length : Int) := by have := HL.out; omega
        by_cases exy : x = y
        · have e1 : (x != y) = false := by simp [exy]
          have e2 : ¬ (x ≠ y) := by simp [exy]
          have EN : Hid (∀ j, j < i + 1 → xs[j]? = ys[j]?) := Lib.hid fun j hj => by
            by_cases e : j = i
            · subst e; rw [hx, hy, exy]
            · exact E.out j (by omega)
          clear hx hy exy E hi
          go_upto_region 6 with (fail)
          go_quiet (fail)
          go_wp2_with fail
          refine ⟨⟨i + 1, by omega, by go_num, EN, Lib.hid (below_drewN B.out _)⟩, by simp [intOf]; omega⟩
        · have e1 : (x != y) = true := by simp [exy]
          have F := Lib.hid (list_ne hx hy exy)
          clear hx hy exy E hi
          go_upto_region 6 with (fail)
          go_quiet (fail)
          go_wp2_with fail
          go_ret
          exact ⟨by rw [F.out]; rfl, below_drewN B.out _⟩
      · obtain rfl : i = xs.length := by omega
        have F : Hid (decide (xs = ys) = true) := Lib.hid (by rw [decide_eq_true_eq]; exact list_eq_of HL.out E.out)
        clear hlt hi E
        go_wp2_with fail
        go_ret
        exact ⟨by rw [F.out]; rfl, B.out⟩
  · have d0 : ((xs.length : Int) != (ys.length : Int)) = true := by simp; omega
    have F : Hid (decide (xs = ys) = false) := Lib.hid (by rw [decide_eq_false_iff_not]; intro e; exact hl (by rw [e]))
    clear hl
    go_enter Tryd.func41, Tryd.ntmps41
    go_wp2_with fail
    go_ret
    exact ⟨by rw [F.out]; rfl, Below.refl _ _⟩
set_option maxHeartbeats 1600000 in
set_option maxRecDepth 100000 in
theorem r_lay (fl t : Nat) (v : Value) (ys : List Nat) (w : World) (hf : fl + 16 < 256) (ht : t < 256) (h : BytesAt w v ys) (hl : ys.length ≤ 1099511627776) : Calls Tryd.prog 35 #[.int .i64 fl, .int .i64 t, v] w fun e w' => ∃ s c, e = .returned (.slice s (layL (fl : Int) (t : Int) ys).length c) ∧ OwnB w' w.heap.size (.slice s (layL (fl : Int) (t : Int) ys).length c) (layL (fl : Int) (t : Int) ys) ∧ Below w.heap.size w w' := by
  have LQ := layL_eq hf ht (ys := ys)
  obtain ⟨sv, cv, rfl, -⟩ := id h
  have f1 : IntKind.i64.wrap ((fl : Int) + 16) = ((fl + 16 : Nat) : Int) := by rw [show (fl : Int) + 16 = ((fl + 16 : Nat) : Int) by push_cast; rfl]; exact wrap_nat (by omega)
  have u1 := u8_nat hf
  have u2 := u8_nat ht
  have u3 : IntKind.u8.wrap (fl : Int) = (fl : Int) := u8_nat (by omega)
  have H := Lib.hid h
  have HL := Lib.hid hl
  generalize layL (fl : Int) (t : Int) ys = Z at LQ ⊢
  have LQ2 := Lib.hid LQ
  clear LQ
  by_cases hb : 255 < ys.length
  · have d0 : decide ((ys.length : Int) > 255) = true := by simp; omega
    have ZE : Hid (Z = ([fl + 16, t] ++ numB (ys.length : Int) 2) ++ ys) := Lib.hid (by rw [LQ2.out, hdN, if_pos hb, if_pos hb]; simp)
    have BY := Lib.hid (fun W => r_bytes ys.length 2 W (by have := HL.out; omega) (by decide))
    clear LQ2 hb hl h hf ht
    generalize fl + 16 = f16 at f1 u1 ZE
    go_enter Tryd.func35, Tryd.ntmps35
    go_wp2_with fail
    obtain ⟨wa, hwa, oa, ba⟩ : ∃ wa, wa = w.alloc (.cells #[.int .u8 f16, .int .u8 t] 5) ∧ OwnB wa w.heap.size (.slice (some ⟨w.heap.size, 0, none⟩) 2 2) [f16, t] ∧ Below w.heap.size w wa := ⟨_, rfl, own_newB w w.heap.size [f16, t] _ rfl (Nat.le_refl _) (show 2 ≤ maxLen by decide), (Below.refl _ _).alloc (Nat.le_refl _) _⟩
    rw [← hwa]
    refine (BY.out wa).mono ?_
    rintro e wb ⟨sb, cb, rfl, ob, bb⟩
    have OA := Lib.hid (oa.below bb)
    have OB : Hid (BytesAt wb (.slice sb 2 cb) (numB (ys.length : Int) 2)) := Lib.hid (ownB_bytes ob (numB_lt _ _))
    have BB := Lib.hid (ba.trans (bb.mono ba.size))
    have HW : Hid (∀ W, Below w.heap.size w W → BytesAt W (.slice sv ys.length cv) ys) := Lib.hid fun W h => H.out.below h
    have NL : Hid ((numB (ys.length : Int) 2).length = 2) := Lib.hid (numB_len _ _)
    clear hwa oa ba ob bb BY H
    rcases sv with _ | sv <;> rcases sb with _ | sb
    all_goals
      go_wp2_with (at_builtin; refine wpList_appB rfl _ _ rfl w.heap.size _ _ [f16, t] (numB (ys.length : Int) 2) ([f16, t] ++ numB (ys.length : Int) 2) rfl rfl rfl BB.out.size OA.out OB.out (by have := NL.out; simp; omega) ?_)
      intro s7 c7 w7 hown hbel _
      have O7 := Lib.hid hown
      have B7 := Lib.hid (BB.out.trans hbel)
      have Z7 : Hid (w.heap.size ≤ w7.heap.size) := Lib.hid (Nat.le_trans BB.out.size hbel.size)
      have H7 := Lib.hid (HW.out _ B7.out)
      clear hown hbel OA OB
      go_wp2_with (at_builtin; refine wpList_appB rfl _ _ rfl w.heap.size _ _ ([f16, t] ++ numB (ys.length : Int) 2) ys Z ZE.out rfl rfl Z7.out O7.out H7.out (by have := NL.out; have := HL.out; simp; omega) ?_)
      intro s8 c8 w8 hown hbel _
      have O8 := Lib.hid hown
      have B8 := Lib.hid (B7.out.trans hbel)
      clear hown hbel O7 B7
      go_wp2_with fail
      go_ret
      exact ⟨_, _, rfl, O8.out, B8.out⟩
  · have d0 : decide ((ys.length : Int) > 255) = false := by simp; omega
    have u4 : IntKind.u8.wrap (ys.length : Int) = (ys.length : Int) := u8_nat (by omega)
    have ZE : Hid (Z = [fl, t, ys.length] ++ ys) := Lib.hid (by rw [LQ2.out, hdN, if_neg hb, if_neg hb, numB_one (by omega)]; rfl)
    clear LQ2 hb hl h hf ht f1 u1
    go_enter Tryd.func35, Tryd.ntmps35
    cases sv with
    | none =>
      go_wp2_with (at_builtin; refine wpList_appB rfl _ _ rfl w.heap.size (.slice (some ⟨w.heap.size, 0, none⟩) 3 3) (.slice none ys.length cv) [fl, t, ys.length] ys Z ZE.out rfl rfl (by simp) (own_newB w w.heap.size [fl, t, ys.length] _ rfl (Nat.le_refl _) (show 3 ≤ maxLen by decide)) (H.out.below ((Below.refl _ _).alloc (Nat.le_refl _) _)) (by have := HL.out; simp; omega) ?_)
      intro s7 c7 w7 hown hbel _
      have O7 := Lib.hid hown
      have B7 : Hid (Below w.heap.size w w7) := Lib.hid (((Below.refl _ _).alloc (Nat.le_refl _) _).trans hbel)
      clear hown hbel
      go_wp2_with fail
      go_ret
      exact ⟨_, _, rfl, O7.out, B7.out⟩
    | some ad =>
      go_wp2_with (at_builtin; refine wpList_appB rfl _ _ rfl w.heap.size (.slice (some ⟨w.heap.size, 0, none⟩) 3 3) (.slice (some ad) ys.length cv) [fl, t, ys.length] ys Z ZE.out rfl rfl (by simp) (own_newB w w.heap.size [fl, t, ys.length] _ rfl (Nat.le_refl _) (show 3 ≤ maxLen by decide)) (H.out.below ((Below.refl _ _).alloc (Nat.le_refl _) _)) (by have := HL.out; simp; omega) ?_)
      intro s7 c7 w7 hown hbel _
      have O7 := Lib.hid hown
      have B7 : Hid (Below w.heap.size w w7) := Lib.hid (((Below.refl _ _).alloc (Nat.le_refl _) _).trans hbel)
      clear hown hbel
      go_wp2_with fail
      go_ret
      exact ⟨_, _, rfl, O7.out, B7.out⟩
end Go.Proofs.YtohkbcdnlmjcjaaDoor
