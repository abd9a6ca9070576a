/- Texts of one proof, one behind another. -/
import Derived.Test.YtohkbcdnlmjcjaaDoorFo19
import Derived.Test.YtohkbcdnlmjcjaaDoorFo20
import Derived.Test.YtohkbcdnlmjcjaaDoorFo10
import Derived.Test.YtohkbcdnlmjcjaaDoorFo15
import Derived.Test.YtohkbcdnlmjcjaaDoorFo9
import Derived.Test.YtohkbcdnlmjcjaaDoorFo6
import Derived.Deep.QuietTactic
import Derived.BigQuiet
import Derived.Deep.CutBlock
/-
  ATTRIBUTES: the round trip, plain: what was written, in whatever order, is read again.
-/
namespace Go.Proofs.YtohkbcdnlmjcjaaDoor
open Go.RowKit

set_option maxRecDepth 100000 in
theorem oths_mem {o : Oth} : ∀ {l : List It}, o ∈ othsOf l ↔ It.ot o ∈ l
  | [] => by simp [othsOf]
  | .kn u :: l => by
    simp only [othsOf, List.mem_cons, oths_mem (l := l), reduceCtorEq, false_or]
  | .ot p :: l => by
    simp only [othsOf, List.mem_cons, oths_mem (l := l), It.ot.injEq]
set_option maxRecDepth 100000 in
theorem oths_perm {l k : List It} (h : l.Perm k) : (othsOf l).Perm (othsOf k) := by
  induction h with
  | nil => exact List.Perm.refl _
  | cons x h ih =>
    cases x with
    | kn t => exact ih
    | ot o => exact ih.cons o
  | swap x y l =>
    cases x with
    | kn t =>
      cases y with
      | kn u => exact List.Perm.refl _
      | ot o => exact List.Perm.refl _
    | ot o =>
      cases y with
      | kn u => exact List.Perm.refl _
      | ot p => exact List.Perm.swap ..
  | trans h1 h2 i1 i2 => exact i1.trans i2
set_option maxRecDepth 100000 in
theorem oths_its (a : At) : othsOf (itsOf a) = a.others := by
  unfold itsOf
  have h1 : ∀ (l : List Nat) (k : List It), othsOf (l.map .kn ++ k) = othsOf k := by
    intro l k
    induction l with
    | nil => rfl
    | cons x l ih => exact ih
  have h2 : ∀ l : List Oth, othsOf (l.map .ot) = l := by
    intro l
    induction l with
    | nil => rfl
    | cons x l ih =>
      show x :: othsOf (l.map .ot) = x :: l
      rw [ih]
  rw [h1, h2]
set_option maxRecDepth 100000 in
/-- all attributes' bytes, in whatever order, are read as they. -/
theorem dec_perm {a : At} (hc : checkB a = true) (hr : a.Rng) (hl : (encL a).length ≤ 4096) {its : List It} (hp : its.Perm (itsOf a)) : decP atO [] (its.flatMap (It.bytes a)) = (0, { a with others := othsOf its }) := by
  have h1 := dec_items hc hr its (fun it hi => ⟨its_good hc it (hp.mem_iff.1 hi), enc_each hl it (hp.mem_iff.1 hi)⟩) ((hp.map It.ty).nodup_iff.2 (its_nodup hc)) atO [] (fun _ _ h => by simp at h) []
  rw [List.append_nil] at h1
  rw [h1, decP_nil, fold_all hc hr its fun it => hp.mem_iff]
set_option maxRecDepth 100000 in
theorem dec_enc {a : At} (hc : checkB a = true) (hr : a.Rng) (hl : (encL a).length ≤ 4096) : decP atO [] (encL a) = (0, a) := by
  rw [enc_its, dec_perm hc hr hl (List.Perm.refl _), oths_its]
set_option maxRecDepth 100000 in
/-- others in order are told by their members. -/
theorem oths_sorted {a : At} (hc : checkB a = true) {os : List Oth} (hp : os.Perm a.others) (hs : os.Pairwise (fun x y => x.1 ≤ y.1)) : os = a.others := by
  obtain ⟨-, h2⟩ := oth_range _ _ (check_oth hc)
  refine List.Perm.eq_of_pairwise (le := fun x y => x.1 ≤ y.1) (fun x y hx hy h3 h4 => ?_) hs (h2.imp fun {x y} h => Int.le_of_lt h) hp
  have hx' := hp.mem_iff.1 hx
  obtain ⟨i, hi⟩ := List.mem_iff_getElem?.1 hx'
  obtain ⟨j, hj⟩ := List.mem_iff_getElem?.1 hy
  have key : ∀ {i j : Nat} {x y : Oth}, a.others[i]? = some x → a.others[j]? = some y → i < j → x.1 < y.1 := by
    intro i j x y hi hj hij
    obtain ⟨hi1, rfl⟩ := List.getElem?_eq_some_iff.1 hi
    obtain ⟨hj1, rfl⟩ := List.getElem?_eq_some_iff.1 hj
    exact List.pairwise_iff_getElem.1 h2 i j hi1 hj1 hij
  rcases Nat.lt_trichotomy i j with h | h | h
  · have := key hi hj h; omega
  · subst h
    rw [hi] at hj
    exact Option.some.inj hj
  · have := key hj hi h; omega
set_option maxRecDepth 100000 in
/-- Decode, of what was written: nothing is wrong, and they are they. -/
theorem dec_post {a : At} (hc : checkB a = true) (hr : a.Rng) (hl : (encL a).length ≤ 4096) {its : List It} (hp : its.Perm (itsOf a)) {w w' : World} {e : Ending} (h : DecPost (its.flatMap (It.bytes a)) w e w') :
    ∃ vp vc vo, e = .returned (.tuple #[.agg (atV a vp vc vo).toArray, .agg fltZ]) ∧ AtL w' a vp vc vo ∧ Below w.heap.size w w' := by
  obtain ⟨hb, h⟩ := h
  rw [dec_perm hc hr hl hp, if_pos rfl] at h
  obtain ⟨os, vp, vc, vo, h1, h2, h3, -, rfl⟩ := h
  have hos : os = a.others := oths_sorted hc (h1.trans (by rw [← oths_its a]; exact oths_perm hp)) h2
  subst hos
  exact ⟨vp, vc, vo, rfl, h3.self, hb⟩
set_option maxRecDepth 100000 in
/-- Decode, of what was written: nothing is wrong, and they are they. -/
theorem dec_postF {a : At} (hc : checkB a = true) (hr : a.Rng) (hl : (encL a).length ≤ 4096) {its : List It} (hp : its.Perm (itsOf a)) {w w' : World} {e : Ending} (h : DecPost (its.flatMap (It.bytes a)) w e w') :
    ∃ vp vc vo, e = .returned (.tuple #[.agg (atV a vp vc vo).toArray, .agg fltZ]) ∧ Fresh w.heap.size w' (fun W => AtL W a vp vc vo) ∧ Below w.heap.size w w' := by
  obtain ⟨hb, h⟩ := h
  rw [dec_perm hc hr hl hp, if_pos rfl] at h
  obtain ⟨os, vp, vc, vo, h1, h2, h3, -, rfl⟩ := h
  have hos : os = a.others := oths_sorted hc (h1.trans (by rw [← oths_its a]; exact oths_perm hp)) h2
  subst hos
  exact ⟨vp, vc, vo, rfl, h3, hb⟩
end Go.Proofs.YtohkbcdnlmjcjaaDoor

/-
  ATTRIBUTES: one after another; one of a kind twice, plain.
-/
namespace Go.Proofs.YtohkbcdnlmjcjaaDoor
open Go.RowKit

set_option maxRecDepth 100000 in
/-- where one attribute's bytes, ahead of others, end. -/
theorem item_cut {a : At} (it : It) (hg : it.good a) (hl : (it.bytes a).length ≤ 4096) (r : List Nat) :
    fromN (it.bytes a ++ r) ≤ (it.bytes a ++ r).length ∧ cutN (it.bytes a ++ r) = (it.bytes a).length ∧ (it.bytes a ++ r).getD 1 0 = it.ty := by
  have key : ∀ (fl t : Nat) (ys : List Nat), it.bytes a = layL fl t ys → it.ty = t → fl + 16 < 256 → t < 256 → longB fl = false → longB (fl + 16) = true → fromN (it.bytes a ++ r) ≤ (it.bytes a ++ r).length ∧ cutN (it.bytes a ++ r) = (it.bytes a).length ∧ (it.bytes a ++ r).getD 1 0 = it.ty := by
    intro fl t ys hb ht hf ht2 l1 l2
    rw [hb] at hl ⊢
    rw [ht]
    have hyl : ys.length ≤ (layL fl t ys).length := by
      rw [layL_eq hf ht2]
      simp only [List.length_cons, List.length_append]
      omega
    obtain ⟨c1, c2, c3, c4, c5⟩ := lay_cut hf ht2 (ys := ys) (by omega) l1 l2 r
    exact ⟨c1, c2, c4⟩
  cases it with
  | kn t =>
    obtain ⟨h1, h8, hi⟩ := hg
    obtain ⟨fl, e, hf, l1, l2, b1, b2⟩ := flg_val h1 h8
    exact key fl t (valL a t) (by show layL _ _ _ = _; rw [e]) rfl hf (by omega) l1 l2
  | ot o =>
    obtain ⟨h9, h255⟩ := hg
    have ht : (o.1.toNat : Int) = o.1 := Int.toNat_of_nonneg (by omega)
    exact key 224 o.1.toNat o.2 (by show layL 224 o.1 o.2 = layL ((224 : Nat) : Int) (o.1.toNat : Int) o.2; rw [ht]; rfl) rfl (by decide) (by omega) (by decide +kernel) (by decide +kernel)
set_option maxRecDepth 100000 in
/-- the three or four bytes that tell the length. -/
theorem cut_head {xs : List Nat} (h : fromN xs ≤ xs.length) : ∃ x0 x1 x2 l, xs = x0 :: x1 :: x2 :: l ∧ (longB x0 = false ∧ cutN xs = 3 + x2 ∨ longB x0 = true ∧ ∃ x3 l', l = x3 :: l' ∧ cutN xs = 4 + (x2 * 256 + x3)) := by
  have h3 := from_le xs
  match xs, h, h3 with
  | [], h, h3 => simp at h; omega
  | [_], h, h3 => simp at h; omega
  | [_, _], h, h3 => simp at h; omega
  | x0 :: x1 :: x2 :: l, h, h3 =>
    refine ⟨x0, x1, x2, l, rfl, ?_⟩
    cases hb : longB x0 with
    | false =>
      refine .inl ⟨rfl, ?_⟩
      have ef : fromN (x0 :: x1 :: x2 :: l) = 3 := by
        show (if longB x0 = true then 4 else 3) = 3
        rw [hb]; rfl
      unfold cutN
      rw [ef]
      have : ((x0 :: x1 :: x2 :: l).take 3).drop 2 = [x2] := rfl
      rw [this]
      simp [readN]
    | true =>
      refine .inr ⟨rfl, ?_⟩
      have ef : fromN (x0 :: x1 :: x2 :: l) = 4 := by
        show (if longB x0 = true then 4 else 3) = 4
        rw [hb]; rfl
      rw [ef] at h
      match l, h, ef with
      | [], h, _ => simp at h
      | x3 :: l', h, ef =>
        refine ⟨x3, l', rfl, ?_⟩
        unfold cutN
        rw [ef]
        have : ((x0 :: x1 :: x2 :: x3 :: l').take 4).drop 2 = [x2, x3] := rfl
        rw [this]
        simp [readN]
set_option maxRecDepth 100000 in
/-- one of a kind twice is a fault. -/
theorem dec_twice {a : At} (hc : checkB a = true) (hr : a.Rng) (hl : (encL a).length ≤ 4096) {its : List It} (hp : its.Perm (itsOf a)) {it : It} (hi : it ∈ its) : (decP atO [] (its.flatMap (It.bytes a) ++ it.bytes a)).1 = 1 := by
  have h1 := dec_items hc hr its (fun it hi => ⟨its_good hc it (hp.mem_iff.1 hi), enc_each hl it (hp.mem_iff.1 hi)⟩) ((hp.map It.ty).nodup_iff.2 (its_nodup hc)) atO [] (fun _ _ h => by simp at h) (it.bytes a)
  obtain ⟨c1, c2, c3⟩ := item_cut it (its_good hc it (hp.mem_iff.1 hi)) (enc_each hl it (hp.mem_iff.1 hi)) []
  rw [List.append_nil] at c1 c2 c3
  have h0 : it.bytes a ≠ [] := by
    intro h
    rw [h] at c1
    have := from_le []
    simp at c1
    omega
  rw [h1, decP_bad h0 (.inr (.inr (by
    rw [c3]
    refine List.mem_append_left _ (List.mem_reverse.2 (List.mem_map_of_mem hi)))))]
end Go.Proofs.YtohkbcdnlmjcjaaDoor

/-
  BYTES: a whole slice appended to bytes of the call's own; a row of slices of bytes; two parts of a list in another order.
-/
namespace Go.Proofs.YtohkbcdnlmjcjaaDoor
open Go.RowKit

set_option maxRecDepth 100000 in
/-- a whole slice is appended to one's own. -/
theorem wpList_appB {ops : Array Oper} {rest : List Oper} {o : Oper} {a : Act} {Q : Exit → Act → World → Prop} {w : World} (hgd : o.guard = none) (s x : Operand)
    (ho : o.op = .call { callee := .builtin .append, args := #[s, x], argTypes := #[38, 38] })
    (B : Nat) (v u : Value) (xs ys zs : List Nat) (hz : zs = xs ++ ys) (hs : a.eval s = v) (hx : a.eval x = u) (hB : B ≤ w.heap.size) (hv : OwnB w B v xs) (hu : BytesAt w u ys) (hsz : xs.length + ys.length ≤ 8796093022208)
    (h : ∀ sa c w', OwnB w' B (.slice sa zs.length c) zs → Below B w w' → Kept (fun b => v.ownBlock = some b) w w' → wpList Tryd.prog ops Q rest (a.put o.dst (.slice sa zs.length c)) w') : wpList Tryd.prog ops Q (o :: rest) a w := by
  subst hz
  obtain ⟨i0, hii, hz0, hz1, hz2⟩ := info_parts info_byteB
  obtain ⟨sa, cap, rfl, h1, h2, h3⟩ := hu
  obtain ⟨sv, cv, hvf, -⟩ := own_form hv
  subst hvf
  have done : ∀ v' w', OwnB w' B v' (xs ++ ys) → Below B w w' → Kept (fun b => (Value.slice sv xs.length cv).ownBlock = some b) w w' → wpList Tryd.prog ops Q rest (a.put o.dst v') w' := fun v' w' ho2 hb hk => by
    obtain ⟨s', c', hvf, -⟩ := own_form ho2
    subst hvf
    exact h s' c' w' ho2 hb hk
  have app : ∀ v' w', w'.ownsRow B 5 1 v' (xs.length + ys.length) (xs.map bV ++ ys.map bV) → w.grownBy w' (Value.slice sv xs.length cv).ownBlock → wpList Tryd.prog ops Q rest (a.put o.dst v') w' := fun v' w' ho' hg => by
    refine done v' w' ?_ ((Below.refl _ _).grown hg hB (fun k hk => own_form_le hv k hk)) ⟨hg.os, hg.tape, hg.output, hg.size, fun k hk hne => hg.block k hk (fun e => hne e.symm)⟩
    unfold OwnB; rw [List.length_append, List.map_append]; exact ho'
  by_cases h0 : 0 < ys.length
  · obtain ⟨b, off, rfl, hc⟩ := h3 h0
    refine wpList_append_own w hgd s x 38 ho B 5 i0 _ 1 1 Tryd.underlying38 hii hz0 hz1 hz2 rfl (by decide) _ xs.length _ hs hv ⟨b, off, none⟩ ys.length cap (ys.map bV) hx (by simp) (bytes_news hc) (one_bs ys) (by unfold maxLen; omega) (by omega) hB ?_
    exact fun v' w' ho' hg _ => app v' w' ho' hg
  · have e : ys = [] := List.length_eq_zero_iff.1 (by omega)
    subst e
    cases sa with
    | none =>
      refine wpList_append_none0 hgd s x 38 ho B 5 i0 1 cap Tryd.underlying38 hii _ xs.length _ hs hv hx ?_
      exact done _ _ (by rw [List.append_nil]; exact hv) (Below.refl _ _) (Kept.refl _ _)
    | some ad =>
      refine wpList_append_own w hgd s x 38 ho B 5 i0 _ 1 1 Tryd.underlying38 hii hz0 hz1 hz2 rfl (by decide) _ xs.length _ hs hv ad 0 cap [] hx (by simp) (fun j u hj => by simp at hj) (fun u hu => by simp at hu) (by unfold maxLen; simp at hsz; omega) (by simp at hsz; omega) hB ?_
      exact fun v' w' ho' hg _ => app v' w' ho' hg
set_option maxRecDepth 100000 in
theorem info_bytesT : (Tryd.prog.info? 38).map (fun i => (i.zero, i.size, i.bytes)) = some (some (.slice none 0 0), 1, 24) := by kernel_rfl
/-- the parts, told by their values. -/
def PartsAt (w : World) (a : At) (its : List It) (ps : List Value) : Prop := ∀ (i : Nat) (it : It) , its[i]? = some it → i < ps.length → ∃ s c, ps[i]? = some (.slice s (it.bytes a).length c) ∧ BytesAt w (.slice s (it.bytes a).length c) (it.bytes a)
set_option maxRecDepth 100000 in
theorem PartsAt.snoc {w : World} {a : At} {its : List It} {ps : List Value} {it : It} {s : Option Addr} {c : Nat} (h : PartsAt w a its ps) (hi : its[ps.length]? = some it) (hB : BytesAt w (.slice s (it.bytes a).length c) (it.bytes a)) : PartsAt w a its (ps ++ [.slice s (it.bytes a).length c]) := by
  intro i jt hj hl
  rw [List.length_append, List.length_singleton] at hl
  by_cases e : i = ps.length
  · subst e
    rw [hi] at hj
    obtain rfl := Option.some.inj hj
    exact ⟨s, c, by simp, hB⟩
  · obtain ⟨s', c', h1, h2⟩ := h i jt hj (by omega)
    exact ⟨s', c', by rw [List.getElem?_append_left (by omega)]; exact h1, h2⟩
set_option maxRecDepth 100000 in
theorem PartsAt.below {w w' : World} {a : At} {its : List It} {ps : List Value} (h : PartsAt w a its ps) (hb : Below w.heap.size w w') : PartsAt w' a its ps := fun i it hi hl => by
  obtain ⟨s, c, h1, h2⟩ := h i it hi hl
  exact ⟨s, c, h1, h2.below hb⟩
/-- turned by m. -/
def rotL {α : Type} (m : Nat) (l : List α) : List α := l.drop m ++ l.take m
set_option maxRecDepth 100000 in
theorem rot_perm {α : Type} (m : Nat) (l : List α) : (rotL m l).Perm l := by
  unfold rotL
  have := List.perm_append_comm (l₁ := l.drop m) (l₂ := l.take m)
  rw [List.take_append_drop] at this
  exact this
set_option maxRecDepth 100000 in
theorem rot_len {α : Type} (m : Nat) (l : List α) : (rotL m l).length = l.length := (rot_perm m l).length_eq
set_option maxRecDepth 100000 in
theorem rot_at {α : Type} {m : Nat} {l : List α} (hm : m < l.length) {i : Nat} (hi : i < l.length) : (rotL m l)[i]? = l[(i + m) % l.length]? := by
  unfold rotL
  by_cases h : i < l.length - m
  · rw [List.getElem?_append_left (by rw [List.length_drop]; exact h), List.getElem?_drop, Nat.mod_eq_of_lt (by omega)]
    congr 1; omega
  · rw [List.getElem?_append_right (by rw [List.length_drop]; omega), List.length_drop, List.getElem?_take_of_lt (by omega)]
    congr 1
    have : i + m = (i - (l.length - m)) + l.length := by omega
    rw [this, Nat.add_mod_right, Nat.mod_eq_of_lt (by omega)]
set_option maxRecDepth 100000 in
theorem flat_snoc_at {α : Type} {f : α → List Nat} {l : List α} {i : Nat} {x : α} (h : l[i]? = some x) : (l.take (i + 1)).flatMap f = (l.take i).flatMap f ++ f x := by
  obtain ⟨h1, h2⟩ := List.getElem?_eq_some_iff.1 h
  rw [List.take_succ_eq_append_getElem h1, h2]
  simp
set_option maxRecDepth 100000 in
theorem flat_drop_at {α : Type} {f : α → List Nat} {l : List α} {i : Nat} {x : α} (h : l[i]? = some x) : (l.drop i).flatMap f = f x ++ (l.drop (i + 1)).flatMap f := by
  obtain ⟨h1, h2⟩ := List.getElem?_eq_some_iff.1 h
  rw [List.drop_eq_getElem_cons h1, h2]
  simp
set_option maxRecDepth 100000 in
theorem flat_take_le {α : Type} {f : α → List Nat} (l : List α) (i : Nat) : ((l.take i).flatMap f).length ≤ (l.flatMap f).length := by
  have := congrArg (fun x => (x.flatMap f).length) (List.take_append_drop i l)
  simp only [List.flatMap_append, List.length_append] at this
  omega
set_option maxRecDepth 100000 in
theorem flat_perm_len {α : Type} {f : α → List Nat} {l k : List α} (h : l.Perm k) : (l.flatMap f).length = (k.flatMap f).length := (h.flatMap_right f).length_eq
set_option maxRecDepth 100000 in
theorem enc_cases (a : At) : encI a = 0 ∧ checkB a = true ∧ (encL a).length ≤ 4096 ∨ encI a = 6 ∨ encI a = 1 := by
  unfold encI
  cases checkB a with
  | false => exact .inr (.inr rfl)
  | true =>
    rw [if_pos rfl]
    split
    · split
      · exact .inl ⟨rfl, rfl, by assumption⟩
      · exact .inr (.inl rfl)
    · exact .inr (.inl rfl)
set_option maxRecDepth 100000 in
theorem item_lt {a : At} (h : ∀ o ∈ a.others, ∀ y ∈ o.2, y < 256) {it : It} (hi : it ∈ itsOf a) : ∀ y ∈ it.bytes a, y < 256 := by
  intro y hy
  refine enc_lt h y ?_
  rw [enc_its]
  exact List.mem_flatMap.2 ⟨it, hi, hy⟩
set_option maxRecDepth 100000 in
theorem items_lt {a : At} (h : ∀ o ∈ a.others, ∀ y ∈ o.2, y < 256) {its : List It} (hi : ∀ it ∈ its, it ∈ itsOf a) : ∀ y ∈ its.flatMap (It.bytes a), y < 256 := by
  intro y hy
  obtain ⟨it, h1, h2⟩ := List.mem_flatMap.1 hy
  exact item_lt h (hi it h1) y h2
end Go.Proofs.YtohkbcdnlmjcjaaDoor

/-
  ATTRIBUTES: the document's example.
-/
namespace Go.Proofs.YtohkbcdnlmjcjaaDoor
open Go.RowKit

set_option maxRecDepth 100000 in
theorem lit_bytes {w : World} {g : Nat} {T : TypeId} {C : List Nat} (q : w.heap[g]? = some (.cells (C.map fun (x : Nat) => Value.int .u8 (x : Int)).toArray T (0, 0))) (hC : ∀ x ∈ C, x < 256) (hl : C.length ≤ maxLen) : BytesAt w (.slice (some ⟨g, 0, none⟩) C.length C.length) C := by
  refine ⟨_, _, rfl, Nat.le_refl _, hl, fun _ => ⟨g, 0, rfl, fun i x hx => ⟨[.int .u8 x], rfl, ⟨rfl, hC x (List.mem_of_getElem? hx)⟩, fun j c hc => ?_⟩⟩⟩
  match j, hc with
  | 0, hc =>
    simp at hc; subst hc
    rw [row_cell q]
    simp [hx]
  | j + 1, hc => simp at hc
set_option maxRecDepth 100000 in
theorem flt_eql (w : World) : (binOp .eql 54 (.agg fltZ) (.agg fltZ)).run Tryd.prog w = .ok (.bool true) w := by kernel_rfl
set_option maxRecDepth 100000 in
theorem box_more (w : World) (C : Array Value) (T : TypeId) (Z : Array Value) (U : TypeId) : ∃ W0, W0 = (w.alloc (.cells C T)).alloc (.cells Z U) ∧ W0.heap[w.heap.size]? = some (.cells C T (0, 0)) ∧ W0.heap[w.heap.size + 1]? = some (.cells Z U (0, 0)) ∧ Below w.heap.size w W0 := boxTwo w C T Z U
set_option maxHeartbeats 6400000 in
set_option maxRecDepth 100000 in
theorem law_head (w : World) (hT : Tabs w) : Calls Tryd.prog 7 #[] w fun e w' => e = .returned (.bool true) ∧ Below w.heap.size w w' := by
  have HT := Lib.hid hT
  clear hT
  go_enter Tryd.func7, Tryd.ntmps7
  go_wp2_with fail
  obtain ⟨W1, hW1, q1, hb1, hs1⟩ := box1 w #[.int .u8 64, .int .u8 1, .int .u8 1, .int .u8 2] 5
  rw [← hW1]
  clear hW1
  have I1 : BytesAt W1 (.slice (some ⟨w.heap.size, 0, none⟩) 4 4) [64, 1, 1, 2] := lit_bytes (C := [64, 1, 1, 2]) q1 (by decide) (by decide)
  have B1 := Lib.hid hb1
  refine (dec_two w.heap.size W1 (HT.out.below hb1) (by omega) I1).mono ?_
  rintro e w2 ⟨rfl, hb2⟩
  have B2 := Lib.hid (below_on B1.out hb2)
  clear q1 hb1 hs1 I1 hb2 B1
  go_upto_region 2 with (fail)
  obtain ⟨W3, hW3, qa, qf, hb3⟩ := box_more w2 at22 28 fltZ 54
  rw [← hW3]
  clear hW3
  have B3 := Lib.hid (below_on B2.out hb3)
  have QA := Lib.hid qa
  have QF := Lib.hid qf
  clear qa qf hb3 B2
  generalize w2.heap.size = ab at QA QF ⊢
  go_wp2_with fail
  obtain ⟨W4, hW4, q4, hb4, hs4⟩ := box1 W3 #[.int .u8 64, .int .u8 1, .int .u8 1, .int .u8 3] 5
  rw [← hW4]
  clear hW4
  have I4 : BytesAt W4 (.slice (some ⟨W3.heap.size, 0, none⟩) 4 4) [64, 1, 1, 3] := lit_bytes (C := [64, 1, 1, 3]) q4 (by decide) (by decide)
  have B4 := Lib.hid (below_on B3.out hb4)
  have QA4 := Lib.hid ((hb4.block _ (row_lt QA.out)).trans QA.out)
  have QF4 := Lib.hid ((hb4.block _ (row_lt QF.out)).trans QF.out)
  refine (dec_three W3.heap.size W4 (HT.out.below B4.out) (by omega) I4).mono ?_
  rintro e w5 ⟨⟨st, rfl⟩, hb5⟩
  have B5 := Lib.hid (below_on B4.out hb5)
  have QA5 := Lib.hid ((hb5.block _ (row_lt QA4.out)).trans QA4.out)
  have QF5 := Lib.hid ((hb5.block _ (row_lt QF4.out)).trans QF4.out)
  clear q4 hb4 hs4 I4 hb5 B4 QA QF QA4 QF4 B3
  go_upto_region 3 with (fail)
  obtain ⟨W6, hW6, qg, qh, hb6⟩ := box_more w5 atZ6 28 #[.int .i64 3, .int .i64 6, .string st] 54
  rw [← hW6]
  clear hW6
  have B6 := Lib.hid (below_on B5.out hb6)
  have QA6 := Lib.hid ((hb6.block _ (row_lt QA5.out)).trans QA5.out)
  have QF6 := Lib.hid ((hb6.block _ (row_lt QF5.out)).trans QF5.out)
  have QH := Lib.hid qh
  clear qg qh hb6 B5 QA5 QF5
  generalize w5.heap.size = gb at QH ⊢
  obtain ⟨y0, y1, y2, y3, y4, y5, y6, y7, y8, y9⟩ := at10 QA6.out
  have f0 := row_cell QF6.out 0
  have f1 := row_cell QF6.out 1
  have f2 := row_cell QF6.out 2
  have EQ := flt_eql W6
  have IS := Lib.hid (at_Is 2 (.int .i64 2) (.slice none 0 0) (.int .u32 0) (.int .i64 0) (.int .i64 0) (.int .i64 0) (.int .u32 0) (.slice none 0 0) (.slice none 0 0) 1 W6)
  rw [show isB 2 1 = true by decide +kernel] at IS
  go_wp2_with fail
  refine IS.out.mono ?_
  rintro e w7 ⟨rfl, hb7⟩
  have y1 := cell_below y1 hb7
  have h0 := cell_below (row_cell QH.out 0) hb7
  have h1 := cell_below (row_cell QH.out 1) hb7
  have B7 := Lib.hid (below_on B6.out hb7)
  clear hb7 y0 y2 y3 y4 y5 y6 y7 y8 y9 f0 f1 f2 EQ IS
  replace h0 : w7.cell? ⟨gb + 1, 0, none⟩ = some (.int .i64 3) := h0
  replace h1 : w7.cell? ⟨gb + 1, 1, none⟩ = some (.int .i64 6) := h1
  go_wp2_with fail
  go_ret
  exact ⟨rfl, B7.out⟩
end Go.Proofs.YtohkbcdnlmjcjaaDoor

/-
  ATTRIBUTES: Same: whether two say the same.
-/
namespace Go.Proofs.YtohkbcdnlmjcjaaDoor
open Go.RowKit

set_option maxHeartbeats 3200000 in
set_option maxRecDepth 100000 in
theorem sl_EqI (v u : Value) (xs ys : List Int) (w : World) (h : IntsAt w v xs) (k : IntsAt w u ys) : Calls Tryd.prog 49 #[v, u] w fun e w' => e = .returned (.bool (decide (xs = ys))) ∧ Below w.heap.size w w' := by
  obtain ⟨sa, cap, rfl, hlc, hcm, hV⟩ := h
  obtain ⟨sb, cap2, rfl, hlc2, hcm2, hU⟩ := k
  have HV := Lib.hid hV
  have HU := Lib.hid hU
  unfold maxLen at hcm hcm2
  clear hV hU
  by_cases hl : xs.length = ys.length
  · have HL := Lib.hid hl
    have j0 : ((xs.length : Int) != (ys.length : Int)) = false := by simp [hl]
    clear hl
    go_enter Tryd.func49, Tryd.ntmps49
    go_wp2_with fail
    clear j0
    go_loopw [13] (fun k13 wr => ∃ k : Nat, k ≤ xs.length ∧ k13 = .int .i64 k ∧ Hid (xs.take k = ys.take k) ∧ Hid (Below w.heap.size w wr)) (fun k13 _ => xs.length - (intOf k13).toNat)
    case atStart => exact ⟨0, by omega, rfl, Lib.hid rfl, Lib.hid (Below.refl _ _)⟩
    case round =>
      obtain ⟨k, hk, rfl, E, B⟩ := hrel
      by_cases hlt : k < xs.length
      · obtain ⟨x, hx⟩ : ∃ x, xs[k]? = some x := ⟨_, List.getElem?_eq_getElem hlt⟩
        obtain ⟨y, hy⟩ : ∃ y, ys[k]? = some y := ⟨_, List.getElem?_eq_getElem (by rw [← HL.out]; exact hlt)⟩
        obtain ⟨b1, off1, hsa, hP⟩ := HV.out (by omega)
        obtain ⟨b2, off2, hsb, hQ⟩ := HU.out (by rw [← HL.out]; omega)
        subst hsa
        subst hsb
        obtain ⟨c1, _, ⟨rfl, _⟩, k1⟩ := hP k x hx
        obtain ⟨c2, _, ⟨rfl, _⟩, k2⟩ := hQ k y hy
        have x0 := k1 0 _ rfl
        have y0 := k2 0 _ rfl
        simp only [Nat.add_zero, Nat.mul_one] at x0 y0
        have x0 := (B.out.cell (size_lt x0)).trans x0
        have y0 := (B.out.cell (size_lt y0)).trans y0
        have i0 : (0 : Int) ≤ (k : Int) := by omega
        have i1 : (k : Int) < (xs.length : Int) := by omega
        have i2 : (k : Int) < (ys.length : Int) := by have := HL.out; omega
        have HX := Lib.hid hx
        have HY := Lib.hid hy
        clear hP hQ hx hy k1 k2
        go_wp2_with fail
        by_cases he : x = y
        · have EQ : (x != y) = false := by simp [he]
          have EQ2 : (x = y) = True := by simp [he]
          have E2 : Hid (xs.take (k + 1) = ys.take (k + 1)) := Lib.hid (by rw [List.take_add_one, List.take_add_one, E.out, HX.out, HY.out, he])
          clear he
          go_quiet (fail)
          rename_i nq
          obtain ⟨wq, hwq⟩ : ∃ W, W = wr.drewN nq := ⟨_, rfl⟩
          have B2 : Hid (Below w.heap.size w wq) := Lib.hid (by rw [hwq]; exact below_on B.out ⟨rfl, rfl, rfl, Nat.le_refl _, fun _ _ => rfl⟩)
          rw [← hwq]
          clear hwq x0 y0 EQ EQ2 B
          go_wp2_with fail
          exact ⟨⟨k + 1, by omega, by go_num, E2, B2⟩, by simp [intOf]; omega⟩
        · have EQ : (x != y) = true := by rw [bne_iff_ne]; intro e; exact he (by omega)
          have EQ2 : ¬ (x = y) := by exact he
          have NE : Hid (decide (xs = ys) = false) := Lib.hid (by simp only [decide_eq_false_iff_not]; intro e; subst e; have := HX.out.symm.trans HY.out; exact he (Option.some.inj this))
          clear he
          go_quiet (fail)
          rename_i nq
          obtain ⟨wq, hwq⟩ : ∃ W, W = wr.drewN nq := ⟨_, rfl⟩
          have B2 : Hid (Below w.heap.size w wq) := Lib.hid (by rw [hwq]; exact below_on B.out ⟨rfl, rfl, rfl, Nat.le_refl _, fun _ _ => rfl⟩)
          rw [← hwq]
          clear hwq x0 y0 EQ EQ2 B
          go_wp2_with fail
          go_ret
          exact ⟨ret_bool NE.out.symm, B2.out⟩
      · obtain rfl : xs.length = k := by omega
        have E3 : Hid (decide (xs = ys) = true) := Lib.hid (by
          have := E.out
          rw [List.take_length, HL.out, List.take_length] at this
          simpa using this)
        clear E
        go_wp2_with fail
        go_ret
        exact ⟨ret_bool E3.out.symm, B.out⟩
  · have j0 : ((xs.length : Int) != (ys.length : Int)) = true := by simp; omega
    have NE : Hid (decide (xs = ys) = false) := Lib.hid (by simp only [decide_eq_false_iff_not]; intro e; exact hl (by rw [e]))
    clear hl
    go_enter Tryd.func49, Tryd.ntmps49
    go_wp2_with fail
    go_ret
    exact ⟨ret_bool NE.out.symm, Below.refl _ _⟩

set_option maxHeartbeats 3200000 in
set_option maxRecDepth 100000 in
theorem sl_EqB (v u : Value) (xs ys : List Nat) (w : World) (h : BytesAt w v xs) (k : BytesAt w u ys) : Calls Tryd.prog 54 #[v, u] w fun e w' => e = .returned (.bool (decide (xs = ys))) ∧ Below w.heap.size w w' := by
  obtain ⟨sa, cap, rfl, hlc, hcm, hV⟩ := h
  obtain ⟨sb, cap2, rfl, hlc2, hcm2, hU⟩ := k
  have HV := Lib.hid hV
  have HU := Lib.hid hU
  unfold maxLen at hcm hcm2
  clear hV hU
  by_cases hl : xs.length = ys.length
  · have HL := Lib.hid hl
    have j0 : ((xs.length : Int) != (ys.length : Int)) = false := by simp [hl]
    clear hl
    go_enter Tryd.func54, Tryd.ntmps54
    go_wp2_with fail
    clear j0
    go_loopw [13] (fun k13 wr => ∃ k : Nat, k ≤ xs.length ∧ k13 = .int .i64 k ∧ Hid (xs.take k = ys.take k) ∧ Hid (Below w.heap.size w wr)) (fun k13 _ => xs.length - (intOf k13).toNat)
    case atStart => exact ⟨0, by omega, rfl, Lib.hid rfl, Lib.hid (Below.refl _ _)⟩
    case round =>
      obtain ⟨k, hk, rfl, E, B⟩ := hrel
      by_cases hlt : k < xs.length
      · obtain ⟨x, hx⟩ : ∃ x, xs[k]? = some x := ⟨_, List.getElem?_eq_getElem hlt⟩
        obtain ⟨y, hy⟩ : ∃ y, ys[k]? = some y := ⟨_, List.getElem?_eq_getElem (by rw [← HL.out]; exact hlt)⟩
        obtain ⟨b1, off1, hsa, hP⟩ := HV.out (by omega)
        obtain ⟨b2, off2, hsb, hQ⟩ := HU.out (by rw [← HL.out]; omega)
        subst hsa
        subst hsb
        obtain ⟨c1, _, ⟨rfl, _⟩, k1⟩ := hP k x hx
        obtain ⟨c2, _, ⟨rfl, _⟩, k2⟩ := hQ k y hy
        have x0 := k1 0 _ rfl
        have y0 := k2 0 _ rfl
        simp only [Nat.add_zero, Nat.mul_one] at x0 y0
        have x0 := (B.out.cell (size_lt x0)).trans x0
        have y0 := (B.out.cell (size_lt y0)).trans y0
        have i0 : (0 : Int) ≤ (k : Int) := by omega
        have i1 : (k : Int) < (xs.length : Int) := by omega
        have i2 : (k : Int) < (ys.length : Int) := by have := HL.out; omega
        have HX := Lib.hid hx
        have HY := Lib.hid hy
        clear hP hQ hx hy k1 k2
        go_wp2_with fail
        by_cases he : x = y
        · have EQ : ((x : Int) != (y : Int)) = false := by simp [he]
          have EQ2 : ((x : Int) = (y : Int)) = True := by simp [he]
          have E2 : Hid (xs.take (k + 1) = ys.take (k + 1)) := Lib.hid (by rw [List.take_add_one, List.take_add_one, E.out, HX.out, HY.out, he])
          clear he
          go_quiet (fail)
          rename_i nq
          obtain ⟨wq, hwq⟩ : ∃ W, W = wr.drewN nq := ⟨_, rfl⟩
          have B2 : Hid (Below w.heap.size w wq) := Lib.hid (by rw [hwq]; exact below_on B.out ⟨rfl, rfl, rfl, Nat.le_refl _, fun _ _ => rfl⟩)
          rw [← hwq]
          clear hwq x0 y0 EQ EQ2 B
          go_wp2_with fail
          exact ⟨⟨k + 1, by omega, by go_num, E2, B2⟩, by simp [intOf]; omega⟩
        · have EQ : ((x : Int) != (y : Int)) = true := by rw [bne_iff_ne]; intro e; exact he (by omega)
          have EQ2 : ¬ ((x : Int) = (y : Int)) := by intro e; exact he (by omega)
          have NE : Hid (decide (xs = ys) = false) := Lib.hid (by simp only [decide_eq_false_iff_not]; intro e; subst e; have := HX.out.symm.trans HY.out; exact he (Option.some.inj this))
          clear he
          go_quiet (fail)
          rename_i nq
          obtain ⟨wq, hwq⟩ : ∃ W, W = wr.drewN nq := ⟨_, rfl⟩
          have B2 : Hid (Below w.heap.size w wq) := Lib.hid (by rw [hwq]; exact below_on B.out ⟨rfl, rfl, rfl, Nat.le_refl _, fun _ _ => rfl⟩)
          rw [← hwq]
          clear hwq x0 y0 EQ EQ2 B
          go_wp2_with fail
          go_ret
          exact ⟨ret_bool NE.out.symm, B2.out⟩
      · obtain rfl : xs.length = k := by omega
        have E3 : Hid (decide (xs = ys) = true) := Lib.hid (by
          have := E.out
          rw [List.take_length, HL.out, List.take_length] at this
          simpa using this)
        clear E
        go_wp2_with fail
        go_ret
        exact ⟨ret_bool E3.out.symm, B.out⟩
  · have j0 : ((xs.length : Int) != (ys.length : Int)) = true := by simp; omega
    have NE : Hid (decide (xs = ys) = false) := Lib.hid (by simp only [decide_eq_false_iff_not]; intro e; exact hl (by rw [e]))
    clear hl
    go_enter Tryd.func54, Tryd.ntmps54
    go_wp2_with fail
    go_ret
    exact ⟨ret_bool NE.out.symm, Below.refl _ _⟩
end Go.Proofs.YtohkbcdnlmjcjaaDoor
