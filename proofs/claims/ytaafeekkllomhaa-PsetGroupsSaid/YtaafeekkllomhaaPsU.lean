/-
  SETS OF PREFIXES: the groups' plain laws; a row of sets.
-/
import Derived.Test.YtaafeekkllomhaaPsO
import Derived.Test.YtaafeekkllomhaaPsJ
namespace Go.Proofs.Ytaafeekkllomhaa
open Go.RowKit

theorem reps_sub {sm : Pf → Pf → Bool} : ∀ (n : Nat) (l : List Pf), l.length = n → (reps sm l).Sublist l
  | 0, l, h => by
    obtain rfl := List.length_eq_zero_iff.1 h
    exact List.Sublist.refl _
  | n + 1, l, h => by
    have hne : l ≠ [] := fun e => by subst e; simp at h
    obtain ⟨m, p, rfl⟩ : ∃ m p, l = m ++ [p] := ⟨l.dropLast, l.getLast hne, (List.dropLast_concat_getLast hne).symm⟩
    have ih := reps_sub (sm := sm) n m (by simpa using h)
    rw [reps_snoc]
    unfold repStep
    split
    · exact ih.trans (List.sublist_append_left _ _)
    · exact ih.append (List.Sublist.refl _)
/-- who stands for a group is its first. -/
theorem reps_first {sm : Pf → Pf → Bool} (hs : SmOk sm) : ∀ (n : Nat) (l : List Pf), l.length = n → ∀ r ∈ reps sm l, (l.filter fun p => sm r p)[0]? = some r
  | 0, l, h => by
    obtain rfl := List.length_eq_zero_iff.1 h
    intro r hr
    simp [reps] at hr
  | n + 1, l, h => by
    have hne : l ≠ [] := fun e => by subst e; simp at h
    obtain ⟨m, p, rfl⟩ : ∃ m p, l = m ++ [p] := ⟨l.dropLast, l.getLast hne, (List.dropLast_concat_getLast hne).symm⟩
    have ih := reps_first hs n m (by simpa using h)
    have ho := reps_ok hs n m (by simpa using h)
    have old : ∀ r ∈ reps sm m, ((m ++ [p]).filter fun q => sm r q)[0]? = some r := by
      intro r hr
      have h1 := ih r hr
      rw [List.filter_append, List.getElem?_append_left (List.getElem?_eq_some_iff.1 h1).1]
      exact h1
    intro r hr
    rw [reps_snoc] at hr
    unfold repStep at hr
    split at hr
    · exact old r hr
    · next hc =>
      rcases List.mem_append.1 hr with hr | hr
      · exact old r hr
      · obtain rfl := List.mem_singleton.1 hr
        have : (m.filter fun q => sm r q) = [] := by
          rw [List.filter_eq_nil_iff]
          intro q hq hrq
          obtain ⟨t, ht, htq⟩ := ho.cov q hq
          exact hc (List.any_eq_true.2 ⟨t, ht, hs.trans _ _ _ htq (by rw [hs.symm]; exact hrq)⟩)
        rw [List.filter_append, this]
        simp [hs.refl]
theorem sum_zero : ∀ l : List Nat, (∀ x ∈ l, x = 0) → l.sum = 0
  | [], _ => rfl
  | x :: l, h => by
    rw [List.sum_cons, h x List.mem_cons_self, sum_zero l fun y hy => h y (List.mem_cons_of_mem _ hy)]
theorem count_one {sm : Pf → Pf → Bool} (hs : SmOk sm) {p : Pf} : ∀ R : List Pf, R.Pairwise (fun r r' => sm r r' = false) → (∃ r ∈ R, sm r p = true) → (R.map fun r => if sm r p = true then 1 else 0).sum = 1
  | [], _, h => by obtain ⟨r, h1, _⟩ := h; simp at h1
  | t :: R, ha, h => by
    obtain ⟨h1, h2⟩ := List.pairwise_cons.1 ha
    rw [List.map_cons, List.sum_cons]
    by_cases ht : sm t p = true
    · have : (R.map fun r => if sm r p = true then 1 else 0).sum = 0 := by
        apply sum_zero
        intro x hx
        obtain ⟨r, hr, rfl⟩ := List.mem_map.1 hx
        rw [if_neg]
        intro k
        have := h1 r hr
        rw [hs.trans t p r ht (by rw [hs.symm]; exact k)] at this
        cases this
      rw [if_pos ht, this]
    · obtain ⟨r, hr, hrp⟩ := h
      rcases List.mem_cons.1 hr with e | hr
      · subst e; exact absurd hrp ht
      · rw [if_neg ht, count_one hs R h2 ⟨r, hr, hrp⟩]
theorem lens_all {sm : Pf → Pf → Bool} (hs : SmOk sm) {R : List Pf} (ha : R.Pairwise (fun r r' => sm r r' = false)) : ∀ l : List Pf, (∀ p ∈ l, ∃ r ∈ R, sm r p = true) → (R.map fun r => (l.filter fun p => sm r p).length).sum = l.length
  | [], _ => by
    apply sum_zero
    intro x hx
    obtain ⟨r, hr, rfl⟩ := List.mem_map.1 hx
    rfl
  | p :: l, h => by
    have ih := lens_all hs ha l (fun q hq => h q (List.mem_cons_of_mem _ hq))
    have h1 := count_one hs R ha (h p List.mem_cons_self)
    rw [List.length_cons, ← ih, ← h1]
    clear ih h1 ha h
    induction R with
    | nil => rfl
    | cons t R ih =>
      rw [List.map_cons, List.sum_cons, ih, List.map_cons, List.sum_cons, List.map_cons, List.sum_cons, List.filter_cons]
      split <;> simp <;> omega
/-- how many the first groups hold. -/
def gsum (G : List (List Pf)) (i : Nat) : Nat := ((G.take i).map List.length).sum
theorem gsum_step {G : List (List Pf)} {i : Nat} {x : List Pf} (h : G[i]? = some x) : gsum G (i + 1) = gsum G i + x.length := by
  unfold gsum
  rw [List.take_add_one, h]
  simp
theorem gsum_le (G : List (List Pf)) (i : Nat) : gsum G i ≤ gsum G G.length := by
  unfold gsum
  rw [List.take_length]
  conv => rhs; rw [← List.take_append_drop i G, List.map_append, List.sum_append]
  omega
theorem grp_sum (bys : List (List Pf)) (xs : List Pf) : gsum (grpL (sameB bys) xs) (grpL (sameB bys) xs).length = xs.length := by
  have ho := reps_ok' bys xs
  unfold gsum
  rw [List.take_length]
  unfold grpL
  rw [List.map_map]
  exact lens_all (same_ok bys) ho.apart xs ho.cov
structure GrpIs (bys : List (List Pf)) (xs : List Pf) (x : List Pf) (r : Pf) : Prop where
  first : x[0]? = some r
  srt : Srt x
  sub : ∀ p ∈ x, p ∈ xs
  same : ∀ p ∈ x, ∀ s ∈ bys, decide (p ∈ s) = decide (r ∈ s)
theorem grp_is {bys : List (List Pf)} {xs x : List Pf} {i : Nat} (hs : Srt xs) (h : (grpL (sameB bys) xs)[i]? = some x) : ∃ r, (reps (sameB bys) xs)[i]? = some r ∧ GrpIs bys xs x r := by
  unfold grpL at h
  rw [List.getElem?_map] at h
  obtain ⟨r, hr, rfl⟩ := Option.map_eq_some_iff.1 h
  refine ⟨r, hr, reps_first (same_ok bys) _ xs rfl r (List.mem_of_getElem? hr), hs.filter _, fun p hp => (List.mem_filter.1 hp).1, fun p hp s hsb => ?_⟩
  have := sameB_iff.1 (List.mem_filter.1 hp).2 s hsb
  rw [decide_eq_decide]
  exact this.symm
theorem grp_two {bys : List (List Pf)} {xs x y : List Pf} {i j : Nat} {r t : Pf} (hs : Srt xs) (hx : (grpL (sameB bys) xs)[i]? = some x) (hy : (grpL (sameB bys) xs)[j]? = some y) (hr : x[0]? = some r) (ht : y[0]? = some t) (hij : i < j) : plt r t ∧ sameB bys r t = false := by
  obtain ⟨r', a1, a2⟩ := grp_is hs hx
  obtain ⟨t', b1, b2⟩ := grp_is hs hy
  obtain rfl := Option.some.inj (hr.symm.trans a2.first)
  obtain rfl := Option.some.inj (ht.symm.trans b2.first)
  exact ⟨srt_lt (hs.sublist (reps_sub _ xs rfl)) a1 b1 hij, pairwise_at (reps_ok' bys xs).apart a1 b1 hij⟩
/-- whether some of the first sets tells two apart. -/
def unB (bys : List (List Pf)) (q p : Pf) (k : Nat) : Bool := (bys.take k).any fun s => decide (q ∈ s) != decide (p ∈ s)
theorem unB_step {bys : List (List Pf)} {k : Nat} {s : List Pf} (h : bys[k]? = some s) (q p : Pf) : unB bys q p (k + 1) = (unB bys q p k || (decide (q ∈ s) != decide (p ∈ s))) := by
  unfold unB
  rw [List.take_add_one, h, List.any_append]
  simp
theorem unB_all (bys : List (List Pf)) (q p : Pf) : unB bys q p bys.length = !sameB bys q p := by
  unfold unB sameB
  rw [List.take_length, List.not_all_eq_any_not]
  rfl
/-! ### a row of sets of the call's own -/
structure LstAt (w : World) (B : Nat) (v : Value) (us : List Value) (G : List (List Pf)) : Prop where
  len : us.length = G.length
  row : w.ownsRow B 26 1 v G.length us
  own : ∀ (i : Nat) (u : Value) (x : List Pf), us[i]? = some u → G[i]? = some x → OwnPs w B u x
theorem LstAt.below {w w' : World} {B : Nat} {v : Value} {us : List Value} {G : List (List Pf)} (h : LstAt w B v us G) (hb : Below w.heap.size w w') : LstAt w' B v us G :=
  ⟨h.len, own_below h.row hb, fun i u x hu hx => (h.own i u x hu hx).below hb⟩
theorem LstAt.push {w w' : World} {B : Nat} {v v' u : Value} {us : List Value} {G : List (List Pf)} {x : List Pf} (h : LstAt w B v us G) (hu : OwnPs w B u x) (hrow : w'.ownsRow B 26 1 v' (G.length + 1) (us ++ [u])) (hgrow : w.grownBy w' v.ownBlock) : LstAt w' B v' (us ++ [u]) (G ++ [x]) := by
  have kp : ∀ (t : Value) (y : List Pf), OwnPs w B t y → OwnPs w' B t y := fun t y ht => ⟨((own_on ht.1).kept (kept_grown hgrow) (fun k _ h1 h2 => own_kinds h.row ht.1 (by decide) k h2 h1)).self, ht.2⟩
  refine ⟨by simp [h.len], by rw [List.length_append]; exact hrow, fun i t y ht hy => ?_⟩
  by_cases hi : i < us.length
  · rw [List.getElem?_append_left hi] at ht
    rw [List.getElem?_append_left (by rw [← h.len]; exact hi)] at hy
    exact kp t y (h.own i t y ht hy)
  · rw [List.getElem?_append_right (by omega)] at ht
    rw [List.getElem?_append_right (by rw [← h.len]; omega)] at hy
    obtain ⟨e1, -⟩ := List.getElem?_eq_some_iff.1 ht
    simp at e1
    have e2 : i - us.length = 0 := by omega
    have e3 : i - G.length = 0 := by rw [← h.len]; exact e2
    rw [e2] at ht
    rw [e3] at hy
    simp at ht hy
    subst ht; subst hy
    exact kp u x hu
theorem LstAt.sets {w : World} {B : Nat} {v : Value} {us : List Value} {G : List (List Pf)} (h : LstAt w B v us G) (hs : ∀ x ∈ G, Srt x) : SetsAt w v G := by
  refine own_rows (rows := us.map fun u => [u]) (e := 26) (B := B) (by rw [← List.flatMap_def, show us.flatMap (fun u => [u]) = us by simp]; exact h.row) (fun r hr => by obtain ⟨u, -, rfl⟩ := List.mem_map.1 hr; rfl) (fun i x hx => ?_)
  obtain ⟨u, hu⟩ : ∃ u, us[i]? = some u := ⟨_, List.getElem?_eq_getElem (by rw [h.len]; exact (List.getElem?_eq_some_iff.1 hx).1)⟩
  exact ⟨[u], by rw [List.getElem?_map, hu]; rfl, u, rfl, (h.own i u x hu hx).at, hs x (List.mem_of_getElem? hx)⟩
/-- a row of sets, by its cells. -/
structure RowAt (w : World) (v : Value) (G : List (List Pf)) : Prop where
  at_ : G.length ≠ 0 → ∃ b c, v = .slice (some ⟨b, 0, none⟩) G.length c ∧ ∀ (i : Nat) (x : List Pf), G[i]? = some x → ∃ s cc, w.cell? ⟨b, i, none⟩ = some (.slice s x.length cc) ∧ PsAt w (.slice s x.length cc) x
  len : ∃ s c, v = .slice s G.length c ∧ (s = none → G.length = 0) ∧ G.length ≤ c
theorem ps_form {w : World} {v : Value} {x : List Pf} (h : PsAt w v x) : ∃ s c, v = .slice s x.length c := by
  obtain ⟨s, c, rfl, -⟩ := h
  exact ⟨s, c, rfl⟩
theorem row_at {w : World} {B : Nat} {v : Value} {us : List Value} {G : List (List Pf)} (hl : us.length = G.length) (hrow : w.ownsRow B 26 1 v G.length us) (hp : ∀ (i : Nat) (u : Value) (x : List Pf), us[i]? = some u → G[i]? = some x → PsAt w u x) : RowAt w v G := by
  constructor
  · intro h0
    rcases own_slice hrow with ⟨-, h1⟩ | ⟨g, c, rfl⟩
    · exact absurd h1 h0
    · refine ⟨g, c, rfl, fun i x hx => ?_⟩
      obtain ⟨u, hu⟩ : ∃ u, us[i]? = some u := ⟨_, List.getElem?_eq_getElem (by rw [hl]; exact (List.getElem?_eq_some_iff.1 hx).1)⟩
      have hpu := hp i u x hu hx
      obtain ⟨s, cc, rfl⟩ := ps_form hpu
      exact ⟨s, cc, (own_row_cell hrow rfl hu).1, hpu⟩
  · obtain ⟨_, ⟨rfl, h0⟩ | ⟨g, cap, cur, rfl, _, _, hn, _⟩⟩ := hrow
    · exact ⟨none, 0, by rw [h0], fun _ => h0, by omega⟩
    · exact ⟨_, cap, rfl, (fun h => by cases h), hn⟩
theorem RowAt.below {w w' : World} {v : Value} {G : List (List Pf)} (h : RowAt w v G) (hb : Below w.heap.size w w') : RowAt w' v G :=
  ⟨fun h0 => by obtain ⟨b, c, e, k⟩ := h.at_ h0; exact ⟨b, c, e, fun i x hx => by obtain ⟨s, cc, h1, h2⟩ := k i x hx; exact ⟨s, cc, cell_below h1 hb, h2.below hb⟩⟩, h.len⟩
theorem LstAt.rows {w : World} {B : Nat} {v : Value} {us : List Value} {G : List (List Pf)} (h : LstAt w B v us G) : RowAt w v G := row_at h.len h.row fun i u x hu hx => (h.own i u x hu hx).at
theorem GrpAt.rows {w : World} {B : Nat} {v : Value} {vs : List Value} {bys : List (List Pf)} {xs : List Pf} (h : GrpAt w B v vs (grpL (sameB bys) xs)) (hok : ∀ p ∈ xs, OkP p) : RowAt w v (grpL (sameB bys) xs) := row_at h.len h.row fun _ _ _ hu hx => grp_at h hok hu hx
/-- the sets of the lists. -/
def setsOf (by_ : List (List Pf)) : List (List Pf) := by_.map fun b => setOf (goodL b)
theorem setsOf_step {by_ : List (List Pf)} {k : Nat} {b : List Pf} (h : by_[k]? = some b) : setsOf (by_.take (k + 1)) = setsOf (by_.take k) ++ [setOf (goodL b)] := by
  unfold setsOf
  rw [List.take_add_one, h]
  simp
theorem setsOf_srt (by_ : List (List Pf)) : ∀ x ∈ setsOf by_, Srt x := by
  intro x hx
  obtain ⟨b, -, rfl⟩ := List.mem_map.1 hx
  exact (setOf_srt _).1
theorem setOf_goodL_len' (a : List Pf) : (setOf (goodL a)).length ≤ a.length := Nat.le_trans (setOf_len _) (goodL_len a)
end Go.Proofs.Ytaafeekkllomhaa
