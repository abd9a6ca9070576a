/- Texts of one proof, one behind another. -/
import Derived.Test.YtkoidahgbbabiaaGreatLv24
import Derived.Test.YtkoidahgbbabiaaGreatLv22
import Derived.Test.YtkoidahgbbabiaaGreatLv21
/-
  THE LAWS ON SERVERS, PLAIN: who has come; what a list of messages makes of a server.
-/
namespace Go.Proofs.YtkoidahgbbabiaaGreat
open Go.RowKit

/-- so many have come. -/
def joinN (A : Ab) (k : Nat) : Ab := (List.range k).foldl Ab.join A
theorem joinN_succ (A : Ab) (k : Nat) : joinN A (k + 1) = (joinN A k).join k := by unfold joinN; rw [List.range_succ, List.foldl_append]; rfl
theorem joinN_V (A : Ab) : ∀ k, (joinN A k).V = A.V ∧ (joinN A k).own = A.own ∧ (joinN A k).bl = A.bl ∧ (joinN A k).most = A.most
  | 0 => ⟨rfl, rfl, rfl, rfl⟩
  | k + 1 => by rw [joinN_succ]; exact joinN_V A k
theorem joinN_th (A : Ab) : ∀ k i, (joinN A k).th i = if i < k then true else A.th i
  | 0, i => by rw [if_neg (by omega)]; rfl
  | k + 1, i => by
    rw [joinN_succ]
    show setF (joinN A k).th k true i = _
    unfold setF
    rw [joinN_th A k i]
    by_cases h : i = k
    · subst h; rw [if_pos rfl, if_pos (by omega)]
    · rw [if_neg h]
      by_cases h2 : i < k
      · rw [if_pos h2, if_pos (by omega)]
      · rw [if_neg h2, if_neg (by omega)]
/-- what a step says, if it isn't too big. -/
def Ab.say (A : Ab) (s : Stp) : Ab := if bigM s.x then A else A.updI s.n s.x.m.kind s.x.gone s.x.nets s.x.a
def Ab.says (A : Ab) (xs : List Stp) : Ab := xs.foldl Ab.say A
theorem says_snoc (A : Ab) (xs : List Stp) (s : Stp) : A.says (xs ++ [s]) = (A.says xs).say s := by unfold Ab.says; rw [List.foldl_append]; rfl
/-- what saying leaves as it is. -/
structure SameTh (A B : Ab) : Prop where
  len : B.V.length = A.V.length
  th : B.th = A.th
  own : B.own = A.own
  most : B.most = A.most
  bl : B.bl = A.bl
theorem SameTh.refl (A : Ab) : SameTh A A := ⟨rfl, rfl, rfl, rfl, rfl⟩
theorem SameTh.trans {A B C : Ab} (h : SameTh A B) (k : SameTh B C) : SameTh A C := ⟨k.len.trans h.len, k.th.trans h.th, k.own.trans h.own, k.most.trans h.most, k.bl.trans h.bl⟩
theorem same_upd (A : Ab) (i : Nat) (kind : Int) (gone nets : List Pf) (a : At) : SameTh A (A.upd i kind gone nets a) := by
  unfold Ab.upd
  split
  · exact ⟨setV_len .., rfl, rfl, rfl, rfl⟩
  · exact SameTh.refl A
theorem same_updI (A : Ab) (n : Int) (kind : Int) (gone nets : List Pf) (a : At) : SameTh A (A.updI n kind gone nets a) := by
  unfold Ab.updI
  split
  · exact same_upd ..
  · exact SameTh.refl A
theorem same_say (A : Ab) (s : Stp) : SameTh A (A.say s) := by
  unfold Ab.say
  split
  · exact SameTh.refl A
  · exact same_updI ..
theorem same_says : ∀ (xs : List Stp) (A : Ab), SameTh A (A.says xs)
  | [], A => SameTh.refl A
  | s :: xs, A => (same_say A s).trans (same_says xs (A.say s))
theorem nodup_len {α : Type} [DecidableEq α] {xs ys : List α} (hx : xs.Nodup) (hy : ys.Nodup) (h : ∀ p, p ∈ xs ↔ p ∈ ys) : xs.length = ys.length := ((List.perm_ext_iff_of_nodup hx hy).2 h).length_eq
theorem plt_nodup {L : List Pf} (h : L.Pairwise plt) : L.Nodup := by
  rw [List.nodup_iff_pairwise_ne]
  refine h.imp ?_
  intro x y hxy e
  subst e
  exact plt_irrefl x hxy
theorem newA_len (own most : Int) (n : Nat) : (newA own most (sdsN n)).V.length = n := by simp [newA, sdsN]
theorem newCd_sds {n : Nat} (h0 : 0 < n) (h : n ≤ 16) : newCd 65000 (sdsN n) = 0 := by
  refine newCd_ok ?_ (by rw [sdsN_len]; omega) (all_ok fun i x hi hx => ?_)
  · rw [sdsN_len]
    rintro (h1 | h1)
    · revert h1; decide
    · omega
  · rw [sdsN_len] at hi
    rw [sdsN_get hi] at hx
    injection hx with hx
    subst hx
    unfold sdB sysB
    simp
    omega
/-- a message's cells, within a step. -/
theorem stp_range {W : World} {g o : Nat} {s : Stp} (h : W.rangeAt g o s.C.toList) : W.rangeAt g (o + 4) s.x.m.C.toList := by
  intro j v hv
  have hj : j < 20 := by have := (List.getElem?_eq_some_iff.1 hv).1; simpa using this
  have h4 := h (4 + j) v (by
    rw [← hv]
    match j, hj with
    | 0, _ => rfl
    | 1, _ => rfl
    | 2, _ => rfl
    | 3, _ => rfl
    | 4, _ => rfl
    | 5, _ => rfl
    | 6, _ => rfl
    | 7, _ => rfl
    | 8, _ => rfl
    | 9, _ => rfl
    | 10, _ => rfl
    | 11, _ => rfl
    | 12, _ => rfl
    | 13, _ => rfl
    | 14, _ => rfl
    | 15, _ => rfl
    | 16, _ => rfl
    | 17, _ => rfl
    | 18, _ => rfl
    | 19, _ => rfl)
  rw [← h4]
  congr 2; omega
theorem stps_at {w : World} {s : Option Addr} {n c : Nat} {xs : List Stp} (h : StpsAt w (.slice s n c) xs) {i : Nat} {x : Stp} (hx : xs[i]? = some x) : ∃ g o, s = some ⟨g, o, none⟩ ∧ w.rangeAt g (o + i * 24) x.C.toList ∧ StpOk x ∧ MsAt w x.x := by
  obtain ⟨s', c', e, h1, h2, h3⟩ := h
  injection e with e _ _
  subst e
  have hi := (List.getElem?_eq_some_iff.1 hx).1
  obtain ⟨b, off, rfl, h4⟩ := h3 (by omega)
  obtain ⟨cs, l, ⟨rfl, hR, hm⟩, hc⟩ := h4 i x hx
  exact ⟨b, off, rfl, fun j v hv => hc j v hv, hR, hm⟩
theorem range_below {W W' : World} {g o : Nat} {l : List Value} (h : W.rangeAt g o l) (hb : Below W.heap.size W W') : W'.rangeAt g o l := fun j v hv => cell_below (h j v hv) hb
end Go.Proofs.YtkoidahgbbabiaaGreat

/-
  THE SERVER: all routes of a participant; in short: its routes, its best ones.
-/
namespace Go.Proofs.YtkoidahgbbabiaaGreat
open Go.RowKit

section
variable {w W : World} {rho : Nat → Role} {sb fb : Nat} {ls : List Pl} {S : Sv} {A : Ab}
set_option maxRecDepth 100000 in
theorem sv_Routes (h : SrvM W rho sb fb ls S) {i : Nat} {m : Pm} (hm : S.ms[i]? = some m) : Calls Tryz.prog 23 #[.pointer (some ⟨sb, 0, none⟩), .int .i64 i] W (AllPost i m.R W) := by
  obtain ⟨l, hl, hM⟩ := h.get hm
  have m3 : W.cell? ⟨l.mb, 3, none⟩ = some (.pointer (some ⟨l.rb, 0, none⟩)) := row_cell hM.row 3
  have MB := Lib.hid (sv_member h hl)
  have AL := Lib.hid (ad_All W hM.rib)
  clear h hm hl hM
  go_enter Tryz.func23, Tryz.ntmps23
  go_wp2_with fail
  refine MB.out.mono ?_
  rintro e w1 ⟨rfl, rfl⟩
  go_wp2_with fail
  refine AL.out.mono ?_
  rintro e w2 ⟨v, vs, rfl, hr⟩
  obtain ⟨s, c, rfl, -⟩ := own_form hr.1.own
  have FIN : Hid (AllPost i m.R W (.returned (.slice s vs.length c)) w2) := Lib.hid ⟨_, vs, rfl, hr⟩
  clear hr AL
  go_wp2_with fail
  go_ret
  exact FIN.out
theorem ls_Routes (h : LSv w W rho sb fb ls A) {i : Nat} (hi : i < A.V.length) : Calls Tryz.prog 23 #[.pointer (some ⟨sb, 0, none⟩), .int .i64 i] W (AllPost i (A.R i) W) := by
  obtain ⟨S, h1, h2⟩ := h.srv
  obtain ⟨m, hm⟩ := h2.at hi
  rw [(h2.get hm).2]
  exact sv_Routes h1 hm
theorem ls_Bests (h : LSv w W rho sb fb ls A) {i : Nat} (hi : i < A.V.length) : Calls Tryz.prog 25 #[.pointer (some ⟨sb, 0, none⟩), .int .i64 i] W (BestsPost (A.best i) W) := by
  obtain ⟨S, h1, h2⟩ := h.srv
  obtain ⟨m, hm⟩ := h2.at hi
  have e : A.best i = S.best i := by
    funext p
    exact (h2.best i p (by rw [h2.len]; exact hi)).symm
  rw [e]
  exact sv_Bests h1 hm
end
/-- whose a best route is: somebody else's, who says it. -/
theorem best_from {A : Ab} {i : Nat} {p : Pf} {j : Int} {a : At} (h : A.best i p = some (j, a)) : ∃ (n : Nat) (v : VM), j = (n : Int) ∧ A.V[n]? = some v ∧ getL v.2.2 p = some a ∧ n ≠ i := by
  unfold Ab.best bestV bestS at h
  have hne : offS A.own A.bl (A.V.map pmV) i p ≠ [] := by
    intro e
    rw [pickB_none.2 e] at h
    cases h
  obtain ⟨k, c, h1, -, h3⟩ := pickB_some hne
  rw [h3] at h
  injection h with h
  injection h with e1 e2
  have hm := List.mem_of_getElem? h1
  unfold offS offL at hm
  obtain ⟨h4, h5⟩ := List.mem_filter.1 hm
  obtain ⟨n, m, b, g1, g2, rfl⟩ := saidS_mem h4
  rw [List.getElem?_map] at g1
  cases hv : A.V[n]? with
  | none => rw [hv] at g1; simp at g1
  | some v =>
    rw [hv] at g1; simp at g1; subst g1
    refine ⟨n, v, e1.symm, hv, ?_, ?_⟩
    · rw [← e2]; exact g2
    · unfold goesC goesB cdOf at h5
      simp only [Int.toNat_natCast] at h5
      intro e
      subst e
      simp at h5
end Go.Proofs.YtkoidahgbbabiaaGreat
