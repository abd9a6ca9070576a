/- Texts of one proof, one behind another. -/
import Derived.Test.YtkoidahgbbabiaaGreatSf21
import Derived.Test.YtkoidahgbbabiaaGreatSf19
import Derived.Test.YtkoidahgbbabiaaGreatSf20
import Derived.Test.YtkoidahgbbabiaaGreatSf18
import Derived.Test.YtkoidahgbbabiaaGreatSf6
import Derived.Test.YtkoidahgbbabiaaGreatSf12
import Derived.Test.YtkoidahgbbabiaaGreatSf1
/-
  THE SERVER, PLAIN, IN SHORT: what each participant says, who is there, what is to be told; the best routes follow from what is said.
-/
namespace Go.Proofs.YtkoidahgbbabiaaGreat
open Go.RowKit
abbrev VM := Int × Nat × Rts
def pmV (v : VM) : Pm := ⟨v.1, v.2.1, false, v.2.2, fun _ => false⟩
def bestV (own : Int) (bl : Nat → Bool) (V : List VM) (rc : Nat) (p : Pf) : Option (Int × At) := bestS own bl (V.map pmV) rc p
def offV (own : Int) (bl : Nat → Bool) (V : List VM) (rc : Nat) (p : Pf) : List Cd := offS own bl (V.map pmV) rc p
def RV (S : Sv) : List VM := S.ms.map fun m => (m.as_, m.id, m.R)
theorem RV_len (S : Sv) : (RV S).length = S.ms.length := by simp [RV]
theorem RV_get (S : Sv) (i : Nat) : (RV S)[i]? = (S.ms[i]?).map fun m => (m.as_, m.id, m.R) := by simp [RV]
theorem asOf_V (S : Sv) (rc : Nat) : asOf ((RV S).map pmV) rc = asOf S.ms rc := by
  unfold asOf
  rw [List.getElem?_map, RV_get]
  cases S.ms[rc]? <;> rfl
theorem said_V (S : Sv) (p : Pf) : saidS ((RV S).map pmV) p = saidS S.ms p := saidF_congr (by simp [RV]) fun k m n hm hn => by
  rw [List.getElem?_map, RV_get, hn] at hm
  simp at hm; subst hm
  exact ⟨rfl, rfl⟩
theorem off_V (S : Sv) (rc : Nat) (p : Pf) : offS S.own S.bl S.ms rc p = offV S.own S.bl (RV S) rc p := by
  unfold offV offS
  rw [asOf_V, said_V]
theorem bestIn_V (S : Sv) (rc : Nat) (p : Pf) : bestIn S rc p = bestV S.own S.bl (RV S) rc p := by
  unfold bestIn bestV bestS
  have := off_V S rc p
  unfold offV at this
  rw [this]
theorem offV_congr {own : Int} {bl bl' : Nat → Bool} {V V' : List VM} {rc : Nat} {p : Pf} (hl : V.length = V'.length) (h : ∀ (k : Nat) v v', V[k]? = some v → V'[k]? = some v' → v.1 = v'.1 ∧ v.2.1 = v'.2.1 ∧ getL v.2.2 p = getL v'.2.2 p)
    (hb : ∀ (k : Nat) v a, V[k]? = some v → getL v.2.2 p = some a → bl (k * 16 + rc) = bl' (k * 16 + rc)) : offV own bl V rc p = offV own bl' V' rc p := by
  unfold offV offS
  have e1 : saidS (V.map pmV) p = saidS (V'.map pmV) p := saidF_congr (by simp [hl]) fun k m n hm hn => by
    rw [List.getElem?_map] at hm hn
    cases hv : V[k]? with
    | none => rw [hv] at hm; simp at hm
    | some v =>
      cases hv' : V'[k]? with
      | none => rw [hv'] at hn; simp at hn
      | some v' =>
        rw [hv] at hm; rw [hv'] at hn
        simp at hm hn; subst hm; subst hn
        exact ⟨(h k v v' hv hv').2.1, (h k v v' hv hv').2.2⟩
  have e2 : asOf (V.map pmV) rc = asOf (V'.map pmV) rc := by
    unfold asOf
    rw [List.getElem?_map, List.getElem?_map]
    cases hv : V[rc]? with
    | none =>
      have : V'[rc]? = none := by rw [List.getElem?_eq_none_iff] at hv ⊢; omega
      rw [this]
    | some v =>
      obtain ⟨v', hv'⟩ : ∃ v', V'[rc]? = some v' := ⟨_, List.getElem?_eq_getElem (by rw [← hl]; exact (List.getElem?_eq_some_iff.1 hv).1)⟩
      rw [hv']
      simp [pmV, (h rc v v' hv hv').1]
  rw [← e1, ← e2]
  unfold offL
  refine List.filter_congr fun c hc => ?_
  obtain ⟨k, m, a, hm, hg, rfl⟩ := saidS_mem hc
  rw [List.getElem?_map] at hm
  cases hv : V[k]? with
  | none => rw [hv] at hm; simp at hm
  | some v =>
    rw [hv] at hm; simp at hm; subst hm
    unfold goesC goesB cdOf
    simp only [Int.toNat_natCast]
    rw [hb k v a hv hg]
theorem bestV_congr {own : Int} {bl bl' : Nat → Bool} {V V' : List VM} {rc : Nat} {p : Pf} (hl : V.length = V'.length) (h : ∀ (k : Nat) v v', V[k]? = some v → V'[k]? = some v' → v.1 = v'.1 ∧ v.2.1 = v'.2.1 ∧ getL v.2.2 p = getL v'.2.2 p)
    (hb : ∀ (k : Nat) v a, V[k]? = some v → getL v.2.2 p = some a → bl (k * 16 + rc) = bl' (k * 16 + rc)) : bestV own bl V rc p = bestV own bl' V' rc p := by
  have := offV_congr (own := own) (rc := rc) hl h hb
  unfold offV at this
  unfold bestV bestS
  rw [this]
structure Ab where
  own : Int
  most : Int
  bl : Nat → Bool
  V : List VM
  th : Nat → Bool
  nw : Nat → Pf → Bool
def Ab.best (A : Ab) (i : Nat) (p : Pf) : Option (Int × At) := bestV A.own A.bl A.V i p
def Ab.offs (A : Ab) (i : Nat) (p : Pf) : List Cd := offV A.own A.bl A.V i p
def Ab.R (A : Ab) (i : Nat) : Rts := ((A.V[i]?).map (·.2.2)).getD []
structure IsAb (S : Sv) (A : Ab) : Prop where
  own : S.own = A.own
  most : S.most = A.most
  bl : S.bl = A.bl
  V : RV S = A.V
  mem : ∀ (i : Nat) m, S.ms[i]? = some m → m.there = A.th i ∧ ∀ p, m.news p = A.nw i p
  best : ∀ i p, i < S.ms.length → S.best i p = A.best i p
def Ab.turn (A : Ab) (bl : Nat → Bool) (V : List VM) : Ab := { A with bl := bl, V := V, nw := fun k p => A.nw k p || (A.th k && !sameB (A.best k p) (bestV A.own bl V k p)) }
def setV (V : List VM) (i : Nat) (R : Rts) : List VM := V.modify i fun v => (v.1, v.2.1, R)
def setF {α : Type} (f : Nat → α) (i : Nat) (x : α) (k : Nat) : α := if k = i then x else f k
def Ab.join (A : Ab) (i : Nat) : Ab := { A with th := setF A.th i true, nw := setF A.nw i fun p => A.nw i p || (A.best i p).isSome }
def Ab.away (A : Ab) (i : Nat) : Ab := { A with th := setF A.th i false, nw := setF A.nw i fun _ => false }
def Ab.leave (A : Ab) (i : Nat) : Ab := (A.away i).turn A.bl (setV A.V i [])
def Ab.updR (A : Ab) (i : Nat) (kind : Int) (gone nets : List Pf) (a : At) : Int × List Pf × Rts := updP A.own A.most (A.R i) kind gone nets a
def Ab.upd (A : Ab) (i : Nat) (kind : Int) (gone nets : List Pf) (a : At) : Ab := if (A.updR i kind gone nets a).1 = 0 then A.turn A.bl (setV A.V i (A.updR i kind gone nets a).2.2) else A
def Ab.mark (A : Ab) (i : Nat) (ps : List Pf) : Ab := { A with nw := setF A.nw i fun p => A.nw i p || (decide (p ∈ ps) && rightB p.1 p.2) }
def Ab.block (A : Ab) (i j : Nat) (b : Bool) : Ab := A.turn (setWay A.bl (i * 16 + j) b) A.V
def newA (own most : Int) (xs : List Sd) : Ab := ⟨own, min (max most 0) 256, fun _ => false, xs.map fun x => (x.1, x.2, []), fun _ => false, fun _ _ => false⟩
theorem setF_same {α : Type} (f : Nat → α) (i : Nat) (x : α) : setF f i x i = x := if_pos rfl
theorem setF_other {α : Type} (f : Nat → α) {i k : Nat} (h : k ≠ i) (x : α) : setF f i x k = f k := if_neg h
theorem setV_get (V : List VM) (i : Nat) (R : Rts) (j : Nat) : (setV V i R)[j]? = (V[j]?).map fun v => if j = i then (v.1, v.2.1, R) else v := by
  unfold setV
  simp only [List.getElem?_modify]
  cases V[j]? with
  | none => rfl
  | some m => simp only [Option.map_some, Option.map_eq_map, eq_comm (a := i)]
theorem setV_len (V : List VM) (i : Nat) (R : Rts) : (setV V i R).length = V.length := by unfold setV; simp
theorem RV_setR (S : Sv) (i : Nat) (R : Rts) : RV (setR S i R) = setV (RV S) i R := by
  apply List.ext_getElem?
  intro j
  rw [RV_get, setR_get, setV_get, RV_get]
  cases S.ms[j]? with
  | none => rfl
  | some m => simp only [Option.map_some]; split <;> rfl
theorem RV_modS (S : Sv) (i : Nat) (f : Pm → Pm) (h : ∀ m, (f m).as_ = m.as_ ∧ (f m).id = m.id ∧ (f m).R = m.R) : RV (modS S i f) = RV S := by
  apply List.ext_getElem?
  intro j
  rw [RV_get, modS_get, RV_get]
  cases S.ms[j]? with
  | none => rfl
  | some m =>
    simp only [Option.map_some]
    split
    · rw [(h m).1, (h m).2.1, (h m).2.2]
    · rfl
theorem SvKin.RV {S T : Sv} (h : SvKin S T) : RV T = RV S := by
  apply List.ext_getElem?
  intro j
  rw [RV_get, RV_get]
  cases hm : S.ms[j]? with
  | none =>
    have : T.ms[j]? = none := by rw [List.getElem?_eq_none_iff] at hm ⊢; rw [h.len]; exact hm
    rw [this]
  | some m =>
    obtain ⟨n, h1, h2, h3, h4, h5⟩ := h.mem j m hm
    rw [h1]
    simp [h2, h3, h5]
section
variable {S : Sv} {A : Ab}
theorem IsAb.len (h : IsAb S A) : S.ms.length = A.V.length := by rw [← h.V, RV_len]
theorem IsAb.get (h : IsAb S A) {i : Nat} {m : Pm} (hm : S.ms[i]? = some m) : A.V[i]? = some (m.as_, m.id, m.R) ∧ A.R i = m.R := by
  have : A.V[i]? = some (m.as_, m.id, m.R) := by rw [← h.V, RV_get, hm]; rfl
  exact ⟨this, by unfold Ab.R; rw [this]; rfl⟩
theorem IsAb.at (h : IsAb S A) {i : Nat} (hi : i < A.V.length) : ∃ m, S.ms[i]? = some m := ⟨_, List.getElem?_eq_getElem (by rw [h.len]; exact hi)⟩
theorem IsAb.modS (h : IsAb S A) (i : Nat) (f : Pm → Pm) {A' : Ab} (hf : ∀ m, (f m).as_ = m.as_ ∧ (f m).id = m.id ∧ (f m).R = m.R) (e1 : A'.own = A.own) (e2 : A'.most = A.most) (e3 : A'.bl = A.bl) (e4 : A'.V = A.V)
    (e5 : ∀ (k : Nat) m, S.ms[k]? = some m → k ≠ i → A'.th k = A.th k ∧ ∀ p, A'.nw k p = A.nw k p) (e6 : ∀ m, S.ms[i]? = some m → (f m).there = A'.th i ∧ ∀ p, (f m).news p = A'.nw i p) : IsAb (modS S i f) A' := by
  refine ⟨h.own.trans e1.symm, h.most.trans e2.symm, h.bl.trans e3.symm, ?_, ?_, ?_⟩
  · rw [RV_modS S i f hf, h.V, e4]
  · intro k m hm
    rw [modS_get] at hm
    cases hk : S.ms[k]? with
    | none => rw [hk] at hm; simp at hm
    | some n =>
      rw [hk] at hm; simp at hm; subst hm
      by_cases e : k = i
      · subst e
        rw [if_pos rfl]
        exact e6 n hk
      · rw [if_neg e]
        obtain ⟨h1, h2⟩ := h.mem k n hk
        exact ⟨h1.trans (e5 k n hk e).1.symm, fun p => (h2 p).trans ((e5 k n hk e).2 p).symm⟩
  · intro k p hk
    rw [modS_len] at hk
    have : A'.best k p = A.best k p := by unfold Ab.best; rw [e1, e3, e4]
    rw [this]
    exact h.best k p hk
theorem IsAb.join (h : IsAb S A) {i : Nat} (hi : i < A.V.length) : IsAb (joinS S i) (A.join i) :=
  h.modS i _ (fun _ => ⟨rfl, rfl, rfl⟩) rfl rfl rfl rfl (fun k m _ hk => ⟨setF_other _ hk _, fun p => by unfold Ab.join; simp only; rw [setF_other _ hk]⟩) (fun m hm => ⟨(setF_same _ _ _).symm, fun p => by
    unfold Ab.join
    simp only
    rw [setF_same, (h.mem i m hm).2 p, h.best i p (by rw [h.len]; exact hi)]⟩)
theorem IsAb.away (h : IsAb S A) (i : Nat) : IsAb (awayS S i) (A.away i) :=
  h.modS i _ (fun _ => ⟨rfl, rfl, rfl⟩) rfl rfl rfl rfl (fun k m _ hk => ⟨setF_other _ hk _, fun p => by unfold Ab.away; simp only; rw [setF_other _ hk]⟩) (fun m hm => ⟨(setF_same _ _ _).symm, fun p => by
    unfold Ab.away
    simp only
    rw [setF_same]⟩)
theorem IsAb.turnS (h : IsAb S A) (i : Nat) (R : Rts) (ps : List Pf) (hR : ∀ p, p ∉ ps → getL R p = getL (A.R i) p) : IsAb (turnS (setR S i R) ps) (A.turn A.bl (setV A.V i R)) := by
  have hk := kin_turn ps (setR S i R)
  have hV : RV (Proofs.YtkoidahgbbabiaaGreat.turnS (setR S i R) ps) = setV A.V i R := by rw [hk.RV, RV_setR, h.V]
  have hin : ∀ k q, bestIn (setR S i R) k q = bestV A.own A.bl (setV A.V i R) k q := fun k q => by
    rw [bestIn_V, RV_setR, h.V]
    show bestV S.own S.bl _ k q = _
    rw [h.own, h.bl]
  have hold : ∀ k q, k < S.ms.length → q ∉ ps → A.best k q = bestV A.own A.bl (setV A.V i R) k q := fun k q hkl hq => by
    refine bestV_congr (setV_len ..).symm (fun j v v' hv hv' => ?_) fun _ _ _ _ _ => rfl
    rw [setV_get, hv] at hv'
    simp at hv'; subst hv'
    by_cases e : j = i
    · subst e
      rw [if_pos rfl]
      refine ⟨rfl, rfl, ?_⟩
      have : A.R j = v.2.2 := by unfold Ab.R; rw [hv]; rfl
      rw [← this]
      exact (hR q hq).symm
    · rw [if_neg e]; exact ⟨rfl, rfl, rfl⟩
  refine ⟨hk.own.trans h.own, hk.most.trans h.most, hk.bl.trans h.bl, hV, ?_, ?_⟩
  · intro k n hn
    obtain ⟨m', hm', -⟩ := hk.back hn
    obtain ⟨n', g1, g2, g3, g4, g5, g6⟩ := turnS_news ps _ k m' hm'
    rw [hn] at g1; injection g1 with g1; subst g1
    rw [setR_get] at hm'
    cases hm : S.ms[k]? with
    | none => rw [hm] at hm'; simp at hm'
    | some m =>
      rw [hm] at hm'; simp at hm'
      have e1 : m'.there = m.there := by rw [← hm']; split <;> rfl
      have e2 : m'.news = m.news := by rw [← hm']; split <;> rfl
      obtain ⟨h1, h2⟩ := h.mem k m hm
      refine ⟨g4.trans (e1.trans h1), fun p => ?_⟩
      rw [g6 p, e1, e2, h1, h2 p]
      unfold Ab.turn
      simp only
      have hkl : k < S.ms.length := (List.getElem?_eq_some_iff.1 hm).1
      have hb : (setR S i R).best k p = A.best k p := h.best k p hkl
      rw [hb, hin]
      by_cases hp : p ∈ ps
      · simp [hp]
      · have : sameB (A.best k p) (bestV A.own A.bl (setV A.V i R) k p) = true := (sameB_iff _ _).2 (hold k p hkl hp)
        simp [hp, this]
  · intro k q hkl
    rw [hk.len, setR_len] at hkl
    rw [turnS_best ps _ k q (by rw [setR_len]; exact hkl), hin]
    show _ = bestV A.own A.bl (setV A.V i R) k q
    by_cases hq : q ∈ ps
    · rw [if_pos hq]
    · rw [if_neg hq]
      exact (h.best k q hkl).trans (hold k q hkl hq)
theorem IsAb.leave (h : IsAb S A) (i : Nat) (had : List Pf) (hh : ∀ p, p ∈ had ↔ (getL (A.R i) p).isSome = true) : IsAb (leaveS S i had) (A.leave i) := by
  refine (h.away i).turnS i [] had fun p hp => ?_
  have : ¬ (getL (A.R i) p).isSome = true := fun h2 => hp ((hh p).2 h2)
  show none = getL (A.R i) p
  cases hg : getL (A.R i) p with
  | none => rfl
  | some x => rw [hg] at this; exact absurd rfl this
theorem setOf_mem {ps : List Pf} {p : Pf} : p ∈ setOf ps ↔ p ∈ ps := (setOf_srt ps).2 p
theorem saidP_mem {gone nets : List Pf} {p : Pf} : p ∈ saidP gone nets ↔ p ∈ gone ∨ p ∈ nets := by
  unfold saidP
  rw [setOf_mem, List.mem_append]
theorem netsP_sub {own : Int} {nets : List Pf} {a : At} {p : Pf} (h : p ∈ netsP own nets a) : p ∈ nets := by
  unfold netsP at h
  split at h
  · cases h
  · exact setOf_mem.1 h
theorem updP_keeps {own most : Int} {R : Rts} {kind : Int} {gone nets : List Pf} {a : At} {p : Pf} (hp : p ∉ gone ++ nets) : getL (updP own most R kind gone nets a).2.2 p = getL R p := by
  have h1 : p ∉ saidP gone nets := fun h => hp (List.mem_append.2 (saidP_mem.1 h))
  have h2 : p ∉ netsP own nets a := fun h => hp (List.mem_append_right _ (netsP_sub h))
  unfold updP
  split
  · split
    · split
      · rfl
      · simp only
        rw [getL_putAll, getL_dropAll, if_neg h2, if_neg h1]
    · rfl
  · rfl
theorem IsAb.upd (h : IsAb S A) {i : Nat} {m : Pm} (hm : S.ms[i]? = some m) (kind : Int) (gone nets : List Pf) (a : At) : IsAb (updS S i m kind gone nets a) (A.upd i kind gone nets a) := by
  have e : updP S.own S.most m.R kind gone nets a = A.updR i kind gone nets a := by
    unfold Ab.updR
    rw [h.own, h.most, (h.get hm).2]
  unfold updS Ab.upd
  rw [e]
  split
  · rw [← turnS_app]
    exact h.turnS i _ _ fun p hp => by
      unfold Ab.updR
      exact updP_keeps hp
  · exact h
theorem mark1_is (i : Nat) (S : Sv) (p : Pf) (k : Nat) : (mark1 i S p).ms[k]? = (S.ms[k]?).map fun m => if k = i then m.mark p (m.there && rightB p.1 p.2) else m := by
  unfold mark1
  cases hr : rightB p.1 p.2 with
  | true => rw [if_pos rfl, markS_get]
  | false =>
    rw [if_neg (by simp)]
    cases S.ms[k]? with
    | none => rfl
    | some m =>
      simp only [Option.map_some, Bool.and_false]
      split
      · unfold Pm.mark; simp
      · rfl
theorem marks_get (i : Nat) : ∀ (ps : List Pf) (S : Sv) (k : Nat) (m : Pm), S.ms[k]? = some m → ∃ n, (marksS S i ps).ms[k]? = some n ∧ n.there = m.there ∧ ∀ q, n.news q = if k = i then (m.news q || (m.there && (decide (q ∈ ps) && rightB q.1 q.2))) else m.news q
  | [], S, k, m, hm => ⟨m, hm, rfl, fun q => by simp⟩
  | p :: ps, S, k, m, hm => by
    have h1 := mark1_is i S p k
    rw [hm] at h1
    simp only [Option.map_some] at h1
    obtain ⟨n, n1, n2, n3⟩ := marks_get i ps (mark1 i S p) k _ h1
    refine ⟨n, n1, ?_, fun q => ?_⟩
    · rw [n2]; split <;> rfl
    · rw [n3 q]
      by_cases e : k = i
      · simp only [e, if_true]
        rw [mark_news]
        show _ = _
        have : (m.mark p (m.there && rightB p.1 p.2)).there = m.there := rfl
        rw [this]
        by_cases eq : q = p
        · subst eq
          simp only [List.mem_cons, true_or, decide_true, Bool.true_and]
          cases m.news q <;> cases m.there <;> cases rightB q.1 q.2 <;> simp
        · have : decide (q ∈ p :: ps) = decide (q ∈ ps) := by simp [eq]
          rw [this]
          simp [eq]
      · simp only [e, if_false]
theorem marks_best (i : Nat) : ∀ (ps : List Pf) (S : Sv), (marksS S i ps).best = S.best
  | [], _ => rfl
  | p :: ps, S => by
    show (marksS (mark1 i S p) i ps).best = S.best
    rw [marks_best i ps]
    unfold mark1
    split <;> rfl
theorem IsAb.mark (h : IsAb S A) {i : Nat} (ht : A.th i = true) (ps : List Pf) : IsAb (marksS S i ps) (A.mark i ps) := by
  have hk := kin_marks i ps S
  refine ⟨hk.own.trans h.own, hk.most.trans h.most, hk.bl.trans h.bl, hk.RV.trans h.V, ?_, ?_⟩
  · intro k n hn
    obtain ⟨m, hm, -⟩ := hk.back hn
    obtain ⟨n', g1, g2, g3⟩ := marks_get i ps S k m hm
    rw [hn] at g1; injection g1 with g1; subst g1
    obtain ⟨h1, h2⟩ := h.mem k m hm
    refine ⟨g2.trans h1, fun p => ?_⟩
    rw [g3 p]
    unfold Ab.mark
    simp only
    by_cases e : k = i
    · subst e
      rw [if_pos rfl, setF_same, h2 p, h1, ht, Bool.true_and]
    · rw [if_neg e, setF_other _ e]
      exact h2 p
  · intro k p hkl
    rw [marks_best]
    rw [hk.len] at hkl
    exact h.best k p hkl
theorem saidF_none (p : Pf) : ∀ (ms : List Pm) (i : Nat), (∀ m ∈ ms, m.R = []) → saidF p i ms = []
  | [], _, _ => rfl
  | m :: ms, i, h => by
    rw [saidF, saidF_none p ms (i + 1) fun x hx => h x (List.mem_cons_of_mem _ hx)]
    unfold saidOne
    rw [h m (List.mem_cons_self ..)]
    rfl
theorem newA_best (own most : Int) (xs : List Sd) (i : Nat) (p : Pf) : (newA own most xs).best i p = none := by
  unfold Ab.best bestV bestS offS saidS newA
  simp only
  rw [saidF_none p _ 0 fun m hm => by
    obtain ⟨v, hv, rfl⟩ := List.mem_map.1 hm
    obtain ⟨x, hx, rfl⟩ := List.mem_map.1 hv
    rfl]
  rfl
theorem newA_is (own most : Int) (xs : List Sd) : IsAb (newSv own most xs) (newA own most xs) := by
  refine ⟨rfl, rfl, rfl, ?_, ?_, fun i p _ => (newA_best own most xs i p).symm⟩
  · unfold RV newSv newA
    simp only [List.map_map]
    rfl
  · intro i m hm
    unfold newSv at hm
    simp only [List.getElem?_map] at hm
    cases hx : xs[i]? with
    | none => rw [hx] at hm; simp at hm
    | some x =>
      rw [hx] at hm; simp at hm; subst hm
      exact ⟨rfl, fun _ => rfl⟩
end
end Go.Proofs.YtkoidahgbbabiaaGreat
/-
  THE SERVER OF A LAW'S OWN: its functions in short.
-/
namespace Go.Proofs.YtkoidahgbbabiaaGreat
open Go.RowKit
structure LSv (w W : World) (rho : Nat → Role) (sb fb : Nat) (ls : List Pl) (A : Ab) : Prop where
  srv : ∃ S, SrvM W rho sb fb ls S ∧ IsAb S A
  low : ∀ k, rho k ≠ .no → w.heap.size ≤ k
  bel : Below w.heap.size w W
section
variable {w W W' : World} {rho rho' : Nat → Role} {sb fb : Nat} {ls : List Pl} {A A' : Ab}
theorem LSv.step (h : LSv w W rho sb fb ls A) {S' : Sv} (hs : SrvM W' rho' sb fb ls S') (ha : IsAb S' A') (st : Step rho rho' W W') : LSv w W' rho' sb fb ls A' :=
  ⟨⟨S', hs, ha⟩, fun k hk => by
    have hb := h.bel.size
    by_cases hl : k < W.heap.size
    · rw [st.same k hl] at hk; exact h.low k hk
    · omega, h.bel.trans (st.kept.below h.bel.size h.low)⟩
theorem LSv.below (h : LSv w W rho sb fb ls A) (hb : Below W.heap.size W W') : LSv w W' rho sb fb ls A := by
  obtain ⟨S, h1, h2⟩ := h.srv
  exact h.step (h1.below hb) h2 (Step.below hb)
theorem LSv.out {G : Nat → Prop} (h : LSv w W rho sb fb ls A) (hk : Kept G W W') (hG : ∀ k, G k → rho k = .no) (hw : ∀ k, G k → w.heap.size ≤ k) : LSv w W' rho sb fb ls A := by
  obtain ⟨S, h1, h2⟩ := h.srv
  exact ⟨⟨S, h1.out (hk.imp hG), h2⟩, h.low, h.bel.trans (hk.below h.bel.size hw)⟩
theorem LSv.new (h : LSv w W rho sb fb ls A) {k : Nat} (hk : W.heap.size ≤ k) : rho k = .no := by
  obtain ⟨S, h1, -⟩ := h.srv
  exact h1.newNo hk
theorem LSv.old (h : LSv w W rho sb fb ls A) {k : Nat} (hk : k < w.heap.size) : rho k = .no := by
  cases hr : rho k with
  | no => rfl
  | _ => exact absurd (h.low k (by rw [hr]; intro e; cases e)) (by omega)
theorem LSv.few (h : LSv w W rho sb fb ls A) : A.V.length ≤ 16 := by
  obtain ⟨S, h1, h2⟩ := h.srv
  rw [← h2.len]; exact h1.bod.few
theorem LSv.handed {Q : World → Prop} (h : LSv w W rho sb fb ls A) (hq : On (fun k => k < w.heap.size) w Q) : On (fun k => rho k = .no) W Q := fun V hV =>
  hq V fun k hk _ => (hV k (h.old hk) (Nat.lt_of_lt_of_le hk h.bel.size)).trans (h.bel.block k hk)
theorem ls_New (own most : Int) (v : Value) (xs : List Sd) (w W : World) (hB : Below w.heap.size w W) (hxs : SdsAt W v xs) (hc : newCd own xs = 0) :
    Calls Tryz.prog 14 #[.int .i64 own, v, .int .i64 most] W fun e w' => ∃ (rho : Nat → Role) (sb fb : Nat) (ls : List Pl), e = .returned (.tuple #[.pointer (some ⟨sb, 0, none⟩), .int .i64 0]) ∧ LSv w w' rho sb fb ls (newA own most xs) ∧ (∀ k, rho k ≠ .no → W.heap.size ≤ k) ∧ Below W.heap.size W w' := by
  refine (sv_New own most v xs W hxs).mono ?_
  rintro e w' (⟨h0, -⟩ | ⟨-, rho, sb, fb, ls, rfl, hs, hl, hb⟩)
  · exact absurd hc h0
  · exact ⟨rho, sb, fb, ls, rfl, ⟨⟨_, hs, newA_is own most xs⟩, fun k hk => Nat.le_trans hB.size (hl k hk), below_on hB hb⟩, hl, hb⟩
theorem ls_Join (h : LSv w W rho sb fb ls A) {i : Nat} (hi : i < A.V.length) (ht : A.th i = false) :
    Calls Tryz.prog 18 #[.pointer (some ⟨sb, 0, none⟩), .int .i64 i] W fun e w' => e = .returned (.int .i64 0) ∧ LSv w w' rho sb fb ls (A.join i) ∧ Step rho rho W w' := by
  obtain ⟨S, h1, h2⟩ := h.srv
  obtain ⟨m, hm⟩ := h2.at hi
  refine (sv_Join h1 hm ((h2.mem i m hm).1.trans ht)).mono ?_
  rintro e w' ⟨rfl, hs, st⟩
  exact ⟨rfl, h.step hs (h2.join hi) st, st⟩
def PsOn (rho : Nat → Role) (W : World) (s : Option Addr) (c : Nat) (L : List Pf) : Prop := On (fun k => rho k = .no) W fun W => PsAt W (.slice s L.length c) L
def Ab.updI (A : Ab) (n : Int) (kind : Int) (gone nets : List Pf) (a : At) : Ab := if (0 ≤ n ∧ n < (A.V.length : Int)) ∧ A.th n.toNat = true then A.upd n.toNat kind gone nets a else A
theorem ls_Update (h : LSv w W rho sb fb ls A) {i : Nat} (hi : i < A.V.length) (ht : A.th i = true) (x : Ms) (hx : On (fun k => rho k = .no) W (fun W => MsAt W x)) (hg : GoodA x.a) (hz : x.gone.length + x.nets.length ≤ 656) :
    Calls Tryz.prog 20 #[.pointer (some ⟨sb, 0, none⟩), .int .i64 i, x.m.V] W fun e w' => ∃ (rho' : Nat → Role) (s : Option Addr) (c : Nat), e = .returned (.tuple #[.slice s (A.updR i x.m.kind x.gone x.nets x.a).2.1.length c, .int .i64 (A.updR i x.m.kind x.gone x.nets x.a).1]) ∧
      LSv w w' rho' sb fb ls (A.upd i x.m.kind x.gone x.nets x.a) ∧ Step rho rho' W w' ∧ PsOn rho' w' s c (A.updR i x.m.kind x.gone x.nets x.a).2.1 := by
  obtain ⟨S, h1, h2⟩ := h.srv
  obtain ⟨m, hm⟩ := h2.at hi
  have e : updP S.own S.most m.R x.m.kind x.gone x.nets x.a = A.updR i x.m.kind x.gone x.nets x.a := by
    unfold Ab.updR
    rw [h2.own, h2.most, (h2.get hm).2]
  have hU := sv_Update h1 hm ((h2.mem i m hm).1.trans ht) x hx hg hz
  rw [e] at hU
  refine hU.mono ?_
  rintro e w' ⟨rho', v, rfl, hs, st, hp⟩
  obtain ⟨s, c, rfl, -⟩ := id hp.self
  exact ⟨rho', s, c, rfl, h.step hs (h2.upd hm ..) st, st, hp⟩
theorem ls_Leave (h : LSv w W rho sb fb ls A) {i : Nat} (hi : i < A.V.length) (ht : A.th i = true) :
    Calls Tryz.prog 24 #[.pointer (some ⟨sb, 0, none⟩), .int .i64 i] W fun e w' => ∃ (rho' : Nat → Role) (s : Option Addr) (c : Nat) (L : List Pf), e = .returned (.tuple #[.slice s L.length c, .int .i64 0]) ∧ L.Pairwise plt ∧ (∀ p, p ∈ L ↔ (getL (A.R i) p).isSome = true) ∧ LSv w w' rho' sb fb ls (A.leave i) ∧ Step rho rho' W w' ∧ PsOn rho' w' s c L := by
  obtain ⟨S, h1, h2⟩ := h.srv
  obtain ⟨m, hm⟩ := h2.at hi
  refine (sv_Leave h1 hm ((h2.mem i m hm).1.trans ht)).mono ?_
  rintro e w' ⟨rho', s, c, L, rfl, hp, hL, hs, st, ho⟩
  rw [← (h2.get hm).2] at hL
  exact ⟨rho', s, c, L, rfl, hp, hL, h.step hs (h2.leave i L hL) st, st, ho⟩
theorem ls_Best (h : LSv w W rho sb fb ls A) {i : Nat} (hi : i < A.V.length) (p : Pf) (hp : KOk p) :
    Calls Tryz.prog 27 #[.pointer (some ⟨sb, 0, none⟩), .int .i64 i, .agg #[.int .u32 p.1, .int .i64 p.2]] W (BestPost (A.best i p) p W) := by
  obtain ⟨S, h1, h2⟩ := h.srv
  obtain ⟨m, hm⟩ := h2.at hi
  rw [← h2.best i p (by rw [h2.len]; exact hi)]
  exact sv_Best h1 hm p hp
end
end Go.Proofs.YtkoidahgbbabiaaGreat
/-
  THE DOCUMENT'S EXAMPLE OF SERVERS.
-/
namespace Go.Proofs.YtkoidahgbbabiaaGreat
open Go.RowKit
def OldOf (w V : World) : Prop := ∀ k, k < w.heap.size → V.heap[k]? = w.heap[k]?
theorem OldOf.cell {w V : World} (h : OldOf w V) {a : Addr} {c : Value} (hc : w.cell? a = some c) : V.cell? a = some c := by
  rw [World.cell?_of_block (h a.block (World.block_lt_of_cell? w a hc))]; exact hc
theorem slat_old {α : Type} {w V : World} {k : Nat} {R R' : α → List Value → Prop} {v : Value} {xs : List α} (h : SlAt w k R v xs) (ho : OldOf w V) (hR : ∀ x cs, R x cs → R' x cs) : SlAt V k R' v xs := by
  obtain ⟨sa, cap, h1, h2, h3, h4⟩ := h
  refine ⟨sa, cap, h1, h2, h3, fun h0 => ?_⟩
  obtain ⟨b, off, h5, h6⟩ := h4 h0
  refine ⟨b, off, h5, fun i x hx => ?_⟩
  obtain ⟨cs, c1, c2, c3⟩ := h6 i x hx
  exact ⟨cs, c1, hR _ _ c2, fun j c hc => ho.cell (c3 j c hc)⟩
theorem atl_old {w V : World} {a : At} {vp vc vo : Value} (h : AtL w a vp vc vo) (ho : OldOf w V) : AtL V a vp vc vo :=
  ⟨slat_old h.1 ho fun s cs hs => by obtain ⟨u, h1, h2⟩ := hs; exact ⟨u, h1, slat_old h2 ho fun _ _ h => h⟩, slat_old h.2.1 ho fun _ _ h => h, slat_old h.2.2 ho fun s cs hs => by obtain ⟨u, h1, h2, h3⟩ := hs; exact ⟨u, h1, h2, slat_old h3 ho fun _ _ h => h⟩⟩
theorem avat_old {w V : World} {a : At} {v : AV} (h : AvAt w a v) (ho : OldOf w V) : AvAt V a v := by
  obtain ⟨ps, pc, cs, cc, os, oc, rfl, h⟩ := h
  exact ⟨ps, pc, cs, cc, os, oc, rfl, atl_old h ho⟩
theorem msat_old {w V : World} {x : Ms} (h : MsAt w x) (ho : OldOf w V) : MsAt V x := ⟨slat_old h.gone ho fun _ _ h => h, slat_old h.nets ho fun _ _ h => h, avat_old h.a ho⟩
section
variable {w W : World} {rho : Nat → Role} {sb fb : Nat} {ls : List Pl} {A : Ab}
theorem LSv.oldOf (h : LSv w W rho sb fb ls A) {V : World} (hV : ∀ k, rho k = .no → k < W.heap.size → V.heap[k]? = W.heap[k]?) : OldOf w V := fun k hk => (hV k (h.old hk) (Nat.lt_of_lt_of_le hk h.bel.size)).trans (h.bel.block k hk)
theorem LSv.ms (h : LSv w W rho sb fb ls A) {x : Ms} (hx : MsAt w x) : On (fun k => rho k = .no) W fun W => MsAt W x := fun _ hV => msat_old hx (h.oldOf hV)
theorem LSv.ps (h : LSv w W rho sb fb ls A) {v : Value} {ps : List Pf} (hx : PsAt w v ps) : On (fun k => rho k = .no) W fun W => PsAt W v ps := fun _ hV => slat_old hx (h.oldOf hV) fun _ _ h => h
theorem LSv.fresh {W' : World} {Q : World → Prop} (h : LSv w W rho sb fb ls A) (hq : Fresh W.heap.size W' Q) : On (fun k => rho k = .no) W' Q := hq.wide fun _ hk _ => h.new hk
end
abbrev msN (s : Option Addr) (c : Nat) (a : AV) (p : Pf) (t : At) : Ms := ⟨⟨2, 0, 0, 0, none, 0, 0, none, 0, 0, a, s, 1, c, 0, 0, ⟨#[]⟩⟩, [], [p], t⟩
theorem new_one (W : World) (x : Pf) (T : TypeId) (hx : OkP x) : PsAt (W.alloc (.cells #[.int .u32 x.1, .int .i64 x.2] T)) (.slice (some ⟨W.heap.size, 0, none⟩) 1 1) [x] := by
  refine ⟨_, 1, rfl, Nat.le_refl _, by simp [maxLen], fun _ => ⟨W.heap.size, 0, rfl, fun i z hz => ?_⟩⟩
  match i, hz with
  | 0, hz =>
    simp at hz
    subst hz
    refine ⟨encP x, rfl, ⟨rfl, hx⟩, fun j c hc => ?_⟩
    rw [row_cell (heap_alloc_new W _)]
    match j, hc with
    | 0, hc => simpa [encP] using hc
    | 1, hc => simpa [encP] using hc
theorem good_atP (n : Nat) (hn : n ≤ 100) : GoodA (atP n) := by
  refine ⟨?_, ?_, ?_⟩
  · have : (hopL n).length = n := by simp [hopL]
    simp only [atP, hopsN, this]
    simp
    omega
  · refine ⟨?_, ?_, ?_, ?_, ?_, ?_, ?_⟩ <;> simp [atP, I64r]
  · refine ⟨?_, ?_, ?_, ?_, ?_⟩ <;> simp [atP, hopL, SgSz] <;> omega
theorem sds_own {w : World} {B n : Nat} {s : Option Addr} {c : Nat} (h : w.ownsRow B 75 2 (.slice s n c) n ((sdsN n).flatMap sdL)) (hn : n ≤ 16 := by decide) : SdsAt w (.slice s n c) (sdsN n) := by
  have e := sdsN_len n
  have h3 : w.ownsRow B 75 2 (.slice s n c) (sdsN n).length ((sdsN n).flatMap sdL) := by rw [e]; exact h
  have := own_slat (C := sdL) (fun _ => rfl) h3
  refine this.imp fun y cs hy hc => ⟨hc, ?_⟩
  obtain ⟨i, hi, rfl⟩ := List.mem_map.1 hy
  have := List.mem_range.1 hi
  unfold I64r; simp only; omega
def hA0 : Ab := newA 65000 9 (sdsN 3)
def hA1 : Ab := ((hA0.join 0).join 1).join 2
def hA2 : Ab := hA1.upd 0 2 [] [netP 9] (atP 2)
def hA3 : Ab := hA2.upd 1 2 [] [netP 9] (atP 1)
def hA4 : Ab := hA3.leave 1
theorem one_fresh (W : World) (x : Pf) (T : TypeId) (hx : OkP x) : Fresh W.heap.size (W.alloc (.cells #[.int .u32 x.1, .int .i64 x.2] T)) (fun V => PsAt V (.slice (some ⟨W.heap.size, 0, none⟩) 1 1) [x]) := fun V hV => by
  have h := new_one W x T hx
  have q : V.heap[W.heap.size]? = some (.cells #[.int .u32 x.1, .int .i64 x.2] T (0, 0)) := by
    rw [hV _ (Nat.le_refl _) (by simp)]; exact heap_alloc_new W _
  refine ⟨_, 1, rfl, Nat.le_refl _, by simp [maxLen], fun _ => ⟨W.heap.size, 0, rfl, fun i z hz => ?_⟩⟩
  match i, hz with
  | 0, hz =>
    simp at hz
    subst hz
    refine ⟨encP x, rfl, ⟨rfl, hx⟩, fun j c hc => ?_⟩
    rw [row_cell q]
    match j, hc with
    | 0, hc => simpa [encP] using hc
    | 1, hc => simpa [encP] using hc
theorem hd_upd {w W : World} {rho : Nat → Role} {sb fb : Nat} {ls : List Pl} {A : Ab} (h : LSv w W rho sb fb ls A) {i n : Nat} (hi : i < A.V.length) (ht : A.th i = true) (s : Option Addr) (c b : Nat) (hs : On (fun k => rho k = .no) W (fun W => PsAt W (.slice s 1 c) [netP 9])) (ha : On (fun k => rho k = .no) W (fun W => AvAt W (atP n) (avP b))) (hn : n ≤ 100) {R : Rts} (r : A.updR i 2 [] [netP 9] (atP n) = (0, [netP 9], R)) :
    Calls Tryz.prog 20 #[.pointer (some ⟨sb, 0, none⟩), .int .i64 i, (msN s c (avP b) (netP 9) (atP n)).m.V] W fun e w' => ∃ (rho' : Nat → Role) (s' : Option Addr) (c' : Nat), e = .returned (.tuple #[.slice s' 1 c', .int .i64 0]) ∧ LSv w w' rho' sb fb ls (A.upd i 2 [] [netP 9] (atP n)) ∧ Step rho rho' W w' := by
  have hU := ls_Update h hi ht (msN s c (avP b) (netP 9) (atP n)) (fun V hV => ⟨SlAt.nil, hs V hV, ha V hV⟩) (good_atP n hn) (by simp)
  refine hU.mono ?_
  rintro e w' ⟨rho', s', c', rfl, hl, st, -⟩
  have e2 : A.updR i (msN s c (avP b) (netP 9) (atP n)).m.kind (msN s c (avP b) (netP 9) (atP n)).gone (msN s c (avP b) (netP 9) (atP n)).nets (msN s c (avP b) (netP 9) (atP n)).a = (0, [netP 9], R) := r
  exact ⟨rho', s', c', by rw [e2]; rfl, hl, st⟩
theorem setOf_one (a : Pf) : setOf [a] = [a] := setOf_is (by simp [Srt]) (fun p => by simp)
theorem h_upd (n : Nat) (hn : passB (atP n).path 65000 = false) : updP 65000 9 [] 2 [] [netP 9] (atP n) = (0, [netP 9], [(netP 9, atP n)]) := by
  have h1 : saidP [] [netP 9] = [netP 9] := setOf_one _
  have h2 : netsP 65000 [netP 9] (atP n) = [netP 9] := by unfold netsP; rw [hn]; exact setOf_one _
  unfold updP
  rw [h1, h2]
  rfl
theorem h_r1 : hA1.updR 0 2 [] [netP 9] (atP 2) = (0, [netP 9], [(netP 9, atP 2)]) := h_upd 2 (by decide +kernel)
theorem hA2_is : hA2 = hA1.turn hA1.bl (setV hA1.V 0 [(netP 9, atP 2)]) := by
  unfold hA2 Ab.upd
  rw [h_r1]
  rfl
theorem h_r2 : hA2.updR 1 2 [] [netP 9] (atP 1) = (0, [netP 9], [(netP 9, atP 1)]) := by
  rw [hA2_is]
  exact h_upd 1 (by decide +kernel)
theorem hA3_is : hA3 = hA2.turn hA2.bl (setV hA2.V 1 [(netP 9, atP 1)]) := by
  unfold hA3 Ab.upd
  rw [h_r2]
  rfl
theorem hA3_V : hA3.V = [(65001, 1, [(netP 9, atP 2)]), (65002, 2, [(netP 9, atP 1)]), (65003, 3, [])] := by
  rw [hA3_is, hA2_is]; rfl
theorem hA3_th : hA3.th 1 = true := by rw [hA3_is, hA2_is]; rfl
theorem hA2_th : hA2.th 1 = true := by rw [hA2_is]; rfl
theorem hA2_len : hA2.V.length = 3 := by rw [hA2_is]; rfl
theorem hA3_best : hA3.best 2 (netP 9) = some (1, atP 1) := by
  unfold Ab.best
  rw [hA3_V]
  have e : hA3.own = 65000 ∧ hA3.bl = fun _ => false := by rw [hA3_is, hA2_is]; exact ⟨rfl, rfl⟩
  rw [e.1, e.2]
  rfl
theorem hA4_best : hA4.best 2 (netP 9) = some (0, atP 2) := by
  unfold Ab.best hA4 Ab.leave Ab.turn Ab.away
  simp only
  rw [hA3_V]
  have e : hA3.own = 65000 ∧ hA3.bl = fun _ => false := by rw [hA3_is, hA2_is]; exact ⟨rfl, rfl⟩
  rw [e.1, e.2]
  rfl
theorem hA4_len : hA4.V.length = 3 := by
  unfold hA4 Ab.leave Ab.turn Ab.away
  simp only
  rw [hA3_V]; rfl
set_option maxHeartbeats 6400000 in
set_option maxRecDepth 100000 in
theorem law_head (w : World) : Calls Tryz.prog 13 #[] w fun e w' => e = .returned (.bool true) ∧ Below w.heap.size w w' := by
  have n9 := Lib.hid (l_net14 9 (by decide))
  go_enter Tryz.func13, Tryz.ntmps13
  go_wp2_with fail
  refine (l_sides14 3 (by decide) w).mono ?_
  rintro e w1 ⟨s1, c1, rfl, ow, hb⟩
  have NW := Lib.hid (ls_New 65000 9 (.slice s1 3 c1) (sdsN 3) w w1 hb (sds_own ow) (by decide +kernel))
  clear ow hb
  go_wp2_with fail
  refine NW.out.mono ?_
  rintro e w2 ⟨rho, sb, fb, ls, rfl, L0, -, -⟩
  have L0 : Hid (LSv w w2 rho sb fb ls hA0) := Lib.hid L0
  clear NW
  go_wp2_with fail
  refine wp_loop_rounds 4 ?_
  rw [rounds_succ]
  go_wp2_with fail
  refine (ls_Join L0.out (i := 0) (by decide +kernel) rfl).mono ?_
  rintro e w3 ⟨rfl, L1, -⟩
  have L1 := Lib.hid L1
  clear L0
  go_wp2_with fail
  rw [rounds_succ]
  go_wp2_with fail
  refine (ls_Join L1.out (i := 1) (by decide +kernel) rfl).mono ?_
  rintro e w4 ⟨rfl, L2, -⟩
  have L2 := Lib.hid L2
  clear L1
  go_wp2_with fail
  rw [rounds_succ]
  go_wp2_with fail
  refine (ls_Join L2.out (i := 2) (by decide +kernel) rfl).mono ?_
  rintro e w5 ⟨rfl, L3, -⟩
  have L3 : Hid (LSv w w5 rho sb fb ls hA1) := Lib.hid L3
  clear L2
  go_wp2_with fail
  rw [rounds_succ]
  go_wp2_with fail
  refine wp_loop_rounds 3 ?_
  rw [rounds_succ]
  go_wp2_with fail
  refine (n9.out w5).mono ?_
  rintro e w6 ⟨rfl, hb6⟩
  have L4 := Lib.hid (L3.out.below hb6)
  clear hb6 L3
  go_wp2_with fail
  obtain ⟨W7, hW7⟩ : ∃ W7, W7 = w6.alloc (.cells #[.int .u32 (netP 9).1, .int .i64 (netP 9).2] 53) := ⟨_, rfl⟩
  have hb7 : Below w6.heap.size w6 W7 := by rw [hW7]; exact (Below.refl _ _).alloc (Nat.le_refl _) _
  have P7 := one_fresh w6 (netP 9) 53 (netP_ok (by decide))
  rw [← hW7] at P7 ⊢
  have O7 := Lib.hid (L4.out.fresh P7)
  have L5 := Lib.hid (L4.out.below hb7)
  clear hW7 hb7 P7 L4
  refine (l_path14 2 (by decide) W7).mono ?_
  rintro e w8 ⟨b8, rfl, fr, hb8⟩
  have A8 := Lib.hid (L5.out.fresh fr)
  have O8 := Lib.hid (O7.out.below hb8)
  have L6 := Lib.hid (L5.out.below hb8)
  clear fr hb8 O7 L5
  go_wp2_with fail
  refine (hd_upd L6.out (i := 0) (by decide +kernel) rfl _ _ _ O8.out A8.out (by decide) h_r1).mono ?_
  rintro e w9 ⟨rho9, s9, c9, rfl, L7, st9⟩
  have L7 : Hid (LSv w w9 rho9 sb fb ls hA2) := Lib.hid L7
  clear O8 A8 L6 st9
  go_wp2_with fail
  rw [rounds_succ]
  go_wp2_with fail
  refine (n9.out w9).mono ?_
  rintro e w10 ⟨rfl, hb10⟩
  have L8 := Lib.hid (L7.out.below hb10)
  clear hb10 L7
  go_wp2_with fail
  obtain ⟨W11, hW11⟩ : ∃ W11, W11 = w10.alloc (.cells #[.int .u32 (netP 9).1, .int .i64 (netP 9).2] 53) := ⟨_, rfl⟩
  have hb11 : Below w10.heap.size w10 W11 := by rw [hW11]; exact (Below.refl _ _).alloc (Nat.le_refl _) _
  have P11 := one_fresh w10 (netP 9) 53 (netP_ok (by decide))
  rw [← hW11] at P11 ⊢
  have O11 := Lib.hid (L8.out.fresh P11)
  have L9 := Lib.hid (L8.out.below hb11)
  clear hW11 hb11 P11 L8
  refine (l_path14 1 (by decide) W11).mono ?_
  rintro e w12 ⟨b12, rfl, fr, hb12⟩
  have A12 := Lib.hid (L9.out.fresh fr)
  have O12 := Lib.hid (O11.out.below hb12)
  have L10 := Lib.hid (L9.out.below hb12)
  clear fr hb12 O11 L9
  go_wp2_with fail
  refine (hd_upd L10.out (i := 1) (by rw [hA2_len]; decide) hA2_th _ _ _ O12.out A12.out (by decide) h_r2).mono ?_
  rintro e w13 ⟨rho13, s13, c13, rfl, L11, -⟩
  have L11 : Hid (LSv w w13 rho13 sb fb ls hA3) := Lib.hid L11
  clear O12 A12 L10
  go_wp2_with fail
  rw [rounds_succ]
  go_wp2_with fail
  refine (n9.out w13).mono ?_
  rintro e w14 ⟨rfl, hb14⟩
  have L12 := Lib.hid (L11.out.below hb14)
  clear hb14 L11
  go_wp2_with fail
  refine (ls_Best L12.out (i := 2) (by rw [hA3_V]; decide) (netP 9) (netP_rgt (by decide)).key).mono ?_
  rintro e w15 (⟨hn, -⟩ | ⟨peer, a, u, hn, rfl, -, -, hb15⟩)
  · rw [hA3_best] at hn; cases hn
  have PE : Hid (peer = 1) := Lib.hid (by rw [hA3_best] at hn; injection hn with hn; injection hn with hn; exact hn.symm)
  have L13 := Lib.hid (L12.out.below hb15)
  clear hn hb15 L12
  go_upto_region 16 with (fail)
  obtain ⟨W16, hW16, q16, hb16, -⟩ := box1 w15 (rtC peer (netP 9) u) 61
  rw [← hW16]
  have cp : W16.cell? ⟨w15.heap.size, 0, none⟩ = some (.int .i64 peer) := row_cell q16 0
  obtain ⟨rb1, hrb1⟩ : ∃ b, b = w15.heap.size := ⟨_, rfl⟩
  rw [← hrb1] at cp ⊢
  have L14 := Lib.hid (L13.out.below hb16)
  have NRB := Lib.hid (L13.out.new (Nat.le_of_eq hrb1.symm))
  clear hW16 q16 hb16 L13 hrb1
  rw [PE.out] at cp
  go_wp2_with fail
  refine (ls_Leave L14.out (i := 1) (by rw [hA3_V]; decide) hA3_th).mono ?_
  rintro e w17 ⟨rho17, s17, c17, LL, rfl, -, -, L15, st, -⟩
  have L15 : Hid (LSv w w17 rho17 sb fb ls hA4) := Lib.hid L15
  have CP := Lib.hid (st.cell cp NRB.out)
  clear st L14 cp
  go_wp2_with fail
  refine (n9.out w17).mono ?_
  rintro e w18 ⟨rfl, hb18⟩
  have L16 := Lib.hid (L15.out.below hb18)
  have CP2 := Lib.hid (cell_below CP.out hb18)
  clear hb18 L15 CP
  go_wp2_with fail
  refine (ls_Best L16.out (i := 2) (by rw [hA4_len]; decide) (netP 9) (netP_rgt (by decide)).key).mono ?_
  rintro e w19 (⟨hn, -⟩ | ⟨peer2, a2, u2, hn, rfl, -, -, hb19⟩)
  · rw [hA4_best] at hn; cases hn
  have PE2 : Hid (peer2 = 0) := Lib.hid (by rw [hA4_best] at hn; injection hn with hn; injection hn with hn; exact hn.symm)
  have L17 := Lib.hid (L16.out.below hb19)
  have CP3 := Lib.hid (cell_below CP2.out hb19)
  clear hn hb19 L16 CP2
  go_upto_region 18 with (fail)
  obtain ⟨W20, hW20, q20, hb20, -⟩ := box1 w19 (rtC peer2 (netP 9) u2) 61
  rw [← hW20]
  have cp1 := cell_below CP3.out hb20
  have cp2 : W20.cell? ⟨w19.heap.size, 0, none⟩ = some (.int .i64 peer2) := row_cell q20 0
  rw [PE2.out] at cp2
  have BB := Lib.hid (L17.out.below hb20).bel
  clear hW20 q20 hb20 L17 CP3
  go_wp2_with fail
  go_ret
  exact ⟨rfl, BB.out⟩
end Go.Proofs.YtkoidahgbbabiaaGreat
/-
  THE LAWS ON SERVERS: which messages are too big; whoever isn't there marks nothing.
-/
namespace Go.Proofs.YtkoidahgbbabiaaGreat
open Go.RowKit
def bigM (x : Ms) : Bool := decide (20 < x.gone.length) || (decide (20 < x.nets.length) || (decide (6 < x.a.path.length) || (decide (40 < x.a.comms.length) || (decide (5 < x.a.others.length) || checkI x.a != 0))))
section
variable {w W : World} {rho : Nat → Role} {sb fb : Nat} {ls : List Pl} {A : Ab} {S : Sv}
set_option maxRecDepth 100000 in
theorem sv_Mark_nil (n : Int) (v : Value) (W : World) : Calls Tryz.prog 16 #[.pointer none, .int .i64 n, v] W fun e w' => e = .returned (.tuple #[]) ∧ W = w' := by
  have MB := Lib.hid (sv_member_nil n W)
  go_enter Tryz.func16, Tryz.ntmps16
  go_wp2_with fail
  refine MB.out.mono ?_
  rintro e w1 ⟨rfl, rfl⟩
  go_wp2_with fail
  exact bodyPost_ret (v := .tuple #[]) (by simp [results, Tryz.results16, go_sem]) rfl ⟨rfl, rfl⟩
end
end Go.Proofs.YtkoidahgbbabiaaGreat
/-
  STEPS, HANDED IN: lists of what is done to a server, each with the reach of its message's attributes.
-/
namespace Go.Proofs.YtkoidahgbbabiaaGreat
open Go.RowKit Go.ChangeShapes Go.WideShapes
structure Stp where
  k : Int
  n : Int
  to_ : Int
  on : Bool
  x : Ms
abbrev Stp.C (s : Stp) : Array Value := #[.int .i64 s.k, .int .i64 s.n, .int .i64 s.to_, .bool s.on, .int .i64 s.x.m.kind, .int .i64 s.x.m.as_, .int .i64 s.x.m.hold, .int .u32 s.x.m.id, .slice s.x.m.ks s.x.m.kn s.x.m.kc, .slice s.x.m.gs s.x.m.gn s.x.m.gc,
  .int .i64 s.x.m.a.has, .int .i64 s.x.m.a.origin, .slice s.x.m.a.ps s.x.m.a.pn s.x.m.a.pc, .int .u32 s.x.m.a.hop, .int .i64 s.x.m.a.med, .int .i64 s.x.m.a.loc, .int .i64 s.x.m.a.aggrAs, .int .u32 s.x.m.a.aggrId, .slice s.x.m.a.cs s.x.m.a.cn s.x.m.a.cc, .slice s.x.m.a.os s.x.m.a.on s.x.m.a.oc,
  .slice s.x.m.ns s.x.m.nn s.x.m.nc, .int .i64 s.x.m.fc, .int .i64 s.x.m.fs, .string s.x.m.fd]
section
variable {H : Type} {enc : TypeId × Value → H} {w : World} {base : Nat} {spare : Nat → Bool} {held : Bool}
end
end Go.Proofs.YtkoidahgbbabiaaGreat
/-
  THE LAWS ON SERVERS, PLAIN: who has come; what a list of messages makes of a server.
-/
namespace Go.Proofs.YtkoidahgbbabiaaGreat
open Go.RowKit
def Ab.say (A : Ab) (s : Stp) : Ab := if bigM s.x then A else A.updI s.n s.x.m.kind s.x.gone s.x.nets s.x.a
def Ab.says (A : Ab) (xs : List Stp) : Ab := xs.foldl Ab.say A
structure SameTh (A B : Ab) : Prop where
  len : B.V.length = A.V.length
  th : B.th = A.th
  own : B.own = A.own
  most : B.most = A.most
  bl : B.bl = A.bl
theorem SameTh.refl (A : Ab) : SameTh A A := ⟨rfl, rfl, rfl, rfl, rfl⟩
theorem SameTh.trans {A B C : Ab} (h : SameTh A B) (k : SameTh B C) : SameTh A C := ⟨k.len.trans h.len, k.th.trans h.th, k.own.trans h.own, k.most.trans h.most, k.bl.trans h.bl⟩
theorem range_below {W W' : World} {g o : Nat} {l : List Value} (h : W.rangeAt g o l) (hb : Below W.heap.size W W') : W'.rangeAt g o l := fun j v hv => cell_below (h j v hv) hb
end Go.Proofs.YtkoidahgbbabiaaGreat
/-
  THE SERVER: all routes of a participant; in short: its routes, its best ones.
-/
namespace Go.Proofs.YtkoidahgbbabiaaGreat
open Go.RowKit
section
variable {w W : World} {rho : Nat → Role} {sb fb : Nat} {ls : List Pl} {S : Sv} {A : Ab}
set_option maxRecDepth 100000 in
theorem sv_Routes_nil (n : Int) (W : World) : Calls Tryz.prog 23 #[.pointer none, .int .i64 n] W fun e w' => e = .returned (.slice none 0 0) ∧ W = w' := by
  have MB := Lib.hid (sv_member_nil n W)
  go_enter Tryz.func23, Tryz.ntmps23
  go_wp2_with fail
  refine MB.out.mono ?_
  rintro e w1 ⟨rfl, rfl⟩
  go_wp2_with fail
  go_ret
  exact ⟨rfl, rfl⟩
end
end Go.Proofs.YtkoidahgbbabiaaGreat
/-
  CHOOSE: Order: all, the best first.
-/
namespace Go.Proofs.YtkoidahgbbabiaaGreat
open Go.RowKit
def leftOf (R : List Rk) (gone : List Int) : List Rk := R.filter fun r => !gone.contains r.place
structure OrdSt (R left : List Rk) (out : List Int) : Prop where
  eq : left = leftOf R out
  len : left.length + out.length = R.length
  best : ∀ (p : Nat) (k : Int), out[p]? = some k → ∃ r, r.place = k ∧ IsBest (leftOf R (out.take p)) r
theorem filter_one {T : Rk} : ∀ {l : List Rk}, l.Pairwise (fun a b => a.place ≠ b.place) → T ∈ l → (l.filter (keepP T.place)).length + 1 = l.length
  | [], _, h => by simp at h
  | x :: l, hp, h => by
    obtain ⟨h1, h2⟩ := List.pairwise_cons.1 hp
    rcases List.mem_cons.1 h with rfl | h
    · rw [List.filter_cons_of_neg (by unfold keepP; simp), List.filter_eq_self.2 (fun y hy => by unfold keepP; have := h1 y hy; simpa using fun e => this e.symm)]
      rfl
    · rw [List.filter_cons_of_pos (by unfold keepP; simpa using h1 T h), List.length_cons, filter_one h2 h]
      rfl
theorem left_snoc (R : List Rk) (out : List Int) (t : Int) : leftOf R (out ++ [t]) = (leftOf R out).filter (keepP t) := by
  unfold leftOf
  rw [List.filter_filter]
  congr 1
  funext r
  unfold keepP
  rw [Bool.and_comm]
  by_cases h : r.place = t <;> simp [h]
theorem OrdSt.step {R rs : List Rk} {r : Rk} {out : List Int} (hR : R.Pairwise (fun a b => a.place ≠ b.place)) (h : OrdSt R (r :: rs) out) :
    OrdSt R ((r :: rs).filter (keepP (bestR r rs).place)) (out ++ [(bestR r rs).place]) := by
  have hb := best_spec r rs
  have h1 := h.eq
  have hp : (r :: rs).Pairwise (fun a b => a.place ≠ b.place) := by rw [h1]; exact hR.filter _
  have hl := filter_one hp hb.mem
  refine ⟨by rw [left_snoc, ← h1], by have := h.len; rw [List.length_append]; simp only [List.length_cons, List.length_nil] at *; omega, fun p k hk => ?_⟩
  by_cases hlt : p < out.length
  · rw [List.getElem?_append_left hlt] at hk
    rw [List.take_append_of_le_length (by omega)]
    exact h.best p k hk
  · rw [List.getElem?_append_right (by omega)] at hk
    have e : p = out.length := by
      have := (List.getElem?_eq_some_iff.1 hk).1
      simp at this; omega
    subst e
    simp at hk
    rw [List.take_left]
    exact ⟨_, hk, h1 ▸ hb⟩
theorem Kept.on {F : Nat → Prop} {a b c : World} (h : Kept F a b) (k : Below a.heap.size b c) : Kept F a c :=
  ⟨k.os.trans h.os, k.tape.trans h.tape, k.output.trans h.output, Nat.le_trans h.size k.size, fun i hi hf => (k.block i hi).trans (h.block i hi hf)⟩
end Go.Proofs.YtkoidahgbbabiaaGreat
/-
  THE SERVER: all routes to a prefix that may be a receiver's, the best first.
-/
namespace Go.Proofs.YtkoidahgbbabiaaGreat
open Go.RowKit
def beC (x : BE) : Int × At := (x.peer, x.a)
section
variable {W : World} {rho : Nat → Role} {sb fb : Nat} {ls : List Pl} {S : Sv}
set_option maxHeartbeats 1600000 in
set_option maxRecDepth 100000 in
theorem offers_none (p : Pf) {f : Value} (n : Int) (W : World) (MB : ∀ w1, Below W.heap.size W w1 → Calls Tryz.prog 58 #[f, .int .i64 n] w1 fun e w2 => e = .returned (.pointer none) ∧ w1 = w2) :
    Calls Tryz.prog 30 #[f, .int .i64 n, .agg #[.int .u32 p.1, .int .i64 p.2]] W fun e w' => e = .returned (.slice none 0 0) ∧ Below W.heap.size W w' := by
  have MB := Lib.hid MB
  go_enter Tryz.func30, Tryz.ntmps30
  go_upto_region 1 with (fail)
  obtain ⟨W0, hW0, c0, c1, hB⟩ := box2 W (.int .u32 p.1) (.int .i64 p.2) 53
  rw [← hW0]
  have B0 := Lib.hid hB
  clear hW0 hB
  go_wp2_with fail
  refine (MB.out _ B0.out).mono ?_
  rintro e w1 ⟨rfl, rfl⟩
  go_wp2_with fail
  go_ret
  exact ⟨rfl, B0.out⟩
theorem sv_Offers_nil (n : Int) (W : World) (p : Pf) : Calls Tryz.prog 30 #[.pointer none, .int .i64 n, .agg #[.int .u32 p.1, .int .i64 p.2]] W fun e w' => e = .returned (.slice none 0 0) ∧ Below W.heap.size W w' :=
  offers_none p n W fun w1 _ => sv_member_nil n w1
end
end Go.Proofs.YtkoidahgbbabiaaGreat
/-
  THE SERVER: whether a participant's route goes to another one; whether two routes are one.
-/
namespace Go.Proofs.YtkoidahgbbabiaaGreat
open Go.RowKit
def goesS (own : Int) (bl : Nat → Bool) (R : Rts) (i j : Nat) (t : Int) (p : Pf) : Bool := match getL R p with | none => false | some a => goesB own bl a i j t
section
variable {W : World} {rho : Nat → Role} {sb fb : Nat} {ls : List Pl} {S : Sv}
end
end Go.Proofs.YtkoidahgbbabiaaGreat
/-
  THE SERVER: what is blocked between two participants.
-/
namespace Go.Proofs.YtkoidahgbbabiaaGreat
open Go.RowKit
def setBl (S : Sv) (i j : Nat) (b : Bool) : Sv := { S with bl := setWay S.bl (i * 16 + j) b }
def renew1 (j : Nat) (S : Sv) (p : Pf) : Sv := renewP S j p (saidS S.ms p)
def blockL (S : Sv) (j : Nat) (ps : List Pf) : Sv := ps.foldl (renew1 j) S
theorem kin_block (j : Nat) : ∀ (ps : List Pf) (S : Sv), SvKin S (blockL S j ps)
  | [], S => SvKin.refl S
  | p :: ps, S => (kin_renew S j p _).trans (kin_block j ps (renew1 j S p))
theorem renewP_best (S : Sv) (j : Nat) (p : Pf) (l : List Cd) (k : Nat) (q : Pf) : (renewP S j p l).best k q = if k = j ∧ q = p then newBest S j l else S.best k q := rfl
theorem blockL_best (j : Nat) : ∀ (ps : List Pf) (S : Sv) (k : Nat) (q : Pf), (blockL S j ps).best k q = if k = j ∧ q ∈ ps then bestIn S j q else S.best k q
  | [], S, k, q => by rw [if_neg (by simp)]; rfl
  | p :: ps, S, k, q => by
    show (blockL (renew1 j S p) j ps).best k q = _
    rw [blockL_best j ps]
    have hk : SvKin S (renew1 j S p) := kin_renew S j p _
    rw [hk.bestIn]
    unfold renew1
    rw [renewP_best, newBest_said]
    by_cases e1 : k = j
    · by_cases e2 : q ∈ ps
      · rw [if_pos ⟨e1, e2⟩, if_pos ⟨e1, List.mem_cons_of_mem _ e2⟩]
      · rw [if_neg (fun h => e2 h.2)]
        by_cases e3 : q = p
        · subst e3; rw [if_pos ⟨e1, rfl⟩, if_pos ⟨e1, List.mem_cons_self ..⟩]
        · rw [if_neg (fun h => e3 h.2), if_neg (by simp [e2, e3])]
    · rw [if_neg (fun h => e1 h.1), if_neg (fun h => e1 h.1), if_neg (fun h => e1 h.1)]
theorem renewP_ms (S : Sv) (j : Nat) (p : Pf) (l : List Cd) (k : Nat) : (renewP S j p l).ms[k]? = (S.ms[k]?).map fun m => if k = j then m.mark p (m.there && !sameB (S.best j p) (newBest S j l)) else m := by
  unfold renewP
  rw [markS_get]
  rfl
theorem blockL_news (j : Nat) : ∀ (ps : List Pf) (S : Sv) (k : Nat) (m : Pm), S.ms[k]? = some m → ∃ n, (blockL S j ps).ms[k]? = some n ∧ n.there = m.there ∧ ∀ q, n.news q = (m.news q || (decide (k = j) && (m.there && (decide (q ∈ ps) && !sameB (S.best j q) (bestIn S j q)))))
  | [], S, k, m, hm => ⟨m, hm, rfl, fun q => by simp⟩
  | p :: ps, S, k, m, hm => by
    have h1 := renewP_ms S j p (saidS S.ms p) k
    rw [hm] at h1
    simp only [Option.map_some] at h1
    obtain ⟨n, n1, n2, n3⟩ := blockL_news j ps (renew1 j S p) k _ h1
    refine ⟨n, n1, ?_, fun q => ?_⟩
    · rw [n2]; split <;> rfl
    · rw [n3 q]
      have hk : SvKin S (renew1 j S p) := kin_renew S j p _
      rw [hk.bestIn]
      have hb : (renew1 j S p).best j q = if q = p then bestIn S j q else S.best j q := by
        unfold renew1
        rw [renewP_best, newBest_said]
        by_cases e : q = p
        · subst e; rw [if_pos ⟨rfl, rfl⟩, if_pos rfl]
        · rw [if_neg (fun h => e h.2), if_neg e]
      rw [hb]
      by_cases e : k = j
      · simp only [e, if_true, decide_true, Bool.true_and]
        rw [mark_news, newBest_said]
        have hth : (m.mark p (m.there && !sameB (S.best j p) (bestIn S j p))).there = m.there := rfl
        rw [hth]
        by_cases e2 : q = p
        · subst e2
          have : sameB (bestIn S j q) (bestIn S j q) = true := (sameB_iff _ _).2 rfl
          simp [this]
        · have h3 : decide (q ∈ p :: ps) = decide (q ∈ ps) := by simp [e2]
          rw [if_neg e2, h3]
          simp [e2]
      · simp [e]
section
variable {w W W2 : World} {rho : Nat → Role} {sb fb : Nat} {ls : List Pl} {S : Sv} {A : Ab}
theorem IsAb.block (h : IsAb S A) (few : A.V.length ≤ 16) {i j : Nat} (hi : i < A.V.length) (hj : j < A.V.length) (b : Bool) (ps : List Pf) (hps : ∀ p, p ∈ ps ↔ (getL (A.R i) p).isSome = true) : IsAb (blockL (setBl S i j b) j ps) (A.block i j b) := by
  have hk := kin_block j ps (setBl S i j b)
  have hV : RV (blockL (setBl S i j b) j ps) = A.V := by rw [hk.RV]; exact h.V
  have hin : ∀ k q, bestIn (setBl S i j b) k q = bestV A.own (setWay A.bl (i * 16 + j) b) A.V k q := fun k q => by
    rw [bestIn_V]
    show bestV S.own (setWay S.bl (i * 16 + j) b) (RV S) k q = _
    rw [h.own, h.bl, h.V]
  have hold : ∀ k q, k < A.V.length → ¬ (k = j ∧ q ∈ ps) → A.best k q = bestV A.own (setWay A.bl (i * 16 + j) b) A.V k q := fun k q hkl hq => by
    refine bestV_congr rfl (fun n v v' hv hv' => ?_) fun n v a hv hg => ?_
    · rw [hv] at hv'; injection hv' with hv'; subst hv'; exact ⟨rfl, rfl, rfl⟩
    · unfold setWay
      rw [if_neg]
      intro e
      have hn := (List.getElem?_eq_some_iff.1 hv).1
      have e1 : n = i := by omega
      have e2 : k = j := by omega
      subst e1
      refine hq ⟨e2, (hps q).2 ?_⟩
      unfold Ab.R
      rw [hv]
      show (getL v.2.2 q).isSome = true
      rw [hg]; rfl
  have hbl : (blockL (setBl S i j b) j ps).bl = setWay A.bl (i * 16 + j) b := by
    rw [hk.bl]
    show setWay S.bl (i * 16 + j) b = _
    rw [h.bl]
  refine ⟨hk.own.trans h.own, hk.most.trans h.most, hbl, hV, ?_, ?_⟩
  · intro k n hn
    obtain ⟨m, hm, -⟩ := hk.back hn
    obtain ⟨n', g1, g2, g3⟩ := blockL_news j ps _ k m hm
    rw [hn] at g1; injection g1 with g1; subst g1
    have hm : S.ms[k]? = some m := hm
    obtain ⟨h1, h2⟩ := h.mem k m hm
    refine ⟨g2.trans h1, fun q => ?_⟩
    rw [g3 q, h2 q, h1]
    unfold Ab.block Ab.turn
    simp only
    have hkl : k < A.V.length := by rw [← h.len]; exact (List.getElem?_eq_some_iff.1 hm).1
    by_cases e : k = j ∧ q ∈ ps
    · obtain ⟨rfl, hq⟩ := e
      have hb : (setBl S i k b).best k q = A.best k q := h.best k q (by rw [h.len]; exact hkl)
      rw [hb, hin]
      simp [hq]
    · have e2 : sameB (A.best k q) (bestV A.own (setWay A.bl (i * 16 + j) b) A.V k q) = true := (sameB_iff _ _).2 (hold k q hkl e)
      rw [e2]
      by_cases e3 : k = j
      · have : ¬ q ∈ ps := fun h => e ⟨e3, h⟩
        simp [this]
      · simp [e3]
  · intro k q hkl
    rw [hk.len] at hkl
    have hkl : k < S.ms.length := hkl
    rw [blockL_best]
    show _ = bestV A.own (setWay A.bl (i * 16 + j) b) A.V k q
    by_cases e : k = j ∧ q ∈ ps
    · rw [if_pos e, hin, e.1]
    · rw [if_neg e]
      exact (h.best k q hkl).trans (hold k q (by rw [← h.len]; exact hkl) e)
set_option maxRecDepth 100000 in
theorem sv_Block_nil (n k : Int) (b : Bool) (W : World) : Calls Tryz.prog 26 #[.pointer none, .int .i64 n, .int .i64 k, .bool b] W fun e w' => e = .returned (.int .i64 1) ∧ W = w' := by
  have MB := Lib.hid (sv_member_nil n W)
  go_enter Tryz.func26, Tryz.ntmps26
  go_wp2_with fail
  refine MB.out.mono ?_
  rintro e w1 ⟨rfl, rfl⟩
  go_wp2_with fail
  go_ret
  exact ⟨rfl, rfl⟩
end
end Go.Proofs.YtkoidahgbbabiaaGreat
/-
  THE SERVER, IN SHORT: who offers a route; what blocking makes of it.
-/
namespace Go.Proofs.YtkoidahgbbabiaaGreat
open Go.RowKit
def Ab.as_ (A : Ab) (j : Nat) : Int := ((A.V[j]?).map (·.1)).getD 0
def Ab.goes (A : Ab) (i j : Nat) (p : Pf) : Bool := goesS A.own A.bl (A.R i) i j (A.as_ j) p
section
variable {w W : World} {rho : Nat → Role} {sb fb : Nat} {ls : List Pl} {S : Sv} {A : Ab}
theorem IsAb.asO (h : IsAb S A) {j : Nat} {m : Pm} (hm : S.ms[j]? = some m) : A.as_ j = m.as_ := by
  unfold Ab.as_
  rw [(h.get hm).1]
  rfl
end
theorem best_offs (A : Ab) (r : Nat) (p : Pf) : A.best r p = pickB (A.offs r p) := rfl
structure ToldOf (A : Ab) (r : Nat) (p : Pf) (L : List BE) : Prop where
  perm : (L.map beC).Perm ((A.offs r p).map fun c => (c.peer, c.a))
  net : ∀ x ∈ L, x.p = p
theorem ToldOf.of {A : Ab} {r : Nat} {p : Pf} {L : List BE} (h : ToldOf A r p L) {x : BE} (hx : x ∈ L) : ∃ c ∈ A.offs r p, c.peer = x.peer ∧ c.a = x.a := by
  have := h.perm.mem_iff.1 (List.mem_map.2 ⟨x, hx, rfl⟩)
  obtain ⟨c, hc, e⟩ := List.mem_map.1 this
  injection e with e1 e2
  exact ⟨c, hc, e1, e2⟩
theorem ToldOf.all {A : Ab} {r : Nat} {p : Pf} {L : List BE} (h : ToldOf A r p L) {c : Cd} (hc : c ∈ A.offs r p) : ∃ x ∈ L, x.peer = c.peer ∧ x.a = c.a := by
  have := h.perm.mem_iff.2 (List.mem_map.2 ⟨c, hc, rfl⟩)
  obtain ⟨x, hx, e⟩ := List.mem_map.1 this
  injection e with e1 e2
  exact ⟨x, hx, e1, e2⟩
theorem ToldOf.none {A : Ab} {r : Nat} {p : Pf} {L : List BE} (h : ToldOf A r p L) : A.best r p = .none ↔ L = [] := by
  rw [best_offs, pickB_none]
  have := h.perm.length_eq
  rw [List.length_map, List.length_map] at this
  constructor
  · intro e; rw [e] at this; exact List.length_eq_zero_iff.1 this
  · intro e; rw [e] at this; exact List.length_eq_zero_iff.1 this.symm
def blocks (A : Ab) (r : Nat) (L : List BE) : Ab := L.foldl (fun A x => A.block x.peer.toNat r true) A
end Go.Proofs.YtkoidahgbbabiaaGreat
/-
  THE SERVER: how many participants there are, and who they are; what a nil one answers.
-/
namespace Go.Proofs.YtkoidahgbbabiaaGreat
open Go.RowKit
theorem sz_side : (Tryz.prog.info? 75).map (·.size) = some 2 := by kernel_rfl
section
variable {w W : World} {rho : Nat → Role} {sb fb : Nat} {ls : List Pl} {A : Ab} {S : Sv}
set_option maxRecDepth 100000 in
theorem sv_Sides (h : SrvM W rho sb fb ls S) : Calls Tryz.prog 33 #[.pointer (some ⟨sb, 0, none⟩)] W fun e w' => e = .returned (.int .i64 S.ms.length) ∧ W = w' := by
  obtain ⟨s, cap, c0, -, -⟩ := h.cells
  clear h
  go_enter Tryz.func33, Tryz.ntmps33
  go_wp2_with fail
  go_ret
  exact ⟨rfl, rfl⟩
set_option maxRecDepth 100000 in
theorem sv_Sides_nil (W : World) : Calls Tryz.prog 33 #[.pointer none] W fun e w' => e = .returned (.int .i64 0) ∧ W = w' := by
  go_enter Tryz.func33, Tryz.ntmps33
  go_wp2_with fail
  go_ret
  exact ⟨rfl, rfl⟩
set_option maxRecDepth 100000 in
theorem sv_Side (h : SrvM W rho sb fb ls S) {i : Nat} {m : Pm} (hm : S.ms[i]? = some m) : Calls Tryz.prog 35 #[.pointer (some ⟨sb, 0, none⟩), .int .i64 i] W fun e w' => e = .returned (.agg #[.int .i64 m.as_, .int .u32 m.id]) ∧ Below W.heap.size W w' := by
  obtain ⟨l, hl, hM⟩ := h.get hm
  have m0 : W.cell? ⟨l.mb, 0, none⟩ = some (.int .i64 m.as_) := row_cell hM.row 0
  have m1 : W.cell? ⟨l.mb, 1, none⟩ = some (.int .u32 m.id) := row_cell hM.row 1
  have MB := Lib.hid (fun w' (hb : Below W.heap.size W w') => sv_member (h.below hb) hl)
  clear h hm hl hM
  go_enter Tryz.func35, Tryz.ntmps35
  go_upto_region 1 with (fail)
  obtain ⟨W0, hW0, q0, hB, -⟩ := box1 W #[.int .i64 0, .int .u32 0] 75
  rw [← hW0]
  replace m0 := cell_below m0 hB
  replace m1 := cell_below m1 hB
  have Q0 := Lib.hid q0
  have B0 := Lib.hid hB
  clear hW0 q0 hB
  go_wp2_with fail
  refine (MB.out W0 B0.out).mono ?_
  rintro e w1 ⟨rfl, rfl⟩
  go_wp2_with ((with_reducible refine halt_at (X := .store 75 (.tmp 4) (.tmp 14)) ?_ ?_); (· rfl))
  unfold Halt
  refine st_row rfl 75 _ _ rfl W.heap.size rfl 75 #[.int .i64 0, .int .u32 0] #[.int .i64 m.as_, .int .u32 m.id] rfl Q0.out sz_side rfl (by simp [Value.oneCell']) ?_
  have Q3 := Lib.hid (setRow_heap _ _ _ (#[.int .i64 m.as_, .int .u32 m.id] : Array Value) _ _ Q0.out)
  have B3 := Lib.hid (B0.out.trans ((kept_setRow (F := fun k => k = W.heap.size) (w := W0) W.heap.size #[.int .i64 m.as_, .int .u32 m.id] rfl).below B0.out.size (by rintro k rfl; exact Nat.le_refl _)))
  generalize W0.setRow W.heap.size #[.int .i64 m.as_, .int .u32 m.id] = w2 at Q3 B3 ⊢
  go_wp2_with fail
  exact bodyPost_ret (v := .agg #[.int .i64 m.as_, .int .u32 m.id]) (results_cell_row Tryz.results35 _ w2 W.heap.size 75 #[.int .i64 m.as_, .int .u32 m.id] (0, 0) _ rfl Q3.out Tryz.underlying75 rfl sz_side) rfl ⟨rfl, B3.out⟩
set_option maxRecDepth 100000 in
theorem sv_Side_no (h : SrvM W rho sb fb ls S) {n : Int} (hn : ¬ (0 ≤ n ∧ n < (S.ms.length : Int))) : Calls Tryz.prog 35 #[.pointer (some ⟨sb, 0, none⟩), .int .i64 n] W fun e w' => e = .returned (.agg #[.int .i64 0, .int .u32 0]) ∧ Below W.heap.size W w' := by
  have MB := Lib.hid (fun w' (hb : Below W.heap.size W w') => sv_member_no (h.below hb) hn)
  clear h hn
  go_enter Tryz.func35, Tryz.ntmps35
  go_upto_region 1 with (fail)
  obtain ⟨W0, hW0, q0, hB, -⟩ := box1 W #[.int .i64 0, .int .u32 0] 75
  rw [← hW0]
  have Q0 := Lib.hid q0
  have B0 := Lib.hid hB
  clear hW0 q0 hB
  go_wp2_with fail
  refine (MB.out W0 B0.out).mono ?_
  rintro e w1 ⟨rfl, rfl⟩
  go_wp2_with ((with_reducible refine halt_at (X := .store 75 (.tmp 4) (.tmp 15)) ?_ ?_); (· rfl))
  unfold Halt
  refine st_row rfl 75 _ _ rfl W.heap.size rfl 75 #[.int .i64 0, .int .u32 0] #[.int .i64 0, .int .u32 0] rfl Q0.out sz_side rfl (by simp [Value.oneCell']) ?_
  have Q3 := Lib.hid (setRow_heap _ _ _ (#[.int .i64 0, .int .u32 0] : Array Value) _ _ Q0.out)
  have B3 := Lib.hid (B0.out.trans ((kept_setRow (F := fun k => k = W.heap.size) (w := W0) W.heap.size #[.int .i64 0, .int .u32 0] rfl).below B0.out.size (by rintro k rfl; exact Nat.le_refl _)))
  generalize W0.setRow W.heap.size #[.int .i64 0, .int .u32 0] = w2 at Q3 B3 ⊢
  go_wp2_with fail
  exact bodyPost_ret (v := .agg #[.int .i64 0, .int .u32 0]) (results_cell_row Tryz.results35 _ w2 W.heap.size 75 #[.int .i64 0, .int .u32 0] (0, 0) _ rfl Q3.out Tryz.underlying75 rfl sz_side) rfl ⟨rfl, B3.out⟩
set_option maxRecDepth 100000 in
theorem sv_Side_nil (n : Int) (W : World) : Calls Tryz.prog 35 #[.pointer none, .int .i64 n] W fun e w' => e = .returned (.agg #[.int .i64 0, .int .u32 0]) ∧ Below W.heap.size W w' := by
  have MB := Lib.hid (fun w' (_ : Below W.heap.size W w') => sv_member_nil n w')
  go_enter Tryz.func35, Tryz.ntmps35
  go_upto_region 1 with (fail)
  obtain ⟨W0, hW0, q0, hB, -⟩ := box1 W #[.int .i64 0, .int .u32 0] 75
  rw [← hW0]
  have Q0 := Lib.hid q0
  have B0 := Lib.hid hB
  clear hW0 q0 hB
  go_wp2_with fail
  refine (MB.out W0 B0.out).mono ?_
  rintro e w1 ⟨rfl, rfl⟩
  go_wp2_with ((with_reducible refine halt_at (X := .store 75 (.tmp 4) (.tmp 15)) ?_ ?_); (· rfl))
  unfold Halt
  refine st_row rfl 75 _ _ rfl W.heap.size rfl 75 #[.int .i64 0, .int .u32 0] #[.int .i64 0, .int .u32 0] rfl Q0.out sz_side rfl (by simp [Value.oneCell']) ?_
  have Q3 := Lib.hid (setRow_heap _ _ _ (#[.int .i64 0, .int .u32 0] : Array Value) _ _ Q0.out)
  have B3 := Lib.hid (B0.out.trans ((kept_setRow (F := fun k => k = W.heap.size) (w := W0) W.heap.size #[.int .i64 0, .int .u32 0] rfl).below B0.out.size (by rintro k rfl; exact Nat.le_refl _)))
  generalize W0.setRow W.heap.size #[.int .i64 0, .int .u32 0] = w2 at Q3 B3 ⊢
  go_wp2_with fail
  exact bodyPost_ret (v := .agg #[.int .i64 0, .int .u32 0]) (results_cell_row Tryz.results35 _ w2 W.heap.size 75 #[.int .i64 0, .int .u32 0] (0, 0) _ rfl Q3.out Tryz.underlying75 rfl sz_side) rfl ⟨rfl, B3.out⟩
set_option maxRecDepth 100000 in
theorem sv_There_nil (n : Int) (W : World) : Calls Tryz.prog 28 #[.pointer none, .int .i64 n] W fun e w' => e = .returned (.bool false) ∧ W = w' := by
  have MB := Lib.hid (sv_member_nil n W)
  go_enter Tryz.func28, Tryz.ntmps28
  go_wp2_with fail
  refine MB.out.mono ?_
  rintro e w1 ⟨rfl, rfl⟩
  go_wp2_with fail
  go_ret
  exact ⟨rfl, rfl⟩
set_option maxHeartbeats 1600000 in
set_option maxRecDepth 100000 in
theorem sv_Update_nil (n : Int) (x : MV) (W : World) : Calls Tryz.prog 20 #[.pointer none, .int .i64 n, x.V] W fun e w' => e = .returned (.tuple #[.slice none 0 0, .int .i64 1]) ∧ Below W.heap.size W w' := by
  have MB := Lib.hid (fun w' => sv_member_nil n w')
  go_enter Tryz.func20, Tryz.ntmps20
  go_upto_region 1 with (fail)
  obtain ⟨W0, hW0, q0, hB, -⟩ := box_msg W x
  rw [← hW0]
  have B0 := Lib.hid hB
  clear hW0 q0 hB
  go_wp2_with fail
  refine (MB.out W0).mono ?_
  rintro e w1 ⟨rfl, rfl⟩
  go_wp2_with fail
  refine bodyPost_ret (v := .tuple #[.slice none 0 0, .int .i64 1]) (by simp [results, Tryz.results20, go_sem]) rfl ⟨rfl, B0.out⟩
set_option maxHeartbeats 1600000 in
set_option maxRecDepth 100000 in
theorem sv_Goes_nil (n k : Int) (p : Pf) (W : World) : Calls Tryz.prog 31 #[.pointer none, .int .i64 n, .int .i64 k, .agg #[.int .u32 p.1, .int .i64 p.2]] W fun e w' => e = .returned (.bool false) ∧ Below W.heap.size W w' := by
  have MB := Lib.hid (fun (n : Int) w' => sv_member_nil n w')
  go_enter Tryz.func31, Tryz.ntmps31
  go_upto_region 1 with (fail)
  have B0 := Lib.hid ((Below.refl W.heap.size W).alloc (Nat.le_refl _) (.cells #[.int .u32 p.1, .int .i64 p.2] 53))
  go_wp2_with fail
  refine (MB.out _ _).mono ?_
  rintro e w1 ⟨rfl, rfl⟩
  go_wp2_with fail
  refine (MB.out _ _).mono ?_
  rintro e w1 ⟨rfl, rfl⟩
  go_wp2_with fail
  go_ret
  exact ⟨rfl, B0.out⟩
set_option maxRecDepth 100000 in
theorem sv_Nets_nil (W : World) : Calls Tryz.prog 34 #[.pointer none] W fun e w' => e = .returned (.slice none 0 0) ∧ W = w' := by
  go_enter Tryz.func34, Tryz.ntmps34
  go_wp2_with fail
  go_ret
  exact ⟨rfl, rfl⟩
end
end Go.Proofs.YtkoidahgbbabiaaGreat
/-
  ServerForms: the openers; the zero message; which code New answers, as the law reckons it.
-/
namespace Go.Proofs.YtkoidahgbbabiaaGreat
open Go.RowKit
section
variable {H : Type} {enc : TypeId × Value → H} {w : World} {base : Nat} {spare : Nat → Bool} {held : Bool}
set_option maxRecDepth 100000 in
theorem sd_cells {f : Nat} {cs : List Value} {x : DataW H × List MemPlace} (h : DataW.trod enc Tryz.prog w base spare held f 75 cs = some x) : ∃ p : Sd, SdC p cs := by
  obtain ⟨xs, n, _, _, hl, hxl, hf⟩ := DataW.trod_struct Tryz.underlying75 h
  have hc2 : Tryz.prog.cellsOf 75 = 2 := by kernel_rfl
  have hc1 : Tryz.prog.cellsOf 3 = 1 := by kernel_rfl
  have hca : Tryz.prog.cellsOf 36 = 1 := by kernel_rfl
  rw [hc2] at hl
  match cs, hl with
  | [c0, c1], _ =>
    match xs, hxl with
    | [x0, x1], _ =>
      have e0 := hf 0 _ rfl
      have e1 := hf 1 _ rfl
      simp [hc1, hca] at e0 e1
      obtain ⟨m, hm, _, im⟩ := DataW.trod_int Tryz.underlying3 e0
      obtain ⟨a, ha, _, ia⟩ := DataW.trod_int Tryz.underlying36 e1
      simp [Lit.wf, IntKind.min, IntKind.max, IntKind.bits, IntKind.signed] at ia im
      simp at ha hm
      subst ha; subst hm
      obtain ⟨k, rfl⟩ := Int.eq_ofNat_of_zero_le (show 0 ≤ a by omega)
      exact ⟨(m, k), rfl, by simp only; omega, by unfold I64r; simp only; omega⟩
set_option maxRecDepth 100000 in
theorem open_sds {v : Value} {d : DataW H} {p : List MemPlace} {r : Reach} {b0 : Nat} (hv : Value.okWide Tryz.prog w r b0 29 v) (h : DataW.Trod enc Tryz.prog w base spare held 29 v d p) : ∃ xs : List Sd, SdsAt w v xs := by
  obtain ⟨fuel, h⟩ := h
  have hvc : v.cells.toList = [v] := by
    simp only [Value.okWide, Tryz.underlying29] at hv
    cases v <;> first | rfl | (simp [Cell.okWide, Cell.ok, Tryz.underlying29] at hv)
  rw [hvc] at h
  obtain ⟨v', xs, e, hs⟩ := open_sl (k := 2) (R := SdC) Tryz.underlying29 (by kernel_rfl) (by decide) (fun _ _ _ h => sd_cells h) h
  injection e with e _
  subst e
  exact ⟨xs, hs⟩
end
def mv0 : MV := ⟨0, 0, 0, 0, none, 0, 0, none, 0, 0, av0, none, 0, 0, 0, 0, ⟨#[]⟩⟩
theorem msg_zero : Tryz.prog.built 46 [] = some mv0.C := by kernel_rfl
def wantS (xs : List Sd) : Int := if xs.all sdB then 0 else 1
theorem wantS_snoc (xs : List Sd) (x : Sd) : wantS (xs ++ [x]) = if sdB x then wantS xs else 1 := by
  unfold wantS
  rw [List.all_append]
  cases h : sdB x <;> cases h2 : xs.all sdB <;> simp [h]
def wantM (xs : List Sd) : Int := if 16 < xs.length then 3 else wantS xs
def badB (own : Int) (xs : List Sd) : Bool := !sysB own || decide (xs.length = 0)
theorem want_cd (own : Int) (xs : List Sd) : (if badB own xs then 1 else wantM xs) = newCd own xs := by
  unfold newCd badB wantM wantS
  cases h : sysB own <;> by_cases h2 : xs.length = 0 <;> by_cases h3 : 16 < xs.length <;> simp [h2, h3]
end Go.Proofs.YtkoidahgbbabiaaGreat
