/- Texts of one proof, one behind another. -/
import Derived.Test.YtkoidahgbbabiaaGreatTe21
import Derived.Test.YtkoidahgbbabiaaGreatTe20
import Derived.Test.YtkoidahgbbabiaaGreatTe10
import Derived.Test.YtkoidahgbbabiaaGreatTe19
import Derived.Test.YtkoidahgbbabiaaGreatTe1
/-
  THE SERVER, PLAIN, IN SHORT: what each participant says, who is there, what is to be told; the best routes follow from what is said.
-/
namespace Go.Proofs.YtkoidahgbbabiaaGreat
open Go.RowKit
abbrev VM := Int × Nat × Rts
def pmV (v : VM) : Pm := ⟨v.1, v.2.1, false, v.2.2, fun _ => false⟩
def bestV (own : Int) (bl : Nat → Bool) (V : List VM) (rc : Nat) (p : Pf) : Option (Int × At) := bestS own bl (V.map pmV) rc p
def offV (own : Int) (bl : Nat → Bool) (V : List VM) (rc : Nat) (p : Pf) : List Cd := offS own bl (V.map pmV) rc p
def RV (S : Sv) : List VM := S.ms.map fun m => (m.as_, m.id, m.R)
theorem RV_len (S : Sv) : (RV S).length = S.ms.length := by simp [RV]
theorem RV_get (S : Sv) (i : Nat) : (RV S)[i]? = (S.ms[i]?).map fun m => (m.as_, m.id, m.R) := by simp [RV]
theorem asOf_V (S : Sv) (rc : Nat) : asOf ((RV S).map pmV) rc = asOf S.ms rc := by
  unfold asOf
  rw [List.getElem?_map, RV_get]
  cases S.ms[rc]? <;> rfl
theorem said_V (S : Sv) (p : Pf) : saidS ((RV S).map pmV) p = saidS S.ms p := saidF_congr (by simp [RV]) fun k m n hm hn => by
  rw [List.getElem?_map, RV_get, hn] at hm
  simp at hm; subst hm
  exact ⟨rfl, rfl⟩
theorem off_V (S : Sv) (rc : Nat) (p : Pf) : offS S.own S.bl S.ms rc p = offV S.own S.bl (RV S) rc p := by
  unfold offV offS
  rw [asOf_V, said_V]
theorem bestIn_V (S : Sv) (rc : Nat) (p : Pf) : bestIn S rc p = bestV S.own S.bl (RV S) rc p := by
  unfold bestIn bestV bestS
  have := off_V S rc p
  unfold offV at this
  rw [this]
theorem offV_congr {own : Int} {bl bl' : Nat → Bool} {V V' : List VM} {rc : Nat} {p : Pf} (hl : V.length = V'.length) (h : ∀ (k : Nat) v v', V[k]? = some v → V'[k]? = some v' → v.1 = v'.1 ∧ v.2.1 = v'.2.1 ∧ getL v.2.2 p = getL v'.2.2 p)
    (hb : ∀ (k : Nat) v a, V[k]? = some v → getL v.2.2 p = some a → bl (k * 16 + rc) = bl' (k * 16 + rc)) : offV own bl V rc p = offV own bl' V' rc p := by
  unfold offV offS
  have e1 : saidS (V.map pmV) p = saidS (V'.map pmV) p := saidF_congr (by simp [hl]) fun k m n hm hn => by
    rw [List.getElem?_map] at hm hn
    cases hv : V[k]? with
    | none => rw [hv] at hm; simp at hm
    | some v =>
      cases hv' : V'[k]? with
      | none => rw [hv'] at hn; simp at hn
      | some v' =>
        rw [hv] at hm; rw [hv'] at hn
        simp at hm hn; subst hm; subst hn
        exact ⟨(h k v v' hv hv').2.1, (h k v v' hv hv').2.2⟩
  have e2 : asOf (V.map pmV) rc = asOf (V'.map pmV) rc := by
    unfold asOf
    rw [List.getElem?_map, List.getElem?_map]
    cases hv : V[rc]? with
    | none =>
      have : V'[rc]? = none := by rw [List.getElem?_eq_none_iff] at hv ⊢; omega
      rw [this]
    | some v =>
      obtain ⟨v', hv'⟩ : ∃ v', V'[rc]? = some v' := ⟨_, List.getElem?_eq_getElem (by rw [← hl]; exact (List.getElem?_eq_some_iff.1 hv).1)⟩
      rw [hv']
      simp [pmV, (h rc v v' hv hv').1]
  rw [← e1, ← e2]
  unfold offL
  refine List.filter_congr fun c hc => ?_
  obtain ⟨k, m, a, hm, hg, rfl⟩ := saidS_mem hc
  rw [List.getElem?_map] at hm
  cases hv : V[k]? with
  | none => rw [hv] at hm; simp at hm
  | some v =>
    rw [hv] at hm; simp at hm; subst hm
    unfold goesC goesB cdOf
    simp only [Int.toNat_natCast]
    rw [hb k v a hv hg]
theorem bestV_congr {own : Int} {bl bl' : Nat → Bool} {V V' : List VM} {rc : Nat} {p : Pf} (hl : V.length = V'.length) (h : ∀ (k : Nat) v v', V[k]? = some v → V'[k]? = some v' → v.1 = v'.1 ∧ v.2.1 = v'.2.1 ∧ getL v.2.2 p = getL v'.2.2 p)
    (hb : ∀ (k : Nat) v a, V[k]? = some v → getL v.2.2 p = some a → bl (k * 16 + rc) = bl' (k * 16 + rc)) : bestV own bl V rc p = bestV own bl' V' rc p := by
  have := offV_congr (own := own) (rc := rc) hl h hb
  unfold offV at this
  unfold bestV bestS
  rw [this]
structure Ab where
  own : Int
  most : Int
  bl : Nat → Bool
  V : List VM
  th : Nat → Bool
  nw : Nat → Pf → Bool
def Ab.best (A : Ab) (i : Nat) (p : Pf) : Option (Int × At) := bestV A.own A.bl A.V i p
def Ab.offs (A : Ab) (i : Nat) (p : Pf) : List Cd := offV A.own A.bl A.V i p
def Ab.R (A : Ab) (i : Nat) : Rts := ((A.V[i]?).map (·.2.2)).getD []
structure IsAb (S : Sv) (A : Ab) : Prop where
  own : S.own = A.own
  most : S.most = A.most
  bl : S.bl = A.bl
  V : RV S = A.V
  mem : ∀ (i : Nat) m, S.ms[i]? = some m → m.there = A.th i ∧ ∀ p, m.news p = A.nw i p
  best : ∀ i p, i < S.ms.length → S.best i p = A.best i p
def Ab.turn (A : Ab) (bl : Nat → Bool) (V : List VM) : Ab := { A with bl := bl, V := V, nw := fun k p => A.nw k p || (A.th k && !sameB (A.best k p) (bestV A.own bl V k p)) }
def setV (V : List VM) (i : Nat) (R : Rts) : List VM := V.modify i fun v => (v.1, v.2.1, R)
def setF {α : Type} (f : Nat → α) (i : Nat) (x : α) (k : Nat) : α := if k = i then x else f k
def Ab.join (A : Ab) (i : Nat) : Ab := { A with th := setF A.th i true, nw := setF A.nw i fun p => A.nw i p || (A.best i p).isSome }
def Ab.hush (A : Ab) (i : Nat) : Ab := { A with nw := setF A.nw i fun _ => false }
def Ab.away (A : Ab) (i : Nat) : Ab := { A with th := setF A.th i false, nw := setF A.nw i fun _ => false }
def Ab.leave (A : Ab) (i : Nat) : Ab := (A.away i).turn A.bl (setV A.V i [])
def Ab.updR (A : Ab) (i : Nat) (kind : Int) (gone nets : List Pf) (a : At) : Int × List Pf × Rts := updP A.own A.most (A.R i) kind gone nets a
def Ab.upd (A : Ab) (i : Nat) (kind : Int) (gone nets : List Pf) (a : At) : Ab := if (A.updR i kind gone nets a).1 = 0 then A.turn A.bl (setV A.V i (A.updR i kind gone nets a).2.2) else A
def Ab.mark (A : Ab) (i : Nat) (ps : List Pf) : Ab := { A with nw := setF A.nw i fun p => A.nw i p || (decide (p ∈ ps) && rightB p.1 p.2) }
def Ab.block (A : Ab) (i j : Nat) (b : Bool) : Ab := A.turn (setWay A.bl (i * 16 + j) b) A.V
def newA (own most : Int) (xs : List Sd) : Ab := ⟨own, min (max most 0) 256, fun _ => false, xs.map fun x => (x.1, x.2, []), fun _ => false, fun _ _ => false⟩
theorem setF_same {α : Type} (f : Nat → α) (i : Nat) (x : α) : setF f i x i = x := if_pos rfl
theorem setF_other {α : Type} (f : Nat → α) {i k : Nat} (h : k ≠ i) (x : α) : setF f i x k = f k := if_neg h
theorem setV_get (V : List VM) (i : Nat) (R : Rts) (j : Nat) : (setV V i R)[j]? = (V[j]?).map fun v => if j = i then (v.1, v.2.1, R) else v := by
  unfold setV
  simp only [List.getElem?_modify]
  cases V[j]? with
  | none => rfl
  | some m => simp only [Option.map_some, Option.map_eq_map, eq_comm (a := i)]
theorem setV_len (V : List VM) (i : Nat) (R : Rts) : (setV V i R).length = V.length := by unfold setV; simp
theorem RV_setR (S : Sv) (i : Nat) (R : Rts) : RV (setR S i R) = setV (RV S) i R := by
  apply List.ext_getElem?
  intro j
  rw [RV_get, setR_get, setV_get, RV_get]
  cases S.ms[j]? with
  | none => rfl
  | some m => simp only [Option.map_some]; split <;> rfl
theorem RV_modS (S : Sv) (i : Nat) (f : Pm → Pm) (h : ∀ m, (f m).as_ = m.as_ ∧ (f m).id = m.id ∧ (f m).R = m.R) : RV (modS S i f) = RV S := by
  apply List.ext_getElem?
  intro j
  rw [RV_get, modS_get, RV_get]
  cases S.ms[j]? with
  | none => rfl
  | some m =>
    simp only [Option.map_some]
    split
    · rw [(h m).1, (h m).2.1, (h m).2.2]
    · rfl
theorem SvKin.RV {S T : Sv} (h : SvKin S T) : RV T = RV S := by
  apply List.ext_getElem?
  intro j
  rw [RV_get, RV_get]
  cases hm : S.ms[j]? with
  | none =>
    have : T.ms[j]? = none := by rw [List.getElem?_eq_none_iff] at hm ⊢; rw [h.len]; exact hm
    rw [this]
  | some m =>
    obtain ⟨n, h1, h2, h3, h4, h5⟩ := h.mem j m hm
    rw [h1]
    simp [h2, h3, h5]
section
variable {S : Sv} {A : Ab}
theorem IsAb.len (h : IsAb S A) : S.ms.length = A.V.length := by rw [← h.V, RV_len]
theorem IsAb.get (h : IsAb S A) {i : Nat} {m : Pm} (hm : S.ms[i]? = some m) : A.V[i]? = some (m.as_, m.id, m.R) ∧ A.R i = m.R := by
  have : A.V[i]? = some (m.as_, m.id, m.R) := by rw [← h.V, RV_get, hm]; rfl
  exact ⟨this, by unfold Ab.R; rw [this]; rfl⟩
theorem IsAb.at (h : IsAb S A) {i : Nat} (hi : i < A.V.length) : ∃ m, S.ms[i]? = some m := ⟨_, List.getElem?_eq_getElem (by rw [h.len]; exact hi)⟩
theorem IsAb.modS (h : IsAb S A) (i : Nat) (f : Pm → Pm) {A' : Ab} (hf : ∀ m, (f m).as_ = m.as_ ∧ (f m).id = m.id ∧ (f m).R = m.R) (e1 : A'.own = A.own) (e2 : A'.most = A.most) (e3 : A'.bl = A.bl) (e4 : A'.V = A.V)
    (e5 : ∀ (k : Nat) m, S.ms[k]? = some m → k ≠ i → A'.th k = A.th k ∧ ∀ p, A'.nw k p = A.nw k p) (e6 : ∀ m, S.ms[i]? = some m → (f m).there = A'.th i ∧ ∀ p, (f m).news p = A'.nw i p) : IsAb (modS S i f) A' := by
  refine ⟨h.own.trans e1.symm, h.most.trans e2.symm, h.bl.trans e3.symm, ?_, ?_, ?_⟩
  · rw [RV_modS S i f hf, h.V, e4]
  · intro k m hm
    rw [modS_get] at hm
    cases hk : S.ms[k]? with
    | none => rw [hk] at hm; simp at hm
    | some n =>
      rw [hk] at hm; simp at hm; subst hm
      by_cases e : k = i
      · subst e
        rw [if_pos rfl]
        exact e6 n hk
      · rw [if_neg e]
        obtain ⟨h1, h2⟩ := h.mem k n hk
        exact ⟨h1.trans (e5 k n hk e).1.symm, fun p => (h2 p).trans ((e5 k n hk e).2 p).symm⟩
  · intro k p hk
    rw [modS_len] at hk
    have : A'.best k p = A.best k p := by unfold Ab.best; rw [e1, e3, e4]
    rw [this]
    exact h.best k p hk
theorem IsAb.join (h : IsAb S A) {i : Nat} (hi : i < A.V.length) : IsAb (joinS S i) (A.join i) :=
  h.modS i _ (fun _ => ⟨rfl, rfl, rfl⟩) rfl rfl rfl rfl (fun k m _ hk => ⟨setF_other _ hk _, fun p => by unfold Ab.join; simp only; rw [setF_other _ hk]⟩) (fun m hm => ⟨(setF_same _ _ _).symm, fun p => by
    unfold Ab.join
    simp only
    rw [setF_same, (h.mem i m hm).2 p, h.best i p (by rw [h.len]; exact hi)]⟩)
theorem IsAb.hush (h : IsAb S A) (i : Nat) : IsAb (hushS S i) (A.hush i) :=
  h.modS i _ (fun _ => ⟨rfl, rfl, rfl⟩) rfl rfl rfl rfl (fun k m _ hk => ⟨rfl, fun p => by unfold Ab.hush; simp only; rw [setF_other _ hk]⟩) (fun m hm => ⟨(h.mem i m hm).1, fun p => by
    unfold Ab.hush withNews
    simp only
    rw [setF_same]⟩)
theorem IsAb.away (h : IsAb S A) (i : Nat) : IsAb (awayS S i) (A.away i) :=
  h.modS i _ (fun _ => ⟨rfl, rfl, rfl⟩) rfl rfl rfl rfl (fun k m _ hk => ⟨setF_other _ hk _, fun p => by unfold Ab.away; simp only; rw [setF_other _ hk]⟩) (fun m hm => ⟨(setF_same _ _ _).symm, fun p => by
    unfold Ab.away
    simp only
    rw [setF_same]⟩)
theorem IsAb.turnS (h : IsAb S A) (i : Nat) (R : Rts) (ps : List Pf) (hR : ∀ p, p ∉ ps → getL R p = getL (A.R i) p) : IsAb (turnS (setR S i R) ps) (A.turn A.bl (setV A.V i R)) := by
  have hk := kin_turn ps (setR S i R)
  have hV : RV (Proofs.YtkoidahgbbabiaaGreat.turnS (setR S i R) ps) = setV A.V i R := by rw [hk.RV, RV_setR, h.V]
  have hin : ∀ k q, bestIn (setR S i R) k q = bestV A.own A.bl (setV A.V i R) k q := fun k q => by
    rw [bestIn_V, RV_setR, h.V]
    show bestV S.own S.bl _ k q = _
    rw [h.own, h.bl]
  have hold : ∀ k q, k < S.ms.length → q ∉ ps → A.best k q = bestV A.own A.bl (setV A.V i R) k q := fun k q hkl hq => by
    refine bestV_congr (setV_len ..).symm (fun j v v' hv hv' => ?_) fun _ _ _ _ _ => rfl
    rw [setV_get, hv] at hv'
    simp at hv'; subst hv'
    by_cases e : j = i
    · subst e
      rw [if_pos rfl]
      refine ⟨rfl, rfl, ?_⟩
      have : A.R j = v.2.2 := by unfold Ab.R; rw [hv]; rfl
      rw [← this]
      exact (hR q hq).symm
    · rw [if_neg e]; exact ⟨rfl, rfl, rfl⟩
  refine ⟨hk.own.trans h.own, hk.most.trans h.most, hk.bl.trans h.bl, hV, ?_, ?_⟩
  · intro k n hn
    obtain ⟨m', hm', -⟩ := hk.back hn
    obtain ⟨n', g1, g2, g3, g4, g5, g6⟩ := turnS_news ps _ k m' hm'
    rw [hn] at g1; injection g1 with g1; subst g1
    rw [setR_get] at hm'
    cases hm : S.ms[k]? with
    | none => rw [hm] at hm'; simp at hm'
    | some m =>
      rw [hm] at hm'; simp at hm'
      have e1 : m'.there = m.there := by rw [← hm']; split <;> rfl
      have e2 : m'.news = m.news := by rw [← hm']; split <;> rfl
      obtain ⟨h1, h2⟩ := h.mem k m hm
      refine ⟨g4.trans (e1.trans h1), fun p => ?_⟩
      rw [g6 p, e1, e2, h1, h2 p]
      unfold Ab.turn
      simp only
      have hkl : k < S.ms.length := (List.getElem?_eq_some_iff.1 hm).1
      have hb : (setR S i R).best k p = A.best k p := h.best k p hkl
      rw [hb, hin]
      by_cases hp : p ∈ ps
      · simp [hp]
      · have : sameB (A.best k p) (bestV A.own A.bl (setV A.V i R) k p) = true := (sameB_iff _ _).2 (hold k p hkl hp)
        simp [hp, this]
  · intro k q hkl
    rw [hk.len, setR_len] at hkl
    rw [turnS_best ps _ k q (by rw [setR_len]; exact hkl), hin]
    show _ = bestV A.own A.bl (setV A.V i R) k q
    by_cases hq : q ∈ ps
    · rw [if_pos hq]
    · rw [if_neg hq]
      exact (h.best k q hkl).trans (hold k q hkl hq)
theorem IsAb.leave (h : IsAb S A) (i : Nat) (had : List Pf) (hh : ∀ p, p ∈ had ↔ (getL (A.R i) p).isSome = true) : IsAb (leaveS S i had) (A.leave i) := by
  refine (h.away i).turnS i [] had fun p hp => ?_
  have : ¬ (getL (A.R i) p).isSome = true := fun h2 => hp ((hh p).2 h2)
  show none = getL (A.R i) p
  cases hg : getL (A.R i) p with
  | none => rfl
  | some x => rw [hg] at this; exact absurd rfl this
theorem setOf_mem {ps : List Pf} {p : Pf} : p ∈ setOf ps ↔ p ∈ ps := (setOf_srt ps).2 p
theorem saidP_mem {gone nets : List Pf} {p : Pf} : p ∈ saidP gone nets ↔ p ∈ gone ∨ p ∈ nets := by
  unfold saidP
  rw [setOf_mem, List.mem_append]
theorem netsP_sub {own : Int} {nets : List Pf} {a : At} {p : Pf} (h : p ∈ netsP own nets a) : p ∈ nets := by
  unfold netsP at h
  split at h
  · cases h
  · exact setOf_mem.1 h
theorem updP_keeps {own most : Int} {R : Rts} {kind : Int} {gone nets : List Pf} {a : At} {p : Pf} (hp : p ∉ gone ++ nets) : getL (updP own most R kind gone nets a).2.2 p = getL R p := by
  have h1 : p ∉ saidP gone nets := fun h => hp (List.mem_append.2 (saidP_mem.1 h))
  have h2 : p ∉ netsP own nets a := fun h => hp (List.mem_append_right _ (netsP_sub h))
  unfold updP
  split
  · split
    · split
      · rfl
      · simp only
        rw [getL_putAll, getL_dropAll, if_neg h2, if_neg h1]
    · rfl
  · rfl
theorem IsAb.upd (h : IsAb S A) {i : Nat} {m : Pm} (hm : S.ms[i]? = some m) (kind : Int) (gone nets : List Pf) (a : At) : IsAb (updS S i m kind gone nets a) (A.upd i kind gone nets a) := by
  have e : updP S.own S.most m.R kind gone nets a = A.updR i kind gone nets a := by
    unfold Ab.updR
    rw [h.own, h.most, (h.get hm).2]
  unfold updS Ab.upd
  rw [e]
  split
  · rw [← turnS_app]
    exact h.turnS i _ _ fun p hp => by
      unfold Ab.updR
      exact updP_keeps hp
  · exact h
theorem mark1_is (i : Nat) (S : Sv) (p : Pf) (k : Nat) : (mark1 i S p).ms[k]? = (S.ms[k]?).map fun m => if k = i then m.mark p (m.there && rightB p.1 p.2) else m := by
  unfold mark1
  cases hr : rightB p.1 p.2 with
  | true => rw [if_pos rfl, markS_get]
  | false =>
    rw [if_neg (by simp)]
    cases S.ms[k]? with
    | none => rfl
    | some m =>
      simp only [Option.map_some, Bool.and_false]
      split
      · unfold Pm.mark; simp
      · rfl
theorem marks_get (i : Nat) : ∀ (ps : List Pf) (S : Sv) (k : Nat) (m : Pm), S.ms[k]? = some m → ∃ n, (marksS S i ps).ms[k]? = some n ∧ n.there = m.there ∧ ∀ q, n.news q = if k = i then (m.news q || (m.there && (decide (q ∈ ps) && rightB q.1 q.2))) else m.news q
  | [], S, k, m, hm => ⟨m, hm, rfl, fun q => by simp⟩
  | p :: ps, S, k, m, hm => by
    have h1 := mark1_is i S p k
    rw [hm] at h1
    simp only [Option.map_some] at h1
    obtain ⟨n, n1, n2, n3⟩ := marks_get i ps (mark1 i S p) k _ h1
    refine ⟨n, n1, ?_, fun q => ?_⟩
    · rw [n2]; split <;> rfl
    · rw [n3 q]
      by_cases e : k = i
      · simp only [e, if_true]
        rw [mark_news]
        show _ = _
        have : (m.mark p (m.there && rightB p.1 p.2)).there = m.there := rfl
        rw [this]
        by_cases eq : q = p
        · subst eq
          simp only [List.mem_cons, true_or, decide_true, Bool.true_and]
          cases m.news q <;> cases m.there <;> cases rightB q.1 q.2 <;> simp
        · have : decide (q ∈ p :: ps) = decide (q ∈ ps) := by simp [eq]
          rw [this]
          simp [eq]
      · simp only [e, if_false]
theorem marks_best (i : Nat) : ∀ (ps : List Pf) (S : Sv), (marksS S i ps).best = S.best
  | [], _ => rfl
  | p :: ps, S => by
    show (marksS (mark1 i S p) i ps).best = S.best
    rw [marks_best i ps]
    unfold mark1
    split <;> rfl
theorem IsAb.mark (h : IsAb S A) {i : Nat} (ht : A.th i = true) (ps : List Pf) : IsAb (marksS S i ps) (A.mark i ps) := by
  have hk := kin_marks i ps S
  refine ⟨hk.own.trans h.own, hk.most.trans h.most, hk.bl.trans h.bl, hk.RV.trans h.V, ?_, ?_⟩
  · intro k n hn
    obtain ⟨m, hm, -⟩ := hk.back hn
    obtain ⟨n', g1, g2, g3⟩ := marks_get i ps S k m hm
    rw [hn] at g1; injection g1 with g1; subst g1
    obtain ⟨h1, h2⟩ := h.mem k m hm
    refine ⟨g2.trans h1, fun p => ?_⟩
    rw [g3 p]
    unfold Ab.mark
    simp only
    by_cases e : k = i
    · subst e
      rw [if_pos rfl, setF_same, h2 p, h1, ht, Bool.true_and]
    · rw [if_neg e, setF_other _ e]
      exact h2 p
  · intro k p hkl
    rw [marks_best]
    rw [hk.len] at hkl
    exact h.best k p hkl
theorem saidF_none (p : Pf) : ∀ (ms : List Pm) (i : Nat), (∀ m ∈ ms, m.R = []) → saidF p i ms = []
  | [], _, _ => rfl
  | m :: ms, i, h => by
    rw [saidF, saidF_none p ms (i + 1) fun x hx => h x (List.mem_cons_of_mem _ hx)]
    unfold saidOne
    rw [h m (List.mem_cons_self ..)]
    rfl
theorem newA_best (own most : Int) (xs : List Sd) (i : Nat) (p : Pf) : (newA own most xs).best i p = none := by
  unfold Ab.best bestV bestS offS saidS newA
  simp only
  rw [saidF_none p _ 0 fun m hm => by
    obtain ⟨v, hv, rfl⟩ := List.mem_map.1 hm
    obtain ⟨x, hx, rfl⟩ := List.mem_map.1 hv
    rfl]
  rfl
theorem newA_is (own most : Int) (xs : List Sd) : IsAb (newSv own most xs) (newA own most xs) := by
  refine ⟨rfl, rfl, rfl, ?_, ?_, fun i p _ => (newA_best own most xs i p).symm⟩
  · unfold RV newSv newA
    simp only [List.map_map]
    rfl
  · intro i m hm
    unfold newSv at hm
    simp only [List.getElem?_map] at hm
    cases hx : xs[i]? with
    | none => rw [hx] at hm; simp at hm
    | some x =>
      rw [hx] at hm; simp at hm; subst hm
      exact ⟨rfl, fun _ => rfl⟩
end
end Go.Proofs.YtkoidahgbbabiaaGreat
/-
  THE LAWS ON SERVERS: so many participants; attributes of so many hops; prefixes.
-/
namespace Go.Proofs.YtkoidahgbbabiaaGreat
open Go.RowKit
def sdsN (n : Nat) : List Sd := (List.range n).map fun (i : Nat) => (((65001 + (i : Int)), i + 1) : Sd)
theorem sdsN_len (n : Nat) : (sdsN n).length = n := by simp [sdsN]
theorem sdsN_succ (n : Nat) : sdsN (n + 1) = sdsN n ++ [((65001 + (n : Int)), n + 1)] := by simp [sdsN, List.range_succ]
theorem sdsN_get {n i : Nat} (h : i < n) : (sdsN n)[i]? = some ((65001 + (i : Int)), i + 1) := by simp [sdsN, h]
theorem info_side : (Tryz.prog.info? 75).map (fun i => (i.zero, i.size, i.bytes)) = some (some (.agg #[.int .i64 0, .int .u32 0]), 2, 16) := by kernel_rfl
theorem sd_one (x : Sd) : ∀ u ∈ sdL x, u.oneCell' = true := by
  intro u hu
  unfold sdL at hu
  simp at hu
  rcases hu with rfl | rfl <;> rfl
set_option maxHeartbeats 1600000 in
set_option maxRecDepth 100000 in
theorem l_sides14 (n : Nat) (hn : n ≤ 16) (w : World) : Calls Tryz.prog 15 #[.int .i64 n] w fun e w' => ∃ (s : Option Addr) (c : Nat), e = .returned (.slice s n c) ∧ w'.ownsRow w.heap.size 75 2 (.slice s n c) n ((sdsN n).flatMap sdL) ∧ Below w.heap.size w w' := by
  obtain ⟨i0, hii, hz0, hz1, hz2⟩ := info_parts info_side
  have O0 : Hid ((w.alloc (.cells #[] 75)).ownsRow w.heap.size 75 2 (.slice (some ⟨w.heap.size, 0, none⟩) 0 0) 0 ((sdsN 0).flatMap sdL)) := Lib.hid (own_empty (Nat.le_refl _))
  have B0 : Hid (Below w.heap.size w (w.alloc (.cells #[] 75))) := Lib.hid ((Below.refl _ _).alloc (Nat.le_refl _) _)
  go_enter Tryz.func15, Tryz.ntmps15
  go_wp2_with fail
  go_loopw [3, 4] (fun t3 t4 wr => ∃ (k : Nat) (s : Option Addr) (c : Nat), k ≤ n ∧ t4 = .int .i64 k ∧ t3 = .slice s k c ∧ Hid (wr.ownsRow w.heap.size 75 2 (.slice s k c) k ((sdsN k).flatMap sdL)) ∧ Hid (Below w.heap.size w wr)) (fun _ t4 _ => n - (intOf t4).toNat)
  case atStart => exact ⟨0, _, 0, by omega, rfl, rfl, O0, B0⟩
  case round =>
    clear O0 B0
    obtain ⟨k, s, c, hk, rfl, rfl, OW, BV⟩ := hrel
    by_cases hkn : k < n
    · have d0 : decide ((k : Int) < (n : Int)) = true := by simp; omega
      have z1 : IntKind.i64.wrap ((65001 : Int) + (k : Int)) = 65001 + (k : Int) := by rw [IntWalk.i64_in _ (by omega)]
      have z2 : IntKind.i64.wrap ((k : Int) + 1) = (k : Int) + 1 := by rw [IntWalk.i64_in _ (by omega)]
      have z3 : IntKind.u32.wrap ((k : Int) + 1) = (k : Int) + 1 := by unfold IntKind.wrap IntKind.bits IntKind.signed; simp; omega
      obtain ⟨ab, hab⟩ : ∃ ab, ab = wr.heap.size := ⟨_, rfl⟩
      have hal : Below wr.heap.size wr (wr.alloc (.cells #[.int .i64 (65001 + (k : Int)), .int .u32 ((k : Int) + 1)] 75)) := (Below.refl _ _).alloc (Nat.le_refl _) _
      have OA := Lib.hid (own_below OW.out hal)
      have NC := Lib.hid (new_cells wr #[.int .i64 (65001 + (k : Int)), .int .u32 ((k : Int) + 1)] 75)
      have BA := Lib.hid (below_on BV.out hal)
      clear hal OW BV hab
      go_wp2_with (at_builtin; refine wpList_append_own_at _ rfl _ _ 29 rfl w.heap.size 75 i0 _ 2 16 Tryz.underlying29 hii hz0 hz1 hz2 rfl (by decide) (.slice s k c) k ((sdsN k).flatMap sdL) rfl OA.out ⟨wr.heap.size, 0, none⟩ 1 1 [.int .i64 (65001 + (k : Int)), .int .u32 ((k : Int) + 1)] rfl rfl NC.out (sd_one (65001 + (k : Int), k + 1)) (by unfold maxLen; omega) (by omega) (by have := BA.out.size; omega) ?_)
      intro v3 w5 h2 h3 _ hat
      obtain ⟨s3, c3, hv3, -⟩ := own_form h2
      subst hv3
      have O3 : Hid (w5.ownsRow w.heap.size 75 2 (.slice s3 (k + 1) c3) (k + 1) ((sdsN (k + 1)).flatMap sdL)) := Lib.hid (by rw [sdsN_succ, List.flatMap_append]; exact h2)
      have B3 : Hid (Below w.heap.size w w5) := Lib.hid (BA.out.trans ((kept_gr h3).below BA.out.size fun g hg => own_form_le OA.out g hg))
      clear h2 h3 hat OA NC BA
      go_wp2_with fail
      exact ⟨⟨k + 1, s3, c3, by omega, by go_num, rfl, O3, B3⟩, by simp [intOf]; omega⟩
    · obtain rfl : k = n := by omega
      have d0 : decide ((k : Int) < (k : Int)) = false := by simp
      have O1 := Lib.hid OW.out
      have B1 := Lib.hid BV.out
      clear OW BV
      go_wp2_with fail
      go_ret
      exact ⟨s, c, rfl, O1.out, B1.out⟩
def netP (n : Nat) : Pf := ((n * 16777216 : Nat), 8)
theorem netP_ok {n : Nat} (h : n < 256) : OkP (netP n) := by unfold netP OkP; simp only; omega
theorem netP_right (n : Nat) : rightB (netP n).1 (netP n).2 = true := by
  unfold netP
  have : rightB ((n * 16777216 : Nat) : Int) ((8 : Nat) : Int) = true := right_mod.2 ⟨by simp, by decide⟩
  exact this
theorem netP_rgt {n : Nat} (h : n < 256) : RgtP (netP n) := ⟨netP_ok h, netP_right n⟩
set_option maxHeartbeats 400000 in
theorem l_net14 (n : Nat) (h : n < 256) (w : World) : Calls Tryz.prog 32 #[.int .i64 n] w fun e w' => e = .returned (.agg #[.int .u32 (netP n).1, .int .i64 (netP n).2]) ∧ Below w.heap.size w w' := by
  have z1 : IntKind.u32.wrap (n : Int) = n := by unfold IntKind.wrap IntKind.bits IntKind.signed; simp; omega
  go_enter Tryz.func32, Tryz.ntmps32
  go_wp2_with fail
  exact bodyPost_ret (v := .agg #[.int .u32 ((n : Int) * 16777216), .int .i64 8]) (by simp [results, Tryz.results32, go_sem]) rfl ⟨by unfold netP; simp, (Below.refl _ _).alloc (Nat.le_refl _) _⟩
def hopL (n : Nat) : List Int := (List.range n).map fun (i : Nat) => (100 : Int) + (i : Int)
theorem hopL_succ (n : Nat) : hopL (n + 1) = hopL n ++ [(100 : Int) + (n : Int)] := by simp [hopL, List.range_succ]
def iL14 (x : Int) : List Value := [.int .i64 x]
theorem i_one14 (x : Int) : ∀ u ∈ iL14 x, u.oneCell' = true := by
  intro u hu
  simp [iL14] at hu
  subst hu; rfl
def atP (n : Nat) : At := ⟨14, 0, [(false, hopL n)], 167772161, 0, 0, 0, 0, [], []⟩
def avP (b : Nat) : AV := ⟨14, 0, some ⟨b, 0, none⟩, 1, 1, 167772161, 0, 0, 0, 0, none, 0, 0, none, 0, 0⟩
theorem info_intP : (Tryz.prog.info? 3).map (fun i => (i.zero, i.size, i.bytes)) = some (some (.int .i64 0), 1, 8) := by kernel_rfl
theorem path_at {W : World} {b n B : Nat} {s : Option Addr} {c : Nat} (h1 : W.heap[b]? = some (.cells #[.bool false, .slice s n c] 121 (0, 0))) (h2 : W.ownsRow B 3 1 (.slice s n c) n ((hopL n).flatMap iL14)) (hn : n ≤ 100 := by omega) : AvAt W (atP n) (avP b) := by
  refine ⟨some ⟨b, 0, none⟩, 1, none, 0, none, 0, rfl, ?_, SlAt.nil, SlAt.nil⟩
  refine ⟨_, 1, rfl, Nat.le_refl _, by simp [maxLen], fun _ => ⟨b, 0, rfl, fun i x hx => ?_⟩⟩
  obtain ⟨rfl, rfl⟩ : i = 0 ∧ x = (false, hopL n) := by
    have h := (List.getElem?_eq_some_iff.1 hx).1
    simp [atP] at h
    subst h
    simp [atP] at hx
    exact ⟨rfl, hx.symm⟩
  refine ⟨[.bool false, .slice s n c], rfl, ⟨_, rfl, ?_⟩, fun j u hu => ?_⟩
  · have e : (hopL n).length = n := by simp [hopL]
    have h3 : W.ownsRow B 3 1 (.slice s n c) (hopL n).length ((hopL n).flatMap iL14) := by rw [e]; exact h2
    have := own_slat (C := iL14) (fun _ => rfl) h3
    refine this.imp fun y cs hy hc => ⟨hc, ?_⟩
    obtain ⟨i, hi, rfl⟩ := List.mem_map.1 hy
    have := List.mem_range.1 hi
    unfold I64r; omega
  · rw [row_cell h1]
    simpa using hu
theorem box_avz (w : World) : ∃ W0, W0 = w.alloc (.cells #[.int .i64 0, .int .i64 0, .slice none 0 0, .int .u32 0, .int .i64 0, .int .i64 0, .int .i64 0, .int .u32 0, .slice none 0 0, .slice none 0 0] 42) ∧ W0.heap[w.heap.size]? = some (.cells av0.C 42 (0, 0)) ∧ Below w.heap.size w W0 ∧ W0.heap.size = w.heap.size + 1 := box1 w av0.C 42
set_option maxHeartbeats 1600000 in
set_option maxRecDepth 100000 in
theorem l_path14 (n : Nat) (hn : n ≤ 100) (w : World) : Calls Tryz.prog 55 #[.int .i64 n] w fun e w' => ∃ b : Nat, e = .returned (avP b).V ∧ Fresh w.heap.size w' (fun W => AvAt W (atP n) (avP b)) ∧ Below w.heap.size w w' := by
  obtain ⟨i0, hii, hz0, hz1, hz2⟩ := info_parts info_intP
  go_enter Tryz.func55, Tryz.ntmps55
  go_upto_region 1 with (fail)
  obtain ⟨W0, hW0, q0, hB, hz⟩ := box_avz w
  have SZ0 : Hid (W0.heap.size = w.heap.size + 1) := Lib.hid hz
  clear hz
  rw [← hW0]
  have Q0 := Lib.hid q0
  have B0 := Lib.hid hB
  have O0 : Hid ((W0.alloc (.cells #[] 3)).ownsRow (w.heap.size + 1) 3 1 (.slice (some ⟨W0.heap.size, 0, none⟩) 0 0) 0 ((hopL 0).flatMap iL14)) := Lib.hid (own_empty (by have h1 := row_lt q0; omega))
  have B1 : Hid (Below W0.heap.size W0 (W0.alloc (.cells #[] 3))) := Lib.hid ((Below.refl _ _).alloc (Nat.le_refl _) _)
  clear hW0 q0 hB
  go_wp2_with fail
  go_loopw [3, 4] (fun t3 t4 wr => ∃ (k : Nat) (s : Option Addr) (c : Nat), k ≤ n ∧ t4 = .int .i64 k ∧ t3 = .slice s k c ∧ Hid (wr.ownsRow (w.heap.size + 1) 3 1 (.slice s k c) k ((hopL k).flatMap iL14)) ∧ Hid (Below W0.heap.size W0 wr)) (fun _ t4 _ => n - (intOf t4).toNat)
  case atStart => exact ⟨0, _, 0, by omega, rfl, rfl, O0, B1⟩
  case round =>
    clear O0 B1
    obtain ⟨k, s, c, hk, rfl, rfl, OW, BV⟩ := hrel
    by_cases hkn : k < n
    · have d0 : decide ((k : Int) < (n : Int)) = true := by simp; omega
      have z1 : IntKind.i64.wrap ((100 : Int) + (k : Int)) = 100 + (k : Int) := by rw [IntWalk.i64_in _ (by omega)]
      have hal : Below wr.heap.size wr (wr.alloc (.cells #[.int .i64 (100 + (k : Int))] 3)) := (Below.refl _ _).alloc (Nat.le_refl _) _
      have OA := Lib.hid (own_below OW.out hal)
      have NC := Lib.hid (new_cells wr #[.int .i64 (100 + (k : Int))] 3)
      have BA := Lib.hid (below_on BV.out hal)
      have WB : Hid (w.heap.size + 1 ≤ (wr.alloc (.cells #[.int .i64 (100 + (k : Int))] 3)).heap.size) := Lib.hid (by have h1 := row_lt Q0.out; have h2 := BA.out.size; omega)
      clear hal OW BV
      go_wp2_with (at_builtin; refine wpList_append_own_at _ rfl _ _ 39 rfl (w.heap.size + 1) 3 i0 _ 1 8 Tryz.underlying39 hii hz0 hz1 hz2 rfl (by decide) (.slice s k c) k ((hopL k).flatMap iL14) rfl OA.out ⟨wr.heap.size, 0, none⟩ 1 1 [.int .i64 (100 + (k : Int))] rfl rfl NC.out (i_one14 (100 + (k : Int))) (by unfold maxLen; omega) (by omega) WB.out ?_)
      intro v3 w5 h2 h3 _ hat
      obtain ⟨s3, c3, hv3, -⟩ := own_form h2
      subst hv3
      have O3 : Hid (w5.ownsRow (w.heap.size + 1) 3 1 (.slice s3 (k + 1) c3) (k + 1) ((hopL (k + 1)).flatMap iL14)) := Lib.hid (by rw [hopL_succ, List.flatMap_append]; exact h2)
      have B3 : Hid (Below W0.heap.size W0 w5) := Lib.hid (BA.out.trans ((kept_gr h3).below BA.out.size fun g hg => by have := own_form_le OA.out g hg; have h1 := SZ0.out; omega))
      clear h2 h3 hat OA NC BA
      go_wp2_with fail
      exact ⟨⟨k + 1, s3, c3, by omega, by go_num, rfl, O3, B3⟩, by simp [intOf]; omega⟩
    · obtain rfl : k = n := by omega
      have d0 : decide ((k : Int) < (k : Int)) = false := by simp
      have O1 := Lib.hid OW.out
      have B1 := Lib.hid BV.out
      clear OW BV
      go_wp2_with ((with_reducible refine halt_at (X := .store 42 (.tmp 2) (.tmp 19)) ?_ ?_); (· rfl))
      unfold Halt
      obtain ⟨w2, hw2, q2, hb2, hz2⟩ := box1 wr #[.bool false, .slice s k c] 121
      rw [← hw2]
      obtain ⟨sgb, hsgb⟩ : ∃ b, b = wr.heap.size := ⟨_, rfl⟩
      rw [← hsgb] at q2 ⊢
      have Q2 := Lib.hid q2
      have O2 := Lib.hid (own_below O1.out hb2)
      have B2 := Lib.hid (below_on B1.out hb2)
      have Q02 := Lib.hid ((B2.out.block _ (row_lt Q0.out)).trans Q0.out)
      have LSG : Hid (w.heap.size + 1 ≤ sgb) := Lib.hid (by rw [hsgb]; have h1 := B1.out.size; have h2 := SZ0.out; omega)
      clear hw2 q2 hb2 hz2 hsgb O1 B1
      refine st_row rfl 42 _ _ rfl w.heap.size rfl 42 av0.C (avP sgb).C rfl Q02.out (by kernel_rfl) rfl (AV.one _) ?_
      have Q3 := Lib.hid (setRow_heap _ _ _ (avP sgb).C _ _ Q02.out)
      have K3 := Lib.hid (kept_setRow (w := w2) (F := fun k => k = w.heap.size) w.heap.size (avP sgb).C rfl)
      have LT := Lib.hid (row_lt Q2.out)
      generalize w2.setRow w.heap.size (avP sgb).C = w3 at Q3 K3 ⊢
      go_wp2_with fail
      refine bodyPost_ret (v := .agg (avP sgb).C) (results_cell_row Tryz.results55 _ w3 w.heap.size 42 (avP sgb).C (0, 0) _ rfl Q3.out Tryz.underlying42 rfl sz_avS) rfl ⟨sgb, rfl, ?_, ?_⟩
      · have h2 : Fresh (w.heap.size + 1) w3 (fun W => W.ownsRow (w.heap.size + 1) 3 1 (.slice s k c) k ((hopL k).flatMap iL14)) :=
          (((own_on O2.out).kept K3.out (fun g _ hg e => by have := own_form_le O2.out g hg; omega)).wide fun g hg _ => own_form_le O2.out g hg)
        have h1 : Fresh (w.heap.size + 1) w3 (fun W => W.heap[sgb]? = some (.cells #[.bool false, .slice s k c] 121 (0, 0))) := fun V hV => by
          have h3 := LSG.out
          have h4 := LT.out
          have h5 := K3.out.size
          show V.heap[sgb]? = _
          rw [hV sgb h3 (by omega), K3.out.block sgb h4 (by omega)]
          exact Q2.out
        exact ((h1.and h2).imp fun W h => path_at h.1 h.2).wide fun k hk _ => by omega
      · exact (below_on B0.out B2.out).trans (K3.out.below (by have h1 := B0.out.size; have h2 := B2.out.size; omega) (by rintro j rfl; exact Nat.le_refl _))
end Go.Proofs.YtkoidahgbbabiaaGreat
/-
  THE SERVER OF A LAW'S OWN: its functions in short.
-/
namespace Go.Proofs.YtkoidahgbbabiaaGreat
open Go.RowKit
structure LSv (w W : World) (rho : Nat → Role) (sb fb : Nat) (ls : List Pl) (A : Ab) : Prop where
  srv : ∃ S, SrvM W rho sb fb ls S ∧ IsAb S A
  low : ∀ k, rho k ≠ .no → w.heap.size ≤ k
  bel : Below w.heap.size w W
section
variable {w W W' : World} {rho rho' : Nat → Role} {sb fb : Nat} {ls : List Pl} {A A' : Ab}
theorem LSv.step (h : LSv w W rho sb fb ls A) {S' : Sv} (hs : SrvM W' rho' sb fb ls S') (ha : IsAb S' A') (st : Step rho rho' W W') : LSv w W' rho' sb fb ls A' :=
  ⟨⟨S', hs, ha⟩, fun k hk => by
    have hb := h.bel.size
    by_cases hl : k < W.heap.size
    · rw [st.same k hl] at hk; exact h.low k hk
    · omega, h.bel.trans (st.kept.below h.bel.size h.low)⟩
theorem LSv.below (h : LSv w W rho sb fb ls A) (hb : Below W.heap.size W W') : LSv w W' rho sb fb ls A := by
  obtain ⟨S, h1, h2⟩ := h.srv
  exact h.step (h1.below hb) h2 (Step.below hb)
theorem LSv.out {G : Nat → Prop} (h : LSv w W rho sb fb ls A) (hk : Kept G W W') (hG : ∀ k, G k → rho k = .no) (hw : ∀ k, G k → w.heap.size ≤ k) : LSv w W' rho sb fb ls A := by
  obtain ⟨S, h1, h2⟩ := h.srv
  exact ⟨⟨S, h1.out (hk.imp hG), h2⟩, h.low, h.bel.trans (hk.below h.bel.size hw)⟩
theorem LSv.new (h : LSv w W rho sb fb ls A) {k : Nat} (hk : W.heap.size ≤ k) : rho k = .no := by
  obtain ⟨S, h1, -⟩ := h.srv
  exact h1.newNo hk
theorem LSv.old (h : LSv w W rho sb fb ls A) {k : Nat} (hk : k < w.heap.size) : rho k = .no := by
  cases hr : rho k with
  | no => rfl
  | _ => exact absurd (h.low k (by rw [hr]; intro e; cases e)) (by omega)
theorem LSv.few (h : LSv w W rho sb fb ls A) : A.V.length ≤ 16 := by
  obtain ⟨S, h1, h2⟩ := h.srv
  rw [← h2.len]; exact h1.bod.few
theorem LSv.handed {Q : World → Prop} (h : LSv w W rho sb fb ls A) (hq : On (fun k => k < w.heap.size) w Q) : On (fun k => rho k = .no) W Q := fun V hV =>
  hq V fun k hk _ => (hV k (h.old hk) (Nat.lt_of_lt_of_le hk h.bel.size)).trans (h.bel.block k hk)
theorem ls_New (own most : Int) (v : Value) (xs : List Sd) (w W : World) (hB : Below w.heap.size w W) (hxs : SdsAt W v xs) (hc : newCd own xs = 0) :
    Calls Tryz.prog 14 #[.int .i64 own, v, .int .i64 most] W fun e w' => ∃ (rho : Nat → Role) (sb fb : Nat) (ls : List Pl), e = .returned (.tuple #[.pointer (some ⟨sb, 0, none⟩), .int .i64 0]) ∧ LSv w w' rho sb fb ls (newA own most xs) ∧ (∀ k, rho k ≠ .no → W.heap.size ≤ k) ∧ Below W.heap.size W w' := by
  refine (sv_New own most v xs W hxs).mono ?_
  rintro e w' (⟨h0, -⟩ | ⟨-, rho, sb, fb, ls, rfl, hs, hl, hb⟩)
  · exact absurd hc h0
  · exact ⟨rho, sb, fb, ls, rfl, ⟨⟨_, hs, newA_is own most xs⟩, fun k hk => Nat.le_trans hB.size (hl k hk), below_on hB hb⟩, hl, hb⟩
theorem ls_Join (h : LSv w W rho sb fb ls A) {i : Nat} (hi : i < A.V.length) (ht : A.th i = false) :
    Calls Tryz.prog 18 #[.pointer (some ⟨sb, 0, none⟩), .int .i64 i] W fun e w' => e = .returned (.int .i64 0) ∧ LSv w w' rho sb fb ls (A.join i) ∧ Step rho rho W w' := by
  obtain ⟨S, h1, h2⟩ := h.srv
  obtain ⟨m, hm⟩ := h2.at hi
  refine (sv_Join h1 hm ((h2.mem i m hm).1.trans ht)).mono ?_
  rintro e w' ⟨rfl, hs, st⟩
  exact ⟨rfl, h.step hs (h2.join hi) st, st⟩
theorem ls_Join_have (h : LSv w W rho sb fb ls A) {i : Nat} (hi : i < A.V.length) (ht : A.th i = true) :
    Calls Tryz.prog 18 #[.pointer (some ⟨sb, 0, none⟩), .int .i64 i] W fun e w' => e = .returned (.int .i64 5) ∧ W = w' := by
  obtain ⟨S, h1, h2⟩ := h.srv
  obtain ⟨m, hm⟩ := h2.at hi
  exact sv_Join_have h1 hm ((h2.mem i m hm).1.trans ht)
theorem ls_There (h : LSv w W rho sb fb ls A) {i : Nat} (hi : i < A.V.length) : Calls Tryz.prog 28 #[.pointer (some ⟨sb, 0, none⟩), .int .i64 i] W fun e w' => e = .returned (.bool (A.th i)) ∧ W = w' := by
  obtain ⟨S, h1, h2⟩ := h.srv
  obtain ⟨m, hm⟩ := h2.at hi
  rw [← (h2.mem i m hm).1]
  exact sv_There h1 hm
def PsOn (rho : Nat → Role) (W : World) (s : Option Addr) (c : Nat) (L : List Pf) : Prop := On (fun k => rho k = .no) W fun W => PsAt W (.slice s L.length c) L
def Ab.updI (A : Ab) (n : Int) (kind : Int) (gone nets : List Pf) (a : At) : Ab := if (0 ≤ n ∧ n < (A.V.length : Int)) ∧ A.th n.toNat = true then A.upd n.toNat kind gone nets a else A
theorem ls_Update (h : LSv w W rho sb fb ls A) {i : Nat} (hi : i < A.V.length) (ht : A.th i = true) (x : Ms) (hx : On (fun k => rho k = .no) W (fun W => MsAt W x)) (hg : GoodA x.a) (hz : x.gone.length + x.nets.length ≤ 656) :
    Calls Tryz.prog 20 #[.pointer (some ⟨sb, 0, none⟩), .int .i64 i, x.m.V] W fun e w' => ∃ (rho' : Nat → Role) (s : Option Addr) (c : Nat), e = .returned (.tuple #[.slice s (A.updR i x.m.kind x.gone x.nets x.a).2.1.length c, .int .i64 (A.updR i x.m.kind x.gone x.nets x.a).1]) ∧
      LSv w w' rho' sb fb ls (A.upd i x.m.kind x.gone x.nets x.a) ∧ Step rho rho' W w' ∧ PsOn rho' w' s c (A.updR i x.m.kind x.gone x.nets x.a).2.1 := by
  obtain ⟨S, h1, h2⟩ := h.srv
  obtain ⟨m, hm⟩ := h2.at hi
  have e : updP S.own S.most m.R x.m.kind x.gone x.nets x.a = A.updR i x.m.kind x.gone x.nets x.a := by
    unfold Ab.updR
    rw [h2.own, h2.most, (h2.get hm).2]
  have hU := sv_Update h1 hm ((h2.mem i m hm).1.trans ht) x hx hg hz
  rw [e] at hU
  refine hU.mono ?_
  rintro e w' ⟨rho', v, rfl, hs, st, hp⟩
  obtain ⟨s, c, rfl, -⟩ := id hp.self
  exact ⟨rho', s, c, rfl, h.step hs (h2.upd hm ..) st, st, hp⟩
theorem ls_Update_off (h : LSv w W rho sb fb ls A) {i : Nat} (hi : i < A.V.length) (ht : A.th i = false) (x : MV) :
    Calls Tryz.prog 20 #[.pointer (some ⟨sb, 0, none⟩), .int .i64 i, x.V] W fun e w' => e = .returned (.tuple #[.slice none 0 0, .int .i64 7]) ∧ Below W.heap.size W w' := by
  obtain ⟨S, h1, h2⟩ := h.srv
  obtain ⟨m, hm⟩ := h2.at hi
  exact sv_Update_off h1 hm ((h2.mem i m hm).1.trans ht) x
theorem ls_Update_no (h : LSv w W rho sb fb ls A) {n : Int} (hn : ¬ (0 ≤ n ∧ n < (A.V.length : Int))) (x : MV) : Calls Tryz.prog 20 #[.pointer (some ⟨sb, 0, none⟩), .int .i64 n, x.V] W fun e w' => e = .returned (.tuple #[.slice none 0 0, .int .i64 1]) ∧ Below W.heap.size W w' := by
  obtain ⟨S, h1, h2⟩ := h.srv
  exact sv_Update_no h1 (by rw [h2.len]; exact hn) x
theorem ls_UpdateI (h : LSv w W rho sb fb ls A) (n : Int) (x : Ms) (hx : On (fun k => rho k = .no) W (fun W => MsAt W x)) (hg : GoodA x.a) (hz : x.gone.length + x.nets.length ≤ 656) :
    Calls Tryz.prog 20 #[.pointer (some ⟨sb, 0, none⟩), .int .i64 n, x.m.V] W fun e w' => ∃ (rho' : Nat → Role) (v : Value) (c : Int), e = .returned (.tuple #[v, .int .i64 c]) ∧ LSv w w' rho' sb fb ls (A.updI n x.m.kind x.gone x.nets x.a) ∧ Step rho rho' W w' := by
  by_cases hn : 0 ≤ n ∧ n < (A.V.length : Int)
  · obtain ⟨i, rfl⟩ := Int.eq_ofNat_of_zero_le hn.1
    have hi : i < A.V.length := by omega
    cases ht : A.th i with
    | true =>
      refine (ls_Update h hi ht x hx hg hz).mono ?_
      rintro e w' ⟨rho', s, c, rfl, hl, st, -⟩
      refine ⟨rho', _, _, rfl, ?_, st⟩
      unfold Ab.updI
      rw [if_pos ⟨hn, by simpa using ht⟩]
      exact hl
    | false =>
      refine (ls_Update_off h hi ht x.m).mono ?_
      rintro e w' ⟨rfl, hb⟩
      refine ⟨rho, _, _, rfl, ?_, Step.below hb⟩
      unfold Ab.updI
      rw [if_neg (by rintro ⟨-, h2⟩; simp at h2; rw [ht] at h2; cases h2)]
      exact h.below hb
  · refine (ls_Update_no h hn x.m).mono ?_
    rintro e w' ⟨rfl, hb⟩
    refine ⟨rho, _, _, rfl, ?_, Step.below hb⟩
    unfold Ab.updI
    rw [if_neg (fun h2 => hn h2.1)]
    exact h.below hb
theorem ls_Leave (h : LSv w W rho sb fb ls A) {i : Nat} (hi : i < A.V.length) (ht : A.th i = true) :
    Calls Tryz.prog 24 #[.pointer (some ⟨sb, 0, none⟩), .int .i64 i] W fun e w' => ∃ (rho' : Nat → Role) (s : Option Addr) (c : Nat) (L : List Pf), e = .returned (.tuple #[.slice s L.length c, .int .i64 0]) ∧ L.Pairwise plt ∧ (∀ p, p ∈ L ↔ (getL (A.R i) p).isSome = true) ∧ LSv w w' rho' sb fb ls (A.leave i) ∧ Step rho rho' W w' ∧ PsOn rho' w' s c L := by
  obtain ⟨S, h1, h2⟩ := h.srv
  obtain ⟨m, hm⟩ := h2.at hi
  refine (sv_Leave h1 hm ((h2.mem i m hm).1.trans ht)).mono ?_
  rintro e w' ⟨rho', s, c, L, rfl, hp, hL, hs, st, ho⟩
  rw [← (h2.get hm).2] at hL
  exact ⟨rho', s, c, L, rfl, hp, hL, h.step hs (h2.leave i L hL) st, st, ho⟩
theorem ls_Leave_off (h : LSv w W rho sb fb ls A) {i : Nat} (hi : i < A.V.length) (ht : A.th i = false) : Calls Tryz.prog 24 #[.pointer (some ⟨sb, 0, none⟩), .int .i64 i] W fun e w' => e = .returned (.tuple #[.slice none 0 0, .int .i64 4]) ∧ W = w' := by
  obtain ⟨S, h1, h2⟩ := h.srv
  obtain ⟨m, hm⟩ := h2.at hi
  exact sv_Leave_off h1 hm ((h2.mem i m hm).1.trans ht)
theorem ls_Best (h : LSv w W rho sb fb ls A) {i : Nat} (hi : i < A.V.length) (p : Pf) (hp : KOk p) :
    Calls Tryz.prog 27 #[.pointer (some ⟨sb, 0, none⟩), .int .i64 i, .agg #[.int .u32 p.1, .int .i64 p.2]] W (BestPost (A.best i p) p W) := by
  obtain ⟨S, h1, h2⟩ := h.srv
  obtain ⟨m, hm⟩ := h2.at hi
  rw [← h2.best i p (by rw [h2.len]; exact hi)]
  exact sv_Best h1 hm p hp
end
end Go.Proofs.YtkoidahgbbabiaaGreat
/-
  THE DOCUMENT'S EXAMPLE OF SERVERS.
-/
namespace Go.Proofs.YtkoidahgbbabiaaGreat
open Go.RowKit
def OldOf (w V : World) : Prop := ∀ k, k < w.heap.size → V.heap[k]? = w.heap[k]?
theorem OldOf.cell {w V : World} (h : OldOf w V) {a : Addr} {c : Value} (hc : w.cell? a = some c) : V.cell? a = some c := by
  rw [World.cell?_of_block (h a.block (World.block_lt_of_cell? w a hc))]; exact hc
theorem slat_old {α : Type} {w V : World} {k : Nat} {R R' : α → List Value → Prop} {v : Value} {xs : List α} (h : SlAt w k R v xs) (ho : OldOf w V) (hR : ∀ x cs, R x cs → R' x cs) : SlAt V k R' v xs := by
  obtain ⟨sa, cap, h1, h2, h3, h4⟩ := h
  refine ⟨sa, cap, h1, h2, h3, fun h0 => ?_⟩
  obtain ⟨b, off, h5, h6⟩ := h4 h0
  refine ⟨b, off, h5, fun i x hx => ?_⟩
  obtain ⟨cs, c1, c2, c3⟩ := h6 i x hx
  exact ⟨cs, c1, hR _ _ c2, fun j c hc => ho.cell (c3 j c hc)⟩
theorem atl_old {w V : World} {a : At} {vp vc vo : Value} (h : AtL w a vp vc vo) (ho : OldOf w V) : AtL V a vp vc vo :=
  ⟨slat_old h.1 ho fun s cs hs => by obtain ⟨u, h1, h2⟩ := hs; exact ⟨u, h1, slat_old h2 ho fun _ _ h => h⟩, slat_old h.2.1 ho fun _ _ h => h, slat_old h.2.2 ho fun s cs hs => by obtain ⟨u, h1, h2, h3⟩ := hs; exact ⟨u, h1, h2, slat_old h3 ho fun _ _ h => h⟩⟩
theorem avat_old {w V : World} {a : At} {v : AV} (h : AvAt w a v) (ho : OldOf w V) : AvAt V a v := by
  obtain ⟨ps, pc, cs, cc, os, oc, rfl, h⟩ := h
  exact ⟨ps, pc, cs, cc, os, oc, rfl, atl_old h ho⟩
theorem msat_old {w V : World} {x : Ms} (h : MsAt w x) (ho : OldOf w V) : MsAt V x := ⟨slat_old h.gone ho fun _ _ h => h, slat_old h.nets ho fun _ _ h => h, avat_old h.a ho⟩
section
variable {w W : World} {rho : Nat → Role} {sb fb : Nat} {ls : List Pl} {A : Ab}
theorem LSv.oldOf (h : LSv w W rho sb fb ls A) {V : World} (hV : ∀ k, rho k = .no → k < W.heap.size → V.heap[k]? = W.heap[k]?) : OldOf w V := fun k hk => (hV k (h.old hk) (Nat.lt_of_lt_of_le hk h.bel.size)).trans (h.bel.block k hk)
theorem LSv.ms (h : LSv w W rho sb fb ls A) {x : Ms} (hx : MsAt w x) : On (fun k => rho k = .no) W fun W => MsAt W x := fun _ hV => msat_old hx (h.oldOf hV)
theorem LSv.ps (h : LSv w W rho sb fb ls A) {v : Value} {ps : List Pf} (hx : PsAt w v ps) : On (fun k => rho k = .no) W fun W => PsAt W v ps := fun _ hV => slat_old hx (h.oldOf hV) fun _ _ h => h
theorem LSv.fresh {W' : World} {Q : World → Prop} (h : LSv w W rho sb fb ls A) (hq : Fresh W.heap.size W' Q) : On (fun k => rho k = .no) W' Q := hq.wide fun _ hk _ => h.new hk
end
abbrev msN (s : Option Addr) (c : Nat) (a : AV) (p : Pf) (t : At) : Ms := ⟨⟨2, 0, 0, 0, none, 0, 0, none, 0, 0, a, s, 1, c, 0, 0, ⟨#[]⟩⟩, [], [p], t⟩
theorem new_one (W : World) (x : Pf) (T : TypeId) (hx : OkP x) : PsAt (W.alloc (.cells #[.int .u32 x.1, .int .i64 x.2] T)) (.slice (some ⟨W.heap.size, 0, none⟩) 1 1) [x] := by
  refine ⟨_, 1, rfl, Nat.le_refl _, by simp [maxLen], fun _ => ⟨W.heap.size, 0, rfl, fun i z hz => ?_⟩⟩
  match i, hz with
  | 0, hz =>
    simp at hz
    subst hz
    refine ⟨encP x, rfl, ⟨rfl, hx⟩, fun j c hc => ?_⟩
    rw [row_cell (heap_alloc_new W _)]
    match j, hc with
    | 0, hc => simpa [encP] using hc
    | 1, hc => simpa [encP] using hc
theorem good_atP (n : Nat) (hn : n ≤ 100) : GoodA (atP n) := by
  refine ⟨?_, ?_, ?_⟩
  · have : (hopL n).length = n := by simp [hopL]
    simp only [atP, hopsN, this]
    simp
    omega
  · refine ⟨?_, ?_, ?_, ?_, ?_, ?_, ?_⟩ <;> simp [atP, I64r]
  · refine ⟨?_, ?_, ?_, ?_, ?_⟩ <;> simp [atP, hopL, SgSz] <;> omega
theorem sds_own {w : World} {B n : Nat} {s : Option Addr} {c : Nat} (h : w.ownsRow B 75 2 (.slice s n c) n ((sdsN n).flatMap sdL)) (hn : n ≤ 16 := by decide) : SdsAt w (.slice s n c) (sdsN n) := by
  have e := sdsN_len n
  have h3 : w.ownsRow B 75 2 (.slice s n c) (sdsN n).length ((sdsN n).flatMap sdL) := by rw [e]; exact h
  have := own_slat (C := sdL) (fun _ => rfl) h3
  refine this.imp fun y cs hy hc => ⟨hc, ?_⟩
  obtain ⟨i, hi, rfl⟩ := List.mem_map.1 hy
  have := List.mem_range.1 hi
  unfold I64r; simp only; omega
def hA0 : Ab := newA 65000 9 (sdsN 3)
def hA1 : Ab := ((hA0.join 0).join 1).join 2
def hA2 : Ab := hA1.upd 0 2 [] [netP 9] (atP 2)
def hA3 : Ab := hA2.upd 1 2 [] [netP 9] (atP 1)
def hA4 : Ab := hA3.leave 1
theorem one_fresh (W : World) (x : Pf) (T : TypeId) (hx : OkP x) : Fresh W.heap.size (W.alloc (.cells #[.int .u32 x.1, .int .i64 x.2] T)) (fun V => PsAt V (.slice (some ⟨W.heap.size, 0, none⟩) 1 1) [x]) := fun V hV => by
  have h := new_one W x T hx
  have q : V.heap[W.heap.size]? = some (.cells #[.int .u32 x.1, .int .i64 x.2] T (0, 0)) := by
    rw [hV _ (Nat.le_refl _) (by simp)]; exact heap_alloc_new W _
  refine ⟨_, 1, rfl, Nat.le_refl _, by simp [maxLen], fun _ => ⟨W.heap.size, 0, rfl, fun i z hz => ?_⟩⟩
  match i, hz with
  | 0, hz =>
    simp at hz
    subst hz
    refine ⟨encP x, rfl, ⟨rfl, hx⟩, fun j c hc => ?_⟩
    rw [row_cell q]
    match j, hc with
    | 0, hc => simpa [encP] using hc
    | 1, hc => simpa [encP] using hc
theorem hd_upd {w W : World} {rho : Nat → Role} {sb fb : Nat} {ls : List Pl} {A : Ab} (h : LSv w W rho sb fb ls A) {i n : Nat} (hi : i < A.V.length) (ht : A.th i = true) (s : Option Addr) (c b : Nat) (hs : On (fun k => rho k = .no) W (fun W => PsAt W (.slice s 1 c) [netP 9])) (ha : On (fun k => rho k = .no) W (fun W => AvAt W (atP n) (avP b))) (hn : n ≤ 100) {R : Rts} (r : A.updR i 2 [] [netP 9] (atP n) = (0, [netP 9], R)) :
    Calls Tryz.prog 20 #[.pointer (some ⟨sb, 0, none⟩), .int .i64 i, (msN s c (avP b) (netP 9) (atP n)).m.V] W fun e w' => ∃ (rho' : Nat → Role) (s' : Option Addr) (c' : Nat), e = .returned (.tuple #[.slice s' 1 c', .int .i64 0]) ∧ LSv w w' rho' sb fb ls (A.upd i 2 [] [netP 9] (atP n)) ∧ Step rho rho' W w' := by
  have hU := ls_Update h hi ht (msN s c (avP b) (netP 9) (atP n)) (fun V hV => ⟨SlAt.nil, hs V hV, ha V hV⟩) (good_atP n hn) (by simp)
  refine hU.mono ?_
  rintro e w' ⟨rho', s', c', rfl, hl, st, -⟩
  have e2 : A.updR i (msN s c (avP b) (netP 9) (atP n)).m.kind (msN s c (avP b) (netP 9) (atP n)).gone (msN s c (avP b) (netP 9) (atP n)).nets (msN s c (avP b) (netP 9) (atP n)).a = (0, [netP 9], R) := r
  exact ⟨rho', s', c', by rw [e2]; rfl, hl, st⟩
theorem setOf_one (a : Pf) : setOf [a] = [a] := setOf_is (by simp [Srt]) (fun p => by simp)
theorem h_upd (n : Nat) (hn : passB (atP n).path 65000 = false) : updP 65000 9 [] 2 [] [netP 9] (atP n) = (0, [netP 9], [(netP 9, atP n)]) := by
  have h1 : saidP [] [netP 9] = [netP 9] := setOf_one _
  have h2 : netsP 65000 [netP 9] (atP n) = [netP 9] := by unfold netsP; rw [hn]; exact setOf_one _
  unfold updP
  rw [h1, h2]
  rfl
theorem h_r1 : hA1.updR 0 2 [] [netP 9] (atP 2) = (0, [netP 9], [(netP 9, atP 2)]) := h_upd 2 (by decide +kernel)
theorem hA2_is : hA2 = hA1.turn hA1.bl (setV hA1.V 0 [(netP 9, atP 2)]) := by
  unfold hA2 Ab.upd
  rw [h_r1]
  rfl
theorem h_r2 : hA2.updR 1 2 [] [netP 9] (atP 1) = (0, [netP 9], [(netP 9, atP 1)]) := by
  rw [hA2_is]
  exact h_upd 1 (by decide +kernel)
theorem hA3_is : hA3 = hA2.turn hA2.bl (setV hA2.V 1 [(netP 9, atP 1)]) := by
  unfold hA3 Ab.upd
  rw [h_r2]
  rfl
theorem hA3_V : hA3.V = [(65001, 1, [(netP 9, atP 2)]), (65002, 2, [(netP 9, atP 1)]), (65003, 3, [])] := by
  rw [hA3_is, hA2_is]; rfl
theorem hA3_th : hA3.th 1 = true := by rw [hA3_is, hA2_is]; rfl
theorem hA2_th : hA2.th 1 = true := by rw [hA2_is]; rfl
theorem hA2_len : hA2.V.length = 3 := by rw [hA2_is]; rfl
theorem hA3_best : hA3.best 2 (netP 9) = some (1, atP 1) := by
  unfold Ab.best
  rw [hA3_V]
  have e : hA3.own = 65000 ∧ hA3.bl = fun _ => false := by rw [hA3_is, hA2_is]; exact ⟨rfl, rfl⟩
  rw [e.1, e.2]
  rfl
theorem hA4_best : hA4.best 2 (netP 9) = some (0, atP 2) := by
  unfold Ab.best hA4 Ab.leave Ab.turn Ab.away
  simp only
  rw [hA3_V]
  have e : hA3.own = 65000 ∧ hA3.bl = fun _ => false := by rw [hA3_is, hA2_is]; exact ⟨rfl, rfl⟩
  rw [e.1, e.2]
  rfl
theorem hA4_len : hA4.V.length = 3 := by
  unfold hA4 Ab.leave Ab.turn Ab.away
  simp only
  rw [hA3_V]; rfl
set_option maxHeartbeats 6400000 in
set_option maxRecDepth 100000 in
theorem law_head (w : World) : Calls Tryz.prog 13 #[] w fun e w' => e = .returned (.bool true) ∧ Below w.heap.size w w' := by
  have n9 := Lib.hid (l_net14 9 (by decide))
  go_enter Tryz.func13, Tryz.ntmps13
  go_wp2_with fail
  refine (l_sides14 3 (by decide) w).mono ?_
  rintro e w1 ⟨s1, c1, rfl, ow, hb⟩
  have NW := Lib.hid (ls_New 65000 9 (.slice s1 3 c1) (sdsN 3) w w1 hb (sds_own ow) (by decide +kernel))
  clear ow hb
  go_wp2_with fail
  refine NW.out.mono ?_
  rintro e w2 ⟨rho, sb, fb, ls, rfl, L0, -, -⟩
  have L0 : Hid (LSv w w2 rho sb fb ls hA0) := Lib.hid L0
  clear NW
  go_wp2_with fail
  refine wp_loop_rounds 4 ?_
  rw [rounds_succ]
  go_wp2_with fail
  refine (ls_Join L0.out (i := 0) (by decide +kernel) rfl).mono ?_
  rintro e w3 ⟨rfl, L1, -⟩
  have L1 := Lib.hid L1
  clear L0
  go_wp2_with fail
  rw [rounds_succ]
  go_wp2_with fail
  refine (ls_Join L1.out (i := 1) (by decide +kernel) rfl).mono ?_
  rintro e w4 ⟨rfl, L2, -⟩
  have L2 := Lib.hid L2
  clear L1
  go_wp2_with fail
  rw [rounds_succ]
  go_wp2_with fail
  refine (ls_Join L2.out (i := 2) (by decide +kernel) rfl).mono ?_
  rintro e w5 ⟨rfl, L3, -⟩
  have L3 : Hid (LSv w w5 rho sb fb ls hA1) := Lib.hid L3
  clear L2
  go_wp2_with fail
  rw [rounds_succ]
  go_wp2_with fail
  refine wp_loop_rounds 3 ?_
  rw [rounds_succ]
  go_wp2_with fail
  refine (n9.out w5).mono ?_
  rintro e w6 ⟨rfl, hb6⟩
  have L4 := Lib.hid (L3.out.below hb6)
  clear hb6 L3
  go_wp2_with fail
  obtain ⟨W7, hW7⟩ : ∃ W7, W7 = w6.alloc (.cells #[.int .u32 (netP 9).1, .int .i64 (netP 9).2] 53) := ⟨_, rfl⟩
  have hb7 : Below w6.heap.size w6 W7 := by rw [hW7]; exact (Below.refl _ _).alloc (Nat.le_refl _) _
  have P7 := one_fresh w6 (netP 9) 53 (netP_ok (by decide))
  rw [← hW7] at P7 ⊢
  have O7 := Lib.hid (L4.out.fresh P7)
  have L5 := Lib.hid (L4.out.below hb7)
  clear hW7 hb7 P7 L4
  refine (l_path14 2 (by decide) W7).mono ?_
  rintro e w8 ⟨b8, rfl, fr, hb8⟩
  have A8 := Lib.hid (L5.out.fresh fr)
  have O8 := Lib.hid (O7.out.below hb8)
  have L6 := Lib.hid (L5.out.below hb8)
  clear fr hb8 O7 L5
  go_wp2_with fail
  refine (hd_upd L6.out (i := 0) (by decide +kernel) rfl _ _ _ O8.out A8.out (by decide) h_r1).mono ?_
  rintro e w9 ⟨rho9, s9, c9, rfl, L7, st9⟩
  have L7 : Hid (LSv w w9 rho9 sb fb ls hA2) := Lib.hid L7
  clear O8 A8 L6 st9
  go_wp2_with fail
  rw [rounds_succ]
  go_wp2_with fail
  refine (n9.out w9).mono ?_
  rintro e w10 ⟨rfl, hb10⟩
  have L8 := Lib.hid (L7.out.below hb10)
  clear hb10 L7
  go_wp2_with fail
  obtain ⟨W11, hW11⟩ : ∃ W11, W11 = w10.alloc (.cells #[.int .u32 (netP 9).1, .int .i64 (netP 9).2] 53) := ⟨_, rfl⟩
  have hb11 : Below w10.heap.size w10 W11 := by rw [hW11]; exact (Below.refl _ _).alloc (Nat.le_refl _) _
  have P11 := one_fresh w10 (netP 9) 53 (netP_ok (by decide))
  rw [← hW11] at P11 ⊢
  have O11 := Lib.hid (L8.out.fresh P11)
  have L9 := Lib.hid (L8.out.below hb11)
  clear hW11 hb11 P11 L8
  refine (l_path14 1 (by decide) W11).mono ?_
  rintro e w12 ⟨b12, rfl, fr, hb12⟩
  have A12 := Lib.hid (L9.out.fresh fr)
  have O12 := Lib.hid (O11.out.below hb12)
  have L10 := Lib.hid (L9.out.below hb12)
  clear fr hb12 O11 L9
  go_wp2_with fail
  refine (hd_upd L10.out (i := 1) (by rw [hA2_len]; decide) hA2_th _ _ _ O12.out A12.out (by decide) h_r2).mono ?_
  rintro e w13 ⟨rho13, s13, c13, rfl, L11, -⟩
  have L11 : Hid (LSv w w13 rho13 sb fb ls hA3) := Lib.hid L11
  clear O12 A12 L10
  go_wp2_with fail
  rw [rounds_succ]
  go_wp2_with fail
  refine (n9.out w13).mono ?_
  rintro e w14 ⟨rfl, hb14⟩
  have L12 := Lib.hid (L11.out.below hb14)
  clear hb14 L11
  go_wp2_with fail
  refine (ls_Best L12.out (i := 2) (by rw [hA3_V]; decide) (netP 9) (netP_rgt (by decide)).key).mono ?_
  rintro e w15 (⟨hn, -⟩ | ⟨peer, a, u, hn, rfl, -, -, hb15⟩)
  · rw [hA3_best] at hn; cases hn
  have PE : Hid (peer = 1) := Lib.hid (by rw [hA3_best] at hn; injection hn with hn; injection hn with hn; exact hn.symm)
  have L13 := Lib.hid (L12.out.below hb15)
  clear hn hb15 L12
  go_upto_region 16 with (fail)
  obtain ⟨W16, hW16, q16, hb16, -⟩ := box1 w15 (rtC peer (netP 9) u) 61
  rw [← hW16]
  have cp : W16.cell? ⟨w15.heap.size, 0, none⟩ = some (.int .i64 peer) := row_cell q16 0
  obtain ⟨rb1, hrb1⟩ : ∃ b, b = w15.heap.size := ⟨_, rfl⟩
  rw [← hrb1] at cp ⊢
  have L14 := Lib.hid (L13.out.below hb16)
  have NRB := Lib.hid (L13.out.new (Nat.le_of_eq hrb1.symm))
  clear hW16 q16 hb16 L13 hrb1
  rw [PE.out] at cp
  go_wp2_with fail
  refine (ls_Leave L14.out (i := 1) (by rw [hA3_V]; decide) hA3_th).mono ?_
  rintro e w17 ⟨rho17, s17, c17, LL, rfl, -, -, L15, st, -⟩
  have L15 : Hid (LSv w w17 rho17 sb fb ls hA4) := Lib.hid L15
  have CP := Lib.hid (st.cell cp NRB.out)
  clear st L14 cp
  go_wp2_with fail
  refine (n9.out w17).mono ?_
  rintro e w18 ⟨rfl, hb18⟩
  have L16 := Lib.hid (L15.out.below hb18)
  have CP2 := Lib.hid (cell_below CP.out hb18)
  clear hb18 L15 CP
  go_wp2_with fail
  refine (ls_Best L16.out (i := 2) (by rw [hA4_len]; decide) (netP 9) (netP_rgt (by decide)).key).mono ?_
  rintro e w19 (⟨hn, -⟩ | ⟨peer2, a2, u2, hn, rfl, -, -, hb19⟩)
  · rw [hA4_best] at hn; cases hn
  have PE2 : Hid (peer2 = 0) := Lib.hid (by rw [hA4_best] at hn; injection hn with hn; injection hn with hn; exact hn.symm)
  have L17 := Lib.hid (L16.out.below hb19)
  have CP3 := Lib.hid (cell_below CP2.out hb19)
  clear hn hb19 L16 CP2
  go_upto_region 18 with (fail)
  obtain ⟨W20, hW20, q20, hb20, -⟩ := box1 w19 (rtC peer2 (netP 9) u2) 61
  rw [← hW20]
  have cp1 := cell_below CP3.out hb20
  have cp2 : W20.cell? ⟨w19.heap.size, 0, none⟩ = some (.int .i64 peer2) := row_cell q20 0
  rw [PE2.out] at cp2
  have BB := Lib.hid (L17.out.below hb20).bel
  clear hW20 q20 hb20 L17 CP3
  go_wp2_with fail
  go_ret
  exact ⟨rfl, BB.out⟩
end Go.Proofs.YtkoidahgbbabiaaGreat
/-
  THE LAWS ON SERVERS: which messages are too big; whoever isn't there marks nothing.
-/
namespace Go.Proofs.YtkoidahgbbabiaaGreat
open Go.RowKit
def bigM (x : Ms) : Bool := decide (20 < x.gone.length) || (decide (20 < x.nets.length) || (decide (6 < x.a.path.length) || (decide (40 < x.a.comms.length) || (decide (5 < x.a.others.length) || checkI x.a != 0))))
theorem hops_le : ∀ (p : List Sg) (B : Nat), (∀ s ∈ p, s.2.length ≤ B) → 1 ≤ B → hopsN p ≤ p.length * B
  | [], _, _, _ => by simp [hopsN]
  | s :: p, B, h, hB => by
    have h1 := hops_le p B (fun t ht => h t (List.mem_cons_of_mem _ ht)) hB
    have h2 := h s (List.mem_cons_self ..)
    unfold hopsN
    rw [List.length_cons, Nat.add_mul, Nat.one_mul]
    split <;> omega
theorem bigM_no {x : Ms} (h : bigM x = false) (hz : MsSz x) : GoodA x.a ∧ x.gone.length + x.nets.length ≤ 656 := by
  unfold bigM at h
  simp only [Bool.or_eq_false_iff, decide_eq_false_iff_not] at h
  obtain ⟨h1, h2, h3, -⟩ := h
  refine ⟨⟨?_, hz.rng, hz.a⟩, by omega⟩
  have := hops_le x.a.path 17592186043904 (fun s hs => by have := hz.a.segs s hs; unfold SgSz at this; omega) (by decide)
  have h4 : x.a.path.length * 17592186043904 ≤ 6 * 17592186043904 := Nat.mul_le_mul_right _ (by omega)
  omega
theorem av_Check (a : At) (v : AV) (w : World) (hA : AvAt w a v) : Calls Tryz.prog 60 #[v.V] w fun e w' => e = .returned (.int .i64 (checkI a)) ∧ Below w.heap.size w w' := by
  obtain ⟨vp, vc, vo, e, h⟩ := hA.form
  rw [e]
  exact at_Check a vp vc vo w h
theorem dgt (n k : Nat) {b : Bool} (h : decide (k < n) = b) : decide ((n : Int) > (k : Int)) = b := by
  rw [← h]
  by_cases e : k < n
  · simp [e]
  · simp [e]
set_option maxHeartbeats 6400000 in
set_option maxRecDepth 100000 in
theorem l_big14 (x : Ms) (w : World) (hx : MsAt w x) : Calls Tryz.prog 19 #[x.m.V] w fun e w' => e = .returned (.bool (bigM x)) ∧ Below w.heap.size w w' := by
  obtain ⟨s1, c1, e1, -⟩ := id hx.gone
  obtain ⟨s2, c2, e2, -⟩ := id hx.nets
  obtain ⟨ps, pc, cs, cc, os, oc, ea, -⟩ := id hx.a
  have CK := Lib.hid (fun W (hb : Below w.heap.size w W) => av_Check x.a x.m.a W (hx.a.below hb))
  have G1 : x.m.gn = x.gone.length := by injection e1
  have G2 : x.m.nn = x.nets.length := by injection e2
  have G3 : x.m.a.pn = x.a.path.length := by rw [ea]; rfl
  have G4 : x.m.a.cn = x.a.comms.length := by rw [ea]; rfl
  have G5 : x.m.a.on = x.a.others.length := by rw [ea]; rfl
  have H := Lib.hid (And.intro G1 (And.intro G2 (And.intro G3 (And.intro G4 G5))))
  clear hx e1 e2 ea G1 G2 G3 G4 G5
  go_enter Tryz.func19, Tryz.ntmps19
  go_upto_region 1 with (fail)
  obtain ⟨W0, hW0, q0, hB, -⟩ := box_msg w x.m
  rw [← hW0]
  have c5 : W0.cell? ⟨w.heap.size, 5, none⟩ = some (.slice x.m.gs x.m.gn x.m.gc) := row_cell q0 5
  have c16 : W0.cell? ⟨w.heap.size, 16, none⟩ = some (.slice x.m.ns x.m.nn x.m.nc) := row_cell q0 16
  have c8 : W0.cell? ⟨w.heap.size, 8, none⟩ = some (.slice x.m.a.ps x.m.a.pn x.m.a.pc) := row_cell q0 8
  have c14 : W0.cell? ⟨w.heap.size, 14, none⟩ = some (.slice x.m.a.cs x.m.a.cn x.m.a.cc) := row_cell q0 14
  have c15 : W0.cell? ⟨w.heap.size, 15, none⟩ = some (.slice x.m.a.os x.m.a.on x.m.a.oc) := row_cell q0 15
  have RG := Lib.hid (msg_range q0)
  have B0 := Lib.hid hB
  obtain ⟨mb, hmb⟩ : ∃ mb, mb = w.heap.size := ⟨_, rfl⟩
  rw [H.out.1, ← hmb] at c5
  rw [H.out.2.1, ← hmb] at c16
  rw [H.out.2.2.1, ← hmb] at c8
  rw [H.out.2.2.2.1, ← hmb] at c14
  rw [H.out.2.2.2.2, ← hmb] at c15
  rw [← hmb] at RG ⊢
  have CK0 := Lib.hid (CK.out W0 B0.out)
  clear hW0 hB q0 hmb H CK
  obtain ⟨b1, hb1⟩ : ∃ b, decide (20 < x.gone.length) = b := ⟨_, rfl⟩
  obtain ⟨b2, hb2⟩ : ∃ b, decide (20 < x.nets.length) = b := ⟨_, rfl⟩
  obtain ⟨b3, hb3⟩ : ∃ b, decide (6 < x.a.path.length) = b := ⟨_, rfl⟩
  obtain ⟨b4, hb4⟩ : ∃ b, decide (40 < x.a.comms.length) = b := ⟨_, rfl⟩
  obtain ⟨b5, hb5⟩ : ∃ b, decide (5 < x.a.others.length) = b := ⟨_, rfl⟩
  have BE : Hid (bigM x = (b1 || (b2 || (b3 || (b4 || (b5 || checkI x.a != 0)))))) := Lib.hid (by unfold bigM; rw [hb1, hb2, hb3, hb4, hb5])
  have d1 : decide ((x.gone.length : Int) > 20) = b1 := dgt _ 20 hb1
  have d2 : decide ((x.nets.length : Int) > 20) = b2 := dgt _ 20 hb2
  have d3 : decide ((x.a.path.length : Int) > 6) = b3 := dgt _ 6 hb3
  have d4 : decide ((x.a.comms.length : Int) > 40) = b4 := dgt _ 40 hb4
  have d5 : decide ((x.a.others.length : Int) > 5) = b5 := dgt _ 5 hb5
  clear hb1 hb2 hb3 hb4 hb5
  rcases b1 with _ | _
  · rcases b2 with _ | _
    · rcases b3 with _ | _
      · rcases b4 with _ | _
        · rcases b5 with _ | _
          · go_wp2_with ((with_reducible refine halt_at (X := .load 42 (.tmp 35)) ?_ ?_); (· rfl))
            unfold Halt
            refine ldm_at (by rfl) 42 (.tmp 35) rfl mb 6 rfl x.m.a.C.toList _ RG.out Tryz.underlying42 rfl sz_avS ?_
            go_wp2_with fail
            refine CK0.out.mono ?_
            rintro e w1 ⟨rfl, hb⟩
            have B1 := Lib.hid (below_on B0.out hb)
            clear hb CK0 c5 c16 c8 c14 c15
            go_wp2_with fail
            go_ret
            exact ⟨by rw [BE.out]; rfl, B1.out⟩
          · go_wp2_with fail
            go_ret
            exact ⟨by rw [BE.out]; rfl, B0.out⟩
        · go_wp2_with fail
          go_ret
          exact ⟨by rw [BE.out]; rfl, B0.out⟩
      · go_wp2_with fail
        go_ret
        exact ⟨by rw [BE.out]; rfl, B0.out⟩
    · go_wp2_with fail
      go_ret
      exact ⟨by rw [BE.out]; rfl, B0.out⟩
  · go_wp2_with fail
    go_ret
    exact ⟨by rw [BE.out]; rfl, B0.out⟩
section
variable {w W : World} {rho : Nat → Role} {sb fb : Nat} {ls : List Pl} {A : Ab} {S : Sv}
end
end Go.Proofs.YtkoidahgbbabiaaGreat
/-
  STEPS, HANDED IN: lists of what is done to a server, each with the reach of its message's attributes.
-/
namespace Go.Proofs.YtkoidahgbbabiaaGreat
open Go.RowKit Go.ChangeShapes Go.WideShapes
structure Stp where
  k : Int
  n : Int
  to_ : Int
  on : Bool
  x : Ms
abbrev Stp.C (s : Stp) : Array Value := #[.int .i64 s.k, .int .i64 s.n, .int .i64 s.to_, .bool s.on, .int .i64 s.x.m.kind, .int .i64 s.x.m.as_, .int .i64 s.x.m.hold, .int .u32 s.x.m.id, .slice s.x.m.ks s.x.m.kn s.x.m.kc, .slice s.x.m.gs s.x.m.gn s.x.m.gc,
  .int .i64 s.x.m.a.has, .int .i64 s.x.m.a.origin, .slice s.x.m.a.ps s.x.m.a.pn s.x.m.a.pc, .int .u32 s.x.m.a.hop, .int .i64 s.x.m.a.med, .int .i64 s.x.m.a.loc, .int .i64 s.x.m.a.aggrAs, .int .u32 s.x.m.a.aggrId, .slice s.x.m.a.cs s.x.m.a.cn s.x.m.a.cc, .slice s.x.m.a.os s.x.m.a.on s.x.m.a.oc,
  .slice s.x.m.ns s.x.m.nn s.x.m.nc, .int .i64 s.x.m.fc, .int .i64 s.x.m.fs, .string s.x.m.fd]
structure StpOk (s : Stp) : Prop where
  k : I64r s.k
  n : I64r s.n
  to_ : I64r s.to_
def StpC (W : World) (s : Stp) (cs : List Value) : Prop := cs = s.C.toList ∧ StpOk s ∧ MsAt W s.x
section
variable {H : Type} {enc : TypeId × Value → H} {w : World} {base : Nat} {spare : Nat → Bool} {held : Bool}
set_option maxHeartbeats 1600000 in
set_option maxRecDepth 100000 in
theorem sl_step_sz {f : Nat} {cs : List Value} {x : DataW H × List MemPlace} (h : DataW.trod enc Tryz.prog w base spare held f 48 cs = some x) (hz : Sz Tryz.prog 48 x.1) : ∃ s : Stp, StpC w s cs ∧ MsSz s.x := by
  obtain ⟨xs, n, _, hxe, hl, hxl, hf⟩ := DataW.trod_struct Tryz.underlying48 h
  rw [hxe] at hz
  have hc : Tryz.prog.cellsOf 48 = 24 := by kernel_rfl
  have hc0 : Tryz.prog.cellsOf 3 = 1 := by kernel_rfl
  have hc1 : Tryz.prog.cellsOf 4 = 1 := by kernel_rfl
  have hc2 : Tryz.prog.cellsOf 46 = 20 := by kernel_rfl
  rw [hc] at hl
  match cs, hl with
  | [c0, c1, c2, c3, c4, c5, c6, c7, c8, c9, c10, c11, c12, c13, c14, c15, c16, c17, c18, c19, c20, c21, c22, c23], _ =>
    match xs, hxl with
    | [x0, x1, x2, x3, x4], _ =>
      have e0 := hf 0 _ rfl
      have e1 := hf 1 _ rfl
      have e2 := hf 2 _ rfl
      have e3 := hf 3 _ rfl
      have e4 := hf 4 _ rfl
      simp [hc0, hc1, hc2] at e0 e1 e2 e3 e4
      obtain ⟨k, q0, i0⟩ := sl_i64 e0
      obtain ⟨n, q1, i1⟩ := sl_i64 e1
      obtain ⟨t, q2, i2⟩ := sl_i64 e2
      obtain ⟨b, q3, -⟩ := DataW.trod_bool Tryz.underlying4 e3
      obtain ⟨m, ⟨q4, hm⟩, hz4⟩ := sl_msg_sz e4 (sz_field Tryz.underlying48 hz (j := 4) rfl rfl)
      simp at q0 q1 q2 q3
      subst q0; subst q1; subst q2; subst q3
      refine ⟨⟨k, n, t, b, m⟩, ⟨?_, ⟨i0, i1, i2⟩, hm⟩, hz4⟩
      simp at q4
      obtain ⟨r0, r1, r2, r3, r4, r5, r6, r7, r8, r9, r10, r11, r12, r13, r14, r15, r16, r17, r18, r19⟩ := q4
      subst r0; subst r1; subst r2; subst r3; subst r4; subst r5; subst r6; subst r7; subst r8; subst r9; subst r10; subst r11; subst r12; subst r13; subst r14; subst r15; subst r16; subst r17; subst r18; subst r19
      rfl
abbrev StpsAt (w : World) (v : Value) (xs : List Stp) : Prop := SlAt w 24 (StpC w) v xs
set_option maxRecDepth 100000 in
theorem open_steps_sz {v : Value} {d : DataW H} {p : List MemPlace} {r : Reach} {b0 : Nat} (hv : Value.okWide Tryz.prog w r b0 22 v) (h : DataW.Trod enc Tryz.prog w base spare held 22 v d p) (hz : Sz Tryz.prog 22 d) : ∃ xs : List Stp, StpsAt w v xs ∧ ∀ x ∈ xs, MsSz x.x := by
  obtain ⟨fuel, h⟩ := h
  have hvc : v.cells.toList = [v] := by
    simp only [Value.okWide, Tryz.underlying22] at hv
    cases v <;> first | rfl | (simp [Cell.okWide, Cell.ok, Tryz.underlying22] at hv)
  rw [hvc] at h
  obtain ⟨v', xs, e, hs, _, hx⟩ := open_sl_sz (k := 24) (bs := Tryz.prog.bytesOf 48) (R := StpC w) (S := fun s => MsSz s.x) Tryz.underlying22 (by kernel_rfl) rfl (by decide) (fun _ _ _ h hz => sl_step_sz h hz) h hz
  injection e with e _
  subst e
  exact ⟨xs, hs, hx⟩
end
end Go.Proofs.YtkoidahgbbabiaaGreat
/-
  THE LAWS ON SERVERS, PLAIN: who has come; what a list of messages makes of a server.
-/
namespace Go.Proofs.YtkoidahgbbabiaaGreat
open Go.RowKit
def Ab.say (A : Ab) (s : Stp) : Ab := if bigM s.x then A else A.updI s.n s.x.m.kind s.x.gone s.x.nets s.x.a
def Ab.says (A : Ab) (xs : List Stp) : Ab := xs.foldl Ab.say A
structure SameTh (A B : Ab) : Prop where
  len : B.V.length = A.V.length
  th : B.th = A.th
  own : B.own = A.own
  most : B.most = A.most
  bl : B.bl = A.bl
theorem SameTh.refl (A : Ab) : SameTh A A := ⟨rfl, rfl, rfl, rfl, rfl⟩
theorem SameTh.trans {A B C : Ab} (h : SameTh A B) (k : SameTh B C) : SameTh A C := ⟨k.len.trans h.len, k.th.trans h.th, k.own.trans h.own, k.most.trans h.most, k.bl.trans h.bl⟩
theorem same_upd (A : Ab) (i : Nat) (kind : Int) (gone nets : List Pf) (a : At) : SameTh A (A.upd i kind gone nets a) := by
  unfold Ab.upd
  split
  · exact ⟨setV_len .., rfl, rfl, rfl, rfl⟩
  · exact SameTh.refl A
theorem same_updI (A : Ab) (n : Int) (kind : Int) (gone nets : List Pf) (a : At) : SameTh A (A.updI n kind gone nets a) := by
  unfold Ab.updI
  split
  · exact same_upd ..
  · exact SameTh.refl A
theorem nodup_len {α : Type} [DecidableEq α] {xs ys : List α} (hx : xs.Nodup) (hy : ys.Nodup) (h : ∀ p, p ∈ xs ↔ p ∈ ys) : xs.length = ys.length := ((List.perm_ext_iff_of_nodup hx hy).2 h).length_eq
theorem plt_nodup {L : List Pf} (h : L.Pairwise plt) : L.Nodup := by
  rw [List.nodup_iff_pairwise_ne]
  refine h.imp ?_
  intro x y hxy e
  subst e
  exact plt_irrefl x hxy
theorem newA_len (own most : Int) (n : Nat) : (newA own most (sdsN n)).V.length = n := by simp [newA, sdsN]
theorem newCd_sds {n : Nat} (h0 : 0 < n) (h : n ≤ 16) : newCd 65000 (sdsN n) = 0 := by
  refine newCd_ok ?_ (by rw [sdsN_len]; omega) (all_ok fun i x hi hx => ?_)
  · rw [sdsN_len]
    rintro (h1 | h1)
    · revert h1; decide
    · omega
  · rw [sdsN_len] at hi
    rw [sdsN_get hi] at hx
    injection hx with hx
    subst hx
    unfold sdB sysB
    simp
    omega
theorem stp_range {W : World} {g o : Nat} {s : Stp} (h : W.rangeAt g o s.C.toList) : W.rangeAt g (o + 4) s.x.m.C.toList := by
  intro j v hv
  have hj : j < 20 := by have := (List.getElem?_eq_some_iff.1 hv).1; simpa using this
  have h4 := h (4 + j) v (by
    rw [← hv]
    match j, hj with
    | 0, _ => rfl
    | 1, _ => rfl
    | 2, _ => rfl
    | 3, _ => rfl
    | 4, _ => rfl
    | 5, _ => rfl
    | 6, _ => rfl
    | 7, _ => rfl
    | 8, _ => rfl
    | 9, _ => rfl
    | 10, _ => rfl
    | 11, _ => rfl
    | 12, _ => rfl
    | 13, _ => rfl
    | 14, _ => rfl
    | 15, _ => rfl
    | 16, _ => rfl
    | 17, _ => rfl
    | 18, _ => rfl
    | 19, _ => rfl)
  rw [← h4]
  congr 2; omega
theorem stps_at {w : World} {s : Option Addr} {n c : Nat} {xs : List Stp} (h : StpsAt w (.slice s n c) xs) {i : Nat} {x : Stp} (hx : xs[i]? = some x) : ∃ g o, s = some ⟨g, o, none⟩ ∧ w.rangeAt g (o + i * 24) x.C.toList ∧ StpOk x ∧ MsAt w x.x := by
  obtain ⟨s', c', e, h1, h2, h3⟩ := h
  injection e with e _ _
  subst e
  have hi := (List.getElem?_eq_some_iff.1 hx).1
  obtain ⟨b, off, rfl, h4⟩ := h3 (by omega)
  obtain ⟨cs, l, ⟨rfl, hR, hm⟩, hc⟩ := h4 i x hx
  exact ⟨b, off, rfl, fun j v hv => hc j v hv, hR, hm⟩
theorem range_below {W W' : World} {g o : Nat} {l : List Value} (h : W.rangeAt g o l) (hb : Below W.heap.size W W') : W'.rangeAt g o l := fun j v hv => cell_below (h j v hv) hb
end Go.Proofs.YtkoidahgbbabiaaGreat
/-
  THE SERVER: all routes of a participant; in short: its routes, its best ones.
-/
namespace Go.Proofs.YtkoidahgbbabiaaGreat
open Go.RowKit
section
variable {w W : World} {rho : Nat → Role} {sb fb : Nat} {ls : List Pl} {S : Sv} {A : Ab}
theorem ls_Bests (h : LSv w W rho sb fb ls A) {i : Nat} (hi : i < A.V.length) : Calls Tryz.prog 25 #[.pointer (some ⟨sb, 0, none⟩), .int .i64 i] W (BestsPost (A.best i) W) := by
  obtain ⟨S, h1, h2⟩ := h.srv
  obtain ⟨m, hm⟩ := h2.at hi
  have e : A.best i = S.best i := by
    funext p
    exact (h2.best i p (by rw [h2.len]; exact hi)).symm
  rw [e]
  exact sv_Bests h1 hm
end
end Go.Proofs.YtkoidahgbbabiaaGreat
