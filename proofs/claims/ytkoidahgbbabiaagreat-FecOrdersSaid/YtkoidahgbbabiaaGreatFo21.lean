/- Texts of one proof, one behind another. -/
import Derived.Test.YtkoidahgbbabiaaGreatFo20
import Derived.Test.YtkoidahgbbabiaaGreatFo9
import Derived.Test.YtkoidahgbbabiaaGreatFo19
import Derived.Test.YtkoidahgbbabiaaGreatFo5
import Derived.Lib.SliceRun
import Derived.Test.YtkoidahgbbabiaaGreatFo4
import Derived.Test.YtkoidahgbbabiaaGreatFo1
/-
 THE SERVER, PLAIN, IN SHORT: what each participant says, who is there, what is to be told; the best routes follow from what is said.
-/
namespace Go.Proofs.YtkoidahgbbabiaaGreat
open Go.RowKit
abbrev VM := Int × Nat × Rts
def pmV (v : VM) : Pm := ⟨v.1, v.2.1, false, v.2.2, fun _ => false⟩
def bestV (own : Int) (bl : Nat → Bool) (V : List VM) (rc : Nat) (p : Pf) : Option (Int × At) := bestS own bl (V.map pmV) rc p
def offV (own : Int) (bl : Nat → Bool) (V : List VM) (rc : Nat) (p : Pf) : List Cd := offS own bl (V.map pmV) rc p
def RV (S : Sv) : List VM := S.ms.map fun m => (m.as_, m.id, m.R)
theorem RV_len (S : Sv) : (RV S).length = S.ms.length := by simp [RV]
theorem RV_get (S : Sv) (i : Nat) : (RV S)[i]? = (S.ms[i]?).map fun m => (m.as_, m.id, m.R) := by simp [RV]
theorem asOf_V (S : Sv) (rc : Nat) : asOf ((RV S).map pmV) rc = asOf S.ms rc := by
 unfold asOf
 rw [List.getElem?_map, RV_get]
 cases S.ms[rc]? <;> rfl
theorem said_V (S : Sv) (p : Pf) : saidS ((RV S).map pmV) p = saidS S.ms p := saidF_congr (by simp [RV]) fun k m n hm hn => by
 rw [List.getElem?_map, RV_get, hn] at hm
 simp at hm; subst hm
 exact ⟨rfl, rfl⟩
theorem off_V (S : Sv) (rc : Nat) (p : Pf) : offS S.own S.bl S.ms rc p = offV S.own S.bl (RV S) rc p := by
 unfold offV offS
 rw [asOf_V, said_V]
theorem bestIn_V (S : Sv) (rc : Nat) (p : Pf) : bestIn S rc p = bestV S.own S.bl (RV S) rc p := by
 unfold bestIn bestV bestS
 have := off_V S rc p
 unfold offV at this
 rw [this]
theorem offV_congr {own : Int} {bl bl' : Nat → Bool} {V V' : List VM} {rc : Nat} {p : Pf} (hl : V.length = V'.length) (h : ∀ (k : Nat) v v', V[k]? = some v → V'[k]? = some v' → v.1 = v'.1 ∧ v.2.1 = v'.2.1 ∧ getL v.2.2 p = getL v'.2.2 p)
  (hb : ∀ (k : Nat) v a, V[k]? = some v → getL v.2.2 p = some a → bl (k * 16 + rc) = bl' (k * 16 + rc)) : offV own bl V rc p = offV own bl' V' rc p := by
 unfold offV offS
 have e1 : saidS (V.map pmV) p = saidS (V'.map pmV) p := saidF_congr (by simp [hl]) fun k m n hm hn => by
  rw [List.getElem?_map] at hm hn
  cases hv : V[k]? with
  | none => rw [hv] at hm; simp at hm
  | some v =>
   cases hv' : V'[k]? with
   | none => rw [hv'] at hn; simp at hn
   | some v' =>
    rw [hv] at hm; rw [hv'] at hn
    simp at hm hn; subst hm; subst hn
    exact ⟨(h k v v' hv hv').2.1, (h k v v' hv hv').2.2⟩
 have e2 : asOf (V.map pmV) rc = asOf (V'.map pmV) rc := by
  unfold asOf
  rw [List.getElem?_map, List.getElem?_map]
  cases hv : V[rc]? with
  | none =>
   have : V'[rc]? = none := by rw [List.getElem?_eq_none_iff] at hv ⊢; omega
   rw [this]
  | some v =>
   obtain ⟨v', hv'⟩ : ∃ v', V'[rc]? = some v' := ⟨_, List.getElem?_eq_getElem (by rw [← hl]; exact (List.getElem?_eq_some_iff.1 hv).1)⟩
   rw [hv']
   simp [pmV, (h rc v v' hv hv').1]
 rw [← e1, ← e2]
 unfold offL
 refine List.filter_congr fun c hc => ?_
 obtain ⟨k, m, a, hm, hg, rfl⟩ := saidS_mem hc
 rw [List.getElem?_map] at hm
 cases hv : V[k]? with
 | none => rw [hv] at hm; simp at hm
 | some v =>
  rw [hv] at hm; simp at hm; subst hm
  unfold goesC goesB cdOf
  simp only [Int.toNat_natCast]
  rw [hb k v a hv hg]
theorem bestV_congr {own : Int} {bl bl' : Nat → Bool} {V V' : List VM} {rc : Nat} {p : Pf} (hl : V.length = V'.length) (h : ∀ (k : Nat) v v', V[k]? = some v → V'[k]? = some v' → v.1 = v'.1 ∧ v.2.1 = v'.2.1 ∧ getL v.2.2 p = getL v'.2.2 p)
  (hb : ∀ (k : Nat) v a, V[k]? = some v → getL v.2.2 p = some a → bl (k * 16 + rc) = bl' (k * 16 + rc)) : bestV own bl V rc p = bestV own bl' V' rc p := by
 have := offV_congr (own := own) (rc := rc) hl h hb
 unfold offV at this
 unfold bestV bestS
 rw [this]
structure Ab where
 own : Int
 most : Int
 bl : Nat → Bool
 V : List VM
 th : Nat → Bool
 nw : Nat → Pf → Bool
def Ab.best (A : Ab) (i : Nat) (p : Pf) : Option (Int × At) := bestV A.own A.bl A.V i p
def Ab.offs (A : Ab) (i : Nat) (p : Pf) : List Cd := offV A.own A.bl A.V i p
def Ab.R (A : Ab) (i : Nat) : Rts := ((A.V[i]?).map (·.2.2)).getD []
structure IsAb (S : Sv) (A : Ab) : Prop where
 own : S.own = A.own
 most : S.most = A.most
 bl : S.bl = A.bl
 V : RV S = A.V
 mem : ∀ (i : Nat) m, S.ms[i]? = some m → m.there = A.th i ∧ ∀ p, m.news p = A.nw i p
 best : ∀ i p, i < S.ms.length → S.best i p = A.best i p
def Ab.turn (A : Ab) (bl : Nat → Bool) (V : List VM) : Ab := { A with bl := bl, V := V, nw := fun k p => A.nw k p || (A.th k && !sameB (A.best k p) (bestV A.own bl V k p)) }
def setV (V : List VM) (i : Nat) (R : Rts) : List VM := V.modify i fun v => (v.1, v.2.1, R)
def setF {α : Type} (f : Nat → α) (i : Nat) (x : α) (k : Nat) : α := if k = i then x else f k
def Ab.join (A : Ab) (i : Nat) : Ab := { A with th := setF A.th i true, nw := setF A.nw i fun p => A.nw i p || (A.best i p).isSome }
def Ab.hush (A : Ab) (i : Nat) : Ab := { A with nw := setF A.nw i fun _ => false }
def Ab.updR (A : Ab) (i : Nat) (kind : Int) (gone nets : List Pf) (a : At) : Int × List Pf × Rts := updP A.own A.most (A.R i) kind gone nets a
def Ab.upd (A : Ab) (i : Nat) (kind : Int) (gone nets : List Pf) (a : At) : Ab := if (A.updR i kind gone nets a).1 = 0 then A.turn A.bl (setV A.V i (A.updR i kind gone nets a).2.2) else A
def Ab.mark (A : Ab) (i : Nat) (ps : List Pf) : Ab := { A with nw := setF A.nw i fun p => A.nw i p || (decide (p ∈ ps) && rightB p.1 p.2) }
def Ab.block (A : Ab) (i j : Nat) (b : Bool) : Ab := A.turn (setWay A.bl (i * 16 + j) b) A.V
def newA (own most : Int) (xs : List Sd) : Ab := ⟨own, min (max most 0) 256, fun _ => false, xs.map fun x => (x.1, x.2, []), fun _ => false, fun _ _ => false⟩
theorem setF_same {α : Type} (f : Nat → α) (i : Nat) (x : α) : setF f i x i = x := if_pos rfl
theorem setF_other {α : Type} (f : Nat → α) {i k : Nat} (h : k ≠ i) (x : α) : setF f i x k = f k := if_neg h
theorem setV_get (V : List VM) (i : Nat) (R : Rts) (j : Nat) : (setV V i R)[j]? = (V[j]?).map fun v => if j = i then (v.1, v.2.1, R) else v := by
 unfold setV
 simp only [List.getElem?_modify]
 cases V[j]? with
 | none => rfl
 | some m => simp only [Option.map_some, Option.map_eq_map, eq_comm (a := i)]
theorem setV_len (V : List VM) (i : Nat) (R : Rts) : (setV V i R).length = V.length := by unfold setV; simp
theorem RV_setR (S : Sv) (i : Nat) (R : Rts) : RV (setR S i R) = setV (RV S) i R := by
 apply List.ext_getElem?
 intro j
 rw [RV_get, setR_get, setV_get, RV_get]
 cases S.ms[j]? with
 | none => rfl
 | some m => simp only [Option.map_some]; split <;> rfl
theorem RV_modS (S : Sv) (i : Nat) (f : Pm → Pm) (h : ∀ m, (f m).as_ = m.as_ ∧ (f m).id = m.id ∧ (f m).R = m.R) : RV (modS S i f) = RV S := by
 apply List.ext_getElem?
 intro j
 rw [RV_get, modS_get, RV_get]
 cases S.ms[j]? with
 | none => rfl
 | some m =>
  simp only [Option.map_some]
  split
  ·rw [(h m).1, (h m).2.1, (h m).2.2]
  ·rfl
theorem SvKin.RV {S T : Sv} (h : SvKin S T) : RV T = RV S := by
 apply List.ext_getElem?
 intro j
 rw [RV_get, RV_get]
 cases hm : S.ms[j]? with
 | none =>
  have : T.ms[j]? = none := by rw [List.getElem?_eq_none_iff] at hm ⊢; rw [h.len]; exact hm
  rw [this]
 | some m =>
  obtain ⟨n, h1, h2, h3, h4, h5⟩ := h.mem j m hm
  rw [h1]
  simp [h2, h3, h5]
section
variable {S : Sv} {A : Ab}
theorem IsAb.len (h : IsAb S A) : S.ms.length = A.V.length := by rw [← h.V, RV_len]
theorem IsAb.get (h : IsAb S A) {i : Nat} {m : Pm} (hm : S.ms[i]? = some m) : A.V[i]? = some (m.as_, m.id, m.R) ∧ A.R i = m.R := by
 have : A.V[i]? = some (m.as_, m.id, m.R) := by rw [← h.V, RV_get, hm]; rfl
 exact ⟨this, by unfold Ab.R; rw [this]; rfl⟩
theorem IsAb.at (h : IsAb S A) {i : Nat} (hi : i < A.V.length) : ∃ m, S.ms[i]? = some m := ⟨_, List.getElem?_eq_getElem (by rw [h.len]; exact hi)⟩
theorem IsAb.modS (h : IsAb S A) (i : Nat) (f : Pm → Pm) {A' : Ab} (hf : ∀ m, (f m).as_ = m.as_ ∧ (f m).id = m.id ∧ (f m).R = m.R) (e1 : A'.own = A.own) (e2 : A'.most = A.most) (e3 : A'.bl = A.bl) (e4 : A'.V = A.V)
  (e5 : ∀ (k : Nat) m, S.ms[k]? = some m → k ≠ i → A'.th k = A.th k ∧ ∀ p, A'.nw k p = A.nw k p) (e6 : ∀ m, S.ms[i]? = some m → (f m).there = A'.th i ∧ ∀ p, (f m).news p = A'.nw i p) : IsAb (modS S i f) A' := by
 refine ⟨h.own.trans e1.symm, h.most.trans e2.symm, h.bl.trans e3.symm, ?_, ?_, ?_⟩
 ·rw [RV_modS S i f hf, h.V, e4]
 ·intro k m hm
  rw [modS_get] at hm
  cases hk : S.ms[k]? with
  | none => rw [hk] at hm; simp at hm
  | some n =>
   rw [hk] at hm; simp at hm; subst hm
   by_cases e : k = i
   ·subst e
    rw [if_pos rfl]
    exact e6 n hk
   ·rw [if_neg e]
    obtain ⟨h1, h2⟩ := h.mem k n hk
    exact ⟨h1.trans (e5 k n hk e).1.symm, fun p => (h2 p).trans ((e5 k n hk e).2 p).symm⟩
 ·intro k p hk
  rw [modS_len] at hk
  have : A'.best k p = A.best k p := by unfold Ab.best; rw [e1, e3, e4]
  rw [this]
  exact h.best k p hk
theorem IsAb.join (h : IsAb S A) {i : Nat} (hi : i < A.V.length) : IsAb (joinS S i) (A.join i) :=
 h.modS i _ (fun _ => ⟨rfl, rfl, rfl⟩) rfl rfl rfl rfl (fun k m _ hk => ⟨setF_other _ hk _, fun p => by unfold Ab.join; simp only; rw [setF_other _ hk]⟩) (fun m hm => ⟨(setF_same _ _ _).symm, fun p => by
  unfold Ab.join
  simp only
  rw [setF_same, (h.mem i m hm).2 p, h.best i p (by rw [h.len]; exact hi)]⟩)
theorem IsAb.hush (h : IsAb S A) (i : Nat) : IsAb (hushS S i) (A.hush i) :=
 h.modS i _ (fun _ => ⟨rfl, rfl, rfl⟩) rfl rfl rfl rfl (fun k m _ hk => ⟨rfl, fun p => by unfold Ab.hush; simp only; rw [setF_other _ hk]⟩) (fun m hm => ⟨(h.mem i m hm).1, fun p => by
  unfold Ab.hush withNews
  simp only
  rw [setF_same]⟩)
theorem IsAb.turnS (h : IsAb S A) (i : Nat) (R : Rts) (ps : List Pf) (hR : ∀ p, p ∉ ps → getL R p = getL (A.R i) p) : IsAb (turnS (setR S i R) ps) (A.turn A.bl (setV A.V i R)) := by
 have hk := kin_turn ps (setR S i R)
 have hV : RV (Proofs.YtkoidahgbbabiaaGreat.turnS (setR S i R) ps) = setV A.V i R := by rw [hk.RV, RV_setR, h.V]
 have hin : ∀ k q, bestIn (setR S i R) k q = bestV A.own A.bl (setV A.V i R) k q := fun k q => by
  rw [bestIn_V, RV_setR, h.V]
  show bestV S.own S.bl _ k q = _
  rw [h.own, h.bl]
 have hold : ∀ k q, k < S.ms.length → q ∉ ps → A.best k q = bestV A.own A.bl (setV A.V i R) k q := fun k q hkl hq => by
  refine bestV_congr (setV_len ..).symm (fun j v v' hv hv' => ?_) fun _ _ _ _ _ => rfl
  rw [setV_get, hv] at hv'
  simp at hv'; subst hv'
  by_cases e : j = i
  ·subst e
   rw [if_pos rfl]
   refine ⟨rfl, rfl, ?_⟩
   have : A.R j = v.2.2 := by unfold Ab.R; rw [hv]; rfl
   rw [← this]
   exact (hR q hq).symm
  ·rw [if_neg e]; exact ⟨rfl, rfl, rfl⟩
 refine ⟨hk.own.trans h.own, hk.most.trans h.most, hk.bl.trans h.bl, hV, ?_, ?_⟩
 ·intro k n hn
  obtain ⟨m', hm', -⟩ := hk.back hn
  obtain ⟨n', g1, g2, g3, g4, g5, g6⟩ := turnS_news ps _ k m' hm'
  rw [hn] at g1; injection g1 with g1; subst g1
  rw [setR_get] at hm'
  cases hm : S.ms[k]? with
  | none => rw [hm] at hm'; simp at hm'
  | some m =>
   rw [hm] at hm'; simp at hm'
   have e1 : m'.there = m.there := by rw [← hm']; split <;> rfl
   have e2 : m'.news = m.news := by rw [← hm']; split <;> rfl
   obtain ⟨h1, h2⟩ := h.mem k m hm
   refine ⟨g4.trans (e1.trans h1), fun p => ?_⟩
   rw [g6 p, e1, e2, h1, h2 p]
   unfold Ab.turn
   simp only
   have hkl : k < S.ms.length := (List.getElem?_eq_some_iff.1 hm).1
   have hb : (setR S i R).best k p = A.best k p := h.best k p hkl
   rw [hb, hin]
   by_cases hp : p ∈ ps
   ·simp [hp]
   ·have : sameB (A.best k p) (bestV A.own A.bl (setV A.V i R) k p) = true := (sameB_iff _ _).2 (hold k p hkl hp)
    simp [hp, this]
 ·intro k q hkl
  rw [hk.len, setR_len] at hkl
  rw [turnS_best ps _ k q (by rw [setR_len]; exact hkl), hin]
  show _ = bestV A.own A.bl (setV A.V i R) k q
  by_cases hq : q ∈ ps
  ·rw [if_pos hq]
  ·rw [if_neg hq]
   exact (h.best k q hkl).trans (hold k q hkl hq)
theorem setOf_mem {ps : List Pf} {p : Pf} : p ∈ setOf ps ↔ p ∈ ps := (setOf_srt ps).2 p
theorem saidP_mem {gone nets : List Pf} {p : Pf} : p ∈ saidP gone nets ↔ p ∈ gone ∨ p ∈ nets := by
 unfold saidP
 rw [setOf_mem, List.mem_append]
theorem netsP_sub {own : Int} {nets : List Pf} {a : At} {p : Pf} (h : p ∈ netsP own nets a) : p ∈ nets := by
 unfold netsP at h
 split at h
 ·cases h
 ·exact setOf_mem.1 h
theorem updP_keeps {own most : Int} {R : Rts} {kind : Int} {gone nets : List Pf} {a : At} {p : Pf} (hp : p ∉ gone ++ nets) : getL (updP own most R kind gone nets a).2.2 p = getL R p := by
 have h1 : p ∉ saidP gone nets := fun h => hp (List.mem_append.2 (saidP_mem.1 h))
 have h2 : p ∉ netsP own nets a := fun h => hp (List.mem_append_right _ (netsP_sub h))
 unfold updP
 split
 ·split
  ·split
   ·rfl
   ·simp only
    rw [getL_putAll, getL_dropAll, if_neg h2, if_neg h1]
  ·rfl
 ·rfl
theorem IsAb.upd (h : IsAb S A) {i : Nat} {m : Pm} (hm : S.ms[i]? = some m) (kind : Int) (gone nets : List Pf) (a : At) : IsAb (updS S i m kind gone nets a) (A.upd i kind gone nets a) := by
 have e : updP S.own S.most m.R kind gone nets a = A.updR i kind gone nets a := by
  unfold Ab.updR
  rw [h.own, h.most, (h.get hm).2]
 unfold updS Ab.upd
 rw [e]
 split
 ·rw [← turnS_app]
  exact h.turnS i _ _ fun p hp => by
   unfold Ab.updR
   exact updP_keeps hp
 ·exact h
theorem mark1_is (i : Nat) (S : Sv) (p : Pf) (k : Nat) : (mark1 i S p).ms[k]? = (S.ms[k]?).map fun m => if k = i then m.mark p (m.there && rightB p.1 p.2) else m := by
 unfold mark1
 cases hr : rightB p.1 p.2 with
 | true => rw [if_pos rfl, markS_get]
 | false =>
  rw [if_neg (by simp)]
  cases S.ms[k]? with
  | none => rfl
  | some m =>
   simp only [Option.map_some, Bool.and_false]
   split
   ·unfold Pm.mark; simp
   ·rfl
theorem marks_get (i : Nat) : ∀ (ps : List Pf) (S : Sv) (k : Nat) (m : Pm), S.ms[k]? = some m → ∃ n, (marksS S i ps).ms[k]? = some n ∧ n.there = m.there ∧ ∀ q, n.news q = if k = i then (m.news q || (m.there && (decide (q ∈ ps) && rightB q.1 q.2))) else m.news q
 | [], S, k, m, hm => ⟨m, hm, rfl, fun q => by simp⟩
 | p :: ps, S, k, m, hm => by
  have h1 := mark1_is i S p k
  rw [hm] at h1
  simp only [Option.map_some] at h1
  obtain ⟨n, n1, n2, n3⟩ := marks_get i ps (mark1 i S p) k _ h1
  refine ⟨n, n1, ?_, fun q => ?_⟩
  ·rw [n2]; split <;> rfl
  ·rw [n3 q]
   by_cases e : k = i
   ·simp only [e, if_true]
    rw [mark_news]
    show _ = _
    have : (m.mark p (m.there && rightB p.1 p.2)).there = m.there := rfl
    rw [this]
    by_cases eq : q = p
    ·subst eq
     simp only [List.mem_cons, true_or, decide_true, Bool.true_and]
     cases m.news q <;> cases m.there <;> cases rightB q.1 q.2 <;> simp
    ·have : decide (q ∈ p :: ps) = decide (q ∈ ps) := by simp [eq]
     rw [this]
     simp [eq]
   ·simp only [e, if_false]
theorem marks_best (i : Nat) : ∀ (ps : List Pf) (S : Sv), (marksS S i ps).best = S.best
 | [], _ => rfl
 | p :: ps, S => by
  show (marksS (mark1 i S p) i ps).best = S.best
  rw [marks_best i ps]
  unfold mark1
  split <;> rfl
theorem IsAb.mark (h : IsAb S A) {i : Nat} (ht : A.th i = true) (ps : List Pf) : IsAb (marksS S i ps) (A.mark i ps) := by
 have hk := kin_marks i ps S
 refine ⟨hk.own.trans h.own, hk.most.trans h.most, hk.bl.trans h.bl, hk.RV.trans h.V, ?_, ?_⟩
 ·intro k n hn
  obtain ⟨m, hm, -⟩ := hk.back hn
  obtain ⟨n', g1, g2, g3⟩ := marks_get i ps S k m hm
  rw [hn] at g1; injection g1 with g1; subst g1
  obtain ⟨h1, h2⟩ := h.mem k m hm
  refine ⟨g2.trans h1, fun p => ?_⟩
  rw [g3 p]
  unfold Ab.mark
  simp only
  by_cases e : k = i
  ·subst e
   rw [if_pos rfl, setF_same, h2 p, h1, ht, Bool.true_and]
  ·rw [if_neg e, setF_other _ e]
   exact h2 p
 ·intro k p hkl
  rw [marks_best]
  rw [hk.len] at hkl
  exact h.best k p hkl
theorem saidF_none (p : Pf) : ∀ (ms : List Pm) (i : Nat), (∀ m ∈ ms, m.R = []) → saidF p i ms = []
 | [], _, _ => rfl
 | m :: ms, i, h => by
  rw [saidF, saidF_none p ms (i + 1) fun x hx => h x (List.mem_cons_of_mem _ hx)]
  unfold saidOne
  rw [h m (List.mem_cons_self ..)]
  rfl
theorem newA_best (own most : Int) (xs : List Sd) (i : Nat) (p : Pf) : (newA own most xs).best i p = none := by
 unfold Ab.best bestV bestS offS saidS newA
 simp only
 rw [saidF_none p _ 0 fun m hm => by
  obtain ⟨v, hv, rfl⟩ := List.mem_map.1 hm
  obtain ⟨x, hx, rfl⟩ := List.mem_map.1 hv
  rfl]
 rfl
theorem newA_is (own most : Int) (xs : List Sd) : IsAb (newSv own most xs) (newA own most xs) := by
 refine ⟨rfl, rfl, rfl, ?_, ?_, fun i p _ => (newA_best own most xs i p).symm⟩
 ·unfold RV newSv newA
  simp only [List.map_map]
  rfl
 ·intro i m hm
  unfold newSv at hm
  simp only [List.getElem?_map] at hm
  cases hx : xs[i]? with
  | none => rw [hx] at hm; simp at hm
  | some x =>
   rw [hx] at hm; simp at hm; subst hm
   exact ⟨rfl, fun _ => rfl⟩
end
end Go.Proofs.YtkoidahgbbabiaaGreat
/-
 THE LAWS ON SERVERS: so many participants; attributes of so many hops; prefixes.
-/
namespace Go.Proofs.YtkoidahgbbabiaaGreat
open Go.RowKit
def sdsN (n : Nat) : List Sd := (List.range n).map fun (i : Nat) => (((65001 + (i : Int)), i + 1) : Sd)
theorem sdsN_len (n : Nat) : (sdsN n).length = n := by simp [sdsN]
theorem sdsN_succ (n : Nat) : sdsN (n + 1) = sdsN n ++ [((65001 + (n : Int)), n + 1)] := by simp [sdsN, List.range_succ]
theorem sdsN_get {n i : Nat} (h : i < n) : (sdsN n)[i]? = some ((65001 + (i : Int)), i + 1) := by simp [sdsN, h]
theorem info_side : (Tryz.prog.info? 75).map (fun i => (i.zero, i.size, i.bytes)) = some (some (.agg #[.int .i64 0, .int .u32 0]), 2, 16) := by kernel_rfl
theorem sd_one (x : Sd) : ∀ u ∈ sdL x, u.oneCell' = true := by
 intro u hu
 unfold sdL at hu
 simp at hu
 rcases hu with rfl | rfl <;> rfl
set_option maxHeartbeats 1600000 in
set_option maxRecDepth 100000 in
theorem l_sides21 (n : Nat) (hn : n ≤ 16) (w : World) : Calls Tryz.prog 106 #[.int .i64 n] w fun e w' => ∃ (s : Option Addr) (c : Nat), e = .returned (.slice s n c) ∧ w'.ownsRow w.heap.size 75 2 (.slice s n c) n ((sdsN n).flatMap sdL) ∧ Below w.heap.size w w' := by
 obtain ⟨i0, hii, hz0, hz1, hz2⟩ := info_parts info_side
 have O0 : Hid ((w.alloc (.cells #[] 75)).ownsRow w.heap.size 75 2 (.slice (some ⟨w.heap.size, 0, none⟩) 0 0) 0 ((sdsN 0).flatMap sdL)) := Lib.hid (own_empty (Nat.le_refl _))
 have B0 : Hid (Below w.heap.size w (w.alloc (.cells #[] 75))) := Lib.hid ((Below.refl _ _).alloc (Nat.le_refl _) _)
 go_enter Tryz.func106, Tryz.ntmps106
 go_wp2_with fail
 go_loopw [3, 4] (fun t3 t4 wr => ∃ (k : Nat) (s : Option Addr) (c : Nat), k ≤ n ∧ t4 = .int .i64 k ∧ t3 = .slice s k c ∧ Hid (wr.ownsRow w.heap.size 75 2 (.slice s k c) k ((sdsN k).flatMap sdL)) ∧ Hid (Below w.heap.size w wr)) (fun _ t4 _ => n - (intOf t4).toNat)
 case atStart => exact ⟨0, _, 0, by omega, rfl, rfl, O0, B0⟩
 case round =>
  clear O0 B0
  obtain ⟨k, s, c, hk, rfl, rfl, OW, BV⟩ := hrel
  by_cases hkn : k < n
  ·have d0 : decide ((k : Int) < (n : Int)) = true := by simp; omega
   have z1 : IntKind.i64.wrap ((65001 : Int) + (k : Int)) = 65001 + (k : Int) := by rw [IntWalk.i64_in _ (by omega)]
   have z2 : IntKind.i64.wrap ((k : Int) + 1) = (k : Int) + 1 := by rw [IntWalk.i64_in _ (by omega)]
   have z3 : IntKind.u32.wrap ((k : Int) + 1) = (k : Int) + 1 := by unfold IntKind.wrap IntKind.bits IntKind.signed; simp; omega
   obtain ⟨ab, hab⟩ : ∃ ab, ab = wr.heap.size := ⟨_, rfl⟩
   have hal : Below wr.heap.size wr (wr.alloc (.cells #[.int .i64 (65001 + (k : Int)), .int .u32 ((k : Int) + 1)] 75)) := (Below.refl _ _).alloc (Nat.le_refl _) _
   have OA := Lib.hid (own_below OW.out hal)
   have NC := Lib.hid (new_cells wr #[.int .i64 (65001 + (k : Int)), .int .u32 ((k : Int) + 1)] 75)
   have BA := Lib.hid (below_on BV.out hal)
   clear hal OW BV hab
   go_wp2_with (at_builtin; refine wpList_append_own_at _ rfl _ _ 29 rfl w.heap.size 75 i0 _ 2 16 Tryz.underlying29 hii hz0 hz1 hz2 rfl (by decide) (.slice s k c) k ((sdsN k).flatMap sdL) rfl OA.out ⟨wr.heap.size, 0, none⟩ 1 1 [.int .i64 (65001 + (k : Int)), .int .u32 ((k : Int) + 1)] rfl rfl NC.out (sd_one (65001 + (k : Int), k + 1)) (by unfold maxLen; omega) (by omega) (by have := BA.out.size; omega) ?_)
   intro v3 w5 h2 h3 _ hat
   obtain ⟨s3, c3, hv3, -⟩ := own_form h2
   subst hv3
   have O3 : Hid (w5.ownsRow w.heap.size 75 2 (.slice s3 (k + 1) c3) (k + 1) ((sdsN (k + 1)).flatMap sdL)) := Lib.hid (by rw [sdsN_succ, List.flatMap_append]; exact h2)
   have B3 : Hid (Below w.heap.size w w5) := Lib.hid (BA.out.trans ((kept_gr h3).below BA.out.size fun g hg => own_form_le OA.out g hg))
   clear h2 h3 hat OA NC BA
   go_wp2_with fail
   exact ⟨⟨k + 1, s3, c3, by omega, by go_num, rfl, O3, B3⟩, by simp [intOf]; omega⟩
  ·obtain rfl : k = n := by omega
   have d0 : decide ((k : Int) < (k : Int)) = false := by simp
   have O1 := Lib.hid OW.out
   have B1 := Lib.hid BV.out
   clear OW BV
   go_wp2_with fail
   go_ret
   exact ⟨s, c, rfl, O1.out, B1.out⟩
def netP (n : Nat) : Pf := ((n * 16777216 : Nat), 8)
theorem netP_ok {n : Nat} (h : n < 256) : OkP (netP n) := by unfold netP OkP; simp only; omega
set_option maxHeartbeats 400000 in
theorem l_net21 (n : Nat) (h : n < 256) (w : World) : Calls Tryz.prog 49 #[.int .i64 n] w fun e w' => e = .returned (.agg #[.int .u32 (netP n).1, .int .i64 (netP n).2]) ∧ Below w.heap.size w w' := by
 have z1 : IntKind.u32.wrap (n : Int) = n := by unfold IntKind.wrap IntKind.bits IntKind.signed; simp; omega
 go_enter Tryz.func49, Tryz.ntmps49
 go_wp2_with fail
 exact bodyPost_ret (v := .agg #[.int .u32 ((n : Int) * 16777216), .int .i64 8]) (by simp [results, Tryz.results49, go_sem]) rfl ⟨by unfold netP; simp, (Below.refl _ _).alloc (Nat.le_refl _) _⟩
def hopL (n : Nat) : List Int := (List.range n).map fun (i : Nat) => (100 : Int) + (i : Int)
def atP (n : Nat) : At := ⟨14, 0, [(false, hopL n)], 167772161, 0, 0, 0, 0, [], []⟩
end Go.Proofs.YtkoidahgbbabiaaGreat
/-
 THE SERVER OF A LAW'S OWN: its functions in short.
-/
namespace Go.Proofs.YtkoidahgbbabiaaGreat
open Go.RowKit
structure LSv (w W : World) (rho : Nat → Role) (sb fb : Nat) (ls : List Pl) (A : Ab) : Prop where
 srv : ∃ S, SrvM W rho sb fb ls S ∧ IsAb S A
 low : ∀ k, rho k ≠ .no → w.heap.size ≤ k
 bel : Below w.heap.size w W
section
variable {w W W' : World} {rho rho' : Nat → Role} {sb fb : Nat} {ls : List Pl} {A A' : Ab}
theorem LSv.step (h : LSv w W rho sb fb ls A) {S' : Sv} (hs : SrvM W' rho' sb fb ls S') (ha : IsAb S' A') (st : Step rho rho' W W') : LSv w W' rho' sb fb ls A' :=
 ⟨⟨S', hs, ha⟩, fun k hk => by
  have hb := h.bel.size
  by_cases hl : k < W.heap.size
  ·rw [st.same k hl] at hk; exact h.low k hk
  ·omega, h.bel.trans (st.kept.below h.bel.size h.low)⟩
theorem LSv.below (h : LSv w W rho sb fb ls A) (hb : Below W.heap.size W W') : LSv w W' rho sb fb ls A := by
 obtain ⟨S, h1, h2⟩ := h.srv
 exact h.step (h1.below hb) h2 (Step.below hb)
theorem LSv.out {G : Nat → Prop} (h : LSv w W rho sb fb ls A) (hk : Kept G W W') (hG : ∀ k, G k → rho k = .no) (hw : ∀ k, G k → w.heap.size ≤ k) : LSv w W' rho sb fb ls A := by
 obtain ⟨S, h1, h2⟩ := h.srv
 exact ⟨⟨S, h1.out (hk.imp hG), h2⟩, h.low, h.bel.trans (hk.below h.bel.size hw)⟩
theorem LSv.new (h : LSv w W rho sb fb ls A) {k : Nat} (hk : W.heap.size ≤ k) : rho k = .no := by
 obtain ⟨S, h1, -⟩ := h.srv
 exact h1.newNo hk
theorem LSv.old (h : LSv w W rho sb fb ls A) {k : Nat} (hk : k < w.heap.size) : rho k = .no := by
 cases hr : rho k with
 | no => rfl
 | _ => exact absurd (h.low k (by rw [hr]; intro e; cases e)) (by omega)
theorem LSv.few (h : LSv w W rho sb fb ls A) : A.V.length ≤ 16 := by
 obtain ⟨S, h1, h2⟩ := h.srv
 rw [← h2.len]; exact h1.bod.few
theorem LSv.handed {Q : World → Prop} (h : LSv w W rho sb fb ls A) (hq : On (fun k => k < w.heap.size) w Q) : On (fun k => rho k = .no) W Q := fun V hV =>
 hq V fun k hk _ => (hV k (h.old hk) (Nat.lt_of_lt_of_le hk h.bel.size)).trans (h.bel.block k hk)
theorem ls_New (own most : Int) (v : Value) (xs : List Sd) (w W : World) (hB : Below w.heap.size w W) (hxs : SdsAt W v xs) (hc : newCd own xs = 0) :
  Calls Tryz.prog 14 #[.int .i64 own, v, .int .i64 most] W fun e w' => ∃ (rho : Nat → Role) (sb fb : Nat) (ls : List Pl), e = .returned (.tuple #[.pointer (some ⟨sb, 0, none⟩), .int .i64 0]) ∧ LSv w w' rho sb fb ls (newA own most xs) ∧ (∀ k, rho k ≠ .no → W.heap.size ≤ k) ∧ Below W.heap.size W w' := by
 refine (sv_New own most v xs W hxs).mono ?_
 rintro e w' (⟨h0, -⟩ | ⟨-, rho, sb, fb, ls, rfl, hs, hl, hb⟩)
 ·exact absurd hc h0
 ·exact ⟨rho, sb, fb, ls, rfl, ⟨⟨_, hs, newA_is own most xs⟩, fun k hk => Nat.le_trans hB.size (hl k hk), below_on hB hb⟩, hl, hb⟩
theorem ls_Join (h : LSv w W rho sb fb ls A) {i : Nat} (hi : i < A.V.length) (ht : A.th i = false) :
  Calls Tryz.prog 18 #[.pointer (some ⟨sb, 0, none⟩), .int .i64 i] W fun e w' => e = .returned (.int .i64 0) ∧ LSv w w' rho sb fb ls (A.join i) ∧ Step rho rho W w' := by
 obtain ⟨S, h1, h2⟩ := h.srv
 obtain ⟨m, hm⟩ := h2.at hi
 refine (sv_Join h1 hm ((h2.mem i m hm).1.trans ht)).mono ?_
 rintro e w' ⟨rfl, hs, st⟩
 exact ⟨rfl, h.step hs (h2.join hi) st, st⟩
def PsOn (rho : Nat → Role) (W : World) (s : Option Addr) (c : Nat) (L : List Pf) : Prop := On (fun k => rho k = .no) W fun W => PsAt W (.slice s L.length c) L
def Ab.updI (A : Ab) (n : Int) (kind : Int) (gone nets : List Pf) (a : At) : Ab := if (0 ≤ n ∧ n < (A.V.length : Int)) ∧ A.th n.toNat = true then A.upd n.toNat kind gone nets a else A
theorem ls_Update (h : LSv w W rho sb fb ls A) {i : Nat} (hi : i < A.V.length) (ht : A.th i = true) (x : Ms) (hx : On (fun k => rho k = .no) W (fun W => MsAt W x)) (hg : GoodA x.a) (hz : x.gone.length + x.nets.length ≤ 656) :
  Calls Tryz.prog 20 #[.pointer (some ⟨sb, 0, none⟩), .int .i64 i, x.m.V] W fun e w' => ∃ (rho' : Nat → Role) (s : Option Addr) (c : Nat), e = .returned (.tuple #[.slice s (A.updR i x.m.kind x.gone x.nets x.a).2.1.length c, .int .i64 (A.updR i x.m.kind x.gone x.nets x.a).1]) ∧
   LSv w w' rho' sb fb ls (A.upd i x.m.kind x.gone x.nets x.a) ∧ Step rho rho' W w' ∧ PsOn rho' w' s c (A.updR i x.m.kind x.gone x.nets x.a).2.1 := by
 obtain ⟨S, h1, h2⟩ := h.srv
 obtain ⟨m, hm⟩ := h2.at hi
 have e : updP S.own S.most m.R x.m.kind x.gone x.nets x.a = A.updR i x.m.kind x.gone x.nets x.a := by
  unfold Ab.updR
  rw [h2.own, h2.most, (h2.get hm).2]
 have hU := sv_Update h1 hm ((h2.mem i m hm).1.trans ht) x hx hg hz
 rw [e] at hU
 refine hU.mono ?_
 rintro e w' ⟨rho', v, rfl, hs, st, hp⟩
 obtain ⟨s, c, rfl, -⟩ := id hp.self
 exact ⟨rho', s, c, rfl, h.step hs (h2.upd hm ..) st, st, hp⟩
theorem ls_Update_off (h : LSv w W rho sb fb ls A) {i : Nat} (hi : i < A.V.length) (ht : A.th i = false) (x : MV) :
  Calls Tryz.prog 20 #[.pointer (some ⟨sb, 0, none⟩), .int .i64 i, x.V] W fun e w' => e = .returned (.tuple #[.slice none 0 0, .int .i64 7]) ∧ Below W.heap.size W w' := by
 obtain ⟨S, h1, h2⟩ := h.srv
 obtain ⟨m, hm⟩ := h2.at hi
 exact sv_Update_off h1 hm ((h2.mem i m hm).1.trans ht) x
theorem ls_Update_no (h : LSv w W rho sb fb ls A) {n : Int} (hn : ¬ (0 ≤ n ∧ n < (A.V.length : Int))) (x : MV) : Calls Tryz.prog 20 #[.pointer (some ⟨sb, 0, none⟩), .int .i64 n, x.V] W fun e w' => e = .returned (.tuple #[.slice none 0 0, .int .i64 1]) ∧ Below W.heap.size W w' := by
 obtain ⟨S, h1, h2⟩ := h.srv
 exact sv_Update_no h1 (by rw [h2.len]; exact hn) x
theorem ls_UpdateI (h : LSv w W rho sb fb ls A) (n : Int) (x : Ms) (hx : On (fun k => rho k = .no) W (fun W => MsAt W x)) (hg : GoodA x.a) (hz : x.gone.length + x.nets.length ≤ 656) :
  Calls Tryz.prog 20 #[.pointer (some ⟨sb, 0, none⟩), .int .i64 n, x.m.V] W fun e w' => ∃ (rho' : Nat → Role) (v : Value) (c : Int), e = .returned (.tuple #[v, .int .i64 c]) ∧ LSv w w' rho' sb fb ls (A.updI n x.m.kind x.gone x.nets x.a) ∧ Step rho rho' W w' := by
 by_cases hn : 0 ≤ n ∧ n < (A.V.length : Int)
 ·obtain ⟨i, rfl⟩ := Int.eq_ofNat_of_zero_le hn.1
  have hi : i < A.V.length := by omega
  cases ht : A.th i with
  | true =>
   refine (ls_Update h hi ht x hx hg hz).mono ?_
   rintro e w' ⟨rho', s, c, rfl, hl, st, -⟩
   refine ⟨rho', _, _, rfl, ?_, st⟩
   unfold Ab.updI
   rw [if_pos ⟨hn, by simpa using ht⟩]
   exact hl
  | false =>
   refine (ls_Update_off h hi ht x.m).mono ?_
   rintro e w' ⟨rfl, hb⟩
   refine ⟨rho, _, _, rfl, ?_, Step.below hb⟩
   unfold Ab.updI
   rw [if_neg (by rintro ⟨-, h2⟩; simp at h2; rw [ht] at h2; cases h2)]
   exact h.below hb
 ·refine (ls_Update_no h hn x.m).mono ?_
  rintro e w' ⟨rfl, hb⟩
  refine ⟨rho, _, _, rfl, ?_, Step.below hb⟩
  unfold Ab.updI
  rw [if_neg (fun h2 => hn h2.1)]
  exact h.below hb
end
end Go.Proofs.YtkoidahgbbabiaaGreat
/-
 THE DOCUMENT'S EXAMPLE OF SERVERS.
-/
namespace Go.Proofs.YtkoidahgbbabiaaGreat
open Go.RowKit
def OldOf (w V : World) : Prop := ∀ k, k < w.heap.size → V.heap[k]? = w.heap[k]?
theorem OldOf.cell {w V : World} (h : OldOf w V) {a : Addr} {c : Value} (hc : w.cell? a = some c) : V.cell? a = some c := by
 rw [World.cell?_of_block (h a.block (World.block_lt_of_cell? w a hc))]; exact hc
theorem slat_old {α : Type} {w V : World} {k : Nat} {R R' : α → List Value → Prop} {v : Value} {xs : List α} (h : SlAt w k R v xs) (ho : OldOf w V) (hR : ∀ x cs, R x cs → R' x cs) : SlAt V k R' v xs := by
 obtain ⟨sa, cap, h1, h2, h3, h4⟩ := h
 refine ⟨sa, cap, h1, h2, h3, fun h0 => ?_⟩
 obtain ⟨b, off, h5, h6⟩ := h4 h0
 refine ⟨b, off, h5, fun i x hx => ?_⟩
 obtain ⟨cs, c1, c2, c3⟩ := h6 i x hx
 exact ⟨cs, c1, hR _ _ c2, fun j c hc => ho.cell (c3 j c hc)⟩
theorem atl_old {w V : World} {a : At} {vp vc vo : Value} (h : AtL w a vp vc vo) (ho : OldOf w V) : AtL V a vp vc vo :=
 ⟨slat_old h.1 ho fun s cs hs => by obtain ⟨u, h1, h2⟩ := hs; exact ⟨u, h1, slat_old h2 ho fun _ _ h => h⟩, slat_old h.2.1 ho fun _ _ h => h, slat_old h.2.2 ho fun s cs hs => by obtain ⟨u, h1, h2, h3⟩ := hs; exact ⟨u, h1, h2, slat_old h3 ho fun _ _ h => h⟩⟩
theorem avat_old {w V : World} {a : At} {v : AV} (h : AvAt w a v) (ho : OldOf w V) : AvAt V a v := by
 obtain ⟨ps, pc, cs, cc, os, oc, rfl, h⟩ := h
 exact ⟨ps, pc, cs, cc, os, oc, rfl, atl_old h ho⟩
theorem msat_old {w V : World} {x : Ms} (h : MsAt w x) (ho : OldOf w V) : MsAt V x := ⟨slat_old h.gone ho fun _ _ h => h, slat_old h.nets ho fun _ _ h => h, avat_old h.a ho⟩
section
variable {w W : World} {rho : Nat → Role} {sb fb : Nat} {ls : List Pl} {A : Ab}
theorem LSv.oldOf (h : LSv w W rho sb fb ls A) {V : World} (hV : ∀ k, rho k = .no → k < W.heap.size → V.heap[k]? = W.heap[k]?) : OldOf w V := fun k hk => (hV k (h.old hk) (Nat.lt_of_lt_of_le hk h.bel.size)).trans (h.bel.block k hk)
theorem LSv.ms (h : LSv w W rho sb fb ls A) {x : Ms} (hx : MsAt w x) : On (fun k => rho k = .no) W fun W => MsAt W x := fun _ hV => msat_old hx (h.oldOf hV)
theorem LSv.ps (h : LSv w W rho sb fb ls A) {v : Value} {ps : List Pf} (hx : PsAt w v ps) : On (fun k => rho k = .no) W fun W => PsAt W v ps := fun _ hV => slat_old hx (h.oldOf hV) fun _ _ h => h
theorem LSv.fresh {W' : World} {Q : World → Prop} (h : LSv w W rho sb fb ls A) (hq : Fresh W.heap.size W' Q) : On (fun k => rho k = .no) W' Q := hq.wide fun _ hk _ => h.new hk
end
theorem new_one (W : World) (x : Pf) (T : TypeId) (hx : OkP x) : PsAt (W.alloc (.cells #[.int .u32 x.1, .int .i64 x.2] T)) (.slice (some ⟨W.heap.size, 0, none⟩) 1 1) [x] := by
 refine ⟨_, 1, rfl, Nat.le_refl _, by simp [maxLen], fun _ => ⟨W.heap.size, 0, rfl, fun i z hz => ?_⟩⟩
 match i, hz with
 | 0, hz =>
  simp at hz
  subst hz
  refine ⟨encP x, rfl, ⟨rfl, hx⟩, fun j c hc => ?_⟩
  rw [row_cell (heap_alloc_new W _)]
  match j, hc with
  | 0, hc => simpa [encP] using hc
  | 1, hc => simpa [encP] using hc
theorem sds_own {w : World} {B n : Nat} {s : Option Addr} {c : Nat} (h : w.ownsRow B 75 2 (.slice s n c) n ((sdsN n).flatMap sdL)) (hn : n ≤ 16 := by decide) : SdsAt w (.slice s n c) (sdsN n) := by
 have e := sdsN_len n
 have h3 : w.ownsRow B 75 2 (.slice s n c) (sdsN n).length ((sdsN n).flatMap sdL) := by rw [e]; exact h
 have := own_slat (C := sdL) (fun _ => rfl) h3
 refine this.imp fun y cs hy hc => ⟨hc, ?_⟩
 obtain ⟨i, hi, rfl⟩ := List.mem_map.1 hy
 have := List.mem_range.1 hi
 unfold I64r; simp only; omega
def hA0 : Ab := newA 65000 9 (sdsN 3)
def hA1 : Ab := ((hA0.join 0).join 1).join 2
def hA2 : Ab := hA1.upd 0 2 [] [netP 9] (atP 2)
theorem one_fresh (W : World) (x : Pf) (T : TypeId) (hx : OkP x) : Fresh W.heap.size (W.alloc (.cells #[.int .u32 x.1, .int .i64 x.2] T)) (fun V => PsAt V (.slice (some ⟨W.heap.size, 0, none⟩) 1 1) [x]) := fun V hV => by
 have h := new_one W x T hx
 have q : V.heap[W.heap.size]? = some (.cells #[.int .u32 x.1, .int .i64 x.2] T (0, 0)) := by
  rw [hV _ (Nat.le_refl _) (by simp)]; exact heap_alloc_new W _
 refine ⟨_, 1, rfl, Nat.le_refl _, by simp [maxLen], fun _ => ⟨W.heap.size, 0, rfl, fun i z hz => ?_⟩⟩
 match i, hz with
 | 0, hz =>
  simp at hz
  subst hz
  refine ⟨encP x, rfl, ⟨rfl, hx⟩, fun j c hc => ?_⟩
  rw [row_cell q]
  match j, hc with
  | 0, hc => simpa [encP] using hc
  | 1, hc => simpa [encP] using hc
end Go.Proofs.YtkoidahgbbabiaaGreat
/-
 THE LAWS ON SERVERS: which messages are too big; whoever isn't there marks nothing.
-/
namespace Go.Proofs.YtkoidahgbbabiaaGreat
open Go.RowKit
def bigM (x : Ms) : Bool := decide (20 < x.gone.length) || (decide (20 < x.nets.length) || (decide (6 < x.a.path.length) || (decide (40 < x.a.comms.length) || (decide (5 < x.a.others.length) || checkI x.a != 0))))
theorem hops_le : ∀ (p : List Sg) (B : Nat), (∀ s ∈ p, s.2.length ≤ B) → 1 ≤ B → hopsN p ≤ p.length * B
 | [], _, _, _ => by simp [hopsN]
 | s :: p, B, h, hB => by
  have h1 := hops_le p B (fun t ht => h t (List.mem_cons_of_mem _ ht)) hB
  have h2 := h s (List.mem_cons_self ..)
  unfold hopsN
  rw [List.length_cons, Nat.add_mul, Nat.one_mul]
  split <;> omega
theorem bigM_no {x : Ms} (h : bigM x = false) (hz : MsSz x) : GoodA x.a ∧ x.gone.length + x.nets.length ≤ 656 := by
 unfold bigM at h
 simp only [Bool.or_eq_false_iff, decide_eq_false_iff_not] at h
 obtain ⟨h1, h2, h3, -⟩ := h
 refine ⟨⟨?_, hz.rng, hz.a⟩, by omega⟩
 have := hops_le x.a.path 17592186043904 (fun s hs => by have := hz.a.segs s hs; unfold SgSz at this; omega) (by decide)
 have h4 : x.a.path.length * 17592186043904 ≤ 6 * 17592186043904 := Nat.mul_le_mul_right _ (by omega)
 omega
theorem av_Check (a : At) (v : AV) (w : World) (hA : AvAt w a v) : Calls Tryz.prog 60 #[v.V] w fun e w' => e = .returned (.int .i64 (checkI a)) ∧ Below w.heap.size w w' := by
 obtain ⟨vp, vc, vo, e, h⟩ := hA.form
 rw [e]
 exact at_Check a vp vc vo w h
theorem dgt (n k : Nat) {b : Bool} (h : decide (k < n) = b) : decide ((n : Int) > (k : Int)) = b := by
 rw [← h]
 by_cases e : k < n
 ·simp [e]
 ·simp [e]
set_option maxHeartbeats 6400000 in
set_option maxRecDepth 100000 in
theorem l_big21 (x : Ms) (w : World) (hx : MsAt w x) : Calls Tryz.prog 107 #[x.m.V] w fun e w' => e = .returned (.bool (bigM x)) ∧ Below w.heap.size w w' := by
 obtain ⟨s1, c1, e1, -⟩ := id hx.gone
 obtain ⟨s2, c2, e2, -⟩ := id hx.nets
 obtain ⟨ps, pc, cs, cc, os, oc, ea, -⟩ := id hx.a
 have CK := Lib.hid (fun W (hb : Below w.heap.size w W) => av_Check x.a x.m.a W (hx.a.below hb))
 have G1 : x.m.gn = x.gone.length := by injection e1
 have G2 : x.m.nn = x.nets.length := by injection e2
 have G3 : x.m.a.pn = x.a.path.length := by rw [ea]; rfl
 have G4 : x.m.a.cn = x.a.comms.length := by rw [ea]; rfl
 have G5 : x.m.a.on = x.a.others.length := by rw [ea]; rfl
 have H := Lib.hid (And.intro G1 (And.intro G2 (And.intro G3 (And.intro G4 G5))))
 clear hx e1 e2 ea G1 G2 G3 G4 G5
 go_enter Tryz.func107, Tryz.ntmps107
 go_upto_region 1 with (fail)
 obtain ⟨W0, hW0, q0, hB, -⟩ := box_msg w x.m
 rw [← hW0]
 have c5 : W0.cell? ⟨w.heap.size, 5, none⟩ = some (.slice x.m.gs x.m.gn x.m.gc) := row_cell q0 5
 have c16 : W0.cell? ⟨w.heap.size, 16, none⟩ = some (.slice x.m.ns x.m.nn x.m.nc) := row_cell q0 16
 have c8 : W0.cell? ⟨w.heap.size, 8, none⟩ = some (.slice x.m.a.ps x.m.a.pn x.m.a.pc) := row_cell q0 8
 have c14 : W0.cell? ⟨w.heap.size, 14, none⟩ = some (.slice x.m.a.cs x.m.a.cn x.m.a.cc) := row_cell q0 14
 have c15 : W0.cell? ⟨w.heap.size, 15, none⟩ = some (.slice x.m.a.os x.m.a.on x.m.a.oc) := row_cell q0 15
 have RG := Lib.hid (msg_range q0)
 have B0 := Lib.hid hB
 obtain ⟨mb, hmb⟩ : ∃ mb, mb = w.heap.size := ⟨_, rfl⟩
 rw [H.out.1, ← hmb] at c5
 rw [H.out.2.1, ← hmb] at c16
 rw [H.out.2.2.1, ← hmb] at c8
 rw [H.out.2.2.2.1, ← hmb] at c14
 rw [H.out.2.2.2.2, ← hmb] at c15
 rw [← hmb] at RG ⊢
 have CK0 := Lib.hid (CK.out W0 B0.out)
 clear hW0 hB q0 hmb H CK
 obtain ⟨b1, hb1⟩ : ∃ b, decide (20 < x.gone.length) = b := ⟨_, rfl⟩
 obtain ⟨b2, hb2⟩ : ∃ b, decide (20 < x.nets.length) = b := ⟨_, rfl⟩
 obtain ⟨b3, hb3⟩ : ∃ b, decide (6 < x.a.path.length) = b := ⟨_, rfl⟩
 obtain ⟨b4, hb4⟩ : ∃ b, decide (40 < x.a.comms.length) = b := ⟨_, rfl⟩
 obtain ⟨b5, hb5⟩ : ∃ b, decide (5 < x.a.others.length) = b := ⟨_, rfl⟩
 have BE : Hid (bigM x = (b1 || (b2 || (b3 || (b4 || (b5 || checkI x.a != 0)))))) := Lib.hid (by unfold bigM; rw [hb1, hb2, hb3, hb4, hb5])
 have d1 : decide ((x.gone.length : Int) > 20) = b1 := dgt _ 20 hb1
 have d2 : decide ((x.nets.length : Int) > 20) = b2 := dgt _ 20 hb2
 have d3 : decide ((x.a.path.length : Int) > 6) = b3 := dgt _ 6 hb3
 have d4 : decide ((x.a.comms.length : Int) > 40) = b4 := dgt _ 40 hb4
 have d5 : decide ((x.a.others.length : Int) > 5) = b5 := dgt _ 5 hb5
 clear hb1 hb2 hb3 hb4 hb5
 rcases b1 with _ | _
 ·rcases b2 with _ | _
  ·rcases b3 with _ | _
   ·rcases b4 with _ | _
    ·rcases b5 with _ | _
     ·go_wp2_with ((with_reducible refine halt_at (X := .load 42 (.tmp 35)) ?_ ?_); (· rfl))
      unfold Halt
      refine ldm_at (by rfl) 42 (.tmp 35) rfl mb 6 rfl x.m.a.C.toList _ RG.out Tryz.underlying42 rfl sz_avS ?_
      go_wp2_with fail
      refine CK0.out.mono ?_
      rintro e w1 ⟨rfl, hb⟩
      have B1 := Lib.hid (below_on B0.out hb)
      clear hb CK0 c5 c16 c8 c14 c15
      go_wp2_with fail
      go_ret
      exact ⟨by rw [BE.out]; rfl, B1.out⟩
     ·go_wp2_with fail
      go_ret
      exact ⟨by rw [BE.out]; rfl, B0.out⟩
    ·go_wp2_with fail
     go_ret
     exact ⟨by rw [BE.out]; rfl, B0.out⟩
   ·go_wp2_with fail
    go_ret
    exact ⟨by rw [BE.out]; rfl, B0.out⟩
  ·go_wp2_with fail
   go_ret
   exact ⟨by rw [BE.out]; rfl, B0.out⟩
 ·go_wp2_with fail
  go_ret
  exact ⟨by rw [BE.out]; rfl, B0.out⟩
section
variable {w W : World} {rho : Nat → Role} {sb fb : Nat} {ls : List Pl} {A : Ab} {S : Sv}
end
end Go.Proofs.YtkoidahgbbabiaaGreat
/-
 STEPS, HANDED IN: lists of what is done to a server, each with the reach of its message's attributes.
-/
namespace Go.Proofs.YtkoidahgbbabiaaGreat
open Go.RowKit Go.ChangeShapes Go.WideShapes
structure Stp where
 k : Int
 n : Int
 to_ : Int
 on : Bool
 x : Ms
abbrev Stp.C (s : Stp) : Array Value := #[.int .i64 s.k, .int .i64 s.n, .int .i64 s.to_, .bool s.on, .int .i64 s.x.m.kind, .int .i64 s.x.m.as_, .int .i64 s.x.m.hold, .int .u32 s.x.m.id, .slice s.x.m.ks s.x.m.kn s.x.m.kc, .slice s.x.m.gs s.x.m.gn s.x.m.gc,
 .int .i64 s.x.m.a.has, .int .i64 s.x.m.a.origin, .slice s.x.m.a.ps s.x.m.a.pn s.x.m.a.pc, .int .u32 s.x.m.a.hop, .int .i64 s.x.m.a.med, .int .i64 s.x.m.a.loc, .int .i64 s.x.m.a.aggrAs, .int .u32 s.x.m.a.aggrId, .slice s.x.m.a.cs s.x.m.a.cn s.x.m.a.cc, .slice s.x.m.a.os s.x.m.a.on s.x.m.a.oc,
 .slice s.x.m.ns s.x.m.nn s.x.m.nc, .int .i64 s.x.m.fc, .int .i64 s.x.m.fs, .string s.x.m.fd]
structure StpOk (s : Stp) : Prop where
 k : I64r s.k
 n : I64r s.n
 to_ : I64r s.to_
abbrev Stp.C21 (s : Stp) : Array Value := #[.int .i64 s.n, .int .i64 s.to_, .bool s.on, .int .i64 s.x.m.kind, .int .i64 s.x.m.as_, .int .i64 s.x.m.hold, .int .u32 s.x.m.id, .slice s.x.m.ks s.x.m.kn s.x.m.kc, .slice s.x.m.gs s.x.m.gn s.x.m.gc,
 .int .i64 s.x.m.a.has, .int .i64 s.x.m.a.origin, .slice s.x.m.a.ps s.x.m.a.pn s.x.m.a.pc, .int .u32 s.x.m.a.hop, .int .i64 s.x.m.a.med, .int .i64 s.x.m.a.loc, .int .i64 s.x.m.a.aggrAs, .int .u32 s.x.m.a.aggrId, .slice s.x.m.a.cs s.x.m.a.cn s.x.m.a.cc, .slice s.x.m.a.os s.x.m.a.on s.x.m.a.oc,
 .slice s.x.m.ns s.x.m.nn s.x.m.nc, .int .i64 s.x.m.fc, .int .i64 s.x.m.fs, .string s.x.m.fd]
def StpC21 (W : World) (s : Stp) (cs : List Value) : Prop := cs = s.C21.toList ∧ StpOk s ∧ MsAt W s.x
section
variable {H : Type} {enc : TypeId × Value → H} {w : World} {base : Nat} {spare : Nat → Bool} {held : Bool}
abbrev SaidsAt (w : World) (v : Value) (xs : List Stp) : Prop := SlAt w 23 (StpC21 w) v xs
end
end Go.Proofs.YtkoidahgbbabiaaGreat
/-
 THE LAWS ON SERVERS, PLAIN: who has come; what a list of messages makes of a server.
-/
namespace Go.Proofs.YtkoidahgbbabiaaGreat
open Go.RowKit
def joinN (A : Ab) (k : Nat) : Ab := (List.range k).foldl Ab.join A
theorem joinN_succ (A : Ab) (k : Nat) : joinN A (k + 1) = (joinN A k).join k := by unfold joinN; rw [List.range_succ, List.foldl_append]; rfl
theorem joinN_V (A : Ab) : ∀ k, (joinN A k).V = A.V ∧ (joinN A k).own = A.own ∧ (joinN A k).bl = A.bl ∧ (joinN A k).most = A.most
 | 0 => ⟨rfl, rfl, rfl, rfl⟩
 | k + 1 => by rw [joinN_succ]; exact joinN_V A k
theorem joinN_th (A : Ab) : ∀ k i, (joinN A k).th i = if i < k then true else A.th i
 | 0, i => by rw [if_neg (by omega)]; rfl
 | k + 1, i => by
  rw [joinN_succ]
  show setF (joinN A k).th k true i = _
  unfold setF
  rw [joinN_th A k i]
  by_cases h : i = k
  ·subst h; rw [if_pos rfl, if_pos (by omega)]
  ·rw [if_neg h]
   by_cases h2 : i < k
   ·rw [if_pos h2, if_pos (by omega)]
   ·rw [if_neg h2, if_neg (by omega)]
def Ab.say (A : Ab) (s : Stp) : Ab := if bigM s.x then A else A.updI s.n s.x.m.kind s.x.gone s.x.nets s.x.a
def Ab.says (A : Ab) (xs : List Stp) : Ab := xs.foldl Ab.say A
structure SameTh (A B : Ab) : Prop where
 len : B.V.length = A.V.length
 th : B.th = A.th
 own : B.own = A.own
 most : B.most = A.most
 bl : B.bl = A.bl
theorem SameTh.refl (A : Ab) : SameTh A A := ⟨rfl, rfl, rfl, rfl, rfl⟩
theorem SameTh.trans {A B C : Ab} (h : SameTh A B) (k : SameTh B C) : SameTh A C := ⟨k.len.trans h.len, k.th.trans h.th, k.own.trans h.own, k.most.trans h.most, k.bl.trans h.bl⟩
theorem plt_nodup {L : List Pf} (h : L.Pairwise plt) : L.Nodup := by
 rw [List.nodup_iff_pairwise_ne]
 refine h.imp ?_
 intro x y hxy e
 subst e
 exact plt_irrefl x hxy
theorem newA_len (own most : Int) (n : Nat) : (newA own most (sdsN n)).V.length = n := by simp [newA, sdsN]
theorem newCd_sds {n : Nat} (h0 : 0 < n) (h : n ≤ 16) : newCd 65000 (sdsN n) = 0 := by
 refine newCd_ok ?_ (by rw [sdsN_len]; omega) (all_ok fun i x hi hx => ?_)
 ·rw [sdsN_len]
  rintro (h1 | h1)
  ·revert h1; decide
  ·omega
 ·rw [sdsN_len] at hi
  rw [sdsN_get hi] at hx
  injection hx with hx
  subst hx
  unfold sdB sysB
  simp
  omega
theorem range_below {W W' : World} {g o : Nat} {l : List Value} (h : W.rangeAt g o l) (hb : Below W.heap.size W W') : W'.rangeAt g o l := fun j v hv => cell_below (h j v hv) hb
end Go.Proofs.YtkoidahgbbabiaaGreat
/-
 THE SERVER: all routes of a participant; in short: its routes, its best ones.
-/
namespace Go.Proofs.YtkoidahgbbabiaaGreat
open Go.RowKit
section
variable {w W : World} {rho : Nat → Role} {sb fb : Nat} {ls : List Pl} {S : Sv} {A : Ab}
theorem ls_Bests (h : LSv w W rho sb fb ls A) {i : Nat} (hi : i < A.V.length) : Calls Tryz.prog 25 #[.pointer (some ⟨sb, 0, none⟩), .int .i64 i] W (BestsPost (A.best i) W) := by
 obtain ⟨S, h1, h2⟩ := h.srv
 obtain ⟨m, hm⟩ := h2.at hi
 have e : A.best i = S.best i := by
  funext p
  exact (h2.best i p (by rw [h2.len]; exact hi)).symm
 rw [e]
 exact sv_Bests h1 hm
end
theorem best_from {A : Ab} {i : Nat} {p : Pf} {j : Int} {a : At} (h : A.best i p = some (j, a)) : ∃ (n : Nat) (v : VM), j = (n : Int) ∧ A.V[n]? = some v ∧ getL v.2.2 p = some a ∧ n ≠ i := by
 unfold Ab.best bestV bestS at h
 have hne : offS A.own A.bl (A.V.map pmV) i p ≠ [] := by
  intro e
  rw [pickB_none.2 e] at h
  cases h
 obtain ⟨k, c, h1, -, h3⟩ := pickB_some hne
 rw [h3] at h
 injection h with h
 injection h with e1 e2
 have hm := List.mem_of_getElem? h1
 unfold offS offL at hm
 obtain ⟨h4, h5⟩ := List.mem_filter.1 hm
 obtain ⟨n, m, b, g1, g2, rfl⟩ := saidS_mem h4
 rw [List.getElem?_map] at g1
 cases hv : A.V[n]? with
 | none => rw [hv] at g1; simp at g1
 | some v =>
  rw [hv] at g1; simp at g1; subst g1
  refine ⟨n, v, e1.symm, hv, ?_, ?_⟩
  ·rw [← e2]; exact g2
  ·unfold goesC goesB cdOf at h5
   simp only [Int.toNat_natCast] at h5
   intro e
   subst e
   simp at h5
end Go.Proofs.YtkoidahgbbabiaaGreat
/-
 CHOOSE: slices.IndexFunc, slices.DeleteFunc over ranks, by place; Order.
-/
namespace Go.Proofs.YtkoidahgbbabiaaGreat
open Go.RowKit
theorem filter_step {α : Type} (q : α → Bool) {l : List α} {k : Nat} {x : α} (h : l[k]? = some x) : (l.take (k + 1)).filter q = (l.take k).filter q ++ (if q x then [x] else []) := by
 obtain ⟨h1, h2⟩ := List.getElem?_eq_some_iff.1 h
 rw [List.take_succ_eq_append_getElem h1, List.filter_append, h2]
 congr 1
 cases hb : q x <;> simp [List.filter, hb]
set_option maxHeartbeats 1600000 in
set_option maxRecDepth 100000 in
theorem ch_del (r : Rk) (tb : Nat) (t : Int) (w : World) (ht : w.cell? ⟨tb, 0, none⟩ = some (.int .i64 t)) : Calls Tryz.prog 123 #[.agg (rkA r), .pointer (some ⟨tb, 0, none⟩)] w fun e w' => e = .returned (.bool (r.place == t)) ∧ Below w.heap.size w w' := by
 go_enter Tryz.func123, Tryz.ntmps123
 go_upto_region 1 with (fail)
 obtain ⟨W0, hW0, q0, hb0, -⟩ := boxK w r
 rw [← hW0]
 clear hW0
 have c0 : W0.cell? ⟨w.heap.size, 0, none⟩ = some (.int .i64 r.place) := row_cell q0 0
 have t0 := cell_below ht hb0
 clear q0 ht
 go_wp2_with fail
 go_ret
 exact ⟨rfl, hb0⟩
def idxF (t : Int) : List Rk → Nat → Int
 | [], _ => -1
 | r :: rs, k => if r.place = t then (k : Int) else idxF t rs (k + 1)
theorem idxF_step {t : Int} {rs : List Rk} {k : Nat} {r : Rk} (h : rs[k]? = some r) : idxF t (rs.drop k) k = if r.place = t then (k : Int) else idxF t (rs.drop (k + 1)) (k + 1) := by
 obtain ⟨h1, h2⟩ := List.getElem?_eq_some_iff.1 h
 rw [List.drop_eq_getElem_cons h1, h2]; rfl
set_option maxHeartbeats 3200000 in
set_option maxRecDepth 100000 in
theorem ch_Index (v : Value) (rs : List Rk) (tb : Nat) (t : Int) (w : World) (h : RksAt w v rs) (ht : w.cell? ⟨tb, 0, none⟩ = some (.int .i64 t)) :
  Calls Tryz.prog 167 #[v, .func (.func 123) #[] #[.pointer (some ⟨tb, 0, none⟩)]] w fun e w' => e = .returned (.int .i64 (idxF t rs 0)) ∧ Below w.heap.size w w' := by
 obtain ⟨sa, cap, rfl, hlc, hcm, hV⟩ := h
 have HV := Lib.hid hV
 have HT := Lib.hid ht
 have DL := Lib.hid (fun r W h => ch_del r tb t W h)
 unfold maxLen at hcm
 clear hV ht
 go_enter Tryz.func167, Tryz.ntmps167
 go_wp2_with fail
 go_loopw [8] (fun i wr => ∃ k : Nat, k ≤ rs.length ∧ i = .int .i64 k ∧ Hid (idxF t rs 0 = idxF t (rs.drop k) k) ∧ Hid (Below w.heap.size w wr)) (fun i _ => rs.length - (intOf i).toNat)
 case atStart => exact ⟨0, by omega, rfl, Lib.hid rfl, Lib.hid (Below.refl _ _)⟩
 case round =>
  obtain ⟨k, hk, rfl, E, B⟩ := hrel
  by_cases hlt : k < rs.length
  ·obtain ⟨r, hr⟩ : ∃ r, rs[k]? = some r := ⟨_, List.getElem?_eq_getElem hlt⟩
   obtain ⟨b, off, hsa, hP⟩ := HV.out (by omega)
   subst hsa
   obtain ⟨cs, _, hR, hc⟩ := hP k r hr
   obtain ⟨x0, x1, x2, x3, x4, x5, x6, x7⟩ := rk_cells hR hc
   have x0 := (B.out.cell (size_lt x0)).trans x0
   have x1 := (B.out.cell (size_lt x1)).trans x1
   have x2 := (B.out.cell (size_lt x2)).trans x2
   have x3 := (B.out.cell (size_lt x3)).trans x3
   have x4 := (B.out.cell (size_lt x4)).trans x4
   have x5 := (B.out.cell (size_lt x5)).trans x5
   have x6 := (B.out.cell (size_lt x6)).trans x6
   have x7 := (B.out.cell (size_lt x7)).trans x7
   have t0 := Lib.hid ((B.out.cell (size_lt HT.out)).trans HT.out)
   have E2 : Hid (idxF t rs 0 = if r.place = t then (k : Int) else idxF t (rs.drop (k + 1)) (k + 1)) := Lib.hid (by rw [E.out, idxF_step hr])
   have j0 : (0 : Int) ≤ (k : Int) := by omega
   have j1 : (k : Int) < (rs.length : Int) := by omega
   clear hP hR hc hr E
   go_wp2_with fail
   refine (DL.out r _ t0.out).mono ?_
   rintro e w2 ⟨rfl, hb2⟩
   have B2 := Lib.hid (below_on B.out hb2)
   clear hb2 B x0 x1 x2 x3 x4 x5 x6 x7 t0
   by_cases hp : r.place = t
   ·have z : (r.place == t) = true := by simpa using hp
    have E3 : Hid (idxF t rs 0 = (k : Int)) := Lib.hid (by rw [E2.out, if_pos hp])
    clear hp E2
    go_wp2_with fail
    go_ret
    exact ⟨ret_int E3.out.symm, B2.out⟩
   ·have z : (r.place == t) = false := by simpa using hp
    have E3 : Hid (idxF t rs 0 = idxF t (rs.drop (k + 1)) (k + 1)) := Lib.hid (by rw [E2.out, if_neg hp])
    clear hp E2
    go_wp2_with fail
    exact ⟨⟨k + 1, by omega, by go_num, E3, B2⟩, by simp [intOf]; omega⟩
  ·obtain rfl : rs.length = k := by omega
   have E3 : Hid (idxF t rs 0 = -1) := Lib.hid (by rw [E.out, List.drop_length]; rfl)
   clear E
   go_wp2_with fail
   go_ret
   exact ⟨ret_int E3.out.symm, B.out⟩
theorem run_clear_ranks (w : World) (g o n c : Nat) (hn : 0 < n) (ht : w.there g o (n * 8)) :
  ∃ L : List Value, L.length = n * 8 ∧ ∀ ty, (Builtin.clear_ #[197] ty #[.slice (some ⟨g, o, none⟩) n c]).run Tryz.prog w = .ok (.tuple #[]) (w.setCells g o L) := by
 have hlen : (Builtin.zeroCells rkZA n).toList.length = n * 8 := by rw [Array.length_toList, size_zeroCells]; rfl
 refine ⟨(Builtin.zeroCells rkZA n).toList, hlen, fun ty => ?_⟩
 have hst := run_storeCells_cells (P := Tryz.prog) g o (Builtin.zeroCells rkZA n).toList 0 w (fun j hj => by rw [Nat.add_zero]; exact (ht j (by rw [hlen] at hj; exact hj)).1) (fun j hj => by rw [Nat.add_zero]; exact (ht j (by rw [hlen] at hj; exact hj)).2)
  (zeroCells_one rkZA (by intro v hv; simp at hv; rcases hv with rfl | rfl | rfl <;> rfl) (by decide) n)
 simp only [Nat.add_zero] at hst
 obtain ⟨m, rfl⟩ : ∃ m, n = m + 1 := ⟨n - 1, by omega⟩
 simp [Builtin.clear_, run_underlying Tryz.underlying197, Value.cells, hst]
theorem kept_cells {F : Nat → Prop} {g : Nat} (hF : F g) : ∀ (vs : List Value) (o : Nat) (w : World), Kept F w (w.setCells g o vs)
 | [], _, _ => Kept.refl F _
 | v :: r, o, _ => (Kept.setCell ⟨g, o, none⟩ v hF).trans (kept_cells hF r (o + 1) _)
theorem there_from {w : World} {g n k : Nat} (h : w.there g 0 (n * 8)) (hk : k ≤ n) : w.there g (k * 8) ((n - k) * 8) := by
 intro j hj
 have := h (k * 8 + j) (by omega)
 rw [Nat.zero_add] at this
 exact this
def keepP (t : Int) (r : Rk) : Bool := !(r.place == t)
def kpL (t : Int) (rs : List Rk) (j : Nat) : List Rk := (rs.take j).filter (keepP t)
theorem kpL_step (t : Int) {rs : List Rk} {j : Nat} {r : Rk} (h : rs[j]? = some r) : kpL t rs (j + 1) = kpL t rs j ++ (if keepP t r then [r] else []) := filter_step _ h
theorem idx_none {t : Int} : ∀ (rs : List Rk) (k : Nat), idxF t rs k = -1 → ∀ r ∈ rs, keepP t r = true
 | [], _, _, r, hr => by simp at hr
 | x :: rs, k, h, r, hr => by
  unfold idxF at h
  split at h
  ·omega
  ·next hx =>
   rcases List.mem_cons.1 hr with rfl | hr
   ·unfold keepP; simpa using hx
   ·exact idx_none rs (k + 1) h r hr
theorem idx_some {t : Int} : ∀ (rs : List Rk) (k : Nat), idxF t rs k ≠ -1 → ∃ i, idxF t rs k = ((k + i : Nat) : Int) ∧ i < rs.length ∧ (rs.take i).filter (keepP t) = rs.take i ∧ ∃ r, rs[i]? = some r ∧ keepP t r = false
 | [], _, h => absurd rfl h
 | x :: rs, k, h => by
  unfold idxF at h ⊢
  by_cases hx : x.place = t
  ·rw [if_pos hx]
   exact ⟨0, rfl, by simp, by simp, x, rfl, by unfold keepP; simpa using hx⟩
  ·rw [if_neg hx] at h ⊢
   obtain ⟨i, h1, h2, h3, r, h4, h5⟩ := idx_some rs (k + 1) h
   refine ⟨i + 1, by rw [h1]; congr 1; omega, by simp; omega, ?_, r, by simpa using h4, h5⟩
   rw [List.take_succ_cons, List.filter_cons_of_pos (by unfold keepP; simpa using hx), h3]
set_option maxHeartbeats 6400000 in
set_option maxRecDepth 100000 in
theorem ch_Delete (g n : Nat) (rs : List Rk) (tb : Nat) (t : Int) (w : World) (R : RkRow w g n rs) (hln : rs.length ≤ n) (hn : n ≤ 100000) (ht : w.cell? ⟨tb, 0, none⟩ = some (.int .i64 t)) (hne : tb ≠ g) :
  Calls Tryz.prog 122 #[.slice (some ⟨g, 0, none⟩) rs.length n, .func (.func 123) #[] #[.pointer (some ⟨tb, 0, none⟩)]] w fun e w' => e = .returned (.slice (some ⟨g, 0, none⟩) (rs.filter (keepP t)).length n) ∧ RkRow w' g n (rs.filter (keepP t)) ∧ Kept (fun b => b = g) w w' := by
 have hat : RksAt w (.slice (some ⟨g, 0, none⟩) rs.length n) rs := ⟨_, _, rfl, hln, by unfold maxLen; omega, fun _ => ⟨g, 0, rfl, fun i x hx => ⟨rkL x, rfl, rfl, fun j c hc => by rw [Nat.zero_add]; exact R.1 i x hx j c hc⟩⟩⟩
 have IX := Lib.hid (ch_Index _ rs tb t w hat ht)
 have HR := Lib.hid R
 have HT := Lib.hid ht
 have DL := Lib.hid (fun r W h => ch_del r tb t W h)
 have NG := Lib.hid hne
 clear hat R ht hne
 by_cases hi : idxF t rs 0 = -1
 ·have E : Hid (rs.filter (keepP t) = rs) := Lib.hid (List.filter_eq_self.2 (idx_none rs 0 hi))
  rw [hi] at IX
  rw [E.out]
  clear hi E
  go_enter Tryz.func122, Tryz.ntmps122
  go_wp2_with fail
  refine IX.out.mono ?_
  rintro e w1 ⟨rfl, hb1⟩
  have R1 := Lib.hid (HR.out.below hb1)
  have K1 := Lib.hid (Kept.of_below (F := fun b => b = g) hb1)
  clear hb1 IX HR
  go_wp2_with fail
  go_ret
  exact ⟨rfl, R1.out, K1.out⟩
 ·obtain ⟨i, h1, h2, h3, r0, h4, h5⟩ := idx_some rs 0 hi
  rw [Nat.zero_add] at h1
  rw [h1] at IX
  have KI : Hid (kpL t rs (i + 1) = rs.take i) := Lib.hid (by
   rw [kpL_step t h4, h5]
   unfold kpL
   rw [h3]; simp)
  have H4 := Lib.hid h4
  clear hi h1 h3 h4 h5
  have n1 : ((i : Int) == -1) = false := by rw [beq_eq_false_iff_ne]; omega
  go_enter Tryz.func122, Tryz.ntmps122
  go_wp2_with fail
  refine IX.out.mono ?_
  rintro e w1 ⟨rfl, hb1⟩
  have R1 := HR.out.below hb1
  have K1 := Lib.hid (Kept.of_below (F := fun b => b = g) hb1)
  have F1 : Hid (Filled w1 g 8 rkL (kpL t rs (i + 1))) := Lib.hid (by
   rw [KI.out]
   intro q x hx
   have hq := (List.getElem?_eq_some_iff.1 hx).1
   rw [List.getElem?_take_of_lt (by simp at hq; omega)] at hx
   exact R1.1 q x hx)
  have T1 := Lib.hid R1.2
  have S1 : Hid (∀ (q : Nat) (x : Rk), i + 1 ≤ q → rs[q]? = some x → w1.rangeAt g (q * 8) (rkL x)) := Lib.hid (fun q x _ hx => R1.1 q x hx)
  have LK : Hid ((kpL t rs (i + 1)).length + 1 ≤ i + 1) := Lib.hid (by rw [KI.out, List.length_take]; omega)
  have E0 : Hid ((kpL t rs (i + 1)).length = i) := Lib.hid (by rw [KI.out, List.length_take]; omega)
  clear hb1 R1 IX HR H4 KI
  go_wp2_with fail
  go_loopw [5, 6] (fun vi vj wr => ∃ j : Nat, i + 1 ≤ j ∧ j ≤ rs.length ∧ vj = .int .i64 j ∧ vi = .int .i64 ((kpL t rs j).length : Nat) ∧ Hid (Filled wr g 8 rkL (kpL t rs j)) ∧ Hid (wr.there g 0 (n * 8)) ∧ Hid (∀ (q : Nat) (x : Rk), j ≤ q → rs[q]? = some x → wr.rangeAt g (q * 8) (rkL x)) ∧ Hid (Kept (fun b => b = g) w wr) ∧ Hid ((kpL t rs j).length + 1 ≤ j)) (fun _ vj _ => rs.length - (intOf vj).toNat)
  case atStart => exact ⟨i + 1, by omega, by omega, by go_num, by rw [E0.out], F1, T1, S1, K1, LK⟩
  case round =>
   clear F1 T1 S1 K1 LK E0
   obtain ⟨j, hj1, hj2, rfl, rfl, F, T, S, K, LK⟩ := hrel
   by_cases hlt : j < rs.length
   ·obtain ⟨r, hr⟩ : ∃ r, rs[j]? = some r := ⟨_, List.getElem?_eq_getElem hlt⟩
    have hc := S.out j r (Nat.le_refl _) hr
    have x0 : wr.cell? ⟨g, j * 8, none⟩ = some (.int .i64 r.place) := hc 0 _ rfl
    have x1 : wr.cell? ⟨g, j * 8 + 1, none⟩ = some (.int .i64 r.loc) := hc 1 _ rfl
    have x2 : wr.cell? ⟨g, j * 8 + 2, none⟩ = some (.int .i64 r.hops) := hc 2 _ rfl
    have x3 : wr.cell? ⟨g, j * 8 + 3, none⟩ = some (.int .i64 r.origin) := hc 3 _ rfl
    have x4 : wr.cell? ⟨g, j * 8 + 4, none⟩ = some (.int .i64 r.first) := hc 4 _ rfl
    have x5 : wr.cell? ⟨g, j * 8 + 5, none⟩ = some (.int .i64 r.med) := hc 5 _ rfl
    have x6 : wr.cell? ⟨g, j * 8 + 6, none⟩ = some (.int .u32 r.id) := hc 6 _ rfl
    have x7 : wr.cell? ⟨g, j * 8 + 7, none⟩ = some (.int .i64 r.peer) := hc 7 _ rfl
    have TC := Lib.hid (K.out.cell HT.out NG.out)
    have ST := Lib.hid (kpL_step t hr)
    have j0 : (0 : Int) ≤ (j : Int) := by omega
    have j1 : (j : Int) < (rs.length : Int) := by omega
    have GL : Hid (g < wr.heap.size) := Lib.hid (size_lt x0)
    clear hc hr
    go_upto_region 8 with (fail)
    obtain ⟨W4, hW4, q4, hb4, -⟩ := boxK wr r
    rw [← hW4]
    clear hW4 x0 x1 x2 x3 x4 x5 x6 x7
    have F4 := Lib.hid (F.out.below hb4)
    have T4 := Lib.hid (there_below T.out hb4)
    have S4 : Hid (∀ (q : Nat) (x : Rk), j ≤ q → rs[q]? = some x → W4.rangeAt g (q * 8) (rkL x)) := Lib.hid (fun q x h1 h2 k v hv => cell_below (S.out q x h1 h2 k v hv) hb4)
    have K4 := Lib.hid (K.out.trans (Kept.of_below hb4))
    have TC4 := Lib.hid (cell_below TC.out hb4)
    have NB : Hid (wr.heap.size ≠ g) := Lib.hid (by have := GL.out; omega)
    have Q4 := Lib.hid q4
    obtain ⟨y0, y1, y2, y3, y4, y5, y6, y7⟩ := rk_row q4
    clear q4 hb4 F T S K TC GL
    generalize wr.heap.size = rb at Q4 NB y0 y1 y2 y3 y4 y5 y6 y7 ⊢
    go_wp2_with fail
    refine (DL.out r _ TC4.out).mono ?_
    rintro e w5 ⟨rfl, hb5⟩
    have F5 := Lib.hid (F4.out.below hb5)
    have T5 := Lib.hid (there_below T4.out hb5)
    have S5 : Hid (∀ (q : Nat) (x : Rk), j ≤ q → rs[q]? = some x → w5.rangeAt g (q * 8) (rkL x)) := Lib.hid (fun q x h1 h2 k v hv => cell_below (S4.out q x h1 h2 k v hv) hb5)
    have K5 := Lib.hid (K4.out.trans (Kept.of_below hb5))
    have Q5 := Lib.hid ((hb5.block _ (row_lt Q4.out)).trans Q4.out)
    clear hb5 F4 T4 S4 K4 TC4 Q4 y0 y1 y2 y3 y4 y5 y6 y7
    obtain ⟨y0, y1, y2, y3, y4, y5, y6, y7⟩ := rk_row Q5.out
    by_cases hp : (r.place == t) = true
    ·have ST2 : Hid (kpL t rs (j + 1) = kpL t rs j) := Lib.hid (by rw [ST.out]; unfold keepP; rw [hp]; simp)
     have LK2 : Hid ((kpL t rs (j + 1)).length + 1 ≤ j + 1) := Lib.hid (by rw [ST2.out]; have := LK.out; omega)
     rw [← ST2.out] at F5
     have EV : Hid (Value.int .i64 ((kpL t rs j).length : Nat) = .int .i64 ((kpL t rs (j + 1)).length : Nat)) := Lib.hid (by rw [ST2.out])
     have S6 : Hid (∀ (q : Nat) (x : Rk), j + 1 ≤ q → rs[q]? = some x → w5.rangeAt g (q * 8) (rkL x)) := Lib.hid (fun q x h1 h2 => S5.out q x (by omega) h2)
     clear ST ST2 S5 LK
     go_wp2_with fail
     exact ⟨⟨j + 1, by omega, by omega, by go_num, EV.out, F5, T5, S6, K5, LK2⟩, by simp [intOf]; omega⟩
    ·have hp2 : (r.place == t) = false := by simpa using hp
     have ST2 : Hid (kpL t rs (j + 1) = kpL t rs j ++ [r]) := Lib.hid (by rw [ST.out]; unfold keepP; rw [hp2]; rfl)
     have LK2 : Hid ((kpL t rs (j + 1)).length + 1 ≤ j + 1) := Lib.hid (by rw [ST2.out, List.length_append]; have := LK.out; simp; omega)
     have lk := LK.out
     have EV : Hid (Value.int .i64 ((kpL t rs j).length + 1 : Nat) = .int .i64 ((kpL t rs (j + 1)).length : Nat)) := Lib.hid (by rw [ST2.out, List.length_append]; rfl)
     have Fss := Lib.hid (Filled.set (C := rkL) rkL_len F5.out T5.out (show (kpL t rs j).length < n by omega) r)
     have S6 : Hid (∀ (q : Nat) (x : Rk), j + 1 ≤ q → rs[q]? = some x → (w5.setCells g ((kpL t rs j).length * 8) (rkL r)).rangeAt g (q * 8) (rkL x)) := Lib.hid (fun q x h1 h2 => World.rangeAt_setCells_apart (S5.out q x (by omega) h2) _ _ _ (.inr (.inr (by show _ + 8 ≤ _; omega))))
     rw [← ST2.out] at Fss
     clear ST ST2 S5 LK hp
     generalize hm : (kpL t rs j).length = m at *
     clear hm
     have m0 : (0 : Int) ≤ (m : Int) := by omega
     have m1 : (m : Int) < (rs.length : Int) := by omega
     go_wp2_with (with_reducible refine halt_at (X := .store 200 (.tmp 33) (.tmp 32)) ?_ ?_; (· rfl))
     unfold Halt
     refine wpList_store_mid rfl 200 (.tmp 33) (.tmp 32) rfl g (m * 8) (rkA r) rfl rfl (there_part T5.out (show m < n by omega)) (by kernel_rfl) (rk_one _) ?_
     have K6 := Lib.hid (K5.out.trans (kept_cells (F := fun b => b = g) rfl (rkL r) (m * 8) w5))
     obtain ⟨W6, hW6⟩ : ∃ W6, W6 = w5.setCells g (m * 8) (rkL r) := ⟨_, rfl⟩
     have hW7 : w5.setCells g (m * 8) (rkA r).toList = W6 := hW6.symm
     rw [hW7]
     rw [← hW6] at Fss S6 K6
     clear hW6 hW7 K5 T5 F5 Q5 y0 y1 y2 y3 y4 y5 y6 y7 lk
     go_wp2_with fail
     exact ⟨⟨j + 1, by omega, by omega, by go_num, EV.out, Lib.hid Fss.out.1, Lib.hid Fss.out.2, S6, K6, LK2⟩, by simp [intOf]; omega⟩
   ·obtain rfl : j = rs.length := by omega
    have EF : Hid (kpL t rs rs.length = rs.filter (keepP t)) := Lib.hid (by unfold kpL; rw [List.take_length])
    have lk := LK.out
    rw [EF.out] at F LK lk
    rw [EF.out]
    clear EF S hlt LK
    generalize hm : (rs.filter (keepP t)).length = m at *
    have m0 : (0 : Int) ≤ (m : Int) := by omega
    have m1 : (m : Int) ≤ (rs.length : Int) := by omega
    obtain ⟨L, hL, hcl⟩ := run_clear_ranks wr g (m * 8) (rs.length - m) (n - m) (by omega) (fun q hq => there_from T.out (show m ≤ n by omega) q (by omega))
    have K6 := Lib.hid (K.out.trans (kept_cells (F := fun b => b = g) rfl L (m * 8) wr))
    have R6 : Hid (RkRow (wr.setCells g (m * 8) L) g n (rs.filter (keepP t))) := Lib.hid ⟨fun q x hx => World.rangeAt_setCells_apart (F.out q x hx) _ _ _ (.inr (.inl (by
     have := (List.getElem?_eq_some_iff.1 hx).1
     show q * 8 + 8 ≤ m * 8
     omega))), World.there_setCells T.out _ _ _⟩
    clear hL F T K
    go_wp2_with (simp only [hcl])
    go_ret
    exact ⟨by rw [hm]; rfl, R6.out, K6.out⟩
end Go.Proofs.YtkoidahgbbabiaaGreat
