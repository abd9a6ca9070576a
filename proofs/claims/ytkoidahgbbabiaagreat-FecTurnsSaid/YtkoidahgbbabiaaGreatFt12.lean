/- Texts of one proof, one behind another. -/
import Derived.Test.YtkoidahgbbabiaaGreatFt5
import Derived.Test.YtkoidahgbbabiaaGreatFt11
import Derived.Test.YtkoidahgbbabiaaGreatFt1
namespace Go.Proofs.YtkoidahgbbabiaaGreat
open Go.RowKit
structure Pm where
 as_ : Int
 id : Nat
 there : Bool
 R : Rts
 news : Pf → Bool
def cdOf (i : Nat) (p : Pf) (id : Nat) (a : At) : Cd := ⟨(i : Int), p.1.toNat, p.2, a, id⟩
def saidOne (p : Pf) (i : Nat) (m : Pm) : List Cd := match getL m.R p with | none => [] | some a => [cdOf i p m.id a]
def saidF (p : Pf) : Nat → List Pm → List Cd
 | _, [] => []
 | i, m :: ms => saidOne p i m ++ saidF p (i + 1) ms
def saidS (ms : List Pm) (p : Pf) : List Cd := saidF p 0 ms
def goesC (own : Int) (bl : Nat → Bool) (rc : Nat) (t : Int) (c : Cd) : Bool := goesB own bl c.a c.peer.toNat rc t
def offL (own : Int) (bl : Nat → Bool) (rc : Nat) (t : Int) (l : List Cd) : List Cd := l.filter (goesC own bl rc t)
def asOf (ms : List Pm) (rc : Nat) : Int := ((ms[rc]?).map (·.as_)).getD 0
def offS (own : Int) (bl : Nat → Bool) (ms : List Pm) (rc : Nat) (p : Pf) : List Cd := offL own bl rc (asOf ms rc) (saidS ms p)
def pickB (l : List Cd) : Option (Int × At) := if bestI l < 0 then none else (l[(bestI l).toNat]?).map fun c => (c.peer, c.a)
def bestS (own : Int) (bl : Nat → Bool) (ms : List Pm) (rc : Nat) (p : Pf) : Option (Int × At) := pickB (offS own bl ms rc p)
theorem saidF_snoc (p : Pf) : ∀ (ms : List Pm) (i : Nat) (m : Pm), saidF p i (ms ++ [m]) = saidF p i ms ++ saidOne p (i + ms.length) m
 | [], i, m => by simp [saidF]
 | x :: ms, i, m => by
  rw [List.cons_append, saidF, saidF_snoc p ms (i + 1) m, saidF, List.length_cons, List.append_assoc, show i + 1 + ms.length = i + (ms.length + 1) by omega]
theorem saidS_take (p : Pf) {ms : List Pm} {k : Nat} {m : Pm} (h : ms[k]? = some m) : saidS (ms.take (k + 1)) p = saidS (ms.take k) p ++ saidOne p k m := by
 unfold saidS
 rw [take_snoc h, saidF_snoc]
 have : (ms.take k).length = k := by rw [List.length_take]; have := (List.getElem?_eq_some_iff.1 h).1; omega
 rw [this, Nat.zero_add]
theorem saidF_mem {p : Pf} {c : Cd} : ∀ {ms : List Pm} {i : Nat}, c ∈ saidF p i ms → ∃ (k : Nat) (m : Pm) (a : At), ms[k]? = some m ∧ getL m.R p = some a ∧ c = cdOf (i + k) p m.id a
 | [], i, h => by simp [saidF] at h
 | m :: ms, i, h => by
  rw [saidF, List.mem_append] at h
  rcases h with h | h
  ·unfold saidOne at h
   cases hg : getL m.R p with
   | none => rw [hg] at h; simp at h
   | some a =>
    rw [hg] at h
    exact ⟨0, m, a, rfl, hg, List.mem_singleton.1 h⟩
  ·obtain ⟨k, m', a, h1, h2, h3⟩ := saidF_mem h
   exact ⟨k + 1, m', a, by simpa using h1, h2, by rw [h3]; congr 1; omega⟩
theorem saidS_mem {p : Pf} {c : Cd} {ms : List Pm} (h : c ∈ saidS ms p) : ∃ (k : Nat) (m : Pm) (a : At), ms[k]? = some m ∧ getL m.R p = some a ∧ c = cdOf k p m.id a := by
 obtain ⟨k, m, a, h1, h2, h3⟩ := saidF_mem h
 exact ⟨k, m, a, h1, h2, by rw [h3, Nat.zero_add]⟩
theorem saidF_len (p : Pf) : ∀ (ms : List Pm) (i : Nat), (saidF p i ms).length ≤ ms.length
 | [], _ => by simp [saidF]
 | m :: ms, i => by
  rw [saidF, List.length_append, List.length_cons]
  have := saidF_len p ms (i + 1)
  have : (saidOne p i m).length ≤ 1 := by unfold saidOne; split <;> simp
  omega
theorem saidS_len (p : Pf) (ms : List Pm) : (saidS ms p).length ≤ ms.length := saidF_len p ms 0
theorem saidF_congr {p : Pf} : ∀ {ms ns : List Pm} {i : Nat}, ms.length = ns.length → (∀ (k : Nat) (m n : Pm), ms[k]? = some m → ns[k]? = some n → m.id = n.id ∧ getL m.R p = getL n.R p) → saidF p i ms = saidF p i ns
 | [], [], _, _, _ => rfl
 | [], _ :: _, _, h, _ => by simp at h
 | _ :: _, [], _, h, _ => by simp at h
 | m :: ms, n :: ns, i, hl, h => by
  rw [saidF, saidF, saidF_congr (by simpa using hl) fun k x y hx hy => h (k + 1) x y (by simpa using hx) (by simpa using hy)]
  obtain ⟨h1, h2⟩ := h 0 m n rfl rfl
  unfold saidOne
  rw [h1, h2]
theorem pickB_none {l : List Cd} : pickB l = none ↔ l = [] := by
 constructor
 ·intro h
  by_cases e : l = []
  ·exact e
  ·obtain ⟨i, c, h1, h2, -⟩ := bestI_spec e
   unfold pickB at h
   rw [h2, if_neg (by omega), Int.toNat_natCast, h1] at h
   cases h
 ·rintro rfl; rfl
theorem pickB_some {l : List Cd} (h : l ≠ []) : ∃ (i : Nat) (c : Cd), l[i]? = some c ∧ bestI l = i ∧ pickB l = some (c.peer, c.a) := by
 obtain ⟨i, c, h1, h2, -⟩ := bestI_spec h
 refine ⟨i, c, h1, h2, ?_⟩
 unfold pickB
 rw [h2, if_neg (by omega), Int.toNat_natCast, h1]
 rfl
structure Sv where
 own : Int
 most : Int
 bl : Nat → Bool
 ms : List Pm
 best : Nat → Pf → Option (Int × At)
def sameB : Option (Int × At) → Option (Int × At) → Bool
 | none, none => true
 | some x, some y => x.1 == y.1 && sameA x.2 y.2
 | _, _ => false
theorem sameB_iff (x y : Option (Int × At)) : sameB x y = true ↔ x = y := by
 match x, y with
 | none, none => simp [sameB]
 | none, some _ => simp [sameB]
 | some _, none => simp [sameB]
 | some (i, a), some (j, b) => simp [sameB, sameA_iff]
def updB (f : Nat → Pf → Option (Int × At)) (rc : Nat) (p : Pf) (b : Option (Int × At)) : Nat → Pf → Option (Int × At) := fun i q => if i = rc ∧ q = p then b else f i q
def Pm.mark (m : Pm) (p : Pf) (c : Bool) : Pm := { m with news := fun q => m.news q || (c && decide (q = p)) }
def setBestS (S : Sv) (rc : Nat) (p : Pf) (b : Option (Int × At)) : Sv := { S with best := updB S.best rc p b }
def markS (S : Sv) (rc : Nat) (p : Pf) (c : Bool) : Sv := { S with ms := S.ms.modify rc fun m => m.mark p (m.there && c) }
def newBest (S : Sv) (rc : Nat) (l : List Cd) : Option (Int × At) := pickB (offL S.own S.bl rc (asOf S.ms rc) l)
def renewP (S : Sv) (rc : Nat) (p : Pf) (l : List Cd) : Sv := markS (setBestS S rc p (newBest S rc l)) rc p (!sameB (S.best rc p) (newBest S rc l))
def turn1 (S : Sv) (p : Pf) (l : List Cd) (k : Nat) : Sv := (List.range k).foldl (fun S rc => renewP S rc p l) S
def turnP (S : Sv) (p : Pf) : Sv := turn1 S p (saidS S.ms p) S.ms.length
def turnS (S : Sv) (ps : List Pf) : Sv := ps.foldl turnP S
theorem turn1_succ (S : Sv) (p : Pf) (l : List Cd) (k : Nat) : turn1 S p l (k + 1) = renewP (turn1 S p l k) k p l := by
 unfold turn1; rw [List.range_succ, List.foldl_append]; rfl
theorem turnS_snoc (S : Sv) (ps : List Pf) (p : Pf) : turnS S (ps ++ [p]) = turnP (turnS S ps) p := by unfold turnS; rw [List.foldl_append]; rfl
theorem turnS_app (S : Sv) (ps qs : List Pf) : turnS S (ps ++ qs) = turnS (turnS S ps) qs := by unfold turnS; rw [List.foldl_append]
@[simp] theorem markS_own (S : Sv) (rc : Nat) (p : Pf) (c : Bool) : (markS S rc p c).own = S.own := rfl
@[simp] theorem markS_bl (S : Sv) (rc : Nat) (p : Pf) (c : Bool) : (markS S rc p c).bl = S.bl := rfl
@[simp] theorem markS_best (S : Sv) (rc : Nat) (p : Pf) (c : Bool) : (markS S rc p c).best = S.best := rfl
theorem markS_len (S : Sv) (rc : Nat) (p : Pf) (c : Bool) : (markS S rc p c).ms.length = S.ms.length := by unfold markS; simp
theorem markS_get (S : Sv) (rc : Nat) (p : Pf) (c : Bool) (i : Nat) : (markS S rc p c).ms[i]? = (S.ms[i]?).map fun m => if i = rc then m.mark p (m.there && c) else m := by
 unfold markS
 simp only [List.getElem?_modify]
 cases S.ms[i]? with
 | none => rfl
 | some m =>
  simp only [Option.map_some, Option.map_eq_map, eq_comm (a := rc)]
structure SvKin (S T : Sv) : Prop where
 own : T.own = S.own
 most : T.most = S.most
 bl : T.bl = S.bl
 len : T.ms.length = S.ms.length
 mem : ∀ (i : Nat) (m : Pm), S.ms[i]? = some m → ∃ n, T.ms[i]? = some n ∧ n.as_ = m.as_ ∧ n.id = m.id ∧ n.there = m.there ∧ n.R = m.R
theorem SvKin.refl (S : Sv) : SvKin S S := ⟨rfl, rfl, rfl, rfl, fun _ m h => ⟨m, h, rfl, rfl, rfl, rfl⟩⟩
theorem SvKin.trans {S T U : Sv} (h : SvKin S T) (k : SvKin T U) : SvKin S U :=
 ⟨k.own.trans h.own, k.most.trans h.most, k.bl.trans h.bl, k.len.trans h.len, fun i m hm => by
  obtain ⟨n, h1, h2, h3, h4, h5⟩ := h.mem i m hm
  obtain ⟨o, k1, k2, k3, k4, k5⟩ := k.mem i n h1
  exact ⟨o, k1, k2.trans h2, k3.trans h3, k4.trans h4, k5.trans h5⟩⟩
theorem SvKin.back {S T : Sv} (h : SvKin S T) {i : Nat} {n : Pm} (hn : T.ms[i]? = some n) : ∃ m, S.ms[i]? = some m ∧ n.as_ = m.as_ ∧ n.id = m.id ∧ n.there = m.there ∧ n.R = m.R := by
 have hi : i < S.ms.length := by rw [← h.len]; exact (List.getElem?_eq_some_iff.1 hn).1
 obtain ⟨m, hm⟩ : ∃ m, S.ms[i]? = some m := ⟨_, List.getElem?_eq_getElem hi⟩
 obtain ⟨n', h1, h2⟩ := h.mem i m hm
 rw [hn] at h1; injection h1 with h1; subst h1
 exact ⟨m, hm, h2⟩
theorem SvKin.said {S T : Sv} (h : SvKin S T) (p : Pf) : saidS T.ms p = saidS S.ms p :=
 saidF_congr h.len fun k m n hm hn => by
  obtain ⟨m', h1, h2, h3, h4, h5⟩ := h.back hm
  rw [hn] at h1; injection h1 with h1; subst h1
  exact ⟨h3, by rw [h5]⟩
theorem SvKin.asO {S T : Sv} (h : SvKin S T) (rc : Nat) : asOf T.ms rc = asOf S.ms rc := by
 unfold asOf
 cases hm : S.ms[rc]? with
 | none =>
  have : T.ms[rc]? = none := by rw [List.getElem?_eq_none_iff] at hm ⊢; rw [h.len]; exact hm
  rw [this]
 | some m =>
  obtain ⟨n, h1, h2, -⟩ := h.mem rc m hm
  rw [h1]; simp [h2]
theorem kin_mark (S : Sv) (rc : Nat) (p : Pf) (c : Bool) : SvKin S (markS S rc p c) :=
 ⟨rfl, rfl, rfl, markS_len .., fun i m hm => by
  rw [markS_get, hm]
  refine ⟨_, rfl, ?_⟩
  split <;> exact ⟨rfl, rfl, rfl, rfl⟩⟩
theorem kin_best (S : Sv) (rc : Nat) (p : Pf) (b : Option (Int × At)) : SvKin S (setBestS S rc p b) := ⟨rfl, rfl, rfl, rfl, fun _ m h => ⟨m, h, rfl, rfl, rfl, rfl⟩⟩
theorem kin_renew (S : Sv) (rc : Nat) (p : Pf) (l : List Cd) : SvKin S (renewP S rc p l) := (kin_best S rc p _).trans (kin_mark _ rc p _)
theorem kin_turn1 (S : Sv) (p : Pf) (l : List Cd) : ∀ k, SvKin S (turn1 S p l k)
 | 0 => SvKin.refl S
 | k + 1 => by rw [turn1_succ]; exact (kin_turn1 S p l k).trans (kin_renew ..)
theorem kin_turn : ∀ (ps : List Pf) (S : Sv), SvKin S (turnS S ps)
 | [], S => SvKin.refl S
 | p :: ps, S => (kin_turn1 S p _ _).trans (kin_turn ps (turnP S p))
def bestIn (S : Sv) (rc : Nat) (p : Pf) : Option (Int × At) := bestS S.own S.bl S.ms rc p
theorem SvKin.bestIn {S T : Sv} (h : SvKin S T) (rc : Nat) (p : Pf) : bestIn T rc p = bestIn S rc p := by
 unfold Proofs.YtkoidahgbbabiaaGreat.bestIn bestS offS
 rw [h.own, h.bl, h.asO, h.said]
theorem newBest_said (S : Sv) (rc : Nat) (p : Pf) : newBest S rc (saidS S.ms p) = bestIn S rc p := rfl
theorem SvKin.newBest {S T : Sv} (h : SvKin S T) (rc : Nat) (l : List Cd) : newBest T rc l = newBest S rc l := by
 unfold Proofs.YtkoidahgbbabiaaGreat.newBest
 rw [h.own, h.bl, h.asO]
theorem turn1_best (S : Sv) (p : Pf) (l : List Cd) : ∀ (k i : Nat) (q : Pf), (turn1 S p l k).best i q = if i < k ∧ q = p then newBest S i l else S.best i q
 | 0, i, q => by rw [if_neg (by omega)]; rfl
 | k + 1, i, q => by
  rw [turn1_succ]
  unfold renewP setBestS
  simp only [markS_best]
  unfold updB
  rw [turn1_best S p l k, (kin_turn1 S p l k).newBest]
  by_cases h : i = k ∧ q = p
  ·obtain ⟨rfl, rfl⟩ := h
   rw [if_pos ⟨rfl, rfl⟩, if_pos ⟨by omega, rfl⟩]
  ·rw [if_neg h]
   by_cases h2 : i < k ∧ q = p
   ·rw [if_pos h2, if_pos ⟨by omega, h2.2⟩]
   ·rw [if_neg h2, if_neg (fun h3 => ?_)]
    by_cases e : i = k
    ·exact h ⟨e, h3.2⟩
    ·exact h2 ⟨by omega, h3.2⟩
theorem turn1_mem (S : Sv) (p : Pf) (l : List Cd) : ∀ (k i : Nat) (m : Pm), S.ms[i]? = some m → (turn1 S p l k).ms[i]? = some (if i < k then m.mark p (m.there && !sameB (S.best i p) (newBest S i l)) else m)
 | 0, i, m, hm => by rw [if_neg (by omega)]; exact hm
 | k + 1, i, m, hm => by
  rw [turn1_succ]
  unfold renewP
  rw [markS_get]
  unfold setBestS
  simp only
  rw [turn1_mem S p l k i m hm, (kin_turn1 S p l k).newBest, turn1_best, if_neg (by omega)]
  simp only [Option.map_some, Option.some.injEq]
  by_cases h : i = k
  ·subst h
   rw [if_pos rfl, if_neg (by omega), if_pos (by omega)]
  ·rw [if_neg h]
   by_cases h2 : i < k
   ·rw [if_pos h2, if_pos (by omega)]
   ·rw [if_neg h2, if_neg (by omega)]
theorem mark_news (m : Pm) (p : Pf) (c : Bool) (q : Pf) : (m.mark p c).news q = (m.news q || (c && decide (q = p))) := rfl
theorem turnS_best : ∀ (ps : List Pf) (S : Sv) (i : Nat) (q : Pf), i < S.ms.length → (turnS S ps).best i q = if q ∈ ps then bestIn S i q else S.best i q
 | [], S, i, q, _ => by rw [if_neg (by simp)]; rfl
 | p :: ps, S, i, q, hi => by
  have hk : SvKin S (turnP S p) := kin_turn1 S p _ _
  show (turnS (turnP S p) ps).best i q = _
  rw [turnS_best ps (turnP S p) i q (by rw [hk.len]; exact hi), hk.bestIn]
  by_cases h : q ∈ ps
  ·rw [if_pos h, if_pos (List.mem_cons_of_mem _ h)]
  ·rw [if_neg h]
   unfold turnP
   rw [turn1_best]
   by_cases e : q = p
   ·subst e
    rw [if_pos ⟨hi, rfl⟩, if_pos (List.mem_cons_self ..), newBest_said]
   ·rw [if_neg (fun h2 => e h2.2), if_neg (by simp [e, h])]
theorem turnS_news : ∀ (ps : List Pf) (S : Sv) (i : Nat) (m : Pm), S.ms[i]? = some m → ∃ n, (turnS S ps).ms[i]? = some n ∧ n.as_ = m.as_ ∧ n.id = m.id ∧ n.there = m.there ∧ n.R = m.R ∧ ∀ q, n.news q = (m.news q || (m.there && (decide (q ∈ ps) && !sameB (S.best i q) (bestIn S i q))))
 | [], S, i, m, hm => ⟨m, hm, rfl, rfl, rfl, rfl, fun q => by simp⟩
 | p :: ps, S, i, m, hm => by
  have hi := (List.getElem?_eq_some_iff.1 hm).1
  have hk : SvKin S (turnP S p) := kin_turn1 S p _ _
  have h1 : (turnP S p).ms[i]? = some (m.mark p (m.there && !sameB (S.best i p) (bestIn S i p))) := by
   unfold turnP
   rw [turn1_mem S p _ _ i m hm, if_pos hi, newBest_said]
  obtain ⟨n, n1, n2, n3, n4, n5, n6⟩ := turnS_news ps (turnP S p) i _ h1
  refine ⟨n, n1, n2, n3, n4, n5, fun q => ?_⟩
  rw [n6, mark_news, hk.bestIn]
  have hb : (turnP S p).best i q = if q = p then bestIn S i q else S.best i q := by
   unfold turnP
   rw [turn1_best]
   by_cases e : q = p
   ·subst e; rw [if_pos ⟨hi, rfl⟩, if_pos rfl, newBest_said]
   ·rw [if_neg (fun h => e h.2), if_neg e]
  rw [hb]
  have hth : (m.mark p (m.there && !sameB (S.best i p) (bestIn S i p))).there = m.there := rfl
  rw [hth]
  by_cases e : q = p
  ·subst e
   have : sameB (bestIn S i q) (bestIn S i q) = true := (sameB_iff _ _).2 rfl
   simp [this]
  ·have h3 : decide (q ∈ p :: ps) = decide (q ∈ ps) := by simp [e]
   rw [if_neg e, h3]
   simp [e]
open Go.RowKit
set_option maxHeartbeats 1600000 in
set_option maxRecDepth 100000 in
theorem ad_New (peer own most : Int) (w : World) : Calls Tryz.prog 57 #[.int .i64 peer, .int .i64 own, .int .i64 most] w fun e w' => ∃ rb, e = .returned (.pointer (some ⟨rb, 0, none⟩)) ∧ RibAt w' rb peer own (min (max most 0) 256) [] (fun k => w.heap.size ≤ k ∧ k < w'.heap.size) ∧ Below w.heap.size w w' := by
 have FIN : Hid (∀ m w1, m = min (max most 0) 256 → TrI w1 w.heap.size (fun _ => none) [] (min (max m 0) 4096) → Below w.heap.size w w1 → RibAt (w1.alloc (.cells #[.int .i64 peer, .int .i64 own, .int .i64 m, .pointer (some ⟨w.heap.size, 0, none⟩)] 169)) w1.heap.size peer own (min (max most 0) 256) [] (fun k => w.heap.size ≤ k ∧ k < (w1.alloc (.cells #[.int .i64 peer, .int .i64 own, .int .i64 m, .pointer (some ⟨w.heap.size, 0, none⟩)] 169)).heap.size)) := jh (by
  intro m w1 hm ht hb
  rw [← hm]
  have e : min (max m 0) 4096 = m := by omega
  rw [e] at ht
  have hlt := ht.lt
  refine ⟨w.heap.size, fun _ => none, [], ⟨heap_alloc_new w1 _, ht.below ((Below.refl _ _).alloc (Nat.le_refl _) _), by simp, by simp, by simp, ?_, ?_, by simp, ?_, by simp, by omega, by omega, by simp; omega⟩, rfl⟩
  ·have := hb.size; simp; omega
  ·intro b hb'
   rcases hb' with rfl | ⟨k, hk⟩
   ·simp; omega
   ·cases hk
  ·intro x
   rcases x with x | ⟨k, hk⟩
   ·omega
   ·cases hk)
 have TN := jh (fun m => trI_New m w)
 go_enter Tryz.func57, Tryz.ntmps57
 go_upto_region 2 with (fail)
 all_goals
  go_wp2_with fail
  refine (TN.out _).mono ?_
  rintro e w1 ⟨rfl, T1, hb⟩
  have T := jh T1
  have HB := jh hb
  clear T1 hb
  go_wp2_with fail
  go_ret
  exact ⟨_, rfl, FIN.out _ _ (by omega) T.out HB.out, HB.out.alloc HB.out.size _⟩
abbrev rtC (peer : Int) (p : Pf) (v : AV) : Array Value := #[.int .i64 peer, .int .u32 p.1, .int .i64 p.2, .int .i64 v.has, .int .i64 v.origin, .slice v.ps v.pn v.pc, .int .u32 v.hop, .int .i64 v.med, .int .i64 v.loc, .int .i64 v.aggrAs, .int .u32 v.aggrId, .slice v.cs v.cn v.cc, .slice v.os v.on v.oc]
theorem rt_one (peer : Int) (p : Pf) (v : AV) : ((rtC peer p v).all (·.oneCell')) = true := by simp [Value.oneCell']
theorem results_GetR (tmps : Array Value) (W : World) (b : Nat) (C : Array Value) (hC : C.size = 13) (c : Bool) (h4 : tmps.getD 4 undef = .pointer (some ⟨b, 0, none⟩)) (h5 : tmps.getD 5 undef = .bool c) (hb : W.heap[b]? = some (.cells C 61 (0, 0))) :
  (results Tryz.f75 tmps).run Tryz.prog W = .ok (.tuple #[.agg C, .bool c]) W := by
 have hl := run_loadVar_row (P := Tryz.prog) W b 61 61 C (0, 0) _ hb Tryz.underlying61 rfl (by rw [hC]; kernel_rfl)
 unfold results
 rw [Tryz.results75]
 simp [h4, h5, hl, asAddr, -Array.getD_eq_getD_getElem?]
theorem box_pr (w : World) (a n : Int) : ∃ W0, W0 = (w.alloc (.cells #[.int .u32 a, .int .i64 n] 53)).alloc (.cells #[.int .i64 0, .int .u32 0, .int .i64 0, .int .i64 0, .int .i64 0, .slice none 0 0, .int .u32 0, .int .i64 0, .int .i64 0, .int .i64 0, .int .u32 0, .slice none 0 0, .slice none 0 0] 61) ∧ W0.cell? ⟨w.heap.size, 0, none⟩ = some (.int .u32 a) ∧ W0.cell? ⟨w.heap.size, 1, none⟩ = some (.int .i64 n) ∧ W0.heap[w.heap.size + 1]? = some (.cells (rtC 0 (0, 0) av0) 61 (0, 0)) ∧ Below w.heap.size w W0 := by
 obtain ⟨W0, h1, h2, h3, h4⟩ := boxTwo w #[.int .u32 a, .int .i64 n] 53 (rtC 0 (0, 0) av0) 61
 exact ⟨W0, h1, jB h2 0, jB h2 1, h3, h4⟩
def GetPost (peer : Int) (R : List (Pf × At)) (p : Pf) (w : World) (e : Ending) (w' : World) : Prop :=
 (getL R p = none ∧ e = .returned (.tuple #[.agg (rtC 0 (0, 0) av0), .bool false]) ∧ Below w.heap.size w w') ∨
 ∃ (a : At) (v : AV), getL R p = some a ∧ e = .returned (.tuple #[.agg (rtC peer p v), .bool true]) ∧ AtSz a ∧ Fresh w.heap.size w' (fun W => AvU W a v) ∧ Below w.heap.size w w'
theorem box_zk {W : World} {p : World → Prop} (h : ∀ w1 : World, w1.heap[W.heap.size]? = some (.cells av0.C 42 (0, 0)) → Below W.heap.size W w1 → p w1) : p (W.alloc (.cells #[.int .i64 0, .int .i64 0, .slice none 0 0, .int .u32 0, .int .i64 0, .int .i64 0, .int .i64 0, .int .u32 0, .slice none 0 0, .slice none 0 0] 42)) :=
 h _ (heap_alloc_new W _) ((Below.refl _ _).alloc (Nat.le_refl _) _)
theorem jT {W : World} {p : World → Prop} {g : Nat} {old cs : Array Value} {t : TypeId} (hg : W.heap[g]? = some (.cells old t (0, 0))) (h : ∀ w1 : World, w1.heap[g]? = some (.cells cs t (0, 0)) → Kept (fun b => b = g) W w1 → p w1) : p (W.setRow g cs) :=
 h _ (setRow_heap _ _ _ _ _ _ hg) (kept_setRow _ _ rfl)
theorem rib_get {rb tb : Nat} {N : Nat → Option Nat} {E : List Ent} {peer own most : Int} {F : Nat → Prop} (p : Pf) (W : World) (h : RibIn W rb tb N E peer own most F) (hp : OkP p) :
  (findE E p = none → Calls Tryz.prog 97 #[.pointer (some ⟨tb, 0, none⟩), .agg #[.int .u32 p.1, .int .i64 p.2]] W fun e w' => e = .returned (.tuple #[av0.V, .bool false]) ∧ Below W.heap.size W w') ∧
   ∀ x, findE E p = some x → Calls Tryz.prog 97 #[.pointer (some ⟨tb, 0, none⟩), .agg #[.int .u32 p.1, .int .i64 p.2]] W fun e w' => e = .returned (.tuple #[x.v.V, .bool true]) ∧ Below W.heap.size W w' := by
 have ht := h.tri
 by_cases hr : rightB p.1 p.2 = true
 ·obtain ⟨a, n, rfl, ha, hn, -, hr'⟩ := (show RgtP p from ⟨hp, hr⟩).nat
  have key := find_kvs h.rgt (p := ((a : Int), (n : Int))) ⟨hp, hr⟩
  have G := trI_Get a n W ht ha hr'
  have e1 : pKey ((a : Int), (n : Int)) = keyN a n := rfl
  rw [e1] at key
  refine ⟨fun hn => ?_, fun x hx => ?_⟩
  ·rw [hn] at key
   refine G.mono ?_
   rintro e w' ⟨rfl, hb⟩
   exact ⟨(getE_no key).symm, hb⟩
  ·rw [hx] at key
   refine G.mono ?_
   rintro e w' ⟨rfl, hb⟩
   exact ⟨(getE_yes key).symm, hb⟩
 ·refine ⟨fun _ => trI_Get_no _ p.1 p.2 W hp.1 hp.2 (by simpa using hr), fun x hx => ?_⟩
  obtain ⟨hm, rfl⟩ := findE_mem hx
  exact absurd (h.rgt x hm).2 hr
set_option maxHeartbeats 3200000 in
set_option maxRecDepth 100000 in
theorem ad_Get_in {rb tb : Nat} {N : Nat → Option Nat} {E : List Ent} {peer own most : Int} {F : Nat → Prop} (p : Pf) (w : World) (h : RibIn w rb tb N E peer own most F) (hp : OkP p) :
  Calls Tryz.prog 75 #[.pointer (some ⟨rb, 0, none⟩), .agg #[.int .u32 p.1, .int .i64 p.2]] w (GetPost peer (rts E) p w) := by
 have hfind := find_rts E p
 have TG := jh (fun W (hb : Below w.heap.size w W) => rib_get p W (h.below hb) hp)
 have HI := jh h
 have HL : Hid (rb < w.heap.size) := jh (jE h.row)
 obtain ⟨r0, _, _, r3⟩ := h.cells
 have R0 := jh r0
 have R3 := jh r3
 clear h r0 r3
 go_enter Tryz.func75, Tryz.ntmps75
 go_upto_region 1 with (fail)
 obtain ⟨W0, hW0, c0, c1, rz, hB⟩ := box_pr w p.1 p.2
 rw [← hW0]; clear hW0
 have RZ := jh rz
 have HB := jh hB
 have q3 := jA R3.out hB
 clear rz hB
 cases hx : findE E p with
 | none =>
  have GP := jh (fun W (hb : Below W0.heap.size W0 W) => (TG.out W (jC HB.out hb)).1 hx)
  have FN : Hid (getL (rts E) p = none) := jh (by rw [hfind, hx]; rfl)
  clear hx hfind TG
  go_upto_region 3 with (fail)
  go_cut [6, 7] (fun s6 s7 wx => s7 = .bool false ∧ Hid (Below W0.heap.size W0 wx))
  case first =>
   refine wp_region_held_drew (S := fun w' => Below W0.heap.size W0 w') (by kernel_rfl) ?_ (fun hHeld => ?_)
   ·exact (Below.refl _ _).drew
   generalize World.drew W0 = wd at hHeld ⊢
   refine qy 0 ?_ ?_ ?_ hHeld ?_; rotate_left 1; (· rfl); (· intro w' hSw; (try clear hHeld); go_simp; try with_reducible rfl)
   try simp only [jz]
   refine qy 4 ?_ ?_ ?_ hHeld ?_; rotate_left 1; (· rfl); (· intro w' hSw; have c0 := jA c0 hSw; have c1 := jA c1 hSw; have q3 := jA q3 hSw; (try clear hHeld); go_simp; try with_reducible rfl)
   try simp only [jz]
   refine jI (i := 1) (j := 9) (atS at0) (atS (atS (atS (atS (atS (atS (atS (atS (atS at0))))))))) (by kernel_rfl) ?_ ?_ (fun K hK => ?_) (fun K hK => ?_)
   ·rfl
   ·rfl
   ·(try clear hb); go_simp; go_wp2_with fail; refine hK.out _ _ ?_ (fun hHeld => ?_); (· exact hHeld); clear hK K
    try simp only [jz]
    refine qy 2 ?_ ?_ ?_ hHeld ?_; rotate_left 1; (· rfl); (· intro w' hSw; (try clear hHeld); go_simp; try with_reducible rfl)
    try simp only [jz]
    refine qy 3 ?_ ?_ ?_ hHeld ?_; rotate_left 1; (· rfl); (· intro w' hSw; have c0 := jA c0 hSw; have c1 := jA c1 hSw; have q3 := jA q3 hSw; (try clear hHeld); go_simp; try with_reducible rfl)
    try simp only [jz]
    refine jI (i := 5) (j := 9) (atS (atS (atS (atS (atS at0))))) (atS (atS (atS (atS (atS (atS (atS (atS (atS at0))))))))) (by kernel_rfl) ?_ ?_ (fun K hK => ?_) (fun K hK => ?_)
    ·rfl
    ·rfl
    ·(try clear hb); go_simp; (refine (GP.out _ hHeld).mono ?_; rintro e w1 ⟨rfl, hb⟩); (try replace hz := (hb.block _ (jE hz)).trans hz); go_wp2_with fail; refine hK.out _ _ ?_ (fun hHeld => ?_); (· exact hHeld.trans (hb.mono hHeld.size)); clear hK K
     try simp only [jz]
     refine qy 6 ?_ ?_ ?_ hHeld ?_; rotate_left 1; (· rfl); (· intro w' hSw; (try clear hHeld); go_simp; try with_reducible rfl)
     try simp only [jz]
     refine qy 7 ?_ ?_ ?_ hHeld ?_; rotate_left 1; (· rfl); (· intro w' hSw; (try clear hHeld); go_simp; try with_reducible rfl)
     try simp only [jz]
     refine qy 8 ?_ ?_ ?_ hHeld ?_; rotate_left 1; (· rfl); (· intro w' hSw; (try clear hHeld); go_simp; try with_reducible rfl)
     try simp only [jz]
     refine jr 9 ?_ fun K hK => ?_; (· rfl); (try clear hb); go_simp; refine box_zk (p := K _) ?_; intro w1 hz hb; have hgs := hHeld.size; refine hK.out _ _ ?_ (fun hHeld => ?_); (· exact jC hHeld hb); clear hK K
     try simp only [jz]
     refine jr 10 ?_ fun K hK => ?_; (· rfl); (try clear hb); refine jG 42 (.tmp 6) (.tmp 18) rfl _ rfl 42 av0.C _ rfl hz (by kernel_rfl) rfl (AV.one _) ?_; refine jT hz (p := K _) ?_; intro w2 hr hk2; refine hK.out _ _ ?_ (fun hHeld => ?_); (· exact hHeld.trans (hk2.below hHeld.size (by rintro k rfl; exact hgs))); clear hK K
     try simp only [Act.put]
     refine qy 11 ?_ ?_ ?_ hHeld ?_; rotate_left 1; (· rfl); (· intro w' hSw; (try clear hHeld); go_simp; try with_reducible rfl)
     try simp only [jz]
     refine wpAnyH_done (by kernel_rfl) ?_ _
     go_wp2_with fail
     go_meet
     exact ⟨rfl, jh hHeld⟩
    ·(try clear hb); go_simp; refine box_zk (p := K _) ?_; intro w1 hz hb; have hgs := hHeld.size; refine hK.out _ _ ?_ (fun hHeld => ?_); (· exact jC hHeld hb); clear hK K
     try simp only [jz]
     refine jr 5 ?_ fun K hK => ?_; (· rfl); (try clear hb); go_simp; (refine (GP.out _ hHeld).mono ?_; rintro e w1 ⟨rfl, hb⟩); (try replace hz := (hb.block _ (jE hz)).trans hz); go_wp2_with fail; refine hK.out _ _ ?_ (fun hHeld => ?_); (· exact hHeld.trans (hb.mono hHeld.size)); clear hK K
     try simp only [jz]
     refine qy 6 ?_ ?_ ?_ hHeld ?_; rotate_left 1; (· rfl); (· intro w' hSw; (try clear hHeld); go_simp; try with_reducible rfl)
     try simp only [jz]
     refine qy 7 ?_ ?_ ?_ hHeld ?_; rotate_left 1; (· rfl); (· intro w' hSw; (try clear hHeld); go_simp; try with_reducible rfl)
     try simp only [jz]
     refine qy 8 ?_ ?_ ?_ hHeld ?_; rotate_left 1; (· rfl); (· intro w' hSw; (try clear hHeld); go_simp; try with_reducible rfl)
     try simp only [jz]
     refine jr 10 ?_ fun K hK => ?_; (· rfl); (try clear hb); refine jG 42 (.tmp 6) (.tmp 18) rfl _ rfl 42 av0.C _ rfl hz (by kernel_rfl) rfl (AV.one _) ?_; refine jT hz (p := K _) ?_; intro w2 hr hk2; refine hK.out _ _ ?_ (fun hHeld => ?_); (· exact hHeld.trans (hk2.below hHeld.size (by rintro k rfl; exact hgs))); clear hK K
     try simp only [Act.put]
     refine qy 11 ?_ ?_ ?_ hHeld ?_; rotate_left 1; (· rfl); (· intro w' hSw; (try clear hHeld); go_simp; try with_reducible rfl)
     try simp only [jz]
     refine wpAnyH_done (by kernel_rfl) ?_ _
     go_wp2_with fail
     go_meet
     exact ⟨rfl, jh hHeld⟩
   ·(try clear hb); go_simp; refine box_zk (p := K _) ?_; intro w1 hz hb; have hgs := hHeld.size; refine hK.out _ _ ?_ (fun hHeld => ?_); (· exact jC hHeld hb); clear hK K
    try simp only [jz]
    refine jr 1 ?_ fun K hK => ?_; (· rfl); (try clear hb); go_simp; go_wp2_with fail; refine hK.out _ _ ?_ (fun hHeld => ?_); (· exact hHeld); clear hK K
    try simp only [jz]
    refine qy 2 ?_ ?_ ?_ hHeld ?_; rotate_left 1; (· rfl); (· intro w' hSw; (try clear hHeld); go_simp; try with_reducible rfl)
    try simp only [jz]
    refine qy 3 ?_ ?_ ?_ hHeld ?_; rotate_left 1; (· rfl); (· intro w' hSw; have c0 := jA c0 hSw; have c1 := jA c1 hSw; have q3 := jA q3 hSw; (try clear hHeld); go_simp; try with_reducible rfl)
    try simp only [jz]
    refine jr 5 ?_ fun K hK => ?_; (· rfl); (try clear hb); go_simp; (refine (GP.out _ hHeld).mono ?_; rintro e w1 ⟨rfl, hb⟩); (try replace hz := (hb.block _ (jE hz)).trans hz); go_wp2_with fail; refine hK.out _ _ ?_ (fun hHeld => ?_); (· exact hHeld.trans (hb.mono hHeld.size)); clear hK K
    try simp only [jz]
    refine qy 6 ?_ ?_ ?_ hHeld ?_; rotate_left 1; (· rfl); (· intro w' hSw; (try clear hHeld); go_simp; try with_reducible rfl)
    try simp only [jz]
    refine qy 7 ?_ ?_ ?_ hHeld ?_; rotate_left 1; (· rfl); (· intro w' hSw; (try clear hHeld); go_simp; try with_reducible rfl)
    try simp only [jz]
    refine qy 8 ?_ ?_ ?_ hHeld ?_; rotate_left 1; (· rfl); (· intro w' hSw; (try clear hHeld); go_simp; try with_reducible rfl)
    try simp only [jz]
    refine jr 10 ?_ fun K hK => ?_; (· rfl); (try clear hb); refine jG 42 (.tmp 6) (.tmp 18) rfl _ rfl 42 av0.C _ rfl hz (by kernel_rfl) rfl (AV.one _) ?_; refine jT hz (p := K _) ?_; intro w2 hr hk2; refine hK.out _ _ ?_ (fun hHeld => ?_); (· exact hHeld.trans (hk2.below hHeld.size (by rintro k rfl; exact hgs))); clear hK K
    try simp only [Act.put]
    refine qy 11 ?_ ?_ ?_ hHeld ?_; rotate_left 1; (· rfl); (· intro w' hSw; (try clear hHeld); go_simp; try with_reducible rfl)
    try simp only [jz]
    refine wpAnyH_done (by kernel_rfl) ?_ _
    go_wp2_with fail
    go_meet
    exact ⟨rfl, jh hHeld⟩
  case rest =>
   obtain ⟨rfl, HH⟩ := hcut
   have RZ1 := jh ((HH.out.block _ (jE RZ.out)).trans RZ.out)
   have B1 := jh (jC HB.out HH.out)
   obtain ⟨wd, hwd⟩ : ∃ wd : World, wd = wc := ⟨_, rfl⟩
   rw [← hwd] at RZ1 B1 ⊢
   clear hwd c0 c1 q3 HH
   go_wp2_with ((with_reducible refine jM (X := .store 61 (.tmp 4) (.tmp 22)) ?_ ?_); (· rfl))
   unfold Halt
   refine st_row rfl 61 _ _ rfl (w.heap.size + 1) rfl 61 (rtC 0 (0, 0) av0) (rtC 0 (0, 0) av0) rfl RZ1.out (by kernel_rfl) rfl (rt_one _ _ _) ?_
   go_wp2_with fail
   refine bodyPost_ret (results_GetR _ _ (w.heap.size + 1) (rtC 0 (0, 0) av0) rfl false ?_ ?_ (setRow_heap _ _ _ _ _ _ RZ1.out)) rfl (.inl ⟨FN.out, rfl, below_setRow B1.out (Nat.le_succ _) _⟩) <;> rfl
 | some x =>
  have GP := jh (fun W (hb : Below W0.heap.size W0 W) => (TG.out W (jC HB.out hb)).2 x hx)
  have FN : Hid (getL (rts E) p = some x.a) := jh (by rw [hfind, hx]; rfl)
  have XM := jh (findE_mem hx).1
  clear hx hfind TG
  go_upto_region 3 with (fail)
  go_cut [6, 7] (fun s6 s7 wx => ∃ g, s6 = .pointer (some ⟨g, 0, none⟩) ∧ s7 = .bool true ∧ Hid (Below W0.heap.size W0 wx ∧ W0.heap.size ≤ g ∧ wx.heap[g]? = some (.cells x.v.C 42 (0, 0))))
  case first =>
   refine wp_region_held_drew (S := fun w' => Below W0.heap.size W0 w') (by kernel_rfl) ?_ (fun hHeld => ?_)
   ·exact (Below.refl _ _).drew
   generalize World.drew W0 = wd at hHeld ⊢
   refine qy 0 ?_ ?_ ?_ hHeld ?_; rotate_left 1; (· rfl); (· intro w' hSw; (try clear hHeld); go_simp; try with_reducible rfl)
   try simp only [jz]
   refine qy 4 ?_ ?_ ?_ hHeld ?_; rotate_left 1; (· rfl); (· intro w' hSw; have c0 := jA c0 hSw; have c1 := jA c1 hSw; have q3 := jA q3 hSw; (try clear hHeld); go_simp; try with_reducible rfl)
   try simp only [jz]
   refine jI (i := 1) (j := 9) (atS at0) (atS (atS (atS (atS (atS (atS (atS (atS (atS at0))))))))) (by kernel_rfl) ?_ ?_ (fun K hK => ?_) (fun K hK => ?_)
   ·rfl
   ·rfl
   ·(try clear hb); go_simp; go_wp2_with fail; refine hK.out _ _ ?_ (fun hHeld => ?_); (· exact hHeld); clear hK K
    try simp only [jz]
    refine qy 2 ?_ ?_ ?_ hHeld ?_; rotate_left 1; (· rfl); (· intro w' hSw; (try clear hHeld); go_simp; try with_reducible rfl)
    try simp only [jz]
    refine qy 3 ?_ ?_ ?_ hHeld ?_; rotate_left 1; (· rfl); (· intro w' hSw; have c0 := jA c0 hSw; have c1 := jA c1 hSw; have q3 := jA q3 hSw; (try clear hHeld); go_simp; try with_reducible rfl)
    try simp only [jz]
    refine jI (i := 5) (j := 9) (atS (atS (atS (atS (atS at0))))) (atS (atS (atS (atS (atS (atS (atS (atS (atS at0))))))))) (by kernel_rfl) ?_ ?_ (fun K hK => ?_) (fun K hK => ?_)
    ·rfl
    ·rfl
    ·(try clear hb); go_simp; (refine (GP.out _ hHeld).mono ?_; rintro e w1 ⟨rfl, hb⟩); (try replace hz := (hb.block _ (jE hz)).trans hz); go_wp2_with fail; refine hK.out _ _ ?_ (fun hHeld => ?_); (· exact hHeld.trans (hb.mono hHeld.size)); clear hK K
     try simp only [jz]
     refine qy 6 ?_ ?_ ?_ hHeld ?_; rotate_left 1; (· rfl); (· intro w' hSw; (try clear hHeld); go_simp; try with_reducible rfl)
     try simp only [jz]
     refine qy 7 ?_ ?_ ?_ hHeld ?_; rotate_left 1; (· rfl); (· intro w' hSw; (try clear hHeld); go_simp; try with_reducible rfl)
     try simp only [jz]
     refine qy 8 ?_ ?_ ?_ hHeld ?_; rotate_left 1; (· rfl); (· intro w' hSw; (try clear hHeld); go_simp; try with_reducible rfl)
     try simp only [jz]
     refine jr 9 ?_ fun K hK => ?_; (· rfl); (try clear hb); go_simp; refine box_zk (p := K _) ?_; intro w1 hz hb; have hgs := hHeld.size; refine hK.out _ _ ?_ (fun hHeld => ?_); (· exact jC hHeld hb); clear hK K
     try simp only [jz]
     refine jr 10 ?_ fun K hK => ?_; (· rfl); (try clear hb); refine jG 42 (.tmp 6) (.tmp 18) rfl _ rfl 42 av0.C _ rfl hz (by kernel_rfl) rfl (AV.one _) ?_; refine jT hz (p := K _) ?_; intro w2 hr hk2; refine hK.out _ _ ?_ (fun hHeld => ?_); (· exact hHeld.trans (hk2.below hHeld.size (by rintro k rfl; exact hgs))); clear hK K
     try simp only [Act.put]
     refine qy 11 ?_ ?_ ?_ hHeld ?_; rotate_left 1; (· rfl); (· intro w' hSw; (try clear hHeld); go_simp; try with_reducible rfl)
     try simp only [jz]
     refine wpAnyH_done (by kernel_rfl) ?_ _
     go_wp2_with fail
     go_meet
     exact ⟨_, rfl, rfl, jh ⟨hHeld, hgs, hr⟩⟩
    ·(try clear hb); go_simp; refine box_zk (p := K _) ?_; intro w1 hz hb; have hgs := hHeld.size; refine hK.out _ _ ?_ (fun hHeld => ?_); (· exact jC hHeld hb); clear hK K
     try simp only [jz]
     refine jr 5 ?_ fun K hK => ?_; (· rfl); (try clear hb); go_simp; (refine (GP.out _ hHeld).mono ?_; rintro e w1 ⟨rfl, hb⟩); (try replace hz := (hb.block _ (jE hz)).trans hz); go_wp2_with fail; refine hK.out _ _ ?_ (fun hHeld => ?_); (· exact hHeld.trans (hb.mono hHeld.size)); clear hK K
     try simp only [jz]
     refine qy 6 ?_ ?_ ?_ hHeld ?_; rotate_left 1; (· rfl); (· intro w' hSw; (try clear hHeld); go_simp; try with_reducible rfl)
     try simp only [jz]
     refine qy 7 ?_ ?_ ?_ hHeld ?_; rotate_left 1; (· rfl); (· intro w' hSw; (try clear hHeld); go_simp; try with_reducible rfl)
     try simp only [jz]
     refine qy 8 ?_ ?_ ?_ hHeld ?_; rotate_left 1; (· rfl); (· intro w' hSw; (try clear hHeld); go_simp; try with_reducible rfl)
     try simp only [jz]
     refine jr 10 ?_ fun K hK => ?_; (· rfl); (try clear hb); refine jG 42 (.tmp 6) (.tmp 18) rfl _ rfl 42 av0.C _ rfl hz (by kernel_rfl) rfl (AV.one _) ?_; refine jT hz (p := K _) ?_; intro w2 hr hk2; refine hK.out _ _ ?_ (fun hHeld => ?_); (· exact hHeld.trans (hk2.below hHeld.size (by rintro k rfl; exact hgs))); clear hK K
     try simp only [Act.put]
     refine qy 11 ?_ ?_ ?_ hHeld ?_; rotate_left 1; (· rfl); (· intro w' hSw; (try clear hHeld); go_simp; try with_reducible rfl)
     try simp only [jz]
     refine wpAnyH_done (by kernel_rfl) ?_ _
     go_wp2_with fail
     go_meet
     exact ⟨_, rfl, rfl, jh ⟨hHeld, hgs, hr⟩⟩
   ·(try clear hb); go_simp; refine box_zk (p := K _) ?_; intro w1 hz hb; have hgs := hHeld.size; refine hK.out _ _ ?_ (fun hHeld => ?_); (· exact jC hHeld hb); clear hK K
    try simp only [jz]
    refine jr 1 ?_ fun K hK => ?_; (· rfl); (try clear hb); go_simp; go_wp2_with fail; refine hK.out _ _ ?_ (fun hHeld => ?_); (· exact hHeld); clear hK K
    try simp only [jz]
    refine qy 2 ?_ ?_ ?_ hHeld ?_; rotate_left 1; (· rfl); (· intro w' hSw; (try clear hHeld); go_simp; try with_reducible rfl)
    try simp only [jz]
    refine qy 3 ?_ ?_ ?_ hHeld ?_; rotate_left 1; (· rfl); (· intro w' hSw; have c0 := jA c0 hSw; have c1 := jA c1 hSw; have q3 := jA q3 hSw; (try clear hHeld); go_simp; try with_reducible rfl)
    try simp only [jz]
    refine jr 5 ?_ fun K hK => ?_; (· rfl); (try clear hb); go_simp; (refine (GP.out _ hHeld).mono ?_; rintro e w1 ⟨rfl, hb⟩); (try replace hz := (hb.block _ (jE hz)).trans hz); go_wp2_with fail; refine hK.out _ _ ?_ (fun hHeld => ?_); (· exact hHeld.trans (hb.mono hHeld.size)); clear hK K
    try simp only [jz]
    refine qy 6 ?_ ?_ ?_ hHeld ?_; rotate_left 1; (· rfl); (· intro w' hSw; (try clear hHeld); go_simp; try with_reducible rfl)
    try simp only [jz]
    refine qy 7 ?_ ?_ ?_ hHeld ?_; rotate_left 1; (· rfl); (· intro w' hSw; (try clear hHeld); go_simp; try with_reducible rfl)
    try simp only [jz]
    refine qy 8 ?_ ?_ ?_ hHeld ?_; rotate_left 1; (· rfl); (· intro w' hSw; (try clear hHeld); go_simp; try with_reducible rfl)
    try simp only [jz]
    refine jr 10 ?_ fun K hK => ?_; (· rfl); (try clear hb); refine jG 42 (.tmp 6) (.tmp 18) rfl _ rfl 42 av0.C _ rfl hz (by kernel_rfl) rfl (AV.one _) ?_; refine jT hz (p := K _) ?_; intro w2 hr hk2; refine hK.out _ _ ?_ (fun hHeld => ?_); (· exact hHeld.trans (hk2.below hHeld.size (by rintro k rfl; exact hgs))); clear hK K
    try simp only [Act.put]
    refine qy 11 ?_ ?_ ?_ hHeld ?_; rotate_left 1; (· rfl); (· intro w' hSw; (try clear hHeld); go_simp; try with_reducible rfl)
    try simp only [jz]
    refine wpAnyH_done (by kernel_rfl) ?_ _
    go_wp2_with fail
    go_meet
    exact ⟨_, rfl, rfl, jh ⟨hHeld, hgs, hr⟩⟩
  case rest =>
   obtain ⟨g, rfl, rfl, HH⟩ := hcut
   have rz0 := (HH.out.1.block _ (jE RZ.out)).trans RZ.out
   have B1 := jh (jC HB.out HH.out.1)
   have RG := jh HH.out.2.2
   have NE0 : Hid (¬ w.heap.size = w.heap.size + 1) := jh (by omega)
   have NE1 : Hid (¬ rb = w.heap.size + 1) := jh (by have := HL.out; omega)
   have NE2 : Hid (¬ g = w.heap.size + 1) := jh (by have := HH.out.2.1; have := jE RZ.out; omega)
   have c0 := jA c0 HH.out.1
   have c1 := jA c1 HH.out.1
   have SZ := jh (HI.out.szs x XM.out)
   have ON := jh (HI.out.ent x XM.out).2
   obtain ⟨wd, hwd⟩ : ∃ wd : World, wd = wc := ⟨_, rfl⟩
   rw [← hwd] at rz0 B1 RG c0 c1 ⊢
   clear hwd q3 HH RZ
   have q0 : wd.cell? ⟨rb, 0, none⟩ = some (.int .i64 peer) := (B1.out.cell (p := ⟨rb, 0, none⟩) HL.out).trans R0.out
   have CL : Hid (∀ W, Kept (fun b => b = w.heap.size + 1) wd W → Calls Tryz.prog 85 #[x.v.V] W fun e w' => ∃ u : AV, e = .returned u.V ∧ Fresh W.heap.size w' (fun W => AvU W x.a u) ∧ Below W.heap.size W w') := jh (fun W hk => av_CloneU x.a x.v W ((ON.out.below (B1.out.trans (hk.below B1.out.size (by rintro k rfl; omega)))).self) SZ.out)
   have rz : wd.drew.heap[w.heap.size + 1]? = some (.cells (rtC 0 (0, 0) av0) 61 (0, 0)) := rz0
   have WZ := jh (jE rz0)
   clear rz0
   go_wp2_with fail
   refine wp_region_held_drew (S := fun w1 => Kept (fun b => b = w.heap.size + 1) wd w1) (by kernel_rfl) ?_ (fun hHeld => ?_)
   ·exact (Kept.refl _ _).drew
   generalize World.drew wd = wg at rz hHeld ⊢
   refine qy 0 ?_ ?_ ?_ hHeld ?_; rotate_left 1; (· rfl); (· intro w' hSw; (try clear hHeld); go_simp; try with_reducible rfl)
   try simp only [jz]
   refine qy 4 ?_ ?_ ?_ hHeld ?_; rotate_left 1; (· rfl); (· intro w' hSw; have c0 := hSw.cell c0 NE0.out; have c1 := hSw.cell c1 NE0.out; have q0 := hSw.cell q0 NE1.out; (try clear hHeld); go_simp; try with_reducible rfl)
   try simp only [jz]
   refine qy 5 ?_ ?_ ?_ hHeld ?_; rotate_left 1; (· rfl); (· intro w' hSw; refine exec_ld 42 (.tmp 6) ?_ g ?_ 42 x.v.C (0, 0) _ ((hSw.block _ (jE RG.out) NE2.out).trans RG.out) Tryz.underlying42 rfl (by kernel_rfl) <;> rfl)
   try simp only [jz]
   refine jI (i := 1) (j := 6) (atS at0) (atS (atS (atS (atS (atS (atS at0)))))) (by kernel_rfl) ?_ ?_ (fun K hK => ?_) (fun K hK => ?_)
   ·rfl
   ·rfl
   ·(try clear hb); go_simp; go_wp2_with fail; refine hK.out _ _ ?_ (fun hHeld => ?_); (· exact hHeld); clear hK K
    try simp only [jz]
    refine qy 2 ?_ ?_ ?_ hHeld ?_; rotate_left 1; (· rfl); (· intro w' hSw; (try clear hHeld); go_simp; try with_reducible rfl)
    try simp only [jz]
    refine qy 3 ?_ ?_ ?_ hHeld ?_; rotate_left 1; (· rfl); (· intro w' hSw; have c0 := hSw.cell c0 NE0.out; have c1 := hSw.cell c1 NE0.out; have q0 := hSw.cell q0 NE1.out; (try clear hHeld); go_simp; try with_reducible rfl)
    try simp only [jz]
    refine jr 6 ?_ fun K hK => ?_; (· rfl); (try clear hb); go_simp; have hcs := hHeld.size; refine (CL.out _ hHeld).mono ?_; rintro e w1 ⟨u, rfl, fr, hb⟩; have FR := jh fr; clear fr; replace rz := (hb.block _ (jE rz)).trans rz; go_wp2_with fail; refine hK.out _ _ ?_ (fun hHeld => ?_); (· exact hHeld.grow hb); clear hK K
    try simp only [jz]
    refine qy 7 ?_ ?_ ?_ hHeld ?_; rotate_left 1; (· rfl); (· intro w' hSw; (try clear hHeld); go_simp; try with_reducible rfl)
    try simp only [jz]
    refine jr 8 ?_ fun K hK => ?_; (· rfl); (try clear hb); refine jG 61 (.tmp 4) (.tmp 30) rfl (w.heap.size + 1) rfl 61 (rtC 0 (0, 0) av0) (rtC peer p u) rfl rz (by kernel_rfl) rfl (rt_one _ _ _) ?_; refine jT rz (p := K _) ?_; intro w2 hr hk2; refine hK.out _ _ ?_ (fun hHeld => ?_); (· exact hHeld.trans hk2); clear hK K
    try simp only [Act.put]
    refine qy 9 ?_ ?_ ?_ hHeld ?_; rotate_left 1; (· rfl); (· intro w' hSw; (try clear hHeld); go_simp; try with_reducible rfl)
    try simp only [jz]
    refine wpAnyH_done (by kernel_rfl) ?_ _
    go_wp2_with fail
    refine bodyPost_ret (results_GetR _ _ (w.heap.size + 1) (rtC peer p u) rfl true ?_ ?_ hr) rfl (.inr ⟨x.a, u, FN.out, rfl, SZ.out, (FR.out.kept hk2 (fun k _ hl e => by have := WZ.out; omega)).wide (fun k hk _ => by have := WZ.out; omega), B1.out.trans (hHeld.below B1.out.size (by rintro k rfl; omega))⟩) <;> rfl
   ·(try clear hb); go_simp; have hcs := hHeld.size; refine (CL.out _ hHeld).mono ?_; rintro e w1 ⟨u, rfl, fr, hb⟩; have FR := jh fr; clear fr; replace rz := (hb.block _ (jE rz)).trans rz; go_wp2_with fail; refine hK.out _ _ ?_ (fun hHeld => ?_); (· exact hHeld.grow hb); clear hK K
    try simp only [jz]
    refine jr 1 ?_ fun K hK => ?_; (· rfl); (try clear hb); go_simp; go_wp2_with fail; refine hK.out _ _ ?_ (fun hHeld => ?_); (· exact hHeld); clear hK K
    try simp only [jz]
    refine qy 2 ?_ ?_ ?_ hHeld ?_; rotate_left 1; (· rfl); (· intro w' hSw; (try clear hHeld); go_simp; try with_reducible rfl)
    try simp only [jz]
    refine qy 3 ?_ ?_ ?_ hHeld ?_; rotate_left 1; (· rfl); (· intro w' hSw; have c0 := hSw.cell c0 NE0.out; have c1 := hSw.cell c1 NE0.out; have q0 := hSw.cell q0 NE1.out; (try clear hHeld); go_simp; try with_reducible rfl)
    try simp only [jz]
    refine qy 7 ?_ ?_ ?_ hHeld ?_; rotate_left 1; (· rfl); (· intro w' hSw; (try clear hHeld); go_simp; try with_reducible rfl)
    try simp only [jz]
    refine jr 8 ?_ fun K hK => ?_; (· rfl); (try clear hb); refine jG 61 (.tmp 4) (.tmp 30) rfl (w.heap.size + 1) rfl 61 (rtC 0 (0, 0) av0) (rtC peer p u) rfl rz (by kernel_rfl) rfl (rt_one _ _ _) ?_; refine jT rz (p := K _) ?_; intro w2 hr hk2; refine hK.out _ _ ?_ (fun hHeld => ?_); (· exact hHeld.trans hk2); clear hK K
    try simp only [Act.put]
    refine qy 9 ?_ ?_ ?_ hHeld ?_; rotate_left 1; (· rfl); (· intro w' hSw; (try clear hHeld); go_simp; try with_reducible rfl)
    try simp only [jz]
    refine wpAnyH_done (by kernel_rfl) ?_ _
    go_wp2_with fail
    refine bodyPost_ret (results_GetR _ _ (w.heap.size + 1) (rtC peer p u) rfl true ?_ ?_ hr) rfl (.inr ⟨x.a, u, FN.out, rfl, SZ.out, (FR.out.kept hk2 (fun k _ hl e => by have := WZ.out; omega)).wide (fun k hk _ => by have := WZ.out; omega), B1.out.trans (hHeld.below B1.out.size (by rintro k rfl; omega))⟩) <;> rfl
theorem ad_Get {rb : Nat} {peer own most : Int} {R : List (Pf × At)} {F : Nat → Prop} (p : Pf) (w : World) (h : RibAt w rb peer own most R F) (hp : OkP p) :
  Calls Tryz.prog 75 #[.pointer (some ⟨rb, 0, none⟩), .agg #[.int .u32 p.1, .int .i64 p.2]] w (GetPost peer R p w) := by
 obtain ⟨tb, N, E, hI, rfl⟩ := h
 exact ad_Get_in p w hI hp
open Go.RowKit
inductive Role where
 | no
 | top
 | mem (i : Nat)
 | best (i : Nat)
 | news (i : Nat)
 | rib (i : Nat)
 | att
 | fil
deriving DecidableEq
structure BV where
 peer : Int
 net : Pf
 a : At
 v : AV
abbrev bvV (b : BV) : Value := .agg (rtC b.peer b.net b.v)
abbrev BestT (W : World) (b : Nat) (l : List (Pf × BV)) : Prop := MapT pfV bvV KOk W b l
abbrev NewsT (W : World) (b : Nat) (l : List (Pf × Unit)) : Prop := MapT pfV unV KOk W b l
structure Pl where
 mb : Nat
 rb : Nat
 bb : Nat
 nb : Nat
abbrev mbC (m : Pm) (l : Pl) : Array Value := #[.int .i64 m.as_, .int .u32 m.id, .bool m.there, .pointer (some ⟨l.rb, 0, none⟩), .map (some l.bb), .map (some l.nb)]
structure GoodA (a : At) : Prop where
 hops : hopsN a.path ≤ 4611686018427387904
 rng : a.Rng
 sz : AtSz a
structure BestAt (W : World) (rho : Nat → Role) (bb : Nat) (best : Pf → Option (Int × At)) (L : List (Pf × BV)) : Prop where
 map : BestT W bb L
 get : ∀ p, (getL L p).map (fun b => (b.peer, b.a)) = best p
 val : ∀ x ∈ L, x.2.net = x.1 ∧ RgtP x.1 ∧ GoodA x.2.a ∧ On (fun k => rho k = .att) W (fun w => AvU w x.2.a x.2.v)
structure NewsAt (W : World) (nb : Nat) (news : Pf → Bool) (L : List (Pf × Unit)) : Prop where
 map : NewsT W nb L
 get : ∀ p, (getL L p).isSome = news p
 rgt : ∀ x ∈ L, RgtP x.1
theorem nodup_lt : ∀ (N : Nat) (l : List Nat), l.Nodup → (∀ x ∈ l, x < N) → l.length ≤ N
 | 0, l, _, h => by
  cases l with
  | nil => simp
  | cons x l => exact absurd (h x (by simp)) (by omega)
 | N + 1, l, hn, h => by
  have h1 := nodup_lt N (l.erase N) (hn.erase N) (fun x hx => by
   have h2 := (List.Nodup.mem_erase_iff hn).1 hx
   have := h x h2.2
   omega)
  have h2 := List.length_erase (l := l) (a := N)
  split at h2 <;> omega
theorem rgt_short {υ : Type} {l : List (Pf × υ)} (h : KeysApart l) (hr : ∀ x ∈ l, RgtP x.1) : l.length < maxLen := by
 have h1 : (l.map fun x => pKey x.1).Nodup := by
  rw [List.nodup_iff_pairwise_ne, List.pairwise_map]
  exact h.imp_of_mem fun {x y} hx hy hne e => hne (pKey_inj (hr x hx) (hr y hy) e)
 have h2 := nodup_lt (2 ^ 33) _ h1 (by
  intro k hk
  obtain ⟨x, hx, rfl⟩ := List.mem_map.1 hk
  obtain ⟨a, n, e, ha, hn, -⟩ := (hr x hx).nat
  rw [e]
  exact keyN_deep a n ha hn)
 rw [List.length_map] at h2
 unfold maxLen
 omega
structure PmAt (W : World) (rho : Nat → Role) (own most : Int) (i : Nat) (m : Pm) (best : Pf → Option (Int × At)) (l : Pl) : Prop where
 row : W.heap[l.mb]? = some (.cells (mbC m l) 130 (0, 0))
 rmb : rho l.mb = .mem i
 rib : RibAt W l.rb i own most m.R (fun k => rho k = .rib i)
 rbb : rho l.bb = .best i
 rnb : rho l.nb = .news i
 bests : ∃ L, BestAt W rho l.bb best L
 news : ∃ L, NewsAt W l.nb m.news L
 good : ∀ p a, getL m.R p = some a → GoodA a
 ids : 0 < m.id ∧ m.id < 4294967296
 ass : 1 ≤ m.as_ ∧ m.as_ ≤ 65535
def ofMem (i : Nat) (r : Role) : Prop := r = .mem i ∨ r = .best i ∨ r = .news i ∨ r = .rib i ∨ r = .att
section
variable {W W' : World} {rho rho' : Nat → Role} {own most : Int} {i : Nat} {m : Pm} {best : Pf → Option (Int × At)} {l : Pl} {G : Nat → Prop} {bb nb : Nat}
theorem BestAt.kept {L : List (Pf × BV)} (h : BestAt W rho bb best L) (hr : ∀ k, rho k ≠ .no → rho' k = rho k) (hk : Kept G W W') (hb : ¬ G bb) (hG : ∀ k, k < W.heap.size → rho k = .att → ¬ G k) : BestAt W' rho' bb best L :=
 ⟨h.map.kept hk hb, h.get, fun x hx => ⟨(h.val x hx).1, (h.val x hx).2.1, (h.val x hx).2.2.1,
  ((h.val x hx).2.2.2.kept hk fun k hl hF => hG k hl hF).wide fun k hF _ => (hr k (by rw [hF]; intro e; cases e)).trans hF⟩⟩
theorem NewsAt.kept {news : Pf → Bool} {L : List (Pf × Unit)} (h : NewsAt W nb news L) (hk : Kept G W W') (hb : ¬ G nb) : NewsAt W' nb news L := ⟨h.map.kept hk hb, h.get, h.rgt⟩
theorem PmAt.kept (h : PmAt W rho own most i m best l) (hr : ∀ k, rho k ≠ .no → rho' k = rho k) (hk : Kept G W W') (hG : ∀ k, k < W.heap.size → ofMem i (rho k) → ¬ G k) : PmAt W' rho' own most i m best l := by
 have e1 := hr l.mb (by rw [h.rmb]; intro e; cases e)
 have e2 := hr l.bb (by rw [h.rbb]; intro e; cases e)
 have e3 := hr l.nb (by rw [h.rnb]; intro e; cases e)
 refine ⟨(hk.block _ (jE h.row) (hG _ (jE h.row) (.inl h.rmb))).trans h.row, e1.trans h.rmb, ?_, e2.trans h.rbb, e3.trans h.rnb, ?_, ?_, h.good, h.ids, h.ass⟩
 ·exact (h.rib.kept hk fun k hl hF => hG k hl (.inr (.inr (.inr (.inl hF))))).wide fun k hF => (hr k (by rw [hF]; intro e; cases e)).trans hF
 ·obtain ⟨L, h1⟩ := h.bests
  exact ⟨L, h1.kept hr hk (hG _ h1.map.lt (.inr (.inl h.rbb))) fun k hl hF => hG k hl (.inr (.inr (.inr (.inr hF))))⟩
 ·obtain ⟨L, h1⟩ := h.news
  exact ⟨L, h1.kept hk (hG _ h1.map.lt (.inr (.inr (.inl h.rnb))))⟩
end
def TopAt (sb fb : Nat) (ls : List Pl) (W : World) : Prop :=
 ∃ s cap, W.heap[sb]? = some (.cells #[.slice s ls.length cap, .pointer (some ⟨fb, 0, none⟩)] 125 (0, 0)) ∧ SlAt W 1 (fun (l : Pl) cs => cs = [.pointer (some ⟨l.mb, 0, none⟩)]) (.slice s ls.length cap) ls
structure SrvB (W : World) (rho : Nat → Role) (fb : Nat) (ls : List Pl) (S : Sv) : Prop where
 fil : FilAt W fb S.own S.bl
 rfb : rho fb = .fil
 len : ls.length = S.ms.length
 few : S.ms.length ≤ 16
 mem : ∀ (i : Nat) m l, S.ms[i]? = some m → ls[i]? = some l → PmAt W rho S.own S.most i m (S.best i) l
 dom : ∀ k, rho k ≠ .no → k < W.heap.size
 own1 : 1 ≤ S.own ∧ S.own ≤ 65535
structure SrvM (W : World) (rho : Nat → Role) (sb fb : Nat) (ls : List Pl) (S : Sv) : Prop where
 top : On (fun k => rho k = .top) W (TopAt sb fb ls)
 bod : SrvB W rho fb ls S
 rsb : rho sb = .top
section
variable {W W' : World} {rho rho' : Nat → Role} {sb fb : Nat} {ls : List Pl} {S : Sv} {G : Nat → Prop}
theorem FilAt.lt {own : Int} {bl : Nat → Bool} (h : FilAt W fb own bl) : fb < W.heap.size := jH h.own
theorem SrvB.kept (h : SrvB W rho fb ls S) (hr : ∀ k, rho k ≠ .no → rho' k = rho k) (hd : ∀ k, rho' k ≠ .no → k < W'.heap.size) (hk : Kept G W W') (hG : ∀ k, rho k ≠ .no → ¬ G k) : SrvB W' rho' fb ls S :=
 ⟨h.fil.kept hk (hG _ (by rw [h.rfb]; intro e; cases e)), (hr _ (by rw [h.rfb]; intro e; cases e)).trans h.rfb, h.len, h.few,
  fun i m l hm hl => (h.mem i m l hm hl).kept hr hk fun k _ ho => hG k (by rcases ho with e | e | e | e | e <;> rw [e] <;> intro e <;> cases e), hd, h.own1⟩
theorem SrvM.kept (h : SrvM W rho sb fb ls S) (hr : ∀ k, rho k ≠ .no → rho' k = rho k) (hd : ∀ k, rho' k ≠ .no → k < W'.heap.size) (hk : Kept G W W') (hG : ∀ k, rho k ≠ .no → ¬ G k) : SrvM W' rho' sb fb ls S :=
 ⟨(h.top.kept hk fun k _ hF => hG k (by rw [hF]; intro e; cases e)).wide fun k hF _ => (hr k (by rw [hF]; intro e; cases e)).trans hF, h.bod.kept hr hd hk hG, (hr _ (by rw [h.rsb]; intro e; cases e)).trans h.rsb⟩
theorem SrvM.dom (h : SrvM W rho sb fb ls S) : ∀ k, rho k ≠ .no → k < W.heap.size := h.bod.dom
theorem SrvM.out (h : SrvM W rho sb fb ls S) (hk : Kept (fun k => rho k = .no) W W') : SrvM W' rho sb fb ls S :=
 h.kept (fun _ _ => rfl) (fun k hr => Nat.lt_of_lt_of_le (h.dom k hr) hk.size) hk fun _ hr hn => hr hn
theorem SrvM.below (h : SrvM W rho sb fb ls S) (hb : Below W.heap.size W W') : SrvM W' rho sb fb ls S := h.out (Kept.of_below hb)
theorem SrvM.get (h : SrvM W rho sb fb ls S) {i : Nat} {m : Pm} (hm : S.ms[i]? = some m) : ∃ l, ls[i]? = some l ∧ PmAt W rho S.own S.most i m (S.best i) l := by
 have hi : i < ls.length := by rw [h.bod.len]; exact (List.getElem?_eq_some_iff.1 hm).1
 exact ⟨ls[i], List.getElem?_eq_getElem hi, h.bod.mem i m _ hm (List.getElem?_eq_getElem hi)⟩
noncomputable def extP (rho : Nat → Role) (W : World) (F : Nat → Prop) (r : Role) (k : Nat) : Role := by
 classical exact if k < W.heap.size then rho k else if F k then r else .no
variable {F : Nat → Prop}
theorem extP_low {r : Role} {k : Nat} (hk : k < W.heap.size) : extP rho W F r k = rho k := by unfold extP; rw [if_pos hk]
theorem extP_new {r : Role} {k : Nat} (h1 : W.heap.size ≤ k) (h2 : F k) : extP rho W F r k = r := by unfold extP; rw [if_neg (by omega), if_pos h2]
theorem extP_no {r : Role} {k : Nat} (h1 : W.heap.size ≤ k) (h2 : ¬ F k) : extP rho W F r k = .no := by unfold extP; rw [if_neg (by omega), if_neg h2]
theorem extP_old {r : Role} (hd : ∀ k, rho k ≠ .no → k < W.heap.size) : ∀ k, rho k ≠ .no → extP rho W F r k = rho k := fun k hk => extP_low (hd k hk)
theorem extP_dom {r : Role} (hs : W.heap.size ≤ W'.heap.size) (hF : ∀ k, W.heap.size ≤ k → F k → k < W'.heap.size) : ∀ k, extP rho W F r k ≠ .no → k < W'.heap.size := fun k hk => by
 by_cases h1 : k < W.heap.size
 ·omega
 ·by_cases h2 : F k
  ·exact hF k (by omega) h2
  ·exact absurd (extP_no (by omega) h2) hk
structure Step (rho rho' : Nat → Role) (W W' : World) : Prop where
 same : ∀ k, k < W.heap.size → rho' k = rho k
 kept : Kept (fun k => rho k ≠ .no) W W'
theorem Step.refl : Step rho rho W W := ⟨fun _ _ => rfl, Kept.refl _ _⟩
theorem Step.trans {rho'' : Nat → Role} {W'' : World} (h : Step rho rho' W W') (k : Step rho' rho'' W' W'') : Step rho rho'' W W'' :=
 ⟨fun i hi => (k.same i (Nat.lt_of_lt_of_le hi h.kept.size)).trans (h.same i hi),
  ⟨k.kept.os.trans h.kept.os, k.kept.tape.trans h.kept.tape, k.kept.output.trans h.kept.output, Nat.le_trans h.kept.size k.kept.size, fun i hi hf =>
  (k.kept.block i (Nat.lt_of_lt_of_le hi h.kept.size) (by rw [h.same i hi]; exact hf)).trans (h.kept.block i hi hf)⟩⟩
theorem Step.below (hb : Below W.heap.size W W') : Step rho rho W W' := ⟨fun _ _ => rfl, Kept.of_below hb⟩
theorem Step.grow {W'' : World} (h : Step rho rho' W W') (hb : Below W'.heap.size W' W'') : Step rho rho' W W'' := h.trans (Step.below hb)
theorem Step.free {Q : World → Prop} (h : Step rho rho' W W') (hQ : On (fun k => rho k = .no) W Q) : On (fun k => rho' k = .no) W' Q :=
 fun W'' hW => hQ W'' fun k hk hl => (hW k ((h.same k hl).trans hk) (Nat.lt_of_lt_of_le hl h.kept.size)).trans (h.kept.block k hl (fun hn => hn hk))
theorem Step.block (h : Step rho rho' W W') {k : Nat} (hk : k < W.heap.size) (hn : rho k = .no) : W'.heap[k]? = W.heap[k]? := h.kept.block k hk (fun h => h hn)
theorem Step.cell (h : Step rho rho' W W') {a : Addr} {v : Value} (hc : W.cell? a = some v) (hn : rho a.block = .no) : W'.cell? a = some v := h.kept.cell hc (fun h => h hn)
theorem SrvM.one (h : SrvM W rho sb fb ls S) {i : Nat} {m' : Pm} {l : Pl} (hl : ls[i]? = some l) (hr : ∀ k, rho k ≠ .no → rho' k = rho k) (hd : ∀ k, rho' k ≠ .no → k < W'.heap.size)
  (hk : Kept G W W') (hG : ∀ k, k < W.heap.size → G k → rho k = .mem i ∨ rho k = .best i ∨ rho k = .news i ∨ rho k = .rib i ∨ rho k = .no) {S' : Sv} (e1 : S'.own = S.own) (e2 : S'.most = S.most) (e3 : S'.bl = S.bl) (e4 : S'.ms.length = S.ms.length)
  (e5 : S'.ms[i]? = some m') (e6 : ∀ j, j ≠ i → S'.ms[j]? = S.ms[j]?) (e7 : ∀ j, j ≠ i → S'.best j = S.best j) (hp : PmAt W' rho' S.own S.most i m' (S'.best i) l) : SrvM W' rho' sb fb ls S' := by
 have no : ∀ k, k < W.heap.size → (rho k = .top ∨ rho k = .fil ∨ rho k = .att ∨ ∃ j, j ≠ i ∧ (rho k = .mem j ∨ rho k = .best j ∨ rho k = .news j ∨ rho k = .rib j)) → ¬ G k := fun k hl h hg => by
  have := hG k hl hg
  rcases h with e | e | e | ⟨j, hj, e | e | e | e⟩ <;> rw [e] at this <;> simp at this <;> omega
 refine ⟨(h.top.kept hk fun k hl hF => no k hl (.inl hF)).wide fun k hF _ => (hr k (by rw [hF]; intro e; cases e)).trans hF, ⟨?_, (hr _ (by rw [h.bod.rfb]; intro e; cases e)).trans h.bod.rfb, by rw [e4]; exact h.bod.len, by rw [e4]; exact h.bod.few, ?_, hd, by rw [e1]; exact h.bod.own1⟩, (hr _ (by rw [h.rsb]; intro e; cases e)).trans h.rsb⟩
 ·rw [e1, e3]
  exact h.bod.fil.kept hk (no _ h.bod.fil.lt (.inr (.inl h.bod.rfb)))
 ·intro j m l' hm hl'
  rw [e1, e2]
  by_cases e : j = i
  ·subst e
   rw [e5] at hm; injection hm with hm; subst hm
   rw [hl] at hl'; injection hl' with hl'; subst hl'
   exact hp
  ·rw [e7 j e]
   rw [e6 j e] at hm
   refine (h.bod.mem j m l' hm hl').kept hr hk fun k hl ho => no k hl ?_
   rcases ho with q | q | q | q | q
   ·exact .inr (.inr (.inr ⟨j, e, .inl q⟩))
   ·exact .inr (.inr (.inr ⟨j, e, .inr (.inl q)⟩))
   ·exact .inr (.inr (.inr ⟨j, e, .inr (.inr (.inl q))⟩))
   ·exact .inr (.inr (.inr ⟨j, e, .inr (.inr (.inr q))⟩))
   ·exact .inr (.inr (.inl q))
end
open Go.RowKit
set_option maxRecDepth 100000 in
theorem sz_rt : (Tryz.prog.info? 61).map (·.size) = some 13 := by kernel_rfl
set_option maxRecDepth 100000 in
theorem sz_avS : (Tryz.prog.info? 42).map (·.size) = some 10 := by kernel_rfl
theorem rt_range {W : World} {b : Nat} {peer : Int} {p : Pf} {v : AV} (h : W.heap[b]? = some (.cells (rtC peer p v) 61 (0, 0))) : W.rangeAt b 3 v.C.toList := by
 intro j u hv
 have := jB h (j + 3)
 rw [show 3 + j = j + 3 by omega, this, ← Array.getElem?_toList]
 exact hv
theorem boxClo (w : World) (peer : Int) (p : Pf) (v : AV) : ∃ W0, W0 = (w.alloc (.cells (rtC peer p v) 61)).alloc (.cells #[.int .i64 0, .int .u32 0, .int .i64 0, .int .i64 0, .int .i64 0, .slice none 0 0, .int .u32 0, .int .i64 0, .int .i64 0, .int .i64 0, .int .u32 0, .slice none 0 0, .slice none 0 0] 61) ∧ W0.heap[w.heap.size]? = some (.cells (rtC peer p v) 61 (0, 0)) ∧ W0.heap[w.heap.size + 1]? = some (.cells (rtC 0 (0, 0) av0) 61 (0, 0)) ∧ Below w.heap.size w W0 :=
 boxTwo w (rtC peer p v) 61 (rtC 0 (0, 0) av0) 61
theorem kept_setAV (W : World) (b : Nat) (v : AV) : Kept (fun k => k = b) W (setAV W b v) := (Kept.refl _ W).putAV v (.inl rfl)
set_option maxHeartbeats 3200000 in
set_option maxRecDepth 100000 in
theorem sv_clone (peer : Int) (p : Pf) (a : At) (v : AV) (w : World) (hA : AvAt w a v) (hz : AtSz a) :
  Calls Tryz.prog 67 #[.agg (rtC peer p v)] w fun e w' => ∃ u : AV, e = .returned (.agg (rtC peer p u)) ∧ Fresh w.heap.size w' (fun W => AvU W a u) ∧ Below w.heap.size w w' := by
 have CL := jh (fun W (hb : Below w.heap.size w W) => av_CloneU a v W (hA.below hb) hz)
 clear hA hz
 go_enter Tryz.func67, Tryz.ntmps67
 go_upto_region 1 with (fail)
 obtain ⟨W0, hW0, q0, q1, hB⟩ := boxClo w peer p v
 rw [← hW0]
 have RG := jh (rt_range q0)
 have Q0 := jh q0
 have Q1 := jh q1
 have B0 := jh hB
 clear hW0 q0 q1 hB
 go_wp2_with ((with_reducible refine jM (X := .load 42 (.tmp 3)) ?_ ?_); (· rfl))
 unfold Halt
 refine ldm_at (by rfl) 42 (.tmp 3) rfl w.heap.size 3 rfl v.C.toList _ RG.out Tryz.underlying42 rfl sz_avS ?_
 go_wp2_with fail
 refine (CL.out W0 B0.out).mono ?_
 rintro e w1 ⟨u, rfl, fr, hb⟩
 have FR := jh fr
 have q0 := (hb.block _ (jE Q0.out)).trans Q0.out
 have q1 := (hb.block _ (jE Q1.out)).trans Q1.out
 have B1 := jh (jC B0.out hb)
 have L1 : Hid (w.heap.size + 1 < W0.heap.size) := jh (jE Q1.out)
 have NT : Hid (w1.there w.heap.size 3 10) := jh (node_there q0)
 have Q2 := jh (setAV_row q0 u)
 have Q3 := jh ((setAV_other (show w.heap.size + 1 ≠ w.heap.size by omega) u).trans q1)
 have K2 := jh (kept_setAV w1 w.heap.size u)
 clear fr q0 q1 hb Q0 Q1 B0 CL RG
 go_wp2_with ((with_reducible refine jM (X := .store 42 (.tmp 6) (.tmp 5)) ?_ ?_); (· rfl))
 unfold Halt
 refine wpList_store_mid rfl 42 (.tmp 6) (.tmp 5) rfl w.heap.size 3 u.C rfl rfl NT.out (by kernel_rfl) u.one ?_
 rw [setAV_eq]
 generalize setAV w1 w.heap.size u = w2 at Q2 Q3 K2 ⊢
 go_wp2_with ((with_reducible refine jM (X := .load 61 (.tmp 1)) ?_ ?_); (· rfl))
 unfold Halt
 refine ld_at (by rfl) 61 (.tmp 1) rfl w.heap.size rfl 61 (rtC peer p u) (0, 0) _ Q2.out Tryz.underlying61 rfl sz_rt ?_
 go_wp2_with ((with_reducible refine jM (X := .store 61 (.tmp 2) (.tmp 7)) ?_ ?_); (· rfl))
 unfold Halt
 refine st_row rfl 61 _ _ rfl (w.heap.size + 1) rfl 61 (rtC 0 (0, 0) av0) (rtC peer p u) rfl Q3.out (by kernel_rfl) rfl (rt_one _ _ _) ?_
 have Q4 := jh (setRow_heap _ _ _ (rtC peer p u) _ _ Q3.out)
 have K3 := jh (K2.out.imp (fun k hk => (.inl hk : k = w.heap.size ∨ k = w.heap.size + 1)))
 have K4 := jh (K3.out.trans (kept_setRow (w.heap.size + 1) (rtC peer p u) (.inr rfl)))
 generalize w2.setRow (w.heap.size + 1) (rtC peer p u) = w3 at Q4 K4 ⊢
 go_wp2_with fail
 refine bodyPost_ret (v := .agg (rtC peer p u)) (results_cell_row Tryz.results67 _ w3 (w.heap.size + 1) 61 (rtC peer p u) (0, 0) _ rfl Q4.out Tryz.underlying61 rfl sz_rt) rfl ⟨u, rfl, ?_, ?_⟩
 ·exact (FR.out.kept K4.out (fun k _ hl e => by have := L1.out; rcases e with e | e <;> omega)).wide (fun k hk _ => by have := L1.out; omega)
 ·exact B1.out.trans (K4.out.below B1.out.size (by rintro k (rfl | rfl) <;> omega))
theorem SrvM.cells {W : World} {rho : Nat → Role} {sb fb : Nat} {ls : List Pl} {S : Sv} (h : SrvM W rho sb fb ls S) : ∃ (s : Option Addr) (cap : Nat), W.cell? ⟨sb, 0, none⟩ = some (.slice s S.ms.length cap) ∧ W.cell? ⟨sb, 1, none⟩ = some (.pointer (some ⟨fb, 0, none⟩)) ∧
  ∀ (i : Nat) (l : Pl), ls[i]? = some l → ∃ g o, s = some ⟨g, o, none⟩ ∧ W.cell? ⟨g, o + i, none⟩ = some (.pointer (some ⟨l.mb, 0, none⟩)) := by
 obtain ⟨s, cap, h1, h2⟩ := h.top.self
 refine ⟨s, cap, by rw [← h.bod.len]; exact jB h1 0, jB h1 1, fun i l hl => ?_⟩
 obtain ⟨s', c', e, _, _, h3⟩ := h2
 injection e with e _ _
 subst e
 obtain ⟨g, o, rfl, h4⟩ := h3 (by have := (List.getElem?_eq_some_iff.1 hl).1; omega)
 obtain ⟨cs, -, rfl, hc⟩ := h4 i l hl
 have := hc 0 _ rfl
 rw [Nat.mul_one] at this
 exact ⟨g, o, rfl, this⟩
section
variable {W : World} {rho : Nat → Role} {sb fb : Nat} {ls : List Pl} {S : Sv}
set_option maxRecDepth 100000 in
theorem sv_member (h : SrvM W rho sb fb ls S) {i : Nat} {l : Pl} (hl : ls[i]? = some l) : Calls Tryz.prog 58 #[.pointer (some ⟨sb, 0, none⟩), .int .i64 i] W fun e w' => e = .returned (.pointer (some ⟨l.mb, 0, none⟩)) ∧ W = w' := by
 obtain ⟨s, cap, c0, -, hc⟩ := h.cells
 have hi : i < S.ms.length := by rw [← h.bod.len]; exact (List.getElem?_eq_some_iff.1 hl).1
 obtain ⟨g, o, rfl, c1⟩ := hc i l hl
 have few := h.bod.few
 have d1 : decide ((i : Int) < 0) = false := by simp
 have d2 : decide ((i : Int) ≥ (S.ms.length : Int)) = false := by simp; omega
 have i0 : (0 : Int) ≤ (i : Int) := by omega
 have i1 : (i : Int) < (S.ms.length : Int) := by omega
 clear hc h hl
 go_enter Tryz.func58, Tryz.ntmps58
 go_wp2_with fail
 go_ret
 exact ⟨rfl, rfl⟩
set_option maxRecDepth 100000 in
theorem sv_member_no (h : SrvM W rho sb fb ls S) {n : Int} (hn : ¬ (0 ≤ n ∧ n < (S.ms.length : Int))) : Calls Tryz.prog 58 #[.pointer (some ⟨sb, 0, none⟩), .int .i64 n] W fun e w' => e = .returned (.pointer none) ∧ W = w' := by
 obtain ⟨s, cap, c0, -, -⟩ := h.cells
 have few := h.bod.few
 clear h
 by_cases h0 : n < 0
 ·have d1 : decide (n < 0) = true := by simpa using h0
  clear hn
  go_enter Tryz.func58, Tryz.ntmps58
  go_wp2_with fail
  go_ret
  exact ⟨rfl, rfl⟩
 ·have d1 : decide (n < 0) = false := by simpa using h0
  have d2 : decide (n ≥ (S.ms.length : Int)) = true := by simp; omega
  clear hn h0
  go_enter Tryz.func58, Tryz.ntmps58
  go_wp2_with fail
  go_ret
  exact ⟨rfl, rfl⟩
end
end Go.Proofs.YtkoidahgbbabiaaGreat
