/- Texts of one proof, one behind another. -/
import Derived.Test.YtadlecnlgkhneaaRu5
import Derived.Test.YtadlecnlgkhneaaRu8
import Derived.Test.YtadlecnlgkhneaaRu9
import Derived.Test.YtadlecnlgkhneaaRu11
import Derived.Test.YtadlecnlgkhneaaRu2
import Derived.Test.YtadlecnlgkhneaaRu1
import Derived.Test.YtadlecnlgkhneaaRu3
import Derived.ChangeKeysEq
import Derived.Test.YtadlecnlgkhneaaRu6
/-
  ALL ROUTES OF A PEER, IN MEMORY: what there is, and on which blocks it hangs.
-/
namespace Go.Proofs.Ytadlecnlgkhneaa
open Go.RowKit

/-! ### attributes: the value and what it says -/
def avOf (a : At) (ps : Option Addr) (pc : Nat) (cs : Option Addr) (cc : Nat) (os : Option Addr) (oc : Nat) : AV :=
  ⟨a.has, a.origin, ps, a.path.length, pc, a.hop, a.med, a.loc, a.aggrAs, a.aggrId, cs, a.comms.length, cc, os, a.others.length, oc⟩
def AvAt (W : World) (a : At) (v : AV) : Prop := ∃ ps pc cs cc os oc, v = avOf a ps pc cs cc os oc ∧ AtL W a (.slice ps a.path.length pc) (.slice cs a.comms.length cc) (.slice os a.others.length oc)
theorem AvAt.below {W W' : World} {a : At} {v : AV} (h : AvAt W a v) (hb : Below W.heap.size W W') : AvAt W' a v := by
  obtain ⟨ps, pc, cs, cc, os, oc, rfl, h⟩ := h
  exact ⟨ps, pc, cs, cc, os, oc, rfl, h.below hb⟩
theorem AvAt.form {W : World} {a : At} {v : AV} (h : AvAt W a v) : ∃ vp vc vo, v.V = .agg (atV a vp vc vo).toArray ∧ AtL W a vp vc vo := by
  obtain ⟨ps, pc, cs, cc, os, oc, rfl, h⟩ := h
  exact ⟨_, _, _, rfl, h⟩
theorem av_of {W : World} {a : At} {vp vc vo : Value} (h : AtL W a vp vc vo) : ∃ v : AV, v.V = .agg (atV a vp vc vo).toArray ∧ AvAt W a v := by
  obtain ⟨ps, pc, rfl, -⟩ := id h.1
  obtain ⟨cs, cc, rfl, -⟩ := id h.2.1
  obtain ⟨os, oc, rfl, -⟩ := id h.2.2
  exact ⟨avOf a ps pc cs cc os oc, rfl, ps, pc, cs, cc, os, oc, rfl, h⟩
/-- Clone, by its value. -/
theorem av_Clone (a : At) (v : AV) (w : World) (hA : AvAt w a v) (hz : AtSz a) : Calls Try.prog 16 #[v.V] w fun e w' => ∃ u : AV, e = .returned u.V ∧ Fresh w.heap.size w' (fun W => AvAt W a u) ∧ Below w.heap.size w w' := by
  obtain ⟨vp, vc, vo, e, h⟩ := hA.form
  rw [e]
  refine (at_Clone a vp vc vo w h hz).mono ?_
  rintro e w' ⟨vp', vc', vo', rfl, hf, hb⟩
  obtain ⟨u, hu, _⟩ := av_of hf.self.1
  refine ⟨u, by rw [hu], ?_, hb⟩
  intro W hW
  obtain ⟨hl, _⟩ := hf W hW
  obtain ⟨u', hu', ha⟩ := av_of hl
  have : u' = u := by
    have := hu'.trans hu.symm
    obtain ⟨⟩ := u
    obtain ⟨⟩ := u'
    simp only [AV.V, Value.agg.injEq, Array.mk.injEq, List.cons.injEq, Value.int.injEq, Value.slice.injEq, and_true, true_and, Int.natCast_inj] at this
    simp_all
  rw [← this]; exact ha
/-- attributes in memory that may be written, by their value. -/
def AvU (W : World) (a : At) (v : AV) : Prop := ∃ ps pc cs cc os oc, v = avOf a ps pc cs cc os oc ∧ AtU W a (.slice ps a.path.length pc) (.slice cs a.comms.length cc) (.slice os a.others.length oc)
theorem AvU.at {W : World} {a : At} {v : AV} (h : AvU W a v) : AvAt W a v := by
  obtain ⟨ps, pc, cs, cc, os, oc, rfl, h⟩ := h
  exact ⟨ps, pc, cs, cc, os, oc, rfl, h.atl⟩
theorem avu_of {W : World} {a : At} {vp vc vo : Value} (h : AtU W a vp vc vo) : ∃ v : AV, v.V = .agg (atV a vp vc vo).toArray ∧ AvU W a v := by
  obtain ⟨ps, pc, rfl, -⟩ := id h.path
  obtain ⟨cs, cc, rfl, -⟩ := id h.comms
  obtain ⟨os, oc, rfl, -⟩ := id h.oths
  exact ⟨avOf a ps pc cs cc os oc, rfl, ps, pc, cs, cc, os, oc, rfl, h⟩
theorem av_CloneU (a : At) (v : AV) (w : World) (hA : AvAt w a v) (hz : AtSz a) : Calls Try.prog 16 #[v.V] w fun e w' => ∃ u : AV, e = .returned u.V ∧ Fresh w.heap.size w' (fun W => AvU W a u) ∧ Below w.heap.size w w' := by
  obtain ⟨vp, vc, vo, e, h⟩ := hA.form
  rw [e]
  refine (at_Clone a vp vc vo w h hz).mono ?_
  rintro e w' ⟨vp', vc', vo', rfl, hf, hb⟩
  obtain ⟨u, hu, _⟩ := av_of hf.self.1
  refine ⟨u, by rw [hu], ?_, hb⟩
  intro W hW
  obtain ⟨-, -, hl⟩ := hf W hW
  obtain ⟨u', hu', ha⟩ := avu_of hl
  have : u' = u := by
    have := hu'.trans hu.symm
    obtain ⟨⟩ := u
    obtain ⟨⟩ := u'
    simp only [AV.V, Value.agg.injEq, Array.mk.injEq, List.cons.injEq, Value.int.injEq, Value.slice.injEq, and_true, true_and, Int.natCast_inj] at this
    simp_all
  rw [← this]; exact ha
theorem av_Passes (a : At) (v : AV) (t : Int) (w : World) (hA : AvAt w a v) : Calls Try.prog 13 #[v.V, .int .i64 t] w fun e w' => e = .returned (.bool (passB a.path t)) ∧ Below w.heap.size w w' := by
  obtain ⟨vp, vc, vo, e, h⟩ := hA.form
  rw [e]
  exact at_Passes a vp vc vo t w h.1
theorem av_Same (a b : At) (v u : AV) (w : World) (hA : AvAt w a v) (hB : AvAt w b u) : Calls Try.prog 15 #[v.V, u.V] w fun e w' => e = .returned (.bool (sameA a b)) ∧ Below w.heap.size w w' := by
  obtain ⟨vp, vc, vo, e, h⟩ := hA.form
  obtain ⟨vp', vc', vo', e', h'⟩ := hB.form
  rw [e, e']
  exact at_Same a b vp vc vo vp' vc' vo' w h h'
/-! ### keys -/
abbrev pKey (p : Pf) : Nat := keyN p.1.toNat p.2.toNat
def RgtP (p : Pf) : Prop := OkP p ∧ rightB p.1 p.2 = true
theorem RgtP.nat {p : Pf} (h : RgtP p) : ∃ a n : Nat, p = ((a : Int), (n : Int)) ∧ a < 4294967296 ∧ n ≤ 32 ∧ a % 2 ^ (32 - n) = 0 ∧ rightB (a : Int) (n : Int) = true := by
  obtain ⟨⟨h1, h2⟩, h3⟩ := h
  obtain ⟨a, n⟩ := p
  simp only at h1 h2 h3
  have hr := rightB_range h3
  obtain ⟨a, rfl⟩ := Int.eq_ofNat_of_zero_le h1
  obtain ⟨n, rfl⟩ := Int.eq_ofNat_of_zero_le hr.1
  exact ⟨a, n, rfl, by omega, by omega, (right_mod.1 h3).1, h3⟩
theorem pKey_inj {p q : Pf} (hp : RgtP p) (hq : RgtP q) (h : pKey p = pKey q) : p = q := by
  obtain ⟨a, n, rfl, ha, hn, hm, _⟩ := hp.nat
  obtain ⟨b, k, rfl, hb, hk, hm', _⟩ := hq.nat
  obtain ⟨e1, e2⟩ := keyN_inj (show a < 4294967296 from ha) (show b < 4294967296 from hb) (show n ≤ 32 from hn) (show k ≤ 32 from hk) h
  subst e1
  rw [key_block hm hm' e2]
/-! ### entries -/
structure Ent where
  p : Pf
  a : At
  v : AV
  lo : Nat
  hi : Nat
abbrev kvs (E : List Ent) : List (Nat × AV) := E.map fun e => (pKey e.p, e.v)
abbrev rts (E : List Ent) : List (Pf × At) := E.map fun e => (e.p, e.a)
def findE (E : List Ent) (p : Pf) : Option Ent := E.find? fun e => e.p = p
def delE (E : List Ent) (p : Pf) : List Ent := E.filter fun e => !decide (e.p = p)
theorem find_kvs {E : List Ent} (hE : ∀ e ∈ E, RgtP e.p) {p : Pf} (hp : RgtP p) : getL (kvs E) (pKey p) = (findE E p).map (·.v) := by
  induction E with
  | nil => rfl
  | cons e E ih =>
    have ih := ih fun x hx => hE x (List.mem_cons_of_mem _ hx)
    by_cases h : e.p = p
    · unfold getL findE kvs
      rw [List.map_cons, List.find?_cons_of_pos (by simp [h]), List.find?_cons_of_pos (by simpa using h)]
      rfl
    · unfold getL findE kvs at ih
      unfold getL findE kvs
      rw [List.map_cons, List.find?_cons_of_neg (by simpa using fun x => h (pKey_inj (hE e (List.mem_cons_self ..)) hp x)), List.find?_cons_of_neg (by simpa using h)]
      exact ih
theorem find_rts (E : List Ent) (p : Pf) : getL (rts E) p = (findE E p).map (·.a) := by
  induction E with
  | nil => rfl
  | cons e E ih =>
    by_cases h : e.p = p
    · unfold getL findE rts
      rw [List.map_cons, List.find?_cons_of_pos (by simpa using h), List.find?_cons_of_pos (by simpa using h)]
      rfl
    · unfold getL findE rts at ih
      unfold getL findE rts
      rw [List.map_cons, List.find?_cons_of_neg (by simpa using h), List.find?_cons_of_neg (by simpa using h)]
      exact ih
theorem findE_mem {E : List Ent} {p : Pf} {e : Ent} (h : findE E p = some e) : e ∈ E ∧ e.p = p := by
  unfold findE at h
  exact ⟨List.mem_of_find?_eq_some h, by simpa using List.find?_some h⟩
theorem del_kvs {E : List Ent} (hE : ∀ e ∈ E, RgtP e.p) {p : Pf} (hp : RgtP p) : delL (kvs E) (pKey p) = kvs (delE E p) := by
  unfold delL delE kvs
  rw [List.filter_map]
  congr 1
  refine List.filter_congr fun e he => ?_
  simp only [Function.comp]
  congr 1
  by_cases h : e.p = p
  · simp [h]
  · simpa [h] using fun x => h (pKey_inj (hE e he) hp x)
theorem del_rts (E : List Ent) (p : Pf) : delL (rts E) p = rts (delE E p) := by
  unfold delL delE rts
  rw [List.filter_map]
  rfl
theorem mem_delE {E : List Ent} {p : Pf} {e : Ent} : e ∈ delE E p ↔ e ∈ E ∧ e.p ≠ p := by unfold delE; simp
theorem apart_rts {E : List Ent} (h : KeysApart (kvs E)) : KeysApart (rts E) := by
  unfold KeysApart at *
  rw [List.pairwise_map] at *
  exact h.imp fun {x y} hne e => hne (by simp only; simp only at e; rw [e])
/-! ### a rib -/
structure RibIn (w : World) (rb tb : Nat) (N : Nat → Option Nat) (E : List Ent) (peer own most : Int) (F : Nat → Prop) : Prop where
  row : w.heap[rb]? = some (.cells #[.int .i64 peer, .int .i64 own, .int .i64 most, .pointer (some ⟨tb, 0, none⟩)] 73 (0, 0))
  tri : TrI w tb N (kvs E) most
  rgt : ∀ e ∈ E, RgtP e.p
  szs : ∀ e ∈ E, AtSz e.a
  ent : ∀ e ∈ E, e.hi ≤ w.heap.size ∧ On (fun k => e.lo ≤ k ∧ k < e.hi) w (fun W => AvAt W e.a e.v)
  frb : F rb
  ftr : ∀ b, TOwn tb N b → F b
  fen : ∀ e ∈ E, ∀ k, e.lo ≤ k → k < e.hi → F k
  apr : ¬ TOwn tb N rb
  apn : ∀ e ∈ E, ∀ b, TOwn tb N b ∨ b = rb → ¬ (e.lo ≤ b ∧ b < e.hi)
  most0 : 0 ≤ most
  most1 : most ≤ 256
  room : E.length ≤ most
def RibAt (w : World) (rb : Nat) (peer own most : Int) (R : List (Pf × At)) (F : Nat → Prop) : Prop := ∃ tb N E, RibIn w rb tb N E peer own most F ∧ R = rts E
section
variable {w w' : World} {rb tb : Nat} {N N' : Nat → Option Nat} {E : List Ent} {peer own most : Int} {F G : Nat → Prop} {R : List (Pf × At)}
theorem RibIn.kept (h : RibIn w rb tb N E peer own most F) (hk : Kept G w w') (hG : ∀ k, k < w.heap.size → F k → ¬ G k) : RibIn w' rb tb N E peer own most F :=
  ⟨(hk.block rb (row_lt h.row) (hG _ (row_lt h.row) h.frb)).trans h.row, h.tri.kept hk (fun b hb => hG b (h.tri.own_lt hb) (h.ftr b hb)), h.rgt, h.szs,
   fun e he => ⟨Nat.le_trans (h.ent e he).1 hk.size, (h.ent e he).2.kept hk fun k hl hF => hG k hl (h.fen e he k hF.1 hF.2)⟩, h.frb, h.ftr, h.fen, h.apr, h.apn, h.most0, h.most1, h.room⟩
theorem RibIn.below (h : RibIn w rb tb N E peer own most F) (hb : Below w.heap.size w w') : RibIn w' rb tb N E peer own most F := h.kept (G := fun _ => False) (Kept.of_below hb) fun _ _ _ h => h
theorem RibIn.wide (h : RibIn w rb tb N E peer own most F) (hFG : ∀ k, F k → G k) : RibIn w rb tb N E peer own most G :=
  ⟨h.row, h.tri, h.rgt, h.szs, h.ent, hFG _ h.frb, fun b hb => hFG _ (h.ftr b hb), fun e he k h1 h2 => hFG _ (h.fen e he k h1 h2), h.apr, h.apn, h.most0, h.most1, h.room⟩
theorem RibAt.kept (h : RibAt w rb peer own most R F) (hk : Kept G w w') (hG : ∀ k, k < w.heap.size → F k → ¬ G k) : RibAt w' rb peer own most R F := by
  obtain ⟨tb, N, E, h1, h2⟩ := h; exact ⟨tb, N, E, h1.kept hk hG, h2⟩
theorem RibAt.below (h : RibAt w rb peer own most R F) (hb : Below w.heap.size w w') : RibAt w' rb peer own most R F := by
  obtain ⟨tb, N, E, h1, h2⟩ := h; exact ⟨tb, N, E, h1.below hb, h2⟩
theorem RibAt.wide (h : RibAt w rb peer own most R F) (hFG : ∀ k, F k → G k) : RibAt w rb peer own most R G := by
  obtain ⟨tb, N, E, h1, h2⟩ := h; exact ⟨tb, N, E, h1.wide hFG, h2⟩
theorem RibAt.lt (h : RibAt w rb peer own most R F) : rb < w.heap.size := by
  obtain ⟨tb, N, E, h1, h2⟩ := h; exact row_lt h1.row
theorem RibIn.cells (h : RibIn w rb tb N E peer own most F) : w.cell? ⟨rb, 0, none⟩ = some (.int .i64 peer) ∧ w.cell? ⟨rb, 1, none⟩ = some (.int .i64 own) ∧ w.cell? ⟨rb, 2, none⟩ = some (.int .i64 most) ∧ w.cell? ⟨rb, 3, none⟩ = some (.pointer (some ⟨tb, 0, none⟩)) :=
  ⟨row_cell h.row 0, row_cell h.row 1, row_cell h.row 2, row_cell h.row 3⟩
/-- a prefix is dropped. -/
theorem RibIn.drop (h : RibIn w rb tb N E peer own most F) {p : Pf} (hp : RgtP p) (ht : TrI w' tb N' (delL (kvs E) (pKey p)) most) (hs : ∀ k b, N' k = some b → N k = some b) (hk : Kept (TOwn tb N) w w') : RibIn w' rb tb N' (delE E p) peer own most F := by
  have hto : ∀ b, TOwn tb N' b → TOwn tb N b := fun b hb => hb.imp_right fun ⟨k, e⟩ => ⟨k, hs k b e⟩
  have hm : ∀ e ∈ delE E p, e ∈ E := fun e he => (mem_delE.1 he).1
  refine ⟨(hk.block rb (row_lt h.row) h.apr).trans h.row, ?_, fun e he => h.rgt e (hm e he), fun e he => h.szs e (hm e he), fun e he => ⟨Nat.le_trans (h.ent e (hm e he)).1 hk.size, (h.ent e (hm e he)).2.kept hk fun k hl hF ho => h.apn e (hm e he) k (.inl ho) hF⟩,
    h.frb, fun b hb => h.ftr b (hto b hb), fun e he => h.fen e (hm e he), fun x => h.apr (hto _ x), fun e he b hb => h.apn e (hm e he) b (hb.imp_left (hto b)), h.most0, h.most1, ?_⟩
  · rw [← del_kvs h.rgt hp]; exact ht
  · have : (delE E p).length ≤ E.length := List.length_filter_le ..
    have := h.room
    omega
/-- a prefix is put, whose attributes lie in blocks of their own. -/
theorem RibIn.put {w1 : World} (h : RibIn w rb tb N E peer own most F) {p : Pf} {a : At} {v : AV} {lo hi : Nat} (hp : RgtP p) (hz : AtSz a) (hon : On (fun k => lo ≤ k ∧ k < hi) w (fun W => AvAt W a v)) (hhi : hi ≤ w.heap.size) (hlo : ∀ b, TOwn tb N b ∨ b = rb → ¬ (lo ≤ b ∧ b < hi)) (hF : ∀ k, lo ≤ k → k < hi → F k)
    (ht : TrI w1 tb N' (delL (kvs E) (pKey p) ++ [(pKey p, v)]) most) (hs : ∀ k b, N' k = some b → N k = some b ∨ w.heap.size ≤ b) (hk : Kept (TOwn tb N) w w1) (hr : ((delE E p).length : Int) + 1 ≤ most) :
    RibIn w1 rb tb N' (delE E p ++ [⟨p, a, v, lo, hi⟩]) peer own most (fun b => F b ∨ (w.heap.size ≤ b ∧ b < w1.heap.size)) := by
  have hto : ∀ b, TOwn tb N' b → TOwn tb N b ∨ w.heap.size ≤ b := fun b hb => by
    rcases hb with e | ⟨k, e⟩
    · exact .inl (.inl e)
    · exact (hs k b e).imp_left fun e => .inr ⟨k, e⟩
  have hrl := row_lt h.row
  refine ⟨(hk.block rb hrl h.apr).trans h.row, ?_, ?_, ?_, ?_, .inl h.frb, fun b hb => (hto b hb).imp (h.ftr b) (fun hge => ⟨hge, ht.own_lt hb⟩), ?_, ?_, ?_, h.most0, h.most1, ?_⟩
  · have : kvs (delE E p ++ [⟨p, a, v, lo, hi⟩]) = delL (kvs E) (pKey p) ++ [(pKey p, v)] := by
      rw [del_kvs h.rgt hp, kvs, List.map_append]; rfl
    rw [this]; exact ht
  · intro e he
    rcases List.mem_append.1 he with he | he
    · exact h.rgt e (mem_delE.1 he).1
    · simp at he; subst he; exact hp
  · intro e he
    rcases List.mem_append.1 he with he | he
    · exact h.szs e (mem_delE.1 he).1
    · simp at he; subst he; exact hz
  · intro e he
    rcases List.mem_append.1 he with he | he
    · have he := (mem_delE.1 he).1
      exact ⟨Nat.le_trans (h.ent e he).1 hk.size, (h.ent e he).2.kept hk fun k hl hF ho => h.apn e he k (.inl ho) hF⟩
    · simp at he; subst he
      exact ⟨Nat.le_trans hhi hk.size, hon.kept hk fun k hl hF ho => hlo k (.inl ho) hF⟩
  · intro e he k h1 h2
    rcases List.mem_append.1 he with he | he
    · exact .inl (h.fen e (mem_delE.1 he).1 k h1 h2)
    · simp at he; subst he; exact .inl (hF k h1 h2)
  · intro x
    rcases hto _ x with x | x
    · exact h.apr x
    · omega
  · intro e he b hb hx
    have hb' : (TOwn tb N b ∨ b = rb) ∨ w.heap.size ≤ b := by
      rcases hb with hb | hb
      · exact (hto b hb).imp_left .inl
      · exact .inl (.inr hb)
    rcases List.mem_append.1 he with he | he
    · have he := (mem_delE.1 he).1
      rcases hb' with hb | hb
      · exact h.apn e he b hb hx
      · have := (h.ent e he).1; omega
    · simp at he; subst he
      rcases hb' with hb | hb
      · exact hlo b hb hx
      · simp only at hx; omega
  · rw [List.length_append]; simp only [List.length_cons, List.length_nil]; omega
end
end Go.Proofs.Ytadlecnlgkhneaa

/-
  WHAT A PEER SAYS, AND WHAT THERE IS BEHIND IT: plain.
-/
namespace Go.Proofs.Ytadlecnlgkhneaa
open Go.RowKit

abbrev Rts := List (Pf × At)
def hadB (R : Rts) (p : Pf) : Bool := (getL R p).isSome
def turnB (R : Rts) (ns : List Pf) (a : At) (p : Pf) : Bool := match getL R p with | none => decide (p ∈ ns) | some b => !(decide (p ∈ ns)) || !(sameA b a)
def dropAll (R : Rts) (ps : List Pf) : Rts := ps.foldl delL R
def putP (R : Rts) (p : Pf) (a : At) : Rts := delL R p ++ [(p, a)]
def putAll (R : Rts) (ps : List Pf) (a : At) : Rts := ps.foldl (fun R p => putP R p a) R
def saidP (gone nets : List Pf) : List Pf := setOf (gone ++ nets)
def netsP (own : Int) (nets : List Pf) (a : At) : List Pf := if passB a.path own then [] else setOf nets
def cntP (R : Rts) (said ns : List Pf) : Int := (R.length : Int) + ns.length - (said.filter (hadB R)).length
/-- what Update answers, and what there is then. -/
def updP (own most : Int) (R : Rts) (kind : Int) (gone nets : List Pf) (a : At) : Int × List Pf × Rts :=
  if kind = 2 then
    if rights (gone ++ nets) then
      if cntP R (saidP gone nets) (netsP own nets a) > most then (32, [], R)
      else (0, (saidP gone nets).filter (turnB R (netsP own nets a) a), putAll (dropAll R (saidP gone nets)) (netsP own nets a) a)
    else (1, [], R)
  else (1, [], R)
theorem dropAll_snoc (R : Rts) (ps : List Pf) (p : Pf) : dropAll R (ps ++ [p]) = delL (dropAll R ps) p := by unfold dropAll; rw [List.foldl_append]; rfl
theorem putAll_snoc (R : Rts) (ps : List Pf) (p : Pf) (a : At) : putAll R (ps ++ [p]) a = putP (putAll R ps a) p a := by unfold putAll; rw [List.foldl_append]; rfl
theorem take_snoc {α : Type} {l : List α} {k : Nat} {x : α} (h : l[k]? = some x) : l.take (k + 1) = l.take k ++ [x] := by rw [List.take_add_one, h]; rfl
theorem getL_dropAll (R : Rts) : ∀ (ps : List Pf) (p : Pf), getL (dropAll R ps) p = if p ∈ ps then none else getL R p
  | ps, p => by
    unfold dropAll
    induction ps generalizing R with
    | nil => simp
    | cons q ps ih =>
      rw [List.foldl_cons, ih, getL_del]
      by_cases h1 : p ∈ ps
      · rw [if_pos h1, if_pos (List.mem_cons_of_mem _ h1)]
      · by_cases h2 : p = q
        · subst h2; simp
        · rw [if_neg h1, if_neg h2, if_neg (by simp [h1, h2])]
theorem apart_dropAll {R : Rts} (h : KeysApart R) (ps : List Pf) : KeysApart (dropAll R ps) := by
  unfold dropAll
  induction ps generalizing R with
  | nil => exact h
  | cons q ps ih => exact ih (apart_del h q)
theorem len_dropAll {R : Rts} (h : KeysApart R) : ∀ {ps : List Pf}, ps.Nodup → (dropAll R ps).length + (ps.filter (hadB R)).length = R.length
  | ps, hn => by
    induction ps generalizing R with
    | nil => simp [dropAll]
    | cons q ps ih =>
      obtain ⟨h1, h2⟩ := List.nodup_cons.1 hn
      have ih := ih (apart_del h q) h2
      have e : dropAll R (q :: ps) = dropAll (delL R q) ps := rfl
      have e2 : ps.filter (hadB (delL R q)) = ps.filter (hadB R) := by
        refine List.filter_congr fun p hp => ?_
        unfold hadB
        rw [getL_del, if_neg (fun (e : p = q) => h1 (e ▸ hp))]
      rw [e2] at ih
      rw [e]
      have hl := len_del h q
      rw [List.filter_cons]
      by_cases hq : hadB R q = true
      · rw [if_pos hq]
        unfold hadB at hq
        rw [hq] at hl
        simp only [if_true] at hl
        have : 0 < R.length := by
          obtain ⟨v, hv⟩ := Option.isSome_iff_exists.1 hq
          exact List.length_pos_of_mem (getL_mem hv)
        simp only [List.length_cons]
        omega
      · rw [if_neg hq]
        unfold hadB at hq
        rw [if_neg hq] at hl
        omega
theorem getL_put1 (R : Rts) (p : Pf) (a : At) (q : Pf) : getL (putP R p a) q = if q = p then some a else getL R q := by
  unfold putP
  rw [getL_append, getL_del]
  by_cases h : q = p
  · subst h
    rw [if_pos rfl, if_pos rfl]
    simp [getL]
  · rw [if_neg h, if_neg h]
    have : getL [(p, a)] q = none := by rw [getL_none]; intro x hx; simp at hx; subst hx; exact fun e => h e.symm
    rw [this]; cases getL R q <;> rfl
theorem apart_put1 {R : Rts} (h : KeysApart R) (p : Pf) (a : At) : KeysApart (putP R p a) := by
  unfold putP KeysApart
  rw [List.pairwise_append]
  refine ⟨apart_del h p, by simp, fun x hx y hy => ?_⟩
  simp at hy; subst hy
  exact (mem_del.1 hx).2
theorem getL_putAll (a : At) : ∀ (ps : List Pf) (R : Rts) (q : Pf), getL (putAll R ps a) q = if q ∈ ps then some a else getL R q
  | [], R, q => by simp [putAll]
  | p :: ps, R, q => by
    have ih := getL_putAll a ps (putP R p a) q
    have e : putAll R (p :: ps) a = putAll (putP R p a) ps a := rfl
    rw [e, ih, getL_put1]
    by_cases h1 : q ∈ ps
    · rw [if_pos h1, if_pos (List.mem_cons_of_mem _ h1)]
    · by_cases h2 : q = p
      · subst h2; simp
      · rw [if_neg h1, if_neg h2, if_neg (by simp [h1, h2])]
theorem apart_putAll (a : At) : ∀ (ps : List Pf) {R : Rts}, KeysApart R → KeysApart (putAll R ps a)
  | [], _, h => h
  | p :: ps, _, h => apart_putAll a ps (apart_put1 h p a)
theorem delL_no {R : Rts} {p : Pf} (h : getL R p = none) : delL R p = R := by
  unfold delL
  rw [List.filter_eq_self]
  intro q hq
  simpa using getL_none.1 h q hq
/-- those that are put are all new. -/
theorem len_putAll (a : At) : ∀ (ps : List Pf) (R : Rts), ps.Nodup → (∀ p ∈ ps, getL R p = none) → (putAll R ps a).length = R.length + ps.length
  | [], R, _, _ => by simp [putAll]
  | p :: ps, R, hn, h => by
    obtain ⟨h1, h2⟩ := List.nodup_cons.1 hn
    have e : putAll R (p :: ps) a = putAll (putP R p a) ps a := rfl
    rw [e, len_putAll a ps _ h2 (fun q hq => by
      rw [getL_put1, if_neg (fun (e : q = p) => h1 (e ▸ hq))]
      exact h q (List.mem_cons_of_mem _ hq))]
    unfold putP
    rw [delL_no (h p (List.mem_cons_self ..)), List.length_append]
    simp only [List.length_cons, List.length_nil]
    omega
theorem said_srt (gone nets : List Pf) : Srt (saidP gone nets) ∧ ∀ p, p ∈ saidP gone nets ↔ p ∈ gone ∨ p ∈ nets := by
  have := setOf_srt (gone ++ nets)
  exact ⟨this.1, fun p => by rw [saidP, this.2 p, List.mem_append]⟩
theorem nets_srt (own : Int) (nets : List Pf) (a : At) : Srt (netsP own nets a) ∧ ∀ p, p ∈ netsP own nets a → p ∈ nets := by
  unfold netsP
  split
  · exact ⟨List.Pairwise.nil, fun p hp => by simp at hp⟩
  · exact ⟨(setOf_srt nets).1, fun p hp => ((setOf_srt nets).2 p).1 hp⟩
theorem cnt_len {R : Rts} (h : KeysApart R) {said ns : List Pf} (hn : said.Nodup) : cntP R said ns = ((dropAll R said).length : Int) + ns.length := by
  have := len_dropAll h hn
  unfold cntP
  omega
theorem filter_take {α : Type} (f : α → Bool) {l : List α} {k : Nat} {x : α} (h : l[k]? = some x) : (l.take (k + 1)).filter f = (l.take k).filter f ++ if f x then [x] else [] := by
  rw [take_snoc h, List.filter_append]
  congr 1
  by_cases hf : f x = true
  · rw [if_pos hf]; simp [hf]
  · rw [if_neg hf]; simp [hf]
theorem rights_mem {ps : List Pf} (h : rights ps = true) : ∀ p ∈ ps, rightB p.1 p.2 = true := by
  unfold rights at h
  rw [List.all_eq_true] at h
  exact h
theorem get_left (R : Rts) {said : List Pf} (h : Srt said) {k : Nat} {x : Pf} (hx : said[k]? = some x) : getL (dropAll R (said.take k)) x = getL R x := by
  rw [getL_dropAll, if_neg]
  intro hm
  obtain ⟨i, hi⟩ := List.mem_iff_getElem?.1 hm
  have hil : i < k := by have := (List.getElem?_eq_some_iff.1 hi).1; rw [List.length_take] at this; omega
  rw [List.getElem?_take_of_lt hil] at hi
  exact plt_irrefl x (srt_lt h hi hx hil)
theorem drop_next (R : Rts) {said : List Pf} {k : Nat} {x : Pf} (hx : said[k]? = some x) : dropAll R (said.take (k + 1)) = delL (dropAll R (said.take k)) x := by
  rw [take_snoc hx, dropAll_snoc]
theorem put_next (R : Rts) (a : At) {ns : List Pf} {k : Nat} {x : Pf} (hx : ns[k]? = some x) : putAll R (ns.take (k + 1)) a = putP (putAll R (ns.take k) a) x a := by
  rw [take_snoc hx, putAll_snoc]
end Go.Proofs.Ytadlecnlgkhneaa

/-
  WHATEVER A PEER SAYS, BY A LIST: plain: the list of routes, as the law keeps it, has what the rib has; how many have turned.
-/
namespace Go.Proofs.Ytadlecnlgkhneaa
open Go.RowKit

/-- one map, in two orders. -/
structure Rel (R L : Rts) : Prop where
  r : KeysApart R
  l : KeysApart L
  eq : ∀ p, getL R p = getL L p
theorem keys_nodup {R : Rts} (h : KeysApart R) : (R.map (·.1)).Nodup := by
  unfold KeysApart at h
  rw [List.nodup_iff_pairwise_ne, List.pairwise_map]
  exact h
theorem mem_keys {R : Rts} {p : Pf} : p ∈ R.map (·.1) ↔ (getL R p).isSome = true := by
  rw [List.mem_map]
  constructor
  · rintro ⟨x, hx, rfl⟩
    by_cases h : getL R x.1 = none
    · exact absurd rfl (getL_none.1 h x hx)
    · exact Option.isSome_iff_ne_none.2 h
  · intro h
    obtain ⟨a, ha⟩ := Option.isSome_iff_exists.1 h
    exact ⟨(p, a), getL_mem ha, rfl⟩
theorem Rel.len {R L : Rts} (h : Rel R L) : R.length = L.length := by
  have : (R.map (·.1)).Perm (L.map (·.1)) := (List.perm_ext_iff_of_nodup (keys_nodup h.r) (keys_nodup h.l)).2 fun p => by rw [mem_keys, mem_keys, h.eq]
  simpa using this.length_eq
theorem Rel.nil : Rel [] [] := ⟨List.Pairwise.nil, List.Pairwise.nil, fun _ => rfl⟩
/-- the list that the law makes of a message. -/
def goneN (L : Rts) (gone : List Pf) : Rts := gone.foldl delL L
def addN (pass : Bool) (a : At) (L : Rts) (p : Pf) : Rts := delL L p ++ if pass then [] else [(p, a)]
def netsN (pass : Bool) (a : At) (L : Rts) (nets : List Pf) : Rts := nets.foldl (addN pass a) L
def nextLw (own : Int) (L : Rts) (gone nets : List Pf) (a : At) : Rts := netsN (passB a.path own) a (goneN L gone) nets
theorem getL_add (pass : Bool) (a : At) (L : Rts) (p q : Pf) : getL (addN pass a L p) q = if q = p then (if pass then none else some a) else getL L q := by
  unfold addN
  rw [getL_append, getL_del]
  by_cases h : q = p
  · subst h
    rw [if_pos rfl, if_pos rfl]
    cases pass <;> simp [getL]
  · rw [if_neg h, if_neg h]
    have : getL (if pass = true then [] else [(p, a)]) q = none := by
      rw [getL_none]; intro x hx
      cases pass <;> simp at hx
      subst hx; exact fun e => h e.symm
    rw [this]; cases getL L q <;> rfl
theorem apart_add {L : Rts} (h : KeysApart L) (pass : Bool) (a : At) (p : Pf) : KeysApart (addN pass a L p) := by
  unfold addN KeysApart
  rw [List.pairwise_append]
  refine ⟨apart_del h p, by cases pass <;> simp, fun x hx y hy => ?_⟩
  cases pass <;> simp at hy
  subst hy
  exact (mem_del.1 hx).2
theorem getL_nets (pass : Bool) (a : At) : ∀ (ps : List Pf) (L : Rts) (q : Pf), getL (netsN pass a L ps) q = if q ∈ ps then (if pass then none else some a) else getL L q
  | [], L, q => by simp [netsN]
  | p :: ps, L, q => by
    have e : netsN pass a L (p :: ps) = netsN pass a (addN pass a L p) ps := rfl
    rw [e, getL_nets pass a ps, getL_add]
    by_cases h1 : q ∈ ps
    · rw [if_pos h1, if_pos (List.mem_cons_of_mem _ h1)]
    · by_cases h2 : q = p
      · subst h2; simp
      · rw [if_neg h1, if_neg h2, if_neg (by simp [h1, h2])]
theorem apart_nets (pass : Bool) (a : At) : ∀ (ps : List Pf) {L : Rts}, KeysApart L → KeysApart (netsN pass a L ps)
  | [], _, h => h
  | p :: ps, _, h => apart_nets pass a ps (apart_add h pass a p)
theorem getL_next (own : Int) (L : Rts) (gone nets : List Pf) (a : At) (q : Pf) : getL (nextLw own L gone nets a) q = if q ∈ nets then (if passB a.path own then none else some a) else if q ∈ gone then none else getL L q := by
  unfold nextLw
  rw [getL_nets]
  have : goneN L gone = dropAll L gone := rfl
  rw [this, getL_dropAll]
theorem apart_next {L : Rts} (h : KeysApart L) (own : Int) (gone nets : List Pf) (a : At) : KeysApart (nextLw own L gone nets a) := apart_nets _ _ _ (apart_dropAll h gone)
/-- what the rib has then. -/
def ribN (own : Int) (R : Rts) (gone nets : List Pf) (a : At) : Rts := putAll (dropAll R (saidP gone nets)) (netsP own nets a) a
theorem rel_next {R L : Rts} (h : Rel R L) (own : Int) (gone nets : List Pf) (a : At) : Rel (ribN own R gone nets a) (nextLw own L gone nets a) := by
  refine ⟨apart_putAll a _ (apart_dropAll h.r _), apart_next h.l own gone nets a, fun q => ?_⟩
  unfold ribN
  rw [getL_putAll, getL_dropAll, getL_next, ← h.eq]
  have hs := (said_srt gone nets).2 q
  have hn : q ∈ netsP own nets a ↔ (passB a.path own = false ∧ q ∈ nets) := by
    unfold netsP
    cases passB a.path own with
    | true => simp
    | false => simp [(setOf_srt nets).2 q]
  by_cases h1 : q ∈ nets
  · rw [if_pos h1]
    cases hp : passB a.path own with
    | true =>
      rw [if_neg (by rw [hn, hp]; simp), if_pos (hs.2 (.inr h1))]; rfl
    | false =>
      rw [if_pos (by rw [hn, hp]; exact ⟨rfl, h1⟩)]; rfl
  · rw [if_neg h1, if_neg (by rw [hn]; exact fun h => h1 h.2)]
    by_cases h2 : q ∈ gone
    · rw [if_pos h2, if_pos (hs.2 (.inl h2))]
    · rw [if_neg h2, if_neg (by rw [hs]; simp [h1, h2])]
theorem said_nodup (gone nets : List Pf) : (saidP gone nets).Nodup := by
  have := (said_srt gone nets).1
  unfold Srt at this
  rw [List.nodup_iff_pairwise_ne]
  exact this.imp fun {x y} hxy e => by subst e; exact plt_irrefl x hxy
theorem netsP_nodup (own : Int) (nets : List Pf) (a : At) : (netsP own nets a).Nodup := by
  have := (nets_srt own nets a).1
  unfold Srt at this
  rw [List.nodup_iff_pairwise_ne]
  exact this.imp fun {x y} hxy e => by subst e; exact plt_irrefl x hxy
theorem cnt_next {R L : Rts} (h : Rel R L) (own : Int) (gone nets : List Pf) (a : At) : cntP R (saidP gone nets) (netsP own nets a) = ((nextLw own L gone nets a).length : Int) := by
  rw [cnt_len h.r (said_nodup gone nets), ← (rel_next h own gone nets a).len]
  unfold ribN
  rw [len_putAll a _ _ (netsP_nodup own nets a) fun p hp => by rw [getL_dropAll, if_pos]; exact ((said_srt gone nets).2 p).2 (.inr ((nets_srt own nets a).2 p hp))]
  push_cast; rfl
/-- what Update answers, told by the law's list. -/
def updLaw (own most : Int) (L : Rts) (R : Rts) (gone nets : List Pf) (a : At) : Int × List Pf × Rts × Rts :=
  if rights (gone ++ nets) then
    if ((nextLw own L gone nets a).length : Int) > most then (32, [], R, L) else (0, (saidP gone nets).filter (turnB R (netsP own nets a) a), ribN own R gone nets a, nextLw own L gone nets a)
  else (1, [], R, L)
theorem upd_next {R L : Rts} (h : Rel R L) (own most : Int) (gone nets : List Pf) (a : At) : updP own most R 2 gone nets a = ((updLaw own most L R gone nets a).1, (updLaw own most L R gone nets a).2.1, (updLaw own most L R gone nets a).2.2.1) ∧ Rel (updLaw own most L R gone nets a).2.2.1 (updLaw own most L R gone nets a).2.2.2 := by
  unfold updP updLaw
  rw [if_pos rfl, cnt_next h]
  split
  · split
    · exact ⟨rfl, h⟩
    · exact ⟨rfl, rel_next h own gone nets a⟩
  · exact ⟨rfl, h⟩
/-! ### how many have turned -/
def goneC (L N : Rts) : Rts := L.filter fun x => match getL N x.1 with | none => true | some b => !sameA b x.2
def newC (L N : Rts) : Rts := N.filter fun x => (getL L x.1).isNone
theorem turn_mem {R L : Rts} (h : Rel R L) (own : Int) (gone nets : List Pf) (a : At) (p : Pf) :
    p ∈ (saidP gone nets).filter (turnB R (netsP own nets a) a) ↔ (match getL L p, getL (nextLw own L gone nets a) p with | none, none => False | some b, some c => c ≠ b | _, _ => True) := by
  rw [List.mem_filter, getL_next, ← h.eq]
  have hs := (said_srt gone nets).2 p
  have hn : p ∈ netsP own nets a ↔ (passB a.path own = false ∧ p ∈ nets) := by
    unfold netsP
    cases passB a.path own with
    | true => simp
    | false => simp [(setOf_srt nets).2 p]
  rw [hs]
  unfold turnB
  by_cases h1 : p ∈ nets
  · simp only [h1, or_true, true_and, if_true]
    cases hp : passB a.path own with
    | true =>
      have : p ∉ netsP own nets a := by rw [hn, hp]; simp
      cases getL R p <;> simp [this]
    | false =>
      have : p ∈ netsP own nets a := by rw [hn, hp]; exact ⟨rfl, h1⟩
      cases hg : getL R p with
      | none => simp [this]
      | some b =>
        simp only [this, decide_true, Bool.not_true, Bool.false_or, Bool.not_eq_true', Bool.false_eq_true, if_false, ne_eq]
        rw [← Bool.not_eq_true, sameA_iff]
        exact ⟨fun h e => h e.symm, fun h e => h e.symm⟩
  · have hnn : p ∉ netsP own nets a := by rw [hn]; exact fun h => h1 h.2
    simp only [h1, or_false, if_false]
    by_cases h2 : p ∈ gone
    · cases getL R p <;> simp [h2, hnn]
    · cases getL R p <;> simp [h2]
theorem turn_count {R L : Rts} (h : Rel R L) (own : Int) (gone nets : List Pf) (a : At) :
    ((saidP gone nets).filter (turnB R (netsP own nets a) a)).length = (goneC L (nextLw own L gone nets a)).length + (newC L (nextLw own L gone nets a)).length := by
  have hN := apart_next h.l own gone nets a
  have hT := turn_mem h own gone nets a
  generalize nextLw own L gone nets a = N at hN hT ⊢
  have e : ((saidP gone nets).filter (turnB R (netsP own nets a) a)).Perm ((goneC L N).map (·.1) ++ (newC L N).map (·.1)) := by
    refine (List.perm_ext_iff_of_nodup ((said_nodup gone nets).filter _) ?_).2 fun p => ?_
    · rw [List.nodup_append]
      refine ⟨(keys_nodup (h.l.filter _)), keys_nodup (hN.filter _), ?_⟩
      intro x hx y hy e
      subst e
      rw [mem_keys] at hx hy
      obtain ⟨b, hb⟩ := Option.isSome_iff_exists.1 hx
      obtain ⟨c, hc⟩ := Option.isSome_iff_exists.1 hy
      have h1 := (List.mem_filter.1 (getL_mem hb)).1
      have h2 := (List.mem_filter.1 (getL_mem hc)).2
      simp only [getL_of_mem h.l h1] at h2
      cases h2
    · rw [hT p, List.mem_append]
      cases hl : getL L p with
      | none =>
        cases hn : getL N p with
        | none =>
          simp only [false_iff, not_or]
          constructor
          · intro hm
            rw [mem_keys] at hm
            obtain ⟨b, hb⟩ := Option.isSome_iff_exists.1 hm
            have := getL_of_mem h.l (List.mem_filter.1 (getL_mem hb)).1
            rw [hl] at this; cases this
          · intro hm
            rw [mem_keys] at hm
            obtain ⟨b, hb⟩ := Option.isSome_iff_exists.1 hm
            have := getL_of_mem hN (List.mem_filter.1 (getL_mem hb)).1
            rw [hn] at this; cases this
        | some c =>
          simp only [true_iff]
          exact .inr (List.mem_map.2 ⟨(p, c), List.mem_filter.2 ⟨getL_mem hn, by simp [hl]⟩, rfl⟩)
      | some b =>
        cases hn : getL N p with
        | none =>
          simp only [true_iff]
          exact .inl (List.mem_map.2 ⟨(p, b), List.mem_filter.2 ⟨getL_mem hl, by simp [hn]⟩, rfl⟩)
        | some c =>
          simp only
          constructor
          · intro hne
            refine .inl (List.mem_map.2 ⟨(p, b), List.mem_filter.2 ⟨getL_mem hl, ?_⟩, rfl⟩)
            simp only [hn, Bool.not_eq_true']
            rw [← Bool.not_eq_true, sameA_iff]
            exact hne
          · rintro (hm | hm)
            · obtain ⟨x, hx, rfl⟩ := List.mem_map.1 hm
              obtain ⟨h1, h2⟩ := List.mem_filter.1 hx
              have e1 := getL_of_mem h.l (show (x.1, x.2) ∈ L from h1)
              rw [hl] at e1
              obtain rfl := Option.some.inj e1
              simp only [hn, Bool.not_eq_true'] at h2
              intro e
              rw [e, sameA_refl] at h2
              cases h2
            · obtain ⟨x, hx, rfl⟩ := List.mem_map.1 hm
              obtain ⟨h1, h2⟩ := List.mem_filter.1 hx
              simp only [hl] at h2
              cases h2
  have := e.length_eq
  simpa using this
/-! ### find -/
def findI (L : Rts) (p : Pf) : Option Nat := L.findIdx? fun x => x.1 = p
theorem findI_some {L : Rts} (h : KeysApart L) {p : Pf} {k : Nat} {x : Pf × At} (hx : L[k]? = some x) (e : x.1 = p) : findI L p = some k := by
  unfold findI
  rw [List.findIdx?_eq_some_iff_getElem]
  obtain ⟨hk, hx⟩ := List.getElem?_eq_some_iff.1 hx
  refine ⟨hk, by simp [hx, e], fun j hj => ?_⟩
  unfold KeysApart at h
  rw [List.pairwise_iff_getElem] at h
  have := h j k (by omega) hk hj
  rw [hx, e] at this
  simpa using this
theorem findI_none {L : Rts} {p : Pf} (h : getL L p = none) : findI L p = none := by
  unfold findI
  rw [List.findIdx?_eq_none_iff]
  intro x hx
  simpa using getL_none.1 h x hx
theorem getL_find {L : Rts} {p : Pf} {k : Nat} (h : findI L p = some k) : ∃ a, L[k]? = some (p, a) ∧ getL L p = some a := by
  unfold findI at h
  rw [List.findIdx?_eq_some_iff_getElem] at h
  obtain ⟨hk, h1, h2⟩ := h
  simp only [decide_eq_true_eq] at h1
  refine ⟨L[k].2, by rw [List.getElem?_eq_getElem hk]; rw [← h1], ?_⟩
  unfold getL
  have : L.find? (fun x => decide (x.1 = p)) = some L[k] := by
    rw [List.find?_eq_some_iff_getElem]
    exact ⟨by simpa using h1, k, hk, rfl, fun j hj => by simpa using h2 j hj⟩
  rw [this]; rfl
theorem getL_findI (L : Rts) (p : Pf) : (getL L p = none ∧ findI L p = none) ∨ ∃ k a, findI L p = some k ∧ L[k]? = some (p, a) ∧ getL L p = some a := by
  cases h : findI L p with
  | none =>
    refine .inl ⟨?_, rfl⟩
    unfold findI at h
    rw [List.findIdx?_eq_none_iff] at h
    rw [getL_none]
    intro x hx
    simpa using h x hx
  | some k =>
    obtain ⟨a, h1, h2⟩ := getL_find h
    exact .inr ⟨k, a, rfl, h1, h2⟩
end Go.Proofs.Ytadlecnlgkhneaa

/-
  THE LAW'S LIST OF ROUTES (AdjRuns), in memory.
-/
namespace Go.Proofs.Ytadlecnlgkhneaa
open Go.RowKit

/-- a row: a route as the law keeps it. -/
structure RO where
  p : Pf
  a : At
  v : AV
abbrev roA (x : RO) : Array Value := #[.int .u32 x.p.1, .int .i64 x.p.2, .int .i64 x.v.has, .int .i64 x.v.origin, .slice x.v.ps x.v.pn x.v.pc, .int .u32 x.v.hop, .int .i64 x.v.med, .int .i64 x.v.loc, .int .i64 x.v.aggrAs, .int .u32 x.v.aggrId, .slice x.v.cs x.v.cn x.v.cc, .slice x.v.os x.v.on x.v.oc]
def roL (x : RO) : List Value := (roA x).toList
theorem roL_len (x : RO) : (roL x).length = 12 := rfl
theorem roL_one (x : RO) : ∀ u ∈ roL x, u.oneCell' = true := by
  intro u hu
  unfold roL at hu
  simp at hu
  rcases hu with rfl | rfl | rfl | rfl | rfl | rfl | rfl | rfl | rfl | rfl | rfl | rfl <;> rfl
/-- a row and what it hangs on. -/
def RwC (W : World) (x : RO) (cs : List Value) : Prop := cs = roL x ∧ OkP x.p ∧ AvAt W x.a x.v ∧ AtSz x.a
abbrev RwAt (W : World) (v : Value) (xs : List RO) : Prop := SlAt W 12 (RwC W) v xs
theorem RwC.below {W W' : World} {x : RO} {cs : List Value} (h : RwC W x cs) (hb : Below W.heap.size W W') : RwC W' x cs := ⟨h.1, h.2.1, h.2.2.1.below hb, h.2.2.2⟩
theorem RwAt.below {W W' : World} {v : Value} {xs : List RO} (h : RwAt W v xs) (hb : Below W.heap.size W W') : RwAt W' v xs := SlAt.below h hb fun _ _ h => h.below hb
def roR (xs : List RO) : Rts := xs.map fun x => (x.p, x.a)
theorem info_row : (Try.prog.info? 66).map (fun i => (i.zero, i.size, i.bytes)) = some (some (.agg #[.int .u32 0, .int .i64 0, .int .i64 0, .int .i64 0, .slice none 0 0, .int .u32 0, .int .i64 0, .int .i64 0, .int .i64 0, .int .u32 0, .slice none 0 0, .slice none 0 0]), 12, 144) := by kernel_rfl
def fndI (L : Rts) (p : Pf) : Int := match findI L p with | none => -1 | some k => k
theorem row_at {W : World} {s : Option Addr} {n c : Nat} {xs : List RO} (h : RwAt W (.slice s n c) xs) {i : Nat} {x : RO} (hx : xs[i]? = some x) : ∃ g o, s = some ⟨g, o, none⟩ ∧ W.rangeAt g (o + i * 12) (roL x) ∧ OkP x.p ∧ AvAt W x.a x.v ∧ AtSz x.a := by
  obtain ⟨s', c', e, _, _, h3⟩ := h
  injection e with e _ _
  subst e
  obtain ⟨g, o, rfl, h4⟩ := h3 (by have := (List.getElem?_eq_some_iff.1 hx).1; omega)
  obtain ⟨cs, -, ⟨rfl, h5, h6, h7⟩, hc⟩ := h4 i x hx
  exact ⟨g, o, rfl, fun j v hv => hc j v hv, h5, h6, h7⟩
end Go.Proofs.Ytadlecnlgkhneaa

/-
  THE LAW'S LIST OF ROUTES (AdjRuns): find, without.
-/
namespace Go.Proofs.Ytadlecnlgkhneaa
open Go.RowKit

theorem eqb_pf (a b : Pf) : (a.1 == b.1 && a.2 == b.2) = decide (a = b) := by
  obtain ⟨a1, a2⟩ := a
  obtain ⟨b1, b2⟩ := b
  by_cases h1 : a1 = b1 <;> by_cases h2 : a2 = b2 <;> simp [h1, h2]
theorem sz_row : (Try.prog.info? 66).map (·.size) = some 12 := by kernel_rfl
theorem ro_one (x : RO) : (roA x).all (·.oneCell') = true := by simp [Value.oneCell']
theorem fnd_at {xs : List RO} {p : Pf} {i : Nat} {x : RO} (hi : ∀ j y, j < i → xs[j]? = some y → y.p ≠ p) (hx : xs[i]? = some x) (e : x.p = p) : fndI (roR xs) p = i := by
  have : findI (roR xs) p = some i := by
    unfold findI
    rw [List.findIdx?_eq_some_iff_getElem]
    obtain ⟨hk, hg⟩ := List.getElem?_eq_some_iff.1 hx
    refine ⟨by simpa [roR] using hk, by simp [roR, hg, e], fun j hj => ?_⟩
    have hj2 : j < xs.length := by omega
    have := hi j xs[j] hj (List.getElem?_eq_getElem hj2)
    simpa [roR] using this
  unfold fndI
  rw [this]
theorem fnd_no {xs : List RO} {p : Pf} (hi : ∀ j y, j < xs.length → xs[j]? = some y → y.p ≠ p) : fndI (roR xs) p = -1 := by
  have : findI (roR xs) p = none := by
    unfold findI
    rw [List.findIdx?_eq_none_iff]
    intro y hy
    obtain ⟨x, hx, rfl⟩ := List.mem_map.1 hy
    obtain ⟨j, hj⟩ := List.mem_iff_getElem?.1 hx
    simpa using hi j x (List.getElem?_eq_some_iff.1 hj).1 hj
  unfold fndI
  rw [this]
set_option maxHeartbeats 3200000 in
set_option maxRecDepth 100000 in
theorem l_find (v : Value) (xs : List RO) (p : Pf) (w : World) (h : RwAt w v xs) : Calls Try.prog 22 #[v, .agg #[.int .u32 p.1, .int .i64 p.2]] w fun e w' => e = .returned (.int .i64 (fndI (roR xs) p)) ∧ Below w.heap.size w w' := by
  have H := Lib.hid h
  obtain ⟨s, cap, rfl, hl, hm, -⟩ := h
  unfold maxLen at hm
  have xl : xs.length ≤ 9223372036854775807 := Nat.le_trans hl hm
  clear hl hm
  go_enter Try.func22, Try.ntmps22
  go_upto_region 1 with (fail)
  obtain ⟨W0, hW0, c0, c1, hb0⟩ := box2 w (.int .u32 p.1) (.int .i64 p.2) 29
  rw [← hW0]
  have C0 := Lib.hid c0
  have C1 := Lib.hid c1
  have B0 := Lib.hid hb0
  clear hW0 c0 c1 hb0
  go_wp2_with fail
  go_loopw [9] (fun t9 wr => ∃ i : Nat, i ≤ xs.length ∧ t9 = .int .i64 i ∧ Hid (∀ j y, j < i → xs[j]? = some y → y.p ≠ p) ∧ Hid (Below W0.heap.size W0 wr)) (fun t9 _ => xs.length - (intOf t9).toNat)
  case atStart => exact ⟨0, by omega, rfl, Lib.hid (fun j y hj => by omega), Lib.hid (Below.refl _ _)⟩
  case round =>
    obtain ⟨i, hi, rfl, NO, B⟩ := hrel
    by_cases hlt : i < xs.length
    · obtain ⟨x, hx⟩ : ∃ x, xs[i]? = some x := ⟨_, List.getElem?_eq_getElem hlt⟩
      obtain ⟨g, o, rfl, hr, -⟩ := row_at (H.out.below (below_on B0.out B.out)) hx
      have HX := Lib.hid hx
      have RR := Lib.hid hr
      have i0 : (0 : Int) ≤ (i : Int) := by omega
      have i1 : (i : Int) < (xs.length : Int) := by omega
      clear hx hr
      go_wp2_with ((with_reducible refine halt_at (X := .load 66 (.tmp 12)) ?_ ?_); (· rfl))
      unfold Halt
      refine ldm_at (by rfl) 66 (.tmp 12) rfl g (o + i * 12) rfl (roL x) _ RR.out Try.underlying66 rfl sz_row ?_
      go_wp2_with ((with_reducible refine halt_at (X := .store 66 (.tmp 6) (.tmp 13)) ?_ ?_); (· rfl))
      unfold Halt
      refine st_fresh rfl 66 (.tmp 6) (.tmp 13) rfl rfl _ (roA x) rfl sz_row rfl (ro_one x) ?_
      obtain ⟨w1, hw1, q1, hb1, -⟩ := box1 wr (roA x) 66
      rw [← hw1]
      have B1 := Lib.hid (below_on B.out hb1)
      have y0 : w1.cell? ⟨wr.heap.size, 0, none⟩ = some (.int .u32 x.p.1) := row_cell q1 0
      have y1 : w1.cell? ⟨wr.heap.size, 1, none⟩ = some (.int .i64 x.p.2) := row_cell q1 1
      have z0 := cell_below C0.out B1.out
      have z1 := cell_below C1.out B1.out
      have re := eqb_pf x.p p
      clear hw1 q1 hb1 B RR
      by_cases e : x.p = p
      · have F := Lib.hid (fnd_at NO.out HX.out e)
        rw [decide_eq_true e] at re
        clear e
        go_wp2_with fail
        go_ret
        exact ⟨by rw [F.out]; rfl, below_on B0.out B1.out⟩
      · have NN : Hid (∀ j y, j < i + 1 → xs[j]? = some y → y.p ≠ p) := Lib.hid fun j y hj hy => by
          by_cases h : j = i
          · subst h
            rw [HX.out] at hy
            rw [← Option.some.inj hy]; exact e
          · exact NO.out j y (by omega) hy
        rw [decide_eq_false e] at re
        clear e NO
        go_wp2_with fail
        exact ⟨⟨i + 1, by omega, by go_num, NN, B1⟩, by simp [intOf]; omega⟩
    · obtain rfl : i = xs.length := by omega
      have F := Lib.hid (fnd_no NO.out)
      clear hlt hi NO
      go_wp2_with fail
      go_ret
      exact ⟨by rw [F.out]; rfl, below_on B0.out B.out⟩
end Go.Proofs.Ytadlecnlgkhneaa

/-
  THE LAW'S LIST OF ROUTES (AdjRuns): without.
-/
namespace Go.Proofs.Ytadlecnlgkhneaa
open Go.RowKit

/-- rows of the call's own. -/
def OwnRw (w : World) (B : Nat) (v : Value) (xs : List RO) : Prop := w.ownsRow B 66 12 v xs.length (xs.flatMap roL)
theorem OwnRw.below {w w' : World} {B : Nat} {v : Value} {xs : List RO} (h : OwnRw w B v xs) (hb : Below w.heap.size w w') : OwnRw w' B v xs := own_below h hb
theorem ownRw_snoc {w : World} {B : Nat} {v : Value} {xs : List RO} {x : RO} (h : w.ownsRow B 66 12 v (xs.length + 1) (xs.flatMap roL ++ roL x)) : OwnRw w B v (xs ++ [x]) := by
  unfold OwnRw
  rw [List.length_append, List.flatMap_append]
  simpa using h
theorem OwnRw.at {w : World} {B : Nat} {v : Value} {xs : List RO} (h : OwnRw w B v xs) (hx : ∀ x ∈ xs, OkP x.p ∧ AvAt w x.a x.v ∧ AtSz x.a) : RwAt w v xs := (own_slat roL_len h).imp fun x _ hm hc => ⟨hc, hx x hm⟩
theorem rw_mem {W : World} {v : Value} {xs : List RO} (h : RwAt W v xs) : ∀ x ∈ xs, OkP x.p ∧ AvAt W x.a x.v ∧ AtSz x.a := by
  intro x hx
  obtain ⟨i, hi⟩ := List.mem_iff_getElem?.1 hx
  obtain ⟨s, c, rfl, -⟩ := id h
  obtain ⟨-, -, -, -, h1⟩ := row_at h hi
  exact h1
def keepRO (p : Pf) (xs : List RO) : List RO := xs.filter fun x => !decide (x.p = p)
theorem keep_rts (p : Pf) (xs : List RO) : roR (keepRO p xs) = delL (roR xs) p := by
  unfold roR keepRO delL
  rw [List.filter_map]
  rfl
set_option maxHeartbeats 6400000 in
set_option maxRecDepth 100000 in
theorem l_without (v : Value) (xs : List RO) (p : Pf) (w : World) (h : RwAt w v xs) (hn : xs.length ≤ 100000) : Calls Try.prog 21 #[v, .agg #[.int .u32 p.1, .int .i64 p.2]] w fun e w' => ∃ s c, e = .returned (.slice s (keepRO p xs).length c) ∧ OwnRw w' w.heap.size (.slice s (keepRO p xs).length c) (keepRO p xs) ∧ Below w.heap.size w w' := by
  have H := Lib.hid h
  obtain ⟨s, cap, rfl, -, -, -⟩ := h
  obtain ⟨i0, hii, hz0, hz1, hz2⟩ := info_parts info_row
  obtain ⟨F, hF⟩ : ∃ F : Nat → List RO, F = fun i => keepRO p (xs.take i) := ⟨_, rfl⟩
  have FS : Hid (∀ i x, xs[i]? = some x → F (i + 1) = F i ++ if x.p = p then [] else [x]) := Lib.hid fun i x hx => by
    rw [hF]
    simp only
    unfold keepRO
    rw [List.take_add_one, hx, List.filter_append]
    by_cases e : x.p = p <;> simp [e]
  have F0 : Hid (F 0 = []) := Lib.hid (by rw [hF]; rfl)
  have FE : Hid (F xs.length = keepRO p xs) := Lib.hid (by rw [hF]; simp only; rw [List.take_length])
  have FL : Hid (∀ i, (F i).length ≤ 100000) := Lib.hid fun i => by
    rw [hF]
    have h1 := List.length_filter_le (fun x : RO => !decide (x.p = p)) (xs.take i)
    have h2 := List.length_take_le' i xs
    unfold keepRO
    simp only
    omega
  clear hF
  go_enter Try.func21, Try.ntmps21
  go_upto_region 1 with (fail)
  obtain ⟨W0, hW0, c0, c1, hb0⟩ := box2 w (.int .u32 p.1) (.int .i64 p.2) 29
  rw [← hW0]
  have C0 := Lib.hid c0
  have C1 := Lib.hid c1
  have B0 := Lib.hid hb0
  clear hW0 c0 c1 hb0
  go_upto_region 2 with (fail)
  obtain ⟨W1, hW1, o1, hb1⟩ : ∃ W1, W1 = W0.alloc (.cells #[] 66) ∧ W1.ownsRow W0.heap.size 66 12 (.slice (some ⟨W0.heap.size, 0, none⟩) 0 0) 0 [] ∧ Below W0.heap.size W0 W1 := ⟨_, rfl, own_empty (Nat.le_refl _), (Below.refl _ _).alloc (Nat.le_refl _) _⟩
  rw [← hW1]
  have O1 : Hid (OwnRw W1 W0.heap.size (.slice (some ⟨W0.heap.size, 0, none⟩) (F 0).length 0) (F 0)) := Lib.hid (by rw [F0.out]; exact o1)
  have E1 : (.slice (some ⟨W0.heap.size, 0, none⟩) 0 0 : Value) = .slice (some ⟨W0.heap.size, 0, none⟩) (F 0).length 0 := by rw [F0.out]; rfl
  rw [E1]
  have B1 := Lib.hid hb1
  clear hW1 o1 hb1 E1
  generalize (some ⟨W0.heap.size, 0, none⟩ : Option Addr) = s0 at O1 ⊢
  go_wp2_with fail
  go_loopw [11, 5] (fun t11 v5 wr => ∃ (i : Nat) (s5 : Option Addr) (c5 : Nat), i ≤ xs.length ∧ t11 = .int .i64 i ∧ v5 = .slice s5 (F i).length c5 ∧ Hid (OwnRw wr W0.heap.size (.slice s5 (F i).length c5) (F i)) ∧ Hid (Below W0.heap.size W0 wr)) (fun t11 _ _ => xs.length - (intOf t11).toNat)
  case atStart => exact ⟨0, s0, 0, by omega, rfl, rfl, O1, B1⟩
  case round =>
    clear O1 B1
    obtain ⟨i, s5, c5, hi, rfl, rfl, O, B⟩ := hrel
    by_cases hlt : i < xs.length
    · obtain ⟨x, hx⟩ : ∃ x, xs[i]? = some x := ⟨_, List.getElem?_eq_getElem hlt⟩
      obtain ⟨g, o, rfl, hr, -⟩ := row_at (H.out.below (below_on B0.out B.out)) hx
      have RR := Lib.hid hr
      have FX := FS.out i x hx
      have LI := FL.out i
      have i0' : (0 : Int) ≤ (i : Int) := by omega
      have i1 : (i : Int) < (xs.length : Int) := by omega
      clear hx hr
      go_wp2_with ((with_reducible refine halt_at (X := .load 66 (.tmp 13)) ?_ ?_); (· rfl))
      unfold Halt
      refine ldm_at (by rfl) 66 (.tmp 13) rfl g (o + i * 12) rfl (roL x) _ RR.out Try.underlying66 rfl sz_row ?_
      go_wp2_with ((with_reducible refine halt_at (X := .store 66 (.tmp 7) (.tmp 14)) ?_ ?_); (· rfl))
      unfold Halt
      refine st_fresh rfl 66 (.tmp 7) (.tmp 14) rfl rfl _ (roA x) rfl sz_row rfl (ro_one x) ?_
      obtain ⟨w1, hw1, q1, hb1, -⟩ := box1 wr (roA x) 66
      rw [← hw1]
      have B1 := Lib.hid (below_on B.out hb1)
      have O1 := Lib.hid (O.out.below hb1)
      have y0 : w1.cell? ⟨wr.heap.size, 0, none⟩ = some (.int .u32 x.p.1) := row_cell q1 0
      have y1 : w1.cell? ⟨wr.heap.size, 1, none⟩ = some (.int .i64 x.p.2) := row_cell q1 1
      have z0 := cell_below C0.out B1.out
      have z1 := cell_below C1.out B1.out
      have re := eqb_pf x.p p
      have Q1 := Lib.hid q1
      clear hw1 q1 hb1 B O RR
      by_cases e : x.p = p
      · rw [if_pos e, List.append_nil] at FX
        have FX := Lib.hid FX
        rw [decide_eq_true e] at re
        clear e
        go_wp2_with fail
        exact ⟨⟨i + 1, s5, c5, by omega, by go_num, by rw [FX.out], Lib.hid (by rw [FX.out]; exact O1.out), B1⟩, by simp [intOf]; omega⟩
      · rw [if_neg e] at FX
        have FX := Lib.hid FX
        rw [decide_eq_false e] at re
        clear e
        go_wp2_with ((with_reducible refine halt_at (X := .load 66 (.tmp 7)) ?_ ?_); (· rfl))
        unfold Halt
        clear y0 y1 z0 z1 re
        refine ld_at (by rfl) 66 (.tmp 7) rfl wr.heap.size rfl 66 (roA x) (0, 0) _ Q1.out Try.underlying66 rfl sz_row ?_
        go_wp2_with (at_builtin; refine wpList_append_own _ rfl _ _ 61 rfl W0.heap.size 66 i0 _ 12 144 Try.underlying61 hii hz0 hz1 hz2 rfl (by decide) (.slice s5 (F i).length c5) (F i).length ((F i).flatMap roL) rfl (own_below O1.out ((Below.refl _ _).alloc (Nat.le_refl _) _)) ⟨w1.heap.size, 0, none⟩ 1 1 (roL x) rfl rfl (new_cells w1 _ _) (roL_one x) (by unfold maxLen; omega) (by omega) (by have := B1.out.size; simp; omega) ?_)
        intro v' w' hown hgrow _
        have ON : OwnRw w' W0.heap.size v' (F (i + 1)) := by rw [FX.out]; exact ownRw_snoc hown
        obtain ⟨s7, c7, hv, -⟩ := own_form ON
        subst hv
        have ON := Lib.hid ON
        have BN : Hid (Below W0.heap.size W0 w') := Lib.hid ((B1.out.alloc B1.out.size _).grown hgrow (by have := B1.out.size; simp; omega) (own_form_le O1.out))
        clear hown hgrow O1 B1 Q1
        go_wp2_with fail
        exact ⟨⟨i + 1, s7, c7, by omega, by go_num, rfl, ON, BN⟩, by simp [intOf]; omega⟩
    · obtain rfl : i = xs.length := by omega
      rw [FE.out] at O ⊢
      clear hlt hi
      go_wp2_with fail
      go_ret
      exact ⟨s5, c5, rfl, own_base O.out B0.out.size, below_on B0.out B.out⟩
end Go.Proofs.Ytadlecnlgkhneaa
