/- Texts of one proof, one behind another. -/
import Derived.Test.YtkoidahgbbabiaaGreatOf24
import Derived.Test.YtkoidahgbbabiaaGreatOf1
/-
  THE SERVER, IN SHORT: who offers a route; what blocking makes of it.
-/
namespace Go.Proofs.YtkoidahgbbabiaaGreat
open Go.RowKit
def Ab.as_ (A : Ab) (j : Nat) : Int := ((A.V[j]?).map (·.1)).getD 0
def Ab.goes (A : Ab) (i j : Nat) (p : Pf) : Bool := goesS A.own A.bl (A.R i) i j (A.as_ j) p
section
variable {w W : World} {rho : Nat → Role} {sb fb : Nat} {ls : List Pl} {S : Sv} {A : Ab}
theorem IsAb.asO (h : IsAb S A) {j : Nat} {m : Pm} (hm : S.ms[j]? = some m) : A.as_ j = m.as_ := by
  unfold Ab.as_
  rw [(h.get hm).1]
  rfl
theorem ls_Offers (h : LSv w W rho sb fb ls A) {i : Nat} (hi : i < A.V.length) (p : Pf) (hp : KOk p) : Calls Tryz.prog 30 #[.pointer (some ⟨sb, 0, none⟩), .int .i64 i, .agg #[.int .u32 p.1, .int .i64 p.2]] W (OffersPost (A.offs i p) p W) := by
  obtain ⟨S, h1, h2⟩ := h.srv
  obtain ⟨m, hm⟩ := h2.at hi
  have := sv_Offers h1 hm p hp
  rw [off_V, h2.own, h2.bl, h2.V] at this
  exact this
theorem ls_Goes (h : LSv w W rho sb fb ls A) {i j : Nat} (hi : i < A.V.length) (hj : j < A.V.length) (p : Pf) (hp : OkP p) :
    Calls Tryz.prog 31 #[.pointer (some ⟨sb, 0, none⟩), .int .i64 i, .int .i64 j, .agg #[.int .u32 p.1, .int .i64 p.2]] W fun e w' => e = .returned (.bool (A.goes i j p)) ∧ Below W.heap.size W w' := by
  obtain ⟨S, h1, h2⟩ := h.srv
  obtain ⟨m, hm⟩ := h2.at hi
  obtain ⟨n, hn⟩ := h2.at hj
  have := sv_Goes h1 hm hn p hp
  rw [h2.own, h2.bl, ← (h2.get hm).2, ← h2.asO hn] at this
  exact this
theorem ls_Block (h : LSv w W rho sb fb ls A) {i j : Nat} (hi : i < A.V.length) (hj : j < A.V.length) (b : Bool) :
    Calls Tryz.prog 26 #[.pointer (some ⟨sb, 0, none⟩), .int .i64 i, .int .i64 j, .bool b] W fun e w' => ∃ rho' : Nat → Role, e = .returned (.int .i64 0) ∧ LSv w w' rho' sb fb ls (A.block i j b) ∧ Step rho rho' W w' := by
  obtain ⟨S, h1, h2⟩ := h.srv
  obtain ⟨m, hm⟩ := h2.at hi
  obtain ⟨n, hn⟩ := h2.at hj
  refine (sv_Block h1 hm hn b).mono ?_
  rintro e w' ⟨rho', ps, rfl, hps, hs, st⟩
  exact ⟨rho', rfl, h.step hs (h2.block h.few hi hj b ps (fun p => by rw [(h2.get hm).2]; exact hps p)) st, st⟩
end
theorem asV (A : Ab) (j : Nat) : asOf (A.V.map pmV) j = A.as_ j := by
  unfold asOf Ab.as_
  rw [List.getElem?_map]
  cases A.V[j]? <;> rfl
theorem goesB_way {own : Int} {bl : Nat → Bool} {a : At} {i j : Nat} {t : Int} (h : goesB own bl a i j t = true) : i ≠ j ∧ bl (i * 16 + j) = false := by
  unfold goesB at h
  simp at h
  exact ⟨h.1.1.1, h.1.2⟩
theorem goesB_other {own : Int} {bl bl' : Nat → Bool} {a : At} {i j : Nat} {t : Int} (h : bl (i * 16 + j) = bl' (i * 16 + j)) : goesB own bl a i j t = goesB own bl' a i j t := by
  unfold goesB
  rw [h]
theorem goesB_shut {own : Int} {bl : Nat → Bool} {a : At} {i j : Nat} {t : Int} (h : bl (i * 16 + j) = true) : goesB own bl a i j t = false := by
  unfold goesB
  rw [h]; simp
theorem offs_mem {A : Ab} {r : Nat} {p : Pf} {c : Cd} (h : c ∈ A.offs r p) : ∃ (n : Nat) (v : VM), c.peer = (n : Int) ∧ A.V[n]? = some v ∧ getL v.2.2 p = some c.a ∧ goesB A.own A.bl c.a n r (A.as_ r) = true := by
  unfold Ab.offs offV offS offL at h
  obtain ⟨h4, h5⟩ := List.mem_filter.1 h
  obtain ⟨n, m, b, g1, g2, rfl⟩ := saidS_mem h4
  rw [List.getElem?_map] at g1
  cases hv : A.V[n]? with
  | none => rw [hv] at g1; simp at g1
  | some v =>
    rw [hv] at g1; simp at g1; subst g1
    refine ⟨n, v, rfl, hv, g2, ?_⟩
    unfold goesC at h5
    rw [asV] at h5
    simpa [cdOf] using h5
theorem saidF_get {p : Pf} : ∀ {ms : List Pm} {i k : Nat} {m : Pm} {a : At}, ms[k]? = some m → getL m.R p = some a → cdOf (i + k) p m.id a ∈ saidF p i ms
  | [], _, _, _, _, h, _ => by simp at h
  | m :: ms, i, 0, m', a, h, hg => by
    simp at h; subst h
    rw [saidF, List.mem_append]
    left
    unfold saidOne
    rw [hg]
    simp
  | m :: ms, i, k + 1, m', a, h, hg => by
    simp at h
    rw [saidF, List.mem_append]
    right
    have := saidF_get (i := i + 1) h hg
    rw [show i + 1 + k = i + (k + 1) by omega] at this
    exact this
theorem offs_in {A : Ab} {r n : Nat} {p : Pf} {v : VM} {a : At} (hv : A.V[n]? = some v) (hg : getL v.2.2 p = some a) (hb : goesB A.own A.bl a n r (A.as_ r) = true) : ∃ c ∈ A.offs r p, c.peer = (n : Int) ∧ c.a = a := by
  refine ⟨cdOf n p v.2.1 a, ?_, rfl, rfl⟩
  unfold Ab.offs offV offS offL
  rw [List.mem_filter]
  constructor
  · have := saidF_get (p := p) (ms := A.V.map pmV) (i := 0) (k := n) (m := pmV v) (a := a) (by rw [List.getElem?_map, hv]; rfl) hg
    rw [Nat.zero_add] at this
    exact this
  · unfold goesC
    rw [asV]
    simpa [cdOf] using hb
theorem goes_iff {A : Ab} {i r : Nat} {p : Pf} : A.goes i r p = true ↔ ∃ c ∈ A.offs r p, c.peer = (i : Int) := by
  constructor
  · intro h
    unfold Ab.goes goesS at h
    cases hg : getL (A.R i) p with
    | none => rw [hg] at h; cases h
    | some a =>
      rw [hg] at h
      unfold Ab.R at hg
      cases hv : A.V[i]? with
      | none => rw [hv] at hg; simp [getL] at hg
      | some v =>
        rw [hv] at hg
        obtain ⟨c, h1, h2, -⟩ := offs_in hv (by simpa using hg) h
        exact ⟨c, h1, h2⟩
  · rintro ⟨c, hc, hp⟩
    obtain ⟨n, v, h1, h2, h3, h4⟩ := offs_mem hc
    have : n = i := by omega
    subst this
    unfold Ab.goes goesS
    have : A.R n = v.2.2 := by unfold Ab.R; rw [h2]; rfl
    rw [this, h3]
    exact h4
theorem saidF_peers (p : Pf) : ∀ (ms : List Pm) (i : Nat), (saidF p i ms).Pairwise (fun c d => c.peer ≠ d.peer) ∧ ∀ c ∈ saidF p i ms, (i : Int) ≤ c.peer
  | [], i => ⟨List.Pairwise.nil, fun c hc => by cases hc⟩
  | m :: ms, i => by
    obtain ⟨h1, h2⟩ := saidF_peers p ms (i + 1)
    rw [saidF]
    have h3 : ∀ c ∈ saidOne p i m, c.peer = (i : Int) := fun c hc => by
      unfold saidOne at hc
      split at hc
      · cases hc
      · rw [List.mem_singleton] at hc; subst hc; rfl
    refine ⟨List.pairwise_append.2 ⟨?_, h1, fun c hc d hd => ?_⟩, fun c hc => ?_⟩
    · unfold saidOne
      split <;> simp
    · have := h3 c hc
      have := h2 d hd
      omega
    · rcases List.mem_append.1 hc with hc | hc
      · have := h3 c hc; omega
      · have := h2 c hc; omega
theorem offs_peers (A : Ab) (r : Nat) (p : Pf) : (A.offs r p).Pairwise (fun c d => c.peer ≠ d.peer) := by
  unfold Ab.offs offV offS offL saidS
  exact (saidF_peers p _ 0).1.filter _
theorem best_offs (A : Ab) (r : Nat) (p : Pf) : A.best r p = pickB (A.offs r p) := rfl
structure ToldOf (A : Ab) (r : Nat) (p : Pf) (L : List BE) : Prop where
  perm : (L.map beC).Perm ((A.offs r p).map fun c => (c.peer, c.a))
  net : ∀ x ∈ L, x.p = p
theorem ToldOf.peers {A : Ab} {r : Nat} {p : Pf} {L : List BE} (h : ToldOf A r p L) : L.Pairwise (fun x y => x.peer ≠ y.peer) := by
  have h1 : ((A.offs r p).map fun c => (c.peer, c.a)).Pairwise (fun x y => x.1 ≠ y.1) := by
    rw [List.pairwise_map]; exact offs_peers A r p
  have h2 : (L.map beC).Pairwise (fun x y => x.1 ≠ y.1) := (h.perm.pairwise_iff (fun h => h.symm)).2 h1
  rw [List.pairwise_map] at h2
  exact h2
theorem ToldOf.of {A : Ab} {r : Nat} {p : Pf} {L : List BE} (h : ToldOf A r p L) {x : BE} (hx : x ∈ L) : ∃ c ∈ A.offs r p, c.peer = x.peer ∧ c.a = x.a := by
  have := h.perm.mem_iff.1 (List.mem_map.2 ⟨x, hx, rfl⟩)
  obtain ⟨c, hc, e⟩ := List.mem_map.1 this
  injection e with e1 e2
  exact ⟨c, hc, e1, e2⟩
theorem ToldOf.all {A : Ab} {r : Nat} {p : Pf} {L : List BE} (h : ToldOf A r p L) {c : Cd} (hc : c ∈ A.offs r p) : ∃ x ∈ L, x.peer = c.peer ∧ x.a = c.a := by
  have := h.perm.mem_iff.2 (List.mem_map.2 ⟨c, hc, rfl⟩)
  obtain ⟨x, hx, e⟩ := List.mem_map.1 this
  injection e with e1 e2
  exact ⟨x, hx, e1, e2⟩
theorem ToldOf.none {A : Ab} {r : Nat} {p : Pf} {L : List BE} (h : ToldOf A r p L) : A.best r p = .none ↔ L = [] := by
  rw [best_offs, pickB_none]
  have := h.perm.length_eq
  rw [List.length_map, List.length_map] at this
  constructor
  · intro e; rw [e] at this; exact List.length_eq_zero_iff.1 this
  · intro e; rw [e] at this; exact List.length_eq_zero_iff.1 this.symm
def blocks (A : Ab) (r : Nat) (L : List BE) : Ab := L.foldl (fun A x => A.block x.peer.toNat r true) A
theorem blocks_snoc (A : Ab) (r : Nat) (L : List BE) (x : BE) : blocks A r (L ++ [x]) = (blocks A r L).block x.peer.toNat r true := by unfold blocks; rw [List.foldl_append]; rfl
theorem blocks_V (r : Nat) : ∀ (L : List BE) (A : Ab), (blocks A r L).V = A.V ∧ (blocks A r L).own = A.own
  | [], _ => ⟨rfl, rfl⟩
  | x :: L, A => blocks_V r L (A.block x.peer.toNat r true)
theorem blocks_bl (r : Nat) (hr : r < 16) : ∀ (L : List BE) (A : Ab) (n : Nat), (blocks A r L).bl (n * 16 + r) = (A.bl (n * 16 + r) || L.any fun x => x.peer.toNat == n)
  | [], A, n => by simp [blocks]
  | x :: L, A, n => by
    show (blocks (A.block x.peer.toNat r true) r L).bl (n * 16 + r) = _
    rw [blocks_bl r hr L]
    have : (A.block x.peer.toNat r true).bl (n * 16 + r) = (A.bl (n * 16 + r) || (x.peer.toNat == n)) := by
      show setWay A.bl (x.peer.toNat * 16 + r) true (n * 16 + r) = _
      unfold setWay
      by_cases e : x.peer.toNat = n
      · subst e; simp
      · rw [if_neg (by omega)]; simp [e]
    rw [this, List.any_cons, Bool.or_assoc]
theorem blocks_as (A : Ab) (r : Nat) (L : List BE) (j : Nat) : (blocks A r L).as_ j = A.as_ j := by unfold Ab.as_; rw [(blocks_V r L A).1]
theorem blocks_R (A : Ab) (r : Nat) (L : List BE) (j : Nat) : (blocks A r L).R j = A.R j := by unfold Ab.R; rw [(blocks_V r L A).1]
theorem blocks_goes (A : Ab) (r : Nat) (hr : r < 16) (L : List BE) (n : Nat) (p : Pf) : (blocks A r L).goes n r p = (A.goes n r p && !L.any fun x => x.peer.toNat == n) := by
  unfold Ab.goes goesS
  rw [blocks_R, blocks_as, (blocks_V r L A).2]
  cases getL (A.R n) p with
  | none => rfl
  | some a =>
    show goesB A.own (blocks A r L).bl a n r (A.as_ r) = (goesB A.own A.bl a n r (A.as_ r) && !L.any fun x => x.peer.toNat == n)
    cases hb : L.any fun x => x.peer.toNat == n with
    | true =>
      rw [goesB_shut (by rw [blocks_bl r hr, hb, Bool.or_true])]
      simp
    | false =>
      rw [goesB_other (bl' := A.bl) (by rw [blocks_bl r hr, hb, Bool.or_false])]
      simp
theorem blocks_best (A : Ab) (r : Nat) (hr : r < 16) {p : Pf} {L : List BE} (h : ToldOf A r p L) : (blocks A r L).best r p = none := by
  rw [best_offs, pickB_none]
  refine List.eq_nil_iff_forall_not_mem.2 fun c hc => ?_
  obtain ⟨n, v, h1, h2, h3, h4⟩ := offs_mem hc
  rw [(blocks_V r L A).2, blocks_as] at h4
  rw [(blocks_V r L A).1] at h2
  have hw := (goesB_way h4).2
  rw [blocks_bl r hr] at hw
  simp only [Bool.or_eq_false_iff] at hw
  have h5 : goesB A.own A.bl c.a n r (A.as_ r) = true := by
    rw [goesB_other (bl' := (blocks A r L).bl) (by rw [blocks_bl r hr, hw.1, hw.2]; rfl)]
    exact h4
  obtain ⟨d, hd, hd1, -⟩ := offs_in h2 h3 h5
  obtain ⟨x, hx, hx1, -⟩ := h.all hd
  have := List.any_eq_false.1 hw.2 x hx
  apply this
  rw [hx1, hd1]
  simp
end Go.Proofs.YtkoidahgbbabiaaGreat
