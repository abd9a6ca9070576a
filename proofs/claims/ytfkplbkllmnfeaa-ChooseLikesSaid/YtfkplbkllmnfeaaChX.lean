/-
  THE REFERENCE's Best (carrefourref12), walked: its lists.
-/
import Derived.Test.YtfkplbkllmnfeaaChW
import Derived.Test.YtfkplbkllmnfeaaChU
namespace Go.Proofs.Ytfkplbkllmnfeaa
open Go.RowKit

theorem own_grown {w w' : World} {B k : Nat} {e : TypeId} {n : Nat} {v : Value} {xs : List Value} {row : Option Nat} (h : w.ownsRow B e k v n xs) (hg : w.grownBy w' row) (hne : ∀ g, v.ownBlock = some g → row ≠ some g) : w'.ownsRow B e k v n xs := by
  obtain ⟨h1, h2⟩ := h
  refine ⟨h1, h2.imp_right ?_⟩
  rintro ⟨g, cap, cur, rfl, h4, h5, h6⟩
  exact ⟨g, cap, cur, rfl, h4, (hg.block g (row_lt h5) (fun e => hne g rfl e.symm)).trans h5, h6⟩
theorem own_lt {w : World} {B k : Nat} {e : TypeId} {n : Nat} {v : Value} {xs : List Value} (h : w.ownsRow B e k v n xs) : ∀ g, v.ownBlock = some g → g < w.heap.size := by
  obtain ⟨_, ⟨rfl, _⟩ | ⟨g, cap, cur, rfl, _, hg, _⟩⟩ := h
  · intro g hg; cases hg
  · intro g' h'; cases h'; exact row_lt hg
/-- several rows of numbers of the call's own, each in a block of its own. -/
structure Rows6 (w : World) (B : Nat) (vs : List Value) (xss : List (List Int)) : Prop where
  own : ∀ (i : Nat) (v : Value) (xs : List Int), vs[i]? = some v → xss[i]? = some xs → w.ownsRow B 3 1 v xs.length (xs.flatMap intL)
  sep : ∀ (i j : Nat) (v u : Value), vs[i]? = some v → vs[j]? = some u → i ≠ j → ∀ g, v.ownBlock = some g → u.ownBlock ≠ some g
  len : vs.length = xss.length
theorem Rows6.below {w w' : World} {B : Nat} {vs : List Value} {xss : List (List Int)} (h : Rows6 w B vs xss) (hb : Below w.heap.size w w') : Rows6 w' B vs xss :=
  ⟨fun i v xs h1 h2 => own_below (h.own i v xs h1 h2) hb, h.sep, h.len⟩
theorem Rows6.step {w w' : World} {B : Nat} {vs : List Value} {xss : List (List Int)} (h : Rows6 w B vs xss) (i : Nat) {v v' : Value} {xs : List Int} {x : Int} (h1 : vs[i]? = some v) (h2 : xss[i]? = some xs)
    (hown : w'.ownsRow B 3 1 v' (xs.length + 1) (xs.flatMap intL ++ intL x)) (hg : w.grownBy w' v.ownBlock) (hat : v'.ownBlock = v.ownBlock ∨ v'.ownBlock = some w.heap.size) : Rows6 w' B (vs.set i v') (xss.set i (xs ++ [x])) := by
  have il : i < vs.length := (List.getElem?_eq_some_iff.1 h1).1
  have il2 : i < xss.length := (List.getElem?_eq_some_iff.1 h2).1
  have apart : ∀ j u, vs[j]? = some u → j ≠ i → ∀ g, u.ownBlock = some g → v'.ownBlock ≠ some g := by
    intro j u hu hj g hgu e
    rcases hat with e2 | e2
    · rw [e2] at e; exact h.sep i j v u h1 hu (Ne.symm hj) g e hgu
    · rw [e2] at e
      cases e
      have hjl : j < xss.length := by rw [← h.len]; exact (List.getElem?_eq_some_iff.1 hu).1
      exact absurd (own_lt (h.own j u _ hu (List.getElem?_eq_getElem hjl)) _ hgu) (Nat.lt_irrefl _)
  refine ⟨fun j u ys hu hy => ?_, fun a b u y hu hy hab g hgu => ?_, by simp [h.len]⟩
  · by_cases hj : j = i
    · subst hj
      rw [List.getElem?_set_self il] at hu
      rw [List.getElem?_set_self il2] at hy
      cases hu; cases hy
      rw [List.length_append, flat_snoc]
      exact hown
    · rw [List.getElem?_set_ne (Ne.symm hj)] at hu hy
      refine own_grown (h.own j u ys hu hy) hg (fun g hgu e => ?_)
      exact h.sep i j v u h1 hu (Ne.symm hj) g e hgu
  · by_cases ha : a = i
    · subst ha
      rw [List.getElem?_set_self il] at hu
      cases hu
      rw [List.getElem?_set_ne hab] at hy
      intro e
      exact apart b y hy (Ne.symm hab) g e hgu
    · rw [List.getElem?_set_ne (Ne.symm ha)] at hu
      by_cases hb : b = i
      · subst hb
        rw [List.getElem?_set_self il] at hy
        cases hy
        exact apart a u hu ha g hgu
      · rw [List.getElem?_set_ne (Ne.symm hb)] at hy
        exact h.sep a b u y hu hy hab g hgu
theorem Rows6.ints {w : World} {B : Nat} {vs : List Value} {xss : List (List Int)} (h : Rows6 w B vs xss) (i : Nat) {v : Value} {xs : List Int} (h1 : vs[i]? = some v) (h2 : xss[i]? = some xs) (hx : ∀ x ∈ xs, I64r x) : IntsAt w v xs :=
  (own_slat (C := intL) intL_len (h.own i v xs h1 h2)).imp (fun x _ hm h => ⟨h, hx x hm⟩)
/-- what is looked at of the routes. -/
def rtIdx (rs : List Rt) : List Int := castL (List.range rs.length)
def rtLike (rs : List Rt) : List Int := rs.map fun r => 4294967296 - r.loc
def rtHops (rs : List Rt) : List Int := rs.map Rt.hops
def rtOrig (rs : List Rt) : List Int := rs.map Rt.origin
def rtIds (rs : List Rt) : List Int := rs.map fun r => (r.id : Int)
def rtPeer (rs : List Rt) : List Int := rs.map Rt.peer
abbrev six (rs : List Rt) : List (List Int) := [rtIdx rs, rtLike rs, rtHops rs, rtOrig rs, rtIds rs, rtPeer rs]
theorem six_step {rs : List Rt} {k : Nat} {r : Rt} (h : rs[k]? = some r) : rtIdx (rs.take (k + 1)) = rtIdx (rs.take k) ++ [(k : Int)] ∧ rtLike (rs.take (k + 1)) = rtLike (rs.take k) ++ [4294967296 - r.loc] ∧ rtHops (rs.take (k + 1)) = rtHops (rs.take k) ++ [r.hops] ∧
    rtOrig (rs.take (k + 1)) = rtOrig (rs.take k) ++ [r.origin] ∧ rtIds (rs.take (k + 1)) = rtIds (rs.take k) ++ [(r.id : Int)] ∧ rtPeer (rs.take (k + 1)) = rtPeer (rs.take k) ++ [r.peer] := by
  obtain ⟨h1, h2⟩ := List.getElem?_eq_some_iff.1 h
  refine ⟨?_, map_step _ h, map_step _ h, map_step _ h, map_step _ h, map_step _ h⟩
  unfold rtIdx
  rw [List.length_take, List.length_take, Nat.min_eq_left (by omega), Nat.min_eq_left (by omega), List.range_succ]
  simp [castL]
theorem six_len {rs : List Rt} {k : Nat} (hk : k ≤ rs.length) : (rtIdx (rs.take k)).length = k ∧ (rtLike (rs.take k)).length = k ∧ (rtHops (rs.take k)).length = k ∧ (rtOrig (rs.take k)).length = k ∧ (rtIds (rs.take k)).length = k ∧ (rtPeer (rs.take k)).length = k := by
  refine ⟨?_, ?_, ?_, ?_, ?_, ?_⟩ <;> simp [rtIdx, castL, rtLike, rtHops, rtOrig, rtIds, rtPeer] <;> omega
theorem rt_cells {w : World} {b off i : Nat} {r : Rt} {cs : List Value} (hR : RtC r cs) (hc : ∀ (j : Nat) (c : Value), cs[j]? = some c → w.cell? ⟨b, off + i * 7 + j, none⟩ = some c) :
    w.cell? ⟨b, off + i * 7, none⟩ = some (.int .i64 r.loc) ∧ w.cell? ⟨b, off + i * 7 + 1, none⟩ = some (.int .i64 r.hops) ∧ w.cell? ⟨b, off + i * 7 + 2, none⟩ = some (.int .i64 r.origin) ∧ w.cell? ⟨b, off + i * 7 + 3, none⟩ = some (.int .i64 r.first) ∧
    w.cell? ⟨b, off + i * 7 + 4, none⟩ = some (.int .i64 r.med) ∧ w.cell? ⟨b, off + i * 7 + 5, none⟩ = some (.int .u32 r.id) ∧ w.cell? ⟨b, off + i * 7 + 6, none⟩ = some (.int .i64 r.peer) := by
  unfold RtC at hR
  subst hR
  exact ⟨hc 0 _ rfl, hc 1 _ rfl, hc 2 _ rfl, hc 3 _ rfl, hc 4 _ rfl, hc 5 _ rfl, hc 6 _ rfl⟩
theorem own_type {w : World} {B k n rb : Nat} {e T : TypeId} {v : Value} {xs : List Value} {C : Array Value} {fr : Nat × Nat} (h : w.ownsRow B e k v n xs) (q : w.heap[rb]? = some (.cells C T fr)) (hne : T ≠ e) : v.ownBlock ≠ some rb := by
  obtain ⟨_, ⟨rfl, _⟩ | ⟨g, cap, cur, rfl, _, hg, _⟩⟩ := h
  · intro h; cases h
  · intro h'
    cases h'
    rw [hg] at q
    injection q with q
    injection q with _ q _
    exact hne q.symm
/-- a route is taken into a variable. -/
theorem boxT (w : World) (a : Rt) : ∃ W0, W0 = w.alloc (.cells (rtA a) 48) ∧ W0.heap[w.heap.size]? = some (.cells (rtA a) 48 (0, 0)) ∧ Below w.heap.size w W0 ∧ W0.heap.size = w.heap.size + 1 :=
  ⟨_, rfl, heap_alloc_new w _, (Below.refl _ _).alloc (Nat.le_refl _) _, by simp⟩
/-- six empty rows. -/
theorem six_made (w : World) : ∃ W : World, W = (((((w.alloc (.cells #[] 3)).alloc (.cells #[] 3)).alloc (.cells #[] 3)).alloc (.cells #[] 3)).alloc (.cells #[] 3)).alloc (.cells #[] 3) ∧
    Rows6 W w.heap.size [.slice (some ⟨w.heap.size, 0, none⟩) 0 0, .slice (some ⟨w.heap.size + 1, 0, none⟩) 0 0, .slice (some ⟨w.heap.size + 2, 0, none⟩) 0 0, .slice (some ⟨w.heap.size + 3, 0, none⟩) 0 0, .slice (some ⟨w.heap.size + 4, 0, none⟩) 0 0, .slice (some ⟨w.heap.size + 5, 0, none⟩) 0 0] [[], [], [], [], [], []] ∧ Below w.heap.size w W := by
  refine ⟨_, rfl, ⟨fun i v xs hv hx => ?_, fun i j v u hv hu hij g hg => ?_, rfl⟩, ?_⟩
  · have key : ∀ q, q < 6 → ((((((w.alloc (.cells #[] 3)).alloc (.cells #[] 3)).alloc (.cells #[] 3)).alloc (.cells #[] 3)).alloc (.cells #[] 3)).alloc (.cells #[] 3)).heap[w.heap.size + q]? = some (.cells #[] 3 (0, 0)) := by
      intro q hq
      have : q = 0 ∨ q = 1 ∨ q = 2 ∨ q = 3 ∨ q = 4 ∨ q = 5 := by omega
      have st : ∀ (u : World) (o : Obj) (b : Nat), b < u.heap.size → (u.alloc o).heap[b]? = u.heap[b]? := fun u o b hb => ((Below.refl u.heap.size u).alloc (Nat.le_refl _) o).block b hb
      have e : ∀ u : World, (u.alloc (.cells #[] 3)).heap.size = u.heap.size + 1 := fun u => by simp
      have nw : ∀ (u : World) (b : Nat), b = u.heap.size → (u.alloc (.cells #[] 3)).heap[b]? = some (.cells #[] 3 (0, 0)) := fun u b hb => by subst hb; exact heap_alloc_new u _
      rcases this with rfl | rfl | rfl | rfl | rfl | rfl
      · rw [st _ _ _ (by simp only [e]; omega), st _ _ _ (by simp only [e]; omega), st _ _ _ (by simp only [e]; omega), st _ _ _ (by simp only [e]; omega), st _ _ _ (by simp only [e]; omega)]; exact nw _ _ rfl
      · rw [st _ _ _ (by simp only [e]; omega), st _ _ _ (by simp only [e]; omega), st _ _ _ (by simp only [e]; omega), st _ _ _ (by simp only [e]; omega)]; exact nw _ _ (by simp only [e])
      · rw [st _ _ _ (by simp only [e]; omega), st _ _ _ (by simp only [e]; omega), st _ _ _ (by simp only [e]; omega)]; exact nw _ _ (by simp only [e])
      · rw [st _ _ _ (by simp only [e]; omega), st _ _ _ (by simp only [e]; omega)]; exact nw _ _ (by simp only [e])
      · rw [st _ _ _ (by simp only [e]; omega)]; exact nw _ _ (by simp only [e])
      · exact nw _ _ (by simp only [e])
    have mk : ∀ q, q < 6 → ((((((w.alloc (.cells #[] 3)).alloc (.cells #[] 3)).alloc (.cells #[] 3)).alloc (.cells #[] 3)).alloc (.cells #[] 3)).alloc (.cells #[] 3)).ownsRow w.heap.size 3 1 (.slice (some ⟨w.heap.size + q, 0, none⟩) 0 0) 0 [] :=
      fun q hq => ⟨by simp, .inr ⟨_, 0, #[], rfl, by omega, key q hq, Nat.le_refl _, by simp [maxLen], by simp, by simp⟩⟩
    match i, hv, hx with
    | 0, hv, hx => cases hv; cases hx; exact mk 0 (by decide)
    | 1, hv, hx => cases hv; cases hx; exact mk 1 (by decide)
    | 2, hv, hx => cases hv; cases hx; exact mk 2 (by decide)
    | 3, hv, hx => cases hv; cases hx; exact mk 3 (by decide)
    | 4, hv, hx => cases hv; cases hx; exact mk 4 (by decide)
    | 5, hv, hx => cases hv; cases hx; exact mk 5 (by decide)
    | q + 6, hv, _ => simp at hv
  · have blk : ∀ (i : Nat) (v : Value), ([.slice (some ⟨w.heap.size, 0, none⟩) 0 0, .slice (some ⟨w.heap.size + 1, 0, none⟩) 0 0, .slice (some ⟨w.heap.size + 2, 0, none⟩) 0 0, .slice (some ⟨w.heap.size + 3, 0, none⟩) 0 0, .slice (some ⟨w.heap.size + 4, 0, none⟩) 0 0, .slice (some ⟨w.heap.size + 5, 0, none⟩) 0 0] : List Value)[i]? = some v → v.ownBlock = some (w.heap.size + i) := by
      intro i v hv
      match i, hv with
      | 0, hv => cases hv; rfl
      | 1, hv => cases hv; rfl
      | 2, hv => cases hv; rfl
      | 3, hv => cases hv; rfl
      | 4, hv => cases hv; rfl
      | 5, hv => cases hv; rfl
      | q + 6, hv => simp at hv
    rw [blk i v hv] at hg
    rw [blk j u hu]
    intro e
    cases hg
    have := Option.some.inj e
    omega
  · exact ((((((Below.refl _ _).alloc (Nat.le_refl _) _).alloc (by simp) _).alloc (by simp; omega) _).alloc (by simp; omega) _).alloc (by simp; omega) _).alloc (by simp; omega) _
def RtOk (r : Rt) : Prop := (0 ≤ r.loc ∧ r.loc ≤ 4294967295) ∧ I64r r.hops ∧ I64r r.origin ∧ r.id < 4294967296 ∧ I64r r.peer
abbrev rtZ : Rt := ⟨0, 0, 0, 0, 0, 0, 0⟩
/-- by whom one is beaten, of the same system. -/
def medC (rs : List Rt) (k i : Nat) : Bool := ((rs.getD k rtZ).first == (rs.getD i rtZ).first) && decide ((rs.getD k rtZ).med < (rs.getD i rtZ).med)
def medQ (rs : List Rt) (left : List Nat) (i : Nat) : Bool := left.all fun k => !medC rs k i
theorem medQ_step (rs : List Rt) (i : Nat) {l : List Nat} {k p : Nat} (h : l[k]? = some p) : medQ rs (l.take (k + 1)) i = (medQ rs (l.take k) i && !medC rs p i) := by unfold medQ; rw [all_step _ h]
theorem medQ_nil (rs : List Rt) (i : Nat) (l : List Nat) : medQ rs (l.take 0) i = true := by simp [medQ]
def rb1 (rs : List Rt) : List Nat := keepL (List.range rs.length) (rtLike rs)
def rb2 (rs : List Rt) : List Nat := keepL (rb1 rs) (rtHops rs)
def rb3 (rs : List Rt) : List Nat := keepL (rb2 rs) (rtOrig rs)
def rb4 (rs : List Rt) : List Nat := (rb3 rs).filter (medQ rs (rb3 rs))
def rb5 (rs : List Rt) : List Nat := keepL (rb4 rs) (rtIds rs)
def rb6 (rs : List Rt) : List Nat := keepL (rb5 rs) (rtPeer rs)
def rbestI (rs : List Rt) : Int := match rb6 rs with | [] => -1 | i :: _ => i
theorem rb_lt (rs : List Rt) : (∀ i ∈ rb1 rs, i < rs.length) ∧ (∀ i ∈ rb2 rs, i < rs.length) ∧ (∀ i ∈ rb3 rs, i < rs.length) ∧ (∀ i ∈ rb4 rs, i < rs.length) ∧ (∀ i ∈ rb5 rs, i < rs.length) ∧ (∀ i ∈ rb6 rs, i < rs.length) := by
  have h1 : ∀ i ∈ rb1 rs, i < rs.length := fun i hi => List.mem_range.1 (keepL_sub _ _ i hi)
  have h2 : ∀ i ∈ rb2 rs, i < rs.length := fun i hi => h1 i (keepL_sub _ _ i hi)
  have h3 : ∀ i ∈ rb3 rs, i < rs.length := fun i hi => h2 i (keepL_sub _ _ i hi)
  have h4 : ∀ i ∈ rb4 rs, i < rs.length := fun i hi => h3 i (List.mem_filter.1 hi).1
  have h5 : ∀ i ∈ rb5 rs, i < rs.length := fun i hi => h4 i (keepL_sub _ _ i hi)
  exact ⟨h1, h2, h3, h4, h5, fun i hi => h5 i (keepL_sub _ _ i hi)⟩
theorem rb_len (rs : List Rt) : (rb1 rs).length ≤ rs.length ∧ (rb2 rs).length ≤ rs.length ∧ (rb3 rs).length ≤ rs.length ∧ (rb4 rs).length ≤ rs.length ∧ (rb5 rs).length ≤ rs.length := by
  have k : ∀ l n, (keepL l n).length ≤ l.length := fun l n => List.length_filter_le ..
  have h1 : (rb1 rs).length ≤ rs.length := by have := k (List.range rs.length) (rtLike rs); unfold rb1; simpa using this
  have h2 := Nat.le_trans (k (rb1 rs) (rtHops rs)) h1
  have h3 := Nat.le_trans (k (rb2 rs) (rtOrig rs)) h2
  have h4 : (rb4 rs).length ≤ rs.length := Nat.le_trans (List.length_filter_le ..) h3
  exact ⟨h1, h2, h3, h4, Nat.le_trans (k (rb4 rs) (rtIds rs)) h4⟩
def SixPost (w : World) (rs : List Rt) (vs : List Value) (w' : World) : Prop := Rows6 w' w.heap.size vs (six rs) ∧ Below w.heap.size w w'
set_option maxHeartbeats 12800000 in
set_option maxRecDepth 100000 in
theorem ref_Best (v : Value) (rs : List Rt) (w : World) (h : RtsAt w v rs) (hn : rs.length ≤ 100000) (hl : ∀ r ∈ rs, RtOk r) (hne : rs ≠ [] → rb6 rs ≠ []) :
    Calls Try.prog 13 #[v] w fun e w' => e = .returned (.int .i64 (rbestI rs)) ∧ Below w.heap.size w w' := by
  obtain ⟨i0, hii, hz0, hz1, hz2⟩ := info_parts info_int
  obtain ⟨sa, cap, rfl, hlc, hcm, hV⟩ := h
  have HV := Lib.hid hV
  have HL := Lib.hid hl
  have HNE := Lib.hid hne
  unfold maxLen at hcm
  clear hV hl hne
  go_enter Try.func13, Try.ntmps13
  go_upto_region 7 with (fail)
  obtain ⟨W0, hW0, R0, hb0⟩ := six_made w
  rw [← hW0]
  clear hW0
  have R := Lib.hid R0
  have B := Lib.hid hb0
  clear R0 hb0
  go_wp2_with fail
  go_loopw [3, 4, 5, 6, 7, 8, 25] (fun v3 v4 v5 v6 v7 v8 i wr => ∃ k : Nat, k ≤ rs.length ∧ i = .int .i64 k ∧ Hid (Rows6 wr w.heap.size [v3, v4, v5, v6, v7, v8] (six (rs.take k))) ∧ Hid (Below w.heap.size w wr)) (fun _ _ _ _ _ _ i _ => rs.length - (intOf i).toNat)
  case atStart => exact ⟨0, by omega, rfl, R, B⟩
  case round =>
    clear R B
    obtain ⟨k, hk, rfl, R, B⟩ := hrel
    by_cases hlt : k < rs.length
    · obtain ⟨r, hr⟩ : ∃ r, rs[k]? = some r := ⟨_, List.getElem?_eq_getElem hlt⟩
      obtain ⟨b, off, hsa, hP⟩ := HV.out (by omega)
      subst hsa
      obtain ⟨cs, _, hR, hc⟩ := hP k r hr
      obtain ⟨x0, x1, x2, x3, x4, x5, x6⟩ := rt_cells hR hc
      have x0 := (B.out.cell (size_lt x0)).trans x0
      have x1 := (B.out.cell (size_lt x1)).trans x1
      have x2 := (B.out.cell (size_lt x2)).trans x2
      have x3 := (B.out.cell (size_lt x3)).trans x3
      have x4 := (B.out.cell (size_lt x4)).trans x4
      have x5 := (B.out.cell (size_lt x5)).trans x5
      have x6 := (B.out.cell (size_lt x6)).trans x6
      have LO := HL.out r (List.mem_of_getElem? hr)
      have lo0 := LO.1.1
      have lo1 := LO.1.2
      have lo2 : (r.id : Int) ≤ 4294967295 := by have := LO.2.2.2.1; omega
      have ST := Lib.hid (six_step hr)
      have LN := Lib.hid (six_len hk)
      have j0 : (0 : Int) ≤ (k : Int) := by omega
      have j1 : (k : Int) < (rs.length : Int) := by omega
      clear hP hR hc hr LO
      go_upto_region 10 with (fail)
      obtain ⟨W1, hW1, q, hb1, -⟩ := boxT wr r
      rw [← hW1]
      clear hW1 x0 x1 x2 x3 x4 x5 x6
      have R1 : Hid (Rows6 W1 w.heap.size [u3, u4, u5, u6, u7, u8] [rtIdx (rs.take k), rtLike (rs.take k), rtHops (rs.take k), rtOrig (rs.take k), rtIds (rs.take k), rtPeer (rs.take k)]) := Lib.hid (R.out.below hb1)
      have B1 := Lib.hid (below_on B.out hb1)
      have Q := Lib.hid q
      have GB : Hid (w.heap.size ≤ wr.heap.size) := Lib.hid B.out.size
      clear q hb1 R B
      generalize wr.heap.size = rb at Q GB ⊢
      generalize rtIdx (rs.take k) = y0 at R1 ST LN
      generalize rtLike (rs.take k) = y1 at R1 ST LN
      generalize rtHops (rs.take k) = y2 at R1 ST LN
      generalize rtOrig (rs.take k) = y3 at R1 ST LN
      generalize rtIds (rs.take k) = y4 at R1 ST LN
      generalize rtPeer (rs.take k) = y5 at R1 ST LN
      obtain ⟨q0, q1, q2, q3, q4, q5⟩ := LN.out
      have l0 := Nat.le_of_eq q0
      have l1 := Nat.le_of_eq q1
      have l2 := Nat.le_of_eq q2
      have l3 := Nat.le_of_eq q3
      have l4 := Nat.le_of_eq q4
      have l5 := Nat.le_of_eq q5
      clear q0 q1 q2 q3 q4 q5
      have p0 := Lib.hid (R1.out.own 0 _ _ rfl rfl)
      go_wp2_with (at_builtin; refine wpList_append_own_at _ rfl _ _ 28 rfl w.heap.size 3 i0 _ 1 8 Try.underlying28 hii hz0 hz1 hz2 rfl (by decide) _ y0.length (y0.flatMap intL) rfl (p0.out.alloc _) ⟨W1.heap.size, 0, none⟩ 1 1 (intL (k : Int)) rfl ?a0 ?b0 ?c0 ?d0 ?e0 ?f0 ?_)
      case a0 => rfl
      case b0 => exact new_cells _ _ _
      case c0 => intro u hu; simp at hu; subst hu; rfl
      case d0 => unfold maxLen; omega
      case e0 => omega
      case f0 => have := B1.out.size; simp; omega
      intro n0 W2 hown hgrow _ hat
      have hba : Below W1.heap.size W1 (W1.alloc (.cells #[.int .i64 (k : Int)] 3)) := (Below.refl _ _).alloc (Nat.le_refl _) _
      have R2 : Hid (Rows6 W2 w.heap.size [n0, u4, u5, u6, u7, u8] [y0 ++ [(k : Int)], y1, y2, y3, y4, y5]) := Lib.hid ((R1.out.below hba).step 0 rfl rfl hown hgrow (by first | exact hat | simpa using hat))
      have Q1 := Lib.hid ((hgrow.block rb (Nat.lt_of_lt_of_le (row_lt Q.out) hba.size) (fun e => own_type p0.out Q.out (by decide) e.symm)).trans ((hba.block _ (row_lt Q.out)).trans Q.out))
      have B2 := Lib.hid ((below_on B1.out hba).grown hgrow (by have := B1.out.size; have := hba.size; omega) (own_form_le p0.out))
      clear hown hgrow hat hba
      have p1 := Lib.hid (R2.out.own 1 _ _ rfl rfl)
      have c1 : W2.cell? ⟨rb, 0, none⟩ = some (.int .i64 r.loc) := row_cell Q1.out 0
      go_wp2_with (at_builtin; refine wpList_append_own_at _ rfl _ _ 28 rfl w.heap.size 3 i0 _ 1 8 Try.underlying28 hii hz0 hz1 hz2 rfl (by decide) _ y1.length (y1.flatMap intL) rfl (p1.out.alloc _) ⟨W2.heap.size, 0, none⟩ 1 1 (intL (4294967296 - r.loc)) rfl ?a1 ?b1 ?c1 ?d1 ?e1 ?f1 ?_)
      case a1 => rfl
      case b1 => exact new_cells _ _ _
      case c1 => intro u hu; simp at hu; subst hu; rfl
      case d1 => unfold maxLen; omega
      case e1 => omega
      case f1 => have := B2.out.size; simp; omega
      intro n1 W3 hown hgrow _ hat
      have hba : Below W2.heap.size W2 (W2.alloc (.cells #[.int .i64 (4294967296 - r.loc)] 3)) := (Below.refl _ _).alloc (Nat.le_refl _) _
      have R3 : Hid (Rows6 W3 w.heap.size [n0, n1, u5, u6, u7, u8] [y0 ++ [(k : Int)], y1 ++ [(4294967296 - r.loc)], y2, y3, y4, y5]) := Lib.hid ((R2.out.below hba).step 1 rfl rfl hown hgrow (by first | exact hat | simpa using hat))
      have Q2 := Lib.hid ((hgrow.block rb (Nat.lt_of_lt_of_le (row_lt Q1.out) hba.size) (fun e => own_type p1.out Q1.out (by decide) e.symm)).trans ((hba.block _ (row_lt Q1.out)).trans Q1.out))
      have B3 := Lib.hid ((below_on B2.out hba).grown hgrow (by have := B2.out.size; have := hba.size; omega) (own_form_le p1.out))
      clear hown hgrow hat hba c1
      have p2 := Lib.hid (R3.out.own 2 _ _ rfl rfl)
      have c2 : W3.cell? ⟨rb, 1, none⟩ = some (.int .i64 r.hops) := row_cell Q2.out 1
      go_wp2_with (at_builtin; refine wpList_append_own_at _ rfl _ _ 28 rfl w.heap.size 3 i0 _ 1 8 Try.underlying28 hii hz0 hz1 hz2 rfl (by decide) _ y2.length (y2.flatMap intL) rfl (p2.out.alloc _) ⟨W3.heap.size, 0, none⟩ 1 1 (intL r.hops) rfl ?a2 ?b2 ?c2 ?d2 ?e2 ?f2 ?_)
      case a2 => rfl
      case b2 => exact new_cells _ _ _
      case c2 => intro u hu; simp at hu; subst hu; rfl
      case d2 => unfold maxLen; omega
      case e2 => omega
      case f2 => have := B3.out.size; simp; omega
      intro n2 W4 hown hgrow _ hat
      have hba : Below W3.heap.size W3 (W3.alloc (.cells #[.int .i64 r.hops] 3)) := (Below.refl _ _).alloc (Nat.le_refl _) _
      have R4 : Hid (Rows6 W4 w.heap.size [n0, n1, n2, u6, u7, u8] [y0 ++ [(k : Int)], y1 ++ [(4294967296 - r.loc)], y2 ++ [r.hops], y3, y4, y5]) := Lib.hid ((R3.out.below hba).step 2 rfl rfl hown hgrow (by first | exact hat | simpa using hat))
      have Q3 := Lib.hid ((hgrow.block rb (Nat.lt_of_lt_of_le (row_lt Q2.out) hba.size) (fun e => own_type p2.out Q2.out (by decide) e.symm)).trans ((hba.block _ (row_lt Q2.out)).trans Q2.out))
      have B4 := Lib.hid ((below_on B3.out hba).grown hgrow (by have := B3.out.size; have := hba.size; omega) (own_form_le p2.out))
      clear hown hgrow hat hba c2
      have p3 := Lib.hid (R4.out.own 3 _ _ rfl rfl)
      have c3 : W4.cell? ⟨rb, 2, none⟩ = some (.int .i64 r.origin) := row_cell Q3.out 2
      go_wp2_with (at_builtin; refine wpList_append_own_at _ rfl _ _ 28 rfl w.heap.size 3 i0 _ 1 8 Try.underlying28 hii hz0 hz1 hz2 rfl (by decide) _ y3.length (y3.flatMap intL) rfl (p3.out.alloc _) ⟨W4.heap.size, 0, none⟩ 1 1 (intL r.origin) rfl ?a3 ?b3 ?c3 ?d3 ?e3 ?f3 ?_)
      case a3 => rfl
      case b3 => exact new_cells _ _ _
      case c3 => intro u hu; simp at hu; subst hu; rfl
      case d3 => unfold maxLen; omega
      case e3 => omega
      case f3 => have := B4.out.size; simp; omega
      intro n3 W5 hown hgrow _ hat
      have hba : Below W4.heap.size W4 (W4.alloc (.cells #[.int .i64 r.origin] 3)) := (Below.refl _ _).alloc (Nat.le_refl _) _
      have R5 : Hid (Rows6 W5 w.heap.size [n0, n1, n2, n3, u7, u8] [y0 ++ [(k : Int)], y1 ++ [(4294967296 - r.loc)], y2 ++ [r.hops], y3 ++ [r.origin], y4, y5]) := Lib.hid ((R4.out.below hba).step 3 rfl rfl hown hgrow (by first | exact hat | simpa using hat))
      have Q4 := Lib.hid ((hgrow.block rb (Nat.lt_of_lt_of_le (row_lt Q3.out) hba.size) (fun e => own_type p3.out Q3.out (by decide) e.symm)).trans ((hba.block _ (row_lt Q3.out)).trans Q3.out))
      have B5 := Lib.hid ((below_on B4.out hba).grown hgrow (by have := B4.out.size; have := hba.size; omega) (own_form_le p3.out))
      clear hown hgrow hat hba c3
      have p4 := Lib.hid (R5.out.own 4 _ _ rfl rfl)
      have c4 : W5.cell? ⟨rb, 5, none⟩ = some (.int .u32 r.id) := row_cell Q4.out 5
      go_wp2_with (at_builtin; refine wpList_append_own_at _ rfl _ _ 28 rfl w.heap.size 3 i0 _ 1 8 Try.underlying28 hii hz0 hz1 hz2 rfl (by decide) _ y4.length (y4.flatMap intL) rfl (p4.out.alloc _) ⟨W5.heap.size, 0, none⟩ 1 1 (intL (r.id : Int)) rfl ?a4 ?b4 ?c4 ?d4 ?e4 ?f4 ?_)
      case a4 => rfl
      case b4 => exact new_cells _ _ _
      case c4 => intro u hu; simp at hu; subst hu; rfl
      case d4 => unfold maxLen; omega
      case e4 => omega
      case f4 => have := B5.out.size; simp; omega
      intro n4 W6 hown hgrow _ hat
      have hba : Below W5.heap.size W5 (W5.alloc (.cells #[.int .i64 (r.id : Int)] 3)) := (Below.refl _ _).alloc (Nat.le_refl _) _
      have R6 : Hid (Rows6 W6 w.heap.size [n0, n1, n2, n3, n4, u8] [y0 ++ [(k : Int)], y1 ++ [(4294967296 - r.loc)], y2 ++ [r.hops], y3 ++ [r.origin], y4 ++ [(r.id : Int)], y5]) := Lib.hid ((R5.out.below hba).step 4 rfl rfl hown hgrow (by first | exact hat | simpa using hat))
      have Q5 := Lib.hid ((hgrow.block rb (Nat.lt_of_lt_of_le (row_lt Q4.out) hba.size) (fun e => own_type p4.out Q4.out (by decide) e.symm)).trans ((hba.block _ (row_lt Q4.out)).trans Q4.out))
      have B6 := Lib.hid ((below_on B5.out hba).grown hgrow (by have := B5.out.size; have := hba.size; omega) (own_form_le p4.out))
      clear hown hgrow hat hba c4
      have p5 := Lib.hid (R6.out.own 5 _ _ rfl rfl)
      have c5 : W6.cell? ⟨rb, 6, none⟩ = some (.int .i64 r.peer) := row_cell Q5.out 6
      go_wp2_with (at_builtin; refine wpList_append_own_at _ rfl _ _ 28 rfl w.heap.size 3 i0 _ 1 8 Try.underlying28 hii hz0 hz1 hz2 rfl (by decide) _ y5.length (y5.flatMap intL) rfl (p5.out.alloc _) ⟨W6.heap.size, 0, none⟩ 1 1 (intL r.peer) rfl ?a5 ?b5 ?c5 ?d5 ?e5 ?f5 ?_)
      case a5 => rfl
      case b5 => exact new_cells _ _ _
      case c5 => intro u hu; simp at hu; subst hu; rfl
      case d5 => unfold maxLen; omega
      case e5 => omega
      case f5 => have := B6.out.size; simp; omega
      intro n5 W7 hown hgrow _ hat
      have hba : Below W6.heap.size W6 (W6.alloc (.cells #[.int .i64 r.peer] 3)) := (Below.refl _ _).alloc (Nat.le_refl _) _
      have R7 : Hid (Rows6 W7 w.heap.size [n0, n1, n2, n3, n4, n5] [y0 ++ [(k : Int)], y1 ++ [(4294967296 - r.loc)], y2 ++ [r.hops], y3 ++ [r.origin], y4 ++ [(r.id : Int)], y5 ++ [r.peer]]) := Lib.hid ((R6.out.below hba).step 5 rfl rfl hown hgrow (by first | exact hat | simpa using hat))
      have Q6 := Lib.hid ((hgrow.block rb (Nat.lt_of_lt_of_le (row_lt Q5.out) hba.size) (fun e => own_type p5.out Q5.out (by decide) e.symm)).trans ((hba.block _ (row_lt Q5.out)).trans Q5.out))
      have B7 := Lib.hid ((below_on B6.out hba).grown hgrow (by have := B6.out.size; have := hba.size; omega) (own_form_le p5.out))
      clear hown hgrow hat hba c5
      have E6 : Hid (six (rs.take (k + 1)) = [y0 ++ [(k : Int)], y1 ++ [(4294967296 - r.loc)], y2 ++ [r.hops], y3 ++ [r.origin], y4 ++ [(r.id : Int)], y5 ++ [r.peer]]) := Lib.hid (by
        obtain ⟨e0, e1, e2, e3, e4, e5⟩ := ST.out
        unfold six
        rw [e0, e1, e2, e3, e4, e5])
      rw [← E6.out] at R7
      clear E6 ST
      go_wp2_with fail
      exact ⟨⟨k + 1, by omega, by go_num, R7, B7⟩, by simp [intOf]; omega⟩
    · obtain rfl : k = rs.length := by omega
      rw [List.take_length] at R
      have I0 := R.out.ints 0 (v := u3) (xs := rtIdx rs) rfl rfl (cast_ok (n := rs.length) (fun i hi => List.mem_range.1 hi) hn)
      have I1 := Lib.hid (R.out.ints 1 (v := u4) (xs := rtLike rs) rfl rfl (fun x hx => by
        obtain ⟨r, hr, rfl⟩ := List.mem_map.1 hx
        have := (HL.out r hr).1; unfold I64r; omega))
      have I2 := Lib.hid (R.out.ints 2 (v := u5) (xs := rtHops rs) rfl rfl (fun x hx => by
        obtain ⟨r, hr, rfl⟩ := List.mem_map.1 hx
        exact (HL.out r hr).2.1))
      have I3 := Lib.hid (R.out.ints 3 (v := u6) (xs := rtOrig rs) rfl rfl (fun x hx => by
        obtain ⟨r, hr, rfl⟩ := List.mem_map.1 hx
        exact (HL.out r hr).2.2.1))
      have I4 := Lib.hid (R.out.ints 4 (v := u7) (xs := rtIds rs) rfl rfl (fun x hx => by
        obtain ⟨r, hr, rfl⟩ := List.mem_map.1 hx
        have := (HL.out r hr).2.2.2.1; unfold I64r; omega))
      have I5 := Lib.hid (R.out.ints 5 (v := u8) (xs := rtPeer rs) rfl rfl (fun x hx => by
        obtain ⟨r, hr, rfl⟩ := List.mem_map.1 hx
        exact (HL.out r hr).2.2.2.2))
      have J0 := Lib.hid I0
      obtain ⟨s3, c3, hv3, _⟩ := I0
      rw [show (rtIdx rs).length = rs.length by simp [rtIdx, castL]] at hv3
      subst hv3
      obtain ⟨L1, L2, L3, L4, L5, L6⟩ := rb_lt rs
      obtain ⟨N1, N2, N3, N4, N5⟩ := rb_len rs
      have n1 : (rtLike rs).length = rs.length := by simp [rtLike]
      have n2 : (rtHops rs).length = rs.length := by simp [rtHops]
      have n3 : (rtOrig rs).length = rs.length := by simp [rtOrig]
      have n4 : (rtIds rs).length = rs.length := by simp [rtIds]
      have n5 : (rtPeer rs).length = rs.length := by simp [rtPeer]
      have K1 := Lib.hid (fun W h g => ref_keep (.slice s3 rs.length c3) u4 (List.range rs.length) (rtLike rs) W h g (fun i hi => by rw [n1]; exact List.mem_range.1 hi) (by simpa using hn) (by rw [n1]; exact hn))
      have K2 := Lib.hid (fun v W h g => ref_keep v u5 (rb1 rs) (rtHops rs) W h g (fun i hi => by rw [n2]; exact L1 i hi) (Nat.le_trans N1 hn) (by rw [n2]; exact hn))
      have K3 := Lib.hid (fun v W h g => ref_keep v u6 (rb2 rs) (rtOrig rs) W h g (fun i hi => by rw [n3]; exact L2 i hi) (Nat.le_trans N2 hn) (by rw [n3]; exact hn))
      have K5 := Lib.hid (fun v W h g => ref_keep v u7 (rb4 rs) (rtIds rs) W h g (fun i hi => by rw [n4]; exact L4 i hi) (Nat.le_trans N4 hn) (by rw [n4]; exact hn))
      have K6 := Lib.hid (fun v W h g => ref_keep v u8 (rb5 rs) (rtPeer rs) W h g (fun i hi => by rw [n5]; exact L5 i hi) (Nat.le_trans N5 hn) (by rw [n5]; exact hn))
      have LL := Lib.hid L3
      have L4H := Lib.hid L4
      have N3H := Lib.hid (Nat.le_trans N3 hn)
      clear L1 L2 L3 L4 L5 L6 N1 N2 N3 N4 N5 n1 n2 n3 n4 n5 R
      by_cases h0 : rs.length = 0
      · obtain rfl : rs = [] := List.length_eq_zero_iff.1 h0
        have E0 : Hid (rbestI [] = -1) := Lib.hid rfl
        clear h0
        go_wp2_with fail
        go_ret
        exact ⟨ret_int E0.out.symm, B.out⟩
      · have n0 : ((rs.length : Int) == 0) = false := by rw [beq_eq_false_iff_ne]; omega
        have hne : rs ≠ [] := by rintro rfl; exact h0 rfl
        have NE := Lib.hid (HNE.out hne)
        clear h0 hne
        go_wp2_with fail
        refine (K1.out _ J0.out I1.out).mono ?_
        rintro e w2 ⟨a1, rfl, A1, hb⟩
        have A1 := Lib.hid A1
        have I2 := Lib.hid (I2.out.below hb)
        have I3 := Lib.hid (I3.out.below hb)
        have I4 := Lib.hid (I4.out.below hb)
        have I5 := Lib.hid (I5.out.below hb)
        have B2 := Lib.hid (below_on B.out hb)
        clear hb B J0 I1 K1
        go_wp2_with fail
        refine (K2.out _ _ A1.out I2.out).mono ?_
        rintro e w3 ⟨a2, rfl, A2, hb⟩
        have A2 := Lib.hid A2
        have I3 := Lib.hid (I3.out.below hb)
        have I4 := Lib.hid (I4.out.below hb)
        have I5 := Lib.hid (I5.out.below hb)
        have B3 := Lib.hid (below_on B2.out hb)
        clear hb B2 A1 I2 K2
        go_wp2_with fail
        refine (K3.out _ _ A2.out I3.out).mono ?_
        rintro e w4 ⟨a3, rfl, A3, hb⟩
        have A3' : IntsAt w4 a3 (castL (rb3 rs)) := A3
        clear A3
        obtain ⟨s4, c4, hv4, hle4, hm4, HA3⟩ := A3'
        rw [castL_len] at hv4 hle4 HA3
        subst hv4
        have HA := Lib.hid HA3
        have I4 := Lib.hid (I4.out.below hb)
        have I5 := Lib.hid (I5.out.below hb)
        have B4 := Lib.hid (below_on B3.out hb)
        clear hb B3 A2 I3 K3 HA3
        unfold maxLen at hm4
        go_upto_region 23 with (fail)
        have O0 : Hid ((w4.alloc (.cells #[] 3)).ownsRow w4.heap.size 3 1 (.slice (some ⟨w4.heap.size, 0, none⟩) 0 0) 0 []) := Lib.hid (own_empty (Nat.le_refl _))
        have B0 : Hid (Below w4.heap.size w4 (w4.alloc (.cells #[] 3))) := Lib.hid ((Below.refl _ _).alloc (Nat.le_refl _) _)
        generalize w4.alloc (.cells #[] 3) = W5 at O0 B0 ⊢
        have E4 : Hid (rb4 rs = (rb3 rs).filter (medQ rs (rb3 rs))) := Lib.hid rfl
        generalize rb3 rs = left at *
        go_wp2_with fail
        go_loopw [11, 77] (fun o i wr => ∃ k : Nat, k ≤ left.length ∧ i = .int .i64 k ∧ Hid (wr.ownsRow w4.heap.size 3 1 o ((left.take k).filter (medQ rs left)).length ((castL ((left.take k).filter (medQ rs left))).flatMap intL)) ∧ Hid (Below w4.heap.size w4 wr)) (fun _ i _ => left.length - (intOf i).toNat)
        case atStart => exact ⟨0, by omega, rfl, O0, B0⟩
        case round =>
          clear O0 B0
          obtain ⟨k, hk, rfl, O, B5⟩ := hrel
          by_cases hlt : k < left.length
          · obtain ⟨i, hik⟩ : ∃ i, left[k]? = some i := ⟨_, List.getElem?_eq_getElem hlt⟩
            obtain ⟨b, off, hsa, hP⟩ := HA.out (by omega)
            subst hsa
            have HP := Lib.hid hP
            have hin := LL.out i (List.mem_of_getElem? hik)
            obtain ⟨bn, on, hsn, hQ⟩ := HV.out (by omega)
            subst hsn
            have HQ := Lib.hid hQ
            obtain ⟨cs, _, ⟨rfl, _⟩, hc⟩ := hP k i (castL_get hik)
            have D0 := Lib.hid (hc 0 _ rfl)
            obtain ⟨y, hy⟩ : ∃ y, rs[i]? = some y := ⟨_, List.getElem?_eq_getElem hin⟩
            have EY : Hid (rs.getD i rtZ = y) := Lib.hid (by rw [List.getD_eq_getElem?_getD, hy]; rfl)
            obtain ⟨cs, _, hR, hc⟩ := hQ i y hy
            have DY := Lib.hid (rt_cells hR hc)
            have ST := Lib.hid (filter_step (medQ rs left) hik)
            clear hP hQ hR hc hy hik
            have d0 := (B5.out.cell (size_lt D0.out)).trans D0.out
            simp only [Nat.add_zero, Nat.mul_one] at d0
            have j0 : (0 : Int) ≤ (k : Int) := by omega
            have j1 : (k : Int) < (left.length : Int) := by omega
            have j2 : (0 : Int) ≤ (i : Int) := by omega
            have j3 : (i : Int) < (rs.length : Int) := by omega
            obtain ⟨wo, hwo⟩ : ∃ wo : World, wo = wr := ⟨_, rfl⟩
            rw [← hwo] at O B5 d0 ⊢
            clear hwo
            go_wp2_with fail
            go_loopw [14, 83] (fun l q wr => ∃ j : Nat, j ≤ left.length ∧ q = .int .i64 j ∧ l = .bool (medQ rs (left.take j) i) ∧ Hid (Below wo.heap.size wo wr)) (fun _ q _ => left.length - (intOf q).toNat)
            case atStart => exact ⟨0, by omega, rfl, by rw [medQ_nil], Lib.hid (Below.refl _ _)⟩
            case round =>
              obtain ⟨j, hj, rfl, rfl, BI⟩ := hrel
              by_cases hjl : j < left.length
              · obtain ⟨p, hpj⟩ : ∃ i, left[j]? = some i := ⟨_, List.getElem?_eq_getElem hjl⟩
                have hpn := LL.out p (List.mem_of_getElem? hpj)
                obtain ⟨cs, _, ⟨rfl, _⟩, hc⟩ := HP.out j p (castL_get hpj)
                have B6 := below_on B5.out BI.out
                have BB := below_on B4.out B6
                have d2 := (B6.cell (size_lt (hc 0 _ rfl))).trans (hc 0 _ rfl)
                obtain ⟨x, hx⟩ : ∃ x, rs[p]? = some x := ⟨_, List.getElem?_eq_getElem hpn⟩
                have EX : Hid (rs.getD p rtZ = x) := Lib.hid (by rw [List.getD_eq_getElem?_getD, hx]; rfl)
                obtain ⟨cs, _, hR, hc⟩ := HQ.out p x hx
                obtain ⟨_, _, _, x3, x4, _, _⟩ := rt_cells hR hc
                obtain ⟨_, _, _, y3, y4, _, _⟩ := DY.out
                have x3 := (BB.cell (size_lt x3)).trans x3
                have x4 := (BB.cell (size_lt x4)).trans x4
                have y3 := (BB.cell (size_lt y3)).trans y3
                have y4 := (BB.cell (size_lt y4)).trans y4
                have SA := Lib.hid (medQ_step rs i hpj)
                have MC : Hid (medC rs p i = ((x.first == y.first) && decide (x.med < y.med))) := Lib.hid (by unfold medC; rw [EX.out, EY.out])
                simp only [Nat.add_zero, Nat.mul_one] at d2
                have q2 : (0 : Int) ≤ (p : Int) := by omega
                have q3 : (p : Int) < (rs.length : Int) := by omega
                have q0 : (0 : Int) ≤ (j : Int) := by omega
                have q1 : (j : Int) < (left.length : Int) := by omega
                clear hc hx hpj BB B6 hR
                cases hf : (x.first == y.first)
                · have SA2 : Hid (medQ rs (left.take (j + 1)) i = medQ rs (left.take j) i) := Lib.hid (by rw [SA.out, MC.out, hf]; simp)
                  clear SA MC
                  go_wp2_with fail
                  go_quiet (fail)
                  have B2 := Lib.hid (BI.out.trans (show Below wo.heap.size wr (wr.drewN nq) from ⟨rfl, rfl, rfl, Nat.le_refl _, fun _ _ => rfl⟩))
                  go_wp2_with fail
                  exact ⟨⟨j + 1, by omega, by go_num, by rw [SA2.out], B2⟩, by simp [intOf]; omega⟩
                · cases hm : decide (x.med < y.med)
                  · have SA2 : Hid (medQ rs (left.take (j + 1)) i = medQ rs (left.take j) i) := Lib.hid (by rw [SA.out, MC.out, hf, hm]; simp)
                    clear SA MC
                    go_wp2_with fail
                    go_quiet (fail)
                    have B2 := Lib.hid (BI.out.trans (show Below wo.heap.size wr (wr.drewN nq) from ⟨rfl, rfl, rfl, Nat.le_refl _, fun _ _ => rfl⟩))
                    go_wp2_with fail
                    exact ⟨⟨j + 1, by omega, by go_num, by rw [SA2.out], B2⟩, by simp [intOf]; omega⟩
                  · have SA2 : Hid (medQ rs (left.take (j + 1)) i = false) := Lib.hid (by rw [SA.out, MC.out, hf, hm]; simp)
                    clear SA MC
                    go_wp2_with fail
                    go_quiet (fail)
                    have B2 := Lib.hid (BI.out.trans (show Below wo.heap.size wr (wr.drewN nq) from ⟨rfl, rfl, rfl, Nat.le_refl _, fun _ _ => rfl⟩))
                    go_wp2_with fail
                    exact ⟨⟨j + 1, by omega, by go_num, by rw [SA2.out], B2⟩, by simp [intOf]; omega⟩
              · obtain rfl : left.length = j := by omega
                rw [List.take_length]
                have O1 := Lib.hid (own_below O.out BI.out)
                have B1 := Lib.hid (below_on B5.out BI.out)
                clear BI O B5 d0
                cases hkb : medQ rs left i
                · have ST2 : Hid ((left.take (k + 1)).filter (medQ rs left) = (left.take k).filter (medQ rs left)) := Lib.hid (by rw [ST.out, hkb]; simp)
                  rw [← ST2.out] at O1
                  clear ST ST2 hkb
                  go_wp2_with fail
                  exact ⟨⟨k + 1, by omega, by go_num, O1, B1⟩, by simp [intOf]; omega⟩
                · have ST2 : Hid ((left.take (k + 1)).filter (medQ rs left) = (left.take k).filter (medQ rs left) ++ [i]) := Lib.hid (by rw [ST.out, hkb]; rfl)
                  have LN : ((left.take k).filter (medQ rs left)).length ≤ k := Nat.le_trans (List.length_filter_le ..) (List.length_take_le _ _)
                  have LN2 := Lib.hid LN
                  clear ST hkb LN
                  go_wp2_with (at_builtin; refine wpList_append_own_at _ rfl _ _ 28 rfl w4.heap.size 3 i0 _ 1 8 Try.underlying28 hii hz0 hz1 hz2 rfl (by decide) _ ((left.take k).filter (medQ rs left)).length ((castL ((left.take k).filter (medQ rs left))).flatMap intL) rfl (O1.out.alloc _) ⟨wr.heap.size, 0, none⟩ 1 1 (intL (i : Int)) rfl ?ar1 ?br1 ?cr1 ?dr1 ?er1 ?fr1 ?_)
                  case ar1 => rfl
                  case br1 => exact new_cells _ _ _
                  case cr1 => intro u hu; simp at hu; subst hu; rfl
                  case dr1 => have := LN2.out; have := N3H.out; unfold maxLen; omega
                  case er1 => have := LN2.out; have := N3H.out; omega
                  case fr1 => have := B1.out.size; simp; omega
                  intro v' w5 hown hgrow _ _
                  have O5 : Hid (w5.ownsRow w4.heap.size 3 1 v' ((left.take (k + 1)).filter (medQ rs left)).length ((castL ((left.take (k + 1)).filter (medQ rs left))).flatMap intL)) := Lib.hid (by
                    rw [ST2.out, List.length_append, show castL ((left.take k).filter (medQ rs left) ++ [i]) = castL ((left.take k).filter (medQ rs left)) ++ [(i : Int)] by simp [castL], flat_snoc]
                    exact hown)
                  have B7 := Lib.hid ((B1.out.alloc B1.out.size _).grown hgrow (by have := B1.out.size; simp; omega) (own_form_le O1.out))
                  clear hown hgrow O1 B1 ST2
                  go_wp2_with fail
                  exact ⟨⟨k + 1, by omega, by go_num, O5, B7⟩, by simp [intOf]; omega⟩
          · obtain rfl : left.length = k := by omega
            rw [List.take_length, ← E4.out] at O
            have A4 := Lib.hid (own_ints O.out (fun i hi => L4H.out i hi) hn)
            have I4 := Lib.hid (I4.out.below B5.out)
            have I5 := Lib.hid (I5.out.below B5.out)
            have B6 := Lib.hid (below_on B4.out B5.out)
            clear O B5 B4 E4
            go_wp2_with fail
            refine (K5.out _ _ A4.out I4.out).mono ?_
            rintro e w6 ⟨a5, rfl, A5, hb⟩
            have A5 := Lib.hid A5
            have I5 := Lib.hid (I5.out.below hb)
            have B7 := Lib.hid (below_on B6.out hb)
            clear hb B6 A4 I4 K5
            go_wp2_with fail
            refine (K6.out _ _ A5.out I5.out).mono ?_
            rintro e w7 ⟨a6, rfl, A6, hb⟩
            have B8 := Lib.hid (below_on B7.out hb)
            clear hb B7 A5 I5 K6
            have A6' : IntsAt w7 a6 (castL (rb6 rs)) := A6
            clear A6
            obtain ⟨x, xs, hx⟩ : ∃ x xs, rb6 rs = x :: xs := by
              cases hq : rb6 rs with
              | nil => exact absurd hq NE.out
              | cons x xs => exact ⟨x, xs, rfl⟩
            have EB : Hid (rbestI rs = x) := Lib.hid (by unfold rbestI; rw [hx])
            rw [hx] at A6'
            obtain ⟨s6, c6, rfl, hle6, hm6, h6⟩ := A6'
            obtain ⟨b6, off6, rfl, h7⟩ := h6 (by simp [castL])
            obtain ⟨cs, _, ⟨rfl, _⟩, hc⟩ := h7 0 (x : Int) (by simp [castL])
            have d6 := hc 0 _ rfl
            simp only [Nat.zero_mul, Nat.add_zero] at d6
            unfold maxLen at hm6
            have m6 : (0 : Int) < ((castL (x :: xs)).length : Int) := by simp [castL]
            generalize (castL (x :: xs)).length = n6 at *
            clear h6 h7 hc hx NE
            go_wp2_with fail
            go_ret
            exact ⟨ret_int EB.out.symm, B8.out⟩
end Go.Proofs.Ytfkplbkllmnfeaa
