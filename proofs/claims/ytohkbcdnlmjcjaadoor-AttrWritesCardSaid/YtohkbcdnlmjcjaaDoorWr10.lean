/- Texts of one proof, one behind another. -/
import Derived.Test.YtohkbcdnlmjcjaaDoorWr9
import Derived.Maps.AppendAt
/-
  ATTRIBUTES: a path read, plain; a path of the call's own.
-/
namespace Go.Proofs.YtohkbcdnlmjcjaaDoor
open Go.RowKit

/-- n numbers of two bytes each. -/
def prN (l : List Nat) (n : Nat) : List Int := (List.range n).map fun j => (readN ((l.take (2 * j + 2)).drop (2 * j)) : Int)
set_option maxRecDepth 100000 in
theorem prN_succ (l : List Nat) (n : Nat) : prN l (n + 1) = prN l n ++ [(readN ((l.take (2 * n + 2)).drop (2 * n)) : Int)] := by simp [prN, List.range_succ]
set_option maxRecDepth 100000 in
theorem prN_len (l : List Nat) (n : Nat) : (prN l n).length = n := by simp [prN]
/-- a path out of bytes. -/
def rdPath : List Nat → Option (List Sg)
  | [] => some []
  | [_] => none
  | k :: n :: l => if k = 1 ∨ k = 2 then if l.length < 2 * n then none else (rdPath (l.drop (2 * n))).map ((k == 1, prN l n) :: ·) else none
termination_by l => l.length
decreasing_by simp only [List.length_drop, List.length_cons]; omega
set_option maxRecDepth 100000 in
theorem rdPath_nil : rdPath [] = some [] := by rw [rdPath]
set_option maxRecDepth 100000 in
theorem rdPath_one (x : Nat) : rdPath [x] = none := by rw [rdPath]
set_option maxRecDepth 100000 in
theorem rdPath_two (k n : Nat) (l : List Nat) : rdPath (k :: n :: l) = if k = 1 ∨ k = 2 then if l.length < 2 * n then none else (rdPath (l.drop (2 * n))).map ((k == 1, prN l n) :: ·) else none := by rw [rdPath]
set_option maxRecDepth 100000 in
theorem readN_two {l : List Nat} (h : ∀ x ∈ l, x < 256) (j : Nat) : readN ((l.take (2 * j + 2)).drop (2 * j)) < 65536 := by
  have h1 := readN_lt (xs := (l.take (2 * j + 2)).drop (2 * j)) (fun y hy => h y (List.mem_of_mem_take (List.mem_of_mem_drop hy))) _ (Nat.le_refl _)
  rw [List.take_length] at h1
  have h2 : ((l.take (2 * j + 2)).drop (2 * j)).length ≤ 2 := by rw [List.length_drop, List.length_take]; omega
  have h3 : 256 ^ ((l.take (2 * j + 2)).drop (2 * j)).length ≤ 256 ^ 2 := Nat.pow_le_pow_right (by decide) h2
  omega
set_option maxRecDepth 100000 in
theorem prN_rng {l : List Nat} (h : ∀ x ∈ l, x < 256) (n : Nat) : ∀ x ∈ prN l n, 0 ≤ x ∧ x < 65536 := by
  intro x hx
  unfold prN at hx
  obtain ⟨j, -, rfl⟩ := List.mem_map.1 hx
  have := readN_two h j
  omega
set_option maxRecDepth 100000 in
theorem part_two (k n : Nat) (l : List Nat) (j : Nat) : ((k :: n :: l).take (2 + 2 * j + 2)).drop (2 + 2 * j) = (l.take (2 * j + 2)).drop (2 * j) := by
  rw [show 2 + 2 * j + 2 = (2 * j + 2) + 1 + 1 by omega, show 2 + 2 * j = 2 * j + 1 + 1 by omega, List.take_succ_cons, List.take_succ_cons, List.drop_succ_cons, List.drop_succ_cons]
set_option maxRecDepth 100000 in
theorem drop_two (k n : Nat) (l : List Nat) (m : Nat) : (k :: n :: l).drop (2 + m) = l.drop m := by
  rw [show 2 + m = m + 1 + 1 by omega, List.drop_succ_cons, List.drop_succ_cons]
/-- parts of a path in memory of the call's own: each part with the value of its systems. -/
abbrev SgV := Sg × Value
def sgC (x : SgV) : List Value := [.bool x.1.1, x.2]
structure PathOwn (W : World) (lo : Nat) (v : Value) (L : List SgV) : Prop where
  own : W.ownsRow lo 32 2 v L.length (L.flatMap sgC)
  ins : ∀ x ∈ L, W.ownsRow lo 3 1 x.2 x.1.2.length (x.1.2.flatMap i64L) ∧ ∀ n ∈ x.1.2, I64r n
set_option maxRecDepth 100000 in
theorem PathOwn.below {W W' : World} {lo : Nat} {v : Value} {L : List SgV} (h : PathOwn W lo v L) (hb : Below W.heap.size W W') : PathOwn W' lo v L := ⟨own_below h.own hb, fun x hx => ⟨own_below (h.ins x hx).1 hb, (h.ins x hx).2⟩⟩
set_option maxRecDepth 100000 in
theorem pathOwn_nil (W : World) (lo : Nat) : PathOwn W lo (.slice none 0 0) [] := ⟨⟨rfl, .inl ⟨rfl, rfl⟩⟩, fun x hx => by simp at hx⟩
set_option maxRecDepth 100000 in
theorem sgC_len (x : SgV) : (sgC x).length = 2 := rfl
set_option maxRecDepth 100000 in
theorem own_kept {w w' : World} {B k n : Nat} {e : TypeId} {v : Value} {xs : List Value} {F : Nat → Prop} (h : w.ownsRow B e k v n xs) (hk : Kept F w w') (hF : ∀ g, v.ownBlock = some g → ¬ F g) : w'.ownsRow B e k v n xs := by
  obtain ⟨h1, ⟨rfl, h0⟩ | ⟨g, cap, cur, rfl, hb, hg, r⟩⟩ := h
  · exact ⟨h1, .inl ⟨rfl, h0⟩⟩
  · exact ⟨h1, .inr ⟨g, cap, cur, rfl, hb, (hk.block g (row_lt hg) (hF g rfl)).trans hg, r⟩⟩
set_option maxRecDepth 100000 in
theorem PathOwn.fresh {W : World} {lo : Nat} {v : Value} {L : List SgV} (h : PathOwn W lo v L) : Fresh lo W fun W => PathOwn W lo v L := fun W' hW => ⟨own_fresh h.own W' hW, fun x hx => ⟨own_fresh (h.ins x hx).1 W' hW, (h.ins x hx).2⟩⟩
set_option maxRecDepth 100000 in
theorem PathOwn.at {W : World} {lo : Nat} {v : Value} {L : List SgV} (h : PathOwn W lo v L) : PathAt W v (L.map (·.1)) := by
  have h1 := own_slat sgC_len h.own
  obtain ⟨sa, cap, rfl, h2, h3, h4⟩ := h1
  refine ⟨sa, cap, by rw [List.length_map], by rw [List.length_map]; exact h2, h3, fun h0 => ?_⟩
  obtain ⟨b, off, rfl, hP⟩ := h4 (by simpa using h0)
  refine ⟨b, off, rfl, fun i s hs => ?_⟩
  rw [List.getElem?_map] at hs
  obtain ⟨x, hx, rfl⟩ := Option.map_eq_some_iff.1 hs
  obtain ⟨cs, c1, rfl, c3⟩ := hP i x hx
  obtain ⟨o1, o2⟩ := h.ins x (List.mem_of_getElem? hx)
  exact ⟨_, c1, ⟨x.2, rfl, own_i64s o1 o2⟩, c3⟩
set_option maxRecDepth 100000 in
theorem own_lt' {w : World} {B k n : Nat} {e : TypeId} {v : Value} {xs : List Value} (h : w.ownsRow B e k v n xs) : ∀ g, v.ownBlock = some g → ∃ cur, w.heap[g]? = some (.cells cur e (0, 0)) := by
  obtain ⟨_, ⟨rfl, _⟩ | ⟨g, cap, cur, rfl, _, hg, _⟩⟩ := h
  · intro g hg; cases hg
  · intro g' hg'; cases hg'; exact ⟨_, hg⟩
set_option maxRecDepth 100000 in
/-- one part more. -/
theorem PathOwn.snoc {W W' : World} {lo : Nat} {v v' u : Value} {L : List SgV} {s : Sg} (h : PathOwn W lo v L) (hk : Kept (fun b => v.ownBlock = some b) W W') (ho : W'.ownsRow lo 32 2 v' (L.length + 1) (L.flatMap sgC ++ [.bool s.1, u]))
    (hu : W.ownsRow lo 3 1 u s.2.length (s.2.flatMap i64L)) (hr : ∀ n ∈ s.2, I64r n) : PathOwn W' lo v' (L ++ [(s, u)]) := by
  have apart : ∀ (x : Value) n (ys : List Value), W.ownsRow lo 3 1 x n ys → ∀ g, x.ownBlock = some g → ¬ v.ownBlock = some g := by
    intro x n ys hx g hg hv
    obtain ⟨c1, e1⟩ := own_lt' hx g hg
    obtain ⟨c2, e2⟩ := own_lt' h.own g hv
    rw [e1] at e2
    injection e2 with e2
    injection e2 with _ e2 _
    exact absurd e2 (by decide)
  refine ⟨?_, fun x hx => ?_⟩
  · rw [List.length_append, List.flatMap_append]
    simpa [sgC] using ho
  · rcases List.mem_append.1 hx with hx | hx
    · exact ⟨own_kept (h.ins x hx).1 hk (apart _ _ _ (h.ins x hx).1), (h.ins x hx).2⟩
    · rw [List.mem_singleton.1 hx]
      exact ⟨own_kept hu hk (apart _ _ _ hu), hr⟩
section
variable {P : Program} {w : World}
set_option maxRecDepth 100000 in
theorem wp_append_k {o : Oper} {a : Act} {K : Act → World → Prop} {Q : Exit → Act → World → Prop} (s x : Operand) (t : TypeId)
    (ho : o.op = .call { callee := .builtin .append, args := #[s, x], argTypes := #[t, t] })
    (base : Nat) (e : TypeId) (i : TypeInfo) (z : Value) (size bytes : Nat) (ht : P.underlying t = some (.slice e)) (hi : P.info? e = some i) (hz : i.zero = some z)
    (hsize : i.size = size) (hby : i.bytes = bytes) (hzs : z.cells.size = size) (hsz : 0 < size)
    (v : Value) (n : Nat) (xs : List Value) (hs : a.eval s = v) (hown : w.ownsRow base e size v n xs)
    (ad : Addr) (m c : Nat) (news : List Value) (hx : a.eval x = .slice (some ad) m c) (hl : news.length = m * size) (hnews : ∀ j u, news[j]? = some u → w.cell? (ad.add j) = some u) (h1 : ∀ u ∈ news, u.oneCell' = true)
    (h63 : n + m ≤ maxLen) (hbytes : (n + m) * bytes ≤ 140737488355328) (hbase : base ≤ w.heap.size)
    (h : ∀ v' w', w'.ownsRow base e size v' (n + m) (xs ++ news) → w.grownBy w' v.ownBlock → (v'.ownBlock = v.ownBlock ∨ v'.ownBlock = some w.heap.size) → K (a.put o.dst v') w') : o.wp P a w K Q := by
  obtain ⟨v', w', hr, h2, h3, _, h5⟩ := run_append_own_at (P := P) w base t o.type e i z size bytes ht hi hz hsize hby hzs hsz v n xs hown ad m c news hl hnews h1 h63 hbytes hbase
  unfold Oper.wp execOp
  simp only [ho, resolve, invoke, builtin, Sem.run_bind, Sem.run_pure, Result.andThen_ok, List.map_toArray, List.map_cons, List.map_nil, hs, hx, hr]
  exact h v' w' h2 h3 h5
end
def lenOf : Value → Nat
  | .slice _ n _ => n
  | _ => 0
end Go.Proofs.YtohkbcdnlmjcjaaDoor
