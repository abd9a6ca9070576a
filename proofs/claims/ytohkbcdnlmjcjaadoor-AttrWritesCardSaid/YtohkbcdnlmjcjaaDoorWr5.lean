/- Texts of one proof, one behind another. -/
import Derived.Test.YtohkbcdnlmjcjaaDoorWr4
import Derived.LoopTactic
import Derived.OwnWalk
import Derived.Deep.DeepCutAuto
import Derived.LoopN
import Derived.Lib.SliceRun
import Derived.Laws.OwnMore
import Derived.Test.YtohkbcdnlmjcjaaDoorWr1
import Derived.Laws.Tables
/-
  What is known of memory by the blocks that it lies in; the rows of slices, cell by cell.
-/
namespace Go.Proofs.YtohkbcdnlmjcjaaDoor
open Go.RowKit

/-- it hangs on the blocks of F alone. -/
def On (F : Nat → Prop) (w : World) (Q : World → Prop) : Prop := ∀ W : World, (∀ k, F k → k < w.heap.size → W.heap[k]? = w.heap[k]?) → Q W
set_option maxRecDepth 100000 in
theorem On.self {F : Nat → Prop} {w : World} {Q : World → Prop} (h : On F w Q) : Q w := h w fun _ _ _ => rfl
set_option maxRecDepth 100000 in
theorem On.wide {F G : Nat → Prop} {w : World} {Q : World → Prop} (h : On F w Q) (hFG : ∀ k, F k → k < w.heap.size → G k) : On G w Q := fun W hW => h W fun k hk hl => hW k (hFG k hk hl) hl
set_option maxRecDepth 100000 in
theorem On.imp {F : Nat → Prop} {w : World} {Q R : World → Prop} (h : On F w Q) (hQ : ∀ W, Q W → R W) : On F w R := fun W hW => hQ W (h W hW)
set_option maxRecDepth 100000 in
theorem On.and {F : Nat → Prop} {w : World} {Q R : World → Prop} (h : On F w Q) (k : On F w R) : On F w fun W => Q W ∧ R W := fun W hW => ⟨h W hW, k W hW⟩
set_option maxRecDepth 100000 in
theorem On.kept {F G : Nat → Prop} {w w' : World} {Q : World → Prop} (h : On F w Q) (hk : Kept G w w') (hne : ∀ k, k < w.heap.size → F k → ¬ G k) : On F w' Q := fun W hW =>
  h W fun k hF hl => (hW k hF (Nat.lt_of_lt_of_le hl hk.size)).trans (hk.block k hl (hne k hl hF))
set_option maxRecDepth 100000 in
theorem On.below {F : Nat → Prop} {w w' : World} {Q : World → Prop} (h : On F w Q) (hb : Below w.heap.size w w') : On F w' Q := h.kept (G := fun _ => False) (Kept.of_below hb) (fun _ _ _ h => h)
set_option maxRecDepth 100000 in
theorem own_on {w : World} {B k n : Nat} {e : TypeId} {v : Value} {xs : List Value} (h : w.ownsRow B e k v n xs) : On (fun b => v.ownBlock = some b) w fun W => W.ownsRow B e k v n xs := by
  intro W hW
  obtain ⟨h1, h2⟩ := h
  refine ⟨h1, h2.imp_right ?_⟩
  rintro ⟨g, cap, cur, rfl, h4, h5, h6⟩
  exact ⟨g, cap, cur, rfl, h4, (hW g rfl (row_lt h5)).trans h5, h6⟩
/-- it lies in blocks from lo on. -/
abbrev Fresh (lo : Nat) (w : World) (Q : World → Prop) : Prop := On (fun k => lo ≤ k) w Q
set_option maxRecDepth 100000 in
theorem own_fresh {w : World} {B k n : Nat} {e : TypeId} {v : Value} {xs : List Value} (h : w.ownsRow B e k v n xs) : Fresh B w fun W => W.ownsRow B e k v n xs := (own_on h).wide fun b hb _ => own_form_le h b hb

section
variable {α : Type} {k : Nat}
set_option maxRecDepth 100000 in
theorem rows_len {rows : List (List Value)} (h : ∀ r ∈ rows, r.length = k) : rows.flatten.length = rows.length * k := by
  induction rows with
  | nil => simp
  | cons x xs ih => rw [List.flatten_cons, List.length_append, ih (fun r hr => h r (List.mem_cons_of_mem _ hr)), h x (List.mem_cons_self ..), List.length_cons, Nat.succ_mul]; omega
set_option maxRecDepth 100000 in
theorem rows_get : ∀ {rows : List (List Value)}, (∀ r ∈ rows, r.length = k) → ∀ (i : Nat) (r : List Value), rows[i]? = some r → ∀ j, j < k → rows.flatten[i * k + j]? = r[j]?
  | [], _, i, x, h, _, _ => by simp at h
  | y :: xs, hk, 0, x, h, j, hj => by
    simp at h; subst h
    rw [List.flatten_cons, Nat.zero_mul, Nat.zero_add, List.getElem?_append_left (by rw [hk y (List.mem_cons_self ..)]; exact hj)]
  | y :: xs, hk, i + 1, x, h, j, hj => by
    have ih := rows_get (rows := xs) (fun r hr => hk r (List.mem_cons_of_mem _ hr)) i x (by simpa using h) j hj
    have hy := hk y (List.mem_cons_self ..)
    rw [List.flatten_cons, List.getElem?_append_right (by rw [hy, Nat.succ_mul]; omega), hy, ← ih]
    congr 1
    rw [Nat.succ_mul]; omega
set_option maxRecDepth 100000 in
theorem rows_set {rows : List (List Value)} (h : ∀ r ∈ rows, r.length = k) {i : Nat} {r : List Value} (hr : rows[i]? = some r) {j : Nat} (hj : j < k) (u : Value) : (rows.set i (r.set j u)).flatten = rows.flatten.set (i * k + j) u := by
  induction rows generalizing i with
  | nil => simp at hr
  | cons x xs ih =>
    cases i with
    | zero =>
      simp at hr; subst hr
      have hx := h x (List.mem_cons_self ..)
      rw [List.set_cons_zero, List.flatten_cons, List.flatten_cons, Nat.zero_mul, Nat.zero_add, List.set_append_left _ _ (by omega)]
    | succ i =>
      have hx := h x (List.mem_cons_self ..)
      rw [List.set_cons_succ, List.flatten_cons, List.flatten_cons, ih (fun r hr => h r (List.mem_cons_of_mem _ hr)) (by simpa using hr), List.set_append_right _ _ (by rw [hx, Nat.succ_mul]; omega)]
      congr 2
      rw [hx, Nat.succ_mul]; omega
set_option maxRecDepth 100000 in
/-- the cells of a slice, all of them. -/
theorem slat_rows {w : World} {R : α → List Value → Prop} {v : Value} {xs : List α} (h : SlAt w k R v xs) : ∃ (sa : Option Addr) (cap : Nat) (rows : List (List Value)), v = .slice sa xs.length cap ∧ xs.length ≤ cap ∧ cap ≤ maxLen ∧ rows.length = xs.length ∧ (∀ r ∈ rows, r.length = k) ∧
    (∀ (i : Nat) (x : α), xs[i]? = some x → ∃ cs, rows[i]? = some cs ∧ R x cs) ∧ (0 < xs.length → ∃ b off, sa = some ⟨b, off, none⟩ ∧ ∀ q u, rows.flatten[q]? = some u → w.cell? ⟨b, off + q, none⟩ = some u) := by
  obtain ⟨sa, cap, h1, h2, h3, h4⟩ := h
  by_cases h0 : 0 < xs.length
  · obtain ⟨b, off, h5, h6⟩ := h4 h0
    have hone : ∀ i : Fin xs.length, ∃ cs : List Value, cs.length = k ∧ R xs[i] cs ∧ ∀ (j : Nat) (c : Value), cs[j]? = some c → w.cell? ⟨b, off + i * k + j, none⟩ = some c := fun i => h6 i.val _ (List.getElem?_eq_getElem i.isLt)
    obtain ⟨g, hg⟩ := Classical.axiomOfChoice hone
    have hk : ∀ r ∈ List.ofFn g, r.length = k := fun r hr => by
      obtain ⟨i, rfl⟩ := List.mem_ofFn.1 hr
      exact (hg i).1
    refine ⟨sa, cap, List.ofFn g, h1, h2, h3, by simp, hk, fun i x hx => ?_, fun _ => ⟨b, off, h5, fun q u hq => ?_⟩⟩
    · obtain ⟨hi, rfl⟩ := List.getElem?_eq_some_iff.1 hx
      exact ⟨g ⟨i, hi⟩, by rw [List.getElem?_ofFn]; simp [hi], (hg ⟨i, hi⟩).2.1⟩
    · by_cases hk0 : 0 < k
      · have hql := (List.getElem?_eq_some_iff.1 hq).1
        rw [rows_len hk, List.length_ofFn] at hql
        have hi : q / k < xs.length := Nat.div_lt_of_lt_mul (by rw [Nat.mul_comm]; exact hql)
        have hj := Nat.mod_lt q hk0
        have e : q = q / k * k + q % k := by rw [Nat.mul_comm]; exact (Nat.div_add_mod q k).symm
        have hget : (List.ofFn g)[q / k]? = some (g ⟨q / k, hi⟩) := by rw [List.getElem?_ofFn]; simp [hi]
        have := rows_get hk (q / k) _ hget (q % k) hj
        rw [← e, hq] at this
        have := (hg ⟨q / k, hi⟩).2.2 (q % k) u this.symm
        simp only at this
        rw [Nat.add_assoc, ← e] at this
        exact this
      · have hql := (List.getElem?_eq_some_iff.1 hq).1
        rw [rows_len hk] at hql
        have : k = 0 := by omega
        subst this
        simp at hql
  · have : xs = [] := List.length_eq_zero_iff.1 (by omega)
    subst this
    exact ⟨sa, cap, [], h1, h2, h3, rfl, fun r hr => by simp at hr, fun i x hx => by simp at hx, fun h => absurd h h0⟩
set_option maxRecDepth 100000 in
/-- a row of the call's own, element by element. -/
theorem own_rows {w : World} {B : Nat} {e : TypeId} {v : Value} {xs : List α} {rows : List (List Value)} {R : α → List Value → Prop} (h : w.ownsRow B e k v xs.length rows.flatten) (hk : ∀ r ∈ rows, r.length = k)
    (hR : ∀ (i : Nat) (x : α), xs[i]? = some x → ∃ cs, rows[i]? = some cs ∧ R x cs) : SlAt w k R v xs := by
  obtain ⟨_, ⟨rfl, h0⟩ | ⟨g, cap, cur, rfl, _, hg, hn, hm, _, hcur⟩⟩ := h
  · obtain rfl := List.length_eq_zero_iff.1 h0
    exact SlAt.nil
  · refine ⟨some ⟨g, 0, none⟩, cap, rfl, hn, hm, fun _ => ⟨g, 0, rfl, fun i x hx => ?_⟩⟩
    obtain ⟨cs, hcs, hr⟩ := hR i x hx
    have hl := hk cs (List.mem_of_getElem? hcs)
    refine ⟨cs, hl, hr, fun j c hc => ?_⟩
    have hj : j < k := by rw [← hl]; exact (List.getElem?_eq_some_iff.1 hc).1
    have hi : i < xs.length := (List.getElem?_eq_some_iff.1 hx).1
    have hf := rows_get hk i cs hcs j hj
    rw [← hcur, hc, List.getElem?_take_of_lt (by
      have : (i + 1) * k ≤ xs.length * k := Nat.mul_le_mul_right _ hi
      rw [Nat.succ_mul] at this; omega)] at hf
    rw [row_cell hg, Nat.zero_add]
    simpa using hf
set_option maxRecDepth 100000 in
/-- a cell of a row of the call's own is stored. -/
theorem own_set {w : World} {B n : Nat} {e : TypeId} {v : Value} {xs : List Value} {g c : Nat} (h : w.ownsRow B e k v n xs) (hv : v = .slice (some ⟨g, 0, none⟩) n c) (j : Nat) (u : Value) :
    (w.setCell ⟨g, j, none⟩ u).ownsRow B e k v n (xs.set j u) := by
  obtain ⟨h1, ⟨rfl, _⟩ | ⟨g', cap, cur, rfl, hB, hg, hn, hm, hsz, hcur⟩⟩ := h
  · cases hv
  · injection hv with hv _ _
    injection hv with hv
    injection hv with hv
    subst hv
    refine ⟨by simp [h1], .inr ⟨_, cap, cur.setIfInBounds j u, rfl, hB, set_same hg j u, hn, hm, by simp [hsz], ?_⟩⟩
    rw [← hcur, Array.toList_setIfInBounds, List.take_set]
set_option maxRecDepth 100000 in
theorem own_row_cell {w : World} {B n : Nat} {e : TypeId} {v : Value} {xs : List Value} {g c : Nat} (h : w.ownsRow B e k v n xs) (hv : v = .slice (some ⟨g, 0, none⟩) n c) {j : Nat} {u : Value} (hj : xs[j]? = some u) :
    w.cell? ⟨g, j, none⟩ = some u ∧ w.frozen? ⟨g, j, none⟩ = false ∧ B ≤ g ∧ g < w.heap.size := by
  obtain ⟨h1, ⟨rfl, _⟩ | ⟨g', cap, cur, rfl, hB, hg, hn, hm, hsz, hcur⟩⟩ := h
  · cases hv
  · injection hv with hv _ _
    injection hv with hv
    injection hv with hv
    subst hv
    refine ⟨?_, row_free hg j, hB, row_lt hg⟩
    have hl := (List.getElem?_eq_some_iff.1 hj).1
    rw [h1] at hl
    rw [← hcur, List.getElem?_take_of_lt hl] at hj
    rw [row_cell hg]
    simpa using hj
set_option maxRecDepth 100000 in
theorem own_slice {w : World} {B n : Nat} {e : TypeId} {v : Value} {xs : List Value} (h : w.ownsRow B e k v n xs) : (v = .slice none 0 0 ∧ n = 0) ∨ ∃ g c, v = .slice (some ⟨g, 0, none⟩) n c := by
  obtain ⟨_, h | ⟨g, cap, cur, rfl, _⟩⟩ := h
  · exact .inl h
  · exact .inr ⟨g, cap, rfl⟩
end
end Go.Proofs.YtohkbcdnlmjcjaaDoor

/-
  ATTRIBUTES: num, put: a number's bytes, an attribute's bytes behind others.
-/
namespace Go.Proofs.YtohkbcdnlmjcjaaDoor
open Go.RowKit

set_option maxRecDepth 100000 in
theorem kept_grownB {w w' : World} {r : Option Nat} (h : w.grownBy w' r) : Kept (fun b => r = some b) w w' := ⟨h.os, h.tape, h.output, h.size, fun k hk hF => h.block k hk (fun e => hF e.symm)⟩
abbrev bV (n : Nat) : Value := .int .u8 n
set_option maxRecDepth 100000 in
theorem info_byteB : (Tryd.prog.info? 5).map (fun i => (i.zero, i.size, i.bytes)) = some (some (.int .u8 0), 1, 1) := by kernel_rfl
/-- a byte of a number. -/
def byN (n : Int) (k : Nat) : Nat := (n / 2 ^ (8 * k) % 256).toNat
def numB (n : Int) : Nat → List Nat
  | 0 => []
  | k + 1 => byN n k :: numB n k
set_option maxRecDepth 100000 in
theorem numB_len (n : Int) : ∀ k, (numB n k).length = k
  | 0 => rfl
  | k + 1 => by rw [numB, List.length_cons, numB_len n k]
set_option maxRecDepth 100000 in
theorem byN_lt (n : Int) (k : Nat) : byN n k < 256 := by unfold byN; omega
set_option maxRecDepth 100000 in
theorem numB_lt (n : Int) : ∀ (k : Nat), ∀ x ∈ numB n k, x < 256
  | 0, x, h => by simp [numB] at h
  | k + 1, x, h => by
    rcases List.mem_cons.1 h with e | h
    · rw [e]; exact byN_lt n k
    · exact numB_lt n k x h
/-- bytes of the call's own. -/
def OwnB (w : World) (B : Nat) (v : Value) (xs : List Nat) : Prop := w.ownsRow B 5 1 v xs.length (xs.map bV)
set_option maxRecDepth 100000 in
theorem OwnB.below {w w' : World} {B : Nat} {v : Value} {xs : List Nat} (h : OwnB w B v xs) (hb : Below w.heap.size w w') : OwnB w' B v xs := own_below h hb
set_option maxRecDepth 100000 in
theorem ownB_nil (w : World) (B : Nat) : OwnB w B (.slice none 0 0) [] := ⟨rfl, .inl ⟨rfl, rfl⟩⟩
set_option maxRecDepth 100000 in
theorem one_b {n : Int} : ∀ u ∈ [Value.int .u8 n], u.oneCell' = true := by
  intro u hu
  rw [List.mem_singleton.1 hu]; rfl
/-- what a function does that lets a row of bytes grow. -/
def GrowB (B : Nat) (v : Value) (xs : List Nat) (w : World) (e : Ending) (w' : World) : Prop := ∃ v', e = .returned v' ∧ OwnB w' B v' xs ∧ Kept (fun b => v.ownBlock = some b) w w' ∧ (v'.ownBlock = v.ownBlock ∨ ∃ b, v'.ownBlock = some b ∧ w.heap.size ≤ b)
section
variable {P : Program} {w : World}
set_option maxRecDepth 100000 in
theorem run_append_none0 (base : Nat) (t ty e : TypeId) (i : TypeInfo) (size c : Nat) (ht : P.underlying t = some (.slice e)) (hi : P.info? e = some i)
    (v : Value) (n : Nat) (xs : List Value) (hown : w.ownsRow base e size v n xs) :
    (Builtin.append_ #[t, t] ty #[v, .slice none 0 c]).run P w = .ok v w := by
  rcases hown.2 with ⟨rfl, rfl⟩ | ⟨g, cap, cur, rfl, _, _, hnc, _⟩
  · simp [Builtin.append_, run_underlying ht, sizeOf, typeInfo, hi, Builtin.lenOf, Builtin.firstCells]
  · simp [Builtin.append_, run_underlying ht, sizeOf, typeInfo, hi, Builtin.lenOf, Builtin.firstCells, hnc, storeCells]
set_option maxRecDepth 100000 in
theorem wpList_append_none0 {ops : Array Oper} {rest : List Oper} {o : Oper} {a : Act} {Q : Exit → Act → World → Prop} (hgd : o.guard = none) (s x : Operand) (t : TypeId)
    (ho : o.op = .call { callee := .builtin .append, args := #[s, x], argTypes := #[t, t] })
    (base : Nat) (e : TypeId) (i : TypeInfo) (size c : Nat) (ht : P.underlying t = some (.slice e)) (hi : P.info? e = some i)
    (v : Value) (n : Nat) (xs : List Value) (hs : a.eval s = v) (hown : w.ownsRow base e size v n xs) (hx : a.eval x = .slice none 0 c)
    (h : wpList P ops Q rest (a.put o.dst v) w) : wpList P ops Q (o :: rest) a w := by
  refine wpList_plain hgd fun K hK => ?_
  have hr := run_append_none0 (P := P) (w := w) base t o.type e i size c ht hi v n xs hown
  unfold Oper.wp execOp
  simp only [ho, resolve, invoke, builtin, Sem.run_bind, Sem.run_pure, Result.andThen_ok, List.map_toArray, List.map_cons, List.map_nil, hs, hx, hr]
  exact hK _ _ h
end
set_option maxHeartbeats 3200000 in
set_option maxRecDepth 100000 in
theorem at_num (B : Nat) (v : Value) (xs : List Nat) (n : Int) (size : Nat) (w : World) (h : OwnB w B v xs) (hB : B ≤ w.heap.size) (hs : size ≤ 4) (hx : xs.length ≤ 1099511627776) :
    Calls Tryd.prog 57 #[v, .int .i64 n, .int .i64 size] w (GrowB B v (xs ++ numB n size) w) := by
  obtain ⟨i0, hii, hz0, hz1, hz2⟩ := info_parts info_byteB
  have O := Lib.hid h
  go_enter Tryd.func57, Tryd.ntmps57
  go_wp2_with fail
  go_loopw [2, 0] (fun i2 v0 wr => ∃ (r : Nat) (P : List Nat), r ≤ size ∧ i2 = .int .i64 ((r : Int) - 1) ∧ Hid (OwnB wr B v0 (xs ++ P)) ∧ Hid (numB n size = P ++ numB n r) ∧ P.length + r = size ∧ Hid (Kept (fun b => v.ownBlock = some b) w wr) ∧ Hid (v0.ownBlock = v.ownBlock ∨ ∃ b, v0.ownBlock = some b ∧ w.heap.size ≤ b)) (fun i2 _ _ => (intOf i2 + 1).toNat)
  case atStart => exact ⟨size, [], by omega, by go_num, Lib.hid (by rw [List.append_nil]; exact O.out), Lib.hid rfl, by simp, Lib.hid (Kept.refl _ _), Lib.hid (.inl rfl)⟩
  case round =>
    obtain ⟨r, P, hr, rfl, OR, NB, PL, KR, OB⟩ := hrel
    by_cases hr0 : r = 0
    · subst hr0
      go_wp2_with fail
      go_ret
      have e : P = numB n size := by have := NB.out; simpa [numB] using this.symm
      exact ⟨_, rfl, by rw [← e]; exact OR.out, KR.out, OB.out⟩
    · obtain ⟨k, rfl⟩ : ∃ k, r = k + 1 := ⟨r - 1, by omega⟩
      have PN : P.length ≤ 4 := by omega
      have SZ := Lib.hid KR.out.size
      have HC : Hid ([Value.int .u8 (n / 2 ^ (8 * k) % 256)] = [byN n k].map bV) := Lib.hid (by
        simp only [List.map_cons, List.map_nil, bV, byN]
        rw [Int.toNat_of_nonneg (by omega)])
      go_wp2_with (at_builtin; refine wpList_append_own_at _ rfl _ _ 38 rfl B 5 i0 _ 1 1 Tryd.underlying38 hii hz0 hz1 hz2 rfl (by decide) _ (xs ++ P).length ((xs ++ P).map bV) rfl (OR.out.alloc _) ⟨wr.heap.size, 0, none⟩ 1 1 [.int .u8 (n / 2 ^ (8 * k) % 256)] rfl rfl (new_cells wr _ _) one_b (by unfold maxLen; rw [List.length_append]; omega) (by rw [List.length_append]; omega) (by have := SZ.out; simp; omega) ?_)
      intro v7 w7 hown7 hgrow7 _ hblk7
      have O7 : Hid (OwnB w7 B v7 (xs ++ (P ++ [byN n k]))) := Lib.hid (by
        unfold OwnB
        rw [HC.out] at hown7
        rw [show (xs ++ (P ++ [byN n k])).length = xs.length + P.length + 1 by simp; omega, show (xs ++ (P ++ [byN n k])).map bV = xs.map bV ++ (P.map bV ++ [byN n k].map bV) by simp]
        exact hown7)
      have hal : Kept (fun b => v.ownBlock = some b) wr (wr.alloc (.cells #[.int .u8 (n / 2 ^ (8 * k) % 256)] 5)) := Kept.of_below ((Below.refl _ _).alloc (Nat.le_refl _) _)
      have K7 : Hid (Kept (fun b => v.ownBlock = some b) w w7) := Lib.hid (by
        have h1 := KR.out.trans hal
        have h2 := kept_grownB hgrow7
        refine ⟨h2.os.trans h1.os, h2.tape.trans h1.tape, h2.output.trans h1.output, Nat.le_trans h1.size h2.size, fun i hi hf => (h2.block i (Nat.lt_of_lt_of_le hi h1.size) ?_).trans (h1.block i hi hf)⟩
        rcases OB.out with e | ⟨b, e, hb⟩
        · rw [e]; exact hf
        · intro e2; rw [e] at e2; have := Option.some.inj e2; omega)
      have OB7 : Hid (v7.ownBlock = v.ownBlock ∨ ∃ b, v7.ownBlock = some b ∧ w.heap.size ≤ b) := Lib.hid (by
        rcases hblk7 with e | e
        · rcases OB.out with e2 | ⟨b, e2, hb⟩
          · exact .inl (e.trans e2)
          · exact .inr ⟨b, e.trans e2, hb⟩
        · exact .inr ⟨_, e, by have := SZ.out; simp; omega⟩)
      have NB7 : Hid (numB n size = (P ++ [byN n k]) ++ numB n k) := Lib.hid (by rw [NB.out, numB, List.append_assoc]; rfl)
      clear hown7 hgrow7 hblk7 hal OR KR OB NB HC
      go_wp2_with fail
      exact ⟨⟨k, P ++ [byN n k], by omega, by go_num, O7, NB7, by simp; omega, K7, OB7⟩, by simp [intOf]⟩
/-- an attribute's bytes. -/
def layL (fl t : Int) (ys : List Nat) : List Nat := if 255 < ys.length then numB (fl + 16) 1 ++ (numB t 1 ++ (numB ys.length 2 ++ ys)) else numB fl 1 ++ (numB t 1 ++ (numB ys.length 1 ++ ys))
set_option maxRecDepth 100000 in
theorem GrowB.kept {w w1 w2 : World} {v v1 : Value} (h : Kept (fun b => v.ownBlock = some b) w w1) (hb : v1.ownBlock = v.ownBlock ∨ ∃ b, v1.ownBlock = some b ∧ w.heap.size ≤ b) (k : Kept (fun b => v1.ownBlock = some b) w1 w2) : Kept (fun b => v.ownBlock = some b) w w2 := by
  refine ⟨k.os.trans h.os, k.tape.trans h.tape, k.output.trans h.output, Nat.le_trans h.size k.size, fun i hi hf => (k.block i (Nat.lt_of_lt_of_le hi h.size) ?_).trans (h.block i hi hf)⟩
  rcases hb with e | ⟨b, e, hb⟩
  · rw [e]; exact hf
  · intro e2; rw [e] at e2; have := Option.some.inj e2; omega
set_option maxRecDepth 100000 in
theorem GrowB.blk {w w1 : World} {v v1 v2 : Value} (hs : w.heap.size ≤ w1.heap.size) (hb : v1.ownBlock = v.ownBlock ∨ ∃ b, v1.ownBlock = some b ∧ w.heap.size ≤ b) (k : v2.ownBlock = v1.ownBlock ∨ ∃ b, v2.ownBlock = some b ∧ w1.heap.size ≤ b) : v2.ownBlock = v.ownBlock ∨ ∃ b, v2.ownBlock = some b ∧ w.heap.size ≤ b := by
  rcases k with e | ⟨b, e, h⟩
  · rw [e]; exact hb
  · exact .inr ⟨b, e, Nat.le_trans hs h⟩
set_option maxRecDepth 100000 in
theorem bytes_news {w : World} {b off : Nat} {ys : List Nat} (h : ∀ (i : Nat) (x : Nat), ys[i]? = some x → ∃ cs : List Value, cs.length = 1 ∧ ByteC x cs ∧ ∀ (j : Nat) (c : Value), cs[j]? = some c → w.cell? ⟨b, off + i * 1 + j, none⟩ = some c) :
    ∀ j u, (ys.map bV)[j]? = some u → w.cell? ((⟨b, off, none⟩ : Addr).add j) = some u := by
  intro j u hj
  rw [List.getElem?_map] at hj
  obtain ⟨x, hx, rfl⟩ := Option.map_eq_some_iff.1 hj
  obtain ⟨cs, -, ⟨rfl, -⟩, hc⟩ := h j x hx
  have := hc 0 _ rfl
  rw [Nat.mul_one, Nat.add_zero] at this
  show w.cell? (Addr.add ⟨b, off, none⟩ j) = some (.int .u8 x)
  cases j with
  | zero => simpa [Addr.add] using this
  | succ j => simpa [Addr.add] using this
set_option maxRecDepth 100000 in
theorem one_bs (ys : List Nat) : ∀ u ∈ ys.map bV, u.oneCell' = true := by
  intro u hu
  obtain ⟨x, -, rfl⟩ := List.mem_map.1 hu
  rfl
set_option maxHeartbeats 3200000 in
set_option maxRecDepth 100000 in
theorem at_put (B : Nat) (v : Value) (xs : List Nat) (fl t : Int) (u : Value) (ys : List Nat) (w : World) (h : OwnB w B v xs) (hB : B ≤ w.heap.size) (hf : bits .or .i64 fl 16 = fl + 16)
    (hy : ∀ W, Kept (fun b => v.ownBlock = some b) w W → BytesAt W u ys) (hx : xs.length ≤ 1073741824) (hl : ys.length ≤ 1073741824) :
    Calls Tryd.prog 32 #[v, .int .i64 fl, .int .i64 t, u] w (GrowB B v (xs ++ layL fl t ys) w) := by
  obtain ⟨i0, hii, hz0, hz1, hz2⟩ := info_parts info_byteB
  have O := Lib.hid h
  have HY := Lib.hid hy
  have hF := hf
  obtain ⟨sa, cap, rfl, -⟩ := id (hy w (Kept.refl _ _))
  have N1 := Lib.hid (fun (v : Value) (xs : List Nat) (n : Int) (W : World) (h : OwnB W B v xs) (hb : w.heap.size ≤ W.heap.size) (hx : xs.length ≤ 1099511627776) => at_num B v xs n 1 W h (Nat.le_trans hB hb) (by decide) hx)
  have N2 := Lib.hid (fun (v : Value) (xs : List Nat) (n : Int) (W : World) (h : OwnB W B v xs) (hb : w.heap.size ≤ W.heap.size) (hx : xs.length ≤ 1099511627776) => at_num B v xs n 2 W h (Nat.le_trans hB hb) (by decide) hx)
  clear hf hy h
  go_enter Tryd.func32, Tryd.ntmps32
  by_cases hlen : 255 < ys.length
  · have e1 : decide ((ys.length : Int) > 255) = true := by simp; omega
    have PL : Hid (layL fl t ys = numB (fl + 16) 1 ++ (numB t 1 ++ (numB ys.length 2 ++ ys))) := Lib.hid (by unfold layL; rw [if_pos hlen])
    clear hlen
    go_wp2_with fail
    refine (N1.out v xs (fl + 16) w O.out (Nat.le_refl _) (by omega)).mono ?_
    rintro e w1 ⟨v1, rfl, o1, k1, b1⟩
    have O1 := Lib.hid o1
    have K1 := Lib.hid k1
    have D1 := Lib.hid b1
    clear o1 k1 b1
    go_wp2_with fail
    refine (N1.out v1 _ t w1 O1.out K1.out.size (by rw [List.length_append, numB_len]; omega)).mono ?_
    rintro e w2 ⟨v2, rfl, o2, k2, b2⟩
    have O2 := Lib.hid o2
    have K2 := Lib.hid (GrowB.kept K1.out D1.out k2)
    have D2 := Lib.hid (GrowB.blk K1.out.size D1.out b2)
    clear o2 k2 b2 O1 K1 D1
    go_wp2_with fail
    refine (N2.out v2 _ ys.length w2 O2.out K2.out.size (by rw [List.length_append, List.length_append, numB_len, numB_len]; omega)).mono ?_
    rintro e w3 ⟨v3, rfl, o3, k3, b3⟩
    have O3 := Lib.hid o3
    have K3 := Lib.hid (GrowB.kept K2.out D2.out k3)
    have D3 := Lib.hid (GrowB.blk K2.out.size D2.out b3)
    clear o3 k3 b3 O2 K2 D2
    have BY := HY.out w3 K3.out
    obtain ⟨sa', cap', hv, -, -, hcells⟩ := BY
    injection hv with hv1 _ hv2
    subst hv1; subst hv2
    obtain ⟨zs, hzs⟩ : ∃ zs, xs ++ numB (fl + 16) 1 ++ numB t 1 ++ numB ys.length 2 = zs := ⟨_, rfl⟩
    have LZ : zs.length ≤ 1073741900 := by rw [← hzs]; simp only [List.length_append, numB_len]; omega
    have HZ : Hid (xs ++ layL fl t ys = zs ++ ys) := Lib.hid (by rw [PL.out, ← hzs]; simp only [List.append_assoc])
    rw [hzs] at O3
    clear hzs PL
    have SZ := Lib.hid K3.out.size
    match sa, hcells with
    | none, hcells =>
      have y0 : ys.length = 0 := by
        by_cases h0 : ys.length = 0
        · exact h0
        · obtain ⟨b, off, hb, -⟩ := hcells (by omega)
          cases hb
      obtain rfl := List.length_eq_zero_iff.1 y0
      clear y0
      simp only [List.length_nil] at *
      go_wp2_with (at_builtin; refine wpList_append_none0 rfl _ _ 38 rfl B 5 i0 1 cap Tryd.underlying38 hii _ zs.length (zs.map bV) rfl O3.out rfl ?_)
      go_wp2_with fail
      go_ret
      exact ⟨_, rfl, by rw [HZ.out, List.append_nil]; exact O3.out, K3.out, D3.out⟩
    | some ad, hcells =>
      have HN : Hid (∀ j u, (ys.map bV)[j]? = some u → w3.cell? (ad.add j) = some u) := Lib.hid (by
        by_cases h0 : 0 < ys.length
        · obtain ⟨b, off, hb, hc⟩ := hcells h0
          obtain rfl := Option.some.inj hb
          exact bytes_news hc
        · obtain rfl := List.length_eq_zero_iff.1 (show ys.length = 0 by omega)
          intro j u hj
          simp at hj)
      have LY : (ys.map bV).length = ys.length * 1 := by simp
      clear hcells
      go_wp2_with (at_builtin; refine wpList_append_own_at _ rfl _ _ 38 rfl B 5 i0 _ 1 1 Tryd.underlying38 hii hz0 hz1 hz2 rfl (by decide) _ zs.length (zs.map bV) rfl O3.out ad ys.length cap (ys.map bV) rfl LY HN.out (one_bs ys) (by unfold maxLen; omega) (by omega) (by have := SZ.out; omega) ?_)
      intro v7 w7 hown7 hgrow7 _ hblk7
      have O7 : OwnB w7 B v7 (zs ++ ys) := by unfold OwnB; rw [List.length_append, List.map_append]; exact hown7
      go_wp2_with fail
      go_ret
      exact ⟨_, rfl, by rw [HZ.out]; exact O7, GrowB.kept K3.out D3.out (kept_grownB hgrow7), GrowB.blk K3.out.size D3.out (by rcases hblk7 with e | e; exact .inl e; exact .inr ⟨_, e, Nat.le_refl _⟩)⟩
  · have e1 : decide ((ys.length : Int) > 255) = false := by simp; omega
    have PL : Hid (layL fl t ys = numB fl 1 ++ (numB t 1 ++ (numB ys.length 1 ++ ys))) := Lib.hid (by unfold layL; rw [if_neg hlen])
    clear hlen
    go_wp2_with fail
    refine (N1.out v xs fl w O.out (Nat.le_refl _) (by omega)).mono ?_
    rintro e w1 ⟨v1, rfl, o1, k1, b1⟩
    have O1 := Lib.hid o1
    have K1 := Lib.hid k1
    have D1 := Lib.hid b1
    clear o1 k1 b1
    go_wp2_with fail
    refine (N1.out v1 _ t w1 O1.out K1.out.size (by rw [List.length_append, numB_len]; omega)).mono ?_
    rintro e w2 ⟨v2, rfl, o2, k2, b2⟩
    have O2 := Lib.hid o2
    have K2 := Lib.hid (GrowB.kept K1.out D1.out k2)
    have D2 := Lib.hid (GrowB.blk K1.out.size D1.out b2)
    clear o2 k2 b2 O1 K1 D1
    go_wp2_with fail
    refine (N1.out v2 _ ys.length w2 O2.out K2.out.size (by rw [List.length_append, List.length_append, numB_len, numB_len]; omega)).mono ?_
    rintro e w3 ⟨v3, rfl, o3, k3, b3⟩
    have O3 := Lib.hid o3
    have K3 := Lib.hid (GrowB.kept K2.out D2.out k3)
    have D3 := Lib.hid (GrowB.blk K2.out.size D2.out b3)
    clear o3 k3 b3 O2 K2 D2
    have BY := HY.out w3 K3.out
    obtain ⟨sa', cap', hv, -, -, hcells⟩ := BY
    injection hv with hv1 _ hv2
    subst hv1; subst hv2
    obtain ⟨zs, hzs⟩ : ∃ zs, xs ++ numB fl 1 ++ numB t 1 ++ numB ys.length 1 = zs := ⟨_, rfl⟩
    have LZ : zs.length ≤ 1073741900 := by rw [← hzs]; simp only [List.length_append, numB_len]; omega
    have HZ : Hid (xs ++ layL fl t ys = zs ++ ys) := Lib.hid (by rw [PL.out, ← hzs]; simp only [List.append_assoc])
    rw [hzs] at O3
    clear hzs PL
    have SZ := Lib.hid K3.out.size
    match sa, hcells with
    | none, hcells =>
      have y0 : ys.length = 0 := by
        by_cases h0 : ys.length = 0
        · exact h0
        · obtain ⟨b, off, hb, -⟩ := hcells (by omega)
          cases hb
      obtain rfl := List.length_eq_zero_iff.1 y0
      clear y0
      simp only [List.length_nil] at *
      go_wp2_with (at_builtin; refine wpList_append_none0 rfl _ _ 38 rfl B 5 i0 1 cap Tryd.underlying38 hii _ zs.length (zs.map bV) rfl O3.out rfl ?_)
      go_wp2_with fail
      go_ret
      exact ⟨_, rfl, by rw [HZ.out, List.append_nil]; exact O3.out, K3.out, D3.out⟩
    | some ad, hcells =>
      have HN : Hid (∀ j u, (ys.map bV)[j]? = some u → w3.cell? (ad.add j) = some u) := Lib.hid (by
        by_cases h0 : 0 < ys.length
        · obtain ⟨b, off, hb, hc⟩ := hcells h0
          obtain rfl := Option.some.inj hb
          exact bytes_news hc
        · obtain rfl := List.length_eq_zero_iff.1 (show ys.length = 0 by omega)
          intro j u hj
          simp at hj)
      have LY : (ys.map bV).length = ys.length * 1 := by simp
      clear hcells
      go_wp2_with (at_builtin; refine wpList_append_own_at _ rfl _ _ 38 rfl B 5 i0 _ 1 1 Tryd.underlying38 hii hz0 hz1 hz2 rfl (by decide) _ zs.length (zs.map bV) rfl O3.out ad ys.length cap (ys.map bV) rfl LY HN.out (one_bs ys) (by unfold maxLen; omega) (by omega) (by have := SZ.out; omega) ?_)
      intro v7 w7 hown7 hgrow7 _ hblk7
      have O7 : OwnB w7 B v7 (zs ++ ys) := by unfold OwnB; rw [List.length_append, List.map_append]; exact hown7
      go_wp2_with fail
      go_ret
      exact ⟨_, rfl, by rw [HZ.out]; exact O7, GrowB.kept K3.out D3.out (kept_grownB hgrow7), GrowB.blk K3.out.size D3.out (by rcases hblk7 with e | e; exact .inl e; exact .inr ⟨_, e, Nat.le_refl _⟩)⟩
end Go.Proofs.YtohkbcdnlmjcjaaDoor

/-
  ATTRIBUTES: value: the bytes of a known attribute's value.
-/
namespace Go.Proofs.YtohkbcdnlmjcjaaDoor
open Go.RowKit

/-- a path's bytes. -/
def segL (s : Sg) : List Nat := numB (if s.1 then 1 else 2) 1 ++ (numB s.2.length 1 ++ s.2.flatMap fun n => numB n 2)
def pathL (p : List Sg) : List Nat := p.flatMap segL
/-- the bytes of a known attribute's value. -/
def valL (a : At) (t : Nat) : List Nat :=
  if t = 1 then numB a.origin 1 else if t = 2 then pathL a.path else if t = 3 then numB a.hop 4 else if t = 4 then numB a.med 4 else if t = 5 then numB a.loc 4 else if t = 7 then numB a.aggrAs 2 ++ numB a.aggrId 4 else if t = 8 then a.comms.flatMap (fun c => numB c 4) else []
def ValPost (a : At) (t : Nat) (w : World) (e : Ending) (w' : World) : Prop := ∃ v', e = .returned v' ∧ OwnB w' w.heap.size v' (valL a t) ∧ Below w.heap.size w w'
set_option maxRecDepth 100000 in
theorem ownB_base {w : World} {B B' : Nat} {v : Value} {xs : List Nat} (h : OwnB w B v xs) (hB : B' ≤ B) : OwnB w B' v xs := by
  obtain ⟨h1, ⟨rfl, h0⟩ | ⟨g, cap, cur, rfl, hb, r⟩⟩ := h
  · exact ⟨h1, .inl ⟨rfl, h0⟩⟩
  · exact ⟨h1, .inr ⟨g, cap, cur, rfl, Nat.le_trans hB hb, r⟩⟩
set_option maxRecDepth 100000 in
theorem ownB_next {W0 wr w' : World} {v : Value} {xs : List Nat} (h : Below W0.heap.size W0 wr) (o : OwnB wr W0.heap.size v xs) (k : Kept (fun b => v.ownBlock = some b) wr w') : Below W0.heap.size W0 w' := h.trans (k.below h.size (own_form_le o))
set_option maxRecDepth 100000 in
theorem flat_take {α : Type} (f : α → List Nat) {l : List α} {k : Nat} {x : α} (h : l[k]? = some x) : (l.take (k + 1)).flatMap f = (l.take k).flatMap f ++ f x := by
  rw [List.take_add_one, h, List.flatMap_append]
  simp
set_option maxRecDepth 100000 in
theorem flatM_len {α : Type} (f : α → List Nat) (m : Nat) : ∀ (l : List α), (∀ x ∈ l, (f x).length ≤ m) → (l.flatMap f).length ≤ l.length * m
  | [], _ => by simp
  | x :: l, h => by
    rw [List.flatMap_cons, List.length_append, List.length_cons, Nat.succ_mul]
    have h1 := flatM_len f m l fun y hy => h y (List.mem_cons_of_mem _ hy)
    have h2 := h x List.mem_cons_self
    omega
set_option maxRecDepth 100000 in
theorem ints_one {w : World} {xs : List Int} {b off : Nat} (h : ∀ (i : Nat) (x : Int), xs[i]? = some x → ∃ cs : List Value, cs.length = 1 ∧ IntC x cs ∧ ∀ (j : Nat) (c : Value), cs[j]? = some c → w.cell? ⟨b, off + i * 1 + j, none⟩ = some c)
    {i : Nat} {x : Int} (hx : xs[i]? = some x) : w.cell? ⟨b, off + i, none⟩ = some (.int .i64 x) := by
  obtain ⟨cs, -, ⟨rfl, -⟩, hc⟩ := h i x hx
  have := hc 0 _ rfl
  rw [Nat.mul_one, Nat.add_zero] at this
  exact this
set_option maxHeartbeats 3200000 in
set_option maxRecDepth 100000 in
theorem at_value_1 (a : At) (vp vc vo : Value) (w : World) (hA : AtL w a vp vc vo) :
    Calls Tryd.prog 33 #[.agg #[.int .i64 a.has, .int .i64 a.origin, vp, .int .u32 a.hop, .int .i64 a.med, .int .i64 a.loc, .int .i64 a.aggrAs, .int .u32 a.aggrId, vc, vo], .int .i64 1] w (ValPost a 1 w) := by
  obtain ⟨⟨sp, cp, rfl, _⟩, ⟨sc, cc, rfl, _⟩, ⟨so, co, rfl, _⟩⟩ := hA
  go_enter Tryd.func33, Tryd.ntmps33
  go_upto_region 1 with (fail)
  obtain ⟨W0, hW0, q, hb0, _⟩ := boxA w (.int .i64 a.has) (.int .i64 a.origin) (.slice sp a.path.length cp) (.int .u32 a.hop) (.int .i64 a.med) (.int .i64 a.loc) (.int .i64 a.aggrAs) (.int .u32 a.aggrId) (.slice sc a.comms.length cc) (.slice so a.others.length co)
  rw [← hW0]
  clear hW0
  have B := Lib.hid hb0
  obtain ⟨y0, y1, y2, y3, y4, y5, y6, y7, y8, y9⟩ := at10 q
  clear q hb0 y0 y2 y3 y4 y5 y6 y7 y8 y9
  have NC := Lib.hid (at_num W0.heap.size (.slice none 0 0) [] a.origin 1 W0 (ownB_nil _ _) (Nat.le_refl _) (by decide) (by decide))
  have E : Hid (valL a 1 = numB a.origin 1) := Lib.hid (by simp [valL])
  go_wp2_with fail
  refine NC.out.mono ?_
  rintro e w1 ⟨v1, rfl, o1, k1, -⟩
  rw [List.nil_append, ← E.out] at o1
  have O1 := Lib.hid o1
  have K1 := Lib.hid (ownB_next (Below.refl _ _) (ownB_nil W0 _) k1)
  clear o1 k1 y1 NC
  go_wp2_with fail
  go_ret
  have RB := below_on B.out K1.out
  have RO := ownB_base O1.out B.out.size
  exact ⟨v1, rfl, RO, RB⟩
end Go.Proofs.YtohkbcdnlmjcjaaDoor

/-
  ATTRIBUTES: value: communities and the other kinds of one number.
-/
namespace Go.Proofs.YtohkbcdnlmjcjaaDoor
open Go.RowKit
set_option maxHeartbeats 6400000 in
set_option maxRecDepth 100000 in
theorem at_value_comms (a : At) (vp vc vo : Value) (w : World) (hA : AtL w a vp vc vo) (hs : a.comms.length ≤ 300) :
    Calls Tryd.prog 33 #[.agg #[.int .i64 a.has, .int .i64 a.origin, vp, .int .u32 a.hop, .int .i64 a.med, .int .i64 a.loc, .int .i64 a.aggrAs, .int .u32 a.aggrId, vc, vo], .int .i64 8] w (ValPost a 8 w) := by
  obtain ⟨⟨sp, cp, rfl, -⟩, ⟨sc, cc, rfl, hlc, hcm, hV⟩, ⟨so, co, rfl, -⟩⟩ := hA
  have HV := Lib.hid hV
  unfold maxLen at hcm
  clear hV
  go_enter Tryd.func33, Tryd.ntmps33
  go_upto_region 1 with (fail)
  obtain ⟨W0, hW0, q, hb0, -⟩ := boxA w (.int .i64 a.has) (.int .i64 a.origin) (.slice sp a.path.length cp) (.int .u32 a.hop) (.int .i64 a.med) (.int .i64 a.loc) (.int .i64 a.aggrAs) (.int .u32 a.aggrId) (.slice sc a.comms.length cc) (.slice so a.others.length co)
  rw [← hW0]
  clear hW0
  have B := Lib.hid hb0
  obtain ⟨y0, y1, y2, y3, y4, y5, y6, y7, y8, y9⟩ := at10 q
  clear q hb0 y0 y1 y2 y3 y4 y5 y6 y7 y9
  have N4 := Lib.hid (fun (v : Value) (xs : List Nat) (n : Int) (W : World) (h : OwnB W W0.heap.size v xs) (hb : W0.heap.size ≤ W.heap.size) (hx : xs.length ≤ 1099511627776) => at_num W0.heap.size v xs n 4 W h hb (by decide) hx)
  go_wp2_with fail
  go_loopw [84, 5] (fun i9 v5 wr => ∃ k : Nat, k ≤ a.comms.length ∧ i9 = .int .i64 k ∧ Hid (OwnB wr W0.heap.size v5 ((a.comms.take k).flatMap fun c => numB c 4)) ∧ Hid (Below W0.heap.size W0 wr)) (fun i9 _ _ => a.comms.length - (intOf i9).toNat)
  case atStart => exact ⟨0, by omega, rfl, Lib.hid (ownB_nil _ _), Lib.hid (Below.refl _ _)⟩
  case round =>
    obtain ⟨k, hk, rfl, O, BR⟩ := hrel
    by_cases hlt : k < a.comms.length
    · obtain ⟨c, hc⟩ : ∃ c, a.comms[k]? = some c := ⟨_, List.getElem?_eq_getElem hlt⟩
      obtain ⟨b1, off1, hsa, hP⟩ := HV.out (by omega)
      subst hsa
      have x0 := cell_below (cell_below (ints_one hP hc) B.out) BR.out
      have ST := Lib.hid (flat_take (fun c => numB c 4) hc)
      have LL := Nat.le_trans (flatM_len (fun c => numB c 4) 4 (a.comms.take k) (fun x _ => by rw [numB_len]; exact Nat.le_refl _)) (Nat.mul_le_mul_right 4 (List.length_take_le' k a.comms))
      have k0 : (0 : Int) ≤ (k : Int) := by omega
      have k1 : (k : Int) < (a.comms.length : Int) := by omega
      have SZ := BR.out.size
      clear hP hc
      have NC := Lib.hid (N4.out u5 _ c wr O.out SZ (by omega))
      clear LL SZ
      go_wp2_with fail
      refine NC.out.mono ?_
      rintro e w1 ⟨v1, rfl, o1, k1', -⟩
      have O1 : Hid (OwnB w1 W0.heap.size v1 ((a.comms.take (k + 1)).flatMap fun c => numB c 4)) := Lib.hid (by rw [ST.out]; exact o1)
      have B1 := Lib.hid (ownB_next BR.out O.out k1')
      clear o1 k1' NC x0
      go_wp2_with fail
      exact ⟨⟨k + 1, by omega, by go_num, O1, B1⟩, by simp [intOf]; omega⟩
    · obtain rfl : k = a.comms.length := by omega
      have O1 : Hid (OwnB wr W0.heap.size u5 (valL a 8)) := Lib.hid (by have := O.out; rw [List.take_length] at this; rw [show valL a 8 = a.comms.flatMap (fun c => numB c 4) from by simp [valL]]; exact this)
      clear O
      go_wp2_with fail
      go_ret
      have RB := below_on B.out BR.out
      have RO := ownB_base O1.out B.out.size
      exact ⟨u5, rfl, RO, RB⟩
set_option maxHeartbeats 3200000 in
set_option maxRecDepth 100000 in
theorem at_value_3 (a : At) (vp vc vo : Value) (w : World) (hA : AtL w a vp vc vo) (hr : a.Rng) :
    Calls Tryd.prog 33 #[.agg #[.int .i64 a.has, .int .i64 a.origin, vp, .int .u32 a.hop, .int .i64 a.med, .int .i64 a.loc, .int .i64 a.aggrAs, .int .u32 a.aggrId, vc, vo], .int .i64 3] w (ValPost a 3 w) := by
  obtain ⟨⟨sp, cp, rfl, -⟩, ⟨sc, cc, rfl, -⟩, ⟨so, co, rfl, -⟩⟩ := hA
  have h1 : (a.hop : Int) ≤ 4294967295 := by have := hr.2.2.1; omega
  have h0 : (0 : Int) ≤ (a.hop : Int) := by omega
  clear hr
  go_enter Tryd.func33, Tryd.ntmps33
  go_upto_region 1 with (fail)
  obtain ⟨W0, hW0, q, hb0, -⟩ := boxA w (.int .i64 a.has) (.int .i64 a.origin) (.slice sp a.path.length cp) (.int .u32 a.hop) (.int .i64 a.med) (.int .i64 a.loc) (.int .i64 a.aggrAs) (.int .u32 a.aggrId) (.slice sc a.comms.length cc) (.slice so a.others.length co)
  rw [← hW0]
  clear hW0
  have B := Lib.hid hb0
  obtain ⟨y0, y1, y2, y3, y4, y5, y6, y7, y8, y9⟩ := at10 q
  clear q hb0 y0 y1 y2 y4 y5 y6 y7 y8 y9
  have NC := Lib.hid (at_num W0.heap.size (.slice none 0 0) [] a.hop 4 W0 (ownB_nil _ _) (Nat.le_refl _) (by decide) (by decide))
  have E : Hid (valL a 3 = numB a.hop 4) := Lib.hid (by simp [valL])
  go_wp2_with fail
  refine NC.out.mono ?_
  rintro e w1 ⟨v1, rfl, o1, k1, -⟩
  rw [List.nil_append, ← E.out] at o1
  have O1 := Lib.hid o1
  have K1 := Lib.hid (ownB_next (Below.refl _ _) (ownB_nil W0 _) k1)
  clear o1 k1 y3 NC
  go_wp2_with fail
  go_ret
  have RB := below_on B.out K1.out
  have RO := ownB_base O1.out B.out.size
  exact ⟨v1, rfl, RO, RB⟩
set_option maxHeartbeats 3200000 in
set_option maxRecDepth 100000 in
theorem at_value_4 (a : At) (vp vc vo : Value) (w : World) (hA : AtL w a vp vc vo) :
    Calls Tryd.prog 33 #[.agg #[.int .i64 a.has, .int .i64 a.origin, vp, .int .u32 a.hop, .int .i64 a.med, .int .i64 a.loc, .int .i64 a.aggrAs, .int .u32 a.aggrId, vc, vo], .int .i64 4] w (ValPost a 4 w) := by
  obtain ⟨⟨sp, cp, rfl, -⟩, ⟨sc, cc, rfl, -⟩, ⟨so, co, rfl, -⟩⟩ := hA
  go_enter Tryd.func33, Tryd.ntmps33
  go_upto_region 1 with (fail)
  obtain ⟨W0, hW0, q, hb0, -⟩ := boxA w (.int .i64 a.has) (.int .i64 a.origin) (.slice sp a.path.length cp) (.int .u32 a.hop) (.int .i64 a.med) (.int .i64 a.loc) (.int .i64 a.aggrAs) (.int .u32 a.aggrId) (.slice sc a.comms.length cc) (.slice so a.others.length co)
  rw [← hW0]
  clear hW0
  have B := Lib.hid hb0
  obtain ⟨y0, y1, y2, y3, y4, y5, y6, y7, y8, y9⟩ := at10 q
  clear q hb0 y0 y1 y2 y3 y5 y6 y7 y8 y9
  have NC := Lib.hid (at_num W0.heap.size (.slice none 0 0) [] a.med 4 W0 (ownB_nil _ _) (Nat.le_refl _) (by decide) (by decide))
  have E : Hid (valL a 4 = numB a.med 4) := Lib.hid (by simp [valL])
  go_wp2_with fail
  refine NC.out.mono ?_
  rintro e w1 ⟨v1, rfl, o1, k1, -⟩
  rw [List.nil_append, ← E.out] at o1
  have O1 := Lib.hid o1
  have K1 := Lib.hid (ownB_next (Below.refl _ _) (ownB_nil W0 _) k1)
  clear o1 k1 y4 NC
  go_wp2_with fail
  go_ret
  have RB := below_on B.out K1.out
  have RO := ownB_base O1.out B.out.size
  exact ⟨v1, rfl, RO, RB⟩
set_option maxHeartbeats 3200000 in
set_option maxRecDepth 100000 in
theorem at_value_5 (a : At) (vp vc vo : Value) (w : World) (hA : AtL w a vp vc vo) :
    Calls Tryd.prog 33 #[.agg #[.int .i64 a.has, .int .i64 a.origin, vp, .int .u32 a.hop, .int .i64 a.med, .int .i64 a.loc, .int .i64 a.aggrAs, .int .u32 a.aggrId, vc, vo], .int .i64 5] w (ValPost a 5 w) := by
  obtain ⟨⟨sp, cp, rfl, -⟩, ⟨sc, cc, rfl, -⟩, ⟨so, co, rfl, -⟩⟩ := hA
  go_enter Tryd.func33, Tryd.ntmps33
  go_upto_region 1 with (fail)
  obtain ⟨W0, hW0, q, hb0, -⟩ := boxA w (.int .i64 a.has) (.int .i64 a.origin) (.slice sp a.path.length cp) (.int .u32 a.hop) (.int .i64 a.med) (.int .i64 a.loc) (.int .i64 a.aggrAs) (.int .u32 a.aggrId) (.slice sc a.comms.length cc) (.slice so a.others.length co)
  rw [← hW0]
  clear hW0
  have B := Lib.hid hb0
  obtain ⟨y0, y1, y2, y3, y4, y5, y6, y7, y8, y9⟩ := at10 q
  clear q hb0 y0 y1 y2 y3 y4 y6 y7 y8 y9
  have NC := Lib.hid (at_num W0.heap.size (.slice none 0 0) [] a.loc 4 W0 (ownB_nil _ _) (Nat.le_refl _) (by decide) (by decide))
  have E : Hid (valL a 5 = numB a.loc 4) := Lib.hid (by simp [valL])
  go_wp2_with fail
  refine NC.out.mono ?_
  rintro e w1 ⟨v1, rfl, o1, k1, -⟩
  rw [List.nil_append, ← E.out] at o1
  have O1 := Lib.hid o1
  have K1 := Lib.hid (ownB_next (Below.refl _ _) (ownB_nil W0 _) k1)
  clear o1 k1 y5 NC
  go_wp2_with fail
  go_ret
  have RB := below_on B.out K1.out
  have RO := ownB_base O1.out B.out.size
  exact ⟨v1, rfl, RO, RB⟩
set_option maxHeartbeats 3200000 in
set_option maxRecDepth 100000 in
theorem at_value_6 (a : At) (vp vc vo : Value) (w : World) (hA : AtL w a vp vc vo) :
    Calls Tryd.prog 33 #[.agg #[.int .i64 a.has, .int .i64 a.origin, vp, .int .u32 a.hop, .int .i64 a.med, .int .i64 a.loc, .int .i64 a.aggrAs, .int .u32 a.aggrId, vc, vo], .int .i64 6] w (ValPost a 6 w) := by
  obtain ⟨⟨sp, cp, rfl, -⟩, ⟨sc, cc, rfl, -⟩, ⟨so, co, rfl, -⟩⟩ := hA
  go_enter Tryd.func33, Tryd.ntmps33
  go_upto_region 1 with (fail)
  obtain ⟨W0, hW0, q, hb0, -⟩ := boxA w (.int .i64 a.has) (.int .i64 a.origin) (.slice sp a.path.length cp) (.int .u32 a.hop) (.int .i64 a.med) (.int .i64 a.loc) (.int .i64 a.aggrAs) (.int .u32 a.aggrId) (.slice sc a.comms.length cc) (.slice so a.others.length co)
  rw [← hW0]
  clear hW0
  have B := Lib.hid hb0
  clear q hb0
  have E : Hid (valL a 6 = []) := Lib.hid (by simp [valL])
  go_wp2_with fail
  go_ret
  exact ⟨.slice none 0 0, rfl, by rw [E.out]; exact ownB_nil _ _, B.out⟩
end Go.Proofs.YtohkbcdnlmjcjaaDoor

/-
  A STATEMENT THAT DRAWS ITS ORDER, WHERE TWO OPERATIONS THAT TOUCH MEMORY MAY COME UP; whole values stored.
-/
namespace Go.Proofs.YtohkbcdnlmjcjaaDoor
open Go.RowKit
section
variable {P : Program} {ops : Array Oper} {Q : Exit → Act → World → Prop} {md : Region.Mode} {S : World → Prop}
set_option maxRecDepth 100000 in
/-- two operations come up: each is carried out. -/
theorem rg_call2 {i j : Nat} {oi oj : Oper} {fuel : Nat} {listed : Array Bool} {a : Act} {w : World} (hi : ops[i]? = some oi) (hj : ops[j]? = some oj)
    (hr : Region.ready md ops listed = [i, j]) (hw : Region.wanted oi (yielded ops a.tmps) = true) (hv : Region.wanted oj (yielded ops a.tmps) = true)
    (h : ∀ K' : Act → World → Prop, Shut (∀ a w, S w → (S w → wpAnyH P md ops Q S fuel (listed.setIfInBounds i true) a w) → K' a w) → Oper.wp P oi a w K' Q)
    (h2 : ∀ K' : Act → World → Prop, Shut (∀ a w, S w → (S w → wpAnyH P md ops Q S fuel (listed.setIfInBounds j true) a w) → K' a w) → Oper.wp P oj a w K' Q) : wpAnyH P md ops Q S (fuel + 1) listed a w :=
  wpAnyH_ready (rs := [i, j]) hr (by simp) (AllReadyH.cons hi (fun K hK => by rw [if_pos hw]; exact h K hK) (AllReadyH.cons hj (fun K hK => by rw [if_pos hv]; exact h2 K hK) AllReadyH.nil))
end
set_option maxRecDepth 100000 in
/-- a whole value is stored where one lay. -/
theorem wp_store_rowat {P : Program} {o : Oper} {a : Act} {w : World} {K : Act → World → Prop} {Q : Exit → Act → World → Prop} (ty : TypeId) (x y : Operand) (ho : o.op = .store ty x y)
    (g : Nat) (hx : a.eval x = .pointer (some ⟨g, 0, none⟩)) (t : TypeId) (old cs : Array Value) (hy : a.eval y = .agg cs) (hg : w.heap[g]? = some (.cells old t (0, 0))) (hi : (P.info? ty).map (·.size) = some cs.size) (hs : old.size = cs.size) (h1 : cs.all (·.oneCell') = true)
    (h : K (a.put o.dst undef) (w.setRow g cs)) : o.wp P a w K Q := by
  unfold Oper.wp execOp
  simp only [ho, hx, hy, Instr.storeAt, Instr.sureAddr, Sem.run_bind, Sem.run_pure, Result.andThen_ok, run_storeVar_row w g t ty old cs hg hi hs h1]
  exact h
end Go.Proofs.YtohkbcdnlmjcjaaDoor
