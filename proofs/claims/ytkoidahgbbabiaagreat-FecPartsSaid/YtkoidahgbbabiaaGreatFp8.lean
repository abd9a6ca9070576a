/- Texts of one proof, one behind another. -/
import Derived.Test.YtkoidahgbbabiaaGreatFp4
import Derived.LoopTactic
import Derived.OwnWalk
import Derived.Deep.DeepCutAuto
import Derived.LoopN
import Derived.Lib.SliceRun
import Derived.Test.YtkoidahgbbabiaaGreatFp7
import Derived.Sort.Grow
import Derived.Test.YtkoidahgbbabiaaGreatFp5
import Derived.Test.YtkoidahgbbabiaaGreatFp1
import Derived.Deep.QuietTactic
import Derived.BigQuiet
import Derived.Deep.CutBlock
namespace Go.Proofs.YtkoidahgbbabiaaGreat
open Go.RowKit
def On (F : Nat → Prop) (w : World) (Q : World → Prop) : Prop := ∀ W : World, (∀ k, F k → k < w.heap.size → W.heap[k]? = w.heap[k]?) → Q W
theorem On.self {F : Nat → Prop} {w : World} {Q : World → Prop} (h : On F w Q) : Q w := h w fun _ _ _ => rfl
theorem On.wide {F G : Nat → Prop} {w : World} {Q : World → Prop} (h : On F w Q) (hFG : ∀ k, F k → k < w.heap.size → G k) : On G w Q := fun W hW => h W fun k hk hl => hW k (hFG k hk hl) hl
theorem On.imp {F : Nat → Prop} {w : World} {Q R : World → Prop} (h : On F w Q) (hQ : ∀ W, Q W → R W) : On F w R := fun W hW => hQ W (h W hW)
theorem On.and {F : Nat → Prop} {w : World} {Q R : World → Prop} (h : On F w Q) (k : On F w R) : On F w fun W => Q W ∧ R W := fun W hW => ⟨h W hW, k W hW⟩
theorem On.kept {F G : Nat → Prop} {w w' : World} {Q : World → Prop} (h : On F w Q) (hk : Kept G w w') (hne : ∀ k, k < w.heap.size → F k → ¬ G k) : On F w' Q := fun W hW =>
 h W fun k hF hl => (hW k hF (Nat.lt_of_lt_of_le hl hk.size)).trans (hk.block k hl (hne k hl hF))
theorem On.below {F : Nat → Prop} {w w' : World} {Q : World → Prop} (h : On F w Q) (hb : Below w.heap.size w w') : On F w' Q := h.kept (G := fun _ => False) (Kept.of_below hb) (fun _ _ _ h => h)
theorem own_on {w : World} {B k n : Nat} {e : TypeId} {v : Value} {xs : List Value} (h : w.ownsRow B e k v n xs) : On (fun b => v.ownBlock = some b) w fun W => W.ownsRow B e k v n xs := by
 intro W hW
 obtain ⟨h1, h2⟩ := h
 refine ⟨h1, h2.imp_right ?_⟩
 rintro ⟨g, cap, cur, rfl, h4, h5, h6⟩
 exact ⟨g, cap, cur, rfl, h4, (hW g rfl (jE h5)).trans h5, h6⟩
abbrev Fresh (lo : Nat) (w : World) (Q : World → Prop) : Prop := On (fun k => lo ≤ k) w Q
theorem own_fresh {w : World} {B k n : Nat} {e : TypeId} {v : Value} {xs : List Value} (h : w.ownsRow B e k v n xs) : Fresh B w fun W => W.ownsRow B e k v n xs := (own_on h).wide fun b hb _ => jJ h b hb
section
variable {α : Type} {k : Nat}
theorem rows_len {rows : List (List Value)} (h : ∀ r ∈ rows, r.length = k) : rows.flatten.length = rows.length * k := by
 induction rows with
 | nil => simp
 | cons x xs ih => rw [List.flatten_cons, List.length_append, ih (fun r hr => h r (List.mem_cons_of_mem _ hr)), h x (List.mem_cons_self ..), List.length_cons, Nat.succ_mul]; omega
theorem rows_get : ∀ {rows : List (List Value)}, (∀ r ∈ rows, r.length = k) → ∀ (i : Nat) (r : List Value), rows[i]? = some r → ∀ j, j < k → rows.flatten[i * k + j]? = r[j]?
 | [], _, i, x, h, _, _ => by simp at h
 | y :: xs, hk, 0, x, h, j, hj => by
  simp at h; subst h
  rw [List.flatten_cons, Nat.zero_mul, Nat.zero_add, List.getElem?_append_left (by rw [hk y (List.mem_cons_self ..)]; exact hj)]
 | y :: xs, hk, i + 1, x, h, j, hj => by
  have ih := rows_get (rows := xs) (fun r hr => hk r (List.mem_cons_of_mem _ hr)) i x (by simpa using h) j hj
  have hy := hk y (List.mem_cons_self ..)
  rw [List.flatten_cons, List.getElem?_append_right (by rw [hy, Nat.succ_mul]; omega), hy, ← ih]
  congr 1
  rw [Nat.succ_mul]; omega
theorem rows_set {rows : List (List Value)} (h : ∀ r ∈ rows, r.length = k) {i : Nat} {r : List Value} (hr : rows[i]? = some r) {j : Nat} (hj : j < k) (u : Value) : (rows.set i (r.set j u)).flatten = rows.flatten.set (i * k + j) u := by
 induction rows generalizing i with
 | nil => simp at hr
 | cons x xs ih =>
  cases i with
  | zero =>
   simp at hr; subst hr
   have hx := h x (List.mem_cons_self ..)
   rw [List.set_cons_zero, List.flatten_cons, List.flatten_cons, Nat.zero_mul, Nat.zero_add, List.set_append_left _ _ (by omega)]
  | succ i =>
   have hx := h x (List.mem_cons_self ..)
   rw [List.set_cons_succ, List.flatten_cons, List.flatten_cons, ih (fun r hr => h r (List.mem_cons_of_mem _ hr)) (by simpa using hr), List.set_append_right _ _ (by rw [hx, Nat.succ_mul]; omega)]
   congr 2
   rw [hx, Nat.succ_mul]; omega
theorem slat_rows {w : World} {R : α → List Value → Prop} {v : Value} {xs : List α} (h : SlAt w k R v xs) : ∃ (sa : Option Addr) (cap : Nat) (rows : List (List Value)), v = .slice sa xs.length cap ∧ xs.length ≤ cap ∧ cap ≤ maxLen ∧ rows.length = xs.length ∧ (∀ r ∈ rows, r.length = k) ∧
  (∀ (i : Nat) (x : α), xs[i]? = some x → ∃ cs, rows[i]? = some cs ∧ R x cs) ∧ (0 < xs.length → ∃ b off, sa = some ⟨b, off, none⟩ ∧ ∀ q u, rows.flatten[q]? = some u → w.cell? ⟨b, off + q, none⟩ = some u) := by
 obtain ⟨sa, cap, h1, h2, h3, h4⟩ := h
 by_cases h0 : 0 < xs.length
 ·obtain ⟨b, off, h5, h6⟩ := h4 h0
  have hone : ∀ i : Fin xs.length, ∃ cs : List Value, cs.length = k ∧ R xs[i] cs ∧ ∀ (j : Nat) (c : Value), cs[j]? = some c → w.cell? ⟨b, off + i * k + j, none⟩ = some c := fun i => h6 i.val _ (List.getElem?_eq_getElem i.isLt)
  obtain ⟨g, hg⟩ := Classical.axiomOfChoice hone
  have hk : ∀ r ∈ List.ofFn g, r.length = k := fun r hr => by
   obtain ⟨i, rfl⟩ := List.mem_ofFn.1 hr
   exact (hg i).1
  refine ⟨sa, cap, List.ofFn g, h1, h2, h3, by simp, hk, fun i x hx => ?_, fun _ => ⟨b, off, h5, fun q u hq => ?_⟩⟩
  ·obtain ⟨hi, rfl⟩ := List.getElem?_eq_some_iff.1 hx
   exact ⟨g ⟨i, hi⟩, by rw [List.getElem?_ofFn]; simp [hi], (hg ⟨i, hi⟩).2.1⟩
  ·by_cases hk0 : 0 < k
   ·have hql := (List.getElem?_eq_some_iff.1 hq).1
    rw [rows_len hk, List.length_ofFn] at hql
    have hi : q / k < xs.length := Nat.div_lt_of_lt_mul (by rw [Nat.mul_comm]; exact hql)
    have hj := Nat.mod_lt q hk0
    have e : q = q / k * k + q % k := by rw [Nat.mul_comm]; exact (Nat.div_add_mod q k).symm
    have hget : (List.ofFn g)[q / k]? = some (g ⟨q / k, hi⟩) := by rw [List.getElem?_ofFn]; simp [hi]
    have := rows_get hk (q / k) _ hget (q % k) hj
    rw [← e, hq] at this
    have := (hg ⟨q / k, hi⟩).2.2 (q % k) u this.symm
    simp only at this
    rw [Nat.add_assoc, ← e] at this
    exact this
   ·have hql := (List.getElem?_eq_some_iff.1 hq).1
    rw [rows_len hk] at hql
    have : k = 0 := by omega
    subst this
    simp at hql
 ·have : xs = [] := List.length_eq_zero_iff.1 (by omega)
  subst this
  exact ⟨sa, cap, [], h1, h2, h3, rfl, fun r hr => by simp at hr, fun i x hx => by simp at hx, fun h => absurd h h0⟩
theorem own_rows {w : World} {B : Nat} {e : TypeId} {v : Value} {xs : List α} {rows : List (List Value)} {R : α → List Value → Prop} (h : w.ownsRow B e k v xs.length rows.flatten) (hk : ∀ r ∈ rows, r.length = k)
  (hR : ∀ (i : Nat) (x : α), xs[i]? = some x → ∃ cs, rows[i]? = some cs ∧ R x cs) : SlAt w k R v xs := by
 obtain ⟨_, ⟨rfl, h0⟩ | ⟨g, cap, cur, rfl, _, hg, hn, hm, _, hcur⟩⟩ := h
 ·obtain rfl := List.length_eq_zero_iff.1 h0
  exact SlAt.nil
 ·refine ⟨some ⟨g, 0, none⟩, cap, rfl, hn, hm, fun _ => ⟨g, 0, rfl, fun i x hx => ?_⟩⟩
  obtain ⟨cs, hcs, hr⟩ := hR i x hx
  have hl := hk cs (List.mem_of_getElem? hcs)
  refine ⟨cs, hl, hr, fun j c hc => ?_⟩
  have hj : j < k := by rw [← hl]; exact (List.getElem?_eq_some_iff.1 hc).1
  have hi : i < xs.length := (List.getElem?_eq_some_iff.1 hx).1
  have hf := rows_get hk i cs hcs j hj
  rw [← hcur, hc, List.getElem?_take_of_lt (by
   have : (i + 1) * k ≤ xs.length * k := Nat.mul_le_mul_right _ hi
   rw [Nat.succ_mul] at this; omega)] at hf
  rw [jB hg, Nat.zero_add]
  simpa using hf
theorem own_set {w : World} {B n : Nat} {e : TypeId} {v : Value} {xs : List Value} {g c : Nat} (h : w.ownsRow B e k v n xs) (hv : v = .slice (some ⟨g, 0, none⟩) n c) (j : Nat) (u : Value) :
  (w.setCell ⟨g, j, none⟩ u).ownsRow B e k v n (xs.set j u) := by
 obtain ⟨h1, ⟨rfl, _⟩ | ⟨g', cap, cur, rfl, hB, hg, hn, hm, hsz, hcur⟩⟩ := h
 ·cases hv
 ·injection hv with hv _ _
  injection hv with hv
  injection hv with hv
  subst hv
  refine ⟨by simp [h1], .inr ⟨_, cap, cur.setIfInBounds j u, rfl, hB, jO hg j u, hn, hm, by simp [hsz], ?_⟩⟩
  rw [← hcur, Array.toList_setIfInBounds, List.take_set]
theorem own_row_cell {w : World} {B n : Nat} {e : TypeId} {v : Value} {xs : List Value} {g c : Nat} (h : w.ownsRow B e k v n xs) (hv : v = .slice (some ⟨g, 0, none⟩) n c) {j : Nat} {u : Value} (hj : xs[j]? = some u) :
  w.cell? ⟨g, j, none⟩ = some u ∧ w.frozen? ⟨g, j, none⟩ = false ∧ B ≤ g ∧ g < w.heap.size := by
 obtain ⟨h1, ⟨rfl, _⟩ | ⟨g', cap, cur, rfl, hB, hg, hn, hm, hsz, hcur⟩⟩ := h
 ·cases hv
 ·injection hv with hv _ _
  injection hv with hv
  injection hv with hv
  subst hv
  refine ⟨?_, jN hg j, hB, jE hg⟩
  have hl := (List.getElem?_eq_some_iff.1 hj).1
  rw [h1] at hl
  rw [← hcur, List.getElem?_take_of_lt hl] at hj
  rw [jB hg]
  simpa using hj
theorem own_slice {w : World} {B n : Nat} {e : TypeId} {v : Value} {xs : List Value} (h : w.ownsRow B e k v n xs) : (v = .slice none 0 0 ∧ n = 0) ∨ ∃ g c, v = .slice (some ⟨g, 0, none⟩) n c := by
 obtain ⟨_, h | ⟨g, cap, cur, rfl, _⟩⟩ := h
 ·exact .inl h
 ·exact .inr ⟨g, cap, rfl⟩
end
open Go.RowKit
def encP (p : Pf) : List Value := [.int .u32 p.1, .int .i64 p.2]
theorem encP_len (p : Pf) : (encP p).length = 2 := rfl
theorem encP_one (p : Pf) : ∀ u ∈ encP p, u.oneCell' = true := by
 intro u hu
 unfold encP at hu
 rcases List.mem_cons.1 hu with rfl | hu
 ·rfl
 ·rcases List.mem_cons.1 hu with rfl | hu
  ·rfl
  ·simp at hu
def OkP (p : Pf) : Prop := 0 ≤ p.1 ∧ p.1 < 4294967296
def PfC (p : Pf) (cs : List Value) : Prop := cs = encP p ∧ OkP p
abbrev PsAt (w : World) (v : Value) (xs : List Pf) : Prop := SlAt w 2 PfC v xs
theorem PsAt.below {w w' : World} {v : Value} {xs : List Pf} (h : PsAt w v xs) (hb : Below w.heap.size w w') : PsAt w' v xs := SlAt.below h hb fun _ _ h => h
theorem ps_ok {w : World} {v : Value} {xs : List Pf} (h : PsAt w v xs) : ∀ p ∈ xs, OkP p := by
 intro p hp
 obtain ⟨sa, cap, -, -, -, h4⟩ := h
 obtain ⟨i, hi⟩ := List.mem_iff_getElem?.1 hp
 obtain ⟨b, off, -, h6⟩ := h4 (by have := (List.getElem?_eq_some_iff.1 hi).1; omega)
 obtain ⟨cs, -, ⟨-, h⟩, -⟩ := h6 i p hi
 exact h
theorem ps_two {w : World} {xs : List Pf} {b off : Nat} (h : ∀ (i : Nat) (x : Pf), xs[i]? = some x → ∃ cs : List Value, cs.length = 2 ∧ PfC x cs ∧ ∀ (j : Nat) (c : Value), cs[j]? = some c → w.cell? ⟨b, off + i * 2 + j, none⟩ = some c)
  {i : Nat} {x : Pf} (hx : xs[i]? = some x) : w.cell? ⟨b, off + i * 2, none⟩ = some (.int .u32 x.1) ∧ w.cell? ⟨b, off + i * 2 + 1, none⟩ = some (.int .i64 x.2) := by
 obtain ⟨cs, -, ⟨rfl, -⟩, hc⟩ := h i x hx
 exact ⟨hc 0 _ rfl, hc 1 _ rfl⟩
theorem ps_len {w : World} {v : Value} {xs : List Pf} (h : PsAt w v xs) : xs.length ≤ maxLen := by
 obtain ⟨sa, cap, -, h2, h3, -⟩ := h
 omega
structure Dr (w w' : World) : Prop where
 below : Below w.heap.size w w'
 drawn : w.drawn ≤ w'.drawn
theorem Dr.refl (w : World) : Dr w w := ⟨Below.refl _ _, Nat.le_refl _⟩
theorem Dr.on {w w1 w2 : World} (h : Dr w w1) (k : Dr w1 w2) : Dr w w2 := ⟨jC h.below k.below, Nat.le_trans h.drawn k.drawn⟩
theorem Dr.drew (w : World) : Dr w w.drew := ⟨(Below.refl _ _).drew, Nat.le_succ _⟩
theorem Dr.alloc {w w1 : World} (h : Dr w w1) (o : Obj) : Dr w (w1.alloc o) := ⟨h.below.alloc h.below.size o, h.drawn⟩
theorem Dr.grow {w w' : World} (h : Dr w w') : ∃ q os, w' = Sort.grow (w.drewN q) os := by
 obtain ⟨⟨h1, h2, h3, h4, h5⟩, h6⟩ := h
 refine ⟨w'.drawn - w.drawn, w'.heap.extract w.heap.size w'.heap.size, ?_⟩
 have e : w'.heap = w.heap ++ w'.heap.extract w.heap.size w'.heap.size := by
  apply Array.ext_getElem?
  intro i
  by_cases hi : i < w.heap.size
  ·rw [h5 i hi, Array.getElem?_append_left hi]
  ·rw [Array.getElem?_append_right (by omega), Array.getElem?_extract]
   split
   ·congr 1; omega
   ·rw [Array.getElem?_eq_none (by omega)]
 cases w'
 cases w
 simp only at h1 h2 h3 h4 h6 e
 subst h1; subst h2; subst h3
 unfold Sort.grow
 rw [World.drewN]
 simp only [World.mk.injEq, true_and, and_true]
 exact ⟨e, by omega⟩
theorem calls_dr {P : Program} {f : FuncId} {args : Array Value} {w : World} {E : Ending → Prop} (h : Calls P f args w fun e w' => E e ∧ w = w') : Calls P f args w fun e w' => E e ∧ Dr w w' := h.mono fun _ _ ⟨a, b⟩ => ⟨a, b ▸ Dr.refl _⟩
set_option maxHeartbeats 400000 in
theorem ip_CmpD (a n b m : Int) (w : World) :
  Calls Tryz.prog 22 #[.agg #[.int .u32 a, .int .i64 n], .agg #[.int .u32 b, .int .i64 m]] w fun e w' => e = .returned (.int .i64 (prefCmp a n b m)) ∧ Dr w w' := by
 go_enter Tryz.func22, Tryz.ntmps22
 go_wp2_with fail
 obtain ⟨W0, hW0, c0, c1, d0, d1, -⟩ := box22 w (.int .u32 a) (.int .i64 n) (.int .u32 b) (.int .i64 m) 53 53
 have hB : Dr w W0 := by rw [hW0]; exact ((Dr.refl _).alloc _).alloc _
 rw [← hW0]; clear hW0
 refine wp_region_held_drew (S := fun w' => Dr W0 w') (by kernel_rfl) ?_ (fun hHeld => ?_)
 ·exact Dr.drew _
 refine qy 0 ?_ ?_ ?_ hHeld ?_; rotate_left 1; (· rfl); (· intro w' hSw; (try dsimp only at hSw); (try clear hHeld); go_simp; try with_reducible rfl)
 try simp only [jz]
 refine qy 1 ?_ ?_ ?_ hHeld ?_; rotate_left 1; (· rfl); (· intro w' hSw; (try dsimp only at hSw); have c0 := jA c0 hSw.below; have c1 := jA c1 hSw.below; have d0 := jA d0 hSw.below; have d1 := jA d1 hSw.below; (try clear hHeld); go_simp; try with_reducible rfl)
 try simp only [jz]
 refine qy 2 ?_ ?_ ?_ hHeld ?_; rotate_left 1; (· rfl); (· intro w' hSw; (try dsimp only at hSw); (try clear hHeld); go_simp; try with_reducible rfl)
 try simp only [jz]
 refine qy 3 ?_ ?_ ?_ hHeld ?_; rotate_left 1; (· rfl); (· intro w' hSw; (try dsimp only at hSw); have c0 := jA c0 hSw.below; have c1 := jA c1 hSw.below; have d0 := jA d0 hSw.below; have d1 := jA d1 hSw.below; (try clear hHeld); go_simp; try with_reducible rfl)
 try simp only [jz]
 refine qy 5 ?_ ?_ ?_ hHeld ?_; rotate_left 1; (· rfl); (· intro w' hSw; (try dsimp only at hSw); (try clear hHeld); go_simp; try with_reducible rfl)
 try simp only [jz]
 refine qy 6 ?_ ?_ ?_ hHeld ?_; rotate_left 1; (· rfl); (· intro w' hSw; (try dsimp only at hSw); have c0 := jA c0 hSw.below; have c1 := jA c1 hSw.below; have d0 := jA d0 hSw.below; have d1 := jA d1 hSw.below; (try clear hHeld); go_simp; try with_reducible rfl)
 try simp only [jz]
 refine qy 7 ?_ ?_ ?_ hHeld ?_; rotate_left 1; (· rfl); (· intro w' hSw; (try dsimp only at hSw); (try clear hHeld); go_simp; try with_reducible rfl)
 try simp only [jz]
 refine qy 8 ?_ ?_ ?_ hHeld ?_; rotate_left 1; (· rfl); (· intro w' hSw; (try dsimp only at hSw); have c0 := jA c0 hSw.below; have c1 := jA c1 hSw.below; have d0 := jA d0 hSw.below; have d1 := jA d1 hSw.below; (try clear hHeld); go_simp; try with_reducible rfl)
 try simp only [jz]
 refine jr 4 ?_ fun K hK => ?_; (· rfl); (try clear hb); go_simp; (refine (calls_dr (cmp_CompareAddr a b _)).mono ?_; rintro e w1 ⟨rfl, hb⟩); go_wp2_with fail; refine hK.out _ _ ?_ (fun hHeld => ?_); (· first | exact hHeld.on hb | exact hHeld.alloc _); clear hK K
 try simp only [jz]
 refine jr 9 ?_ fun K hK => ?_; (· rfl); (try clear hb); go_simp; (refine (calls_dr (cmp_CompareInt n m _)).mono ?_; rintro e w1 ⟨rfl, hb⟩); go_wp2_with fail; refine hK.out _ _ ?_ (fun hHeld => ?_); (· first | exact hHeld.on hb | exact hHeld.alloc _); clear hK K
 try simp only [jz]
 refine jr 10 ?_ fun K hK => ?_; (· rfl); (try clear hb); go_simp; go_wp2_with fail; refine hK.out _ _ ?_ (fun hHeld => ?_); (· first | exact hHeld.on hb | exact hHeld.alloc _); clear hK K
 try simp only [jz]
 refine jr 11 ?_ fun K hK => ?_; (· rfl); (try clear hb); go_simp; (refine (calls_dr (cmp_OrInt2 _ 2 (cmpI a b) (cmpI n m) _ (by simp) (by simp))).mono ?_; rintro e w1 ⟨rfl, hb⟩); go_wp2_with fail; refine hK.out _ _ ?_ (fun hHeld => ?_); (· first | exact hHeld.on hb | exact hHeld.alloc _); clear hK K
 try simp only [jz]
 refine qy 12 ?_ ?_ ?_ hHeld ?_; rotate_left 1; (· rfl); (· intro w' hSw; (try dsimp only at hSw); (try clear hHeld); go_simp; try with_reducible rfl)
 try simp only [jz]
 refine wpAnyH_done (by kernel_rfl) ?_ _
 have hB' := hB.on hHeld
 clear hHeld hb
 go_wp2
 go_ret
 exact ⟨jU rfl, hB'⟩
theorem ps_Cmp (p q : Pf) (w : World) : Calls Tryz.prog 22 #[.agg #[.int .u32 p.1, .int .i64 p.2], .agg #[.int .u32 q.1, .int .i64 q.2]] w fun e w' => e = .returned (.int .i64 (pcmp p q)) ∧ Below w.heap.size w w' := ip_Cmp _ _ _ _ _
open Go.RowKit
theorem info_pref : (Tryz.prog.info? 53).map (fun i => (i.zero, i.size, i.bytes)) = some (some (.agg #[.int .u32 0, .int .i64 0]), 2, 16) := by kernel_rfl
set_option maxHeartbeats 1600000 in
set_option maxRecDepth 100000 in
theorem sl_ClonePf (sa : Option Addr) (n cap : Nat) (cs : List Value) (w : World) (hl : cs.length = n * 2) (hn : n ≤ maxLen) (hc : 0 < n → ∃ b off, sa = some ⟨b, off, none⟩ ∧ ∀ q u, cs[q]? = some u → w.cell? ⟨b, off + q, none⟩ = some u)
  (h1 : ∀ u ∈ cs, u.oneCell' = true) (hb : n * 16 ≤ 140737488351232) : Calls Tryz.prog 95 #[.slice sa n cap] w fun e w' => ∃ v', e = .returned v' ∧ w'.ownsRow w.heap.size 53 2 v' n cs ∧ Below w.heap.size w w' := by
 obtain ⟨i0, hii, hz0, hz1, hz2⟩ := info_parts info_pref
 have HC := jh hc
 have HL := jh hl
 have H1 := jh h1
 unfold maxLen at hn
 clear hc hl h1
 go_enter Tryz.func95, Tryz.ntmps95
 cases sa with
 | none =>
  obtain rfl : n = 0 := by
   by_cases h0 : 0 < n
   ·obtain ⟨b, off, h, _⟩ := HC.out h0
    cases h
   ·omega
  obtain rfl : cs = [] := List.length_eq_zero_iff.1 (by have := HL.out; omega)
  have EQ := Lib.run_eql_slice_nil (P := Tryz.prog) w 23 53 none 0 cap 0 0 Tryz.underlying23
  simp only [Option.isNone_none] at EQ
  go_wp2_with fail
  go_ret
  exact ⟨_, rfl, ⟨by simp, .inl ⟨rfl, rfl⟩⟩, Below.refl _ _⟩
 | some a =>
  have CC : Hid (∀ q u, cs[q]? = some u → w.cell? (a.add q) = some u) := jh (by
   intro q u hq
   by_cases h0 : 0 < n
   ·obtain ⟨b, off, h, h2⟩ := HC.out h0
    injection h with h
    subst h
    have e : (⟨b, off, none⟩ : Addr).add q = ⟨b, off + q, none⟩ := by
     unfold Addr.add
     split
     ·next h => rw [h]; simp
     ·rfl
    rw [e]
    exact h2 q u hq
   ·have := (List.getElem?_eq_some_iff.1 hq).1
    rw [HL.out] at this
    have : n = 0 := by omega
    subst this
    omega)
  clear HC
  have OE := jh (own_empty (w := w) (B := w.heap.size) (e := 53) (k := 2) (Nat.le_refl _))
  have EQ := Lib.run_eql_slice_nil (P := Tryz.prog) w 23 53 (some a) n cap 0 0 Tryz.underlying23
  simp only [Option.isNone_some] at EQ
  go_wp2_with (at_builtin; refine wpList_append_own _ rfl _ _ 23 rfl w.heap.size 53 i0 _ 2 16 Tryz.underlying23 hii hz0 hz1 hz2 rfl (by decide) _ 0 [] rfl OE.out a n cap cs rfl HL.out (fun q u hq => jA (CC.out q u hq) ((Below.refl _ _).alloc (Nat.le_refl _) _)) H1.out (by unfold maxLen; omega) (by omega) (by simp) ?_)
  intro v' w' hown hgrow _
  have OW : Hid (w'.ownsRow w.heap.size 53 2 v' n cs) := jh (by simpa using hown)
  have BW : Hid (Below w.heap.size w w') := jh (((Below.refl _ _).alloc (Nat.le_refl _) _).grown hgrow (by simp) (fun g hg => by cases hg; exact Nat.le_refl _))
  clear hown hgrow
  go_wp2_with fail
  go_ret
  exact ⟨_, rfl, OW.out, BW.out⟩
def OwnPs (w : World) (B : Nat) (v : Value) (xs : List Pf) : Prop := w.ownsRow B 53 2 v xs.length (xs.flatMap encP) ∧ ∀ p ∈ xs, OkP p
theorem OwnPs.at {w : World} {B : Nat} {v : Value} {xs : List Pf} (h : OwnPs w B v xs) : PsAt w v xs := (own_slat encP_len h.1).imp fun _ _ hx hc => ⟨hc, h.2 _ hx⟩
theorem OwnPs.below {w w' : World} {B : Nat} {v : Value} {xs : List Pf} (h : OwnPs w B v xs) (hb : Below w.heap.size w w') : OwnPs w' B v xs := ⟨jQ h.1 hb, h.2⟩
theorem ps_Clone (v : Value) (xs : List Pf) (w : World) (h : PsAt w v xs) (hb : xs.length * 16 ≤ 140737488351232) :
  Calls Tryz.prog 95 #[v] w fun e w' => ∃ v', e = .returned v' ∧ OwnPs w' w.heap.size v' xs ∧ Below w.heap.size w w' := by
 have hok := ps_ok h
 obtain ⟨sa, cap, rfl, h2, h3, h4⟩ := h
 refine (sl_ClonePf sa xs.length cap (xs.flatMap encP) w (jX encP_len xs) (by omega) (fun h0 => ?_) (flat_one encP_one xs) hb).mono ?_
 ·obtain ⟨b, off, h5, h6⟩ := h4 h0
  refine ⟨b, off, h5, fun q u hq => ?_⟩
  have hql := (List.getElem?_eq_some_iff.1 hq).1
  rw [jX encP_len] at hql
  have hi : q / 2 < xs.length := by omega
  have hf := flat_get encP_len xs (q / 2) _ (List.getElem?_eq_getElem hi) (q % 2) (by omega)
  have e : q / 2 * 2 + q % 2 = q := by omega
  rw [e, hq] at hf
  obtain ⟨cs, -, ⟨rfl, -⟩, hc⟩ := h6 (q / 2) _ (List.getElem?_eq_getElem hi)
  have := hc (q % 2) u hf.symm
  rw [Nat.add_assoc, e] at this
  exact this
 ·rintro e w' ⟨v', rfl, ho, hb⟩
  exact ⟨v', rfl, ⟨ho, hok⟩, hb⟩
def BsPost (xs : List Pf) (p : Pf) (w : World) (e : Ending) (w' : World) : Prop := ∃ i : Nat, e = .returned (.tuple #[.int .i64 i, .bool (decide (p ∈ xs))]) ∧ i ≤ xs.length ∧ (p ∈ xs → xs[i]? = some p) ∧ Below w.heap.size w w'
def Lows (xs : List Pf) (p : Pf) (i j : Nat) : Prop := (∀ (k : Nat) (x : Pf), k < i → xs[k]? = some x → plt x p) ∧ ∀ (k : Nat) (x : Pf), j ≤ k → xs[k]? = some x → ¬ plt x p
theorem lows_start (xs : List Pf) (p : Pf) : Lows xs p 0 xs.length := ⟨fun k x h => by omega, fun k x h hx => by have := (List.getElem?_eq_some_iff.1 hx).1; omega⟩
theorem lows_up {xs : List Pf} {p x : Pf} {i j h : Nat} (hs : Srt xs) (hL : Lows xs p i j) (hx : xs[h]? = some x) (hlt : plt x p) : Lows xs p (h + 1) j := by
 refine ⟨fun k y hk hy => ?_, hL.2⟩
 by_cases e : k = h
 ·subst e; rw [hx] at hy; obtain rfl := Option.some.inj hy; exact hlt
 ·exact plt_trans (srt_lt hs hy hx (by omega)) hlt
theorem lows_down {xs : List Pf} {p x : Pf} {i j h : Nat} (hs : Srt xs) (hL : Lows xs p i j) (hx : xs[h]? = some x) (hlt : ¬ plt x p) : Lows xs p i h := by
 refine ⟨hL.1, fun k y hk hy => ?_⟩
 by_cases e : k = h
 ·subst e; rw [hx] at hy; obtain rfl := Option.some.inj hy; exact hlt
 ·exact fun h2 => hlt (plt_trans (srt_lt hs hx hy (by omega)) h2)
theorem lows_not {xs : List Pf} {p x : Pf} {i : Nat} (hs : Srt xs) (hL : Lows xs p i i) (hx : xs[i]? = some x) (hne : x ≠ p) : p ∉ xs := by
 intro hp
 obtain ⟨k, hk⟩ := List.mem_iff_getElem?.1 hp
 by_cases h1 : k < i
 ·exact plt_irrefl _ (hL.1 k p h1 hk)
 ·by_cases e : k = i
  ·subst e; rw [hx] at hk; exact hne (Option.some.inj hk)
  ·exact hL.2 i x (Nat.le_refl _) hx (srt_lt hs hx hk (by omega))
theorem lows_over {xs : List Pf} {p : Pf} (hL : Lows xs p xs.length xs.length) : p ∉ xs := by
 intro hp
 obtain ⟨k, hk⟩ := List.mem_iff_getElem?.1 hp
 exact plt_irrefl _ (hL.1 k p (List.getElem?_eq_some_iff.1 hk).1 hk)
set_option maxHeartbeats 3200000 in
set_option maxRecDepth 100000 in
theorem ps_Search (v : Value) (xs : List Pf) (p : Pf) (w : World) (h : PsAt w v xs) (hs : Srt xs) :
  Calls Tryz.prog 98 #[v, .agg #[.int .u32 p.1, .int .i64 p.2], .func (.func 22) #[] #[]] w (BsPost xs p w) := by
 obtain ⟨sa, cap, rfl, hlc, hcm, hV⟩ := h
 have HV := jh hV
 have HS := jh hs
 unfold maxLen at hcm
 clear hV hs
 go_enter Tryz.func98, Tryz.ntmps98
 go_wp2_with fail
 obtain ⟨W0, hW0, c0, c1, hB⟩ := box2 w (.int .u32 p.1) (.int .i64 p.2) 53
 rw [← hW0]
 clear hW0
 have C0 := jh c0
 have C1 := jh c1
 have L0 := jh (lows_start xs p)
 clear c0 c1
 go_loopw [9, 10] (fun i j wr => ∃ a b : Nat, a ≤ b ∧ b ≤ xs.length ∧ i = .int .i64 a ∧ j = .int .i64 b ∧ Hid (Lows xs p a b) ∧ Hid (Below W0.heap.size W0 wr)) (fun i j _ => (intOf j).toNat - (intOf i).toNat)
 case atStart => exact ⟨0, xs.length, by omega, by omega, rfl, rfl, L0, jh (Below.refl _ _)⟩
 case round =>
  obtain ⟨a, b, hab, hbl, rfl, rfl, L, B⟩ := hrel
  by_cases hlt : a < b
  ·have j0 : decide ((a : Int) < (b : Int)) = true := by simpa using hlt
   have eh : wrap64 (IntKind.u64.wrap (wrap64 ((a : Int) + (b : Int))) / 2) = ((((a + b) / 2 : Nat)) : Int) := by
    have e2 : IntKind.u64.wrap (wrap64 ((a : Int) + (b : Int))) = (a : Int) + b := by
     simp [IntKind.wrap, IntKind.bits, IntKind.signed, wrap64]
     omega
    rw [e2]
    unfold wrap64; omega
   have EH := jh eh
   clear eh
   go_wp2_with fail
   rw [EH.out]
   obtain ⟨m, hm⟩ : ∃ m, (a + b) / 2 = m := ⟨_, rfl⟩
   rw [hm]
   have m0 : a ≤ m := by omega
   have m1 : m < b := by omega
   clear hm EH
   obtain ⟨x, hx⟩ : ∃ x, xs[m]? = some x := ⟨_, List.getElem?_eq_getElem (by omega)⟩
   obtain ⟨bb, off, hsa, hP⟩ := HV.out (by omega)
   subst hsa
   obtain ⟨x0, x1⟩ := ps_two hP hx
   have x0 := (B.out.cell (jH (jA x0 hB))).trans (jA x0 hB)
   have x1 := (B.out.cell (jH (jA x1 hB))).trans (jA x1 hB)
   have c0 := (B.out.cell (jH C0.out)).trans C0.out
   have c1 := (B.out.cell (jH C1.out)).trans C1.out
   have n0 : (0 : Int) ≤ (m : Int) := by omega
   have n1 : (m : Int) < (xs.length : Int) := by omega
   have HX := jh hx
   clear hP hx
   have PC := jh (fun (W : World) => ps_Cmp x p W)
   by_cases hp : plt x p
   ·have PB : Hid (decide (pcmp x p < 0) = true) := jh (by simpa using pcmp_lt.2 hp)
    have L2 := jh (lows_up HS.out L.out HX.out hp)
    generalize pcmp x p = c at PC PB
    have hpb := PB.out
    clear PB hp
    refine wp_region_held_drew (S := fun w' => Below wr.heap.size wr w') (by kernel_rfl) ?_ (fun hHeld => ?_)
    ·exact (Below.refl _ _).drew
    refine qy 0 ?_ ?_ ?_ hHeld ?_; rotate_left 1; (· rfl); (· intro w' hSw; (try dsimp only at hSw); (try clear hHeld); go_simp; try with_reducible rfl)
    try simp only [jz]
    refine qy 1 ?_ ?_ ?_ hHeld ?_; rotate_left 1; (· rfl); (· intro w' hSw; (try dsimp only at hSw); (try clear hHeld); go_simp; try with_reducible rfl)
    try simp only [jz]
    refine qy 2 ?_ ?_ ?_ hHeld ?_; rotate_left 1; (· rfl); (· intro w' hSw; (try dsimp only at hSw); (try clear hHeld); go_simp; try with_reducible rfl)
    try simp only [jz]
    refine qy 3 ?_ ?_ ?_ hHeld ?_; rotate_left 1; (· rfl); (· intro w' hSw; (try dsimp only at hSw); have x0 := jA x0 hSw; have x1 := jA x1 hSw; have c0 := jA c0 hSw; have c1 := jA c1 hSw; (try clear hHeld); go_simp; try with_reducible rfl)
    try simp only [jz]
    refine qy 4 ?_ ?_ ?_ hHeld ?_; rotate_left 1; (· rfl); (· intro w' hSw; (try dsimp only at hSw); have x0 := jA x0 hSw; have x1 := jA x1 hSw; have c0 := jA c0 hSw; have c1 := jA c1 hSw; (try clear hHeld); go_simp; try with_reducible rfl)
    try simp only [jz]
    refine qy 5 ?_ ?_ ?_ hHeld ?_; rotate_left 1; (· rfl); (· intro w' hSw; (try dsimp only at hSw); have x0 := jA x0 hSw; have x1 := jA x1 hSw; have c0 := jA c0 hSw; have c1 := jA c1 hSw; (try clear hHeld); go_simp; try with_reducible rfl)
    try simp only [jz]
    refine jr 6 ?_ fun K hK => ?_; (· rfl); (try clear hb); go_simp; (refine (PC.out _).mono ?_; rintro e w1 ⟨rfl, hb⟩); go_wp2_with fail; refine hK.out _ _ ?_ (fun hHeld => ?_); (· exact hHeld.trans (hb.mono hHeld.size)); clear hK K
    try simp only [jz]
    refine qy 7 ?_ ?_ ?_ hHeld ?_; rotate_left 1; (· rfl); (· intro w' hSw; (try dsimp only at hSw); (try clear hHeld); go_simp; try with_reducible rfl)
    try simp only [jz]
    refine wpAnyH_done (by kernel_rfl) ?_ _
    have B2 := jh (jC B.out hHeld)
    clear hHeld hb
    go_wp2_with fail
    exact ⟨⟨m + 1, b, by omega, by omega, by go_num, rfl, L2, B2⟩, by simp [intOf]; omega⟩
   ·have PB : Hid (decide (pcmp x p < 0) = false) := jh (by simpa using fun h => hp (pcmp_lt.1 h))
    have L2 := jh (lows_down HS.out L.out HX.out hp)
    generalize pcmp x p = c at PC PB
    have hpb := PB.out
    clear PB hp
    refine wp_region_held_drew (S := fun w' => Below wr.heap.size wr w') (by kernel_rfl) ?_ (fun hHeld => ?_)
    ·exact (Below.refl _ _).drew
    refine qy 0 ?_ ?_ ?_ hHeld ?_; rotate_left 1; (· rfl); (· intro w' hSw; (try dsimp only at hSw); (try clear hHeld); go_simp; try with_reducible rfl)
    try simp only [jz]
    refine qy 1 ?_ ?_ ?_ hHeld ?_; rotate_left 1; (· rfl); (· intro w' hSw; (try dsimp only at hSw); (try clear hHeld); go_simp; try with_reducible rfl)
    try simp only [jz]
    refine qy 2 ?_ ?_ ?_ hHeld ?_; rotate_left 1; (· rfl); (· intro w' hSw; (try dsimp only at hSw); (try clear hHeld); go_simp; try with_reducible rfl)
    try simp only [jz]
    refine qy 3 ?_ ?_ ?_ hHeld ?_; rotate_left 1; (· rfl); (· intro w' hSw; (try dsimp only at hSw); have x0 := jA x0 hSw; have x1 := jA x1 hSw; have c0 := jA c0 hSw; have c1 := jA c1 hSw; (try clear hHeld); go_simp; try with_reducible rfl)
    try simp only [jz]
    refine qy 4 ?_ ?_ ?_ hHeld ?_; rotate_left 1; (· rfl); (· intro w' hSw; (try dsimp only at hSw); have x0 := jA x0 hSw; have x1 := jA x1 hSw; have c0 := jA c0 hSw; have c1 := jA c1 hSw; (try clear hHeld); go_simp; try with_reducible rfl)
    try simp only [jz]
    refine qy 5 ?_ ?_ ?_ hHeld ?_; rotate_left 1; (· rfl); (· intro w' hSw; (try dsimp only at hSw); have x0 := jA x0 hSw; have x1 := jA x1 hSw; have c0 := jA c0 hSw; have c1 := jA c1 hSw; (try clear hHeld); go_simp; try with_reducible rfl)
    try simp only [jz]
    refine jr 6 ?_ fun K hK => ?_; (· rfl); (try clear hb); go_simp; (refine (PC.out _).mono ?_; rintro e w1 ⟨rfl, hb⟩); go_wp2_with fail; refine hK.out _ _ ?_ (fun hHeld => ?_); (· exact hHeld.trans (hb.mono hHeld.size)); clear hK K
    try simp only [jz]
    refine qy 7 ?_ ?_ ?_ hHeld ?_; rotate_left 1; (· rfl); (· intro w' hSw; (try dsimp only at hSw); (try clear hHeld); go_simp; try with_reducible rfl)
    try simp only [jz]
    refine wpAnyH_done (by kernel_rfl) ?_ _
    have B2 := jh (jC B.out hHeld)
    clear hHeld hb
    go_wp2_with fail
    exact ⟨⟨a, m, by omega, by omega, rfl, rfl, L2, B2⟩, by simp [intOf]; omega⟩
  ·obtain rfl : a = b := by omega
   have j0 : decide ((a : Int) < (a : Int)) = false := by simp
   by_cases hin : a < xs.length
   ·obtain ⟨x, hx⟩ : ∃ x, xs[a]? = some x := ⟨_, List.getElem?_eq_getElem hin⟩
    obtain ⟨bb, off, hsa, hP⟩ := HV.out (by omega)
    subst hsa
    obtain ⟨x0, x1⟩ := ps_two hP hx
    have x0 := (B.out.cell (jH (jA x0 hB))).trans (jA x0 hB)
    have x1 := (B.out.cell (jH (jA x1 hB))).trans (jA x1 hB)
    have c0 := (B.out.cell (jH C0.out)).trans C0.out
    have c1 := (B.out.cell (jH C1.out)).trans C1.out
    have n0 : (0 : Int) ≤ (a : Int) := by omega
    have n1 : (a : Int) < (xs.length : Int) := by omega
    have j1 : decide ((a : Int) < (xs.length : Int)) = true := by simpa using hin
    have HX := jh hx
    clear hP hx
    have PC := jh (fun (W : World) => ps_Cmp x p W)
    have PB : Hid ((pcmp x p == 0) = decide (p ∈ xs)) := jh (by
     by_cases e : x = p
     ·have h1 : pcmp x p = 0 := pcmp_eq.2 e
      rw [h1]
      have : p ∈ xs := e ▸ List.mem_of_getElem? HX.out
      simp [this]
     ·have h1 : pcmp x p ≠ 0 := fun h => e (pcmp_eq.1 h)
      have := lows_not HS.out L.out HX.out e
      simp [this, h1])
    have PX : Hid (p ∈ xs → xs[a]? = some p) := jh (fun hmem => by
     by_cases e : x = p
     ·rw [← e]; exact HX.out
     ·exact absurd hmem (lows_not HS.out L.out HX.out e))
    clear HX L
    generalize pcmp x p = c at PC PB
    generalize hd : decide (p ∈ xs) = d at PB
    have HD := jh hd
    have hpb := PB.out
    clear PB hd
    go_wp2_with fail
    refine wp_region_held_drew (S := fun w' => Below wr.heap.size wr w') (by kernel_rfl) ?_ (fun hHeld => ?_)
    ·exact (Below.refl _ _).drew
    refine qy 0 ?_ ?_ ?_ hHeld ?_; rotate_left 1; (· rfl); (· intro w' hSw; (try dsimp only at hSw); (try clear hHeld); go_simp; try with_reducible rfl)
    try simp only [jz]
    refine qy 1 ?_ ?_ ?_ hHeld ?_; rotate_left 1; (· rfl); (· intro w' hSw; (try dsimp only at hSw); (try clear hHeld); go_simp; try with_reducible rfl)
    try simp only [jz]
    refine qy 2 ?_ ?_ ?_ hHeld ?_; rotate_left 1; (· rfl); (· intro w' hSw; (try dsimp only at hSw); (try clear hHeld); go_simp; try with_reducible rfl)
    try simp only [jz]
    refine qy 3 ?_ ?_ ?_ hHeld ?_; rotate_left 1; (· rfl); (· intro w' hSw; (try dsimp only at hSw); (try clear hHeld); go_simp; try with_reducible rfl)
    try simp only [jz]
    refine qy 4 ?_ ?_ ?_ hHeld ?_; rotate_left 1; (· rfl); (· intro w' hSw; (try dsimp only at hSw); (try clear hHeld); go_simp; try with_reducible rfl)
    try simp only [jz]
    first | (refine rg_no (i := 5) (atS (atS (atS (atS (atS at0))))) (by kernel_rfl) (by kernel_rfl) (by kernel_rfl) (fun _ _ _ h => h) ?_ hHeld ?_; (· rfl)) | (refine qy 5 ?_ ?_ ?_ hHeld ?_; rotate_left 1; (· rfl); (· intro w' hSw; (try dsimp only at hSw); (try clear hHeld); go_simp; try with_reducible rfl))
    try simp only [jz]
    first | (refine rg_no (i := 6) (atS (atS (atS (atS (atS (atS at0)))))) (by kernel_rfl) (by kernel_rfl) (by kernel_rfl) (fun _ _ _ h => h) ?_ hHeld ?_; (· rfl)) | (refine qy 6 ?_ ?_ ?_ hHeld ?_; rotate_left 1; (· rfl); (· intro w' hSw; (try dsimp only at hSw); (try clear hHeld); go_simp; try with_reducible rfl))
    try simp only [jz]
    first | (refine rg_no (i := 7) (atS (atS (atS (atS (atS (atS (atS at0))))))) (by kernel_rfl) (by kernel_rfl) (by kernel_rfl) (fun _ _ _ h => h) ?_ hHeld ?_; (· rfl)) | (refine qy 7 ?_ ?_ ?_ hHeld ?_; rotate_left 1; (· rfl); (· intro w' hSw; (try dsimp only at hSw); (try clear hHeld); go_simp; try with_reducible rfl))
    try simp only [jz]
    first | (refine rg_no (i := 8) (atS (atS (atS (atS (atS (atS (atS (atS at0)))))))) (by kernel_rfl) (by kernel_rfl) (by kernel_rfl) (fun _ _ _ h => h) ?_ hHeld ?_; (· rfl)) | (refine qy 8 ?_ ?_ ?_ hHeld ?_; rotate_left 1; (· rfl); (· intro w' hSw; (try dsimp only at hSw); have x0 := jA x0 hSw; have x1 := jA x1 hSw; have c0 := jA c0 hSw; have c1 := jA c1 hSw; (try clear hHeld); go_simp; try with_reducible rfl))
    try simp only [jz]
    first | (refine rg_no (i := 9) (atS (atS (atS (atS (atS (atS (atS (atS (atS at0))))))))) (by kernel_rfl) (by kernel_rfl) (by kernel_rfl) (fun _ _ _ h => h) ?_ hHeld ?_; (· rfl)) | (refine qy 9 ?_ ?_ ?_ hHeld ?_; rotate_left 1; (· rfl); (· intro w' hSw; (try dsimp only at hSw); have x0 := jA x0 hSw; have x1 := jA x1 hSw; have c0 := jA c0 hSw; have c1 := jA c1 hSw; (try clear hHeld); go_simp; try with_reducible rfl))
    try simp only [jz]
    first | (refine rg_no (i := 10) (atS (atS (atS (atS (atS (atS (atS (atS (atS (atS at0)))))))))) (by kernel_rfl) (by kernel_rfl) (by kernel_rfl) (fun _ _ _ h => h) ?_ hHeld ?_; (· rfl)) | (refine qy 10 ?_ ?_ ?_ hHeld ?_; rotate_left 1; (· rfl); (· intro w' hSw; (try dsimp only at hSw); have x0 := jA x0 hSw; have x1 := jA x1 hSw; have c0 := jA c0 hSw; have c1 := jA c1 hSw; (try clear hHeld); go_simp; try with_reducible rfl))
    try simp only [jz]
    first | (refine rg_no (i := 11) (atS (atS (atS (atS (atS (atS (atS (atS (atS (atS (atS at0))))))))))) (by kernel_rfl) (by kernel_rfl) (by kernel_rfl) (fun _ _ _ h => h) ?_ hHeld ?_; (· rfl)) | (refine jr 11 ?_ fun K hK => ?_; (· rfl); (try clear hb); go_simp; (refine (PC.out _).mono ?_; rintro e w1 ⟨rfl, hb⟩); go_wp2_with fail; refine hK.out _ _ ?_ (fun hHeld => ?_); (· exact hHeld.trans (hb.mono hHeld.size)); clear hK K)
    try simp only [jz]
    first | (refine rg_no (i := 12) (atS (atS (atS (atS (atS (atS (atS (atS (atS (atS (atS (atS at0)))))))))))) (by kernel_rfl) (by kernel_rfl) (by kernel_rfl) (fun _ _ _ h => h) ?_ hHeld ?_; (· rfl)) | (refine qy 12 ?_ ?_ ?_ hHeld ?_; rotate_left 1; (· rfl); (· intro w' hSw; (try dsimp only at hSw); (try clear hHeld); go_simp; try with_reducible rfl))
    try simp only [jz]
    refine qy 13 ?_ ?_ ?_ hHeld ?_; rotate_left 1; (· rfl); (· intro w' hSw; (try dsimp only at hSw); (try clear hHeld); go_simp; try with_reducible rfl)
    try simp only [jz]
    refine qy 14 ?_ ?_ ?_ hHeld ?_; rotate_left 1; (· rfl); (· intro w' hSw; (try dsimp only at hSw); (try clear hHeld); go_simp; try with_reducible rfl)
    try simp only [jz]
    refine qy 15 ?_ ?_ ?_ hHeld ?_; rotate_left 1; (· rfl); (· intro w' hSw; (try dsimp only at hSw); (try clear hHeld); go_simp; try with_reducible rfl)
    try simp only [jz]
    refine wpAnyH_done (by kernel_rfl) ?_ _
    have B2 := jh (jC B.out hHeld)
    clear hHeld hb
    go_wp2_with fail
    go_ret2
    exact ⟨a, by rw [HD.out]; rfl, by omega, PX.out, jC hB B2.out⟩
   ·obtain rfl : a = xs.length := by omega
    have PX : Hid (p ∉ xs) := jh (lows_over L.out)
    have j1 : decide ((xs.length : Int) < (xs.length : Int)) = false := by simp
    have c0 := (B.out.cell (jH C0.out)).trans C0.out
    have c1 := (B.out.cell (jH C1.out)).trans C1.out
    clear L
    go_wp2_with fail
    refine wp_region_held_drew (S := fun w' => Below wr.heap.size wr w') (by kernel_rfl) ?_ (fun hHeld => ?_)
    ·exact (Below.refl _ _).drew
    refine qy 0 ?_ ?_ ?_ hHeld ?_; rotate_left 1; (· rfl); (· intro w' hSw; (try dsimp only at hSw); (try clear hHeld); go_simp; try with_reducible rfl)
    try simp only [jz]
    refine qy 1 ?_ ?_ ?_ hHeld ?_; rotate_left 1; (· rfl); (· intro w' hSw; (try dsimp only at hSw); (try clear hHeld); go_simp; try with_reducible rfl)
    try simp only [jz]
    refine qy 2 ?_ ?_ ?_ hHeld ?_; rotate_left 1; (· rfl); (· intro w' hSw; (try dsimp only at hSw); (try clear hHeld); go_simp; try with_reducible rfl)
    try simp only [jz]
    refine qy 3 ?_ ?_ ?_ hHeld ?_; rotate_left 1; (· rfl); (· intro w' hSw; (try dsimp only at hSw); (try clear hHeld); go_simp; try with_reducible rfl)
    try simp only [jz]
    refine qy 4 ?_ ?_ ?_ hHeld ?_; rotate_left 1; (· rfl); (· intro w' hSw; (try dsimp only at hSw); (try clear hHeld); go_simp; try with_reducible rfl)
    try simp only [jz]
    first | (refine rg_no (i := 5) (atS (atS (atS (atS (atS at0))))) (by kernel_rfl) (by kernel_rfl) (by kernel_rfl) (fun _ _ _ h => h) ?_ hHeld ?_; (· rfl)) | (refine qy 5 ?_ ?_ ?_ hHeld ?_; rotate_left 1; (· rfl); (· intro w' hSw; (try dsimp only at hSw); (try clear hHeld); go_simp; try with_reducible rfl))
    try simp only [jz]
    first | (refine rg_no (i := 6) (atS (atS (atS (atS (atS (atS at0)))))) (by kernel_rfl) (by kernel_rfl) (by kernel_rfl) (fun _ _ _ h => h) ?_ hHeld ?_; (· rfl)) | (refine qy 6 ?_ ?_ ?_ hHeld ?_; rotate_left 1; (· rfl); (· intro w' hSw; (try dsimp only at hSw); (try clear hHeld); go_simp; try with_reducible rfl))
    try simp only [jz]
    first | (refine rg_no (i := 7) (atS (atS (atS (atS (atS (atS (atS at0))))))) (by kernel_rfl) (by kernel_rfl) (by kernel_rfl) (fun _ _ _ h => h) ?_ hHeld ?_; (· rfl)) | (refine qy 7 ?_ ?_ ?_ hHeld ?_; rotate_left 1; (· rfl); (· intro w' hSw; (try dsimp only at hSw); (try clear hHeld); go_simp; try with_reducible rfl))
    try simp only [jz]
    first | (refine rg_no (i := 8) (atS (atS (atS (atS (atS (atS (atS (atS at0)))))))) (by kernel_rfl) (by kernel_rfl) (by kernel_rfl) (fun _ _ _ h => h) ?_ hHeld ?_; (· rfl)) | (refine qy 8 ?_ ?_ ?_ hHeld ?_; rotate_left 1; (· rfl); (· intro w' hSw; (try dsimp only at hSw); have c0 := jA c0 hSw; have c1 := jA c1 hSw; (try clear hHeld); go_simp; try with_reducible rfl))
    try simp only [jz]
    first | (refine rg_no (i := 9) (atS (atS (atS (atS (atS (atS (atS (atS (atS at0))))))))) (by kernel_rfl) (by kernel_rfl) (by kernel_rfl) (fun _ _ _ h => h) ?_ hHeld ?_; (· rfl)) | (refine qy 9 ?_ ?_ ?_ hHeld ?_; rotate_left 1; (· rfl); (· intro w' hSw; (try dsimp only at hSw); have c0 := jA c0 hSw; have c1 := jA c1 hSw; (try clear hHeld); go_simp; try with_reducible rfl))
    try simp only [jz]
    first | (refine rg_no (i := 10) (atS (atS (atS (atS (atS (atS (atS (atS (atS (atS at0)))))))))) (by kernel_rfl) (by kernel_rfl) (by kernel_rfl) (fun _ _ _ h => h) ?_ hHeld ?_; (· rfl)) | (refine qy 10 ?_ ?_ ?_ hHeld ?_; rotate_left 1; (· rfl); (· intro w' hSw; (try dsimp only at hSw); have c0 := jA c0 hSw; have c1 := jA c1 hSw; (try clear hHeld); go_simp; try with_reducible rfl))
    try simp only [jz]
    first | (refine rg_no (i := 11) (atS (atS (atS (atS (atS (atS (atS (atS (atS (atS (atS at0))))))))))) (by kernel_rfl) (by kernel_rfl) (by kernel_rfl) (fun _ _ _ h => h) ?_ hHeld ?_; (· rfl)) | (refine jr 11 ?_ fun K hK => ?_; (· rfl); (try clear hb); go_simp; (refine (ps_Cmp p p _).mono ?_; rintro e w1 ⟨rfl, hb⟩); go_wp2_with fail; refine hK.out _ _ ?_ (fun hHeld => ?_); (· exact hHeld.trans (hb.mono hHeld.size)); clear hK K)
    try simp only [jz]
    first | (refine rg_no (i := 12) (atS (atS (atS (atS (atS (atS (atS (atS (atS (atS (atS (atS at0)))))))))))) (by kernel_rfl) (by kernel_rfl) (by kernel_rfl) (fun _ _ _ h => h) ?_ hHeld ?_; (· rfl)) | (refine qy 12 ?_ ?_ ?_ hHeld ?_; rotate_left 1; (· rfl); (· intro w' hSw; (try dsimp only at hSw); (try clear hHeld); go_simp; try with_reducible rfl))
    try simp only [jz]
    refine qy 13 ?_ ?_ ?_ hHeld ?_; rotate_left 1; (· rfl); (· intro w' hSw; (try dsimp only at hSw); (try clear hHeld); go_simp; try with_reducible rfl)
    try simp only [jz]
    refine qy 14 ?_ ?_ ?_ hHeld ?_; rotate_left 1; (· rfl); (· intro w' hSw; (try dsimp only at hSw); (try clear hHeld); go_simp; try with_reducible rfl)
    try simp only [jz]
    refine qy 15 ?_ ?_ ?_ hHeld ?_; rotate_left 1; (· rfl); (· intro w' hSw; (try dsimp only at hSw); (try clear hHeld); go_simp; try with_reducible rfl)
    try simp only [jz]
    refine wpAnyH_done (by kernel_rfl) ?_ _
    have B2 := jh (jC B.out hHeld)
    clear hHeld
    go_wp2_with fail
    go_ret2
    exact ⟨xs.length, by rw [show decide (p ∈ xs) = false by simpa using PX.out]; rfl, by omega, fun h => absurd h PX.out, jC hB B2.out⟩
end Go.Proofs.YtkoidahgbbabiaaGreat
