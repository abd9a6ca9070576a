/- Texts of one proof, one behind another. -/
import Derived.Test.YtkoidahgbbabiaaGreatSf10
import Derived.Shelf.SlSortCmp.NoneTotal
import Derived.Lib.AppendZerosOnto
import Derived.Test.YtkoidahgbbabiaaGreatSf8
import Derived.DeepKeys4
import Derived.Test.YtkoidahgbbabiaaGreatSf6
import Derived.Test.YtkoidahgbbabiaaGreatSf2
import Derived.Deep.QuietTactic
import Derived.BigQuiet
import Derived.Deep.CutBlock
import Derived.Test.YtkoidahgbbabiaaGreatSf7
import Derived.ChangeKeysEq
import Derived.Test.YtkoidahgbbabiaaGreatSf1
/-
  SETS OF PREFIXES: slices.SortFunc over prefixes of the call's own.
-/
namespace Go.Proofs.YtkoidahgbbabiaaGreat
open Go.RowKit
theorem flatK_enc (xs : List Pf) : Sort.flatK encP 2 xs.toArray = (xs.flatMap encP).toArray := by
  apply Sort.ext_get!
  · rw [Sort.size_flatK]
    simp [flat_len encP_len]
  · intro t ht
    rw [Sort.size_flatK] at ht
    have ht' : t < xs.length * 2 := by simpa using ht
    rw [Sort.get_flatK _ _ _ _ ht]
    have hi : t / 2 < xs.length := by omega
    have hf := flat_get encP_len xs (t / 2) _ (List.getElem?_eq_getElem hi) (t % 2) (by omega)
    rw [show t / 2 * 2 + t % 2 = t by omega] at hf
    have h1 : xs.toArray[t / 2]! = xs[t / 2] := by simp [hi]
    rw [h1]
    have hl : (xs.flatMap encP).length = xs.length * 2 := flat_len encP_len xs
    have hm : t % 2 < (encP xs[t / 2]).length := by rw [encP_len]; omega
    rw [List.getElem?_eq_getElem hm, List.getElem?_eq_getElem (by rw [hl]; exact ht')] at hf
    have hf := Option.some.inj hf
    rw [getElem!_pos (xs.flatMap encP).toArray t (by simpa [hl] using ht'), getElem!_pos (encP xs[t / 2]) (t % 2) hm]
    simpa using hf.symm
theorem put_heap {w : World} {g : Nat} {cur : Array Value} {T : TypeId} (F : Array Value) (h : w.heap[g]? = some (.cells cur T (0, 0))) : (Sort.putRow id w g 0 F).heap[g]? = some (.cells (Sort.putCells id 0 F cur) T (0, 0)) := by
  unfold Sort.putRow Sort.mapBlock
  simp only [Array.getElem?_modify, if_true, h, Option.map_some, Sort.onCells]
theorem put_take {cur F : Array Value} (h : F.size ≤ cur.size) : (Sort.putCells id 0 F cur).toList.take F.size = F.toList := by
  apply List.ext_getElem?
  intro i
  by_cases hi : i < F.size
  · rw [List.getElem?_take_of_lt hi]
    unfold Sort.putCells
    rw [Array.getElem?_toList, Array.getElem?_mapIdx, Array.getElem?_eq_getElem (show i < cur.size by omega)]
    simp [hi]
  · rw [List.getElem?_eq_none (by simp; omega), List.getElem?_eq_none (by simp; omega)]
theorem own_put {w : World} {B g n c k : Nat} {e : TypeId} {xs ys : List Value} (h : w.ownsRow B e k (.slice (some ⟨g, 0, none⟩) n c) n xs) (hy : ys.length = n * k) (m : Nat) (os : Array Obj) :
    (Sort.grow (Sort.putRow id (Sort.ahead w m) g 0 ys.toArray) os).ownsRow B e k (.slice (some ⟨g, 0, none⟩) n c) n ys ∧ Kept (fun b => b = g) w (Sort.grow (Sort.putRow id (Sort.ahead w m) g 0 ys.toArray) os) := by
  obtain ⟨h1, ⟨h2, _⟩ | ⟨g', cap, cur, h2, hB, hg, hn, hm, hs, hc⟩⟩ := h
  · cases h2
  · injection h2 with e1 e2 e3
    injection e1 with e1
    injection e1 with e1
    subst e1; subst e3
    have hlt := row_lt hg
    have hp := put_heap (w := Sort.ahead w m) ys.toArray hg
    have hgrow : ∀ (W : World) (i : Nat), i < W.heap.size → (Sort.grow W os).heap[i]? = W.heap[i]? := fun W i hi => by unfold Sort.grow; exact Array.getElem?_append_left hi
    have hsz : (Sort.putRow id (Sort.ahead w m) g 0 ys.toArray).heap.size = w.heap.size := by rw [Sort.size_putRow]; rfl
    refine ⟨⟨hy, .inr ⟨g, c, _, rfl, hB, (hgrow _ g (by rw [hsz]; exact hlt)).trans hp, hn, hm, ?_, ?_⟩⟩, ?_⟩
    · unfold Sort.putCells; simp [hs]
    · have := put_take (cur := cur) (F := ys.toArray) (by rw [hs, List.size_toArray, hy]; exact Nat.mul_le_mul_right _ hn)
      rw [List.size_toArray, hy] at this
      simpa using this
    · refine ⟨rfl, rfl, rfl, ?_, fun i hi hne => ?_⟩
      · show w.heap.size ≤ ((Sort.putRow id (Sort.ahead w m) g 0 ys.toArray).heap ++ os).size
        rw [Array.size_append, hsz]; omega
      · rw [hgrow _ i (by rw [hsz]; exact hi)]
        unfold Sort.putRow Sort.mapBlock
        rw [Array.getElem?_modify, if_neg (fun h => hne h.symm)]
        rfl
theorem ltOf_pcmp (x y : Pf) : Go.Proofs.ltOf pcmp x y = decide (plt x y) := by
  unfold Go.Proofs.ltOf
  by_cases h : plt x y
  · simp [h, pcmp_lt.2 h]
  · have := fun k => h (pcmp_lt.1 k)
    have h2 : ¬ pcmp x y < 0 := this
    simp [h, h2]
theorem swo_pcmp : Sort.SWO (Go.Proofs.ltOf pcmp) where
  irrefl x := by rw [ltOf_pcmp]; simpa using plt_irrefl x
  trans x y z h1 h2 := by
    rw [ltOf_pcmp] at *
    simp only [decide_eq_true_eq] at *
    exact plt_trans h1 h2
  ntrans x y z h1 h2 := by
    rw [ltOf_pcmp] at *
    simp only [decide_eq_false_iff_not] at *
    unfold plt at *; omega
theorem cmp_lays (blk off size : Nat) (w : World) : CmpLays Tryz.prog 22 #[] encP 2 pcmp blk off size w := by
  intro m os dk _ x y
  exact (ip_CmpD x.1 x.2 y.1 y.2 _).mono fun e w' ⟨he, hd⟩ => ⟨he, hd.grow⟩
theorem isAgg_pref : ∀ w, (isAgg 53).run Tryz.prog w = .ok true w := Tryz.isAgg53
theorem sizeOf_pref : ∀ w, (Go.sizeOf 53).run Tryz.prog w = .ok 2 w := Tryz.sizeOf53
theorem ps_Sort (B : Nat) (v : Value) (xs : List Pf) (w : World) (h : OwnPs w B v xs) (hn : xs.length < 4611686018427387904) :
    Calls Tryz.prog 59 #[v, .func (.func 22) #[] #[]] w fun e w' => ∃ ys, e = .returned (.tuple #[]) ∧ ys.length = xs.length ∧ (∀ p, p ∈ ys ↔ p ∈ xs) ∧ ys.Pairwise (fun x y => ¬ plt y x) ∧ OwnPs w' B v ys ∧ Kept (fun b => v.ownBlock = some b) w w' := by
  obtain ⟨h1, hok⟩ := h
  rcases own_slice h1 with ⟨rfl, h0⟩ | ⟨g, c, rfl⟩
  · obtain rfl := List.length_eq_zero_iff.1 h0
    refine (AnyF.slices_SortFunc_none Tryz.sortP none 0 _ w).mono ?_
    rintro e w' ⟨rfl, rfl⟩
    exact ⟨[], rfl, rfl, fun p => Iff.rfl, List.Pairwise.nil, ⟨h1, hok⟩, Kept.refl _ _⟩
  · have eg : ∀ args w, (callFunc 22 args).run Tryz.prog w = .ok (.enter 22 args) w := enters_of Tryz.func22 (by kernel_rfl) rfl
    have hH : Sort.HoldsK encP 2 w g 0 xs.toArray := by
      unfold Sort.HoldsK
      rw [flatK_enc]
      intro j hj
      obtain ⟨-, ⟨h2, _⟩ | ⟨g', cap, cur, h2, -, hg, hcn, -, hs, hc⟩⟩ := h1
      · cases h2
      · injection h2 with e1 e2 e3
        injection e1 with e1
        injection e1 with e1
        subst e1; subst e3
        rw [List.size_toArray] at hj
        rw [flat_len encP_len] at hj
        have hl : (xs.flatMap encP)[j]? = cur[j]? := by
          rw [← hc, List.getElem?_take_of_lt hj, Array.getElem?_toList]
        rw [Nat.zero_add]
        refine ⟨?_, row_free hg j⟩
        rw [row_cell hg, ← hl, List.getElem?_eq_getElem (by rw [flat_len encP_len]; exact hj)]
        rw [getElem!_pos _ _ (by simpa [flat_len encP_len] using hj)]
        simp
    have hblk : g < w.heap.size := by
      obtain ⟨-, ⟨h2, _⟩ | ⟨g', cap, cur, h2, -, hg, -⟩⟩ := h1
      · cases h2
      · injection h2 with e1 e2 e3
        injection e1 with e1
        injection e1 with e1
        subst e1
        exact row_lt hg
    have hcon := AnyQ.slices_SortFunc_total Tryz.sortP 2 isAgg_pref sizeOf_pref encP encP_len encP_one pcmp swo_pcmp 22 #[] g 0 c xs.toArray w eg (cmp_lays g 0 xs.toArray.size w) hH hblk (by simpa using hn) (fun x y hx hy => by
      rw [ltOf_pcmp] at hx hy
      simp only [decide_eq_false_iff_not] at hx hy
      exact plt_total hx hy)
    refine hcon.mono ?_
    rintro e w' ⟨rfl, n, os, rfl⟩
    simp only
    generalize hy : xs.mergeSort (fun x y => !(Go.Proofs.ltOf pcmp) y x) = ys
    have hlen : ys.length = xs.length := by rw [← hy, List.length_mergeSort]
    have hmem : ∀ p, p ∈ ys ↔ p ∈ xs := fun p => by rw [← hy]; exact (List.mergeSort_perm _ _).mem_iff
    have hsort : ys.Pairwise (fun x y => ¬ plt y x) := by
      have := List.pairwise_mergeSort (le := fun x y => !(Go.Proofs.ltOf pcmp) y x) (fun a b c h1 h2 => by
        simp only [ltOf_pcmp, Bool.not_eq_true', decide_eq_false_iff_not] at *
        unfold plt at *; omega) (fun a b => by
        simp only [ltOf_pcmp, Bool.or_eq_true, Bool.not_eq_true', decide_eq_false_iff_not]
        unfold plt; omega) xs
      rw [hy] at this
      exact this.imp fun h => by simpa only [ltOf_pcmp, Bool.not_eq_true', decide_eq_false_iff_not] using h
    have hp := own_put h1 (ys := ys.flatMap encP) (by rw [flat_len encP_len, hlen]) n os
    unfold Go.Proofs.sortWorldK Sort.putRowK
    rw [flatK_enc]
    refine ⟨ys, trivial, hlen, hmem, hsort, ⟨by rw [hlen]; exact hp.1, fun p hp => hok p ((hmem p).1 hp)⟩, hp.2.imp fun b hb => by rw [hb]; rfl⟩
end Go.Proofs.YtkoidahgbbabiaaGreat
/-
  PREFIXES IN ORDER, EACH ONCE; small laws on slices of them.
-/
namespace Go.Proofs.YtkoidahgbbabiaaGreat
open Go.RowKit
def setOf (ps : List Pf) : List Pf := comp (ps.mergeSort fun x y => !decide (plt y x))
theorem setOf_srt (ps : List Pf) : Srt (setOf ps) ∧ ∀ p, p ∈ setOf ps ↔ p ∈ ps := by
  have h := List.pairwise_mergeSort (le := fun x y : Pf => !decide (plt y x)) (fun a b c h1 h2 => by
        simp only [Bool.not_eq_true', decide_eq_false_iff_not] at *
        unfold plt at *; omega) (fun a b => by
        simp only [Bool.or_eq_true, Bool.not_eq_true', decide_eq_false_iff_not]
        unfold plt; omega) ps
  have h2 := comp_srt (h.imp fun {a b} k => by simpa only [Bool.not_eq_true', decide_eq_false_iff_not] using k)
  exact ⟨h2.1, fun p => (h2.2 p).trans (List.mergeSort_perm _ _).mem_iff⟩
theorem setOf_is {ps ys : List Pf} (h : Srt ys) (hm : ∀ p, p ∈ ys ↔ p ∈ ps) : setOf ps = ys := srt_ext (setOf_srt ps).1 h fun p => ((setOf_srt ps).2 p).trans (hm p).symm
theorem setOf_len (ps : List Pf) : (setOf ps).length ≤ ps.length := by
  have := comp_len (ps.mergeSort fun x y => !decide (plt y x))
  rw [List.length_mergeSort] at this
  exact this
def rights (ps : List Pf) : Bool := ps.all fun p => rightB p.1 p.2
theorem ownPs_nil (w : World) (B : Nat) : OwnPs w B (.slice none 0 0) [] := ⟨⟨rfl, .inl ⟨rfl, rfl⟩⟩, fun p hp => by simp at hp⟩
def AllR (ps : List Pf) (k : Nat) : Prop := ∀ (i : Nat) (x : Pf), i < k → ps[i]? = some x → rightB x.1 x.2 = true
theorem allR_step {ps : List Pf} {k : Nat} {x : Pf} (h : AllR ps k) (hx : ps[k]? = some x) (hr : rightB x.1 x.2 = true) : AllR ps (k + 1) := by
  intro i y hi hy
  by_cases e : i = k
  · subst e; rw [hx] at hy; obtain rfl := Option.some.inj hy; exact hr
  · exact h i y (by omega) hy
theorem allR_all {ps : List Pf} (h : AllR ps ps.length) : rights ps = true := by
  unfold rights
  rw [List.all_eq_true]
  intro x hx
  obtain ⟨i, hi⟩ := List.mem_iff_getElem?.1 hx
  exact h i x (List.getElem?_eq_some_iff.1 hi).1 hi
end Go.Proofs.YtkoidahgbbabiaaGreat
/-
  SLICES OF PREFIXES: a whole slice appended to one's own; slices.Grow of none; slices.Concat of two.
-/
namespace Go.Proofs.YtkoidahgbbabiaaGreat
open Go.RowKit
section
variable {P : Program} {w : World}
theorem run_append_noneP (base : Nat) (t ty e : TypeId) (i : TypeInfo) (size c : Nat) (ht : P.underlying t = some (.slice e)) (hi : P.info? e = some i)
    (v : Value) (n : Nat) (xs : List Value) (hown : w.ownsRow base e size v n xs) :
    (Builtin.append_ #[t, t] ty #[v, .slice none 0 c]).run P w = .ok v w := by
  rcases hown.2 with ⟨rfl, rfl⟩ | ⟨g, cap, cur, rfl, _, _, hnc, _⟩
  · simp [Builtin.append_, run_underlying ht, sizeOf, typeInfo, hi, Builtin.lenOf, Builtin.firstCells]
  · simp [Builtin.append_, run_underlying ht, sizeOf, typeInfo, hi, Builtin.lenOf, Builtin.firstCells, hnc, storeCells]
theorem wpList_append_noneP {ops : Array Oper} {rest : List Oper} {o : Oper} {a : Act} {Q : Exit → Act → World → Prop} (hgd : o.guard = none) (s x : Operand) (t : TypeId)
    (ho : o.op = .call { callee := .builtin .append, args := #[s, x], argTypes := #[t, t] })
    (base : Nat) (e : TypeId) (i : TypeInfo) (size c : Nat) (ht : P.underlying t = some (.slice e)) (hi : P.info? e = some i)
    (v : Value) (n : Nat) (xs : List Value) (hs : a.eval s = v) (hown : w.ownsRow base e size v n xs) (hx : a.eval x = .slice none 0 c)
    (h : wpList P ops Q rest (a.put o.dst v) w) : wpList P ops Q (o :: rest) a w := by
  refine wpList_plain hgd fun K hK => ?_
  have hr := run_append_noneP (P := P) (w := w) base t o.type e i size c ht hi v n xs hown
  unfold Oper.wp execOp
  simp only [ho, resolve, invoke, builtin, Sem.run_bind, Sem.run_pure, Result.andThen_ok, List.map_toArray, List.map_cons, List.map_nil, hs, hx, hr]
  exact hK _ _ h
theorem wpList_append_run {ops : Array Oper} {rest : List Oper} {o : Oper} {a : Act} {Q : Exit → Act → World → Prop} (hgd : o.guard = none) (s x : Operand) (ts : Array TypeId)
    (ho : o.op = .call { callee := .builtin .append, args := #[s, x], argTypes := ts }) (vs vx v : Value) (w' : World) (hs : a.eval s = vs) (hx : a.eval x = vx) (hr : (Builtin.append_ ts o.type #[vs, vx]).run P w = .ok v w')
    (h : wpList P ops Q rest (a.put o.dst v) w') : wpList P ops Q (o :: rest) a w := by
  refine wpList_plain hgd fun K hK => ?_
  unfold Oper.wp execOp
  simp only [ho, resolve, invoke, builtin, Sem.run_bind, Sem.run_pure, Result.andThen_ok, List.map_toArray, List.map_cons, List.map_nil, hs, hx, hr]
  exact hK _ _ h
end
theorem ps_cells {w : World} {v : Value} {xs : List Pf} (h : PsAt w v xs) : ∃ (sa : Option Addr) (cap : Nat), v = .slice sa xs.length cap ∧ (sa = none → xs = []) ∧ ∀ ad, sa = some ad → ∀ q u, (xs.flatMap encP)[q]? = some u → w.cell? (ad.add q) = some u := by
  obtain ⟨sa, cap, h1, h2, h3, h4⟩ := h
  refine ⟨sa, cap, h1, fun e => ?_, fun ad e q u hq => ?_⟩
  · by_cases h0 : 0 < xs.length
    · obtain ⟨b, off, h5, _⟩ := h4 h0
      rw [e] at h5; cases h5
    · exact List.length_eq_zero_iff.1 (by omega)
  · have hql := (List.getElem?_eq_some_iff.1 hq).1
    rw [flat_len encP_len] at hql
    obtain ⟨b, off, h5, h6⟩ := h4 (by omega)
    rw [e] at h5
    injection h5 with h5
    subst h5
    have hi : q / 2 < xs.length := by omega
    have hf := flat_get encP_len xs (q / 2) _ (List.getElem?_eq_getElem hi) (q % 2) (by omega)
    have e : q / 2 * 2 + q % 2 = q := by omega
    rw [e, hq] at hf
    obtain ⟨cs, -, ⟨rfl, -⟩, hc⟩ := h6 (q / 2) _ (List.getElem?_eq_getElem hi)
    have := hc (q % 2) u hf.symm
    rw [Nat.add_assoc, e] at this
    rw [Addr.add_mid]
    exact this
theorem wpList_app {ops : Array Oper} {rest : List Oper} {o : Oper} {a : Act} {Q : Exit → Act → World → Prop} {w : World} (hgd : o.guard = none) (s x : Operand)
    (ho : o.op = .call { callee := .builtin .append, args := #[s, x], argTypes := #[23, 23] })
    (B : Nat) (v u : Value) (xs ys : List Pf) (hs : a.eval s = v) (hx : a.eval x = u) (hB : B ≤ w.heap.size) (hv : OwnPs w B v xs) (hu : PsAt w u ys) (hsz : xs.length + ys.length ≤ 8796093022208)
    (h : ∀ v' w', OwnPs w' B v' (xs ++ ys) → Below B w w' → Kept (fun b => v.ownBlock = some b) w w' → wpList Tryz.prog ops Q rest (a.put o.dst v') w') : wpList Tryz.prog ops Q (o :: rest) a w := by
  obtain ⟨i0, hii, hz0, hz1, hz2⟩ := info_parts info_pref
  have hok := ps_ok hu
  obtain ⟨sa, cap, rfl, h1, h2⟩ := ps_cells hu
  cases sa with
  | none =>
    obtain rfl := h1 rfl
    refine wpList_append_noneP hgd s x 23 ho B 53 i0 2 cap Tryz.underlying23 hii v xs.length _ hs hv.1 hx ?_
    exact h v w (by rw [List.append_nil]; exact hv) (Below.refl _ _) (Kept.refl _ _)
  | some ad =>
    refine wpList_append_own w hgd s x 23 ho B 53 i0 _ 2 16 Tryz.underlying23 hii hz0 hz1 hz2 rfl (by decide) v xs.length _ hs hv.1 ad ys.length cap (ys.flatMap encP) hx (flat_len encP_len ys) (h2 ad rfl) (flat_one encP_one ys) (by unfold maxLen; omega) (by omega) hB ?_
    intro v' w' ho' hg _
    refine h v' w' ⟨?_, ?_⟩ ?_ ⟨hg.os, hg.tape, hg.output, hg.size, fun k hk hne => hg.block k hk (fun e => hne e.symm)⟩
    · rw [List.length_append, List.flatMap_append]; exact ho'
    · intro p hp
      rcases List.mem_append.1 hp with hp | hp
      · exact hv.2 p hp
      · exact hok p hp
    · exact (Below.refl _ _).grown hg hB (fun k hk => own_form_le hv.1 k hk)
set_option maxHeartbeats 3200000 in
set_option maxRecDepth 100000 in
theorem ps_Grow (n : Nat) (w : World) (hn : n ≤ 8796093022208) : Calls Tryz.prog 133 #[.slice none 0 0, .int .i64 n] w fun e w' => ∃ v', e = .returned v' ∧ OwnPs w' w.heap.size v' [] ∧ Below w.heap.size w w' := by
  obtain ⟨i0, hii, hz0, hz1, hz2⟩ := info_parts info_pref
  by_cases h0 : n = 0
  · subst h0
    have OE := Lib.hid (ownPs_nil w w.heap.size)
    go_enter Tryz.func133, Tryz.ntmps133
    go_wp2_with fail
    go_ret
    exact ⟨_, rfl, OE.out, Below.refl _ _⟩
  · have hk : 0 < n := by omega
    have HA := Lib.run_append_grow_zeros (P := Tryz.prog) w 23 3 23 53 i0 _ .i64 .i64 Tryz.underlying23 Tryz.underlying3 hii hz0 none 0 0 [] (by
      have := run_firstCells_none (P := Tryz.prog) w.drew i0.size 0 0 0
      simpa using this) n hk (by rw [hz1]; decide) (by omega) (by omega) (by rw [hz2]; omega) (by
        rw [hz2]
        have : Builtin.nextslicecap (0 + n) 0 = 0 + n := by simp [Builtin.nextslicecap, hk]
        rw [this]; omega)
    rw [Nat.zero_add] at HA
    have hc1 := grownCap_ge w n 0 53
    have hc2 := grownCap_le_maxLen w n 0 53 (by unfold maxLen; omega)
    generalize grownCap w n 0 53 = cap at HA hc1 hc2
    have hC : ((([] : List Value).toArray ++ Builtin.zeroCells (Value.agg #[.int .u32 0, .int .i64 0]).cells n) ++ Builtin.zeroCells (Value.agg #[.int .u32 0, .int .i64 0]).cells (cap - n)).size = cap * 2 := by
      rw [Array.size_append, Array.size_append, size_zeroCells, size_zeroCells]
      simp [Value.cells]; omega
    generalize ((([] : List Value).toArray ++ Builtin.zeroCells (Value.agg #[.int .u32 0, .int .i64 0]).cells n) ++ Builtin.zeroCells (Value.agg #[.int .u32 0, .int .i64 0]).cells (cap - n)) = C at HA hC
    have OE : Hid (OwnPs (w.drew.alloc (.cells C 53)) w.heap.size (.slice (some ⟨w.heap.size, 0, none⟩) 0 cap) []) := Lib.hid ⟨⟨rfl, .inr ⟨_, cap, C, rfl, Nat.le_refl _, heap_alloc_new w.drew _, by simp, hc2, hC, by simp⟩⟩, fun p hp => by simp at hp⟩
    have HB : Hid (Below w.heap.size w (w.drew.alloc (.cells C 53))) := Lib.hid ((Below.refl _ _).drew.alloc (Nat.le_refl _) _)
    have z1 : ¬ ((n : Int) < 0) := by omega
    have z2 : IntKind.i64.wrap (n : Int) = n := IntWalk.i64_in _ (by omega)
    have z3 : ((n : Int) > 0) := by omega
    have z4 : (0 : Int) ≤ (n : Int) := by omega
    have z5 : (n : Int) ≤ (cap : Int) := by omega
    clear hC
    go_enter Tryz.func133, Tryz.ntmps133
    have HA := Lib.hid HA
    go_wp2_with (at_builtin; refine wpList_append_run rfl _ _ #[23, 3] rfl (.slice none 0 0) (.int .i64 n) (.slice (some ⟨w.heap.size, 0, none⟩) n cap) (w.drew.alloc (.cells C 53)) rfl rfl HA.out ?_)
    go_ret
    exact ⟨_, rfl, OE.out, HB.out⟩
end Go.Proofs.YtkoidahgbbabiaaGreat
/-
  PREFIXES THAT A PEER SAYS: slices.Concat of two; in order, each once.
-/
namespace Go.Proofs.YtkoidahgbbabiaaGreat
open Go.RowKit
theorem OwnPs.base {w : World} {B B' : Nat} {v : Value} {xs : List Pf} (h : OwnPs w B v xs) (hB : B' ≤ B) : OwnPs w B' v xs := ⟨own_base h.1 hB, h.2⟩
set_option maxHeartbeats 6400000 in
set_option maxRecDepth 100000 in
theorem ps_Concat (sb : Nat) (v u : Value) (xs ys : List Pf) (w : World) (hs0 : w.cell? ⟨sb, 0, none⟩ = some v) (hs1 : w.cell? ⟨sb, 1, none⟩ = some u) (hv : PsAt w v xs) (hu : PsAt w u ys) (hsz : xs.length + ys.length ≤ 8796093022208) :
    Calls Tryz.prog 93 #[.slice (some ⟨sb, 0, none⟩) 2 2] w fun e w' => ∃ v', e = .returned v' ∧ OwnPs w' w.heap.size v' (xs ++ ys) ∧ Below w.heap.size w w' := by
  have HV := Lib.hid hv
  have HU := Lib.hid hu
  have GR := Lib.hid (ps_Grow (xs.length + ys.length) w hsz)
  obtain ⟨sv, cv, rfl, -⟩ := hv
  obtain ⟨su, cu, rfl, -⟩ := hu
  have z0 : IntKind.i64.wrap ((0 : Int) + (xs.length : Int)) = (xs.length : Int) := by rw [Int.zero_add]; exact IntWalk.i64_in _ (by omega)
  have z1 : IntKind.i64.wrap (xs.length : Int) = (xs.length : Int) := IntWalk.i64_in _ (by omega)
  have z2 : IntKind.i64.wrap ((xs.length : Int) + (ys.length : Int)) = ((xs.length + ys.length : Nat) : Int) := by rw [IntWalk.i64_in _ (by omega)]; omega
  have n1 : ¬ ((xs.length : Int) < 0) := by omega
  have n2 : ¬ (((xs.length + ys.length : Nat) : Int) < 0) := by omega
  go_enter Tryz.func93, Tryz.ntmps93
  go_wp2_with fail
  refine wp_loop_rounds 3 ?_
  rw [rounds_succ]
  go_wp2_with fail
  rw [rounds_succ]
  go_wp2_with fail
  rw [rounds_succ]
  go_wp2_with fail
  refine GR.out.mono ?_
  rintro e w1 ⟨v1, rfl, O1, hb1⟩
  have OG := Lib.hid O1
  have s0 := cell_below hs0 hb1
  have s1 := cell_below hs1 hb1
  have HV1 := Lib.hid (HV.out.below hb1)
  have HU1 := Lib.hid (HU.out.below hb1)
  have B1 := Lib.hid hb1
  have sl0 : Hid (sb < w.heap.size) := Lib.hid (size_lt hs0)
  clear GR O1 hb1 z0 z1 z2 n1 n2 hs0 hs1 HV
  go_wp2_with fail
  refine wp_loop_rounds 3 ?_
  rw [rounds_succ]
  go_wp2_with (at_builtin; refine wpList_app rfl _ _ rfl w.heap.size v1 (.slice sv xs.length cv) [] xs rfl rfl B1.out.size OG.out HV1.out (by simp; omega) ?_)
  intro v2 w2 ho2 hb2 _
  have O2 : Hid (OwnPs w2 w.heap.size v2 xs) := Lib.hid ho2
  have B2 := Lib.hid (B1.out.trans hb2)
  have s1 := (hb2.cell (p := ⟨sb, 1, none⟩) sl0.out).trans s1
  have HU2 := Lib.hid (HU.out.below B2.out)
  clear ho2 hb2 OG B1 s0 HV1 HU1
  go_wp2_with fail
  rw [rounds_succ]
  go_wp2_with (at_builtin; refine wpList_app rfl _ _ rfl w.heap.size v2 (.slice su ys.length cu) xs ys rfl rfl B2.out.size O2.out HU2.out (by omega) ?_)
  intro v3 w3 ho3 hb3 _
  have O3 := Lib.hid ho3
  have B3 := Lib.hid (B2.out.trans hb3)
  clear ho3 hb3 O2 B2 s1 HU2
  go_wp2_with fail
  rw [rounds_succ]
  go_wp2_with fail
  go_ret
  exact ⟨_, rfl, O3.out, B3.out⟩
theorem ad_sorted (B : Nat) (v : Value) (xs : List Pf) (w : World) (h : OwnPs w B v xs) (hn : xs.length ≤ 8796093022208) :
    Calls Tryz.prog 92 #[v] w fun e w' => ∃ v', e = .returned v' ∧ OwnPs w' B v' (setOf xs) ∧ Kept (fun b => v.ownBlock = some b) w w' := by
  have ST := Lib.hid (ps_Sort B v xs w h (by omega))
  have CP := Lib.hid (fun W ys (h : OwnPs W B v ys) hn => ps_Compact B v ys W h hn)
  have SE := Lib.hid (fun ys h hm => setOf_is (ps := xs) (ys := ys) h hm)
  clear h
  go_enter Tryz.func92, Tryz.ntmps92
  go_wp2_with fail
  refine ST.out.mono ?_
  rintro e w1 ⟨ys, rfl, hl, hm, hp, ho, hk⟩
  have HK := Lib.hid hk
  have CQ := Lib.hid (CP.out w1 ys ho (by omega))
  have EQ : Hid (comp ys = setOf xs) := Lib.hid (by
    have hc := comp_srt hp
    exact (SE.out _ hc.1 (fun p => (hc.2 p).trans (hm p))).symm)
  clear hl hm hp ho hk ST CP SE
  go_wp2_with fail
  refine CQ.out.mono ?_
  rintro e w2 ⟨v', rfl, ho, hk⟩
  have O2 := Lib.hid ho
  have K2 := Lib.hid (HK.out.trans hk)
  clear ho hk CQ HK
  go_wp2_with fail
  go_ret
  exact ⟨_, rfl, by rw [← EQ.out]; exact O2.out, K2.out⟩
end Go.Proofs.YtkoidahgbbabiaaGreat
/-
  WHAT A PEER SAYS: a message as a value; whether its prefixes are all in their form.
-/
namespace Go.Proofs.YtkoidahgbbabiaaGreat
open Go.RowKit Go.Maps Go.ChangeMaps
structure MV where
  kind : Int
  as_ : Int
  hold : Int
  id : Int
  ks : Option Addr
  kn : Nat
  kc : Nat
  gs : Option Addr
  gn : Nat
  gc : Nat
  a : AV
  ns : Option Addr
  nn : Nat
  nc : Nat
  fc : Int
  fs : Int
  fd : ByteArray
abbrev MV.C (m : MV) : Array Value := #[.int .i64 m.kind, .int .i64 m.as_, .int .i64 m.hold, .int .u32 m.id, .slice m.ks m.kn m.kc, .slice m.gs m.gn m.gc,
  .int .i64 m.a.has, .int .i64 m.a.origin, .slice m.a.ps m.a.pn m.a.pc, .int .u32 m.a.hop, .int .i64 m.a.med, .int .i64 m.a.loc, .int .i64 m.a.aggrAs, .int .u32 m.a.aggrId, .slice m.a.cs m.a.cn m.a.cc, .slice m.a.os m.a.on m.a.oc,
  .slice m.ns m.nn m.nc, .int .i64 m.fc, .int .i64 m.fs, .string m.fd]
abbrev MV.V (m : MV) : Value := .agg m.C
abbrev MV.G (m : MV) : Value := .slice m.gs m.gn m.gc
abbrev MV.N (m : MV) : Value := .slice m.ns m.nn m.nc
abbrev pfV (p : Pf) : Value := .agg #[.int .u32 p.1, .int .i64 p.2]
def KOk (p : Pf) : Prop := (0 ≤ p.1 ∧ p.1 < 4294967296) ∧ I64r p.2
theorem pf_lit (k : Pf) (h : KOk k) : ∃ l, keyOf Tryz.prog 53 (pfV k) = some l := by
  refine ⟨.string (keyBytes [.int .u32 k.1, .int .i64 k.2]), ?_⟩
  obtain ⟨m, hsz⟩ : ∃ m, Tryz.prog.types.size = m + 1 := ⟨Tryz.prog.types.size - 1, by kernel_rfl⟩
  have hkt : Tryz.prog.keyType 53 = true := by kernel_rfl
  have hc : Tryz.prog.cellsOf 53 = 2 := by kernel_rfl
  have h1 : Tryz.prog.cellsOf 3 = 1 := by kernel_rfl
  have h2 : Tryz.prog.cellsOf 36 = 1 := by kernel_rfl
  unfold keyOf
  simp only [Tryz.underlying53]
  rw [if_pos (by simp [hkt, Value.formed, Tryz.underlying53, hc]), hsz]
  unfold Program.keyLits
  simp only [Tryz.underlying53, Value.cells]
  rw [if_pos (by rw [hc]; exact ⟨rfl, by kernel_rfl⟩)]
  have hn : ∀ n : Int, I64r n → Tryz.prog.keyLits (m + 1) 3 [.int .i64 n] = some [.int .i64 n] := fun n hn => by
    unfold I64r at hn
    unfold Program.keyLits; simp [Tryz.underlying3, WalkArith.wf_i64 (show _ by omega)]
  have hu : ∀ n : Int, (0 ≤ n ∧ n < 4294967296) → Tryz.prog.keyLits (m + 1) 36 [.int .u32 n] = some [.int .u32 n] := fun n hn => by
    unfold Program.keyLits; simp [Tryz.underlying36, Lit.wf, IntKind.min, IntKind.max, IntKind.bits, IntKind.signed]; omega
  simp only [h1, h2, List.mapM_cons, List.mapM_nil, List.drop_zero, List.drop_succ_cons, List.take_succ_cons, List.take_zero, hn _ h.2, hu _ h.1]
  rfl
theorem pf_enc : KeyEnc Tryz.prog 53 pfV KOk where
  K := Maps.Keyed.of_law (deep_law_laid (by kernel_rfl) (m := 2) (by decide) (of_decide_eq_true (by kernel_rfl)) (by kernel_rfl) (by kernel_rfl))
  lit := pf_lit
  inj a b h := by
    obtain ⟨a1, a2⟩ := a
    obtain ⟨b1, b2⟩ := b
    simp at h
    obtain ⟨h1, h2⟩ := h
    rw [h1, h2]
abbrev unV (_ : Unit) : Value := .agg #[]
abbrev SeenT (W : World) (b : Nat) (l : List (Pf × Unit)) : Prop := MapT pfV unV KOk W b l
def chkE (ps : List Pf) : Int := if rights ps then 0 else 1
theorem chk_bad {gone nets : List Pf} {j k : Nat} {x : Pf} (hx : (if j = 0 then gone else nets)[k]? = some x) (hr : rightB x.1 x.2 = false) : chkE (gone ++ nets) = 1 := by
  unfold chkE
  have : rights (gone ++ nets) = false := by
    unfold rights
    rw [List.all_eq_false]
    refine ⟨x, ?_, by rw [hr]; decide⟩
    have := List.mem_of_getElem? hx
    rw [List.mem_append]
    split at this
    · exact .inl this
    · exact .inr this
  rw [this]; rfl
theorem chk_ok {gone nets : List Pf} (h : AllR gone gone.length) (h2 : AllR nets nets.length) : chkE (gone ++ nets) = 0 := by
  unfold chkE
  have : rights (gone ++ nets) = true := by
    unfold rights
    have a := allR_all h
    have b := allR_all h2
    unfold rights at a b
    rw [List.all_append, a, b]; rfl
  rw [this]; rfl
theorem right_key {p : Pf} (ho : OkP p) (hr : rightB p.1 p.2 = true) : KOk p := by
  have := rightB_range hr
  exact ⟨ho, by unfold I64r; omega⟩
set_option maxHeartbeats 6400000 in
set_option maxRecDepth 100000 in
theorem ad_check (m : MV) (gone nets : List Pf) (w : World) (hg : PsAt w m.G gone) (hn : PsAt w m.N nets) (hz : gone.length + nets.length ≤ 656) :
    Calls Tryz.prog 91 #[m.V] w fun e w' => e = .returned (.int .i64 (chkE (gone ++ nets))) ∧ Below w.heap.size w w' := by
  have HG := Lib.hid hg
  have HN := Lib.hid hn
  have NB := Lib.hid (fun (j k : Nat) (x : Pf) hx hr => chk_bad (gone := gone) (nets := nets) (j := j) (k := k) (x := x) hx hr)
  have NO := Lib.hid (chk_ok (gone := gone) (nets := nets))
  generalize hE : chkE (gone ++ nets) = E at NB NO ⊢
  clear hE hg hn
  have hmm := @run_makeMap Tryz.prog
  obtain ⟨sg, cg, hsg, -⟩ := id HG.out
  obtain ⟨sn, cn, hsn, -⟩ := id HN.out
  go_enter Tryz.func91, Tryz.ntmps91
  go_upto_region 1 with (fail)
  obtain ⟨W0, hW0, q0, hb0, -⟩ := box1 w m.C 46
  rw [← hW0]
  clear hW0
  have cg0 : W0.cell? ⟨w.heap.size, 5, none⟩ = some m.G := row_cell q0 5
  have cn0 : W0.cell? ⟨w.heap.size, 16, none⟩ = some m.N := row_cell q0 16
  rw [hsg] at cg0
  rw [hsn] at cn0
  clear q0
  go_upto_region 2 with (fail)
  obtain ⟨W1, hW1⟩ : ∃ W1, W1 = W0.alloc (.map #[] 0) := ⟨_, rfl⟩
  have hb1 : Below W0.heap.size W0 W1 := by rw [hW1]; exact (Below.refl _ _).alloc (Nat.le_refl _) _
  have SM : Hid (SeenT W1 W0.heap.size []) := Lib.hid (by rw [hW1]; exact MapT.made W0)
  rw [← hW1]
  clear hW1
  have cg0 := cell_below cg0 hb1
  have cn0 := cell_below cn0 hb1
  have LM : Hid (w.heap.size ≤ W0.heap.size) := Lib.hid hb0.size
  have LM1 : Hid (W0.heap.size < W1.heap.size) := Lib.hid SM.out.lt
  have B1 := Lib.hid (below_on hb0 hb1)
  generalize W0.heap.size = mb at SM LM LM1 ⊢
  clear hb0 hb1 hmm
  go_upto_region 3 with (fail)
  obtain ⟨W2, hW2, q2, hb2, -⟩ := box1 W1 #[.slice sg gone.length cg, .slice sn nets.length cn] 23
  rw [← hW2]
  clear hW2 cg0 cn0
  have s0 : W2.cell? ⟨W1.heap.size, 0, none⟩ = some (.slice sg gone.length cg) := row_cell q2 0
  have s1 : W2.cell? ⟨W1.heap.size, 1, none⟩ = some (.slice sn nets.length cn) := row_cell q2 1
  have B2 := Lib.hid (below_on B1.out hb2)
  have SM2 := Lib.hid (SM.out.below hb2)
  have LS : Hid (∀ j : Nat, j < 2 → ∃ sa cap, W2.cell? ⟨W1.heap.size, j, none⟩ = some (.slice sa (if j = 0 then gone else nets).length cap) ∧ PsAt w (.slice sa (if j = 0 then gone else nets).length cap) (if j = 0 then gone else nets)) := Lib.hid (by
    intro j hj
    by_cases e : j = 0
    · subst e
      refine ⟨sg, cg, s0, ?_⟩
      show PsAt w (.slice sg gone.length cg) gone
      rw [← hsg]; exact HG.out
    · obtain rfl : j = 1 := by omega
      refine ⟨sn, cn, s1, ?_⟩
      show PsAt w (.slice sn nets.length cn) nets
      rw [← hsn]; exact HN.out)
  have NS : Hid (¬ W1.heap.size = mb) := Lib.hid (by have := LM1.out; omega)
  have LL : Hid (∀ j : Nat, j < 2 → (if j = 0 then 0 else gone.length) + (if j = 0 then gone else nets).length ≤ 656) := Lib.hid (by
    intro j hj
    by_cases e : j = 0
    · subst e; simp; omega
    · simp [e]; omega)
  clear q2 hb2 s0 s1 SM B1 HG HN
  generalize W1.heap.size = sb at LS NS ⊢
  have BK : Hid (∀ W, Kept (fun b => b = mb) W2 W → Below w.heap.size w W) := Lib.hid fun W k => B2.out.trans (k.below B2.out.size (by rintro g rfl; exact LM.out))
  go_wp2_with fail
  go_loopw [15] (fun k15 wr => ∃ (j : Nat) (l : List (Pf × Unit)), j ≤ 2 ∧ k15 = .int .i64 j ∧ Hid (SeenT wr mb l ∧ l.length ≤ (if j = 0 then 0 else if j = 1 then gone.length else 656) ∧ (∀ i, i < j → AllR (if i = 0 then gone else nets) (if i = 0 then gone else nets).length)) ∧ Hid (Kept (fun b => b = mb) W2 wr)) (fun k15 _ => 2 - (intOf k15).toNat)
  case atStart => exact ⟨0, [], by omega, rfl, Lib.hid ⟨SM2.out, by simp, fun i hi => by omega⟩, Lib.hid (Kept.refl _ _)⟩
  case round =>
    obtain ⟨j, l0, hj, rfl, I0, K0⟩ := hrel
    by_cases hj2 : j < 2
    · obtain ⟨sa, cap, sj, hP⟩ := LS.out j hj2
      obtain ⟨ls, hls⟩ : ∃ ls, ls = (if j = 0 then gone else nets) := ⟨_, rfl⟩
      rw [← hls] at sj hP
      have NBj := Lib.hid (fun k x => NB.out j k x)
      rw [← hls] at NBj
      have LEN : Hid (l0.length + ls.length ≤ 656) := Lib.hid (by
        have h1 := I0.out.2.1
        have h2 := LL.out j hj2
        rw [← hls] at h2
        by_cases e : j = 0
        · subst e
          rw [if_pos rfl] at h1 h2
          omega
        · obtain rfl : j = 1 := by omega
          have h1' : l0.length ≤ gone.length := by simpa using h1
          have h2' : gone.length + ls.length ≤ 656 := by simpa using h2
          omega)
      have HLS := Lib.hid hls
      clear hls
      have sj := K0.out.cell sj NS.out
      have i0 : (0 : Int) ≤ (j : Int) := by omega
      have i1 : (j : Int) < 2 := by omega
      have lk : ls.length ≤ 656 := by have := LEN.out; omega
      have HPj := Lib.hid hP
      have I0s := Lib.hid I0.out.1
      clear hP
      obtain ⟨sa', cap', hsv, hlc, hcm, hV⟩ := HPj.out
      injection hsv with e1 e2 e3
      subst e1
      have HV := Lib.hid hV
      clear hV e2
      go_wp2_with fail
      clear sj
      go_loopw [21] (fun k21 wq => ∃ (k : Nat) (l : List (Pf × Unit)), k ≤ ls.length ∧ k21 = .int .i64 k ∧ Hid (SeenT wq mb l ∧ l.length ≤ l0.length + k ∧ AllR ls k) ∧ Hid (Kept (fun b => b = mb) W2 wq)) (fun k21 _ => ls.length - (intOf k21).toNat)
      case atStart => exact ⟨0, l0, by omega, rfl, Lib.hid ⟨I0s.out, by omega, fun i x hi => by omega⟩, K0⟩
      case round =>
        obtain ⟨k, l, hk, rfl, I, K⟩ := hrel
        by_cases hlt : k < ls.length
        · obtain ⟨x, hx⟩ : ∃ x, ls[k]? = some x := ⟨_, List.getElem?_eq_getElem hlt⟩
          obtain ⟨b, off, hsa, hQ⟩ := HV.out (by omega)
          subst hsa
          have OX : Hid (OkP x) := Lib.hid (by obtain ⟨cs, _, ⟨_, h⟩, _⟩ := hQ k x hx; exact h)
          obtain ⟨x0, x1⟩ := ps_two hQ hx
          have bm : ¬ b = mb := by have := size_lt x0; have := LM.out; omega
          have x0 := K.out.cell (cell_below x0 B2.out) bm
          have x1 := K.out.cell (cell_below x1 B2.out) bm
          have HX := Lib.hid hx
          have k0 : (0 : Int) ≤ (k : Int) := by omega
          have k1 : (k : Int) < (ls.length : Int) := by omega
          have CK := Lib.hid (fun W => ip_Check x.1 x.2 W OX.out.1 OX.out.2)
          clear hQ hx bm
          go_upto_region 8 with (fail)
          obtain ⟨W3, hW3, q0, q1, hb3⟩ := box2 wr (.int .u32 x.1) (.int .i64 x.2) 53
          rw [← hW3]
          clear hW3 x0 x1
          have K3 := Lib.hid (K.out.grow hb3)
          have S3 := Lib.hid (I.out.1.below hb3)
          clear hb3
          cases hr : rightB x.1 x.2 with
          | false =>
            have EB := Lib.hid (NBj.out k x HX.out hr)
            rw [hr] at CK
            clear hr
            go_wp2_with fail
            refine (CK.out _).mono ?_
            rintro e w4 ⟨rfl, hb4⟩
            have B4 := Lib.hid (K3.out.grow hb4)
            clear hb4 q0 q1
            go_wp2_with fail
            go_ret
            exact ⟨ret_int EB.out.symm, BK.out _ B4.out⟩
          | true =>
            have KX := Lib.hid (right_key OX.out hr)
            have RX := Lib.hid hr
            rw [hr] at CK
            clear hr
            go_wp2_with fail
            refine (CK.out _).mono ?_
            rintro e w4 ⟨rfl, hb4⟩
            have q0 := cell_below q0 hb4
            have q1 := cell_below q1 hb4
            have K4 := Lib.hid (K3.out.grow hb4)
            have S4 := Lib.hid (S3.out.below hb4)
            have I2 := Lib.hid I.out.2
            clear hb4 K3 S3 I
            obtain ⟨o, hrun, hm5⟩ := S4.out.store pf_enc Tryz.underlying128 x KX.out () (by have := I2.out.1; have := LEN.out; unfold maxLen; omega) w4 rfl
            have M5 := Lib.hid hm5
            have K5 := Lib.hid (K4.out.trans (Kept.setBlock (F := fun b => b = mb) (w := w4) (b := mb) o rfl))
            clear hm5
            go_upto_region 11 with (fail)
            generalize hw5 : setBlock w4 mb o = w5 at M5 K5 ⊢
            clear hw5 q0 q1 hrun S4 K4
            have hlen := M5.out.len Tryz.underlying128 3 w5 rfl
            have ln : ¬ (((putL l x ()).length : Int) > 656) := by
              have h1 := len_put l x ()
              have h2 := I2.out.1
              have h3 := LEN.out
              split at h1 <;> omega
            have ln2 : Hid ((putL l x ()).length ≤ l0.length + (k + 1)) := Lib.hid (by
              have h1 := len_put l x ()
              have h2 := I2.out.1
              split at h1 <;> omega)
            have AR := Lib.hid (allR_step I2.out.2 HX.out RX.out)
            go_wp2_with fail
            exact ⟨⟨k + 1, _, by omega, by go_num, Lib.hid ⟨M5.out, ln2.out, AR.out⟩, K5⟩, by simp [intOf]; omega⟩
        · obtain rfl : ls.length = k := by omega
          have AL : Hid (∀ i, i < j + 1 → AllR (if i = 0 then gone else nets) (if i = 0 then gone else nets).length) := Lib.hid (by
            intro i hi
            by_cases e : i = j
            · subst e
              rw [← HLS.out]; exact I.out.2.2
            · exact I0.out.2.2 i (by omega))
          have LB : Hid (l.length ≤ (if j + 1 = 0 then 0 else if j + 1 = 1 then gone.length else 656)) := Lib.hid (by
            have h1 := I.out.2.1
            have h2 := LEN.out
            have h3 := I0.out.2.1
            have h4 := HLS.out
            by_cases e : j = 0
            · subst e
              rw [if_pos rfl] at h3 h4
              rw [if_neg (by omega), if_pos (by omega), ← h4]
              omega
            · rw [if_neg (by omega), if_neg (by omega)]
              omega)
          have SQ := Lib.hid I.out.1
          clear I
          go_wp2_with fail
          exact ⟨⟨j + 1, l, by omega, by go_num, Lib.hid ⟨SQ.out, LB.out, AL.out⟩, K⟩, by simp [intOf]; omega⟩
    · obtain rfl : j = 2 := by omega
      have E0 : Hid (E = 0) := Lib.hid (NO.out (I0.out.2.2 0 (by omega)) (I0.out.2.2 1 (by omega)))
      go_wp2_with fail
      go_ret
      exact ⟨ret_int E0.out.symm, BK.out _ K0.out⟩
end Go.Proofs.YtkoidahgbbabiaaGreat
/-
  ATTRIBUTES: Same: whether two say the same.
-/
namespace Go.Proofs.YtkoidahgbbabiaaGreat
open Go.RowKit
set_option maxHeartbeats 3200000 in
set_option maxRecDepth 100000 in
theorem sl_EqI (v u : Value) (xs ys : List Int) (w : World) (h : IntsAt w v xs) (k : IntsAt w u ys) : Calls Tryz.prog 79 #[v, u] w fun e w' => e = .returned (.bool (decide (xs = ys))) ∧ Below w.heap.size w w' := by
  obtain ⟨sa, cap, rfl, hlc, hcm, hV⟩ := h
  obtain ⟨sb, cap2, rfl, hlc2, hcm2, hU⟩ := k
  have HV := Lib.hid hV
  have HU := Lib.hid hU
  unfold maxLen at hcm hcm2
  clear hV hU
  by_cases hl : xs.length = ys.length
  · have HL := Lib.hid hl
    have j0 : ((xs.length : Int) != (ys.length : Int)) = false := by simp [hl]
    clear hl
    go_enter Tryz.func79, Tryz.ntmps79
    go_wp2_with fail
    clear j0
    go_loopw [13] (fun k13 wr => ∃ k : Nat, k ≤ xs.length ∧ k13 = .int .i64 k ∧ Hid (xs.take k = ys.take k) ∧ Hid (Below w.heap.size w wr)) (fun k13 _ => xs.length - (intOf k13).toNat)
    case atStart => exact ⟨0, by omega, rfl, Lib.hid rfl, Lib.hid (Below.refl _ _)⟩
    case round =>
      obtain ⟨k, hk, rfl, E, B⟩ := hrel
      by_cases hlt : k < xs.length
      · obtain ⟨x, hx⟩ : ∃ x, xs[k]? = some x := ⟨_, List.getElem?_eq_getElem hlt⟩
        obtain ⟨y, hy⟩ : ∃ y, ys[k]? = some y := ⟨_, List.getElem?_eq_getElem (by rw [← HL.out]; exact hlt)⟩
        obtain ⟨b1, off1, hsa, hP⟩ := HV.out (by omega)
        obtain ⟨b2, off2, hsb, hQ⟩ := HU.out (by rw [← HL.out]; omega)
        subst hsa
        subst hsb
        obtain ⟨c1, _, ⟨rfl, _⟩, k1⟩ := hP k x hx
        obtain ⟨c2, _, ⟨rfl, _⟩, k2⟩ := hQ k y hy
        have x0 := k1 0 _ rfl
        have y0 := k2 0 _ rfl
        simp only [Nat.add_zero, Nat.mul_one] at x0 y0
        have x0 := (B.out.cell (size_lt x0)).trans x0
        have y0 := (B.out.cell (size_lt y0)).trans y0
        have i0 : (0 : Int) ≤ (k : Int) := by omega
        have i1 : (k : Int) < (xs.length : Int) := by omega
        have i2 : (k : Int) < (ys.length : Int) := by have := HL.out; omega
        have HX := Lib.hid hx
        have HY := Lib.hid hy
        clear hP hQ hx hy k1 k2
        go_wp2_with fail
        by_cases he : x = y
        · have EQ : (x != y) = false := by simp [he]
          have EQ2 : (x = y) = True := by simp [he]
          have E2 : Hid (xs.take (k + 1) = ys.take (k + 1)) := Lib.hid (by rw [List.take_add_one, List.take_add_one, E.out, HX.out, HY.out, he])
          clear he
          go_quiet (fail)
          rename_i nq
          obtain ⟨wq, hwq⟩ : ∃ W, W = wr.drewN nq := ⟨_, rfl⟩
          have B2 : Hid (Below w.heap.size w wq) := Lib.hid (by rw [hwq]; exact below_on B.out ⟨rfl, rfl, rfl, Nat.le_refl _, fun _ _ => rfl⟩)
          rw [← hwq]
          clear hwq x0 y0 EQ EQ2 B
          go_wp2_with fail
          exact ⟨⟨k + 1, by omega, by go_num, E2, B2⟩, by simp [intOf]; omega⟩
        · have EQ : (x != y) = true := by rw [bne_iff_ne]; intro e; exact he (by omega)
          have EQ2 : ¬ (x = y) := by exact he
          have NE : Hid (decide (xs = ys) = false) := Lib.hid (by simp only [decide_eq_false_iff_not]; intro e; subst e; have := HX.out.symm.trans HY.out; exact he (Option.some.inj this))
          clear he
          go_quiet (fail)
          rename_i nq
          obtain ⟨wq, hwq⟩ : ∃ W, W = wr.drewN nq := ⟨_, rfl⟩
          have B2 : Hid (Below w.heap.size w wq) := Lib.hid (by rw [hwq]; exact below_on B.out ⟨rfl, rfl, rfl, Nat.le_refl _, fun _ _ => rfl⟩)
          rw [← hwq]
          clear hwq x0 y0 EQ EQ2 B
          go_wp2_with fail
          go_ret
          exact ⟨ret_bool NE.out.symm, B2.out⟩
      · obtain rfl : xs.length = k := by omega
        have E3 : Hid (decide (xs = ys) = true) := Lib.hid (by
          have := E.out
          rw [List.take_length, HL.out, List.take_length] at this
          simpa using this)
        clear E
        go_wp2_with fail
        go_ret
        exact ⟨ret_bool E3.out.symm, B.out⟩
  · have j0 : ((xs.length : Int) != (ys.length : Int)) = true := by simp; omega
    have NE : Hid (decide (xs = ys) = false) := Lib.hid (by simp only [decide_eq_false_iff_not]; intro e; exact hl (by rw [e]))
    clear hl
    go_enter Tryz.func79, Tryz.ntmps79
    go_wp2_with fail
    go_ret
    exact ⟨ret_bool NE.out.symm, Below.refl _ _⟩
set_option maxHeartbeats 3200000 in
set_option maxRecDepth 100000 in
theorem sl_EqB (v u : Value) (xs ys : List Nat) (w : World) (h : BytesAt w v xs) (k : BytesAt w u ys) : Calls Tryz.prog 84 #[v, u] w fun e w' => e = .returned (.bool (decide (xs = ys))) ∧ Below w.heap.size w w' := by
  obtain ⟨sa, cap, rfl, hlc, hcm, hV⟩ := h
  obtain ⟨sb, cap2, rfl, hlc2, hcm2, hU⟩ := k
  have HV := Lib.hid hV
  have HU := Lib.hid hU
  unfold maxLen at hcm hcm2
  clear hV hU
  by_cases hl : xs.length = ys.length
  · have HL := Lib.hid hl
    have j0 : ((xs.length : Int) != (ys.length : Int)) = false := by simp [hl]
    clear hl
    go_enter Tryz.func84, Tryz.ntmps84
    go_wp2_with fail
    clear j0
    go_loopw [13] (fun k13 wr => ∃ k : Nat, k ≤ xs.length ∧ k13 = .int .i64 k ∧ Hid (xs.take k = ys.take k) ∧ Hid (Below w.heap.size w wr)) (fun k13 _ => xs.length - (intOf k13).toNat)
    case atStart => exact ⟨0, by omega, rfl, Lib.hid rfl, Lib.hid (Below.refl _ _)⟩
    case round =>
      obtain ⟨k, hk, rfl, E, B⟩ := hrel
      by_cases hlt : k < xs.length
      · obtain ⟨x, hx⟩ : ∃ x, xs[k]? = some x := ⟨_, List.getElem?_eq_getElem hlt⟩
        obtain ⟨y, hy⟩ : ∃ y, ys[k]? = some y := ⟨_, List.getElem?_eq_getElem (by rw [← HL.out]; exact hlt)⟩
        obtain ⟨b1, off1, hsa, hP⟩ := HV.out (by omega)
        obtain ⟨b2, off2, hsb, hQ⟩ := HU.out (by rw [← HL.out]; omega)
        subst hsa
        subst hsb
        obtain ⟨c1, _, ⟨rfl, _⟩, k1⟩ := hP k x hx
        obtain ⟨c2, _, ⟨rfl, _⟩, k2⟩ := hQ k y hy
        have x0 := k1 0 _ rfl
        have y0 := k2 0 _ rfl
        simp only [Nat.add_zero, Nat.mul_one] at x0 y0
        have x0 := (B.out.cell (size_lt x0)).trans x0
        have y0 := (B.out.cell (size_lt y0)).trans y0
        have i0 : (0 : Int) ≤ (k : Int) := by omega
        have i1 : (k : Int) < (xs.length : Int) := by omega
        have i2 : (k : Int) < (ys.length : Int) := by have := HL.out; omega
        have HX := Lib.hid hx
        have HY := Lib.hid hy
        clear hP hQ hx hy k1 k2
        go_wp2_with fail
        by_cases he : x = y
        · have EQ : ((x : Int) != (y : Int)) = false := by simp [he]
          have EQ2 : ((x : Int) = (y : Int)) = True := by simp [he]
          have E2 : Hid (xs.take (k + 1) = ys.take (k + 1)) := Lib.hid (by rw [List.take_add_one, List.take_add_one, E.out, HX.out, HY.out, he])
          clear he
          go_quiet (fail)
          rename_i nq
          obtain ⟨wq, hwq⟩ : ∃ W, W = wr.drewN nq := ⟨_, rfl⟩
          have B2 : Hid (Below w.heap.size w wq) := Lib.hid (by rw [hwq]; exact below_on B.out ⟨rfl, rfl, rfl, Nat.le_refl _, fun _ _ => rfl⟩)
          rw [← hwq]
          clear hwq x0 y0 EQ EQ2 B
          go_wp2_with fail
          exact ⟨⟨k + 1, by omega, by go_num, E2, B2⟩, by simp [intOf]; omega⟩
        · have EQ : ((x : Int) != (y : Int)) = true := by rw [bne_iff_ne]; intro e; exact he (by omega)
          have EQ2 : ¬ ((x : Int) = (y : Int)) := by intro e; exact he (by omega)
          have NE : Hid (decide (xs = ys) = false) := Lib.hid (by simp only [decide_eq_false_iff_not]; intro e; subst e; have := HX.out.symm.trans HY.out; exact he (Option.some.inj this))
          clear he
          go_quiet (fail)
          rename_i nq
          obtain ⟨wq, hwq⟩ : ∃ W, W = wr.drewN nq := ⟨_, rfl⟩
          have B2 : Hid (Below w.heap.size w wq) := Lib.hid (by rw [hwq]; exact below_on B.out ⟨rfl, rfl, rfl, Nat.le_refl _, fun _ _ => rfl⟩)
          rw [← hwq]
          clear hwq x0 y0 EQ EQ2 B
          go_wp2_with fail
          go_ret
          exact ⟨ret_bool NE.out.symm, B2.out⟩
      · obtain rfl : xs.length = k := by omega
        have E3 : Hid (decide (xs = ys) = true) := Lib.hid (by
          have := E.out
          rw [List.take_length, HL.out, List.take_length] at this
          simpa using this)
        clear E
        go_wp2_with fail
        go_ret
        exact ⟨ret_bool E3.out.symm, B.out⟩
  · have j0 : ((xs.length : Int) != (ys.length : Int)) = true := by simp; omega
    have NE : Hid (decide (xs = ys) = false) := Lib.hid (by simp only [decide_eq_false_iff_not]; intro e; exact hl (by rw [e]))
    clear hl
    go_enter Tryz.func84, Tryz.ntmps84
    go_wp2_with fail
    go_ret
    exact ⟨ret_bool NE.out.symm, Below.refl _ _⟩
end Go.Proofs.YtkoidahgbbabiaaGreat
/-
  ATTRIBUTES: Same: whether two say the same.
-/
namespace Go.Proofs.YtkoidahgbbabiaaGreat
open Go.RowKit
theorem eqF_cons {P : Program} {w : World} {d : Nat} {xs ys : Array Value} {f : Field} {fs : List Field} {a b : Value} {r rr : Bool} (hn : f.name ≠ "_") (ha : (part f.type xs f.offset).run P w = .ok a w) (hb : (part f.type ys f.offset).run P w = .ok b w)
    (hr : (Op.equalIn d f.type a b).run P w = .ok r w) (hrr : (Op.eqFields d xs ys fs).run P w = .ok rr w) : (Op.eqFields d xs ys (f :: fs)).run P w = .ok (r && rr) w := by
  simp only [Op.eqFields, hn, ne_eq, not_false_eq_true, if_true, Sem.run_bind, ha, hb, hr, Result.andThen_ok]
  cases r
  · simp
  · simpa using hrr
theorem eqF_nil {P : Program} {w : World} {d : Nat} {xs ys : Array Value} : (Op.eqFields d xs ys []).run P w = .ok true w := by simp [Op.eqFields]
theorem undPlain : Tryz.prog.underlying 151 = some (.struct (Tryz.prog.fieldsOf 151)) := by kernel_rfl
theorem stoPlain : Tryz.prog.stoodInHeld 151 = false := by kernel_rfl
def plB (a b : At) : Bool := a.has == b.has && (a.origin == b.origin && (a.med == b.med && (a.loc == b.loc && (a.aggrAs == b.aggrAs && ((a.hop : Int) == (b.hop : Int) && ((a.aggrId : Int) == (b.aggrId : Int) && true))))))
abbrev plV (a : At) : Value := .agg #[.int .i64 a.has, .int .i64 a.origin, .int .i64 a.med, .int .i64 a.loc, .int .i64 a.aggrAs, .int .u32 a.hop, .int .u32 a.aggrId]
set_option maxRecDepth 100000 in
theorem run_eql_plain (a b : At) (w : World) : (binOp .eql 151 (plV a) (plV b)).run Tryz.prog w = .ok (.bool (plB a b)) w := by
  rw [run_eql_struct, run_equalIn_struct w 9999 151 _ _ undPlain stoPlain]
  rw [show (Tryz.prog.fieldsOf 151).toList = _ from by rw [Program.fieldsOf, Tryz.underlying151]]
  have h : ∀ x : Result Bool, x = .ok (plB a b) w → (x.andThen fun b w' => .ok (.bool b) w') = Result.ok (Value.bool (plB a b)) w := fun x hx => by rw [hx]; rfl
  refine h _ ?_
  unfold plB
  refine eqF_cons (by decide) (by kernel_rfl) (by kernel_rfl) (run_equalIn_int w 9998 3 .i64 .i64 _ _ Tryz.underlying3) ?_
  refine eqF_cons (by decide) (by kernel_rfl) (by kernel_rfl) (run_equalIn_int w 9998 3 .i64 .i64 _ _ Tryz.underlying3) ?_
  refine eqF_cons (by decide) (by kernel_rfl) (by kernel_rfl) (run_equalIn_int w 9998 3 .i64 .i64 _ _ Tryz.underlying3) ?_
  refine eqF_cons (by decide) (by kernel_rfl) (by kernel_rfl) (run_equalIn_int w 9998 3 .i64 .i64 _ _ Tryz.underlying3) ?_
  refine eqF_cons (by decide) (by kernel_rfl) (by kernel_rfl) (run_equalIn_int w 9998 3 .i64 .i64 _ _ Tryz.underlying3) ?_
  refine eqF_cons (by decide) (by kernel_rfl) (by kernel_rfl) (run_equalIn_int w 9998 36 .u32 .u32 _ _ Tryz.underlying36) ?_
  refine eqF_cons (by decide) (by kernel_rfl) (by kernel_rfl) (run_equalIn_int w 9998 36 .u32 .u32 _ _ Tryz.underlying36) ?_
  exact eqF_nil
theorem results_Plain (tmps : Array Value) (W : World) (b : Nat) (C : Array Value) (hC : C.size = 7) (h4 : tmps.getD 2 undef = .pointer (some ⟨b, 0, none⟩)) (hb : W.heap[b]? = some (.cells C 151 (0, 0))) :
    (results Tryz.f78 tmps).run Tryz.prog W = .ok (.agg C) W := results_cell_row Tryz.results78 tmps W b 151 C (0, 0) _ h4 hb Tryz.underlying151 rfl (by rw [hC]; kernel_rfl)
set_option maxHeartbeats 1600000 in
set_option maxRecDepth 100000 in
theorem at_plain (a : At) (vp vc vo : Value) (w : World) : Calls Tryz.prog 78 #[.agg (atV a vp vc vo).toArray] w fun e w' => e = .returned (plV a) ∧ Below w.heap.size w w' := by
  show Calls Tryz.prog 78 #[.agg #[.int .i64 a.has, .int .i64 a.origin, vp, .int .u32 a.hop, .int .i64 a.med, .int .i64 a.loc, .int .i64 a.aggrAs, .int .u32 a.aggrId, vc, vo]] w _
  go_enter Tryz.func78, Tryz.ntmps78
  go_upto_region 1 with (fail)
  obtain ⟨W0, hW0, q0, q1, hb0⟩ := boxTwo w #[.int .i64 a.has, .int .i64 a.origin, vp, .int .u32 a.hop, .int .i64 a.med, .int .i64 a.loc, .int .i64 a.aggrAs, .int .u32 a.aggrId, vc, vo] 42 #[.int .i64 0, .int .i64 0, .int .i64 0, .int .i64 0, .int .i64 0, .int .u32 0, .int .u32 0] 151
  rw [← hW0]
  clear hW0
  have c0 : W0.cell? ⟨w.heap.size, 0, none⟩ = some (.int .i64 a.has) := row_cell q0 0
  have c1 : W0.cell? ⟨w.heap.size, 1, none⟩ = some (.int .i64 a.origin) := row_cell q0 1
  have c3 : W0.cell? ⟨w.heap.size, 3, none⟩ = some (.int .u32 a.hop) := row_cell q0 3
  have c4 : W0.cell? ⟨w.heap.size, 4, none⟩ = some (.int .i64 a.med) := row_cell q0 4
  have c5 : W0.cell? ⟨w.heap.size, 5, none⟩ = some (.int .i64 a.loc) := row_cell q0 5
  have c6 : W0.cell? ⟨w.heap.size, 6, none⟩ = some (.int .i64 a.aggrAs) := row_cell q0 6
  have c7 : W0.cell? ⟨w.heap.size, 7, none⟩ = some (.int .u32 a.aggrId) := row_cell q0 7
  have Q1 := Lib.hid q1
  have HB := Lib.hid hb0
  clear q0 q1 hb0
  go_wp2_with (with_reducible refine halt_at (X := .store 151 (.tmp 2) (.tmp 17)) ?_ ?_; (· rfl))
  unfold Halt
  refine st_row rfl 151 _ _ rfl (w.heap.size + 1) rfl 151 #[.int .i64 0, .int .i64 0, .int .i64 0, .int .i64 0, .int .i64 0, .int .u32 0, .int .u32 0] #[.int .i64 a.has, .int .i64 a.origin, .int .i64 a.med, .int .i64 a.loc, .int .i64 a.aggrAs, .int .u32 a.hop, .int .u32 a.aggrId] rfl Q1.out (by kernel_rfl) rfl (by simp [Value.oneCell']) ?_
  go_wp2_with fail
  refine bodyPost_ret (results_Plain _ _ (w.heap.size + 1) _ ?_ ?_ (setRow_heap _ _ _ _ _ _ Q1.out)) rfl ⟨rfl, below_setRow HB.out (Nat.le_succ _) _⟩ <;> rfl
theorem dec_and {α β : Type} [DecidableEq α] [DecidableEq β] (x y : α) (l m : β) : decide ((x, l) = (y, m)) = (decide (x = y) && decide (l = m)) := by
  by_cases h1 : x = y <;> by_cases h2 : l = m <;> simp [h1, h2]
set_option maxHeartbeats 1600000 in
set_option maxRecDepth 100000 in
theorem at_same1 (x y : Sg) (u v : Value) (w : World) (hu : IntsAt w u x.2) (hv : IntsAt w v y.2) :
    Calls Tryz.prog 81 #[.agg #[.bool x.1, u], .agg #[.bool y.1, v]] w fun e w' => e = .returned (.bool (decide (x = y))) ∧ Below w.heap.size w w' := by
  obtain ⟨x, l⟩ := x
  obtain ⟨y, m⟩ := y
  simp only at hu hv ⊢
  rw [dec_and]
  obtain ⟨su, cu, hu1, -⟩ := id hu
  obtain ⟨sv, cv, hv1, -⟩ := id hv
  subst hu1
  subst hv1
  have EI := Lib.hid (fun W (hb : Below w.heap.size w W) => sl_EqI _ _ l m W (hu.below hb) (hv.below hb))
  clear hu hv
  generalize hd : decide (l = m) = d at EI ⊢
  clear hd
  generalize he0 : decide (x = y) = e0
  have HE := Lib.hid he0
  clear he0
  go_enter Tryz.func81, Tryz.ntmps81
  go_upto_region 1 with (fail)
  obtain ⟨W0, hW0, q0, q1, hb0⟩ := boxTwo w #[.bool x, .slice su l.length cu] 121 #[.bool y, .slice sv m.length cv] 121
  rw [← hW0]
  clear hW0
  have c0 : W0.cell? ⟨w.heap.size, 0, none⟩ = some (.bool x) := row_cell q0 0
  have c1 : W0.cell? ⟨w.heap.size, 1, none⟩ = some (.slice su l.length cu) := row_cell q0 1
  have d0 : W0.cell? ⟨w.heap.size + 1, 0, none⟩ = some (.bool y) := row_cell q1 0
  have d1 : W0.cell? ⟨w.heap.size + 1, 1, none⟩ = some (.slice sv m.length cv) := row_cell q1 1
  have HB := Lib.hid hb0
  clear q0 q1 hb0
  cases e0 with
  | true =>
    obtain rfl : x = y := of_decide_eq_true HE.out
    have e1 : (x == x) = true := by simp
    go_wp2_with (go_at_call 79; refine (EI.out _ HB.out).mono ?_; rintro e w1 ⟨rfl, hb⟩)
    go_ret
    exact ⟨by simp, below_on HB.out hb⟩
  | false =>
    have e2 : ¬ (x = y) := of_decide_eq_false HE.out
    have e1 : (x == y) = false := by simpa using e2
    go_wp2_with fail
    go_ret
    exact ⟨rfl, HB.out⟩
set_option maxHeartbeats 1600000 in
set_option maxRecDepth 100000 in
theorem at_same2 (x y : Oth) (u v : Value) (w : World) (hu : BytesAt w u x.2) (hv : BytesAt w v y.2) :
    Calls Tryz.prog 83 #[.agg #[.int .i64 x.1, u], .agg #[.int .i64 y.1, v]] w fun e w' => e = .returned (.bool (decide (x = y))) ∧ Below w.heap.size w w' := by
  obtain ⟨x, l⟩ := x
  obtain ⟨y, m⟩ := y
  simp only at hu hv ⊢
  rw [dec_and]
  obtain ⟨su, cu, hu1, -⟩ := id hu
  obtain ⟨sv, cv, hv1, -⟩ := id hv
  subst hu1
  subst hv1
  have EI := Lib.hid (fun W (hb : Below w.heap.size w W) => sl_EqB _ _ l m W (hu.below hb) (hv.below hb))
  clear hu hv
  generalize hd : decide (l = m) = d at EI ⊢
  clear hd
  generalize he0 : decide (x = y) = e0
  have HE := Lib.hid he0
  clear he0
  go_enter Tryz.func83, Tryz.ntmps83
  go_upto_region 1 with (fail)
  obtain ⟨W0, hW0, q0, q1, hb0⟩ := boxTwo w #[.int .i64 x, .slice su l.length cu] 159 #[.int .i64 y, .slice sv m.length cv] 159
  rw [← hW0]
  clear hW0
  have c0 : W0.cell? ⟨w.heap.size, 0, none⟩ = some (.int .i64 x) := row_cell q0 0
  have c1 : W0.cell? ⟨w.heap.size, 1, none⟩ = some (.slice su l.length cu) := row_cell q0 1
  have d0 : W0.cell? ⟨w.heap.size + 1, 0, none⟩ = some (.int .i64 y) := row_cell q1 0
  have d1 : W0.cell? ⟨w.heap.size + 1, 1, none⟩ = some (.slice sv m.length cv) := row_cell q1 1
  have HB := Lib.hid hb0
  clear q0 q1 hb0
  cases e0 with
  | true =>
    obtain rfl : x = y := of_decide_eq_true HE.out
    have e1 : (x == x) = true := by simp
    go_wp2_with (go_at_call 84; refine (EI.out _ HB.out).mono ?_; rintro e w1 ⟨rfl, hb⟩)
    go_ret
    exact ⟨by simp, below_on HB.out hb⟩
  | false =>
    have e2 : ¬ (x = y) := of_decide_eq_false HE.out
    have e1 : (x == y) = false := by simpa using e2
    go_wp2_with fail
    go_ret
    exact ⟨rfl, HB.out⟩
set_option maxHeartbeats 3200000 in
set_option maxRecDepth 100000 in
theorem at_equalS (v u : Value) (xs ys : List Sg) (w : World) (h : PathAt w v xs) (k : PathAt w u ys) : Calls Tryz.prog 80 #[v, u, .func (.func 81) #[] #[]] w fun e w' => e = .returned (.bool (decide (xs = ys))) ∧ Below w.heap.size w w' := by
  obtain ⟨sa, cap, rfl, hlc, hcm, hV⟩ := h
  obtain ⟨sb, cap2, rfl, hlc2, hcm2, hU⟩ := k
  have HV := Lib.hid hV
  have HU := Lib.hid hU
  unfold maxLen at hcm hcm2
  clear hV hU
  by_cases hl : xs.length = ys.length
  · have HL := Lib.hid hl
    have j0 : ((xs.length : Int) != (ys.length : Int)) = false := by simp [hl]
    clear hl
    go_enter Tryz.func80, Tryz.ntmps80
    go_wp2_with fail
    clear j0
    go_loopw [17] (fun k13 wr => ∃ k : Nat, k ≤ xs.length ∧ k13 = .int .i64 k ∧ Hid (xs.take k = ys.take k) ∧ Hid (Below w.heap.size w wr)) (fun k13 _ => xs.length - (intOf k13).toNat)
    case atStart => exact ⟨0, by omega, rfl, Lib.hid rfl, Lib.hid (Below.refl _ _)⟩
    case round =>
      obtain ⟨k, hk, rfl, E, B⟩ := hrel
      by_cases hlt : k < xs.length
      · obtain ⟨x, hx⟩ : ∃ x, xs[k]? = some x := ⟨_, List.getElem?_eq_getElem hlt⟩
        obtain ⟨y, hy⟩ : ∃ y, ys[k]? = some y := ⟨_, List.getElem?_eq_getElem (by rw [← HL.out]; exact hlt)⟩
        obtain ⟨b1, off1, hsa, hP⟩ := HV.out (by omega)
        obtain ⟨b2, off2, hsb, hQ⟩ := HU.out (by rw [← HL.out]; omega)
        subst hsa
        subst hsb
        obtain ⟨c1, _, ⟨u1, rfl, a1⟩, k1⟩ := hP k x hx
        obtain ⟨c2, _, ⟨u2, rfl, a2⟩, k2⟩ := hQ k y hy
        have SM := Lib.hid (fun W (hb : Below w.heap.size w W) => at_same1 x y u1 u2 W (a1.below hb) (a2.below hb))
        obtain ⟨su, cu, rfl, -⟩ := id a1
        obtain ⟨sv, cv, rfl, -⟩ := id a2
        have x0 := k1 0 _ rfl
        have x1 := k1 1 _ rfl
        have y0 := k2 0 _ rfl
        have y1 := k2 1 _ rfl
        simp only [Nat.add_zero] at x0 y0
        have x0 := (B.out.cell (size_lt x0)).trans x0
        have y0 := (B.out.cell (size_lt y0)).trans y0
        have x1 := (B.out.cell (size_lt x1)).trans x1
        have y1 := (B.out.cell (size_lt y1)).trans y1
        have i0 : (0 : Int) ≤ (k : Int) := by omega
        have i1 : (k : Int) < (xs.length : Int) := by omega
        have i2 : (k : Int) < (ys.length : Int) := by have := HL.out; omega
        have HX := Lib.hid hx
        have HY := Lib.hid hy
        clear hP hQ hx hy k1 k2 a1 a2
        generalize hd : decide (x = y) = d at SM
        have HD := Lib.hid hd
        clear hd
        go_upto_region 6 with (fail)
        obtain ⟨W3, hW3, r3, hb3, -⟩ := box1 wr #[.bool x.1, .slice su x.2.length cu] 121
        rw [← hW3]
        clear hW3
        have R30 : W3.cell? ⟨wr.heap.size, 0, none⟩ = some (.bool x.1) := row_cell r3 0
        have R31 : W3.cell? ⟨wr.heap.size, 1, none⟩ = some (.slice su x.2.length cu) := row_cell r3 1
        have y0 := cell_below y0 hb3
        have y1 := cell_below y1 hb3
        have B3 := Lib.hid (below_on B.out hb3)
        clear x0 x1 r3 hb3
        go_upto_region 7 with (fail)
        obtain ⟨W4, hW4, r4, hb4, -⟩ := box1 W3 #[.bool y.1, .slice sv y.2.length cv] 121
        rw [← hW4]
        clear hW4
        have R30 := cell_below R30 hb4
        have R31 := cell_below R31 hb4
        have R40 : W4.cell? ⟨W3.heap.size, 0, none⟩ = some (.bool y.1) := row_cell r4 0
        have R41 : W4.cell? ⟨W3.heap.size, 1, none⟩ = some (.slice sv y.2.length cv) := row_cell r4 1
        have B4 := Lib.hid (below_on B3.out hb4)
        clear y0 y1 r4 hb4
        go_wp2_with fail
        refine (SM.out _ B4.out).mono ?_
        rintro e w5 ⟨rfl, hb⟩
        have B5 := Lib.hid (below_on B4.out hb)
        clear hb R30 R31 R40 R41
        cases d
        · have NE : Hid (decide (xs = ys) = false) := Lib.hid (by simp only [decide_eq_false_iff_not]; intro e; subst e; have := HX.out.symm.trans HY.out; have := Option.some.inj this; simpa [this] using HD.out)
          go_wp2_with fail
          go_ret
          exact ⟨ret_bool NE.out.symm, B5.out⟩
        · have E2 : Hid (xs.take (k + 1) = ys.take (k + 1)) := Lib.hid (by rw [List.take_add_one, List.take_add_one, E.out, HX.out, HY.out, of_decide_eq_true HD.out])
          go_wp2_with fail
          exact ⟨⟨k + 1, by omega, by go_num, E2, B5⟩, by simp [intOf]; omega⟩
      · obtain rfl : xs.length = k := by omega
        have E3 : Hid (decide (xs = ys) = true) := Lib.hid (by
          have := E.out
          rw [List.take_length, HL.out, List.take_length] at this
          simpa using this)
        clear E
        go_wp2_with fail
        go_ret
        exact ⟨ret_bool E3.out.symm, B.out⟩
  · have j0 : ((xs.length : Int) != (ys.length : Int)) = true := by simp; omega
    have NE : Hid (decide (xs = ys) = false) := Lib.hid (by simp only [decide_eq_false_iff_not]; intro e; exact hl (by rw [e]))
    clear hl
    go_enter Tryz.func80, Tryz.ntmps80
    go_wp2_with fail
    go_ret
    exact ⟨ret_bool NE.out.symm, Below.refl _ _⟩
set_option maxHeartbeats 3200000 in
set_option maxRecDepth 100000 in
theorem at_equalO (v u : Value) (xs ys : List Oth) (w : World) (h : OthersAt w v xs) (k : OthersAt w u ys) : Calls Tryz.prog 82 #[v, u, .func (.func 83) #[] #[]] w fun e w' => e = .returned (.bool (decide (xs = ys))) ∧ Below w.heap.size w w' := by
  obtain ⟨sa, cap, rfl, hlc, hcm, hV⟩ := h
  obtain ⟨sb, cap2, rfl, hlc2, hcm2, hU⟩ := k
  have HV := Lib.hid hV
  have HU := Lib.hid hU
  unfold maxLen at hcm hcm2
  clear hV hU
  by_cases hl : xs.length = ys.length
  · have HL := Lib.hid hl
    have j0 : ((xs.length : Int) != (ys.length : Int)) = false := by simp [hl]
    clear hl
    go_enter Tryz.func82, Tryz.ntmps82
    go_wp2_with fail
    clear j0
    go_loopw [17] (fun k13 wr => ∃ k : Nat, k ≤ xs.length ∧ k13 = .int .i64 k ∧ Hid (xs.take k = ys.take k) ∧ Hid (Below w.heap.size w wr)) (fun k13 _ => xs.length - (intOf k13).toNat)
    case atStart => exact ⟨0, by omega, rfl, Lib.hid rfl, Lib.hid (Below.refl _ _)⟩
    case round =>
      obtain ⟨k, hk, rfl, E, B⟩ := hrel
      by_cases hlt : k < xs.length
      · obtain ⟨x, hx⟩ : ∃ x, xs[k]? = some x := ⟨_, List.getElem?_eq_getElem hlt⟩
        obtain ⟨y, hy⟩ : ∃ y, ys[k]? = some y := ⟨_, List.getElem?_eq_getElem (by rw [← HL.out]; exact hlt)⟩
        obtain ⟨b1, off1, hsa, hP⟩ := HV.out (by omega)
        obtain ⟨b2, off2, hsb, hQ⟩ := HU.out (by rw [← HL.out]; omega)
        subst hsa
        subst hsb
        obtain ⟨c1, _, ⟨u1, rfl, _, a1⟩, k1⟩ := hP k x hx
        obtain ⟨c2, _, ⟨u2, rfl, _, a2⟩, k2⟩ := hQ k y hy
        have SM := Lib.hid (fun W (hb : Below w.heap.size w W) => at_same2 x y u1 u2 W (a1.below hb) (a2.below hb))
        obtain ⟨su, cu, rfl, -⟩ := id a1
        obtain ⟨sv, cv, rfl, -⟩ := id a2
        have x0 := k1 0 _ rfl
        have x1 := k1 1 _ rfl
        have y0 := k2 0 _ rfl
        have y1 := k2 1 _ rfl
        simp only [Nat.add_zero] at x0 y0
        have x0 := (B.out.cell (size_lt x0)).trans x0
        have y0 := (B.out.cell (size_lt y0)).trans y0
        have x1 := (B.out.cell (size_lt x1)).trans x1
        have y1 := (B.out.cell (size_lt y1)).trans y1
        have i0 : (0 : Int) ≤ (k : Int) := by omega
        have i1 : (k : Int) < (xs.length : Int) := by omega
        have i2 : (k : Int) < (ys.length : Int) := by have := HL.out; omega
        have HX := Lib.hid hx
        have HY := Lib.hid hy
        clear hP hQ hx hy k1 k2 a1 a2
        generalize hd : decide (x = y) = d at SM
        have HD := Lib.hid hd
        clear hd
        go_upto_region 6 with (fail)
        obtain ⟨W3, hW3, r3, hb3, -⟩ := box1 wr #[.int .i64 x.1, .slice su x.2.length cu] 159
        rw [← hW3]
        clear hW3
        have R30 : W3.cell? ⟨wr.heap.size, 0, none⟩ = some (.int .i64 x.1) := row_cell r3 0
        have R31 : W3.cell? ⟨wr.heap.size, 1, none⟩ = some (.slice su x.2.length cu) := row_cell r3 1
        have y0 := cell_below y0 hb3
        have y1 := cell_below y1 hb3
        have B3 := Lib.hid (below_on B.out hb3)
        clear x0 x1 r3 hb3
        go_upto_region 7 with (fail)
        obtain ⟨W4, hW4, r4, hb4, -⟩ := box1 W3 #[.int .i64 y.1, .slice sv y.2.length cv] 159
        rw [← hW4]
        clear hW4
        have R30 := cell_below R30 hb4
        have R31 := cell_below R31 hb4
        have R40 : W4.cell? ⟨W3.heap.size, 0, none⟩ = some (.int .i64 y.1) := row_cell r4 0
        have R41 : W4.cell? ⟨W3.heap.size, 1, none⟩ = some (.slice sv y.2.length cv) := row_cell r4 1
        have B4 := Lib.hid (below_on B3.out hb4)
        clear y0 y1 r4 hb4
        go_wp2_with fail
        refine (SM.out _ B4.out).mono ?_
        rintro e w5 ⟨rfl, hb⟩
        have B5 := Lib.hid (below_on B4.out hb)
        clear hb R30 R31 R40 R41
        cases d
        · have NE : Hid (decide (xs = ys) = false) := Lib.hid (by simp only [decide_eq_false_iff_not]; intro e; subst e; have := HX.out.symm.trans HY.out; have := Option.some.inj this; simpa [this] using HD.out)
          go_wp2_with fail
          go_ret
          exact ⟨ret_bool NE.out.symm, B5.out⟩
        · have E2 : Hid (xs.take (k + 1) = ys.take (k + 1)) := Lib.hid (by rw [List.take_add_one, List.take_add_one, E.out, HX.out, HY.out, of_decide_eq_true HD.out])
          go_wp2_with fail
          exact ⟨⟨k + 1, by omega, by go_num, E2, B5⟩, by simp [intOf]; omega⟩
      · obtain rfl : xs.length = k := by omega
        have E3 : Hid (decide (xs = ys) = true) := Lib.hid (by
          have := E.out
          rw [List.take_length, HL.out, List.take_length] at this
          simpa using this)
        clear E
        go_wp2_with fail
        go_ret
        exact ⟨ret_bool E3.out.symm, B.out⟩
  · have j0 : ((xs.length : Int) != (ys.length : Int)) = true := by simp; omega
    have NE : Hid (decide (xs = ys) = false) := Lib.hid (by simp only [decide_eq_false_iff_not]; intro e; exact hl (by rw [e]))
    clear hl
    go_enter Tryz.func82, Tryz.ntmps82
    go_wp2_with fail
    go_ret
    exact ⟨ret_bool NE.out.symm, Below.refl _ _⟩
end Go.Proofs.YtkoidahgbbabiaaGreat
