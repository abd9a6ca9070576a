/-
  SLICES OF PREFIXES: a whole slice appended to one's own; slices.Grow of none; slices.Concat of two.
-/
import Derived.Test.YtadlecnlgkhneaaPsF
import Derived.Lib.AppendZerosOnto
namespace Go.Proofs.Ytadlecnlgkhneaa
open Go.RowKit

section
variable {P : Program} {w : World}
theorem run_append_noneP (base : Nat) (t ty e : TypeId) (i : TypeInfo) (size c : Nat) (ht : P.underlying t = some (.slice e)) (hi : P.info? e = some i)
    (v : Value) (n : Nat) (xs : List Value) (hown : w.ownsRow base e size v n xs) :
    (Builtin.append_ #[t, t] ty #[v, .slice none 0 c]).run P w = .ok v w := by
  rcases hown.2 with ⟨rfl, rfl⟩ | ⟨g, cap, cur, rfl, _, _, hnc, _⟩
  · simp [Builtin.append_, run_underlying ht, sizeOf, typeInfo, hi, Builtin.lenOf, Builtin.firstCells]
  · simp [Builtin.append_, run_underlying ht, sizeOf, typeInfo, hi, Builtin.lenOf, Builtin.firstCells, hnc, storeCells]
theorem wpList_append_noneP {ops : Array Oper} {rest : List Oper} {o : Oper} {a : Act} {Q : Exit → Act → World → Prop} (hgd : o.guard = none) (s x : Operand) (t : TypeId)
    (ho : o.op = .call { callee := .builtin .append, args := #[s, x], argTypes := #[t, t] })
    (base : Nat) (e : TypeId) (i : TypeInfo) (size c : Nat) (ht : P.underlying t = some (.slice e)) (hi : P.info? e = some i)
    (v : Value) (n : Nat) (xs : List Value) (hs : a.eval s = v) (hown : w.ownsRow base e size v n xs) (hx : a.eval x = .slice none 0 c)
    (h : wpList P ops Q rest (a.put o.dst v) w) : wpList P ops Q (o :: rest) a w := by
  refine wpList_plain hgd fun K hK => ?_
  have hr := run_append_noneP (P := P) (w := w) base t o.type e i size c ht hi v n xs hown
  unfold Oper.wp execOp
  simp only [ho, resolve, invoke, builtin, Sem.run_bind, Sem.run_pure, Result.andThen_ok, List.map_toArray, List.map_cons, List.map_nil, hs, hx, hr]
  exact hK _ _ h
/-- an append whose run is known. -/
theorem wpList_append_run {ops : Array Oper} {rest : List Oper} {o : Oper} {a : Act} {Q : Exit → Act → World → Prop} (hgd : o.guard = none) (s x : Operand) (ts : Array TypeId)
    (ho : o.op = .call { callee := .builtin .append, args := #[s, x], argTypes := ts }) (vs vx v : Value) (w' : World) (hs : a.eval s = vs) (hx : a.eval x = vx) (hr : (Builtin.append_ ts o.type #[vs, vx]).run P w = .ok v w')
    (h : wpList P ops Q rest (a.put o.dst v) w') : wpList P ops Q (o :: rest) a w := by
  refine wpList_plain hgd fun K hK => ?_
  unfold Oper.wp execOp
  simp only [ho, resolve, invoke, builtin, Sem.run_bind, Sem.run_pure, Result.andThen_ok, List.map_toArray, List.map_cons, List.map_nil, hs, hx, hr]
  exact hK _ _ h
end
theorem ps_cells {w : World} {v : Value} {xs : List Pf} (h : PsAt w v xs) : ∃ (sa : Option Addr) (cap : Nat), v = .slice sa xs.length cap ∧ (sa = none → xs = []) ∧ ∀ ad, sa = some ad → ∀ q u, (xs.flatMap encP)[q]? = some u → w.cell? (ad.add q) = some u := by
  obtain ⟨sa, cap, h1, h2, h3, h4⟩ := h
  refine ⟨sa, cap, h1, fun e => ?_, fun ad e q u hq => ?_⟩
  · by_cases h0 : 0 < xs.length
    · obtain ⟨b, off, h5, _⟩ := h4 h0
      rw [e] at h5; cases h5
    · exact List.length_eq_zero_iff.1 (by omega)
  · have hql := (List.getElem?_eq_some_iff.1 hq).1
    rw [flat_len encP_len] at hql
    obtain ⟨b, off, h5, h6⟩ := h4 (by omega)
    rw [e] at h5
    injection h5 with h5
    subst h5
    have hi : q / 2 < xs.length := by omega
    have hf := flat_get encP_len xs (q / 2) _ (List.getElem?_eq_getElem hi) (q % 2) (by omega)
    have e : q / 2 * 2 + q % 2 = q := by omega
    rw [e, hq] at hf
    obtain ⟨cs, -, ⟨rfl, -⟩, hc⟩ := h6 (q / 2) _ (List.getElem?_eq_getElem hi)
    have := hc (q % 2) u hf.symm
    rw [Nat.add_assoc, e] at this
    rw [Addr.add_mid]
    exact this
/-- a whole slice is appended to one's own. -/
theorem wpList_app {ops : Array Oper} {rest : List Oper} {o : Oper} {a : Act} {Q : Exit → Act → World → Prop} {w : World} (hgd : o.guard = none) (s x : Operand)
    (ho : o.op = .call { callee := .builtin .append, args := #[s, x], argTypes := #[25, 25] })
    (B : Nat) (v u : Value) (xs ys : List Pf) (hs : a.eval s = v) (hx : a.eval x = u) (hB : B ≤ w.heap.size) (hv : OwnPs w B v xs) (hu : PsAt w u ys) (hsz : xs.length + ys.length ≤ 8796093022208)
    (h : ∀ v' w', OwnPs w' B v' (xs ++ ys) → Below B w w' → Kept (fun b => v.ownBlock = some b) w w' → wpList Try.prog ops Q rest (a.put o.dst v') w') : wpList Try.prog ops Q (o :: rest) a w := by
  obtain ⟨i0, hii, hz0, hz1, hz2⟩ := info_parts info_pref
  have hok := ps_ok hu
  obtain ⟨sa, cap, rfl, h1, h2⟩ := ps_cells hu
  cases sa with
  | none =>
    obtain rfl := h1 rfl
    refine wpList_append_noneP hgd s x 25 ho B 29 i0 2 cap Try.underlying25 hii v xs.length _ hs hv.1 hx ?_
    exact h v w (by rw [List.append_nil]; exact hv) (Below.refl _ _) (Kept.refl _ _)
  | some ad =>
    refine wpList_append_own w hgd s x 25 ho B 29 i0 _ 2 16 Try.underlying25 hii hz0 hz1 hz2 rfl (by decide) v xs.length _ hs hv.1 ad ys.length cap (ys.flatMap encP) hx (flat_len encP_len ys) (h2 ad rfl) (flat_one encP_one ys) (by unfold maxLen; omega) (by omega) hB ?_
    intro v' w' ho' hg _
    refine h v' w' ⟨?_, ?_⟩ ?_ ⟨hg.os, hg.tape, hg.output, hg.size, fun k hk hne => hg.block k hk (fun e => hne e.symm)⟩
    · rw [List.length_append, List.flatMap_append]; exact ho'
    · intro p hp
      rcases List.mem_append.1 hp with hp | hp
      · exact hv.2 p hp
      · exact hok p hp
    · exact (Below.refl _ _).grown hg hB (fun k hk => own_form_le hv.1 k hk)
set_option maxHeartbeats 3200000 in
set_option maxRecDepth 100000 in
theorem ps_Grow (n : Nat) (w : World) (hn : n ≤ 8796093022208) : Calls Try.prog 58 #[.slice none 0 0, .int .i64 n] w fun e w' => ∃ v', e = .returned v' ∧ OwnPs w' w.heap.size v' [] ∧ Below w.heap.size w w' := by
  obtain ⟨i0, hii, hz0, hz1, hz2⟩ := info_parts info_pref
  by_cases h0 : n = 0
  · subst h0
    have OE := Lib.hid (ownPs_nil w w.heap.size)
    go_enter Try.func58, Try.ntmps58
    go_wp2_with fail
    go_ret
    exact ⟨_, rfl, OE.out, Below.refl _ _⟩
  · have hk : 0 < n := by omega
    have HA := Lib.run_append_grow_zeros (P := Try.prog) w 25 3 25 29 i0 _ .i64 .i64 Try.underlying25 Try.underlying3 hii hz0 none 0 0 [] (by
      have := run_firstCells_none (P := Try.prog) w.drew i0.size 0 0 0
      simpa using this) n hk (by rw [hz1]; decide) (by omega) (by omega) (by rw [hz2]; omega) (by
        rw [hz2]
        have : Builtin.nextslicecap (0 + n) 0 = 0 + n := by simp [Builtin.nextslicecap, hk]
        rw [this]; omega)
    rw [Nat.zero_add] at HA
    have hc1 := grownCap_ge w n 0 29
    have hc2 := grownCap_le_maxLen w n 0 29 (by unfold maxLen; omega)
    generalize grownCap w n 0 29 = cap at HA hc1 hc2
    have hC : ((([] : List Value).toArray ++ Builtin.zeroCells (Value.agg #[.int .u32 0, .int .i64 0]).cells n) ++ Builtin.zeroCells (Value.agg #[.int .u32 0, .int .i64 0]).cells (cap - n)).size = cap * 2 := by
      rw [Array.size_append, Array.size_append, size_zeroCells, size_zeroCells]
      simp [Value.cells]; omega
    generalize ((([] : List Value).toArray ++ Builtin.zeroCells (Value.agg #[.int .u32 0, .int .i64 0]).cells n) ++ Builtin.zeroCells (Value.agg #[.int .u32 0, .int .i64 0]).cells (cap - n)) = C at HA hC
    have OE : Hid (OwnPs (w.drew.alloc (.cells C 29)) w.heap.size (.slice (some ⟨w.heap.size, 0, none⟩) 0 cap) []) := Lib.hid ⟨⟨rfl, .inr ⟨_, cap, C, rfl, Nat.le_refl _, heap_alloc_new w.drew _, by simp, hc2, hC, by simp⟩⟩, fun p hp => by simp at hp⟩
    have HB : Hid (Below w.heap.size w (w.drew.alloc (.cells C 29))) := Lib.hid ((Below.refl _ _).drew.alloc (Nat.le_refl _) _)
    have z1 : ¬ ((n : Int) < 0) := by omega
    have z2 : IntKind.i64.wrap (n : Int) = n := IntWalk.i64_in _ (by omega)
    have z3 : ((n : Int) > 0) := by omega
    have z4 : (0 : Int) ≤ (n : Int) := by omega
    have z5 : (n : Int) ≤ (cap : Int) := by omega
    clear hC
    go_enter Try.func58, Try.ntmps58
    have HA := Lib.hid HA
    go_wp2_with (at_builtin; refine wpList_append_run rfl _ _ #[25, 3] rfl (.slice none 0 0) (.int .i64 n) (.slice (some ⟨w.heap.size, 0, none⟩) n cap) (w.drew.alloc (.cells C 29)) rfl rfl HA.out ?_)
    go_ret
    exact ⟨_, rfl, OE.out, HB.out⟩
end Go.Proofs.Ytadlecnlgkhneaa
