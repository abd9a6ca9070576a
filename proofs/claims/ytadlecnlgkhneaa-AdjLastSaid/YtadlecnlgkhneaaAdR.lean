/-
  ALL ROUTES OF A PEER: what Drop and Put of the trie make of it.
-/
import Derived.Test.YtadlecnlgkhneaaAdN
import Derived.Test.YtadlecnlgkhneaaAdP
namespace Go.Proofs.Ytadlecnlgkhneaa
open Go.RowKit
theorem own_lt {w : World} {B k n : Nat} {e : TypeId} {v : Value} {xs : List Value} (h : w.ownsRow B e k v n xs) : ∀ g, v.ownBlock = some g → g < w.heap.size := by
  obtain ⟨_, ⟨rfl, _⟩ | ⟨g, cap, cur, rfl, _, hg, _⟩⟩ := h
  · intro g hg; cases hg
  · intro g' hg'; cases hg'; exact row_lt hg
theorem OwnPs.kept {w w' : World} {B : Nat} {v : Value} {xs : List Pf} {F : Nat → Prop} (h : OwnPs w B v xs) (hk : Kept F w w') (hF : ∀ g, v.ownBlock = some g → ¬ F g) : OwnPs w' B v xs :=
  ⟨((own_on h.1).kept hk fun k _ hl => hF k hl).self, h.2⟩
theorem psAt_new (W : World) (x : Pf) (T : TypeId) (hx : OkP x) : PsAt (W.alloc (.cells #[.int .u32 x.1, .int .i64 x.2] T)) (.slice (some ⟨W.heap.size, 0, none⟩) 1 1) [x] := by
  refine ⟨_, 1, rfl, Nat.le_refl _, by simp [maxLen], fun _ => ⟨W.heap.size, 0, rfl, fun i y hy => ?_⟩⟩
  match i, hy with
  | 0, hy =>
    simp at hy
    subst hy
    refine ⟨encP x, rfl, ⟨rfl, hx⟩, fun j c hc => ?_⟩
    rw [row_cell (heap_alloc_new W _)]
    simpa [encP] using hc
theorem Kept.belowOn {F : Nat → Prop} {w w1 w2 : World} (h : Kept F w w1) (hb : Below w.heap.size w1 w2) : Kept F w w2 :=
  ⟨hb.os.trans h.os, hb.tape.trans h.tape, hb.output.trans h.output, Nat.le_trans h.size hb.size, fun k hk hf => (hb.block k hk).trans (h.block k hk hf)⟩
theorem turn_none {R : Rts} {E : List Ent} {ns : List Pf} {a : At} {x : Pf} (hg : getL R x = getL (rts E) x) (hf : findE E x = none) : turnB R ns a x = decide (x ∈ ns) := by
  unfold turnB
  rw [hg, find_rts, hf]
  rfl
theorem turn_some {R : Rts} {E : List Ent} {ns : List Pf} {a : At} {x : Pf} {e : Ent} (hg : getL R x = getL (rts E) x) (hf : findE E x = some e) : turnB R ns a x = (!(decide (x ∈ ns)) || !(sameA e.a a)) := by
  unfold turnB
  rw [hg, find_rts, hf]
  rfl
section
variable {rb tb : Nat} {N : Nat → Option Nat} {E : List Ent} {peer own most : Int} {F : Nat → Prop}
theorem rib_drop (p : Pf) (W : World) (h : RibIn W rb tb N E peer own most F) (hp : RgtP p) :
    Calls Try.prog 32 #[.pointer (some ⟨tb, 0, none⟩), .agg #[.int .u32 p.1, .int .i64 p.2]] W fun e w' => ∃ N' c, e = .returned (.bool c) ∧ RibIn w' rb tb N' (delE E p) peer own most F ∧ Kept (TOwn tb N) W w' := by
  have hp0 := hp
  obtain ⟨a, n, rfl, ha, hn, -, hr'⟩ := hp.nat
  have hl : (kvs E).length ≤ 4096 := by rw [List.length_map]; have := h.room; have := h.most1; omega
  refine (trI_Drop a n W h.tri hl ha hr').mono ?_
  rintro e w' ⟨N', rfl, ht, hs, hk⟩
  exact ⟨N', _, rfl, h.drop hp0 ht hs hk, hk⟩
theorem rib_put (p : Pf) (a : At) (v : AV) (lo : Nat) (W : World) (h : RibIn W rb tb N E peer own most F) (hp : RgtP p) (hz : AtSz a) (hon : Fresh lo W (fun W => AvAt W a v)) (hlo : ∀ b, TOwn tb N b ∨ b = rb → b < lo) (hr : ((delE E p).length : Int) + 1 ≤ most) :
    Calls Try.prog 33 #[.pointer (some ⟨tb, 0, none⟩), .agg #[.int .u32 p.1, .int .i64 p.2], v.V] W fun e w' => ∃ N' c, e = .returned (.int .i64 c) ∧ RibIn w' rb tb N' (delE E p ++ [⟨p, a, v, lo, W.heap.size⟩]) peer own most (fun b => (F b ∨ (lo ≤ b ∧ b < W.heap.size)) ∨ (W.heap.size ≤ b ∧ b < w'.heap.size)) ∧ Kept (TOwn tb N) W w' := by
  have hp0 := hp
  obtain ⟨x, n, rfl, ha, hn, -, hr'⟩ := hp.nat
  have key := find_kvs h.rgt hp0
  have m1 := h.most1
  have R : putR (kvs E) most (keyN x n) v = (0, delL (kvs E) (keyN x n) ++ [(keyN x n, v)]) := by
    cases hg : getL (kvs E) (keyN x n) with
    | none =>
      refine putR_new hg ?_
      have e : delE E ((x : Int), (n : Int)) = E := by
        unfold delE
        rw [List.filter_eq_self]
        intro e he
        simp only [Bool.not_eq_true', decide_eq_false_iff_not]
        intro hx
        have : findE E ((x : Int), (n : Int)) = none := by
          have k2 : getL (kvs E) (pKey ((x : Int), (n : Int))) = none := hg
          rw [key] at k2
          simpa using k2
        unfold findE at this
        rw [List.find?_eq_none] at this
        exact this e he (by simpa using hx)
      rw [e] at hr
      rw [List.length_map]
      omega
    | some u => exact putR_old (by rw [hg]; rfl)
  refine (trI_Put x n v W h.tri (by omega) ha hr').mono ?_
  rintro e w' ⟨N', rfl, ht, hs, hk⟩
  rw [R] at ht
  refine ⟨N', _, rfl, ?_, hk⟩
  have hw : RibIn W rb tb N E peer own most (fun b => F b ∨ (lo ≤ b ∧ b < W.heap.size)) := h.wide fun k hk => .inl hk
  exact hw.put hp0 hz (hon.wide fun k hk hl => ⟨hk, hl⟩) (Nat.le_refl _) (fun b hb hx => by have := hlo b hb; omega) (fun k h1 h2 => .inr ⟨h1, h2⟩) ht hs.2 hk hr
theorem rib_put2 {F0 : Nat → Prop} {w0 : Nat} (p : Pf) (a : At) (v : AV) (lo : Nat) (W W1 : World) (h : RibIn W1 rb tb N E peer own most F) (hb : Below W1.heap.size W1 W) (hF : ∀ b, F b → F0 b ∨ (w0 ≤ b ∧ b < W1.heap.size)) (hw0 : w0 ≤ W1.heap.size)
    (hp : RgtP p) (hz : AtSz a) (hlo : W1.heap.size ≤ lo) (hon : Fresh lo W (fun W => AvAt W a v)) (hr : (E.length : Int) + 1 ≤ most) :
    Calls Try.prog 33 #[.pointer (some ⟨tb, 0, none⟩), .agg #[.int .u32 p.1, .int .i64 p.2], v.V] W fun e w' => ∃ N' E' F' c, e = .returned (.int .i64 c) ∧ RibIn w' rb tb N' E' peer own most F' ∧ rts E' = putP (rts E) p a ∧ (∀ b, F' b → F0 b ∨ (w0 ≤ b ∧ b < w'.heap.size)) ∧ Kept (TOwn tb N) W w' := by
  have hd : (delE E p).length ≤ E.length := List.length_filter_le ..
  refine (rib_put p a v lo W (h.below hb) hp hz hon (fun b hb' => ?_) (by omega)).mono ?_
  · have := row_lt h.row
    rcases hb' with hb' | rfl
    · have := h.tri.own_lt hb'; omega
    · omega
  · rintro e w' ⟨N', c, rfl, hi, hk⟩
    refine ⟨N', _, _, c, rfl, hi, ?_, ?_, hk⟩
    · rw [rts, List.map_append]
      unfold putP
      rw [del_rts]
      rfl
    · have h1 := hk.size
      have h2 := hb.size
      rintro b ((hb | hb) | hb)
      · exact (hF b hb).imp_right fun h => by omega
      · exact .inr (by omega)
      · exact .inr (by omega)
end
/-- how many routes there are on the way. -/
theorem put_room {R : Rts} {said ns : List Pf} {a : At} {most : Int} {k : Nat} (hs : Srt ns) (hsub : ∀ p ∈ ns, p ∈ said) (hk : k < ns.length) (hc : ((dropAll R said).length : Int) + ns.length ≤ most) {E : List Ent} (hE : rts E = putAll (dropAll R said) (ns.take k) a) : (E.length : Int) + 1 ≤ most := by
  have h1 := len_putAll a (ns.take k) (dropAll R said) ((srt_nodup hs).sublist (List.take_sublist k ns)) (fun p hp => by
    rw [getL_dropAll, if_pos (hsub p (List.mem_of_mem_take hp))])
  rw [← hE, List.length_map, List.length_take] at h1
  omega
end Go.Proofs.Ytadlecnlgkhneaa
