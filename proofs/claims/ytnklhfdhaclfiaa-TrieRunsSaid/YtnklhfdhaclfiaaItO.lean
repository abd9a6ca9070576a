/-
  STEPS THAT A CALLER HANDS IN: a slice of structs with a net inside, opened; the functions called at each as the walk wants them.
-/
import Derived.Test.YtnklhfdhaclfiaaItG
import Derived.Test.YtnklhfdhaclfiaaPrefs
namespace Go.Proofs.Ytnklhfdhaclfiaa
open Go.RowKit Go.ChangeShapes Go.WideShapes
structure St where
  k : Int
  p : Pf
  a : Nat
  v : Int
def I64r (n : Int) : Prop := -9223372036854775808 ≤ n ∧ n ≤ 9223372036854775807
def StOk (s : St) : Prop := I64r s.k ∧ PfOk s.p ∧ s.a < 4294967296 ∧ I64r s.v
/-- steps in memory, from a block's place on. -/
def StsIn (w : World) (b off : Nat) (xs : List St) : Prop :=
  ∀ (i : Nat) (s : St), xs[i]? = some s → StOk s ∧
    w.cell? ⟨b, off + i * 5, none⟩ = some (.int .i64 s.k) ∧ w.cell? ⟨b, off + i * 5 + 1, none⟩ = some (.int .u32 s.p.1) ∧ w.cell? ⟨b, off + i * 5 + 2, none⟩ = some (.int .i64 s.p.2) ∧ w.cell? ⟨b, off + i * 5 + 3, none⟩ = some (.int .u32 s.a) ∧ w.cell? ⟨b, off + i * 5 + 4, none⟩ = some (.int .i64 s.v)
def StepsAt (w : World) (v : Value) (xs : List St) : Prop :=
  ∃ (sa : Option Addr) (cap : Nat), v = .slice sa xs.length cap ∧ xs.length ≤ maxLen ∧ (0 < xs.length → ∃ b off : Nat, sa = some ⟨b, off, none⟩ ∧ StsIn w b off xs)
section
variable {H : Type} {enc : TypeId × Value → H} {w : World} {base : Nat} {spare : Nat → Bool} {held : Bool}
theorem step_cells {f : Nat} {cs : List Value} {x : DataW H × List MemPlace} (h : DataW.trod enc Try.prog w base spare held f 51 cs = some x) : ∃ s : St, StOk s ∧ cs = [.int .i64 s.k, .int .u32 s.p.1, .int .i64 s.p.2, .int .u32 s.a, .int .i64 s.v] := by
  obtain ⟨xs, n, _, _, hl, hxl, hf⟩ := DataW.trod_struct Try.underlying51 h
  have hc5 : Try.prog.cellsOf 51 = 5 := by kernel_rfl
  have hc2 : Try.prog.cellsOf 31 = 2 := by kernel_rfl
  have hc1 : Try.prog.cellsOf 3 = 1 := by kernel_rfl
  have hca : Try.prog.cellsOf 29 = 1 := by kernel_rfl
  rw [hc5] at hl
  match cs, hl with
  | [c0, c1, c2, c3, c4], _ =>
    match xs, hxl with
    | [x0, x1, x2, x3], _ =>
      have e0 := hf 0 _ rfl
      have e1 := hf 1 _ rfl
      have e2 := hf 2 _ rfl
      have e3 := hf 3 _ rfl
      simp [hc1, hc2, hca] at e0 e1 e2 e3
      obtain ⟨k, hk, ik⟩ := one_i64 e0
      obtain ⟨p, ip, hp⟩ := pref_cells e1
      obtain ⟨a, ha, ia⟩ := one_addr e2
      obtain ⟨v, hv, iv⟩ := one_i64 e3
      simp at hk hp ha hv
      obtain ⟨rfl, rfl⟩ := hp
      subst hk; subst ha; subst hv
      exact ⟨⟨k, p, a, v⟩, ⟨ik, ip, ia, iv⟩, rfl⟩
theorem open_steps {v : Value} {d : DataW H} {p : List MemPlace} {r : Reach} {b0 : Nat} (hv : Value.okWide Try.prog w r b0 48 v) (h : DataW.Trod enc Try.prog w base spare held 48 v d p) : ∃ xs : List St, StepsAt w v xs := by
  obtain ⟨fuel, h⟩ := h
  have hc5 : Try.prog.cellsOf 51 = 5 := by kernel_rfl
  have hvc : v.cells.toList = [v] := by
    simp only [Value.okWide, Try.underlying48] at hv
    cases v <;> first | rfl | (simp [Cell.okWide, Cell.ok, Try.underlying48] at hv)
  rw [hvc] at h
  rcases Deep.open_slice Try.underlying48 h with ⟨h1, _⟩ | ⟨a, len, cap, m, n, D, Pl, h1, _, hlc, hcap, hm, _, hx⟩
  · injection h1 with h1 _
    exact ⟨[], none, 0, h1, by simp, fun h => absurd h (by simp)⟩
  · injection h1 with h1 _
    rw [hc5] at hx
    have hlm : len ≤ m := by rw [hm]; split <;> omega
    have hone : ∀ i, i < len → ∃ s : St, StOk s ∧ w.cell? (a.add (i * 5)) = some (.int .i64 s.k) ∧ w.cell? (a.add (i * 5 + 1)) = some (.int .u32 s.p.1) ∧ w.cell? (a.add (i * 5 + 2)) = some (.int .i64 s.p.2) ∧ w.cell? (a.add (i * 5 + 3)) = some (.int .u32 s.a) ∧ w.cell? (a.add (i * 5 + 4)) = some (.int .i64 s.v) := by
      intro i hi
      obtain ⟨cs', hcs, ht⟩ := hx i (by omega)
      obtain ⟨s, hs, rfl⟩ := step_cells ht
      obtain ⟨_, _, hat⟩ := World.cells?_some hcs
      refine ⟨s, hs, ?_, ?_, ?_, ?_, ?_⟩
      · have := hat 0 (by decide); rw [Deep.add_add] at this; exact this
      · have := hat 1 (by decide); rw [Deep.add_add] at this; exact this
      · have := hat 2 (by decide); rw [Deep.add_add] at this; exact this
      · have := hat 3 (by decide); rw [Deep.add_add] at this; exact this
      · have := hat 4 (by decide); rw [Deep.add_add] at this; exact this
    haveI : Inhabited St := ⟨⟨0, (0, 0), 0, 0⟩⟩
    obtain ⟨f, hf⟩ := Deep.choose_lt hone
    refine ⟨(List.range len).map f, some a, cap, by rw [h1]; simp, by simp; omega, fun h0 => ?_⟩
    have h0' : 0 < len := by simpa using h0
    have hsp : a.spot = none := by
      have hc := (hf 0 h0').2.1
      have e : a.add (0 * 5) = a := rfl
      rw [e] at hc
      unfold World.cell? at hc
      cases hq : a.spot with
      | none => rfl
      | some q => rw [hq] at hc; simp at hc; split at hc <;> simp at hc
    have had : ∀ k, a.add k = ⟨a.block, a.off + k, none⟩ := fun k => by
      unfold Addr.add
      split
      · rename_i hk; subst hk; cases a; simp at hsp; simp [hsp]
      · rfl
    refine ⟨a.block, a.off, by cases a; simp at hsp; simp [hsp], fun i s hi => ?_⟩
    have hil : i < len := by
      have := (List.getElem?_eq_some_iff.1 hi).1
      simpa using this
    rw [List.getElem?_map, List.getElem?_range hil] at hi
    simp at hi
    subst hi
    have := hf i hil
    simp only [had] at this
    simp only [Nat.add_assoc] at this ⊢
    exact this
end

/-! ### the functions that are called at each -/
theorem Rl.vals {l : List It3} {S : List (Nat × Value)} (h : Rl l S) {κ : Nat} {v : Value} (hv : getL S κ = some v) : ∃ n : Int, v = .int .i64 n := by
  have hm := getL_mem hv
  rw [h.map] at hm
  obtain ⟨x, _, hx⟩ := List.mem_map.1 hm
  exact ⟨x.2.2, (congrArg Prod.snd hx).symm⟩
section
variable {Wf : World} {tb : Nat} {N : Nat → Option Nat} {S : List (Nat × Value)} {l : List It3} {most : Int} {gb : Nat}
theorem each2_ok (hT : TrI Wf tb N S most) (hR : Rl l S) : EachOkN tb N S most 34 #[.pointer (some ⟨gb, 0, none⟩)] (fun _ => true) (GI Wf gb) where
  ent := enters_of Try.func34 (by kernel_rfl) rfl
  stab := fun P P' L W W' h hb hP => h.stab hb hP
  tri := fun _ _ _ h => hT.below h.bel
  call := fun P L W A i v h _ _ hg hL => by
    obtain ⟨n, rfl⟩ := hR.vals hg
    exact each2_call P L W A i n h hL
theorem each1_ok {sb : Nat} {V : Int} (hV : Wf.cell? ⟨sb, 4, none⟩ = some (.int .i64 V)) (hT : TrI Wf tb N S most) (hR : Rl l S) : EachOkN tb N S most 31 #[.pointer (some ⟨gb, 0, none⟩), .pointer (some ⟨sb, 0, none⟩)] (fun L => ((L.length : Nat) : Int) != V) (GI Wf gb) where
  ent := enters_of Try.func31 (by kernel_rfl) rfl
  stab := fun P P' L W W' h hb hP => h.stab hb hP
  tri := fun _ _ _ h => hT.below h.bel
  call := fun P L W A i v h _ _ hg hL => by
    obtain ⟨n, rfl⟩ := hR.vals hg
    have := each1_call hV P L W A i n h hL
    rw [show (L ++ [((A, i), Value.int .i64 n)]).length = L.length + 1 by simp]
    exact this
end
/-- so many as are asked for. -/
theorem runL_upto (V : Int) : ∀ (L xs : List Itm), (L.length : Int) < V ∨ V ≤ (L.length : Int) → (runL (fun L => ((L.length : Nat) : Int) != V) L xs).1 = if (L.length : Int) < V then L ++ xs.take (V - L.length).toNat else L ++ xs
  | L, [], _ => by simp [runL]
  | L, x :: xs, _ => by
    simp only [runL]
    by_cases e : (((L ++ [x]).length : Nat) : Int) = V
    · have e2 : ¬ ((fun L : List Itm => ((L.length : Nat) : Int) != V) (L ++ [x]) = true) := by
        show ¬ ((((L ++ [x]).length : Nat) : Int) != V) = true
        rw [bne_iff_ne]; exact fun h => h e
      rw [if_neg e2]
      simp only [List.length_append, List.length_cons, List.length_nil] at e
      rw [if_pos (by omega), show (V - (L.length : Int)).toNat = 1 by omega]
      simp
    · have e2 : (fun L : List Itm => ((L.length : Nat) : Int) != V) (L ++ [x]) = true := by
        show ((((L ++ [x]).length : Nat) : Int) != V) = true
        rw [bne_iff_ne]; exact e
      rw [if_pos e2, runL_upto V (L ++ [x]) xs (by omega)]
      simp only [List.length_append, List.length_cons, List.length_nil] at e ⊢
      by_cases h : (L.length : Int) < V
      · rw [if_pos h, if_pos (by omega), List.append_assoc, show (V - (L.length : Int)).toNat = (V - ((L.length + (0 + 1) : Nat) : Int)).toNat + 1 by omega]
        rfl
      · rw [if_neg h, if_neg (by omega), List.append_assoc]; rfl
end Go.Proofs.Ytnklhfdhaclfiaa
