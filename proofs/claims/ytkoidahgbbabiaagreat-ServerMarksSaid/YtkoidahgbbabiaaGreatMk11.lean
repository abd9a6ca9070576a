/- Texts of one proof, one behind another. -/
import Derived.Test.YtkoidahgbbabiaaGreatMk2
import Derived.SizedLaws
import Derived.Test.YtkoidahgbbabiaaGreatMk8
import Derived.Test.YtkoidahgbbabiaaGreatMk5
import Derived.LoopTactic
import Derived.OwnWalk
import Derived.Deep.DeepCutAuto
import Derived.LoopN
import Derived.Lib.SliceRun
/-
  HOW LARGE what a caller hands in may be: slices of whatever and attributes, opened, each with the reach of its slices.
-/
namespace Go.Proofs.YtkoidahgbbabiaaGreat
open Go.RowKit Go.ChangeShapes Go.WideShapes

/-- what is read takes no more than the reach. -/
def Sz {H : Type} (P : Program) (t : TypeId) (d : DataW H) : Prop := ∀ n ∈ d.weights P t, n ≤ 140737488351232
theorem sz_of {H : Type} {P : Program} {ts : List TypeId} {ds : List (DataW H)} (h : (DataW.weightsEach P ts ds).all (· ≤ reachBytes) = true) {j : Nat} {t : TypeId} {d : DataW H} (ht : ts[j]? = some t) (hd : ds[j]? = some d) : Sz P t d := by
  intro n hn
  have := List.all_eq_true.1 h n (DataW.weights_mem_each ht hd n hn)
  exact of_decide_eq_true this
theorem mem_weightsAll {H : Type} {P : Program} {e : TypeId} : ∀ {ds : List (DataW H)} {d : DataW H}, d ∈ ds → ∀ n ∈ d.weights P e, n ∈ DataW.weightsAll P e ds
  | x :: ds, d, h, n, hn => by
    simp only [DataW.weightsAll, List.mem_append]
    rcases List.mem_cons.1 h with rfl | h
    · exact .inl hn
    · exact .inr (mem_weightsAll h n hn)
  | [], _, h, _, _ => by simp at h
theorem sz_field {H : Type} {P : Program} {t : TypeId} {fs : Array Field} (hu : P.underlying t = some (.struct fs)) {parts : List (DataW H)} (h : Sz P t (.agg parts)) {j : Nat} {u : TypeId} {d : DataW H} (hf : (fs.toList.map (·.type))[j]? = some u) (hd : parts[j]? = some d) : Sz P u d := by
  intro n hn
  refine h n ?_
  simp only [DataW.weights, hu]
  exact DataW.weights_mem_each hf hd n hn
section
variable {H : Type} {enc : TypeId × Value → H} {w : World} {base : Nat} {spare : Nat → Bool} {held : Bool}
theorem open_sl_sz {α : Type} {t e : TypeId} {k f bs : Nat} {R : α → List Value → Prop} {S : α → Prop} {cs : List Value} {x : DataW H × List MemPlace} (ht : Tryz.prog.underlying t = some (.slice e)) (hk : Tryz.prog.cellsOf e = k) (hb : Tryz.prog.bytesOf e = bs) (hk0 : 0 < k)
    (hR : ∀ f cs y, DataW.trod enc Tryz.prog w base spare held f e cs = some y → Sz Tryz.prog e y.1 → ∃ a : α, R a cs ∧ S a) (h : DataW.trod enc Tryz.prog w base spare held f t cs = some x) (hz : Sz Tryz.prog t x.1) :
    ∃ v xs, cs = [v] ∧ SlAt w k R v xs ∧ xs.length * bs ≤ 140737488351232 ∧ ∀ x ∈ xs, S x := by
  rcases Deep.open_slice ht h with ⟨h1, _⟩ | ⟨a, len, cap, m, n, D, Pl, h1, _, hlc, hcap, hm, he, hx⟩
  · exact ⟨_, [], h1, SlAt.nil, by simp, fun x hx => by simp at hx⟩
  · rw [hk] at hx
    have hlm : len ≤ m := by rw [hm]; split <;> omega
    have hz1 : ∀ i, i < len → Sz Tryz.prog e (D i) := by
      intro i hi q hq
      refine hz q ?_
      rw [he]
      simp only [DataW.weights, ht, List.mem_cons, List.mem_append]
      exact .inr (.inl (mem_weightsAll (List.mem_map.2 ⟨i, List.mem_range.2 hi, rfl⟩) q hq))
    have hz0 : len * bs ≤ 140737488351232 := by
      have := hz (((List.range len).map D).length * bs + ((List.range (m - len)).map fun j => D (len + j)).length * bs) (by
        rw [he]
        simp only [DataW.weights, ht, hb, List.mem_cons, ← Nat.add_mul]
        exact .inl trivial)
      simp at this
      omega
    have hone : ∀ i : Fin len, ∃ z : α × List Value, S z.1 ∧ z.2.length = k ∧ R z.1 z.2 ∧ ∀ j c, z.2[j]? = some c → w.cell? (a.add (i.val * k + j)) = some c := by
      intro i
      obtain ⟨cs', hcs, ht⟩ := hx i.val (by omega)
      obtain ⟨y, hy, hS⟩ := hR _ _ _ ht (hz1 i.val i.isLt)
      obtain ⟨_, hl, hat⟩ := World.cells?_some hcs
      refine ⟨(y, cs'), hS, hl, hy, fun j c hc => ?_⟩
      have hj : j < k := by rw [← hl]; exact (List.getElem?_eq_some_iff.1 hc).1
      have := hat j hj
      rw [Deep.add_add] at this
      rw [this]; exact hc
    have hch := Classical.axiomOfChoice hone
    obtain ⟨g, hg⟩ := hch
    refine ⟨_, List.ofFn fun i => (g i).1, h1, ⟨some a, cap, by simp, by simp; omega, hcap, fun h0 => ?_⟩, by simpa using hz0, fun x hx => ?_⟩
    · have h0' : 0 < len := by simpa using h0
      have hsp : a.spot = none := by
        obtain ⟨_, e1, _, e3⟩ := hg ⟨0, h0'⟩
        have hlt : 0 < (g ⟨0, h0'⟩).2.length := by rw [e1]; exact hk0
        have hc := e3 0 _ (List.getElem?_eq_getElem hlt)
        have e : a.add (0 * k + 0) = a := by unfold Addr.add; simp
        simp only at hc
        rw [e] at hc
        unfold World.cell? at hc
        cases hq : a.spot with
        | none => rfl
        | some q => rw [hq] at hc; simp at hc; split at hc <;> simp at hc
      have had : ∀ k, a.add k = ⟨a.block, a.off + k, none⟩ := fun k => by
        unfold Addr.add
        split
        · rename_i hk; subst hk; cases a; simp at hsp; simp [hsp]
        · rfl
      refine ⟨a.block, a.off, by cases a; simp at hsp; simp [hsp], fun i s hi => ?_⟩
      have hil : i < len := by
        have := (List.getElem?_eq_some_iff.1 hi).1
        simpa using this
      rw [List.getElem?_ofFn] at hi
      simp [hil] at hi
      subst hi
      obtain ⟨_, e1, e2, e3⟩ := hg ⟨i, hil⟩
      refine ⟨_, e1, e2, fun j c hc => ?_⟩
      have := e3 j c hc
      rw [had, ← Nat.add_assoc] at this
      exact this
    · obtain ⟨i, rfl⟩ := (List.mem_ofFn).1 hx
      exact (hg i).1
theorem sl_ints_sz {f : Nat} {c : List Value} {y : DataW H × List MemPlace} (h : DataW.trod enc Tryz.prog w base spare held f 39 c = some y) (hz : Sz Tryz.prog 39 y.1) : ∃ v xs, c = [v] ∧ IntsAt w v xs ∧ xs.length * 8 ≤ 140737488351232 := by
  obtain ⟨v, xs, h1, h2, h3, _⟩ := open_sl_sz (k := 1) (bs := 8) (R := IntC) (S := fun _ => True) Tryz.underlying39 (by kernel_rfl) (by kernel_rfl) (by decide) (fun _ _ _ h _ => by obtain ⟨n, hn⟩ := sl_i64 h; exact ⟨n, hn, trivial⟩) h hz
  exact ⟨v, xs, h1, h2, h3⟩
theorem sl_bytes_sz {f : Nat} {c : List Value} {y : DataW H × List MemPlace} (h : DataW.trod enc Tryz.prog w base spare held f 157 c = some y) (hz : Sz Tryz.prog 157 y.1) : ∃ v xs, c = [v] ∧ BytesAt w v xs ∧ xs.length * 1 ≤ 140737488351232 := by
  obtain ⟨v, xs, h1, h2, h3, _⟩ := open_sl_sz (k := 1) (bs := 1) (R := ByteC) (S := fun _ => True) Tryz.underlying157 (by kernel_rfl) (by kernel_rfl) (by decide) (fun _ _ _ h _ => by obtain ⟨n, hn⟩ := sl_u8 h; exact ⟨n, hn, trivial⟩) h hz
  exact ⟨v, xs, h1, h2, h3⟩
def SgSz (s : Sg) : Prop := s.2.length * 8 ≤ 140737488351232
def OthSz (o : Oth) : Prop := o.2.length ≤ 140737488351232
structure AtSz (a : At) : Prop where
  path : a.path.length * 32 ≤ 140737488351232
  segs : ∀ s ∈ a.path, SgSz s
  comms : a.comms.length * 8 ≤ 140737488351232
  others : a.others.length * 32 ≤ 140737488351232
  vals : ∀ o ∈ a.others, OthSz o
set_option maxRecDepth 100000 in
theorem sl_seg_sz {f : Nat} {cs : List Value} {x : DataW H × List MemPlace} (h : DataW.trod enc Tryz.prog w base spare held f 121 cs = some x) (hz : Sz Tryz.prog 121 x.1) : ∃ s : Sg, SegC w s cs ∧ SgSz s := by
  obtain ⟨xs, n, _, hxe, hl, hxl, hf⟩ := DataW.trod_struct Tryz.underlying121 h
  rw [hxe] at hz
  have hc2 : Tryz.prog.cellsOf 121 = 2 := by kernel_rfl
  have hcb : Tryz.prog.cellsOf 4 = 1 := by kernel_rfl
  have hci : Tryz.prog.cellsOf 39 = 1 := by kernel_rfl
  rw [hc2] at hl
  match cs, hl with
  | [c0, c1], _ =>
    match xs, hxl with
    | [x0, x1], _ =>
      have e0 := hf 0 _ rfl
      have e1 := hf 1 _ rfl
      simp [hcb, hci] at e0 e1
      obtain ⟨s, hs, _⟩ := DataW.trod_bool Tryz.underlying4 e0
      obtain ⟨v, l, hv, hi, hzl⟩ := sl_ints_sz e1 (sz_field Tryz.underlying121 hz (j := 1) rfl rfl)
      simp at hs hv
      subst hs; subst hv
      exact ⟨(s, l), ⟨c1, rfl, hi⟩, hzl⟩
set_option maxRecDepth 100000 in
theorem sl_other_sz {f : Nat} {cs : List Value} {x : DataW H × List MemPlace} (h : DataW.trod enc Tryz.prog w base spare held f 159 cs = some x) (hz : Sz Tryz.prog 159 x.1) : ∃ s : Oth, OthC w s cs ∧ OthSz s := by
  obtain ⟨xs, n, _, hxe, hl, hxl, hf⟩ := DataW.trod_struct Tryz.underlying159 h
  rw [hxe] at hz
  have hc2 : Tryz.prog.cellsOf 159 = 2 := by kernel_rfl
  have hcb : Tryz.prog.cellsOf 3 = 1 := by kernel_rfl
  have hci : Tryz.prog.cellsOf 157 = 1 := by kernel_rfl
  rw [hc2] at hl
  match cs, hl with
  | [c0, c1], _ =>
    match xs, hxl with
    | [x0, x1], _ =>
      have e0 := hf 0 _ rfl
      have e1 := hf 1 _ rfl
      simp [hcb, hci] at e0 e1
      obtain ⟨s, hs, ir⟩ := sl_i64 e0
      obtain ⟨v, l, hv, hi, hzl⟩ := sl_bytes_sz e1 (sz_field Tryz.underlying159 hz (j := 1) rfl rfl)
      simp at hs hv
      subst hs; subst hv
      exact ⟨(s, l), ⟨c1, rfl, ir, hi⟩, by unfold OthSz; simpa using hzl⟩
set_option maxRecDepth 100000 in
theorem sl_attrs_sz {f : Nat} {cs : List Value} {x : DataW H × List MemPlace} (h : DataW.trod enc Tryz.prog w base spare held f 42 cs = some x) (hz : Sz Tryz.prog 42 x.1) : ∃ a : At, AtC w a cs ∧ AtSz a := by
  obtain ⟨xs, n, _, hxe, hl, hxl, hf⟩ := DataW.trod_struct Tryz.underlying42 h
  rw [hxe] at hz
  have hc : Tryz.prog.cellsOf 42 = 10 := by kernel_rfl
  have hc0 : Tryz.prog.cellsOf 3 = 1 := by kernel_rfl
  have hc1 : Tryz.prog.cellsOf 38 = 1 := by kernel_rfl
  have hc2 : Tryz.prog.cellsOf 36 = 1 := by kernel_rfl
  have hc3 : Tryz.prog.cellsOf 39 = 1 := by kernel_rfl
  have hc4 : Tryz.prog.cellsOf 40 = 1 := by kernel_rfl
  rw [hc] at hl
  match cs, hl with
  | [c0, c1, c2, c3, c4, c5, c6, c7, c8, c9], _ =>
    match xs, hxl with
    | [x0, x1, x2, x3, x4, x5, x6, x7, x8, x9], _ =>
      have e0 := hf 0 _ rfl
      have e1 := hf 1 _ rfl
      have e2 := hf 2 _ rfl
      have e3 := hf 3 _ rfl
      have e4 := hf 4 _ rfl
      have e5 := hf 5 _ rfl
      have e6 := hf 6 _ rfl
      have e7 := hf 7 _ rfl
      have e8 := hf 8 _ rfl
      have e9 := hf 9 _ rfl
      simp [hc0, hc1, hc2, hc3, hc4] at e0 e1 e2 e3 e4 e5 e6 e7 e8 e9
      obtain ⟨has, q0, i0⟩ := sl_i64 e0
      obtain ⟨origin, q1, i1⟩ := sl_i64 e1
      obtain ⟨vp, path, q2, i2, z2, s2⟩ := open_sl_sz (k := 2) (bs := 32) (R := SegC w) (S := SgSz) Tryz.underlying38 (by kernel_rfl) (by kernel_rfl) (by decide) (fun _ _ _ h hz => sl_seg_sz h hz) e2 (sz_field Tryz.underlying42 hz (j := 2) rfl rfl)
      obtain ⟨hop, q3, i3⟩ := sl_u32 e3
      obtain ⟨med, q4, i4⟩ := sl_i64 e4
      obtain ⟨loc, q5, i5⟩ := sl_i64 e5
      obtain ⟨aggrAs, q6, i6⟩ := sl_i64 e6
      obtain ⟨aggrId, q7, i7⟩ := sl_u32 e7
      obtain ⟨vc, comms, q8, i8, z8⟩ := sl_ints_sz e8 (sz_field Tryz.underlying42 hz (j := 8) rfl rfl)
      obtain ⟨vo, others, q9, i9, z9, s9⟩ := open_sl_sz (k := 2) (bs := 32) (R := OthC w) (S := OthSz) Tryz.underlying40 (by kernel_rfl) (by kernel_rfl) (by decide) (fun _ _ _ h hz => sl_other_sz h hz) e9 (sz_field Tryz.underlying42 hz (j := 9) rfl rfl)
      simp at q0 q1 q2 q3 q4 q5 q6 q7 q8 q9
      subst q0; subst q1; subst q2; subst q3; subst q4; subst q5; subst q6; subst q7; subst q8; subst q9
      exact ⟨⟨has, origin, path, hop, med, loc, aggrAs, aggrId, comms, others⟩, ⟨c2, c8, c9, rfl, ⟨i0, i1, i3, i4, i5, i6, i7⟩, i2, i8, i9⟩, ⟨z2, s2, z8, z9, s9⟩⟩
end
end Go.Proofs.YtkoidahgbbabiaaGreat

/-
  slices.Clone at four types.
-/
namespace Go.Proofs.YtkoidahgbbabiaaGreat
open Go.RowKit

set_option maxRecDepth 100000 in
theorem info_seg : (Tryz.prog.info? 121).map (fun i => (i.zero, i.size, i.bytes)) = some (some (.agg #[.bool false, .slice none 0 0]), 2, 32) := by kernel_rfl
set_option maxRecDepth 100000 in
theorem info_other : (Tryz.prog.info? 159).map (fun i => (i.zero, i.size, i.bytes)) = some (some (.agg #[.int .i64 0, .slice none 0 0]), 2, 32) := by kernel_rfl
set_option maxRecDepth 100000 in
theorem info_intT : (Tryz.prog.info? 3).map (fun i => (i.zero, i.size, i.bytes)) = some (some (.int .i64 0), 1, 8) := by kernel_rfl
set_option maxRecDepth 100000 in
theorem info_byteT : (Tryz.prog.info? 5).map (fun i => (i.zero, i.size, i.bytes)) = some (some (.int .u8 0), 1, 1) := by kernel_rfl
set_option maxRecDepth 100000 in
set_option maxHeartbeats 1600000 in
theorem sl_CloneSeg (sa : Option Addr) (n cap : Nat) (cs : List Value) (w : World) (hl : cs.length = n * 2) (hn : n ≤ maxLen) (hc : 0 < n → ∃ b off, sa = some ⟨b, off, none⟩ ∧ ∀ q u, cs[q]? = some u → w.cell? ⟨b, off + q, none⟩ = some u)
    (h1 : ∀ u ∈ cs, u.oneCell' = true) (hb : n * 32 ≤ 140737488351232) : Calls Tryz.prog 127 #[.slice sa n cap] w fun e w' => ∃ v', e = .returned v' ∧ w'.ownsRow w.heap.size 121 2 v' n cs ∧ Below w.heap.size w w' := by
  obtain ⟨i0, hii, hz0, hz1, hz2⟩ := info_parts info_seg
  have HC := Lib.hid hc
  have HL := Lib.hid hl
  have H1 := Lib.hid h1
  unfold maxLen at hn
  clear hc hl h1
  go_enter Tryz.func127, Tryz.ntmps127
  cases sa with
  | none =>
    obtain rfl : n = 0 := by
      by_cases h0 : 0 < n
      · obtain ⟨b, off, h, _⟩ := HC.out h0
        cases h
      · omega
    obtain rfl : cs = [] := List.length_eq_zero_iff.1 (by have := HL.out; omega)
    have EQ := Lib.run_eql_slice_nil (P := Tryz.prog) w 38 121 none 0 cap 0 0 Tryz.underlying38
    simp only [Option.isNone_none] at EQ
    go_wp2_with fail
    go_ret
    exact ⟨_, rfl, ⟨by simp, .inl ⟨rfl, rfl⟩⟩, Below.refl _ _⟩
  | some a =>
    have CC : Hid (∀ q u, cs[q]? = some u → w.cell? (a.add q) = some u) := Lib.hid (by
      intro q u hq
      by_cases h0 : 0 < n
      · obtain ⟨b, off, h, h2⟩ := HC.out h0
        injection h with h
        subst h
        have e : (⟨b, off, none⟩ : Addr).add q = ⟨b, off + q, none⟩ := by
          unfold Addr.add
          split
          · next h => rw [h]; simp
          · rfl
        rw [e]
        exact h2 q u hq
      · have := (List.getElem?_eq_some_iff.1 hq).1
        rw [HL.out] at this
        have : n = 0 := by omega
        subst this
        omega)
    clear HC
    have OE := Lib.hid (own_empty (w := w) (B := w.heap.size) (e := 121) (k := 2) (Nat.le_refl _))
    have EQ := Lib.run_eql_slice_nil (P := Tryz.prog) w 38 121 (some a) n cap 0 0 Tryz.underlying38
    simp only [Option.isNone_some] at EQ
    go_wp2_with (at_builtin; refine wpList_append_own _ rfl _ _ 38 rfl w.heap.size 121 i0 _ 2 32 Tryz.underlying38 hii hz0 hz1 hz2 rfl (by decide) _ 0 [] rfl OE.out a n cap cs rfl HL.out (fun q u hq => cell_below (CC.out q u hq) ((Below.refl _ _).alloc (Nat.le_refl _) _)) H1.out (by unfold maxLen; omega) (by omega) (by simp) ?_)
    intro v' w' hown hgrow _
    have OW : Hid (w'.ownsRow w.heap.size 121 2 v' n cs) := Lib.hid (by simpa using hown)
    have BW : Hid (Below w.heap.size w w') := Lib.hid (((Below.refl _ _).alloc (Nat.le_refl _) _).grown hgrow (by simp) (fun g hg => by cases hg; exact Nat.le_refl _))
    clear hown hgrow
    go_wp2_with fail
    go_ret
    exact ⟨_, rfl, OW.out, BW.out⟩
set_option maxRecDepth 100000 in
set_option maxHeartbeats 1600000 in
theorem sl_CloneInt (sa : Option Addr) (n cap : Nat) (cs : List Value) (w : World) (hl : cs.length = n * 1) (hn : n ≤ maxLen) (hc : 0 < n → ∃ b off, sa = some ⟨b, off, none⟩ ∧ ∀ q u, cs[q]? = some u → w.cell? ⟨b, off + q, none⟩ = some u)
    (h1 : ∀ u ∈ cs, u.oneCell' = true) (hb : n * 8 ≤ 140737488351232) : Calls Tryz.prog 128 #[.slice sa n cap] w fun e w' => ∃ v', e = .returned v' ∧ w'.ownsRow w.heap.size 3 1 v' n cs ∧ Below w.heap.size w w' := by
  obtain ⟨i0, hii, hz0, hz1, hz2⟩ := info_parts info_intT
  have HC := Lib.hid hc
  have HL := Lib.hid hl
  have H1 := Lib.hid h1
  unfold maxLen at hn
  clear hc hl h1
  go_enter Tryz.func128, Tryz.ntmps128
  cases sa with
  | none =>
    obtain rfl : n = 0 := by
      by_cases h0 : 0 < n
      · obtain ⟨b, off, h, _⟩ := HC.out h0
        cases h
      · omega
    obtain rfl : cs = [] := List.length_eq_zero_iff.1 (by have := HL.out; omega)
    have EQ := Lib.run_eql_slice_nil (P := Tryz.prog) w 39 3 none 0 cap 0 0 Tryz.underlying39
    simp only [Option.isNone_none] at EQ
    go_wp2_with fail
    go_ret
    exact ⟨_, rfl, ⟨by simp, .inl ⟨rfl, rfl⟩⟩, Below.refl _ _⟩
  | some a =>
    have CC : Hid (∀ q u, cs[q]? = some u → w.cell? (a.add q) = some u) := Lib.hid (by
      intro q u hq
      by_cases h0 : 0 < n
      · obtain ⟨b, off, h, h2⟩ := HC.out h0
        injection h with h
        subst h
        have e : (⟨b, off, none⟩ : Addr).add q = ⟨b, off + q, none⟩ := by
          unfold Addr.add
          split
          · next h => rw [h]; simp
          · rfl
        rw [e]
        exact h2 q u hq
      · have := (List.getElem?_eq_some_iff.1 hq).1
        rw [HL.out] at this
        have : n = 0 := by omega
        subst this
        omega)
    clear HC
    have OE := Lib.hid (own_empty (w := w) (B := w.heap.size) (e := 3) (k := 1) (Nat.le_refl _))
    have EQ := Lib.run_eql_slice_nil (P := Tryz.prog) w 39 3 (some a) n cap 0 0 Tryz.underlying39
    simp only [Option.isNone_some] at EQ
    go_wp2_with (at_builtin; refine wpList_append_own _ rfl _ _ 39 rfl w.heap.size 3 i0 _ 1 8 Tryz.underlying39 hii hz0 hz1 hz2 rfl (by decide) _ 0 [] rfl OE.out a n cap cs rfl HL.out (fun q u hq => cell_below (CC.out q u hq) ((Below.refl _ _).alloc (Nat.le_refl _) _)) H1.out (by unfold maxLen; omega) (by omega) (by simp) ?_)
    intro v' w' hown hgrow _
    have OW : Hid (w'.ownsRow w.heap.size 3 1 v' n cs) := Lib.hid (by simpa using hown)
    have BW : Hid (Below w.heap.size w w') := Lib.hid (((Below.refl _ _).alloc (Nat.le_refl _) _).grown hgrow (by simp) (fun g hg => by cases hg; exact Nat.le_refl _))
    clear hown hgrow
    go_wp2_with fail
    go_ret
    exact ⟨_, rfl, OW.out, BW.out⟩
set_option maxRecDepth 100000 in
set_option maxHeartbeats 1600000 in
theorem sl_CloneOther (sa : Option Addr) (n cap : Nat) (cs : List Value) (w : World) (hl : cs.length = n * 2) (hn : n ≤ maxLen) (hc : 0 < n → ∃ b off, sa = some ⟨b, off, none⟩ ∧ ∀ q u, cs[q]? = some u → w.cell? ⟨b, off + q, none⟩ = some u)
    (h1 : ∀ u ∈ cs, u.oneCell' = true) (hb : n * 32 ≤ 140737488351232) : Calls Tryz.prog 129 #[.slice sa n cap] w fun e w' => ∃ v', e = .returned v' ∧ w'.ownsRow w.heap.size 159 2 v' n cs ∧ Below w.heap.size w w' := by
  obtain ⟨i0, hii, hz0, hz1, hz2⟩ := info_parts info_other
  have HC := Lib.hid hc
  have HL := Lib.hid hl
  have H1 := Lib.hid h1
  unfold maxLen at hn
  clear hc hl h1
  go_enter Tryz.func129, Tryz.ntmps129
  cases sa with
  | none =>
    obtain rfl : n = 0 := by
      by_cases h0 : 0 < n
      · obtain ⟨b, off, h, _⟩ := HC.out h0
        cases h
      · omega
    obtain rfl : cs = [] := List.length_eq_zero_iff.1 (by have := HL.out; omega)
    have EQ := Lib.run_eql_slice_nil (P := Tryz.prog) w 40 159 none 0 cap 0 0 Tryz.underlying40
    simp only [Option.isNone_none] at EQ
    go_wp2_with fail
    go_ret
    exact ⟨_, rfl, ⟨by simp, .inl ⟨rfl, rfl⟩⟩, Below.refl _ _⟩
  | some a =>
    have CC : Hid (∀ q u, cs[q]? = some u → w.cell? (a.add q) = some u) := Lib.hid (by
      intro q u hq
      by_cases h0 : 0 < n
      · obtain ⟨b, off, h, h2⟩ := HC.out h0
        injection h with h
        subst h
        have e : (⟨b, off, none⟩ : Addr).add q = ⟨b, off + q, none⟩ := by
          unfold Addr.add
          split
          · next h => rw [h]; simp
          · rfl
        rw [e]
        exact h2 q u hq
      · have := (List.getElem?_eq_some_iff.1 hq).1
        rw [HL.out] at this
        have : n = 0 := by omega
        subst this
        omega)
    clear HC
    have OE := Lib.hid (own_empty (w := w) (B := w.heap.size) (e := 159) (k := 2) (Nat.le_refl _))
    have EQ := Lib.run_eql_slice_nil (P := Tryz.prog) w 40 159 (some a) n cap 0 0 Tryz.underlying40
    simp only [Option.isNone_some] at EQ
    go_wp2_with (at_builtin; refine wpList_append_own _ rfl _ _ 40 rfl w.heap.size 159 i0 _ 2 32 Tryz.underlying40 hii hz0 hz1 hz2 rfl (by decide) _ 0 [] rfl OE.out a n cap cs rfl HL.out (fun q u hq => cell_below (CC.out q u hq) ((Below.refl _ _).alloc (Nat.le_refl _) _)) H1.out (by unfold maxLen; omega) (by omega) (by simp) ?_)
    intro v' w' hown hgrow _
    have OW : Hid (w'.ownsRow w.heap.size 159 2 v' n cs) := Lib.hid (by simpa using hown)
    have BW : Hid (Below w.heap.size w w') := Lib.hid (((Below.refl _ _).alloc (Nat.le_refl _) _).grown hgrow (by simp) (fun g hg => by cases hg; exact Nat.le_refl _))
    clear hown hgrow
    go_wp2_with fail
    go_ret
    exact ⟨_, rfl, OW.out, BW.out⟩
set_option maxRecDepth 100000 in
set_option maxHeartbeats 1600000 in
theorem sl_CloneByte (sa : Option Addr) (n cap : Nat) (cs : List Value) (w : World) (hl : cs.length = n * 1) (hn : n ≤ maxLen) (hc : 0 < n → ∃ b off, sa = some ⟨b, off, none⟩ ∧ ∀ q u, cs[q]? = some u → w.cell? ⟨b, off + q, none⟩ = some u)
    (h1 : ∀ u ∈ cs, u.oneCell' = true) (hb : n * 1 ≤ 140737488351232) : Calls Tryz.prog 130 #[.slice sa n cap] w fun e w' => ∃ v', e = .returned v' ∧ w'.ownsRow w.heap.size 5 1 v' n cs ∧ Below w.heap.size w w' := by
  obtain ⟨i0, hii, hz0, hz1, hz2⟩ := info_parts info_byteT
  have HC := Lib.hid hc
  have HL := Lib.hid hl
  have H1 := Lib.hid h1
  unfold maxLen at hn
  clear hc hl h1
  go_enter Tryz.func130, Tryz.ntmps130
  cases sa with
  | none =>
    obtain rfl : n = 0 := by
      by_cases h0 : 0 < n
      · obtain ⟨b, off, h, _⟩ := HC.out h0
        cases h
      · omega
    obtain rfl : cs = [] := List.length_eq_zero_iff.1 (by have := HL.out; omega)
    have EQ := Lib.run_eql_slice_nil (P := Tryz.prog) w 157 5 none 0 cap 0 0 Tryz.underlying157
    simp only [Option.isNone_none] at EQ
    go_wp2_with fail
    go_ret
    exact ⟨_, rfl, ⟨by simp, .inl ⟨rfl, rfl⟩⟩, Below.refl _ _⟩
  | some a =>
    have CC : Hid (∀ q u, cs[q]? = some u → w.cell? (a.add q) = some u) := Lib.hid (by
      intro q u hq
      by_cases h0 : 0 < n
      · obtain ⟨b, off, h, h2⟩ := HC.out h0
        injection h with h
        subst h
        have e : (⟨b, off, none⟩ : Addr).add q = ⟨b, off + q, none⟩ := by
          unfold Addr.add
          split
          · next h => rw [h]; simp
          · rfl
        rw [e]
        exact h2 q u hq
      · have := (List.getElem?_eq_some_iff.1 hq).1
        rw [HL.out] at this
        have : n = 0 := by omega
        subst this
        omega)
    clear HC
    have OE := Lib.hid (own_empty (w := w) (B := w.heap.size) (e := 5) (k := 1) (Nat.le_refl _))
    have EQ := Lib.run_eql_slice_nil (P := Tryz.prog) w 157 5 (some a) n cap 0 0 Tryz.underlying157
    simp only [Option.isNone_some] at EQ
    go_wp2_with (at_builtin; refine wpList_append_own _ rfl _ _ 157 rfl w.heap.size 5 i0 _ 1 1 Tryz.underlying157 hii hz0 hz1 hz2 rfl (by decide) _ 0 [] rfl OE.out a n cap cs rfl HL.out (fun q u hq => cell_below (CC.out q u hq) ((Below.refl _ _).alloc (Nat.le_refl _) _)) H1.out (by unfold maxLen; omega) (by omega) (by simp) ?_)
    intro v' w' hown hgrow _
    have OW : Hid (w'.ownsRow w.heap.size 5 1 v' n cs) := Lib.hid (by simpa using hown)
    have BW : Hid (Below w.heap.size w w') := Lib.hid (((Below.refl _ _).alloc (Nat.le_refl _) _).grown hgrow (by simp) (fun g hg => by cases hg; exact Nat.le_refl _))
    clear hown hgrow
    go_wp2_with fail
    go_ret
    exact ⟨_, rfl, OW.out, BW.out⟩
end Go.Proofs.YtkoidahgbbabiaaGreat
