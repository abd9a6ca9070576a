/- Texts of one proof, one behind another. -/
import Derived.Test.YtkoidahgbbabiaaGreatFp2
import Derived.SizedLaws
import Derived.Test.YtkoidahgbbabiaaGreatFp8
import Derived.Test.YtkoidahgbbabiaaGreatFp4
import Derived.LoopTactic
import Derived.OwnWalk
import Derived.Deep.DeepCutAuto
import Derived.LoopN
import Derived.Lib.SliceRun
import Derived.Test.YtkoidahgbbabiaaGreatFp5
import Derived.Test.YtkoidahgbbabiaaGreatFp1
import Derived.Deep.QuietTactic
import Derived.BigQuiet
import Derived.Deep.CutBlock
import Derived.Test.YtkoidahgbbabiaaGreatFp9
namespace Go.Proofs.YtkoidahgbbabiaaGreat
open Go.RowKit Go.ChangeShapes Go.WideShapes
def Sz {H : Type} (P : Program) (t : TypeId) (d : DataW H) : Prop := ∀ n ∈ d.weights P t, n ≤ 140737488351232
theorem sz_of {H : Type} {P : Program} {ts : List TypeId} {ds : List (DataW H)} (h : (DataW.weightsEach P ts ds).all (· ≤ reachBytes) = true) {j : Nat} {t : TypeId} {d : DataW H} (ht : ts[j]? = some t) (hd : ds[j]? = some d) : Sz P t d := by
 intro n hn
 have := List.all_eq_true.1 h n (DataW.weights_mem_each ht hd n hn)
 exact of_decide_eq_true this
theorem mem_weightsAll {H : Type} {P : Program} {e : TypeId} : ∀ {ds : List (DataW H)} {d : DataW H}, d ∈ ds → ∀ n ∈ d.weights P e, n ∈ DataW.weightsAll P e ds
 | x :: ds, d, h, n, hn => by
  simp only [DataW.weightsAll, List.mem_append]
  rcases List.mem_cons.1 h with rfl | h
  ·exact .inl hn
  ·exact .inr (mem_weightsAll h n hn)
 | [], _, h, _, _ => by simp at h
theorem sz_field {H : Type} {P : Program} {t : TypeId} {fs : Array Field} (hu : P.underlying t = some (.struct fs)) {parts : List (DataW H)} (h : Sz P t (.agg parts)) {j : Nat} {u : TypeId} {d : DataW H} (hf : (fs.toList.map (·.type))[j]? = some u) (hd : parts[j]? = some d) : Sz P u d := by
 intro n hn
 refine h n ?_
 simp only [DataW.weights, hu]
 exact DataW.weights_mem_each hf hd n hn
section
variable {H : Type} {enc : TypeId × Value → H} {w : World} {base : Nat} {spare : Nat → Bool} {held : Bool}
theorem open_sl_sz {α : Type} {t e : TypeId} {k f bs : Nat} {R : α → List Value → Prop} {S : α → Prop} {cs : List Value} {x : DataW H × List MemPlace} (ht : Tryz.prog.underlying t = some (.slice e)) (hk : Tryz.prog.cellsOf e = k) (hb : Tryz.prog.bytesOf e = bs) (hk0 : 0 < k)
  (hR : ∀ f cs y, DataW.trod enc Tryz.prog w base spare held f e cs = some y → Sz Tryz.prog e y.1 → ∃ a : α, R a cs ∧ S a) (h : DataW.trod enc Tryz.prog w base spare held f t cs = some x) (hz : Sz Tryz.prog t x.1) :
  ∃ v xs, cs = [v] ∧ SlAt w k R v xs ∧ xs.length * bs ≤ 140737488351232 ∧ ∀ x ∈ xs, S x := by
 rcases Deep.open_slice ht h with ⟨h1, _⟩ | ⟨a, len, cap, m, n, D, Pl, h1, _, hlc, hcap, hm, he, hx⟩
 ·exact ⟨_, [], h1, SlAt.nil, by simp, fun x hx => by simp at hx⟩
 ·rw [hk] at hx
  have hlm : len ≤ m := by rw [hm]; split <;> omega
  have hz1 : ∀ i, i < len → Sz Tryz.prog e (D i) := by
   intro i hi q hq
   refine hz q ?_
   rw [he]
   simp only [DataW.weights, ht, List.mem_cons, List.mem_append]
   exact .inr (.inl (mem_weightsAll (List.mem_map.2 ⟨i, List.mem_range.2 hi, rfl⟩) q hq))
  have hz0 : len * bs ≤ 140737488351232 := by
   have := hz (((List.range len).map D).length * bs + ((List.range (m - len)).map fun j => D (len + j)).length * bs) (by
    rw [he]
    simp only [DataW.weights, ht, hb, List.mem_cons, ← Nat.add_mul]
    exact .inl trivial)
   simp at this
   omega
  have hone : ∀ i : Fin len, ∃ z : α × List Value, S z.1 ∧ z.2.length = k ∧ R z.1 z.2 ∧ ∀ j c, z.2[j]? = some c → w.cell? (a.add (i.val * k + j)) = some c := by
   intro i
   obtain ⟨cs', hcs, ht⟩ := hx i.val (by omega)
   obtain ⟨y, hy, hS⟩ := hR _ _ _ ht (hz1 i.val i.isLt)
   obtain ⟨_, hl, hat⟩ := World.cells?_some hcs
   refine ⟨(y, cs'), hS, hl, hy, fun j c hc => ?_⟩
   have hj : j < k := by rw [← hl]; exact (List.getElem?_eq_some_iff.1 hc).1
   have := hat j hj
   rw [Deep.add_add] at this
   rw [this]; exact hc
  have hch := Classical.axiomOfChoice hone
  obtain ⟨g, hg⟩ := hch
  refine ⟨_, List.ofFn fun i => (g i).1, h1, ⟨some a, cap, by simp, by simp; omega, hcap, fun h0 => ?_⟩, by simpa using hz0, fun x hx => ?_⟩
  ·have h0' : 0 < len := by simpa using h0
   have hsp : a.spot = none := by
    obtain ⟨_, e1, _, e3⟩ := hg ⟨0, h0'⟩
    have hlt : 0 < (g ⟨0, h0'⟩).2.length := by rw [e1]; exact hk0
    have hc := e3 0 _ (List.getElem?_eq_getElem hlt)
    have e : a.add (0 * k + 0) = a := by unfold Addr.add; simp
    simp only at hc
    rw [e] at hc
    unfold World.cell? at hc
    cases hq : a.spot with
    | none => rfl
    | some q => rw [hq] at hc; simp at hc; split at hc <;> simp at hc
   have had : ∀ k, a.add k = ⟨a.block, a.off + k, none⟩ := fun k => by
    unfold Addr.add
    split
    ·rename_i hk; subst hk; cases a; simp at hsp; simp [hsp]
    ·rfl
   refine ⟨a.block, a.off, by cases a; simp at hsp; simp [hsp], fun i s hi => ?_⟩
   have hil : i < len := by
    have := (List.getElem?_eq_some_iff.1 hi).1
    simpa using this
   rw [List.getElem?_ofFn] at hi
   simp [hil] at hi
   subst hi
   obtain ⟨_, e1, e2, e3⟩ := hg ⟨i, hil⟩
   refine ⟨_, e1, e2, fun j c hc => ?_⟩
   have := e3 j c hc
   rw [had, ← Nat.add_assoc] at this
   exact this
  ·obtain ⟨i, rfl⟩ := (List.mem_ofFn).1 hx
   exact (hg i).1
theorem sl_ints_sz {f : Nat} {c : List Value} {y : DataW H × List MemPlace} (h : DataW.trod enc Tryz.prog w base spare held f 39 c = some y) (hz : Sz Tryz.prog 39 y.1) : ∃ v xs, c = [v] ∧ IntsAt w v xs ∧ xs.length * 8 ≤ 140737488351232 := by
 obtain ⟨v, xs, h1, h2, h3, _⟩ := open_sl_sz (k := 1) (bs := 8) (R := IntC) (S := fun _ => True) Tryz.underlying39 (by kernel_rfl) (by kernel_rfl) (by decide) (fun _ _ _ h _ => by obtain ⟨n, hn⟩ := sl_i64 h; exact ⟨n, hn, trivial⟩) h hz
 exact ⟨v, xs, h1, h2, h3⟩
theorem sl_bytes_sz {f : Nat} {c : List Value} {y : DataW H × List MemPlace} (h : DataW.trod enc Tryz.prog w base spare held f 157 c = some y) (hz : Sz Tryz.prog 157 y.1) : ∃ v xs, c = [v] ∧ BytesAt w v xs ∧ xs.length * 1 ≤ 140737488351232 := by
 obtain ⟨v, xs, h1, h2, h3, _⟩ := open_sl_sz (k := 1) (bs := 1) (R := ByteC) (S := fun _ => True) Tryz.underlying157 (by kernel_rfl) (by kernel_rfl) (by decide) (fun _ _ _ h _ => by obtain ⟨n, hn⟩ := sl_u8 h; exact ⟨n, hn, trivial⟩) h hz
 exact ⟨v, xs, h1, h2, h3⟩
def SgSz (s : Sg) : Prop := s.2.length * 8 ≤ 140737488351232
def OthSz (o : Oth) : Prop := o.2.length ≤ 140737488351232
structure AtSz (a : At) : Prop where
 path : a.path.length * 32 ≤ 140737488351232
 segs : ∀ s ∈ a.path, SgSz s
 comms : a.comms.length * 8 ≤ 140737488351232
 others : a.others.length * 32 ≤ 140737488351232
 vals : ∀ o ∈ a.others, OthSz o
set_option maxRecDepth 100000 in
theorem sl_seg_sz {f : Nat} {cs : List Value} {x : DataW H × List MemPlace} (h : DataW.trod enc Tryz.prog w base spare held f 121 cs = some x) (hz : Sz Tryz.prog 121 x.1) : ∃ s : Sg, SegC w s cs ∧ SgSz s := by
 obtain ⟨xs, n, _, hxe, hl, hxl, hf⟩ := DataW.trod_struct Tryz.underlying121 h
 rw [hxe] at hz
 have hc2 : Tryz.prog.cellsOf 121 = 2 := by kernel_rfl
 have hcb : Tryz.prog.cellsOf 4 = 1 := by kernel_rfl
 have hci : Tryz.prog.cellsOf 39 = 1 := by kernel_rfl
 rw [hc2] at hl
 match cs, hl with
 | [c0, c1], _ =>
  match xs, hxl with
  | [x0, x1], _ =>
   have e0 := hf 0 _ rfl
   have e1 := hf 1 _ rfl
   simp [hcb, hci] at e0 e1
   obtain ⟨s, hs, _⟩ := DataW.trod_bool Tryz.underlying4 e0
   obtain ⟨v, l, hv, hi, hzl⟩ := sl_ints_sz e1 (sz_field Tryz.underlying121 hz (j := 1) rfl rfl)
   simp at hs hv
   subst hs; subst hv
   exact ⟨(s, l), ⟨c1, rfl, hi⟩, hzl⟩
set_option maxRecDepth 100000 in
theorem sl_other_sz {f : Nat} {cs : List Value} {x : DataW H × List MemPlace} (h : DataW.trod enc Tryz.prog w base spare held f 159 cs = some x) (hz : Sz Tryz.prog 159 x.1) : ∃ s : Oth, OthC w s cs ∧ OthSz s := by
 obtain ⟨xs, n, _, hxe, hl, hxl, hf⟩ := DataW.trod_struct Tryz.underlying159 h
 rw [hxe] at hz
 have hc2 : Tryz.prog.cellsOf 159 = 2 := by kernel_rfl
 have hcb : Tryz.prog.cellsOf 3 = 1 := by kernel_rfl
 have hci : Tryz.prog.cellsOf 157 = 1 := by kernel_rfl
 rw [hc2] at hl
 match cs, hl with
 | [c0, c1], _ =>
  match xs, hxl with
  | [x0, x1], _ =>
   have e0 := hf 0 _ rfl
   have e1 := hf 1 _ rfl
   simp [hcb, hci] at e0 e1
   obtain ⟨s, hs, ir⟩ := sl_i64 e0
   obtain ⟨v, l, hv, hi, hzl⟩ := sl_bytes_sz e1 (sz_field Tryz.underlying159 hz (j := 1) rfl rfl)
   simp at hs hv
   subst hs; subst hv
   exact ⟨(s, l), ⟨c1, rfl, ir, hi⟩, by unfold OthSz; simpa using hzl⟩
set_option maxRecDepth 100000 in
theorem sl_attrs_sz {f : Nat} {cs : List Value} {x : DataW H × List MemPlace} (h : DataW.trod enc Tryz.prog w base spare held f 42 cs = some x) (hz : Sz Tryz.prog 42 x.1) : ∃ a : At, AtC w a cs ∧ AtSz a := by
 obtain ⟨xs, n, _, hxe, hl, hxl, hf⟩ := DataW.trod_struct Tryz.underlying42 h
 rw [hxe] at hz
 have hc : Tryz.prog.cellsOf 42 = 10 := by kernel_rfl
 have hc0 : Tryz.prog.cellsOf 3 = 1 := by kernel_rfl
 have hc1 : Tryz.prog.cellsOf 38 = 1 := by kernel_rfl
 have hc2 : Tryz.prog.cellsOf 36 = 1 := by kernel_rfl
 have hc3 : Tryz.prog.cellsOf 39 = 1 := by kernel_rfl
 have hc4 : Tryz.prog.cellsOf 40 = 1 := by kernel_rfl
 rw [hc] at hl
 match cs, hl with
 | [c0, c1, c2, c3, c4, c5, c6, c7, c8, c9], _ =>
  match xs, hxl with
  | [x0, x1, x2, x3, x4, x5, x6, x7, x8, x9], _ =>
   have e0 := hf 0 _ rfl
   have e1 := hf 1 _ rfl
   have e2 := hf 2 _ rfl
   have e3 := hf 3 _ rfl
   have e4 := hf 4 _ rfl
   have e5 := hf 5 _ rfl
   have e6 := hf 6 _ rfl
   have e7 := hf 7 _ rfl
   have e8 := hf 8 _ rfl
   have e9 := hf 9 _ rfl
   simp [hc0, hc1, hc2, hc3, hc4] at e0 e1 e2 e3 e4 e5 e6 e7 e8 e9
   obtain ⟨has, q0, i0⟩ := sl_i64 e0
   obtain ⟨origin, q1, i1⟩ := sl_i64 e1
   obtain ⟨vp, path, q2, i2, z2, s2⟩ := open_sl_sz (k := 2) (bs := 32) (R := SegC w) (S := SgSz) Tryz.underlying38 (by kernel_rfl) (by kernel_rfl) (by decide) (fun _ _ _ h hz => sl_seg_sz h hz) e2 (sz_field Tryz.underlying42 hz (j := 2) rfl rfl)
   obtain ⟨hop, q3, i3⟩ := sl_u32 e3
   obtain ⟨med, q4, i4⟩ := sl_i64 e4
   obtain ⟨loc, q5, i5⟩ := sl_i64 e5
   obtain ⟨aggrAs, q6, i6⟩ := sl_i64 e6
   obtain ⟨aggrId, q7, i7⟩ := sl_u32 e7
   obtain ⟨vc, comms, q8, i8, z8⟩ := sl_ints_sz e8 (sz_field Tryz.underlying42 hz (j := 8) rfl rfl)
   obtain ⟨vo, others, q9, i9, z9, s9⟩ := open_sl_sz (k := 2) (bs := 32) (R := OthC w) (S := OthSz) Tryz.underlying40 (by kernel_rfl) (by kernel_rfl) (by decide) (fun _ _ _ h hz => sl_other_sz h hz) e9 (sz_field Tryz.underlying42 hz (j := 9) rfl rfl)
   simp at q0 q1 q2 q3 q4 q5 q6 q7 q8 q9
   subst q0; subst q1; subst q2; subst q3; subst q4; subst q5; subst q6; subst q7; subst q8; subst q9
   exact ⟨⟨has, origin, path, hop, med, loc, aggrAs, aggrId, comms, others⟩, ⟨c2, c8, c9, rfl, ⟨i0, i1, i3, i4, i5, i6, i7⟩, i2, i8, i9⟩, ⟨z2, s2, z8, z9, s9⟩⟩
end
open Go.RowKit
set_option maxRecDepth 100000 in
theorem info_seg : (Tryz.prog.info? 121).map (fun i => (i.zero, i.size, i.bytes)) = some (some (.agg #[.bool false, .slice none 0 0]), 2, 32) := by kernel_rfl
set_option maxRecDepth 100000 in
theorem info_other : (Tryz.prog.info? 159).map (fun i => (i.zero, i.size, i.bytes)) = some (some (.agg #[.int .i64 0, .slice none 0 0]), 2, 32) := by kernel_rfl
set_option maxRecDepth 100000 in
theorem info_intT : (Tryz.prog.info? 3).map (fun i => (i.zero, i.size, i.bytes)) = some (some (.int .i64 0), 1, 8) := by kernel_rfl
set_option maxRecDepth 100000 in
theorem info_byteT : (Tryz.prog.info? 5).map (fun i => (i.zero, i.size, i.bytes)) = some (some (.int .u8 0), 1, 1) := by kernel_rfl
set_option maxRecDepth 100000 in
set_option maxHeartbeats 1600000 in
theorem sl_CloneSeg (sa : Option Addr) (n cap : Nat) (cs : List Value) (w : World) (hl : cs.length = n * 2) (hn : n ≤ maxLen) (hc : 0 < n → ∃ b off, sa = some ⟨b, off, none⟩ ∧ ∀ q u, cs[q]? = some u → w.cell? ⟨b, off + q, none⟩ = some u)
  (h1 : ∀ u ∈ cs, u.oneCell' = true) (hb : n * 32 ≤ 140737488351232) : Calls Tryz.prog 127 #[.slice sa n cap] w fun e w' => ∃ v', e = .returned v' ∧ w'.ownsRow w.heap.size 121 2 v' n cs ∧ Below w.heap.size w w' := by
 obtain ⟨i0, hii, hz0, hz1, hz2⟩ := info_parts info_seg
 have HC := jh hc
 have HL := jh hl
 have H1 := jh h1
 unfold maxLen at hn
 clear hc hl h1
 go_enter Tryz.func127, Tryz.ntmps127
 cases sa with
 | none =>
  obtain rfl : n = 0 := by
   by_cases h0 : 0 < n
   ·obtain ⟨b, off, h, _⟩ := HC.out h0
    cases h
   ·omega
  obtain rfl : cs = [] := List.length_eq_zero_iff.1 (by have := HL.out; omega)
  have EQ := Lib.run_eql_slice_nil (P := Tryz.prog) w 38 121 none 0 cap 0 0 Tryz.underlying38
  simp only [Option.isNone_none] at EQ
  go_wp2_with fail
  go_ret
  exact ⟨_, rfl, ⟨by simp, .inl ⟨rfl, rfl⟩⟩, Below.refl _ _⟩
 | some a =>
  have CC : Hid (∀ q u, cs[q]? = some u → w.cell? (a.add q) = some u) := jh (by
   intro q u hq
   by_cases h0 : 0 < n
   ·obtain ⟨b, off, h, h2⟩ := HC.out h0
    injection h with h
    subst h
    have e : (⟨b, off, none⟩ : Addr).add q = ⟨b, off + q, none⟩ := by
     unfold Addr.add
     split
     ·next h => rw [h]; simp
     ·rfl
    rw [e]
    exact h2 q u hq
   ·have := (List.getElem?_eq_some_iff.1 hq).1
    rw [HL.out] at this
    have : n = 0 := by omega
    subst this
    omega)
  clear HC
  have OE := jh (own_empty (w := w) (B := w.heap.size) (e := 121) (k := 2) (Nat.le_refl _))
  have EQ := Lib.run_eql_slice_nil (P := Tryz.prog) w 38 121 (some a) n cap 0 0 Tryz.underlying38
  simp only [Option.isNone_some] at EQ
  go_wp2_with (at_builtin; refine wpList_append_own _ rfl _ _ 38 rfl w.heap.size 121 i0 _ 2 32 Tryz.underlying38 hii hz0 hz1 hz2 rfl (by decide) _ 0 [] rfl OE.out a n cap cs rfl HL.out (fun q u hq => jA (CC.out q u hq) ((Below.refl _ _).alloc (Nat.le_refl _) _)) H1.out (by unfold maxLen; omega) (by omega) (by simp) ?_)
  intro v' w' hown hgrow _
  have OW : Hid (w'.ownsRow w.heap.size 121 2 v' n cs) := jh (by simpa using hown)
  have BW : Hid (Below w.heap.size w w') := jh (((Below.refl _ _).alloc (Nat.le_refl _) _).grown hgrow (by simp) (fun g hg => by cases hg; exact Nat.le_refl _))
  clear hown hgrow
  go_wp2_with fail
  go_ret
  exact ⟨_, rfl, OW.out, BW.out⟩
set_option maxRecDepth 100000 in
set_option maxHeartbeats 1600000 in
theorem sl_CloneInt (sa : Option Addr) (n cap : Nat) (cs : List Value) (w : World) (hl : cs.length = n * 1) (hn : n ≤ maxLen) (hc : 0 < n → ∃ b off, sa = some ⟨b, off, none⟩ ∧ ∀ q u, cs[q]? = some u → w.cell? ⟨b, off + q, none⟩ = some u)
  (h1 : ∀ u ∈ cs, u.oneCell' = true) (hb : n * 8 ≤ 140737488351232) : Calls Tryz.prog 128 #[.slice sa n cap] w fun e w' => ∃ v', e = .returned v' ∧ w'.ownsRow w.heap.size 3 1 v' n cs ∧ Below w.heap.size w w' := by
 obtain ⟨i0, hii, hz0, hz1, hz2⟩ := info_parts info_intT
 have HC := jh hc
 have HL := jh hl
 have H1 := jh h1
 unfold maxLen at hn
 clear hc hl h1
 go_enter Tryz.func128, Tryz.ntmps128
 cases sa with
 | none =>
  obtain rfl : n = 0 := by
   by_cases h0 : 0 < n
   ·obtain ⟨b, off, h, _⟩ := HC.out h0
    cases h
   ·omega
  obtain rfl : cs = [] := List.length_eq_zero_iff.1 (by have := HL.out; omega)
  have EQ := Lib.run_eql_slice_nil (P := Tryz.prog) w 39 3 none 0 cap 0 0 Tryz.underlying39
  simp only [Option.isNone_none] at EQ
  go_wp2_with fail
  go_ret
  exact ⟨_, rfl, ⟨by simp, .inl ⟨rfl, rfl⟩⟩, Below.refl _ _⟩
 | some a =>
  have CC : Hid (∀ q u, cs[q]? = some u → w.cell? (a.add q) = some u) := jh (by
   intro q u hq
   by_cases h0 : 0 < n
   ·obtain ⟨b, off, h, h2⟩ := HC.out h0
    injection h with h
    subst h
    have e : (⟨b, off, none⟩ : Addr).add q = ⟨b, off + q, none⟩ := by
     unfold Addr.add
     split
     ·next h => rw [h]; simp
     ·rfl
    rw [e]
    exact h2 q u hq
   ·have := (List.getElem?_eq_some_iff.1 hq).1
    rw [HL.out] at this
    have : n = 0 := by omega
    subst this
    omega)
  clear HC
  have OE := jh (own_empty (w := w) (B := w.heap.size) (e := 3) (k := 1) (Nat.le_refl _))
  have EQ := Lib.run_eql_slice_nil (P := Tryz.prog) w 39 3 (some a) n cap 0 0 Tryz.underlying39
  simp only [Option.isNone_some] at EQ
  go_wp2_with (at_builtin; refine wpList_append_own _ rfl _ _ 39 rfl w.heap.size 3 i0 _ 1 8 Tryz.underlying39 hii hz0 hz1 hz2 rfl (by decide) _ 0 [] rfl OE.out a n cap cs rfl HL.out (fun q u hq => jA (CC.out q u hq) ((Below.refl _ _).alloc (Nat.le_refl _) _)) H1.out (by unfold maxLen; omega) (by omega) (by simp) ?_)
  intro v' w' hown hgrow _
  have OW : Hid (w'.ownsRow w.heap.size 3 1 v' n cs) := jh (by simpa using hown)
  have BW : Hid (Below w.heap.size w w') := jh (((Below.refl _ _).alloc (Nat.le_refl _) _).grown hgrow (by simp) (fun g hg => by cases hg; exact Nat.le_refl _))
  clear hown hgrow
  go_wp2_with fail
  go_ret
  exact ⟨_, rfl, OW.out, BW.out⟩
set_option maxRecDepth 100000 in
set_option maxHeartbeats 1600000 in
theorem sl_CloneOther (sa : Option Addr) (n cap : Nat) (cs : List Value) (w : World) (hl : cs.length = n * 2) (hn : n ≤ maxLen) (hc : 0 < n → ∃ b off, sa = some ⟨b, off, none⟩ ∧ ∀ q u, cs[q]? = some u → w.cell? ⟨b, off + q, none⟩ = some u)
  (h1 : ∀ u ∈ cs, u.oneCell' = true) (hb : n * 32 ≤ 140737488351232) : Calls Tryz.prog 129 #[.slice sa n cap] w fun e w' => ∃ v', e = .returned v' ∧ w'.ownsRow w.heap.size 159 2 v' n cs ∧ Below w.heap.size w w' := by
 obtain ⟨i0, hii, hz0, hz1, hz2⟩ := info_parts info_other
 have HC := jh hc
 have HL := jh hl
 have H1 := jh h1
 unfold maxLen at hn
 clear hc hl h1
 go_enter Tryz.func129, Tryz.ntmps129
 cases sa with
 | none =>
  obtain rfl : n = 0 := by
   by_cases h0 : 0 < n
   ·obtain ⟨b, off, h, _⟩ := HC.out h0
    cases h
   ·omega
  obtain rfl : cs = [] := List.length_eq_zero_iff.1 (by have := HL.out; omega)
  have EQ := Lib.run_eql_slice_nil (P := Tryz.prog) w 40 159 none 0 cap 0 0 Tryz.underlying40
  simp only [Option.isNone_none] at EQ
  go_wp2_with fail
  go_ret
  exact ⟨_, rfl, ⟨by simp, .inl ⟨rfl, rfl⟩⟩, Below.refl _ _⟩
 | some a =>
  have CC : Hid (∀ q u, cs[q]? = some u → w.cell? (a.add q) = some u) := jh (by
   intro q u hq
   by_cases h0 : 0 < n
   ·obtain ⟨b, off, h, h2⟩ := HC.out h0
    injection h with h
    subst h
    have e : (⟨b, off, none⟩ : Addr).add q = ⟨b, off + q, none⟩ := by
     unfold Addr.add
     split
     ·next h => rw [h]; simp
     ·rfl
    rw [e]
    exact h2 q u hq
   ·have := (List.getElem?_eq_some_iff.1 hq).1
    rw [HL.out] at this
    have : n = 0 := by omega
    subst this
    omega)
  clear HC
  have OE := jh (own_empty (w := w) (B := w.heap.size) (e := 159) (k := 2) (Nat.le_refl _))
  have EQ := Lib.run_eql_slice_nil (P := Tryz.prog) w 40 159 (some a) n cap 0 0 Tryz.underlying40
  simp only [Option.isNone_some] at EQ
  go_wp2_with (at_builtin; refine wpList_append_own _ rfl _ _ 40 rfl w.heap.size 159 i0 _ 2 32 Tryz.underlying40 hii hz0 hz1 hz2 rfl (by decide) _ 0 [] rfl OE.out a n cap cs rfl HL.out (fun q u hq => jA (CC.out q u hq) ((Below.refl _ _).alloc (Nat.le_refl _) _)) H1.out (by unfold maxLen; omega) (by omega) (by simp) ?_)
  intro v' w' hown hgrow _
  have OW : Hid (w'.ownsRow w.heap.size 159 2 v' n cs) := jh (by simpa using hown)
  have BW : Hid (Below w.heap.size w w') := jh (((Below.refl _ _).alloc (Nat.le_refl _) _).grown hgrow (by simp) (fun g hg => by cases hg; exact Nat.le_refl _))
  clear hown hgrow
  go_wp2_with fail
  go_ret
  exact ⟨_, rfl, OW.out, BW.out⟩
set_option maxRecDepth 100000 in
set_option maxHeartbeats 1600000 in
theorem sl_CloneByte (sa : Option Addr) (n cap : Nat) (cs : List Value) (w : World) (hl : cs.length = n * 1) (hn : n ≤ maxLen) (hc : 0 < n → ∃ b off, sa = some ⟨b, off, none⟩ ∧ ∀ q u, cs[q]? = some u → w.cell? ⟨b, off + q, none⟩ = some u)
  (h1 : ∀ u ∈ cs, u.oneCell' = true) (hb : n * 1 ≤ 140737488351232) : Calls Tryz.prog 130 #[.slice sa n cap] w fun e w' => ∃ v', e = .returned v' ∧ w'.ownsRow w.heap.size 5 1 v' n cs ∧ Below w.heap.size w w' := by
 obtain ⟨i0, hii, hz0, hz1, hz2⟩ := info_parts info_byteT
 have HC := jh hc
 have HL := jh hl
 have H1 := jh h1
 unfold maxLen at hn
 clear hc hl h1
 go_enter Tryz.func130, Tryz.ntmps130
 cases sa with
 | none =>
  obtain rfl : n = 0 := by
   by_cases h0 : 0 < n
   ·obtain ⟨b, off, h, _⟩ := HC.out h0
    cases h
   ·omega
  obtain rfl : cs = [] := List.length_eq_zero_iff.1 (by have := HL.out; omega)
  have EQ := Lib.run_eql_slice_nil (P := Tryz.prog) w 157 5 none 0 cap 0 0 Tryz.underlying157
  simp only [Option.isNone_none] at EQ
  go_wp2_with fail
  go_ret
  exact ⟨_, rfl, ⟨by simp, .inl ⟨rfl, rfl⟩⟩, Below.refl _ _⟩
 | some a =>
  have CC : Hid (∀ q u, cs[q]? = some u → w.cell? (a.add q) = some u) := jh (by
   intro q u hq
   by_cases h0 : 0 < n
   ·obtain ⟨b, off, h, h2⟩ := HC.out h0
    injection h with h
    subst h
    have e : (⟨b, off, none⟩ : Addr).add q = ⟨b, off + q, none⟩ := by
     unfold Addr.add
     split
     ·next h => rw [h]; simp
     ·rfl
    rw [e]
    exact h2 q u hq
   ·have := (List.getElem?_eq_some_iff.1 hq).1
    rw [HL.out] at this
    have : n = 0 := by omega
    subst this
    omega)
  clear HC
  have OE := jh (own_empty (w := w) (B := w.heap.size) (e := 5) (k := 1) (Nat.le_refl _))
  have EQ := Lib.run_eql_slice_nil (P := Tryz.prog) w 157 5 (some a) n cap 0 0 Tryz.underlying157
  simp only [Option.isNone_some] at EQ
  go_wp2_with (at_builtin; refine wpList_append_own _ rfl _ _ 157 rfl w.heap.size 5 i0 _ 1 1 Tryz.underlying157 hii hz0 hz1 hz2 rfl (by decide) _ 0 [] rfl OE.out a n cap cs rfl HL.out (fun q u hq => jA (CC.out q u hq) ((Below.refl _ _).alloc (Nat.le_refl _) _)) H1.out (by unfold maxLen; omega) (by omega) (by simp) ?_)
  intro v' w' hown hgrow _
  have OW : Hid (w'.ownsRow w.heap.size 5 1 v' n cs) := jh (by simpa using hown)
  have BW : Hid (Below w.heap.size w w') := jh (((Below.refl _ _).alloc (Nat.le_refl _) _).grown hgrow (by simp) (fun g hg => by cases hg; exact Nat.le_refl _))
  clear hown hgrow
  go_wp2_with fail
  go_ret
  exact ⟨_, rfl, OW.out, BW.out⟩
open Go.RowKit
theorem jV {w : World} {B k n : Nat} {e : TypeId} {v : Value} {xs : List Value} (h : w.ownsRow B e k v n xs) : ∃ (sa : Option Addr) (c : Nat), v = .slice sa n c ∧ (0 < n → ∃ g, sa = some ⟨g, 0, none⟩) := by
 rcases own_slice h with ⟨rfl, rfl⟩ | ⟨g, c, rfl⟩
 ·exact ⟨none, 0, rfl, fun h => absurd h (by simp)⟩
 ·exact ⟨_, c, rfl, fun _ => ⟨g, rfl⟩⟩
def i64L (n : Int) : List Value := [.int .i64 n]
def u8L (n : Nat) : List Value := [.int .u8 n]
theorem i64L_len (x : Int) : (i64L x).length = 1 := rfl
theorem u8L_len (x : Nat) : (u8L x).length = 1 := rfl
theorem own_i64s {w : World} {B : Nat} {e : TypeId} {v : Value} {xs : List Int} (h : w.ownsRow B e 1 v xs.length (xs.flatMap i64L)) (hx : ∀ x ∈ xs, I64r x) : IntsAt w v xs :=
 (own_slat (C := i64L) i64L_len h).imp fun x _ hm h => ⟨h, hx x hm⟩
theorem own_u8s {w : World} {B : Nat} {e : TypeId} {v : Value} {xs : List Nat} (h : w.ownsRow B e 1 v xs.length (xs.flatMap u8L)) (hx : ∀ x ∈ xs, x < 256) : BytesAt w v xs :=
 (own_slat (C := u8L) u8L_len h).imp fun x _ hm h => ⟨h, hx x hm⟩
theorem slat_all {α : Type} {w : World} {k : Nat} {R : α → List Value → Prop} {v : Value} {xs : List α} (h : SlAt w k R v xs) : ∀ x ∈ xs, ∃ cs, R x cs := by
 obtain ⟨_, _, _, _, _, h4⟩ := h
 intro x hx
 obtain ⟨i, hi⟩ := List.getElem?_of_mem hx
 obtain ⟨b, off, _, h6⟩ := h4 (by have := (List.getElem?_eq_some_iff.1 hi).1; omega)
 obtain ⟨cs, _, hr, _⟩ := h6 i x hi
 exact ⟨cs, hr⟩
theorem ints_rng {w : World} {v : Value} {xs : List Int} (h : IntsAt w v xs) : ∀ x ∈ xs, I64r x := fun x hx => by
 obtain ⟨cs, h1, h2⟩ := slat_all h x hx; exact h2
theorem bytes_rng {w : World} {v : Value} {xs : List Nat} (h : BytesAt w v xs) : ∀ x ∈ xs, x < 256 := fun x hx => by
 obtain ⟨cs, h1, h2⟩ := slat_all h x hx; exact h2
theorem rows_flat {α : Type} {C : α → List Value} {R : α → List Value → Prop} {xs : List α} {rows : List (List Value)} (hl : rows.length = xs.length) (h : ∀ (i : Nat) (x : α), xs[i]? = some x → ∃ cs, rows[i]? = some cs ∧ R x cs) (hR : ∀ x cs, R x cs → cs = C x) : rows.flatten = xs.flatMap C := by
 have : rows = xs.map C := by
  apply List.ext_getElem?
  intro i
  by_cases hi : i < xs.length
  ·obtain ⟨cs, h1, h2⟩ := h i _ (List.getElem?_eq_getElem hi)
   rw [h1, hR _ _ h2]
   simp [hi]
  ·rw [List.getElem?_eq_none (by omega), List.getElem?_eq_none (by simp; omega)]
 rw [this, List.flatMap_def]
theorem clone_ints (v : Value) (xs : List Int) (w : World) (h : IntsAt w v xs) (hz : xs.length * 8 ≤ 140737488351232) :
  Calls Tryz.prog 128 #[v] w fun e w' => ∃ v', e = .returned v' ∧ w'.ownsRow w.heap.size 3 1 v' xs.length (xs.flatMap i64L) ∧ Below w.heap.size w w' := by
 obtain ⟨sa, cap, rows, rfl, h2, h3, h4, h5, h6, h7⟩ := slat_rows h
 have e := rows_flat (C := i64L) h4 h6 (fun x cs h => h.1)
 rw [e] at h7
 exact sl_CloneInt sa xs.length cap _ w (by rw [jX i64L_len]) (Nat.le_trans h2 h3) h7 (fun u hu => by
  obtain ⟨x, _, hx⟩ := List.mem_flatMap.1 hu
  simp [i64L] at hx; subst hx; rfl) hz
theorem clone_bytes (v : Value) (xs : List Nat) (w : World) (h : BytesAt w v xs) (hz : xs.length ≤ 140737488351232) :
  Calls Tryz.prog 130 #[v] w fun e w' => ∃ v', e = .returned v' ∧ w'.ownsRow w.heap.size 5 1 v' xs.length (xs.flatMap u8L) ∧ Below w.heap.size w w' := by
 obtain ⟨sa, cap, rows, rfl, h2, h3, h4, h5, h6, h7⟩ := slat_rows h
 have e := rows_flat (C := u8L) h4 h6 (fun x cs h => h.1)
 rw [e] at h7
 exact sl_CloneByte sa xs.length cap _ w (by rw [jX u8L_len]) (Nat.le_trans h2 h3) h7 (fun u hu => by
  obtain ⟨x, _, hx⟩ := List.mem_flatMap.1 hu
  simp [u8L] at hx; subst hx; rfl) (by omega)
def NF (W : World) (k : Nat) (v : Value) : Prop := ∀ b off n c, v = .slice (some ⟨b, off, none⟩) n c → ∀ j, j < n * k → W.frozen? ⟨b, off + j, none⟩ = false
theorem own_nf {w : World} {B k n : Nat} {e : TypeId} {v : Value} {xs : List Value} (h : w.ownsRow B e k v n xs) : NF w k v := by
 intro b off m c hv j _
 rcases h.2 with ⟨rfl, _⟩ | ⟨g, cap, cur, rfl, _, hg, _⟩
 ·cases hv
 ·injection hv with hv _ _
  injection hv with hv
  injection hv with hb ho
  subst hb; subst ho
  simp [World.frozen?, hg]
theorem own_nfF {w : World} {B k n : Nat} {e : TypeId} {v : Value} {xs : List Value} (h : w.ownsRow B e k v n xs) : Fresh B w fun W => NF W k v := (own_fresh h).imp fun _ h => own_nf h
section
variable {α : Type} {hd : α → Value} {In : World → Value → α → Prop} {w0 w : World} {lo : Nat} {e : TypeId} {v : Value} {xs : List α} {i : Nat} {rows : List (List Value)}
structure RowsUp (hd : α → Value) (In : World → Value → α → Prop) (w0 : World) (lo : Nat) (e : TypeId) (w : World) (v : Value) (xs : List α) (i : Nat) (rows : List (List Value)) : Prop where
 two : ∀ r ∈ rows, r.length = 2
 len : rows.length = xs.length
 own : w.ownsRow lo e 2 v xs.length rows.flatten
 at_ : ∀ (j : Nat) (x : α), xs[j]? = some x → ∃ u, rows[j]? = some [hd x, u] ∧ (j < i → On (fun k => lo ≤ k ∧ v.ownBlock ≠ some k) w (fun W => In W u x ∧ NF W 1 u)) ∧ (i ≤ j → In w0 u x)
theorem RowsUp.kept {G : Nat → Prop} {w' : World} (h : RowsUp hd In w0 lo e w v xs i rows) (hk : Kept G w w') (hG : ∀ k, lo ≤ k → ¬ G k) : RowsUp hd In w0 lo e w' v xs i rows :=
 ⟨h.two, h.len, (own_fresh h.own |>.kept hk fun k _ hl => hG k hl).self, fun j x hx => by
  obtain ⟨u, h1, h2, h3⟩ := h.at_ j x hx
  exact ⟨u, h1, fun hj => (h2 hj).kept hk fun k _ hl => hG k hl.1, h3⟩⟩
theorem RowsUp.step {w5 : World} {x : α} {u u' : Value} {g c : Nat} (h : RowsUp hd In w0 lo e w v xs i rows) (hx : xs[i]? = some x) (hr : rows[i]? = some [hd x, u]) (hb : Below w.heap.size w w5) (hv : v = .slice (some ⟨g, 0, none⟩) xs.length c)
  (hon : On (fun k => w.heap.size ≤ k) w5 (fun W => In W u' x ∧ NF W 1 u')) : RowsUp hd In w0 lo e (w5.setCell ⟨g, i * 2 + 1, none⟩ u') v xs (i + 1) (rows.set i [hd x, u']) := by
 have hil : i < xs.length := (List.getElem?_eq_some_iff.1 hx).1
 have hog : v.ownBlock = some g := by rw [hv]; rfl
 have hcell : rows.flatten[i * 2 + 0]? = some (hd x) := by
  rw [rows_get h.two i _ hr 0 (by decide)]; rfl
 obtain ⟨_, _, hlg, hgl⟩ := own_row_cell h.own hv hcell
 have hk : Kept (fun k => k = g) w5 (w5.setCell ⟨g, i * 2 + 1, none⟩ u') := Kept.setCell _ _ rfl
 refine ⟨fun r hr' => ?_, by simp [h.len], ?_, fun j y hy => ?_⟩
 ·rcases List.mem_or_eq_of_mem_set hr' with h1 | h1
  ·exact h.two r h1
  ·rw [h1]; rfl
 ·have := own_set (jQ h.own hb) hv (i * 2 + 1) u'
  have e2 := rows_set h.two hr (j := 1) (by decide) u'
  simp only [List.set_cons_succ, List.set_cons_zero] at e2
  rw [e2]
  exact this
 ·by_cases hj : j = i
  ·subst hj
   rw [hx] at hy
   cases hy
   refine ⟨u', by rw [List.getElem?_set_self (by rw [h.len]; exact hil)], fun _ => ?_, fun h => absurd h (by omega)⟩
   refine (hon.wide (G := fun k => lo ≤ k ∧ v.ownBlock ≠ some k) (fun k hk _ => ⟨by omega, fun e => ?_⟩)).kept hk (fun k _ hl e => hl.2 (by rw [hog, e]))
   rw [hog] at e
   injection e with e
   omega
  ·obtain ⟨u1, h1, h2, h3⟩ := h.at_ j y hy
   refine ⟨u1, by rw [List.getElem?_set_ne (Ne.symm hj)]; exact h1, fun hji => ?_, fun hji => h3 (by omega)⟩
   exact ((h2 (by omega)).below hb).kept hk (fun k _ hl e => hl.2 (by rw [hog, e]))
theorem RowsUp.done (h : RowsUp hd In w0 lo e w v xs xs.length rows) : Fresh lo w fun W => SlAt W 2 (fun x cs => ∃ u, cs = [hd x, u] ∧ In W u x ∧ NF W 1 u) v xs ∧ NF W 2 v := by
 intro W hW
 refine ⟨own_rows (own_fresh h.own W hW) h.two (fun j x hx => ?_), own_nfF h.own W hW⟩
 obtain ⟨u, h1, h2, _⟩ := h.at_ j x hx
 exact ⟨_, h1, u, rfl, h2 (List.getElem?_eq_some_iff.1 hx).1 W (fun k hk hl => hW k hk.1 hl)⟩
end
theorem atc_cells {W : World} {b : Nat} {c0 c1 c2 c3 c4 c5 c6 c7 c8 c9 : Value} {T : TypeId} (q : W.heap[b]? = some (.cells #[c0, c1, c2, c3, c4, c5, c6, c7, c8, c9] T (0, 0))) :
  W.cell? ⟨b, 0, none⟩ = some c0 ∧ W.cell? ⟨b, 1, none⟩ = some c1 ∧ W.cell? ⟨b, 2, none⟩ = some c2 ∧ W.cell? ⟨b, 3, none⟩ = some c3 ∧ W.cell? ⟨b, 4, none⟩ = some c4 ∧ W.cell? ⟨b, 5, none⟩ = some c5 ∧ W.cell? ⟨b, 6, none⟩ = some c6 ∧ W.cell? ⟨b, 7, none⟩ = some c7 ∧ W.cell? ⟨b, 8, none⟩ = some c8 ∧ W.cell? ⟨b, 9, none⟩ = some c9 :=
 ⟨jB q 0, jB q 1, jB q 2, jB q 3, jB q 4, jB q 5, jB q 6, jB q 7, jB q 8, jB q 9⟩
theorem kept_setRow {F : Nat → Prop} {w : World} (g : Nat) (C : Array Value) (hF : F g) : Kept F w (w.setRow g C) :=
 ⟨rfl, rfl, rfl, (below_setRow (Below.refl 0 w) (Nat.zero_le g) C).size, fun k _ hf => setRow_other _ _ _ _ (fun e => hf (by rw [e]; exact hF))⟩
abbrev atZ : Array Value := #[.int .i64 0, .int .i64 0, .slice none 0 0, .int .u32 0, .int .i64 0, .int .i64 0, .int .i64 0, .int .u32 0, .slice none 0 0, .slice none 0 0]
theorem boxAZ (w : World) (C : Array Value) : ∃ W0, W0 = (w.alloc (.cells C 42)).alloc (.cells atZ 42) ∧ W0.heap[w.heap.size]? = some (.cells C 42 (0, 0)) ∧ W0.heap[w.heap.size + 1]? = some (.cells atZ 42 (0, 0)) ∧ Below w.heap.size w W0 ∧ W0.heap.size = w.heap.size + 2 := by
 refine ⟨_, rfl, ?_, ?_, ((Below.refl _ _).alloc (Nat.le_refl _) _).alloc (by simp) _, by simp⟩
 ·have h1 := heap_alloc_new w (.cells C 42)
  have h2 : Below (w.alloc (.cells C 42)).heap.size (w.alloc (.cells C 42)) ((w.alloc (.cells C 42)).alloc (.cells atZ 42)) := (Below.refl _ _).alloc (Nat.le_refl _) _
  exact (h2.block _ (jE h1)).trans h1
 ·have h1 := heap_alloc_new (w.alloc (.cells C 42)) (.cells atZ 42)
  simpa using h1
theorem results_Clone (tmps : Array Value) (W : World) (b : Nat) (C : Array Value) (hC : C.size = 10) (h4 : tmps.getD 2 undef = .pointer (some ⟨b, 0, none⟩)) (hb : W.heap[b]? = some (.cells C 42 (0, 0))) :
  (results Tryz.f85 tmps).run Tryz.prog W = .ok (.agg C) W := results_cell_row Tryz.results85 tmps W b 42 C (0, 0) _ h4 hb Tryz.underlying42 rfl (by rw [hC]; kernel_rfl)
def SegU (w : World) (s : Sg) (cs : List Value) : Prop := ∃ u, cs = [.bool s.1, u] ∧ IntsAt w u s.2 ∧ NF w 1 u
def OthU (w : World) (o : Oth) (cs : List Value) : Prop := ∃ u, cs = [.int .i64 o.1, u] ∧ (I64r o.1 ∧ BytesAt w u o.2) ∧ NF w 1 u
structure AtU (W : World) (a : At) (vp vc vo : Value) : Prop where
 path : SlAt W 2 (SegU W) vp a.path
 pnf : NF W 2 vp
 comms : IntsAt W vc a.comms
 cnf : NF W 1 vc
 oths : SlAt W 2 (OthU W) vo a.others
 onf : NF W 2 vo
theorem AtU.atl {W : World} {a : At} {vp vc vo : Value} (h : AtU W a vp vc vo) : AtL W a vp vc vo :=
 ⟨h.path.imp fun _ _ _ ⟨u, h1, h2, _⟩ => ⟨u, h1, h2⟩, h.comms, h.oths.imp fun _ _ _ ⟨u, h1, h2, _⟩ => ⟨u, h1, h2.1, h2.2⟩⟩
def ClonePost (w : World) (a : At) (e : Ending) (w' : World) : Prop := ∃ vp vc vo, e = .returned (.agg (atV a vp vc vo).toArray) ∧ Fresh w.heap.size w' (fun W => AtL W a vp vc vo ∧ W.ownsRow w.heap.size 3 1 vc a.comms.length (a.comms.flatMap i64L) ∧ AtU W a vp vc vo) ∧ Below w.heap.size w w'
set_option maxHeartbeats 6400000 in
set_option maxRecDepth 100000 in
theorem at_Clone (a : At) (vp vc vo : Value) (w : World) (hA : AtL w a vp vc vo) (hz : AtSz a) : Calls Tryz.prog 85 #[.agg (atV a vp vc vo).toArray] w (ClonePost w a) := by
 show Calls Tryz.prog 85 #[.agg #[.int .i64 a.has, .int .i64 a.origin, vp, .int .u32 a.hop, .int .i64 a.med, .int .i64 a.loc, .int .i64 a.aggrAs, .int .u32 a.aggrId, vc, vo]] w _
 have HZ := jh hz
 have HP := jh (slat_rows hA.1)
 have HC := jh hA.2.1
 have HO := jh (slat_rows hA.2.2)
 clear hz hA
 obtain ⟨sa, cap, rowsP, rfl, hlc, hcm, p1, p2, p3, p4⟩ := HP.out
 obtain ⟨so, co, rowsO, rfl, olc, ocm, o1, o2, o3, o4⟩ := HO.out
 obtain ⟨sc, cc, rfl, ck⟩ : ∃ sc cc, vc = .slice sc a.comms.length cc ∧ a.comms.length ≤ cc ∧ cc ≤ maxLen := by obtain ⟨sc, cc, h, h2, h3, _⟩ := HC.out; exact ⟨sc, cc, h, h2, h3⟩
 have CS := jh (fun W (hW : Below w.heap.size w W) => sl_CloneSeg sa a.path.length cap rowsP.flatten W (by rw [rows_len p2, p1]) (Nat.le_trans hlc hcm) (fun h0 => by
  obtain ⟨b, off, h1, h2⟩ := p4 h0
  exact ⟨b, off, h1, fun q u hq => jA (h2 q u hq) hW⟩) (fun u hu => by
   obtain ⟨r, hr, hur⟩ := List.mem_flatten.1 hu
   obtain ⟨i, hi⟩ := List.getElem?_of_mem hr
   obtain ⟨s, hs⟩ : ∃ s, a.path[i]? = some s := ⟨_, List.getElem?_eq_getElem (by have := (List.getElem?_eq_some_iff.1 hi).1; omega)⟩
   obtain ⟨cs, h1, u1, rfl, ⟨_, _, rfl, _⟩⟩ := p3 i s hs
   rw [hi] at h1
   cases h1
   simp at hur
   rcases hur with rfl | rfl <;> rfl) HZ.out.path)
 have COt := jh (fun W (hW : Below w.heap.size w W) => sl_CloneOther so a.others.length co rowsO.flatten W (by rw [rows_len o2, o1]) (Nat.le_trans olc ocm) (fun h0 => by
  obtain ⟨b, off, h1, h2⟩ := o4 h0
  exact ⟨b, off, h1, fun q u hq => jA (h2 q u hq) hW⟩) (fun u hu => by
   obtain ⟨r, hr, hur⟩ := List.mem_flatten.1 hu
   obtain ⟨i, hi⟩ := List.getElem?_of_mem hr
   obtain ⟨s, hs⟩ : ∃ s, a.others[i]? = some s := ⟨_, List.getElem?_eq_getElem (by have := (List.getElem?_eq_some_iff.1 hi).1; omega)⟩
   obtain ⟨cs, h1, u1, rfl, _, ⟨_, _, rfl, _⟩⟩ := o3 i s hs
   rw [hi] at h1
   cases h1
   simp at hur
   rcases hur with rfl | rfl <;> rfl) HZ.out.others)
 have CC := jh (fun W (hW : Below w.heap.size w W) => clone_ints (.slice sc a.comms.length cc) a.comms W (HC.out.below hW) HZ.out.comms)
 have P3 := jh p3
 have O3 := jh o3
 have P12 := jh (And.intro p1 p2)
 have O12 := jh (And.intro o1 o2)
 unfold maxLen at hcm ocm
 clear p1 p2 p3 p4 o1 o2 o3 o4 HP HO ck
 go_enter Tryz.func85, Tryz.ntmps85
 go_upto_region 1 with (fail)
 obtain ⟨W0, hW0, qa, qz, hb0, hs0⟩ := boxAZ w #[.int .i64 a.has, .int .i64 a.origin, .slice sa a.path.length cap, .int .u32 a.hop, .int .i64 a.med, .int .i64 a.loc, .int .i64 a.aggrAs, .int .u32 a.aggrId, .slice sc a.comms.length cc, .slice so a.others.length co]
 rw [← hW0]
 clear hW0
 have a2 : W0.cell? ⟨w.heap.size, 2, none⟩ = some (.slice sa a.path.length cap) := jB qa 2
 have QA := jh qa
 have QZ := jh qz
 have B0 := jh hb0
 have S0 := jh hs0
 clear qa qz hb0 hs0
 go_wp2_with fail
 refine (CS.out _ B0.out).mono ?_
 rintro e w1 ⟨vp1, rfl, ow1, hb1⟩
 have a2 := jA a2 hb1
 have f2 := jN ((hb1.block _ (jE QA.out)).trans QA.out) 2
 obtain ⟨sp1, cp1, rfl, k1⟩ := jV ow1
 have K1 := jh k1
 have RU0 : RowsUp (fun s : Sg => .bool s.1) (fun W u s => IntsAt W u s.2) w W0.heap.size 121 w1 (.slice sp1 a.path.length cp1) a.path 0 rowsP := ⟨P12.out.2, P12.out.1, ow1, fun j x hx => by
  obtain ⟨cs, h1, u, rfl, h2⟩ := P3.out j x hx
  exact ⟨u, h1, fun h => absurd h (by omega), fun _ => h2⟩⟩
 clear k1 ow1
 go_upto_region 2 with (fail)
 obtain ⟨W2, hW2⟩ : ∃ W2, W2 = w1.setCell ⟨w.heap.size, 2, none⟩ (.slice sp1 a.path.length cp1) := ⟨_, rfl⟩
 have KB : Kept (fun b => b = w.heap.size) w1 W2 := by rw [hW2]; exact Kept.setCell _ _ rfl
 have QA2 : Hid (W2.heap[w.heap.size]? = some (.cells #[.int .i64 a.has, .int .i64 a.origin, .slice sp1 a.path.length cp1, .int .u32 a.hop, .int .i64 a.med, .int .i64 a.loc, .int .i64 a.aggrAs, .int .u32 a.aggrId, .slice sc a.comms.length cc, .slice so a.others.length co] 42 (0, 0))) := jh (by
  rw [hW2]
  have := jO ((hb1.block _ (jE QA.out)).trans QA.out) 2 (.slice sp1 a.path.length cp1)
  simpa using this)
 have QZ2 : Hid (W2.heap[w.heap.size + 1]? = some (.cells atZ 42 (0, 0))) := jh (by
  have h1 := (hb1.block _ (jE QZ.out)).trans QZ.out
  exact (KB.block _ (jE h1) (by omega)).trans h1)
 have RU2 := jh (RU0.kept KB (fun k hk e => by have := S0.out; omega))
 have B2 : Hid (Below w.heap.size w W2) := jh ((jC B0.out hb1).trans (KB.below (by have := hb1.size; have := S0.out; omega) (fun k hk => by omega)))
 rw [← hW2]
 clear hW2 KB RU0 a2 f2 hb1 QA QZ
 generalize W0.heap.size = lo at S0 RU2
 clear CS P3 P12 B0
 have y2 : W2.cell? ⟨w.heap.size, 2, none⟩ = some (.slice sp1 a.path.length cp1) := jB QA2.out 2
 go_wp2_with fail
 clear y2
 go_loopw [12] (fun t wr => ∃ (i : Nat) (rows : List (List Value)), i ≤ a.path.length ∧ t = .int .i64 i ∧ Hid (RowsUp (fun s : Sg => .bool s.1) (fun W u s => IntsAt W u s.2) w lo 121 wr (.slice sp1 a.path.length cp1) a.path i rows) ∧ Hid (wr.heap[w.heap.size]? = some (.cells #[.int .i64 a.has, .int .i64 a.origin, .slice sp1 a.path.length cp1, .int .u32 a.hop, .int .i64 a.med, .int .i64 a.loc, .int .i64 a.aggrAs, .int .u32 a.aggrId, .slice sc a.comms.length cc, .slice so a.others.length co] 42 (0, 0))) ∧ Hid (wr.heap[w.heap.size + 1]? = some (.cells atZ 42 (0, 0))) ∧ Hid (Below w.heap.size w wr)) (fun t _ => a.path.length - (intOf t).toNat)
 case atStart => exact ⟨0, rowsP, by omega, rfl, RU2, QA2, QZ2, B2⟩
 case round =>
  clear RU2 QA2 QZ2 B2
  obtain ⟨i, rows, hi, rfl, RU, QA, QZ, B⟩ := hrel
  by_cases hlt : i < a.path.length
  ·obtain ⟨s, hs⟩ : ∃ s, a.path[i]? = some s := ⟨_, List.getElem?_eq_getElem hlt⟩
   obtain ⟨u, hr, _, hin⟩ := RU.out.at_ i s hs
   have IN := hin (Nat.le_refl _)
   obtain ⟨g, rfl⟩ := K1.out (by omega)
   obtain ⟨x1, f1, lg, gl⟩ := own_row_cell RU.out.own rfl (j := i * 2 + 1) (u := u) (by rw [rows_get RU.out.two i _ hr 1 (by decide)]; rfl)
   have y2 : wr.cell? ⟨w.heap.size, 2, none⟩ = some (.slice (some ⟨g, 0, none⟩) a.path.length cp1) := jB QA.out 2
   have Y2 := jh y2
   have NE : Hid (w.heap.size ≠ g) := jh (by have := S0.out; omega)
   have NE1 : Hid (w.heap.size + 1 ≠ g) := jh (by have := S0.out; omega)
   have LG : Hid (w.heap.size ≤ g) := jh (by have := S0.out; omega)
   have F1 := jh f1
   have CI := jh (fun W (hW : Below w.heap.size w W) => clone_ints u s.2 W (IN.below hW) (HZ.out.segs s (List.mem_of_getElem? hs)))
   have RG := jh (ints_rng IN)
   have x1d : (World.drew wr).cell? ⟨g, i * 2 + 1, none⟩ = some u := x1
   have X1 := jh x1
   have HS := jh hs
   have HR := jh hr
   have j0 : (0 : Int) ≤ (i : Int) := by omega
   have j1 : (i : Int) < (a.path.length : Int) := by omega
   clear hs hr hin IN lg gl f1 x1
   go_upto_region 5 with (fail)
   refine wp_region_held_drew (S := fun w' => Kept (fun b => b = g) wr w') (by kernel_rfl) ?_ (fun hHeld => ?_)
   ·exact (Kept.refl _ _).drew
   refine qy 0 ?_ ?_ ?_ hHeld ?_; rotate_left 1; (· rfl); (· intro w' hSw; (try dsimp only at hSw); (try clear hHeld); go_simp; try with_reducible rfl)
   try simp only [jz]
   refine qy 1 ?_ ?_ ?_ hHeld ?_; rotate_left 1; (· rfl); (· intro w' hSw; (try dsimp only at hSw); have y2 := hSw.cell Y2.out NE.out; (try clear hHeld); go_simp; try with_reducible rfl)
   try simp only [jz]
   refine qy 2 ?_ ?_ ?_ hHeld ?_; rotate_left 1; (· rfl); (· intro w' hSw; (try dsimp only at hSw); (try clear hHeld); go_simp; try with_reducible rfl)
   try simp only [jz]
   refine qy 3 ?_ ?_ ?_ hHeld ?_; rotate_left 1; (· rfl); (· intro w' hSw; (try dsimp only at hSw); (try clear hHeld); go_simp; try with_reducible rfl)
   try simp only [jz]
   refine qy 4 ?_ ?_ ?_ hHeld ?_; rotate_left 1; (· rfl); (· intro w' hSw; (try dsimp only at hSw); have y2 := hSw.cell Y2.out NE.out; (try clear hHeld); go_simp; try with_reducible rfl)
   try simp only [jz]
   refine qy 5 ?_ ?_ ?_ hHeld ?_; rotate_left 1; (· rfl); (· intro w' hSw; (try dsimp only at hSw); (try clear hHeld); go_simp; try with_reducible rfl)
   try simp only [jz]
   refine qy 6 ?_ ?_ ?_ hHeld ?_; rotate_left 1; (· rfl); (· intro w' hSw; (try dsimp only at hSw); have y2 := hSw.cell Y2.out NE.out; (try clear hHeld); go_simp; try with_reducible rfl)
   try simp only [jz]
   refine qy 7 ?_ ?_ ?_ hHeld ?_; rotate_left 1; (· rfl); (· intro w' hSw; (try dsimp only at hSw); (try clear hHeld); go_simp; try with_reducible rfl)
   try simp only [jz]
   refine jr 8 ?_ fun K hK => ?_; (· rfl); (try clear hb); go_simp; go_wp2_with fail; refine hK.out _ _ ?_ (fun hHeld => ?_); (· exact hHeld); clear hK K
   try simp only [jz]
   refine jr 9 ?_ fun K hK => ?_; (· rfl); (try clear hb); go_simp; (refine (CI.out _ (B.out.drew)).mono ?_; rintro e w5 ⟨u', rfl, ow5, hb5⟩); obtain ⟨su, cu, rfl, -⟩ := jV ow5; have HB5 : Hid (Below wr.heap.size wr w5) := jh ((Below.refl _ _).drew.trans hb5); have x5 := jA X1.out HB5.out; have f5 : w5.frozen? ⟨g, i * 2 + 1, none⟩ = false := (HB5.out.frozen (p := ⟨g, i * 2 + 1, none⟩) (jH X1.out)).trans F1.out; go_wp2_with fail; refine hK.out _ _ ?_ (fun hHeld => ?_); (· exact hHeld.trans (Kept.of_below hb5)); clear hK K
   try simp only [jz]
   refine qy 10 ?_ ?_ ?_ hHeld ?_; rotate_left 1; (· rfl); (· intro w' hSw; (try dsimp only at hSw); have y2 := hSw.cell Y2.out NE.out; (try clear hHeld); go_simp; try with_reducible rfl)
   try simp only [jz]
   refine qy 11 ?_ ?_ ?_ hHeld ?_; rotate_left 1; (· rfl); (· intro w' hSw; (try dsimp only at hSw); (try clear hHeld); go_simp; try with_reducible rfl)
   try simp only [jz]
   refine jr 12 ?_ fun K hK => ?_; (· rfl); (try clear hb); go_simp; go_wp2_with fail; refine hK.out _ _ ?_ (fun hHeld => ?_); (· exact hHeld.trans (Kept.setCell _ _ rfl)); clear hK K
   try simp only [jz]
   refine wpAnyH_done (by kernel_rfl) ?_ _
   have STP := jh (RU.out.step HS.out HR.out HB5.out rfl ((own_fresh ow5).imp (fun W h => ⟨own_i64s h RG.out, own_nf h⟩)))
   have HK := jh hHeld
   have NB6 : Hid (Below w.heap.size w (w5.setCell ⟨g, i * 2 + 1, none⟩ (.slice su s.2.length cu))) := jh ((jC B.out HB5.out).setCell LG.out _)
   have QA6 := jh ((hHeld.block _ (jE QA.out) NE.out).trans QA.out)
   have QZ6 := jh ((hHeld.block _ (jE QZ.out) NE1.out).trans QZ.out)
   clear hHeld HK x1d HB5 x5 f5 ow5 RU QA QZ B y2 Y2 CI
   go_wp2_with fail
   exact ⟨⟨i + 1, _, by omega, by go_num, STP, QA6, QZ6, NB6⟩, by simp [intOf]; omega⟩
  ·obtain rfl : i = a.path.length := by omega
   have DP := jh (RU.out.done)
   clear RU hlt hi
   have a8 : wr.cell? ⟨w.heap.size, 8, none⟩ = some (.slice sc a.comms.length cc) := jB QA.out 8
   go_wp2_with fail
   refine (CC.out _ B.out).mono ?_
   rintro e w3 ⟨vc1, rfl, ow3, hb3⟩
   obtain ⟨sc1, cc1, rfl, -⟩ := jV ow3
   have a8 := jA a8 hb3
   have f8 := jN ((hb3.block _ (jE QA.out)).trans QA.out) 8
   go_upto_region 8 with (fail)
   obtain ⟨W3, hW3⟩ : ∃ W3, W3 = w3.setCell ⟨w.heap.size, 8, none⟩ (.slice sc1 a.comms.length cc1) := ⟨_, rfl⟩
   have KB : Kept (fun b => b = w.heap.size) w3 W3 := by rw [hW3]; exact Kept.setCell _ _ rfl
   have QA3 : Hid (W3.heap[w.heap.size]? = some (.cells #[.int .i64 a.has, .int .i64 a.origin, .slice sp1 a.path.length cp1, .int .u32 a.hop, .int .i64 a.med, .int .i64 a.loc, .int .i64 a.aggrAs, .int .u32 a.aggrId, .slice sc1 a.comms.length cc1, .slice so a.others.length co] 42 (0, 0))) := jh (by
    rw [hW3]
    have := jO ((hb3.block _ (jE QA.out)).trans QA.out) 8 (.slice sc1 a.comms.length cc1)
    simpa using this)
   have QZ3 : Hid (W3.heap[w.heap.size + 1]? = some (.cells atZ 42 (0, 0))) := jh (by
    have h1 := (hb3.block _ (jE QZ.out)).trans QZ.out
    exact (KB.block _ (jE h1) (by omega)).trans h1)
   have LW : lo ≤ wr.heap.size := by have := jE QZ.out; have := S0.out; omega
   have DP3 := jh ((DP.out.below hb3).kept KB (fun k _ hl e => by have := S0.out; omega))
   have DC3 : Hid (Fresh lo W3 fun W => W.ownsRow lo 3 1 (.slice sc1 a.comms.length cc1) a.comms.length (a.comms.flatMap i64L)) := jh (((own_fresh ow3).wide (G := fun k => lo ≤ k) (fun k hk _ => by omega) |>.imp (fun W h => own_base h LW)).kept KB (fun k _ hl e => by have := S0.out; omega))
   have B3 : Hid (Below w.heap.size w W3) := jh ((jC B.out hb3).trans (KB.below (by have := (jC B.out hb3).size; omega) (fun k hk => by omega)))
   rw [← hW3]
   clear hW3 KB a8 f8 hb3 QA QZ B DP ow3 LW
   have a9 : W3.cell? ⟨w.heap.size, 9, none⟩ = some (.slice so a.others.length co) := jB QA3.out 9
   go_wp2_with fail
   refine (COt.out _ B3.out).mono ?_
   rintro e w4 ⟨vo1, rfl, ow4, hb4⟩
   have a9 := jA a9 hb4
   have f9 := jN ((hb4.block _ (jE QA3.out)).trans QA3.out) 9
   obtain ⟨so1, co1, rfl, k1⟩ := jV ow4
   have O1 := jh k1
   have LW : lo ≤ W3.heap.size := by have := jE QZ3.out; have := S0.out; omega
   have RU0 : RowsUp (fun s : Oth => .int .i64 s.1) (fun W u s => I64r s.1 ∧ BytesAt W u s.2) w W3.heap.size 159 w4 (.slice so1 a.others.length co1) a.others 0 rowsO := ⟨O12.out.2, O12.out.1, ow4, fun j x hx => by
    obtain ⟨cs, h1, u, rfl, h2⟩ := O3.out j x hx
    exact ⟨u, h1, fun h => absurd h (by omega), fun _ => h2⟩⟩
   clear k1 ow4
   go_upto_region 9 with (fail)
   obtain ⟨W4, hW4⟩ : ∃ W4, W4 = w4.setCell ⟨w.heap.size, 9, none⟩ (.slice so1 a.others.length co1) := ⟨_, rfl⟩
   have KB : Kept (fun b => b = w.heap.size) w4 W4 := by rw [hW4]; exact Kept.setCell _ _ rfl
   have QA4 : Hid (W4.heap[w.heap.size]? = some (.cells #[.int .i64 a.has, .int .i64 a.origin, .slice sp1 a.path.length cp1, .int .u32 a.hop, .int .i64 a.med, .int .i64 a.loc, .int .i64 a.aggrAs, .int .u32 a.aggrId, .slice sc1 a.comms.length cc1, .slice so1 a.others.length co1] 42 (0, 0))) := jh (by
    rw [hW4]
    have := jO ((hb4.block _ (jE QA3.out)).trans QA3.out) 9 (.slice so1 a.others.length co1)
    simpa using this)
   have QZ4 : Hid (W4.heap[w.heap.size + 1]? = some (.cells atZ 42 (0, 0))) := jh (by
    have h1 := (hb4.block _ (jE QZ3.out)).trans QZ3.out
    exact (KB.block _ (jE h1) (by omega)).trans h1)
   have DB4 := jh ((((DP3.out.and DC3.out).wide (G := fun k => lo ≤ k ∧ k < W3.heap.size) (fun k hk hl => ⟨hk, hl⟩)).below hb4).kept KB (fun k _ hl e => by have := S0.out; omega))
   have RU4 := jh (RU0.kept KB (fun k hk e => by have := S0.out; omega))
   have B4 : Hid (Below w.heap.size w W4) := jh ((jC B3.out hb4).trans (KB.below (by have := (jC B3.out hb4).size; omega) (fun k hk => by omega)))
   rw [← hW4]
   clear hW4 KB RU0 a9 f9 hb4 QA3 QZ3 DP3 DC3 B3
   have L3 := jh LW
   clear LW
   generalize W3.heap.size = lo3 at DB4 RU4 L3
   have y9 : W4.cell? ⟨w.heap.size, 9, none⟩ = some (.slice so1 a.others.length co1) := jB QA4.out 9
   go_wp2_with fail
   clear y9
   go_loopw [39] (fun t wr => ∃ (i : Nat) (rows : List (List Value)), i ≤ a.others.length ∧ t = .int .i64 i ∧ Hid (RowsUp (fun s : Oth => .int .i64 s.1) (fun W u s => I64r s.1 ∧ BytesAt W u s.2) w lo3 159 wr (.slice so1 a.others.length co1) a.others i rows) ∧ Hid (On (fun k => lo ≤ k ∧ k < lo3) wr fun W => (SlAt W 2 (fun x cs => ∃ u, cs = [.bool x.1, u] ∧ IntsAt W u x.2 ∧ NF W 1 u) (.slice sp1 a.path.length cp1) a.path ∧ NF W 2 (.slice sp1 a.path.length cp1)) ∧ W.ownsRow lo 3 1 (.slice sc1 a.comms.length cc1) a.comms.length (a.comms.flatMap i64L)) ∧ Hid (wr.heap[w.heap.size]? = some (.cells #[.int .i64 a.has, .int .i64 a.origin, .slice sp1 a.path.length cp1, .int .u32 a.hop, .int .i64 a.med, .int .i64 a.loc, .int .i64 a.aggrAs, .int .u32 a.aggrId, .slice sc1 a.comms.length cc1, .slice so1 a.others.length co1] 42 (0, 0))) ∧ Hid (wr.heap[w.heap.size + 1]? = some (.cells atZ 42 (0, 0))) ∧ Hid (Below w.heap.size w wr)) (fun t _ => a.others.length - (intOf t).toNat)
   case atStart => exact ⟨0, rowsO, by omega, rfl, RU4, DB4, QA4, QZ4, B4⟩
   case round =>
    clear RU4 DB4 QA4 QZ4 B4
    obtain ⟨i, rows, hi, rfl, RU, DB, QA, QZ, B⟩ := hrel
    by_cases hlt : i < a.others.length
    ·obtain ⟨s, hs⟩ : ∃ s, a.others[i]? = some s := ⟨_, List.getElem?_eq_getElem hlt⟩
     obtain ⟨u, hr, _, hin⟩ := RU.out.at_ i s hs
     have IN := (hin (Nat.le_refl _)).2
     have IR := jh (hin (Nat.le_refl _)).1
     obtain ⟨g, rfl⟩ := O1.out (by omega)
     obtain ⟨x1, f1, lg, gl⟩ := own_row_cell RU.out.own rfl (j := i * 2 + 1) (u := u) (by rw [rows_get RU.out.two i _ hr 1 (by decide)]; rfl)
     have y2 : wr.cell? ⟨w.heap.size, 9, none⟩ = some (.slice (some ⟨g, 0, none⟩) a.others.length co1) := jB QA.out 9
     have Y2 := jh y2
     have NE : Hid (w.heap.size ≠ g) := jh (by have := S0.out; have := L3.out; omega)
     have NE1 : Hid (w.heap.size + 1 ≠ g) := jh (by have := S0.out; have := L3.out; omega)
     have LG : Hid (w.heap.size ≤ g) := jh (by have := S0.out; have := L3.out; omega)
     have LG3 := jh lg
     have F1 := jh f1
     have CI := jh (fun W (hW : Below w.heap.size w W) => clone_bytes u s.2 W (IN.below hW) (HZ.out.vals s (List.mem_of_getElem? hs)))
     have RG := jh (bytes_rng IN)
     have x1d : (World.drew wr).cell? ⟨g, i * 2 + 1, none⟩ = some u := x1
     have X1 := jh x1
     have HS := jh hs
     have HR := jh hr
     have j0 : (0 : Int) ≤ (i : Int) := by omega
     have j1 : (i : Int) < (a.others.length : Int) := by omega
     clear hs hr hin IN lg gl f1 x1
     go_upto_region 12 with (fail)
     refine wp_region_held_drew (S := fun w' => Kept (fun b => b = g) wr w') (by kernel_rfl) ?_ (fun hHeld => ?_)
     ·exact (Kept.refl _ _).drew
     refine qy 0 ?_ ?_ ?_ hHeld ?_; rotate_left 1; (· rfl); (· intro w' hSw; (try dsimp only at hSw); (try clear hHeld); go_simp; try with_reducible rfl)
     try simp only [jz]
     refine qy 1 ?_ ?_ ?_ hHeld ?_; rotate_left 1; (· rfl); (· intro w' hSw; (try dsimp only at hSw); have y2 := hSw.cell Y2.out NE.out; (try clear hHeld); go_simp; try with_reducible rfl)
     try simp only [jz]
     refine qy 2 ?_ ?_ ?_ hHeld ?_; rotate_left 1; (· rfl); (· intro w' hSw; (try dsimp only at hSw); (try clear hHeld); go_simp; try with_reducible rfl)
     try simp only [jz]
     refine qy 3 ?_ ?_ ?_ hHeld ?_; rotate_left 1; (· rfl); (· intro w' hSw; (try dsimp only at hSw); (try clear hHeld); go_simp; try with_reducible rfl)
     try simp only [jz]
     refine qy 4 ?_ ?_ ?_ hHeld ?_; rotate_left 1; (· rfl); (· intro w' hSw; (try dsimp only at hSw); have y2 := hSw.cell Y2.out NE.out; (try clear hHeld); go_simp; try with_reducible rfl)
     try simp only [jz]
     refine qy 5 ?_ ?_ ?_ hHeld ?_; rotate_left 1; (· rfl); (· intro w' hSw; (try dsimp only at hSw); (try clear hHeld); go_simp; try with_reducible rfl)
     try simp only [jz]
     refine qy 6 ?_ ?_ ?_ hHeld ?_; rotate_left 1; (· rfl); (· intro w' hSw; (try dsimp only at hSw); have y2 := hSw.cell Y2.out NE.out; (try clear hHeld); go_simp; try with_reducible rfl)
     try simp only [jz]
     refine qy 7 ?_ ?_ ?_ hHeld ?_; rotate_left 1; (· rfl); (· intro w' hSw; (try dsimp only at hSw); (try clear hHeld); go_simp; try with_reducible rfl)
     try simp only [jz]
     refine jr 8 ?_ fun K hK => ?_; (· rfl); (try clear hb); go_simp; go_wp2_with fail; refine hK.out _ _ ?_ (fun hHeld => ?_); (· exact hHeld); clear hK K
     try simp only [jz]
     refine jr 9 ?_ fun K hK => ?_; (· rfl); (try clear hb); go_simp; (refine (CI.out _ (B.out.drew)).mono ?_; rintro e w5 ⟨u', rfl, ow5, hb5⟩); obtain ⟨su, cu, rfl, -⟩ := jV ow5; have HB5 : Hid (Below wr.heap.size wr w5) := jh ((Below.refl _ _).drew.trans hb5); have x5 := jA X1.out HB5.out; have f5 : w5.frozen? ⟨g, i * 2 + 1, none⟩ = false := (HB5.out.frozen (p := ⟨g, i * 2 + 1, none⟩) (jH X1.out)).trans F1.out; go_wp2_with fail; refine hK.out _ _ ?_ (fun hHeld => ?_); (· exact hHeld.trans (Kept.of_below hb5)); clear hK K
     try simp only [jz]
     refine qy 10 ?_ ?_ ?_ hHeld ?_; rotate_left 1; (· rfl); (· intro w' hSw; (try dsimp only at hSw); have y2 := hSw.cell Y2.out NE.out; (try clear hHeld); go_simp; try with_reducible rfl)
     try simp only [jz]
     refine qy 11 ?_ ?_ ?_ hHeld ?_; rotate_left 1; (· rfl); (· intro w' hSw; (try dsimp only at hSw); (try clear hHeld); go_simp; try with_reducible rfl)
     try simp only [jz]
     refine jr 12 ?_ fun K hK => ?_; (· rfl); (try clear hb); go_simp; go_wp2_with fail; refine hK.out _ _ ?_ (fun hHeld => ?_); (· exact hHeld.trans (Kept.setCell _ _ rfl)); clear hK K
     try simp only [jz]
     refine wpAnyH_done (by kernel_rfl) ?_ _
     have STP := jh (RU.out.step HS.out HR.out HB5.out rfl ((own_fresh ow5).imp (fun W h => ⟨⟨IR.out, own_u8s h RG.out⟩, own_nf h⟩)))
     have NB6 : Hid (Below w.heap.size w (w5.setCell ⟨g, i * 2 + 1, none⟩ (.slice su s.2.length cu))) := jh ((jC B.out HB5.out).setCell LG.out _)
     have QA6 := jh ((hHeld.block _ (jE QA.out) NE.out).trans QA.out)
     have QZ6 := jh ((hHeld.block _ (jE QZ.out) NE1.out).trans QZ.out)
     have DB6 := jh (DB.out.kept hHeld (fun k _ hl e => by have := LG3.out; omega))
     clear hHeld x1d HB5 x5 f5 ow5 RU QA QZ B DB y2 Y2 CI
     go_wp2_with fail
     exact ⟨⟨i + 1, _, by omega, by go_num, STP, DB6, QA6, QZ6, NB6⟩, by simp [intOf]; omega⟩
    ·obtain rfl : i = a.others.length := by omega
     have DO := jh (RU.out.done)
     have RC := jh (ints_rng HC.out)
     have FIN : Hid (Fresh lo wr (fun W => AtL W a (.slice sp1 a.path.length cp1) (.slice sc1 a.comms.length cc1) (.slice so1 a.others.length co1) ∧ W.ownsRow w.heap.size 3 1 (.slice sc1 a.comms.length cc1) a.comms.length (a.comms.flatMap i64L) ∧ AtU W a (.slice sp1 a.path.length cp1) (.slice sc1 a.comms.length cc1) (.slice so1 a.others.length co1))) := jh (by
      have h1 : Fresh lo wr _ := DB.out.wide (fun k hk _ => hk.1)
      have h2 : Fresh lo wr _ := DO.out.wide (fun k hk _ => Nat.le_trans L3.out hk)
      refine (h1.and h2).imp (fun W h => ?_)
      have au : AtU W a (.slice sp1 a.path.length cp1) (.slice sc1 a.comms.length cc1) (.slice so1 a.others.length co1) := ⟨h.1.1.1, h.1.1.2, own_i64s h.1.2 RC.out, own_nf h.1.2, h.2.1, h.2.2⟩
      exact ⟨au.atl, own_base h.1.2 (by have := S0.out; omega), au⟩)
     clear RU DB DO hlt hi
     obtain ⟨y0, y1, y2, y3, y4, y5, y6, y7, y8, y9⟩ := atc_cells QA.out
     have z0 := jN QZ.out
     go_wp2_with ((with_reducible refine jM (X := .store 42 (.tmp 2) (.tmp 55)) ?_ ?_); (· rfl))
     unfold Halt
     refine st_row rfl 42 (.tmp 2) (.tmp 55) rfl (w.heap.size + 1) rfl 42 atZ #[.int .i64 a.has, .int .i64 a.origin, .slice sp1 a.path.length cp1, .int .u32 a.hop, .int .i64 a.med, .int .i64 a.loc, .int .i64 a.aggrAs, .int .u32 a.aggrId, .slice sc1 a.comms.length cc1, .slice so1 a.others.length co1] rfl QZ.out ?_ rfl (by simp [Value.oneCell']) ?_
     ·kernel_rfl
     go_wp2_with fail
     refine bodyPost_ret (results_Clone _ _ (w.heap.size + 1) _ ?_ ?_ (setRow_heap _ _ _ _ _ _ QZ.out)) rfl ⟨_, _, _, rfl, ?_, below_setRow B.out (Nat.le_succ _) _⟩
     ·rfl
     ·rfl
     ·exact (FIN.out.kept (kept_setRow (F := fun k => k = w.heap.size + 1) _ _ rfl) (fun k _ hl e => by have := S0.out; omega)).wide (fun k hk _ => by have := S0.out; omega)
open Go.RowKit
set_option maxHeartbeats 3200000 in
set_option maxRecDepth 100000 in
theorem sl_EqI (v u : Value) (xs ys : List Int) (w : World) (h : IntsAt w v xs) (k : IntsAt w u ys) : Calls Tryz.prog 79 #[v, u] w fun e w' => e = .returned (.bool (decide (xs = ys))) ∧ Below w.heap.size w w' := by
 obtain ⟨sa, cap, rfl, hlc, hcm, hV⟩ := h
 obtain ⟨sb, cap2, rfl, hlc2, hcm2, hU⟩ := k
 have HV := jh hV
 have HU := jh hU
 unfold maxLen at hcm hcm2
 clear hV hU
 by_cases hl : xs.length = ys.length
 ·have HL := jh hl
  have j0 : ((xs.length : Int) != (ys.length : Int)) = false := by simp [hl]
  clear hl
  go_enter Tryz.func79, Tryz.ntmps79
  go_wp2_with fail
  clear j0
  go_loopw [13] (fun k13 wr => ∃ k : Nat, k ≤ xs.length ∧ k13 = .int .i64 k ∧ Hid (xs.take k = ys.take k) ∧ Hid (Below w.heap.size w wr)) (fun k13 _ => xs.length - (intOf k13).toNat)
  case atStart => exact ⟨0, by omega, rfl, jh rfl, jh (Below.refl _ _)⟩
  case round =>
   obtain ⟨k, hk, rfl, E, B⟩ := hrel
   by_cases hlt : k < xs.length
   ·obtain ⟨x, hx⟩ : ∃ x, xs[k]? = some x := ⟨_, List.getElem?_eq_getElem hlt⟩
    obtain ⟨y, hy⟩ : ∃ y, ys[k]? = some y := ⟨_, List.getElem?_eq_getElem (by rw [← HL.out]; exact hlt)⟩
    obtain ⟨b1, off1, hsa, hP⟩ := HV.out (by omega)
    obtain ⟨b2, off2, hsb, hQ⟩ := HU.out (by rw [← HL.out]; omega)
    subst hsa
    subst hsb
    obtain ⟨c1, _, ⟨rfl, _⟩, k1⟩ := hP k x hx
    obtain ⟨c2, _, ⟨rfl, _⟩, k2⟩ := hQ k y hy
    have x0 := k1 0 _ rfl
    have y0 := k2 0 _ rfl
    simp only [Nat.add_zero, Nat.mul_one] at x0 y0
    have x0 := (B.out.cell (jH x0)).trans x0
    have y0 := (B.out.cell (jH y0)).trans y0
    have i0 : (0 : Int) ≤ (k : Int) := by omega
    have i1 : (k : Int) < (xs.length : Int) := by omega
    have i2 : (k : Int) < (ys.length : Int) := by have := HL.out; omega
    have HX := jh hx
    have HY := jh hy
    clear hP hQ hx hy k1 k2
    go_wp2_with fail
    by_cases he : x = y
    ·have EQ : (x != y) = false := by simp [he]
     have EQ2 : (x = y) = True := by simp [he]
     have E2 : Hid (xs.take (k + 1) = ys.take (k + 1)) := jh (by rw [List.take_add_one, List.take_add_one, E.out, HX.out, HY.out, he])
     clear he
     go_quiet (fail)
     rename_i nq
     obtain ⟨wq, hwq⟩ : ∃ W, W = wr.drewN nq := ⟨_, rfl⟩
     have B2 : Hid (Below w.heap.size w wq) := jh (by rw [hwq]; exact jC B.out ⟨rfl, rfl, rfl, Nat.le_refl _, fun _ _ => rfl⟩)
     rw [← hwq]
     clear hwq x0 y0 EQ EQ2 B
     go_wp2_with fail
     exact ⟨⟨k + 1, by omega, by go_num, E2, B2⟩, by simp [intOf]; omega⟩
    ·have EQ : (x != y) = true := by rw [bne_iff_ne]; intro e; exact he (by omega)
     have EQ2 : ¬ (x = y) := by exact he
     have NE : Hid (decide (xs = ys) = false) := jh (by simp only [decide_eq_false_iff_not]; intro e; subst e; have := HX.out.symm.trans HY.out; exact he (Option.some.inj this))
     clear he
     go_quiet (fail)
     rename_i nq
     obtain ⟨wq, hwq⟩ : ∃ W, W = wr.drewN nq := ⟨_, rfl⟩
     have B2 : Hid (Below w.heap.size w wq) := jh (by rw [hwq]; exact jC B.out ⟨rfl, rfl, rfl, Nat.le_refl _, fun _ _ => rfl⟩)
     rw [← hwq]
     clear hwq x0 y0 EQ EQ2 B
     go_wp2_with fail
     go_ret
     exact ⟨jL NE.out.symm, B2.out⟩
   ·obtain rfl : xs.length = k := by omega
    have E3 : Hid (decide (xs = ys) = true) := jh (by
     have := E.out
     rw [List.take_length, HL.out, List.take_length] at this
     simpa using this)
    clear E
    go_wp2_with fail
    go_ret
    exact ⟨jL E3.out.symm, B.out⟩
 ·have j0 : ((xs.length : Int) != (ys.length : Int)) = true := by simp; omega
  have NE : Hid (decide (xs = ys) = false) := jh (by simp only [decide_eq_false_iff_not]; intro e; exact hl (by rw [e]))
  clear hl
  go_enter Tryz.func79, Tryz.ntmps79
  go_wp2_with fail
  go_ret
  exact ⟨jL NE.out.symm, Below.refl _ _⟩
set_option maxHeartbeats 3200000 in
set_option maxRecDepth 100000 in
theorem sl_EqB (v u : Value) (xs ys : List Nat) (w : World) (h : BytesAt w v xs) (k : BytesAt w u ys) : Calls Tryz.prog 84 #[v, u] w fun e w' => e = .returned (.bool (decide (xs = ys))) ∧ Below w.heap.size w w' := by
 obtain ⟨sa, cap, rfl, hlc, hcm, hV⟩ := h
 obtain ⟨sb, cap2, rfl, hlc2, hcm2, hU⟩ := k
 have HV := jh hV
 have HU := jh hU
 unfold maxLen at hcm hcm2
 clear hV hU
 by_cases hl : xs.length = ys.length
 ·have HL := jh hl
  have j0 : ((xs.length : Int) != (ys.length : Int)) = false := by simp [hl]
  clear hl
  go_enter Tryz.func84, Tryz.ntmps84
  go_wp2_with fail
  clear j0
  go_loopw [13] (fun k13 wr => ∃ k : Nat, k ≤ xs.length ∧ k13 = .int .i64 k ∧ Hid (xs.take k = ys.take k) ∧ Hid (Below w.heap.size w wr)) (fun k13 _ => xs.length - (intOf k13).toNat)
  case atStart => exact ⟨0, by omega, rfl, jh rfl, jh (Below.refl _ _)⟩
  case round =>
   obtain ⟨k, hk, rfl, E, B⟩ := hrel
   by_cases hlt : k < xs.length
   ·obtain ⟨x, hx⟩ : ∃ x, xs[k]? = some x := ⟨_, List.getElem?_eq_getElem hlt⟩
    obtain ⟨y, hy⟩ : ∃ y, ys[k]? = some y := ⟨_, List.getElem?_eq_getElem (by rw [← HL.out]; exact hlt)⟩
    obtain ⟨b1, off1, hsa, hP⟩ := HV.out (by omega)
    obtain ⟨b2, off2, hsb, hQ⟩ := HU.out (by rw [← HL.out]; omega)
    subst hsa
    subst hsb
    obtain ⟨c1, _, ⟨rfl, _⟩, k1⟩ := hP k x hx
    obtain ⟨c2, _, ⟨rfl, _⟩, k2⟩ := hQ k y hy
    have x0 := k1 0 _ rfl
    have y0 := k2 0 _ rfl
    simp only [Nat.add_zero, Nat.mul_one] at x0 y0
    have x0 := (B.out.cell (jH x0)).trans x0
    have y0 := (B.out.cell (jH y0)).trans y0
    have i0 : (0 : Int) ≤ (k : Int) := by omega
    have i1 : (k : Int) < (xs.length : Int) := by omega
    have i2 : (k : Int) < (ys.length : Int) := by have := HL.out; omega
    have HX := jh hx
    have HY := jh hy
    clear hP hQ hx hy k1 k2
    go_wp2_with fail
    by_cases he : x = y
    ·have EQ : ((x : Int) != (y : Int)) = false := by simp [he]
     have EQ2 : ((x : Int) = (y : Int)) = True := by simp [he]
     have E2 : Hid (xs.take (k + 1) = ys.take (k + 1)) := jh (by rw [List.take_add_one, List.take_add_one, E.out, HX.out, HY.out, he])
     clear he
     go_quiet (fail)
     rename_i nq
     obtain ⟨wq, hwq⟩ : ∃ W, W = wr.drewN nq := ⟨_, rfl⟩
     have B2 : Hid (Below w.heap.size w wq) := jh (by rw [hwq]; exact jC B.out ⟨rfl, rfl, rfl, Nat.le_refl _, fun _ _ => rfl⟩)
     rw [← hwq]
     clear hwq x0 y0 EQ EQ2 B
     go_wp2_with fail
     exact ⟨⟨k + 1, by omega, by go_num, E2, B2⟩, by simp [intOf]; omega⟩
    ·have EQ : ((x : Int) != (y : Int)) = true := by rw [bne_iff_ne]; intro e; exact he (by omega)
     have EQ2 : ¬ ((x : Int) = (y : Int)) := by intro e; exact he (by omega)
     have NE : Hid (decide (xs = ys) = false) := jh (by simp only [decide_eq_false_iff_not]; intro e; subst e; have := HX.out.symm.trans HY.out; exact he (Option.some.inj this))
     clear he
     go_quiet (fail)
     rename_i nq
     obtain ⟨wq, hwq⟩ : ∃ W, W = wr.drewN nq := ⟨_, rfl⟩
     have B2 : Hid (Below w.heap.size w wq) := jh (by rw [hwq]; exact jC B.out ⟨rfl, rfl, rfl, Nat.le_refl _, fun _ _ => rfl⟩)
     rw [← hwq]
     clear hwq x0 y0 EQ EQ2 B
     go_wp2_with fail
     go_ret
     exact ⟨jL NE.out.symm, B2.out⟩
   ·obtain rfl : xs.length = k := by omega
    have E3 : Hid (decide (xs = ys) = true) := jh (by
     have := E.out
     rw [List.take_length, HL.out, List.take_length] at this
     simpa using this)
    clear E
    go_wp2_with fail
    go_ret
    exact ⟨jL E3.out.symm, B.out⟩
 ·have j0 : ((xs.length : Int) != (ys.length : Int)) = true := by simp; omega
  have NE : Hid (decide (xs = ys) = false) := jh (by simp only [decide_eq_false_iff_not]; intro e; exact hl (by rw [e]))
  clear hl
  go_enter Tryz.func84, Tryz.ntmps84
  go_wp2_with fail
  go_ret
  exact ⟨jL NE.out.symm, Below.refl _ _⟩
end Go.Proofs.YtkoidahgbbabiaaGreat
