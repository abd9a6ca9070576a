/- Texts of one proof, one behind another. -/
import Derived.Test.YtohkbcdnlmjcjaaDoorWr18
import Derived.Test.YtohkbcdnlmjcjaaDoorWr19
/-
  ATTRIBUTES: Decode, walked.
-/
namespace Go.Proofs.YtohkbcdnlmjcjaaDoor
open Go.RowKit

set_option maxRecDepth 100000 in
theorem cut_val {ys : List Nat} : ∃ (f t : Int) (whole : Bool), cutV ys = .tuple #[.int .i64 f, .int .i64 t, .bool whole] ∧ (whole = true → f = (fromN ys : Nat) ∧ t = (cutN ys : Nat) ∧ fromN ys ≤ ys.length ∧ cutN ys ≤ ys.length) ∧ (whole = false → ys.length < fromN ys ∨ ys.length < cutN ys) := by
  unfold cutV
  by_cases h : ys.length < fromN ys
  · rw [if_pos h]
    exact ⟨0, 0, false, rfl, (fun h => by cases h), fun _ => .inl h⟩
  · rw [if_neg h]
    refine ⟨_, _, _, rfl, fun h2 => ?_, fun h2 => ?_⟩
    · have : cutN ys ≤ ys.length := of_decide_eq_true h2
      exact ⟨rfl, rfl, by omega, this⟩
    · have : ¬ cutN ys ≤ ys.length := of_decide_eq_false h2
      exact .inr (by omega)
set_option maxRecDepth 100000 in
theorem atO_rng : atO.Rng := by
  unfold At.Rng I64r atO
  decide
set_option maxRecDepth 100000 in
theorem atl_of {W : World} {lo : Nat} {a : At} {vp vc vo : Value} {us : List OthV} (ho : W.ownsRow lo 61 2 vo us.length (us.flatMap otC)) (h : PathAt W vp a.path ∧ IntsAt W vc a.comms ∧ ∀ x ∈ us, I64r x.1.1 ∧ BytesAt W x.2 x.1.2) (e : us.map (·.1) = a.others) : AtL W a vp vc vo := by
  obtain ⟨h1, h2, h3⟩ := h
  refine ⟨h1, h2, ?_⟩
  obtain ⟨sa, cap, rfl, l1, l2, l3⟩ := own_slat (C := otC) (fun _ => rfl) ho
  have el : us.length = a.others.length := by rw [← e, List.length_map]
  refine ⟨sa, cap, by rw [el], by omega, l2, fun h0 => ?_⟩
  obtain ⟨b, off, rfl, hP⟩ := l3 (by omega)
  refine ⟨b, off, rfl, fun i o ho => ?_⟩
  rw [← e, List.getElem?_map] at ho
  obtain ⟨x, hx, rfl⟩ := Option.map_eq_some_iff.1 ho
  obtain ⟨cs, c1, rfl, c3⟩ := hP i x hx
  obtain ⟨o1, o2⟩ := h3 x (List.mem_of_getElem? hx)
  exact ⟨_, c1, ⟨x.2, rfl, o1, o2⟩, c3⟩
set_option maxRecDepth 100000 in
/-- all lies in blocks from m on. -/
theorem DA.atf {W : World} {lo ab m : Nat} {P : Nat → Prop} {a : At} {vp vc vo : Value} {us : List OthV} (h : DA W lo ab P a vp vc vo us) (hP : ∀ k, P k → m ≤ k) (hm : m ≤ lo) : Fresh m W fun W => AtL W a vp vc vo :=
  ((((own_fresh h.oth).wide (fun _ hk _ => Nat.le_trans hm hk)).and (h.dat.wide fun k hk _ => hP k hk)).imp fun _ hh => atl_of hh.1 hh.2 h.osm)
def DecPost (xs : List Nat) (w : World) (e : Ending) (w' : World) : Prop :=
  Below w.heap.size w w' ∧ (if (decP atO [] xs).1 = 0 then ∃ os vp vc vo, os.Perm (decP atO [] xs).2.others ∧ os.Pairwise (fun x y => x.1 ≤ y.1) ∧ Fresh w.heap.size w' (fun W => AtL W { (decP atO [] xs).2 with others := os } vp vc vo) ∧ (decP atO [] xs).2.Rng ∧
      e = .returned (.tuple #[.agg (atV { (decP atO [] xs).2 with others := os } vp vc vo).toArray, .agg fltZ])
    else ∃ st, e = .returned (.tuple #[.agg atZ6, .agg #[.int .i64 3, .int .i64 (decP atO [] xs).1, .string st]]))
set_option maxRecDepth 100000 in
theorem dec_bad {xs : List Nat} {w w' : World} {c : Nat} {st : ByteArray} (h : (decP atO [] xs).1 = c) (hc : c ≠ 0) (hb : Below w.heap.size w w') : DecPost xs w (.returned (.tuple #[.agg atZ6, .agg #[.int .i64 3, .int .i64 c, .string st]])) w' := by
  refine ⟨hb, ?_⟩
  rw [if_neg (by rw [h]; exact hc), h]
  exact ⟨st, rfl⟩
/-- what holds while a fault is handed back. -/
structure ErrG (w : World) (fb : Nat) (n : Int) (st : ByteArray) (w' : World) : Prop where
  r : w'.heap[w.heap.size]? = some (.cells atZ6 28 (0, 0))
  t : ∃ C : Array Value, C.size = 3 ∧ w'.heap[w.heap.size + 1]? = some (.cells C 54 (0, 0))
  f : w'.heap[fb]? = some (.cells #[.int .i64 3, .int .i64 n, .string st] 54 (0, 0))
  b : Below w.heap.size w w'
set_option maxRecDepth 100000 in
theorem ErrG.setA {w : World} {fb : Nat} {n : Int} {st : ByteArray} {w' : World} (h : ErrG w fb n st w') (hn : fb ≠ w.heap.size) : ErrG w fb n st (w'.setRow w.heap.size atZ6) := by
  obtain ⟨C, h1, h2⟩ := h.t
  exact ⟨setRow_heap _ _ _ _ _ _ h.r, ⟨C, h1, by rw [setRow_other _ _ _ _ (by omega)]; exact h2⟩, by rw [setRow_other _ _ _ _ hn]; exact h.f, h.b.trans ((kept_row (F := fun k => k = w.heap.size) w.heap.size atZ6 rfl).below h.b.size (fun k hk => by omega))⟩
set_option maxRecDepth 100000 in
theorem ErrG.setF {w : World} {fb : Nat} {n : Int} {st : ByteArray} {w' : World} (h : ErrG w fb n st w') (hn : fb ≠ w.heap.size + 1) : ErrG w fb n st (w'.setRow (w.heap.size + 1) #[.int .i64 3, .int .i64 n, .string st]) := by
  obtain ⟨C, h1, h2⟩ := h.t
  exact ⟨by rw [setRow_other _ _ _ _ (by omega)]; exact h.r, ⟨_, rfl, setRow_heap _ _ _ _ _ _ h2⟩, by rw [setRow_other _ _ _ _ hn]; exact h.f, h.b.trans ((kept_row (F := fun k => k = w.heap.size + 1) (w.heap.size + 1) _ rfl).below h.b.size (fun k hk => by omega))⟩
/-- behind one attribute's step. -/
def StRel (w : World) (fb : Nat) (ds : Nat × At) (seen : List Nat) (wx : World) : Prop :=
  ∃ (c s : Int) (st : ByteArray), Hid (wx.heap[fb]? = some (.cells #[.int .i64 c, .int .i64 s, .string st] 54 (0, 0))) ∧ ((c = 0 ∧ s = 0 ∧ st = ⟨#[]⟩ ∧ Hid (ds.1 = 0 ∧ ∃ P' vp' vc' vo' us', DS w wx P' ds.2 vp' vc' vo' us' seen)) ∨ (c = 3 ∧ s = (ds.1 : Int) ∧ Hid (ds.1 ≠ 0 ∧ wx.heap[w.heap.size]? = some (.cells atZ6 28 (0, 0)) ∧ wx.heap[w.heap.size + 1]? = some (.cells fltZ 54 (0, 0)) ∧ Below w.heap.size w wx)))
set_option maxRecDepth 100000 in
theorem step_end {w wd w4 : World} {P : Nat → Prop} {a : At} {vp vc vo : Value} {us : List OthV} {seen : List Nat} {fb : Nat} {ds : Nat × At} {e : Ending} (D : DS w wd P a vp vc vo us seen) (QF : wd.heap[fb]? = some (.cells fltZ 54 (0, 0))) (PF : ¬ P fb) (OF : ¬ vo.ownBlock = some fb) (BF : w.heap.size + 4 ≤ fb)
    (h : StPost (w.heap.size + 1 + 1) (w.heap.size + 4) P ds vo wd e w4) (hc : 8 ∉ seen → ds.2.comms = []) :
    ∃ (c s : Int) (st : ByteArray), e = .returned (.agg #[.int .i64 c, .int .i64 s, .string st]) ∧ w4.heap[fb]? = some (.cells fltZ 54 (0, 0)) ∧ StRel w fb ds seen (w4.setRow fb #[.int .i64 c, .int .i64 s, .string st]) := by
  obtain ⟨c, s, st, rfl, hk, hr⟩ := h
  have fl := row_lt QF
  have RF : w4.heap[fb]? = some (.cells fltZ 54 (0, 0)) := (hk.block _ fl (fun h => by
    rcases h with h | h
    · omega
    · exact OF h)).trans QF
  have KS : Kept (fun k => k = fb) w4 (w4.setRow fb #[.int .i64 c, .int .i64 s, .string st]) := kept_row _ _ rfl
  refine ⟨c, s, st, rfl, RF, c, s, st, Lib.hid (setRow_heap _ _ _ _ _ _ RF), ?_⟩
  rcases hr with ⟨h1, h2, h3, h0, P', vp', vc', vo', us', d, hp, ho⟩ | ⟨h1, h2, h0⟩
  · refine .inl ⟨h1, h2, h3, Lib.hid ⟨h0, P', vp', vc', vo', us', (D.next hk d hp hc).kept KS fun k hk => ?_⟩⟩
    subst hk
    refine ⟨BF, fun hP => ?_, fun hO => ?_⟩
    · rcases hp k hP with h | h
      · exact PF h
      · omega
    · rcases ho k hO with h | h
      · exact OF h
      · omega
  · obtain ⟨r0, r1, be⟩ := D.left hk
    exact .inr ⟨h1, h2, Lib.hid ⟨h0, (KS.block _ (row_lt r0) (by omega)).trans r0, (KS.block _ (row_lt r1) (by omega)).trans r1, be.trans (KS.below be.size (fun k hk => by omega))⟩⟩
set_option maxHeartbeats 12800000 in
set_option maxRecDepth 100000 in
theorem at_Decode (v : Value) (xs : List Nat) (w : World) (h : BytesAt w v xs) (hT : Tabs w) (hx : xs.length ≤ 1048576) : Calls Tryd.prog 22 #[v] w (DecPost xs w) := by
  have HX := Lib.hid hx
  have HT := Lib.hid hT
  have H := Lib.hid h
  obtain ⟨sa0, cap0, rfl, -⟩ := h
  clear hx hT
  go_enter Tryd.func22, Tryd.ntmps22
  go_upto_region 3 with (fail)
  obtain ⟨W, hW, q0, q1, q2, q3, hb, hs⟩ := boxDec w
  rw [← hW]
  clear hW
  have D0 : Hid (DS w W (fun _ => False) atO (.slice none 0 0) (.slice none 0 0) (.slice none 0 0) [] []) := Lib.hid ⟨⟨q2, ⟨rfl, .inl ⟨rfl, rfl⟩⟩, fun _ _ => ⟨SlAt.nil, SlAt.nil, fun x hx => by simp at hx⟩, rfl, (fun h => h), (fun g hg => by cases hg), (fun _ h => h.elim), atO_rng, fun _ => rfl⟩, fun _ h => h.elim, ⟨_, q3, fun t ht => by rw [zero_all t ht]; simp⟩, q0, q1, fun _ => rfl, hb⟩
  clear q0 q1 q2 q3 hb hs
  go_loopw [0] (fun v0 wr => ∃ (ys : List Nat) (a : At) (P : Nat → Prop) (vp vc vo : Value) (us : List OthV) (seen : List Nat) (sa : Option Addr) (cap : Nat), v0 = .slice sa ys.length cap ∧ Hid (BytesAt w (.slice sa ys.length cap) ys) ∧ Hid (decP atO [] xs = decP a seen ys) ∧ Hid (DS w wr P a vp vc vo us seen) ∧ Hid (us.length + ys.length ≤ xs.length)) (fun v0 _ => lenOf v0)
  case atStart => exact ⟨xs, atO, _, _, _, _, [], [], sa0, cap0, rfl, H, Lib.hid rfl, D0, Lib.hid (by simp)⟩
  case round =>
    clear D0 H
    obtain ⟨ys, a, P, vp, vc, vo, us, seen, sa, cap, rfl, HY, DP, D, LU⟩ := hrel
    by_cases h0 : ys = []
    · subst h0
      have DE : Hid (decP atO [] xs = (0, a)) := Lib.hid (by rw [DP.out, decP_nil])
      have FM : ∀ x ∈ us, ∃ s c, x.2 = .slice s x.1.2.length c := fun x hx => by
        obtain ⟨s, c, e, -⟩ := (D.out.da.dat.self.2.2 x hx).2
        exact ⟨s, c, e⟩
      have UL : us.length ≤ 1048576 := by have := LU.out; have := HX.out; simp at *; omega
      have SC := Lib.hid (oth_Sort (w.heap.size + 4) vo us wr D.out.da.oth FM UL)
      have y9 : wr.cell? ⟨w.heap.size + 1 + 1, 9, none⟩ = some vo := D.out.da.at 9 _ rfl
      clear FM UL DP HY LU
      simp only [List.length_nil]
      go_wp2_with fail
      refine SC.out.mono ?_
      rintro e w1 ⟨us', rfl, hp, hsr, ho, hk⟩
      have DK := Lib.hid (D.out.sorted hp ho hk)
      have OS := Lib.hid (List.pairwise_map.2 hsr : (us'.map (·.1)).Pairwise (fun x y => x.1 ≤ y.1))
      have OP : Hid ((us'.map (·.1)).Perm a.others) := Lib.hid (by rw [← D.out.da.osm]; exact hp.map _)
      clear SC y9 hp hsr ho hk D
      go_wp2_with ((with_reducible refine halt_at (X := .load 28 (.tmp 4)) ?_ ?_); (· rfl))
      unfold Halt
      refine ld_at (by rfl) 28 (.tmp 4) rfl (w.heap.size + 1 + 1) rfl 28 (atV { a with others := us'.map (·.1) } vp vc vo).toArray (0, 0) _ DK.out.da.row Tryd.underlying28 rfl sz_attrs ?_
      go_wp2_with ((with_reducible refine halt_at (X := .store 28 (.tmp 2) (.tmp 67)) ?_ ?_); (· rfl))
      unfold Halt
      obtain ⟨so, co, hso, -⟩ := own_form DK.out.da.oth
      obtain ⟨sp, cp, hsp, -⟩ := DK.out.da.dat.self.1
      obtain ⟨sc, cc, hsc, -⟩ := DK.out.da.dat.self.2.1
      subst hso; subst hsp; subst hsc
      refine st_row rfl 28 (.tmp 2) (.tmp 67) rfl w.heap.size rfl 28 atZ6 _ rfl DK.out.r0 sz_attrs rfl (by simp [atV, Value.oneCell']) ?_
      obtain ⟨w2, hw2⟩ : ∃ w2, w2 = w1.setRow w.heap.size (atV { a with others := us'.map (·.1) } (.slice sp a.path.length cp) (.slice sc a.comms.length cc) (.slice so us'.length co)).toArray := ⟨_, rfl⟩
      have R0 : Hid (w2.heap[w.heap.size]? = some (.cells (atV { a with others := us'.map (·.1) } (.slice sp a.path.length cp) (.slice sc a.comms.length cc) (.slice so us'.length co)).toArray 28 (0, 0))) := Lib.hid (by rw [hw2]; exact setRow_heap _ _ _ _ _ _ DK.out.r0)
      have R1 : Hid (w2.heap[w.heap.size + 1]? = some (.cells fltZ 54 (0, 0))) := Lib.hid (by rw [hw2, setRow_other _ _ _ _ (by omega)]; exact DK.out.r1)
      have K2 : Hid (Kept (fun k => k = w.heap.size) w1 w2) := Lib.hid (by rw [hw2]; exact kept_row _ _ rfl)
      rw [← hw2]
      clear hw2
      go_wp2_with ((with_reducible refine halt_at (X := .store 54 (.tmp 3) (.tmp 68)) ?_ ?_); (· rfl))
      unfold Halt
      refine st_row rfl 54 (.tmp 3) (.tmp 68) rfl (w.heap.size + 1) rfl 54 fltZ fltZ rfl R1.out sz_fault rfl (by simp [Value.oneCell']) ?_
      have K3 := Lib.hid (K2.out.imp (G := fun k => k = w.heap.size ∨ k = w.heap.size + 1) (fun k h => .inl h) |>.trans (kept_row (F := fun k => k = w.heap.size ∨ k = w.heap.size + 1) (w := w2) (w.heap.size + 1) fltZ (.inr rfl)))
      go_wp2_with fail
      refine bodyPost_ret (results_Decode _ _ w.heap.size (w.heap.size + 1) _ fltZ rfl rfl rfl rfl (by rw [setRow_other _ _ _ _ (by omega)]; exact R0.out) (setRow_heap _ _ _ _ _ _ R1.out)) rfl ⟨DK.out.be.trans (K3.out.below DK.out.be.size (fun k hk => by omega)), ?_⟩
      rw [DE.out, if_pos rfl]
      exact ⟨us'.map (·.1), _, _, _, OP.out, OS.out, (DK.out.da.kept K3.out (by omega) (fun k hp e => by have := DK.out.phi k hp; omega) (fun k ho e => by have := own_form_le DK.out.da.oth k ho; omega)).atf (fun k hp => by have := DK.out.phi k hp; omega) (by omega), DK.out.da.rng, rfl⟩
    · have LY : 0 < ys.length := List.length_pos_iff.2 h0
      have YN := Lib.hid h0
      have CT := Lib.hid (at_cut _ _ wr (BytesAt.below HY.out D.out.be))
      obtain ⟨f, t2, whole, hcv, hw1, hw0⟩ := cut_val (ys := ys)
      rw [hcv] at CT
      have HW1 := Lib.hid hw1
      have HW0 := Lib.hid hw0
      have m0 : (ys.length : Int) > 0 := by omega
      have d0 : decide ((ys.length : Int) > 0) = true := by simp; omega
      clear hcv hw1 hw0 h0
      go_wp2_with fail
      refine CT.out.mono ?_
      rintro e w1 ⟨rfl, rfl⟩
      clear CT
      go_upto_region 5 with (fail)
      obtain ⟨bad, hbad⟩ : ∃ bad : Bool, (ys.length < fromN ys ∨ ys.length < cutN ys ∨ ys.getD 1 0 ∈ seen) ↔ bad = true := ⟨decide (ys.length < fromN ys ∨ ys.length < cutN ys ∨ ys.getD 1 0 ∈ seen), by simp⟩
      have BD := Lib.hid hbad
      have SNH := Lib.hid D.out.sn
      clear hbad
      go_cut [27] (fun s wx => s = .bool bad ∧ wr = wx)
      case first =>
        cases whole with
        | false =>
          have E : Hid (bad = true) := Lib.hid (BD.out.1 (by rcases HW0.out rfl with h | h; exact .inl h; exact .inr (.inl h)))
          go_wp2_with fail
          go_meet
          exact ⟨by rw [E.out], rfl⟩
        | true =>
          obtain ⟨-, -, l1, l2⟩ := HW1.out rfl
          have c3 := cut_ge ys
          obtain ⟨t, ht⟩ : ∃ t, ys[1]? = some t := ⟨_, List.getElem?_eq_getElem (by omega)⟩
          obtain ⟨b, off, cap', e, x1, tl⟩ := byte_cells (BytesAt.below HY.out D.out.be) ht
          injection e with e _ e3
          subst e; subst e3
          obtain ⟨SC, s1, s2⟩ := SNH.out
          have TG := getD_at ht
          have z1 : wr.cell? ⟨w.heap.size + 1 + 1 + 1, t, none⟩ = some (.bool (decide (t ∈ seen))) := by rw [row_cell s1]; exact s2 t tl
          have E : Hid (bad = decide (t ∈ seen)) := Lib.hid (by
            rw [Bool.eq_iff_iff, ← BD.out, TG]
            simp only [decide_eq_true_eq]
            exact ⟨fun h => by rcases h with h | h | h; omega; omega; exact h, fun h => .inr (.inr h)⟩)
          generalize decide (t ∈ seen) = q at z1 E
          have t0 : (0 : Int) ≤ (t : Int) := by omega
          have t3 : (t : Int) < 256 := by omega
          have n1 : (1 : Int) < (ys.length : Int) := by omega
          clear l1 l2 c3 ht tl s1 s2 TG
          cases q
          · go_wp2_with fail
            go_meet
            exact ⟨by rw [E.out], rfl⟩
          · go_wp2_with fail
            go_meet
            exact ⟨by rw [E.out], rfl⟩
      case rest =>
        obtain ⟨h27, hw⟩ := hcut
        subst h27
        subst hw
        cases bad with
        | true =>
          have DE : Hid ((decP atO [] xs).1 = 1) := Lib.hid (by rw [DP.out, decP_bad YN.out (BD.out.2 rfl)])
          clear BD
          go_wp2_with ((with_reducible refine halt_at (X := .store 28 (.tmp 2) (.tmp 28)) ?_ ?_); (· rfl))
          unfold Halt
          refine st_row rfl 28 (.tmp 2) (.tmp 28) rfl w.heap.size rfl 28 atZ6 atZ6 rfl D.out.r0 sz_attrs rfl (by simp [Value.oneCell']) ?_
          obtain ⟨w2, hw2⟩ : ∃ w2, w2 = wr.setRow w.heap.size atZ6 := ⟨_, rfl⟩
          have R0 : Hid (w2.heap[w.heap.size]? = some (.cells atZ6 28 (0, 0))) := Lib.hid (by rw [hw2]; exact setRow_heap _ _ _ _ _ _ D.out.r0)
          have R1 : Hid (w2.heap[w.heap.size + 1]? = some (.cells fltZ 54 (0, 0))) := Lib.hid (by rw [hw2, setRow_other _ _ _ _ (by omega)]; exact D.out.r1)
          have B2 : Hid (Below w.heap.size w w2) := Lib.hid (D.out.be.trans ((by rw [hw2]; exact kept_row _ _ rfl : Kept (fun k => k = w.heap.size) wr w2).below D.out.be.size (fun k hk => by omega)))
          rw [← hw2]
          clear hw2
          go_wp2_with ((with_reducible refine halt_at (X := .store 54 (.tmp 3) (.tmp 29)) ?_ ?_); (· rfl))
          unfold Halt
          refine st_row rfl 54 (.tmp 3) (.tmp 29) rfl (w.heap.size + 1) rfl 54 fltZ #[.int .i64 3, .int .i64 1, .string ⟨#[]⟩] rfl R1.out sz_fault rfl (by simp [Value.oneCell']) ?_
          have B3 := Lib.hid (B2.out.trans ((kept_row (F := fun k => k = w.heap.size + 1) (w := w2) (w.heap.size + 1) #[.int .i64 3, .int .i64 1, .string ⟨#[]⟩] rfl).below B2.out.size (fun k hk => by omega)))
          go_wp2_with fail
          exact bodyPost_ret (results_Decode _ _ w.heap.size (w.heap.size + 1) _ #[.int .i64 3, .int .i64 1, .string ⟨#[]⟩] rfl rfl rfl rfl (by rw [setRow_other _ _ _ _ (by omega)]; exact R0.out) (setRow_heap _ _ _ _ _ _ R1.out)) rfl (dec_bad (c := 1) DE.out (by decide) B3.out)
        | false =>
          have NB : Hid (¬ (ys.length < fromN ys ∨ ys.length < cutN ys ∨ ys.getD 1 0 ∈ seen)) := Lib.hid (fun h => by have := BD.out.1 h; cases this)
          obtain rfl : whole = true := by
            cases whole with
            | true => rfl
            | false => exact (NB.out (by rcases HW0.out rfl with h | h; exact .inl h; exact .inr (.inl h))).elim
          obtain ⟨e1, e2, l1, l2⟩ := HW1.out rfl
          subst e1; subst e2
          clear BD HW0 HW1
          have c3 := cut_ge ys
          have f34 := from_le ys
          have fc : fromN ys ≤ cutN ys := by unfold cutN; omega
          obtain ⟨hd, hhd⟩ : ∃ hd, ys[0]? = some hd := ⟨_, List.getElem?_eq_getElem (by omega)⟩
          obtain ⟨t, ht⟩ : ∃ t, ys[1]? = some t := ⟨_, List.getElem?_eq_getElem (by omega)⟩
          have GT := getD_at ht
          have GH := getD_at hhd
          have DST : Hid (decStep a ys = if 1 ≤ t ∧ t ≤ 8 then takeP a hd t ((ys.take (cutN ys)).drop (fromN ys)) else othP a hd t ((ys.take (cutN ys)).drop (fromN ys))) := Lib.hid (by unfold decStep; rw [GT, GH])
          have NX := Lib.hid (fun hs => decP_next (a := a) (seen := seen) YN.out NB.out hs)
          have NF := Lib.hid (fun hs => decP_fault (a := a) (seen := seen) YN.out NB.out hs)
          rw [GT] at NX
          have SL8 := Lib.hid (step_len a ys)
          have SC8 := Lib.hid (step_com a ys)
          rw [GT] at SC8
          obtain ⟨b, off, cap', e, x1, tl⟩ := byte_cells (BytesAt.below HY.out D.out.be) ht
          injection e with e _ e3
          subst e; subst e3
          obtain ⟨SC, s1, s2⟩ := SNH.out
          have z1 : wr.cell? ⟨w.heap.size + 1 + 1 + 1, t, none⟩ = some (.bool (decide (t ∈ seen))) := by rw [row_cell s1]; exact s2 t tl
          have zf := row_free s1 t
          have t0 : (0 : Int) ≤ (t : Int) := by omega
          have t3 : (t : Int) < 256 := by omega
          have t4 : (t : Int) ≤ 255 := by omega
          have n1 : (1 : Int) < (ys.length : Int) := by omega
          have CB : ys.length ≤ cap := by obtain ⟨_, _, e, h, -⟩ := HY.out; injection e with _ _ e; omega
          have BA : Hid (BytesAt w (.slice (sub1 (some ⟨b, off, none⟩) 0 cap) (cutN ys - 0) (cap - 0)) (ys.take (cutN ys))) := Lib.hid (by have := slat_part' HY.out (l := 0) (k := cutN ys) (by omega) l2; simpa only [List.drop_zero] using this)
          have BV : Hid (BytesAt w (.slice (sub1 (some ⟨b, off, none⟩) (fromN ys) cap) (cutN ys - fromN ys) (cap - fromN ys)) ((ys.take (cutN ys)).drop (fromN ys))) := Lib.hid (slat_part' HY.out (l := fromN ys) (k := cutN ys) fc l2)
          have RS1 := Lib.hid (fun W => run_subh (P := Tryd.prog) (ty := 38) Tryd.underlying38 sizeByte (some ⟨b, off, none⟩) ys.length cap (cutN ys) (by omega) .i64 W)
          have RS2 := Lib.hid (fun W => run_sub (P := Tryd.prog) (ty := 38) Tryd.underlying38 sizeByte (some ⟨b, off, none⟩) ys.length cap (fromN ys) (cutN ys) fc (by omega) .i64 .i64 W)
          have RS3 := Lib.hid (fun W => run_subl (P := Tryd.prog) (ty := 38) Tryd.underlying38 sizeByte (some ⟨b, off, none⟩) ys.length cap (cutN ys) l2 .i64 W)
          obtain ⟨zs, hzs⟩ : ∃ zs, ys.drop (cutN ys) = zs := ⟨_, rfl⟩
          have ZL : zs.length = ys.length - cutN ys := by rw [← hzs, List.length_drop]
          have BZ : Hid (BytesAt w (.slice (sub1 (some ⟨b, off, none⟩) (cutN ys) cap) zs.length (cap - cutN ys)) zs) := Lib.hid (by
            have := slat_part' HY.out (l := cutN ys) (k := ys.length) l2 (Nat.le_refl _)
            rw [List.take_length, hzs] at this
            rw [ZL]
            exact this)
          rw [hzs] at NX
          rw [← ZL] at RS3
          have A0 : Hid ((ys.take (cutN ys))[0]? = some hd) := Lib.hid (by rw [List.getElem?_take_of_lt (by omega)]; exact hhd)
          have A1 : Hid ((ys.take (cutN ys))[1]? = some t) := Lib.hid (by rw [List.getElem?_take_of_lt (by omega)]; exact ht)
          have VL : Hid (((ys.take (cutN ys)).drop (fromN ys)).length ≤ 1048576) := Lib.hid (by rw [List.length_drop, List.length_take]; have := LU.out; have := HX.out; omega)
          have ZH : Hid (zs.length + 3 ≤ ys.length) := Lib.hid (by omega)
          generalize (ys.take (cutN ys)).drop (fromN ys) = vv at DST BV VL
          generalize ys.take (cutN ys) = al at BA A0 A1
          generalize decStep a ys = ds at DST NX NF SL8 SC8
          generalize fromN ys = fr at BV RS2 ⊢
          generalize cutN ys = ct at BA BV RS1 RS2 RS3 BZ ⊢
          have TLT := Lib.hid tl
          have C8 : Hid (t = 8 → a.comms = []) := Lib.hid (fun e => D.out.cm (fun h => NB.out (.inr (.inr (by rw [GT, e]; exact h)))))
          have YT := Lib.hid ht
          clear NB l1 l2 c3 f34 fc hhd ht GT GH s1 s2 hzs ZL CB tl YN
          go_upto_region 8 with (fail)
          obtain ⟨W1, hW1⟩ : ∃ W1, W1 = wr.setCell ⟨w.heap.size + 1 + 1 + 1, t, none⟩ (.bool true) := ⟨_, rfl⟩
          have DM : Hid (DS w W1 P a vp vc vo us (t :: seen)) := Lib.hid (by rw [hW1]; exact D.out.mark TLT.out)
          rw [← hW1]
          clear hW1 z1 zf x1 D SNH
          go_upto_region 9 with (fail)
          obtain ⟨W2, hW2, qf, hb2, hs2⟩ := box1 W1 fltZ 54
          rw [← hW2]
          clear hW2
          have D2 := Lib.hid (DM.out.below hb2)
          have QF := Lib.hid qf
          have PF : Hid (¬ P W1.heap.size) := Lib.hid (fun h => Nat.lt_irrefl _ (DM.out.da.plt _ h))
          have OF : Hid (¬ vo.ownBlock = some W1.heap.size) := Lib.hid (fun h => Nat.lt_irrefl _ (own_lt DM.out.da.oth _ h))
          have BF : Hid (w.heap.size + 4 ≤ W1.heap.size) := Lib.hid DM.out.big
          have SF := Lib.hid hs2
          obtain ⟨fb, hfb⟩ : ∃ fb, W1.heap.size = fb := ⟨_, rfl⟩
          rw [hfb] at QF PF OF BF SF ⊢
          clear qf hb2 hs2 hfb DM
          obtain ⟨b2, off2, cap2, e, x1, -⟩ := byte_cells (BytesAt.below HY.out D2.out.be) (i := 1) (x := t) YT.out
          injection e with e _ e3
          injection e with e
          injection e with e e4 _
          subst e; subst e4; subst e3
          have IK := Lib.hid (at_isKnown (t : Int) W2)
          obtain ⟨kn, hkn⟩ : ∃ kn, knownB (t : Int) = kn := ⟨_, rfl⟩
          rw [hkn] at IK
          have KN := Lib.hid hkn
          clear hkn
          go_wp2_with fail
          refine IK.out.mono ?_
          rintro e w3 ⟨rfl, rfl⟩
          clear IK x1
          go_upto_if 39 with (fail)
          go_cut [39] (fun s39 wx => s39 = .bool kn ∧ StRel w fb ds (t :: seen) wx)
          case first =>
            have DD : Hid (DS w W2.drew P a vp vc vo us (t :: seen)) := Lib.hid (D2.out.below (Below.refl _ _).drew)
            have QD : Hid (W2.drew.heap[fb]? = some (.cells fltZ 54 (0, 0))) := Lib.hid QF.out
            have CM : Hid (8 ∉ t :: seen → ds.2.comms = []) := Lib.hid (fun h => (SC8.out (fun e => h (by rw [e]; exact List.mem_cons_self))).trans (D2.out.cm h))
            have HBY : Hid (∀ u zs, BytesAt w u zs → ∀ W, Kept (fun k => k = w.heap.size + 1 + 1) W2.drew W → BytesAt W u zs) := Lib.hid (fun u zs h W hk => BytesAt.below h (DD.out.be.trans (hk.below DD.out.be.size (fun k e => by omega))))
            cases kn with
            | true =>
              have KT := known_iff.1 KN.out
              have DE : Hid (ds = takeP a hd t vv) := Lib.hid (by rw [DST.out, if_pos KT])
              have TK := Lib.hid (at_take (w.heap.size + 4) (w.heap.size + 1 + 1) P a vp vc vo _ _ us hd t al vv W2.drew DD.out.da (HT.out.below DD.out.be) A0.out A1.out (HBY.out _ _ BA.out) (HBY.out _ _ BV.out) KT.1 KT.2 C8.out VL.out)
              rw [← DE.out] at TK
              have SE := Lib.hid (fun e w4 (hp : TkPost (w.heap.size + 1 + 1) (w.heap.size + 4) P ds vo us W2.drew e w4) => step_end DD.out QD.out PF.out OF.out BF.out (tk_st hp) CM.out)
              clear KT D2 QF DD QD CM HBY BA BV BZ DST NX NF
              go_upto_region 10 with (fail)
              refine wp_region_held_drew (S := fun _ => True) (by kernel_rfl) ?_ (fun hHeld => ?_)
              · trivial
              generalize World.drew W2 = wd at TK SE hHeld ⊢
              refine rgy (i := 0) (v := ?_) (atN rfl) (by kernel_rfl) (fun _ _ _ h => h) ?_ ?_ hHeld ?_; rotate_left 1; (· rfl); (· intro w' hSw; (try clear hHeld); go_simp; try with_reducible rfl)
              try simp only [Act.put, List.setIfInBounds_toArray, List.set_cons_zero, List.set_cons_succ]
              refine rgy (i := 1) (v := ?_) (atN rfl) (by kernel_rfl) (fun _ _ _ h => h) ?_ ?_ hHeld ?_; rotate_left 1; (· rfl); (· intro w' hSw; (try clear hHeld); go_simp; try with_reducible rfl)
              try simp only [Act.put, List.setIfInBounds_toArray, List.set_cons_zero, List.set_cons_succ]
              refine rgy (i := 2) (v := ?_) (atN rfl) (by kernel_rfl) (fun _ _ _ h => h) ?_ ?_ hHeld ?_; rotate_left 1; (· rfl); (· intro w' hSw; refine exec_slc (V := .slice (sub1 (some ⟨b, off, none⟩) 0 cap) (ct - 0) (cap - 0)) 38 (.tmp 40) none (some (.tmp 41)) ?_ (RS1.out _) ?_ ?_ ?_ <;> rfl)
              try simp only [Act.put, List.setIfInBounds_toArray, List.set_cons_zero, List.set_cons_succ]
              refine rgy (i := 3) (v := ?_) (atN rfl) (by kernel_rfl) (fun _ _ _ h => h) ?_ ?_ hHeld ?_; rotate_left 1; (· rfl); (· intro w' hSw; (try clear hHeld); go_simp; try with_reducible rfl)
              try simp only [Act.put, List.setIfInBounds_toArray, List.set_cons_zero, List.set_cons_succ]
              refine rgy (i := 4) (v := ?_) (atN rfl) (by kernel_rfl) (fun _ _ _ h => h) ?_ ?_ hHeld ?_; rotate_left 1; (· rfl); (· intro w' hSw; (try clear hHeld); go_simp; try with_reducible rfl)
              try simp only [Act.put, List.setIfInBounds_toArray, List.set_cons_zero, List.set_cons_succ]
              refine rgy (i := 5) (v := ?_) (atN rfl) (by kernel_rfl) (fun _ _ _ h => h) ?_ ?_ hHeld ?_; rotate_left 1; (· rfl); (· intro w' hSw; (try clear hHeld); go_simp; try with_reducible rfl)
              try simp only [Act.put, List.setIfInBounds_toArray, List.set_cons_zero, List.set_cons_succ]
              refine rgy (i := 6) (v := ?_) (atN rfl) (by kernel_rfl) (fun _ _ _ h => h) ?_ ?_ hHeld ?_; rotate_left 1; (· rfl); (· intro w' hSw; refine exec_slc (V := .slice (sub1 (some ⟨b, off, none⟩) fr cap) (ct - fr) (cap - fr)) 38 (.tmp 43) (some (.tmp 44)) (some (.tmp 45)) ?_ (RS2.out _) ?_ ?_ ?_ <;> rfl)
              try simp only [Act.put, List.setIfInBounds_toArray, List.set_cons_zero, List.set_cons_succ]
              refine rg_call (i := 7) (atN rfl) (by kernel_rfl) ?_ (fun K hK => ?_); (· rfl); (try clear hb); go_simp; (refine TK.out.mono ?_; rintro e w4 hpost); obtain ⟨c, s, st, rfl, RF, RX⟩ := SE.out _ _ hpost; have RXH := Lib.hid RX; clear RX hpost; go_wp2_with fail; refine hK.out _ _ ?_ (fun hHeld => ?_); (· trivial); clear hK K
              try simp only [Act.put, List.setIfInBounds_toArray, List.set_cons_zero, List.set_cons_succ]
              refine rg_call (i := 8) (atN rfl) (by kernel_rfl) ?_ (fun K hK => ?_); (· rfl); (try clear hb); refine wp_store_rowat 54 (.tmp 9) (.tmp 47) rfl fb rfl 54 fltZ #[.int .i64 c, .int .i64 s, .string st] rfl RF sz_fault rfl (by simp [Value.oneCell']) ?_; refine hK.out _ _ ?_ (fun hHeld => ?_); (· trivial); clear hK K
              try simp only [Act.put]
              refine wpAnyH_done (by kernel_rfl) ?_ _
              clear hHeld
              go_wp2_with fail
              go_meet
              exact ⟨rfl, RXH.out⟩
            | false =>
              have KT : ¬ (1 ≤ t ∧ t ≤ 8) := fun h => by have := known_iff.2 h; rw [KN.out] at this; cases this
              have DE : Hid (ds = othP a hd t vv) := Lib.hid (by rw [DST.out, if_neg KT])
              have TK := Lib.hid (at_other (w.heap.size + 4) (w.heap.size + 1 + 1) P a vp vc vo _ _ us hd t al vv W2.drew DD.out.da A0.out A1.out (by have := DD.out.big; exact this) (HBY.out _ _ BA.out _ (Kept.refl _ _)) (HBY.out _ _ BV.out _ (Kept.refl _ _)) VL.out (by have := LU.out; have := HX.out; omega))
              rw [← DE.out] at TK
              have SE := Lib.hid (fun e w4 (hp : OtPost (w.heap.size + 1 + 1) (w.heap.size + 4) P ds vp vc vo W2.drew e w4) => step_end DD.out QD.out PF.out OF.out BF.out (ot_st hp) CM.out)
              clear KT D2 QF DD QD CM HBY BA BV BZ DST NX NF
              go_upto_region 11 with (fail)
              refine wp_region_held_drew (S := fun _ => True) (by kernel_rfl) ?_ (fun hHeld => ?_)
              · trivial
              generalize World.drew W2 = wd at TK SE hHeld ⊢
              refine rgy (i := 0) (v := ?_) (atN rfl) (by kernel_rfl) (fun _ _ _ h => h) ?_ ?_ hHeld ?_; rotate_left 1; (· rfl); (· intro w' hSw; (try clear hHeld); go_simp; try with_reducible rfl)
              try simp only [Act.put, List.setIfInBounds_toArray, List.set_cons_zero, List.set_cons_succ]
              refine rgy (i := 1) (v := ?_) (atN rfl) (by kernel_rfl) (fun _ _ _ h => h) ?_ ?_ hHeld ?_; rotate_left 1; (· rfl); (· intro w' hSw; (try clear hHeld); go_simp; try with_reducible rfl)
              try simp only [Act.put, List.setIfInBounds_toArray, List.set_cons_zero, List.set_cons_succ]
              refine rgy (i := 2) (v := ?_) (atN rfl) (by kernel_rfl) (fun _ _ _ h => h) ?_ ?_ hHeld ?_; rotate_left 1; (· rfl); (· intro w' hSw; refine exec_slc (V := .slice (sub1 (some ⟨b, off, none⟩) 0 cap) (ct - 0) (cap - 0)) 38 (.tmp 48) none (some (.tmp 49)) ?_ (RS1.out _) ?_ ?_ ?_ <;> rfl)
              try simp only [Act.put, List.setIfInBounds_toArray, List.set_cons_zero, List.set_cons_succ]
              refine rgy (i := 3) (v := ?_) (atN rfl) (by kernel_rfl) (fun _ _ _ h => h) ?_ ?_ hHeld ?_; rotate_left 1; (· rfl); (· intro w' hSw; (try clear hHeld); go_simp; try with_reducible rfl)
              try simp only [Act.put, List.setIfInBounds_toArray, List.set_cons_zero, List.set_cons_succ]
              refine rgy (i := 4) (v := ?_) (atN rfl) (by kernel_rfl) (fun _ _ _ h => h) ?_ ?_ hHeld ?_; rotate_left 1; (· rfl); (· intro w' hSw; (try clear hHeld); go_simp; try with_reducible rfl)
              try simp only [Act.put, List.setIfInBounds_toArray, List.set_cons_zero, List.set_cons_succ]
              refine rgy (i := 5) (v := ?_) (atN rfl) (by kernel_rfl) (fun _ _ _ h => h) ?_ ?_ hHeld ?_; rotate_left 1; (· rfl); (· intro w' hSw; (try clear hHeld); go_simp; try with_reducible rfl)
              try simp only [Act.put, List.setIfInBounds_toArray, List.set_cons_zero, List.set_cons_succ]
              refine rgy (i := 6) (v := ?_) (atN rfl) (by kernel_rfl) (fun _ _ _ h => h) ?_ ?_ hHeld ?_; rotate_left 1; (· rfl); (· intro w' hSw; refine exec_slc (V := .slice (sub1 (some ⟨b, off, none⟩) fr cap) (ct - fr) (cap - fr)) 38 (.tmp 51) (some (.tmp 52)) (some (.tmp 53)) ?_ (RS2.out _) ?_ ?_ ?_ <;> rfl)
              try simp only [Act.put, List.setIfInBounds_toArray, List.set_cons_zero, List.set_cons_succ]
              refine rg_call (i := 7) (atN rfl) (by kernel_rfl) ?_ (fun K hK => ?_); (· rfl); (try clear hb); go_simp; (refine TK.out.mono ?_; rintro e w4 hpost); obtain ⟨c, s, st, rfl, RF, RX⟩ := SE.out _ _ hpost; have RXH := Lib.hid RX; clear RX hpost; go_wp2_with fail; refine hK.out _ _ ?_ (fun hHeld => ?_); (· trivial); clear hK K
              try simp only [Act.put, List.setIfInBounds_toArray, List.set_cons_zero, List.set_cons_succ]
              refine rg_call (i := 8) (atN rfl) (by kernel_rfl) ?_ (fun K hK => ?_); (· rfl); (try clear hb); refine wp_store_rowat 54 (.tmp 9) (.tmp 55) rfl fb rfl 54 fltZ #[.int .i64 c, .int .i64 s, .string st] rfl RF sz_fault rfl (by simp [Value.oneCell']) ?_; refine hK.out _ _ ?_ (fun hHeld => ?_); (· trivial); clear hK K
              try simp only [Act.put]
              refine wpAnyH_done (by kernel_rfl) ?_ _
              clear hHeld
              go_wp2_with fail
              go_meet
              exact ⟨rfl, RXH.out⟩
          case rest =>
            obtain ⟨h39, c, s, st, RB, hr⟩ := hcut
            subst h39
            have y0 := row_cell RB.out 0
            have y1 := row_cell RB.out 1
            have y2 := row_cell RB.out 2
            simp only [List.getElem?_toArray, List.getElem?_cons_zero, List.getElem?_cons_succ] at y0 y1 y2
            have UO : Hid (us.length = a.others.length) := Lib.hid (by rw [← D2.out.da.osm, List.length_map])
            rcases hr with ⟨rfl, rfl, rfl, HS⟩ | ⟨rfl, hsn, HS⟩
            · obtain ⟨h00, P', vp', vc', vo', us', d'⟩ := HS.out
              have DN := Lib.hid d'
              have DPN : Hid (decP atO [] xs = decP ds.2 (t :: seen) zs) := Lib.hid (by rw [DP.out]; exact NX.out h00)
              have LUN : Hid (us'.length + zs.length ≤ xs.length) := Lib.hid (by
                have e := congrArg List.length d'.da.osm
                rw [List.length_map] at e
                have := SL8.out; have := UO.out; have := LU.out; have := ZH.out
                omega)
              have NQ := flt_same wc
              clear h00 d' HS DP NX NF DST SL8 SC8 D2 QF PF OF BF BA BV RS1 RS2 LU UO RB
              go_wp2_with ((with_reducible refine halt_at (X := .slice 38 (.tmp 61) (some (.tmp 62)) none none) ?_ ?_); (· rfl))
              unfold Halt
              refine slc_at rfl 38 (.tmp 61) (some (.tmp 62)) none rfl (V := .slice (sub1 (some ⟨b, off, none⟩) ct cap) zs.length (cap - ct)) (RS3.out _) rfl rfl rfl ?_
              clear RS3 y0 y1 y2 NQ
              go_wp2_with fail
              refine ⟨⟨zs, ds.2, P', vp', vc', vo', us', t :: seen, _, _, rfl, BZ, DPN, DN, LUN⟩, ?_⟩
              have := ZH.out
              simp [lenOf]
              omega
            · obtain ⟨hn0, r0, r1, be⟩ := HS.out
              have DE : Hid ((decP atO [] xs).1 = ds.1) := Lib.hid (by rw [DP.out, NF.out hn0])
              have N0 := Lib.hid hn0
              have NQ := flt_any wc s st
              have NE0 : Hid (fb ≠ w.heap.size) := Lib.hid (by have := BF.out; omega)
              have NE1 : Hid (fb ≠ w.heap.size + 1) := Lib.hid (by have := BF.out; omega)
              have SI : Hid (ErrG w fb s st (World.drew wc)) := Lib.hid ⟨r0, ⟨_, rfl, r1⟩, RB.out, be.drew⟩
              have HSN := Lib.hid hsn
              clear hn0 r0 r1 be HS DP NX NF DST SL8 SC8 D2 QF PF OF BF BA BV BZ RS1 RS2 RS3 LU UO RB hsn
              go_wp2_with fail
              clear y0 y1 y2 NQ
              refine wp_region_held_drew (S := ErrG w fb s st) (by kernel_rfl) ?_ (fun hHeld => ?_)
              · exact SI.out
              generalize World.drew wc = wd at SI hHeld ⊢
              refine rgy (i := 0) (v := ?_) (atN rfl) (by kernel_rfl) (fun _ _ _ h => h) ?_ ?_ hHeld ?_; rotate_left 1; (· rfl); (· intro w' hSw; (try clear hHeld); go_simp; try with_reducible rfl)
              try simp only [Act.put, List.setIfInBounds_toArray, List.set_cons_zero, List.set_cons_succ]
              refine rgy (i := 1) (v := ?_) (atN rfl) (by kernel_rfl) (fun _ _ _ h => h) ?_ ?_ hHeld ?_; rotate_left 1; (· rfl); (· intro w' hSw; refine exec_ld 54 (.tmp 9) ?_ fb ?_ 54 _ (0, 0) _ hSw.f Tryd.underlying54 rfl sz_fault <;> rfl)
              try simp only [Act.put, List.setIfInBounds_toArray, List.set_cons_zero, List.set_cons_succ]
              refine rg_call (i := 2) (atN rfl) (by kernel_rfl) ?_ (fun K hK => ?_); (· rfl); (try clear hb); refine wp_store_rowat 28 (.tmp 2) (.tmp 59) rfl w.heap.size rfl 28 atZ6 atZ6 rfl hHeld.r sz_attrs rfl (by simp [Value.oneCell']) ?_; refine hK.out _ _ ?_ (fun hHeld => ?_); (· exact hHeld.setA NE0.out); clear hK K
              try simp only [Act.put]
              refine rg_call (i := 3) (atN rfl) (by kernel_rfl) ?_ (fun K hK => ?_); (· rfl); (try clear hb); obtain ⟨C, hC, hq⟩ := hHeld.t; refine wp_store_rowat 54 (.tmp 3) (.tmp 60) rfl (w.heap.size + 1) rfl 54 C #[.int .i64 3, .int .i64 s, .string st] rfl hq sz_fault hC (by simp [Value.oneCell']) ?_; refine hK.out _ _ ?_ (fun hHeld => ?_); (· exact hHeld.setF NE1.out); clear hK K
              try simp only [Act.put]
              refine wpAnyH_done (by kernel_rfl) ?_ _
              have QR : Hid (((wd.setRow w.heap.size atZ6).setRow (w.heap.size + 1) #[.int .i64 3, .int .i64 s, .string st]).heap[w.heap.size + 1]? = some (.cells #[.int .i64 3, .int .i64 s, .string st] 54 (0, 0))) := Lib.hid (setRow_heap _ _ _ _ _ _ hq)
              have HH := Lib.hid hHeld
              clear hHeld hq
              generalize (wd.setRow w.heap.size atZ6).setRow (w.heap.size + 1) #[.int .i64 3, .int .i64 s, .string st] = W6 at QR HH ⊢
              go_wp2_with fail
              refine bodyPost_ret (results_Decode _ _ w.heap.size (w.heap.size + 1) atZ6 #[.int .i64 3, .int .i64 s, .string st] rfl rfl rfl rfl HH.out.r QR.out) rfl ?_
              rw [HSN.out]
              exact dec_bad DE.out N0.out HH.out.b
end Go.Proofs.YtohkbcdnlmjcjaaDoor

/-
  ATTRIBUTES: the round trip, plain: what was written, in whatever order, is read again.
-/
namespace Go.Proofs.YtohkbcdnlmjcjaaDoor
open Go.RowKit

set_option maxRecDepth 100000 in
theorem oths_mem {o : Oth} : ∀ {l : List It}, o ∈ othsOf l ↔ It.ot o ∈ l
  | [] => by simp [othsOf]
  | .kn u :: l => by
    simp only [othsOf, List.mem_cons, oths_mem (l := l), reduceCtorEq, false_or]
  | .ot p :: l => by
    simp only [othsOf, List.mem_cons, oths_mem (l := l), It.ot.injEq]
set_option maxRecDepth 100000 in
theorem oths_perm {l k : List It} (h : l.Perm k) : (othsOf l).Perm (othsOf k) := by
  induction h with
  | nil => exact List.Perm.refl _
  | cons x h ih =>
    cases x with
    | kn t => exact ih
    | ot o => exact ih.cons o
  | swap x y l =>
    cases x with
    | kn t =>
      cases y with
      | kn u => exact List.Perm.refl _
      | ot o => exact List.Perm.refl _
    | ot o =>
      cases y with
      | kn u => exact List.Perm.refl _
      | ot p => exact List.Perm.swap ..
  | trans h1 h2 i1 i2 => exact i1.trans i2
set_option maxRecDepth 100000 in
theorem oths_its (a : At) : othsOf (itsOf a) = a.others := by
  unfold itsOf
  have h1 : ∀ (l : List Nat) (k : List It), othsOf (l.map .kn ++ k) = othsOf k := by
    intro l k
    induction l with
    | nil => rfl
    | cons x l ih => exact ih
  have h2 : ∀ l : List Oth, othsOf (l.map .ot) = l := by
    intro l
    induction l with
    | nil => rfl
    | cons x l ih =>
      show x :: othsOf (l.map .ot) = x :: l
      rw [ih]
  rw [h1, h2]
set_option maxRecDepth 100000 in
/-- all attributes' bytes, in whatever order, are read as they. -/
theorem dec_perm {a : At} (hc : checkB a = true) (hr : a.Rng) (hl : (encL a).length ≤ 4096) {its : List It} (hp : its.Perm (itsOf a)) : decP atO [] (its.flatMap (It.bytes a)) = (0, { a with others := othsOf its }) := by
  have h1 := dec_items hc hr its (fun it hi => ⟨its_good hc it (hp.mem_iff.1 hi), enc_each hl it (hp.mem_iff.1 hi)⟩) ((hp.map It.ty).nodup_iff.2 (its_nodup hc)) atO [] (fun _ _ h => by simp at h) []
  rw [List.append_nil] at h1
  rw [h1, decP_nil, fold_all hc hr its fun it => hp.mem_iff]
set_option maxRecDepth 100000 in
theorem dec_enc {a : At} (hc : checkB a = true) (hr : a.Rng) (hl : (encL a).length ≤ 4096) : decP atO [] (encL a) = (0, a) := by
  rw [enc_its, dec_perm hc hr hl (List.Perm.refl _), oths_its]
set_option maxRecDepth 100000 in
/-- others in order are told by their members. -/
theorem oths_sorted {a : At} (hc : checkB a = true) {os : List Oth} (hp : os.Perm a.others) (hs : os.Pairwise (fun x y => x.1 ≤ y.1)) : os = a.others := by
  obtain ⟨-, h2⟩ := oth_range _ _ (check_oth hc)
  refine List.Perm.eq_of_pairwise (le := fun x y => x.1 ≤ y.1) (fun x y hx hy h3 h4 => ?_) hs (h2.imp fun {x y} h => Int.le_of_lt h) hp
  have hx' := hp.mem_iff.1 hx
  obtain ⟨i, hi⟩ := List.mem_iff_getElem?.1 hx'
  obtain ⟨j, hj⟩ := List.mem_iff_getElem?.1 hy
  have key : ∀ {i j : Nat} {x y : Oth}, a.others[i]? = some x → a.others[j]? = some y → i < j → x.1 < y.1 := by
    intro i j x y hi hj hij
    obtain ⟨hi1, rfl⟩ := List.getElem?_eq_some_iff.1 hi
    obtain ⟨hj1, rfl⟩ := List.getElem?_eq_some_iff.1 hj
    exact List.pairwise_iff_getElem.1 h2 i j hi1 hj1 hij
  rcases Nat.lt_trichotomy i j with h | h | h
  · have := key hi hj h; omega
  · subst h
    rw [hi] at hj
    exact Option.some.inj hj
  · have := key hj hi h; omega
set_option maxRecDepth 100000 in
/-- Decode, of what was written: nothing is wrong, and they are they. -/
theorem dec_post {a : At} (hc : checkB a = true) (hr : a.Rng) (hl : (encL a).length ≤ 4096) {its : List It} (hp : its.Perm (itsOf a)) {w w' : World} {e : Ending} (h : DecPost (its.flatMap (It.bytes a)) w e w') :
    ∃ vp vc vo, e = .returned (.tuple #[.agg (atV a vp vc vo).toArray, .agg fltZ]) ∧ AtL w' a vp vc vo ∧ Below w.heap.size w w' := by
  obtain ⟨hb, h⟩ := h
  rw [dec_perm hc hr hl hp, if_pos rfl] at h
  obtain ⟨os, vp, vc, vo, h1, h2, h3, -, rfl⟩ := h
  have hos : os = a.others := oths_sorted hc (h1.trans (by rw [← oths_its a]; exact oths_perm hp)) h2
  subst hos
  exact ⟨vp, vc, vo, rfl, h3.self, hb⟩
set_option maxRecDepth 100000 in
/-- Decode, of what was written: nothing is wrong, and they are they. -/
theorem dec_postF {a : At} (hc : checkB a = true) (hr : a.Rng) (hl : (encL a).length ≤ 4096) {its : List It} (hp : its.Perm (itsOf a)) {w w' : World} {e : Ending} (h : DecPost (its.flatMap (It.bytes a)) w e w') :
    ∃ vp vc vo, e = .returned (.tuple #[.agg (atV a vp vc vo).toArray, .agg fltZ]) ∧ Fresh w.heap.size w' (fun W => AtL W a vp vc vo) ∧ Below w.heap.size w w' := by
  obtain ⟨hb, h⟩ := h
  rw [dec_perm hc hr hl hp, if_pos rfl] at h
  obtain ⟨os, vp, vc, vo, h1, h2, h3, -, rfl⟩ := h
  have hos : os = a.others := oths_sorted hc (h1.trans (by rw [← oths_its a]; exact oths_perm hp)) h2
  subst hos
  exact ⟨vp, vc, vo, rfl, h3, hb⟩
end Go.Proofs.YtohkbcdnlmjcjaaDoor
