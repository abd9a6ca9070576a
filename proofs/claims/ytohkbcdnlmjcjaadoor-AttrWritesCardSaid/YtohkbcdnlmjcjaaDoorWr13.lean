/- Texts of one proof, one behind another. -/
import Derived.Test.YtohkbcdnlmjcjaaDoorWr12
import Derived.Laws.Closers25b
/-
  ATTRIBUTES: set, of the aggregator and of communities.
-/
namespace Go.Proofs.YtohkbcdnlmjcjaaDoor
open Go.RowKit

set_option maxRecDepth 100000 in
theorem set7_rng {a : At} (h : a.Rng) {r : Nat} (hr : r < 4294967296) : ({ a with aggrAs := (r : Int) } : At).Rng := by
  unfold At.Rng I64r at *
  exact ⟨h.1, h.2.1, h.2.2.1, h.2.2.2.1, h.2.2.2.2.1, by simp only; omega, h.2.2.2.2.2.2⟩
set_option maxRecDepth 100000 in
theorem set7_rng2 {a : At} (h : a.Rng) {r : Nat} (hr : r < 4294967296) : ({ a with aggrId := r } : At).Rng := by
  unfold At.Rng at *
  exact ⟨h.1, h.2.1, h.2.2.1, h.2.2.2.1, h.2.2.2.2.1, h.2.2.2.2.2.1, hr⟩
set_option maxHeartbeats 3200000 in
set_option maxRecDepth 100000 in
theorem set_7 (lo ab : Nat) (P : Nat → Prop) (a : At) (vp vc vo v : Value) (us : List OthV) (xs : List Nat) (w : World) (h : DA w lo ab P a vp vc vo us) (hB : BytesAt w v xs) (h6 : xs.length = 6) :
    Calls Tryd.prog 63 #[.pointer (some ⟨ab, 0, none⟩), .int .i64 7, v] w (SetPost ab lo P (setP a 7 xs) vo us w) := by
  have H := Lib.hid h
  have HB := Lib.hid hB
  have BL := bytes_lt hB
  obtain ⟨sa, cap, rfl, hlc, hcm, -⟩ := hB
  unfold maxLen at hcm
  obtain ⟨s1, c1, hs1, -, -, b1⟩ := slat_part HB.out (l := 0) (k := 2) (by omega) (by omega)
  obtain ⟨s2, c2, hs2, -, -, b2⟩ := slat_part HB.out (l := 2) (k := xs.length) (by omega) (Nat.le_refl _)
  rw [List.take_length] at hs2 b2
  simp only [List.drop_zero] at hs1 b1
  have L1 : (xs.take 2).length = 2 := by rw [List.length_take]; omega
  have L2 : (xs.drop 2).length = 4 := by rw [List.length_drop]; omega
  have RL1 := readN_four (xs := xs.take 2) (fun x hx => BL x (List.mem_of_mem_take hx)) (by omega)
  have RL2 := readN_four (xs := xs.drop 2) (fun x hx => BL x (List.mem_of_mem_drop hx)) (by omega)
  have S1 := Lib.hid (fun W => (run_subh (P := Tryd.prog) (ty := 38) Tryd.underlying38 sizeByte sa xs.length cap 2 (by omega) .i64 W).trans (by rw [hs1]))
  have S2 := Lib.hid (fun W => (run_subl (P := Tryd.prog) (ty := 38) Tryd.underlying38 sizeByte sa xs.length cap 2 (by omega) .i64 W).trans (by rw [hs2]))
  have R1 := Lib.hid (at_read _ _ w.drew (BytesAt.below b1 (Below.refl _ _).drew) (by omega))
  have R2 := Lib.hid (at_read _ _ w.drew (BytesAt.below b2 (Below.refl _ _).drew) (by omega))
  have E : Hid (setP a 7 xs = (true, { a with aggrAs := readN (xs.take 2), aggrId := readN (xs.drop 2) })) := Lib.hid (by simp [setP])
  generalize readN (xs.take 2) = r1 at R1 RL1 E
  generalize readN (xs.drop 2) = r2 at R2 RL2 E
  generalize (xs.take 2).length = n1 at S1 R1
  generalize (xs.drop 2).length = n2 at S2 R2
  have w2 : IntKind.u32.wrap (r2 : Int) = (r2 : Int) := IntWalk.u32_in _ (by omega)
  have hA : Hid (DA w.drew lo ab P a vp vc vo us) := Lib.hid (h.below (Below.refl _ _).drew)
  have f6 := row_free hA.out.row 6
  have f7 := row_free hA.out.row 7
  have y6 : w.drew.cell? ⟨ab, 6, none⟩ = some (.int .i64 a.aggrAs) := hA.out.at 6 _ rfl
  have y7 : w.drew.cell? ⟨ab, 7, none⟩ = some (.int .u32 a.aggrId) := hA.out.at 7 _ rfl
  have hKD : Kept (fun k => k = ab) w w.drew := (Kept.refl _ _).drew
  have HX := Lib.hid RL1
  have HY := Lib.hid RL2
  clear b1 b2 hs1 hs2 L1 L2 BL HB h RL1 RL2 h6
  go_enter Tryd.func63, Tryd.ntmps63
  go_upto_region 15 with (fail)
  refine wp_region_held_drew (S := fun w' => True) (by kernel_rfl) ?_ (fun hHeld => ?_)
  · trivial
  generalize World.drew w = wd at R1 R2 hA f6 f7 y6 y7 hKD hHeld ⊢
  refine rgy (i := 0) (v := ?_) (atN rfl) (by kernel_rfl) (fun _ _ _ h => h) ?_ ?_ hHeld ?_; rotate_left 1; (· rfl); (· intro w' hSw; (try clear hHeld); go_simp; try with_reducible rfl)
  try simp only [Act.put, List.setIfInBounds_toArray, List.set_cons_zero, List.set_cons_succ]
  refine rgy (i := 1) (v := ?_) (atN rfl) (by kernel_rfl) (fun _ _ _ h => h) ?_ ?_ hHeld ?_; rotate_left 1; (· rfl); (· intro w' hSw; (try clear hHeld); go_simp; try with_reducible rfl)
  try simp only [Act.put, List.setIfInBounds_toArray, List.set_cons_zero, List.set_cons_succ]
  refine rgy (i := 2) (v := ?_) (atN rfl) (by kernel_rfl) (fun _ _ _ h => h) ?_ ?_ hHeld ?_; rotate_left 1; (· rfl); (· intro w' hSw; (try clear hHeld); go_simp; try with_reducible rfl)
  try simp only [Act.put, List.setIfInBounds_toArray, List.set_cons_zero, List.set_cons_succ]
  refine rgy (i := 3) (v := ?_) (atN rfl) (by kernel_rfl) (fun _ _ _ h => h) ?_ ?_ hHeld ?_; rotate_left 1; (· rfl); (· intro w' hSw; refine exec_slc (V := .slice s1 n1 c1) 38 (.tmp 55) none (some (.const (.int .i64 2))) ?_ (S1.out _) ?_ ?_ ?_ <;> rfl)
  try simp only [Act.put, List.setIfInBounds_toArray, List.set_cons_zero, List.set_cons_succ]
  refine rgy (i := 5) (v := ?_) (atN rfl) (by kernel_rfl) (fun _ _ _ h => h) ?_ ?_ hHeld ?_; rotate_left 1; (· rfl); (· intro w' hSw; (try clear hHeld); go_simp; try with_reducible rfl)
  try simp only [Act.put, List.setIfInBounds_toArray, List.set_cons_zero, List.set_cons_succ]
  refine rgy (i := 6) (v := ?_) (atN rfl) (by kernel_rfl) (fun _ _ _ h => h) ?_ ?_ hHeld ?_; rotate_left 1; (· rfl); (· intro w' hSw; refine exec_slc (V := .slice s2 n2 c2) 38 (.tmp 58) (some (.const (.int .i64 2))) none ?_ (S2.out _) ?_ ?_ ?_ <;> rfl)
  try simp only [Act.put, List.setIfInBounds_toArray, List.set_cons_zero, List.set_cons_succ]
  refine rg_call (i := 4) (atN rfl) (by kernel_rfl) ?_ (fun K hK => ?_); (· rfl); (try clear hb); go_simp; (refine R1.out.mono ?_; rintro e w1 ⟨rfl, rfl⟩); go_wp2_with fail; refine hK.out _ _ ?_ (fun hHeld => ?_); (· trivial); clear hK K
  try simp only [Act.put, List.setIfInBounds_toArray, List.set_cons_zero, List.set_cons_succ]
  refine rg_call (i := 7) (atN rfl) (by kernel_rfl) ?_ (fun K hK => ?_); (· rfl); (try clear hb); go_simp; (refine R2.out.mono ?_; rintro e w1 ⟨rfl, rfl⟩); go_wp2_with fail; refine hK.out _ _ ?_ (fun hHeld => ?_); (· trivial); clear hK K
  try simp only [Act.put, List.setIfInBounds_toArray, List.set_cons_zero, List.set_cons_succ]
  refine rgy (i := 8) (v := ?_) (atN rfl) (by kernel_rfl) (fun _ _ _ h => h) ?_ ?_ hHeld ?_; rotate_left 1; (· rfl); (· intro w' hSw; (try clear hHeld); go_simp; try with_reducible rfl)
  try simp only [Act.put, List.setIfInBounds_toArray, List.set_cons_zero, List.set_cons_succ]
  refine rg_call (i := 9) (atN rfl) (by kernel_rfl) ?_ (fun K hK => ?_); (· rfl); (try clear hb); go_simp; go_wp2_with fail; refine hK.out _ _ ?_ (fun hHeld => ?_); (· trivial); clear hK K
  try simp only [Act.put, List.setIfInBounds_toArray, List.set_cons_zero, List.set_cons_succ]
  refine rgy (i := 10) (v := ?_) (atN rfl) (by kernel_rfl) (fun _ _ _ h => h) ?_ ?_ hHeld ?_; rotate_left 1; (· rfl); (· intro w' hSw; (try clear hHeld); go_simp; try with_reducible rfl)
  try simp only [Act.put, List.setIfInBounds_toArray, List.set_cons_zero, List.set_cons_succ]
  refine rg_call (i := 11) (atN rfl) (by kernel_rfl) ?_ (fun K hK => ?_); (· rfl); (try clear hb); go_simp; go_wp2_with fail; obtain ⟨we, hwe⟩ : ∃ we, we = wd.setCell ⟨ab, 6, none⟩ (.int .i64 r1) := ⟨_, rfl⟩; rw [← hwe]; have D1 : Hid (DA we lo ab P { a with aggrAs := r1 } vp vc vo us) := Lib.hid (by rw [hwe]; exact hA.out.cell 6 _ (by simp [atV]) rfl rfl rfl (set7_rng hA.out.rng HX.out)); have K1 : Hid (Kept (fun k => k = ab) wd we) := Lib.hid (by rw [hwe]; exact Kept.setCell _ _ rfl); clear hwe; have g7 := row_free D1.out.row 7; have z7 : we.cell? ⟨ab, 7, none⟩ = some (.int .u32 a.aggrId) := D1.out.at 7 _ rfl; refine hK.out _ _ ?_ (fun hHeld => ?_); (· trivial); clear hK K
  try simp only [Act.put]
  refine rg_call (i := 12) (atN rfl) (by kernel_rfl) ?_ (fun K hK => ?_); (· rfl); (try clear hb); go_simp; go_wp2_with fail; refine hK.out _ _ ?_ (fun hHeld => ?_); (· trivial); clear hK K
  try simp only [Act.put, List.setIfInBounds_toArray, List.set_cons_zero, List.set_cons_succ]
  refine rgy (i := 13) (v := ?_) (atN rfl) (by kernel_rfl) (fun _ _ _ h => h) ?_ ?_ hHeld ?_; rotate_left 1; (· rfl); (· intro w' hSw; (try clear hHeld); go_simp; try with_reducible rfl)
  try simp only [Act.put, List.setIfInBounds_toArray, List.set_cons_zero, List.set_cons_succ]
  refine rg_call (i := 14) (atN rfl) (by kernel_rfl) ?_ (fun K hK => ?_); (· rfl); (try clear hb); go_simp; go_wp2_with fail; refine hK.out _ _ ?_ (fun hHeld => ?_); (· trivial); clear hK K
  try simp only [Act.put]
  refine wpAnyH_done (by kernel_rfl) ?_ _
  have D2 := Lib.hid (D1.out.cell (a' := { a with aggrAs := r1, aggrId := r2 }) 7 (.int .u32 r2) (by simp [atV]) rfl rfl rfl (set7_rng2 D1.out.rng HY.out))
  have K2 := Lib.hid (hKD.trans (K1.out.trans (Kept.setCell (F := fun k => k = ab) ⟨ab, 7, none⟩ (.int .u32 r2) rfl)))
  clear K1 D1 hKD hHeld g7 z7 f6 f7 y6 y7 R1 R2
  go_wp2_with fail
  go_ret
  exact ⟨by rw [E.out]; rfl, K2.out, P, vp, vc, by rw [E.out]; exact D2.out, fun k hk => .inl hk⟩
/-- the numbers of four bytes each. -/
def quN (xs : List Nat) (n : Nat) : List Int := (List.range n).map fun j => (readN ((xs.take (4 * j + 4)).drop (4 * j)) : Int)
set_option maxRecDepth 100000 in
theorem quN_succ (xs : List Nat) (n : Nat) : quN xs (n + 1) = quN xs n ++ [(readN ((xs.take (4 * n + 4)).drop (4 * n)) : Int)] := by simp [quN, List.range_succ]
set_option maxRecDepth 100000 in
theorem quN_len (xs : List Nat) (n : Nat) : (quN xs n).length = n := by simp [quN]
set_option maxRecDepth 100000 in
theorem readN_quad {l : List Nat} (h : ∀ x ∈ l, x < 256) (j : Nat) : readN ((l.take (4 * j + 4)).drop (4 * j)) < 4294967296 :=
  readN_four (fun y hy => h y (List.mem_of_mem_take (List.mem_of_mem_drop hy))) (by rw [List.length_drop, List.length_take]; omega)
set_option maxRecDepth 100000 in
theorem quN_rng {l : List Nat} (h : ∀ x ∈ l, x < 256) (n : Nat) : ∀ x ∈ quN l n, 0 ≤ x ∧ x < 4294967296 := by
  intro x hx
  unfold quN at hx
  obtain ⟨j, -, rfl⟩ := List.mem_map.1 hx
  have := readN_quad h j
  omega
set_option maxRecDepth 100000 in
theorem quad_part (xs : List Nat) (j : Nat) : ((xs.drop (4 * j)).take 4) = (xs.take (4 * j + 4)).drop (4 * j) := by
  rw [List.take_drop]
set_option maxRecDepth 100000 in
theorem Kept.over {F G : Nat → Prop} {w W W' : World} (h : Kept F w W) (k : Kept G W W') (hG : ∀ b, G b → w.heap.size ≤ b ∨ F b) : Kept F w W' :=
  ⟨k.os.trans h.os, k.tape.trans h.tape, k.output.trans h.output, Nat.le_trans h.size k.size, fun i hi hf => (k.block i (Nat.lt_of_lt_of_le hi h.size) (fun hg => by rcases hG i hg with h | h; omega; exact hf h)).trans (h.block i hi hf)⟩
set_option maxRecDepth 100000 in
theorem DA.coms2 {W W' : World} {lo ab : Nat} {P : Nat → Prop} {a : At} {vp vc vo v : Value} {us : List OthV} {p : List Int} (h : DA W lo ab P a vp vc vo us) (hk : Kept (fun k => k = ab) W W') (hrow : W'.heap[ab]? = some (.cells (atV a vp v vo).toArray 28 (0, 0)))
    (hf : Fresh W.heap.size W' fun W => IntsAt W v p) (hn : p = [] → v = .slice none 0 0) : DA W' lo ab (fun k => P k ∨ (W.heap.size ≤ k ∧ k < W'.heap.size)) { a with comms := p } vp v vo us := by
  have hab := row_lt h.row
  refine ⟨hrow, own_kept h.oth hk fun g hg e => (h.seo g hg).2 e, ?_, h.osm, ?_, ?_, ?_, h.rng, hn⟩
  · have h1 : On P W' (fun W => PathAt W vp a.path ∧ ∀ x ∈ us, I64r x.1.1 ∧ BytesAt W x.2 x.1.2) := (h.dat.imp fun W h => ⟨h.1, h.2.2⟩).kept hk fun k _ hF e => h.sep (e ▸ hF)
    have h2 : On (fun k => P k ∨ (W.heap.size ≤ k ∧ k < W'.heap.size)) W' (fun W => IntsAt W v p) := hf.wide fun k hk hl => .inr ⟨hk, hl⟩
    exact (h2.and (h1.wide fun k hk _ => .inl hk)).imp fun W h => ⟨h.2.1, h.1, h.2.2⟩
  · rintro (hF | hF)
    · exact h.sep hF
    · omega
  · intro g hg
    refine ⟨?_, (h.seo g hg).2⟩
    rintro (hF | hF)
    · exact (h.seo g hg).1 hF
    · have := own_lt h.oth g hg; omega
  · rintro k (hF | hF)
    · exact Nat.lt_of_lt_of_le (h.plt k hF) hk.size
    · exact hF.2
set_option maxHeartbeats 6400000 in
set_option maxRecDepth 100000 in
theorem set_8 (lo ab : Nat) (P : Nat → Prop) (a : At) (vp vc vo v : Value) (us : List OthV) (xs : List Nat) (w : World) (h : DA w lo ab P a vp vc vo us) (hB : ∀ W, Kept (fun k => k = ab) w W → BytesAt W v xs) (ha : a.comms = []) (h4 : xs.length % 4 = 0) (hx : xs.length ≤ 1048576) :
    Calls Tryd.prog 63 #[.pointer (some ⟨ab, 0, none⟩), .int .i64 8, v] w (SetPost ab lo P (setP a 8 xs) vo us w) := by
  obtain ⟨ti, hji, hy0, hy1, hy2⟩ := info_parts info_intT
  have H := Lib.hid h
  have HB := Lib.hid hB
  have HX := Lib.hid hx
  have M4 := Lib.hid h4
  have BL := Lib.hid (bytes_lt (hB w (Kept.refl _ _)))
  obtain rfl : vc = .slice none 0 0 := h.cnl ha
  have E : Hid (setP a 8 xs = (true, { a with comms := quN xs (xs.length / 4) })) := Lib.hid (by simp [setP, quN])
  have LAB := Lib.hid (row_lt h.row)
  obtain ⟨sa0, cap0, rfl, -⟩ := hB w (Kept.refl _ _)
  have HR := Lib.hid h.row
  clear h hB ha hx h4
  go_enter Tryd.func63, Tryd.ntmps63
  go_wp2_with fail
  go_loopw [2] (fun v2 wr => ∃ (j : Nat) (ys : List Nat) (sa : Option Addr) (cap : Nat) (u : Value), v2 = .slice sa ys.length cap ∧ ys.length + 4 * j = xs.length ∧ Hid (xs.drop (4 * j) = ys) ∧ Hid (∀ W, Kept (fun k => k = ab) w W → BytesAt W (.slice sa ys.length cap) ys) ∧ Hid (wr.heap[ab]? = some (.cells (atV a vp u vo).toArray 28 (0, 0))) ∧ Hid (wr.ownsRow w.heap.size 3 1 u j ((quN xs j).flatMap i64L)) ∧ Hid (Kept (fun k => k = ab) w wr) ∧ Hid (j = 0 → u = .slice none 0 0)) (fun v2 _ => lenOf v2)
  case atStart => exact ⟨0, xs, sa0, cap0, .slice none 0 0, rfl, by omega, Lib.hid rfl, HB, HR, Lib.hid ⟨rfl, .inl ⟨rfl, rfl⟩⟩, Lib.hid (Kept.refl _ _), Lib.hid (fun _ => rfl)⟩
  case round =>
    clear HR HB
    obtain ⟨j, ys, sa, cap, u, rfl, YL, YD, YB, RW, OI, KW, NZ⟩ := hrel
    by_cases h0 : ys.length = 0
    · have JL : Hid (quN xs j = quN xs (xs.length / 4)) := Lib.hid (by congr 1; omega)
      have LJ : Hid ((quN xs (xs.length / 4)).length = j) := Lib.hid (by rw [quN_len]; omega)
      clear YD YB YL
      go_wp2_with fail
      go_ret
      have o := OI.out
      rw [JL.out] at o
      have o2 : wr.ownsRow w.heap.size 3 1 u (quN xs (xs.length / 4)).length ((quN xs (xs.length / 4)).flatMap i64L) := by rw [LJ.out]; exact o
      have D := H.out.coms2 KW.out RW.out (v := u) (p := quN xs (xs.length / 4)) ((own_fresh o2).imp fun W h => own_i64s h fun x hx => by have := quN_rng BL.out _ x hx; unfold I64r; omega) (fun hn => NZ.out (by rw [← LJ.out, hn]; rfl))
      exact ⟨by rw [E.out]; rfl, KW.out, _, vp, u, by rw [E.out]; exact D, fun k (hk : P k ∨ (w.heap.size ≤ k ∧ k < wr.heap.size)) => hk.imp_right fun h => h.1⟩
    · have L4 : 4 ≤ ys.length := by have := M4.out; omega
      have CB : ys.length ≤ cap := by obtain ⟨_, _, e, h, -⟩ := YB.out wr KW.out; injection e with _ _ e; omega
      obtain ⟨pt, hpt⟩ : ∃ pt, (xs.take (4 * j + 4)).drop (4 * j) = pt := ⟨_, rfl⟩
      have PY : (ys.take 4).drop 0 = pt := by rw [List.drop_zero, ← YD.out, quad_part, hpt]
      have PS := quN_succ xs j
      have RB := readN_quad BL.out j
      rw [hpt] at PS RB
      have PL : pt.length = 4 := by rw [← PY, List.drop_zero, List.length_take]; omega
      have BP := Lib.hid (fun W (hW : Kept (fun k => k = ab) w W) => (slat_part' (YB.out W hW) (l := 0) (k := 4) (by omega) (by omega)))
      rw [PY] at BP
      have RS1 := Lib.hid (fun W => run_subh (P := Tryd.prog) (ty := 38) Tryd.underlying38 sizeByte sa ys.length cap 4 (by omega) .i64 W)
      have RS2 := Lib.hid (fun W => run_subl (P := Tryd.prog) (ty := 38) Tryd.underlying38 sizeByte sa ys.length cap 4 L4 .i64 W)
      obtain ⟨zs, hzs⟩ : ∃ zs, ys.drop 4 = zs := ⟨_, rfl⟩
      have ZL : zs.length = ys.length - 4 := by rw [← hzs, List.length_drop]
      have BZ : Hid (∀ W, Kept (fun k => k = ab) w W → BytesAt W (.slice (sub1 sa 4 cap) zs.length (cap - 4)) zs) := Lib.hid (fun W hW => by
        have := slat_part' (YB.out W hW) (l := 4) (k := ys.length) L4 (Nat.le_refl _)
        rw [List.take_length, hzs] at this
        rw [ZL]
        exact this)
      have DZ : Hid (xs.drop (4 * (j + 1)) = zs) := Lib.hid (by rw [← hzs, ← YD.out, List.drop_drop, Nat.mul_succ])
      rw [← ZL] at RS2
      have RD := Lib.hid (at_read _ pt wr.drew (BP.out _ KW.out.drew) (by omega))
      obtain ⟨r, hr⟩ : ∃ r, readN pt = r := ⟨_, rfl⟩
      rw [hr] at RD RB PS
      have PSH := Lib.hid PS
      have R5 := Lib.hid RB
      have NE := Lib.hid (fun g (h : u.ownBlock = some g) => (⟨own_form_le OI.out g h, own_lt OI.out g h⟩ : w.heap.size ≤ g ∧ g < wr.heap.size))
      have y8 : (World.drew wr).cell? ⟨ab, 8, none⟩ = some u := row_cell RW.out 8
      have hBR : Below wr.heap.size wr (World.drew wr) := (Below.refl _ _).drew
      have LJ : j ≤ 1048576 := by have := HX.out; omega
      have ZH := Lib.hid ZL
      have LY := Lib.hid YL
      have L4H := Lib.hid L4
      have m0 : (ys.length : Int) > 0 := by omega
      have d0 : decide ((ys.length : Int) > 0) = true := by simp; omega
      clear hpt PY PS RB PL hzs ZL hr YL h0 L4
      go_upto_region 19 with (fail)
      refine wp_region_held_drew (S := fun _ => True) (by kernel_rfl) ?_ (fun hHeld => ?_)
      · trivial
      generalize World.drew wr = wd at y8 hBR RD hHeld ⊢
      refine rgy (i := 0) (v := ?_) (atN rfl) (by kernel_rfl) (fun _ _ _ h => h) ?_ ?_ hHeld ?_; rotate_left 1; (· rfl); (· intro w' hSw; (try clear hHeld); go_simp; try with_reducible rfl)
      try simp only [Act.put, List.setIfInBounds_toArray, List.set_cons_zero, List.set_cons_succ]
      refine rgy (i := 1) (v := ?_) (atN rfl) (by kernel_rfl) (fun _ _ _ h => h) ?_ ?_ hHeld ?_; rotate_left 1; (· rfl); (· intro w' hSw; (try clear hHeld); go_simp; try with_reducible rfl)
      try simp only [Act.put, List.setIfInBounds_toArray, List.set_cons_zero, List.set_cons_succ]
      refine rgy (i := 2) (v := ?_) (atN rfl) (by kernel_rfl) (fun _ _ _ h => h) ?_ ?_ hHeld ?_; rotate_left 1; (· rfl); (· intro w' hSw; (try clear hHeld); go_simp; try with_reducible rfl)
      try simp only [Act.put, List.setIfInBounds_toArray, List.set_cons_zero, List.set_cons_succ]
      refine rgy (i := 3) (v := ?_) (atN rfl) (by kernel_rfl) (fun _ _ _ h => h) ?_ ?_ hHeld ?_; rotate_left 1; (· rfl); (· intro w' hSw; (try clear hHeld); go_simp; try with_reducible rfl)
      try simp only [Act.put, List.setIfInBounds_toArray, List.set_cons_zero, List.set_cons_succ]
      refine rgy (i := 5) (v := ?_) (atN rfl) (by kernel_rfl) (fun _ _ _ h => h) ?_ ?_ hHeld ?_; rotate_left 1; (· rfl); (· intro w' hSw; (try clear hHeld); go_simp; try with_reducible rfl)
      try simp only [Act.put, List.setIfInBounds_toArray, List.set_cons_zero, List.set_cons_succ]
      refine rgy (i := 6) (v := ?_) (atN rfl) (by kernel_rfl) (fun _ _ _ h => h) ?_ ?_ hHeld ?_; rotate_left 1; (· rfl); (· intro w' hSw; refine exec_slc (V := .slice (sub1 sa 0 cap) (4 - 0) (cap - 0)) 38 (.tmp 78) none (some (.const (.int .i64 4))) ?_ (RS1.out _) ?_ ?_ ?_ <;> rfl)
      try simp only [Act.put, List.setIfInBounds_toArray, List.set_cons_zero, List.set_cons_succ]
      refine rg_call2 (i := 4) (j := 7) (atS (atS (atS (atS at0)))) (atS (atS (atS (atS (atS (atS (atS at0))))))) (by kernel_rfl) ?_ ?_ (fun K hK => ?_) (fun K hK => ?_)
      · rfl
      · rfl
      · (try clear hb); go_simp; go_wp2_with fail; refine hK.out _ _ ?_ (fun hHeld => ?_); (· trivial); clear hK K
        try simp only [Act.put, List.setIfInBounds_toArray, List.set_cons_zero, List.set_cons_succ]
        refine rg_call (i := 7) (atN rfl) (by kernel_rfl) ?_ (fun K hK => ?_); (· rfl); (try clear hb); go_simp; (refine RD.out.mono ?_; rintro e w1 ⟨rfl, rfl⟩); go_wp2_with fail; refine hK.out _ _ ?_ (fun hHeld => ?_); (· trivial); clear hK K
        try simp only [Act.put, List.setIfInBounds_toArray, List.set_cons_zero, List.set_cons_succ]
        refine rg_call (i := 8) (atN rfl) (by kernel_rfl) ?_ (fun K hK => ?_); (· rfl); (try clear hb); go_simp; refine int_one_k (r := (r : Int)) (q := K _) ?_; intro w2 hcs hb2; replace y8 := cell_below y8 hb2; have HB2 : Hid (Below wr.heap.size wr w2) := Lib.hid (below_on hBR hb2); refine hK.out _ _ ?_ (fun hHeld => ?_); (· trivial); clear hK K
        try simp only [Act.put, List.setIfInBounds_toArray, List.set_cons_zero, List.set_cons_succ]
        refine rg_call (i := 9) (atN rfl) (by kernel_rfl) ?_ (fun K hK => ?_); (· rfl); (try clear hb); refine wp_append_k (.tmp 77) (.tmp 81) 25 rfl w.heap.size 3 ti _ 1 8 Tryd.underlying25 hji hy0 hy1 hy2 rfl (by decide) u j ((quN xs j).flatMap i64L) rfl (own_below OI.out HB2.out) ⟨wd.heap.size, 0, none⟩ 1 1 [.int .i64 r] rfl rfl hcs one_i (by unfold maxLen; omega) (by omega) (Nat.le_trans KW.out.size HB2.out.size) ?_; intro v7 w7 hown7 hgrow7 hblk7; have QX := (HB2.out.block _ (row_lt RW.out)).trans RW.out; have Q7 := Lib.hid (((kept_grownB hgrow7).block _ (row_lt QX) (fun h => by have := (NE.out _ h).1; have := LAB.out; omega)).trans QX); have y7 : w7.cell? ⟨ab, 8, none⟩ = some u := row_cell Q7.out 8; have f7 := row_free Q7.out 8; have K7 := Lib.hid ((KW.out.trans (Kept.of_below HB2.out)).over (kept_grownB hgrow7) (fun b hb => .inl (NE.out b hb).1)); have O7 : Hid (w7.ownsRow w.heap.size 3 1 v7 (j + 1) ((quN xs (j + 1)).flatMap i64L)) := Lib.hid (by rw [PSH.out, List.flatMap_append]; exact hown7); obtain ⟨s7, c7, hv7, -⟩ := own_form hown7; subst hv7; clear hown7 hgrow7 hblk7 QX; refine hK.out _ _ ?_ (fun hHeld => ?_); (· trivial); clear hK K
        try simp only [Act.put, List.setIfInBounds_toArray, List.set_cons_zero, List.set_cons_succ]
        refine rgy (i := 10) (v := ?_) (atN rfl) (by kernel_rfl) (fun _ _ _ h => h) ?_ ?_ hHeld ?_; rotate_left 1; (· rfl); (· intro w' hSw; (try clear hHeld); go_simp; try with_reducible rfl)
        try simp only [Act.put, List.setIfInBounds_toArray, List.set_cons_zero, List.set_cons_succ]
        refine rgy (i := 11) (v := ?_) (atN rfl) (by kernel_rfl) (fun _ _ _ h => h) ?_ ?_ hHeld ?_; rotate_left 1; (· rfl); (· intro w' hSw; (try clear hHeld); go_simp; try with_reducible rfl)
        try simp only [Act.put, List.setIfInBounds_toArray, List.set_cons_zero, List.set_cons_succ]
        refine rg_call (i := 12) (atN rfl) (by kernel_rfl) ?_ (fun K hK => ?_); (· rfl); (try clear hb); go_simp; go_wp2_with fail; refine hK.out _ _ ?_ (fun hHeld => ?_); (· trivial); clear hK K
        try simp only [Act.put]
        refine wpAnyH_done (by kernel_rfl) ?_ _
        obtain ⟨w8, hw8⟩ : ∃ w8, w8 = w7.setCell ⟨ab, 8, none⟩ (.slice s7 (j + 1) c7) := ⟨_, rfl⟩
        rw [← hw8]
        have Q8 : Hid (w8.heap[ab]? = some (.cells (atV a vp (.slice s7 (j + 1) c7) vo).toArray 28 (0, 0))) := Lib.hid (by rw [hw8]; simpa [atV] using set_same Q7.out 8 (.slice s7 (j + 1) c7))
        have O8 : Hid (w8.ownsRow w.heap.size 3 1 (.slice s7 (j + 1) c7) (j + 1) ((quN xs (j + 1)).flatMap i64L)) := Lib.hid (own_kept (F := fun k => k = ab) O7.out (by rw [hw8]; exact Kept.setCell _ _ rfl) (fun g hg h => by have := own_form_le O7.out g hg; have := LAB.out; omega))
        have K8 : Hid (Kept (fun k => k = ab) w w8) := Lib.hid (K7.out.trans (by rw [hw8]; exact Kept.setCell _ _ rfl))
        clear hw8 hHeld Q7 O7 K7 y7 f7 RW OI KW NE y8 HB2 hcs hb2 hBR RD RS1 BP NZ YB YD
        go_wp2_with ((with_reducible refine halt_at (X := .slice 38 (.tmp 71) (some (.const (.int .i64 4))) none none) ?_ ?_); (· rfl))
        unfold Halt
        refine slc_at rfl 38 (.tmp 71) (some (.const (.int .i64 4))) none rfl (V := .slice (sub1 sa 4 cap) zs.length (cap - 4)) (RS2.out _) rfl rfl rfl ?_
        clear RS2
        go_wp2_with fail
        refine ⟨⟨j + 1, zs, _, _, .slice s7 (j + 1) c7, rfl, by have := ZH.out; have := LY.out; have := L4H.out; omega, DZ, BZ, Q8, O8, K8, Lib.hid (fun h => absurd h (by omega))⟩, ?_⟩
        have := ZH.out
        have := L4H.out
        simp [lenOf]
        omega
      · (try clear hb); go_simp; (refine RD.out.mono ?_; rintro e w1 ⟨rfl, rfl⟩); go_wp2_with fail; refine hK.out _ _ ?_ (fun hHeld => ?_); (· trivial); clear hK K
        try simp only [Act.put, List.setIfInBounds_toArray, List.set_cons_zero, List.set_cons_succ]
        refine rg_call2 (i := 4) (j := 8) (atS (atS (atS (atS at0)))) (atS (atS (atS (atS (atS (atS (atS (atS at0)))))))) (by kernel_rfl) ?_ ?_ (fun K hK => ?_) (fun K hK => ?_)
        · rfl
        · rfl
        · (try clear hb); go_simp; go_wp2_with fail; refine hK.out _ _ ?_ (fun hHeld => ?_); (· trivial); clear hK K
          try simp only [Act.put, List.setIfInBounds_toArray, List.set_cons_zero, List.set_cons_succ]
          refine rg_call (i := 8) (atN rfl) (by kernel_rfl) ?_ (fun K hK => ?_); (· rfl); (try clear hb); go_simp; refine int_one_k (r := (r : Int)) (q := K _) ?_; intro w2 hcs hb2; replace y8 := cell_below y8 hb2; have HB2 : Hid (Below wr.heap.size wr w2) := Lib.hid (below_on hBR hb2); refine hK.out _ _ ?_ (fun hHeld => ?_); (· trivial); clear hK K
          try simp only [Act.put, List.setIfInBounds_toArray, List.set_cons_zero, List.set_cons_succ]
          refine rg_call (i := 9) (atN rfl) (by kernel_rfl) ?_ (fun K hK => ?_); (· rfl); (try clear hb); refine wp_append_k (.tmp 77) (.tmp 81) 25 rfl w.heap.size 3 ti _ 1 8 Tryd.underlying25 hji hy0 hy1 hy2 rfl (by decide) u j ((quN xs j).flatMap i64L) rfl (own_below OI.out HB2.out) ⟨wd.heap.size, 0, none⟩ 1 1 [.int .i64 r] rfl rfl hcs one_i (by unfold maxLen; omega) (by omega) (Nat.le_trans KW.out.size HB2.out.size) ?_; intro v7 w7 hown7 hgrow7 hblk7; have QX := (HB2.out.block _ (row_lt RW.out)).trans RW.out; have Q7 := Lib.hid (((kept_grownB hgrow7).block _ (row_lt QX) (fun h => by have := (NE.out _ h).1; have := LAB.out; omega)).trans QX); have y7 : w7.cell? ⟨ab, 8, none⟩ = some u := row_cell Q7.out 8; have f7 := row_free Q7.out 8; have K7 := Lib.hid ((KW.out.trans (Kept.of_below HB2.out)).over (kept_grownB hgrow7) (fun b hb => .inl (NE.out b hb).1)); have O7 : Hid (w7.ownsRow w.heap.size 3 1 v7 (j + 1) ((quN xs (j + 1)).flatMap i64L)) := Lib.hid (by rw [PSH.out, List.flatMap_append]; exact hown7); obtain ⟨s7, c7, hv7, -⟩ := own_form hown7; subst hv7; clear hown7 hgrow7 hblk7 QX; refine hK.out _ _ ?_ (fun hHeld => ?_); (· trivial); clear hK K
          try simp only [Act.put, List.setIfInBounds_toArray, List.set_cons_zero, List.set_cons_succ]
          refine rgy (i := 10) (v := ?_) (atN rfl) (by kernel_rfl) (fun _ _ _ h => h) ?_ ?_ hHeld ?_; rotate_left 1; (· rfl); (· intro w' hSw; (try clear hHeld); go_simp; try with_reducible rfl)
          try simp only [Act.put, List.setIfInBounds_toArray, List.set_cons_zero, List.set_cons_succ]
          refine rgy (i := 11) (v := ?_) (atN rfl) (by kernel_rfl) (fun _ _ _ h => h) ?_ ?_ hHeld ?_; rotate_left 1; (· rfl); (· intro w' hSw; (try clear hHeld); go_simp; try with_reducible rfl)
          try simp only [Act.put, List.setIfInBounds_toArray, List.set_cons_zero, List.set_cons_succ]
          refine rg_call (i := 12) (atN rfl) (by kernel_rfl) ?_ (fun K hK => ?_); (· rfl); (try clear hb); go_simp; go_wp2_with fail; refine hK.out _ _ ?_ (fun hHeld => ?_); (· trivial); clear hK K
          try simp only [Act.put]
          refine wpAnyH_done (by kernel_rfl) ?_ _
          obtain ⟨w8, hw8⟩ : ∃ w8, w8 = w7.setCell ⟨ab, 8, none⟩ (.slice s7 (j + 1) c7) := ⟨_, rfl⟩
          rw [← hw8]
          have Q8 : Hid (w8.heap[ab]? = some (.cells (atV a vp (.slice s7 (j + 1) c7) vo).toArray 28 (0, 0))) := Lib.hid (by rw [hw8]; simpa [atV] using set_same Q7.out 8 (.slice s7 (j + 1) c7))
          have O8 : Hid (w8.ownsRow w.heap.size 3 1 (.slice s7 (j + 1) c7) (j + 1) ((quN xs (j + 1)).flatMap i64L)) := Lib.hid (own_kept (F := fun k => k = ab) O7.out (by rw [hw8]; exact Kept.setCell _ _ rfl) (fun g hg h => by have := own_form_le O7.out g hg; have := LAB.out; omega))
          have K8 : Hid (Kept (fun k => k = ab) w w8) := Lib.hid (K7.out.trans (by rw [hw8]; exact Kept.setCell _ _ rfl))
          clear hw8 hHeld Q7 O7 K7 y7 f7 RW OI KW NE y8 HB2 hcs hb2 hBR RD RS1 BP NZ YB YD
          go_wp2_with ((with_reducible refine halt_at (X := .slice 38 (.tmp 71) (some (.const (.int .i64 4))) none none) ?_ ?_); (· rfl))
          unfold Halt
          refine slc_at rfl 38 (.tmp 71) (some (.const (.int .i64 4))) none rfl (V := .slice (sub1 sa 4 cap) zs.length (cap - 4)) (RS2.out _) rfl rfl rfl ?_
          clear RS2
          go_wp2_with fail
          refine ⟨⟨j + 1, zs, _, _, .slice s7 (j + 1) c7, rfl, by have := ZH.out; have := LY.out; have := L4H.out; omega, DZ, BZ, Q8, O8, K8, Lib.hid (fun h => absurd h (by omega))⟩, ?_⟩
          have := ZH.out
          have := L4H.out
          simp [lenOf]
          omega
        · (try clear hb); go_simp; refine int_one_k (r := (r : Int)) (q := K _) ?_; intro w2 hcs hb2; replace y8 := cell_below y8 hb2; have HB2 : Hid (Below wr.heap.size wr w2) := Lib.hid (below_on hBR hb2); refine hK.out _ _ ?_ (fun hHeld => ?_); (· trivial); clear hK K
          try simp only [Act.put, List.setIfInBounds_toArray, List.set_cons_zero, List.set_cons_succ]
          refine rg_call (i := 4) (atN rfl) (by kernel_rfl) ?_ (fun K hK => ?_); (· rfl); (try clear hb); go_simp; go_wp2_with fail; refine hK.out _ _ ?_ (fun hHeld => ?_); (· trivial); clear hK K
          try simp only [Act.put, List.setIfInBounds_toArray, List.set_cons_zero, List.set_cons_succ]
          refine rg_call (i := 9) (atN rfl) (by kernel_rfl) ?_ (fun K hK => ?_); (· rfl); (try clear hb); refine wp_append_k (.tmp 77) (.tmp 81) 25 rfl w.heap.size 3 ti _ 1 8 Tryd.underlying25 hji hy0 hy1 hy2 rfl (by decide) u j ((quN xs j).flatMap i64L) rfl (own_below OI.out HB2.out) ⟨wd.heap.size, 0, none⟩ 1 1 [.int .i64 r] rfl rfl hcs one_i (by unfold maxLen; omega) (by omega) (Nat.le_trans KW.out.size HB2.out.size) ?_; intro v7 w7 hown7 hgrow7 hblk7; have QX := (HB2.out.block _ (row_lt RW.out)).trans RW.out; have Q7 := Lib.hid (((kept_grownB hgrow7).block _ (row_lt QX) (fun h => by have := (NE.out _ h).1; have := LAB.out; omega)).trans QX); have y7 : w7.cell? ⟨ab, 8, none⟩ = some u := row_cell Q7.out 8; have f7 := row_free Q7.out 8; have K7 := Lib.hid ((KW.out.trans (Kept.of_below HB2.out)).over (kept_grownB hgrow7) (fun b hb => .inl (NE.out b hb).1)); have O7 : Hid (w7.ownsRow w.heap.size 3 1 v7 (j + 1) ((quN xs (j + 1)).flatMap i64L)) := Lib.hid (by rw [PSH.out, List.flatMap_append]; exact hown7); obtain ⟨s7, c7, hv7, -⟩ := own_form hown7; subst hv7; clear hown7 hgrow7 hblk7 QX; refine hK.out _ _ ?_ (fun hHeld => ?_); (· trivial); clear hK K
          try simp only [Act.put, List.setIfInBounds_toArray, List.set_cons_zero, List.set_cons_succ]
          refine rgy (i := 10) (v := ?_) (atN rfl) (by kernel_rfl) (fun _ _ _ h => h) ?_ ?_ hHeld ?_; rotate_left 1; (· rfl); (· intro w' hSw; (try clear hHeld); go_simp; try with_reducible rfl)
          try simp only [Act.put, List.setIfInBounds_toArray, List.set_cons_zero, List.set_cons_succ]
          refine rgy (i := 11) (v := ?_) (atN rfl) (by kernel_rfl) (fun _ _ _ h => h) ?_ ?_ hHeld ?_; rotate_left 1; (· rfl); (· intro w' hSw; (try clear hHeld); go_simp; try with_reducible rfl)
          try simp only [Act.put, List.setIfInBounds_toArray, List.set_cons_zero, List.set_cons_succ]
          refine rg_call (i := 12) (atN rfl) (by kernel_rfl) ?_ (fun K hK => ?_); (· rfl); (try clear hb); go_simp; go_wp2_with fail; refine hK.out _ _ ?_ (fun hHeld => ?_); (· trivial); clear hK K
          try simp only [Act.put]
          refine wpAnyH_done (by kernel_rfl) ?_ _
          obtain ⟨w8, hw8⟩ : ∃ w8, w8 = w7.setCell ⟨ab, 8, none⟩ (.slice s7 (j + 1) c7) := ⟨_, rfl⟩
          rw [← hw8]
          have Q8 : Hid (w8.heap[ab]? = some (.cells (atV a vp (.slice s7 (j + 1) c7) vo).toArray 28 (0, 0))) := Lib.hid (by rw [hw8]; simpa [atV] using set_same Q7.out 8 (.slice s7 (j + 1) c7))
          have O8 : Hid (w8.ownsRow w.heap.size 3 1 (.slice s7 (j + 1) c7) (j + 1) ((quN xs (j + 1)).flatMap i64L)) := Lib.hid (own_kept (F := fun k => k = ab) O7.out (by rw [hw8]; exact Kept.setCell _ _ rfl) (fun g hg h => by have := own_form_le O7.out g hg; have := LAB.out; omega))
          have K8 : Hid (Kept (fun k => k = ab) w w8) := Lib.hid (K7.out.trans (by rw [hw8]; exact Kept.setCell _ _ rfl))
          clear hw8 hHeld Q7 O7 K7 y7 f7 RW OI KW NE y8 HB2 hcs hb2 hBR RD RS1 BP NZ YB YD
          go_wp2_with ((with_reducible refine halt_at (X := .slice 38 (.tmp 71) (some (.const (.int .i64 4))) none none) ?_ ?_); (· rfl))
          unfold Halt
          refine slc_at rfl 38 (.tmp 71) (some (.const (.int .i64 4))) none rfl (V := .slice (sub1 sa 4 cap) zs.length (cap - 4)) (RS2.out _) rfl rfl rfl ?_
          clear RS2
          go_wp2_with fail
          refine ⟨⟨j + 1, zs, _, _, .slice s7 (j + 1) c7, rfl, by have := ZH.out; have := LY.out; have := L4H.out; omega, DZ, BZ, Q8, O8, K8, Lib.hid (fun h => absurd h (by omega))⟩, ?_⟩
          have := ZH.out
          have := L4H.out
          simp [lenOf]
          omega
end Go.Proofs.YtohkbcdnlmjcjaaDoor

/-
  ATTRIBUTES: what take does, plain; lemmas on it.
-/
namespace Go.Proofs.YtohkbcdnlmjcjaaDoor
open Go.RowKit

set_option maxRecDepth 100000 in
theorem sz_fault : (Tryd.prog.info? 54).map (·.size) = some 3 := by kernel_rfl
def flgBad (hd t : Nat) : Bool := (bits .and .i64 (hd : Int) 192 != flgL.getD t 0) || ((bits .and .u8 (hd : Int) 32 != 0) && (bits .and .i64 (hd : Int) 192 != 192))
def szBad (t n : Nat) : Bool := (decide (sizL.getD t 0 ≥ 0) && ((n : Int) != sizL.getD t 0)) || (t == 8 && n % 4 != 0)
/-- an attribute that is known, taken: what is wrong with it, 0: nothing; what there is then. -/
def takeP (a : At) (hd t : Nat) (xs : List Nat) : Nat × At :=
  if flgBad hd t then (4, a) else if szBad t xs.length then (5, a) else if t = 8 ∧ xs.length / 4 > 256 then (9, a)
  else if (setP a t xs).1 = false then (11, a)
  else if t = 1 ∧ goodB (setP a t xs).2 1 = false then (6, a) else if t = 3 ∧ goodB (setP a t xs).2 3 = false then (8, a)
  else (0, { (setP a t xs).2 with has := bits .or .i64 (setP a t xs).2.has (2 ^ t) })
def TkPost (ab lo : Nat) (P : Nat → Prop) (r : Nat × At) (vo : Value) (us : List OthV) (w : World) (e : Ending) (w' : World) : Prop :=
  Kept (fun k => k = ab) w w' ∧ (if r.1 = 0 then e = .returned (.agg fltZ) ∧ ∃ P' vp' vc', DA w' lo ab P' r.2 vp' vc' vo us ∧ ∀ k, P' k → P k ∨ w.heap.size ≤ k else ∃ st, e = .returned (.agg #[.int .i64 3, .int .i64 r.1, .string st]))
set_option maxRecDepth 100000 in
theorem tk_bad {ab lo : Nat} {P : Nat → Prop} {r : Nat × At} {vo : Value} {us : List OthV} {w w' : World} {c : Nat} {st : ByteArray} {e : Ending} (he : e = .returned (.agg #[.int .i64 3, .int .i64 c, .string st])) (hr : r.1 = c) (hc : c ≠ 0) (hk : Kept (fun k => k = ab) w w') : TkPost ab lo P r vo us w e w' := by
  refine ⟨hk, ?_⟩
  rw [if_neg (by rw [hr]; exact hc), hr]
  exact ⟨st, he⟩
set_option maxRecDepth 100000 in
/-- the bytes as a string. -/
theorem conv_at {W : World} {v : Value} {xs : List Nat} (h : BytesAt W v xs) (h0 : 0 < xs.length) : ∃ st, (convert 38 9 v).run Tryd.prog W = .ok (.string st) W := by
  obtain ⟨sa, cap, rfl, -, -, hV⟩ := h
  obtain ⟨b, off, rfl, hP⟩ := hV h0
  refine ⟨_, run_convert_bytes_arg (P := Tryd.prog) W 38 5 Tryd.underlying38 Tryd.underlying5 b off xs.length cap (xs.map Int.ofNat) (by simp) (fun i hi => ?_) 9 Tryd.underlying9⟩
  obtain ⟨cs, -, ⟨rfl, -⟩, hc⟩ := hP i xs[i] (List.getElem?_eq_getElem hi)
  have := hc 0 _ rfl
  rw [Nat.mul_one, Nat.add_zero] at this
  rw [this]
  simp [List.getD, hi]
set_option maxRecDepth 100000 in
theorem kept_box {F : Nat → Prop} {w W : World} (h : Kept F w W) (C : Array Value) : Kept F w (W.setRow w.heap.size C) := by
  refine ⟨h.os, h.tape, h.output, Nat.le_trans h.size (by simp [World.setRow]), fun k hk hf => ?_⟩
  rw [setRow_other _ _ _ _ (by omega)]
  exact h.block k hk hf
set_option maxRecDepth 100000 in
theorem byte_cells {W : World} {v : Value} {xs : List Nat} (h : BytesAt W v xs) {i x : Nat} (hx : xs[i]? = some x) : ∃ b off cap, v = .slice (some ⟨b, off, none⟩) xs.length cap ∧ W.cell? ⟨b, off + i, none⟩ = some (.int .u8 x) ∧ x < 256 := by
  obtain ⟨sa, cap, rfl, -, -, hV⟩ := h
  obtain ⟨b, off, rfl, hP⟩ := hV (by have := (List.getElem?_eq_some_iff.1 hx).1; omega)
  obtain ⟨cs, -, ⟨rfl, h2⟩, hc⟩ := hP i x hx
  have := hc 0 _ rfl
  rw [Nat.mul_one, Nat.add_zero] at this
  exact ⟨b, off, cap, rfl, this, h2⟩
set_option maxRecDepth 100000 in
theorem has_rng {a : At} (h : a.Rng) {x : Int} : ({ a with has := bits .or .i64 a.has x } : At).Rng := by
  unfold At.Rng at *
  exact ⟨bits_within .or .i64 a.has x, h.2⟩
set_option maxRecDepth 100000 in
theorem DA.atl {W : World} {lo ab : Nat} {P : Nat → Prop} {a : At} {vp vc vo : Value} {us : List OthV} (h : DA W lo ab P a vp vc vo us) : AtL W a vp vc vo := by
  obtain ⟨h1, h2, h3⟩ := h.dat.self
  refine ⟨h1, h2, ?_⟩
  have e := h.osm
  obtain ⟨sa, cap, rfl, l1, l2, l3⟩ := own_slat (C := otC) (fun _ => rfl) h.oth
  have el : us.length = a.others.length := by rw [← e, List.length_map]
  refine ⟨sa, cap, by rw [el], by omega, l2, fun h0 => ?_⟩
  obtain ⟨b, off, rfl, hP⟩ := l3 (by omega)
  refine ⟨b, off, rfl, fun i o ho => ?_⟩
  rw [← e, List.getElem?_map] at ho
  obtain ⟨x, hx, rfl⟩ := Option.map_eq_some_iff.1 ho
  obtain ⟨cs, c1, rfl, c3⟩ := hP i x hx
  obtain ⟨o1, o2⟩ := h3 x (List.mem_of_getElem? hx)
  exact ⟨_, c1, ⟨x.2, rfl, o1, o2⟩, c3⟩
set_option maxRecDepth 100000 in
/-- a row beside all that is held is stored. -/
theorem DA.box {W : World} {lo ab : Nat} {P : Nat → Prop} {a : At} {vp vc vo : Value} {us : List OthV} {g : Nat} {C : Array Value} (h : DA W lo ab P a vp vc vo us) (hg : ab < g) (hP : ¬ P g) (ho : ∀ k, vo.ownBlock = some k → k ≠ g) : DA (W.setRow g C) lo ab P a vp vc vo us :=
  h.kept (G := fun k => k = g) (kept_setRow _ _ rfl) (by omega) (fun k hk e => hP (e ▸ hk)) (fun k hk e => ho k hk e)
end Go.Proofs.YtohkbcdnlmjcjaaDoor
