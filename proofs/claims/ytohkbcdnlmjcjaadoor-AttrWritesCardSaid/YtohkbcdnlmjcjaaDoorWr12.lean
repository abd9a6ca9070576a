/- Texts of one proof, one behind another. -/
import Derived.Test.YtohkbcdnlmjcjaaDoorWr11
/-
  ATTRIBUTES: what lies in memory while they are read; set, of one number.
-/
namespace Go.Proofs.YtohkbcdnlmjcjaaDoor
open Go.RowKit

abbrev OthV := Oth × Value
def otC (x : OthV) : List Value := [.int .i64 x.1.1, x.2]
/-- attributes under way: their row, the others' row, and the blocks P that hold the rest. -/
structure DA (W : World) (lo ab : Nat) (P : Nat → Prop) (a : At) (vp vc vo : Value) (us : List OthV) : Prop where
  row : W.heap[ab]? = some (.cells (atV a vp vc vo).toArray 28 (0, 0))
  oth : W.ownsRow lo 61 2 vo us.length (us.flatMap otC)
  dat : On P W fun W => PathAt W vp a.path ∧ IntsAt W vc a.comms ∧ ∀ x ∈ us, I64r x.1.1 ∧ BytesAt W x.2 x.1.2
  osm : us.map (·.1) = a.others
  sep : ¬ P ab
  seo : ∀ g, vo.ownBlock = some g → ¬ P g ∧ g ≠ ab
  plt : ∀ k, P k → k < W.heap.size
  rng : a.Rng
  cnl : a.comms = [] → vc = .slice none 0 0
section
variable {W W' : World} {lo ab : Nat} {P G : Nat → Prop} {a a' : At} {vp vc vo v : Value} {us : List OthV}
set_option maxRecDepth 100000 in
theorem DA.kept (h : DA W lo ab P a vp vc vo us) (hk : Kept G W W') (hab : ¬ G ab) (hP : ∀ k, P k → ¬ G k) (ho : ∀ g, vo.ownBlock = some g → ¬ G g) : DA W' lo ab P a vp vc vo us :=
  ⟨(hk.block ab (row_lt h.row) hab).trans h.row, own_kept h.oth hk ho, h.dat.kept hk fun k _ hF => hP k hF, h.osm, h.sep, h.seo, fun k hk' => Nat.lt_of_lt_of_le (h.plt k hk') hk.size, h.rng, h.cnl⟩
set_option maxRecDepth 100000 in
theorem DA.below (h : DA W lo ab P a vp vc vo us) (hb : Below W.heap.size W W') : DA W' lo ab P a vp vc vo us := h.kept (G := fun _ => False) (Kept.of_below hb) (fun h => h) (fun _ _ h => h) (fun _ _ h => h)
set_option maxRecDepth 100000 in
/-- one of the row's numbers is stored. -/
theorem DA.cell (h : DA W lo ab P a vp vc vo us) (i : Nat) (v : Value) (hr : (atV a vp vc vo).toArray.setIfInBounds i v = (atV a' vp vc vo).toArray) (hp : a'.path = a.path) (hc : a'.comms = a.comms) (ho : a'.others = a.others) (hg : a'.Rng) :
    DA (W.setCell ⟨ab, i, none⟩ v) lo ab P a' vp vc vo us := by
  have hk : Kept (fun k => k = ab) W (W.setCell ⟨ab, i, none⟩ v) := Kept.setCell _ _ rfl
  refine ⟨?_, own_kept h.oth hk fun g hg e => (h.seo g hg).2 e, ?_, by rw [ho]; exact h.osm, h.sep, h.seo, fun k hk' => Nat.lt_of_lt_of_le (h.plt k hk') hk.size, hg, by rw [hc]; exact h.cnl⟩
  · have := set_same h.row i v
    rw [hr] at this
    exact this
  · rw [hp, hc]
    exact h.dat.kept hk fun k _ hF e => h.sep (e ▸ hF)
set_option maxRecDepth 100000 in
/-- the path is stored. -/
theorem DA.path {lo1 : Nat} {p : List Sg} (h : DA W lo ab P a vp vc vo us) (hlo : ∀ k, (P k ∨ k = ab ∨ vo.ownBlock = some k) → k < lo1) (hf : Fresh lo1 W fun W => PathAt W v p) :
    DA (W.setCell ⟨ab, 2, none⟩ v) lo ab (fun k => P k ∨ (lo1 ≤ k ∧ k < W.heap.size)) { a with path := p } v vc vo us := by
  have hk : Kept (fun k => k = ab) W (W.setCell ⟨ab, 2, none⟩ v) := Kept.setCell _ _ rfl
  have hs : (W.setCell ⟨ab, 2, none⟩ v).heap.size = W.heap.size := by simp [World.setCell]
  have sab : ab < lo1 := hlo _ (.inr (.inl rfl))
  refine ⟨?_, own_kept h.oth hk fun g hg e => (h.seo g hg).2 e, ?_, h.osm, ?_, ?_, ?_, h.rng, h.cnl⟩
  · have := set_same h.row 2 v
    simpa [atV] using this
  · have h1 : On (fun k => P k ∨ (lo1 ≤ k ∧ k < W.heap.size)) W (fun W => IntsAt W vc a.comms ∧ ∀ x ∈ us, I64r x.1.1 ∧ BytesAt W x.2 x.1.2) := (h.dat.imp fun W h => h.2).wide fun k hk _ => .inl hk
    have h2 : On (fun k => P k ∨ (lo1 ≤ k ∧ k < W.heap.size)) W (fun W => PathAt W v p) := hf.wide fun k hk hl => .inr ⟨hk, hl⟩
    refine ((h2.and h1).imp fun W h => ⟨h.1, h.2.1, h.2.2⟩).kept hk fun k _ hF e => ?_
    subst e
    rcases hF with hF | hF
    · exact h.sep hF
    · omega
  · rintro (hF | hF)
    · exact h.sep hF
    · omega
  · intro g hg
    refine ⟨?_, (h.seo g hg).2⟩
    rintro (hF | hF)
    · exact (h.seo g hg).1 hF
    · have := hlo g (.inr (.inr hg)); omega
  · rintro k (hF | hF)
    · rw [hs]; exact h.plt k hF
    · rw [hs]; exact hF.2
set_option maxRecDepth 100000 in
/-- the communities are stored. -/
theorem DA.coms {lo1 : Nat} {p : List Int} (h : DA W lo ab P a vp vc vo us) (hlo : ∀ k, (P k ∨ k = ab ∨ vo.ownBlock = some k) → k < lo1) (hf : Fresh lo1 W fun W => IntsAt W v p) (hn : p = [] → v = .slice none 0 0) :
    DA (W.setCell ⟨ab, 8, none⟩ v) lo ab (fun k => P k ∨ (lo1 ≤ k ∧ k < W.heap.size)) { a with comms := p } vp v vo us := by
  have hk : Kept (fun k => k = ab) W (W.setCell ⟨ab, 8, none⟩ v) := Kept.setCell _ _ rfl
  have hs : (W.setCell ⟨ab, 8, none⟩ v).heap.size = W.heap.size := by simp [World.setCell]
  have sab : ab < lo1 := hlo _ (.inr (.inl rfl))
  refine ⟨?_, own_kept h.oth hk fun g hg e => (h.seo g hg).2 e, ?_, h.osm, ?_, ?_, ?_, h.rng, hn⟩
  · have := set_same h.row 8 v
    simpa [atV] using this
  · have h1 : On (fun k => P k ∨ (lo1 ≤ k ∧ k < W.heap.size)) W (fun W => PathAt W vp a.path ∧ ∀ x ∈ us, I64r x.1.1 ∧ BytesAt W x.2 x.1.2) := (h.dat.imp fun W h => ⟨h.1, h.2.2⟩).wide fun k hk _ => .inl hk
    have h2 : On (fun k => P k ∨ (lo1 ≤ k ∧ k < W.heap.size)) W (fun W => IntsAt W v p) := hf.wide fun k hk hl => .inr ⟨hk, hl⟩
    refine ((h2.and h1).imp fun W h => ⟨h.2.1, h.1, h.2.2⟩).kept hk fun k _ hF e => ?_
    subst e
    rcases hF with hF | hF
    · exact h.sep hF
    · omega
  · rintro (hF | hF)
    · exact h.sep hF
    · omega
  · intro g hg
    refine ⟨?_, (h.seo g hg).2⟩
    rintro (hF | hF)
    · exact (h.seo g hg).1 hF
    · have := hlo g (.inr (.inr hg)); omega
  · rintro k (hF | hF)
    · rw [hs]; exact h.plt k hF
    · rw [hs]; exact hF.2
set_option maxRecDepth 100000 in
theorem DA.lows (h : DA W lo ab P a vp vc vo us) : ∀ k, (P k ∨ k = ab ∨ vo.ownBlock = some k) → k < W.heap.size := by
  rintro k (hk | rfl | hk)
  · exact h.plt k hk
  · exact row_lt h.row
  · exact own_lt h.oth k hk
set_option maxRecDepth 100000 in
theorem DA.at (h : DA W lo ab P a vp vc vo us) (k : Nat) (c : Value) (hc : (atV a vp vc vo)[k]? = some c) : W.cell? ⟨ab, k, none⟩ = some c := by
  rw [row_cell h.row]
  simpa using hc
end
/-- a number of bytes, as set lays it. -/
def setP (a : At) (t : Nat) (xs : List Nat) : Bool × At :=
  if t = 1 then (true, { a with origin := readN xs })
  else if t = 2 then match rdPath xs with | none => (false, { a with path := [] }) | some p => (pathB p, { a with path := p })
  else if t = 3 then (true, { a with hop := readN xs })
  else if t = 4 then (true, { a with med := readN xs })
  else if t = 5 then (true, { a with loc := readN xs })
  else if t = 7 then (true, { a with aggrAs := readN (xs.take 2), aggrId := readN (xs.drop 2) })
  else if t = 8 then (true, { a with comms := (List.range (xs.length / 4)).map fun j => (readN ((xs.take (4 * j + 4)).drop (4 * j)) : Int) })
  else (true, a)
def SetPost (ab lo : Nat) (P : Nat → Prop) (r : Bool × At) (vo : Value) (us : List OthV) (w : World) (e : Ending) (w' : World) : Prop :=
  e = .returned (.bool r.1) ∧ Kept (fun k => k = ab) w w' ∧ ∃ P' vp' vc', DA w' lo ab P' r.2 vp' vc' vo us ∧ ∀ k, P' k → P k ∨ w.heap.size ≤ k
set_option maxRecDepth 100000 in
theorem readN_four {xs : List Nat} (h : ∀ x ∈ xs, x < 256) (h4 : xs.length ≤ 4) : readN xs < 4294967296 := by
  have h1 := readN_lt h _ (Nat.le_refl _)
  rw [List.take_length] at h1
  have h3 : 256 ^ xs.length ≤ 256 ^ 4 := Nat.pow_le_pow_right (by decide) h4
  omega
set_option maxHeartbeats 1600000 in
set_option maxRecDepth 100000 in
theorem set_1 (lo ab : Nat) (P : Nat → Prop) (a : At) (vp vc vo v : Value) (us : List OthV) (xs : List Nat) (w : World) (h : DA w lo ab P a vp vc vo us) (hB : BytesAt w v xs) (h4 : xs.length ≤ 4) :
    Calls Tryd.prog 63 #[.pointer (some ⟨ab, 0, none⟩), .int .i64 1, v] w (SetPost ab lo P (setP a 1 xs) vo us w) := by
  have RD := Lib.hid (at_read v xs w hB h4)
  have RL := readN_four (bytes_lt hB) h4
  have H := Lib.hid h
  have f1 := row_free h.row 1
  obtain ⟨u, hu⟩ : ∃ u, (atV a vp vc vo)[1]? = some u := ⟨_, rfl⟩
  have y1 := h.at 1 u hu
  have E : Hid (setP a 1 xs = (true, { a with origin := readN xs })) := Lib.hid (by simp [setP])
  clear hB h hu
  go_enter Tryd.func63, Tryd.ntmps63
  go_wp2_with fail
  refine RD.out.mono ?_
  rintro e w1 ⟨rfl, rfl⟩
  go_wp2_with fail
  go_ret
  refine ⟨by rw [E.out]; rfl, Kept.setCell _ _ rfl, P, vp, vc, ?_, fun k hk => .inl hk⟩
  rw [E.out]
  refine H.out.cell 1 _ (by simp [atV]) rfl rfl rfl ?_
  have := H.out.rng
  unfold At.Rng I64r at *
  simp only
  refine ⟨this.1, ?_, this.2.2.1, ?_, ?_, this.2.2.2.2.2⟩
  all_goals first | exact this.2.1 | exact this.2.2.2.1 | exact this.2.2.2.2.1 | omega
set_option maxHeartbeats 1600000 in
set_option maxRecDepth 100000 in
theorem set_4 (lo ab : Nat) (P : Nat → Prop) (a : At) (vp vc vo v : Value) (us : List OthV) (xs : List Nat) (w : World) (h : DA w lo ab P a vp vc vo us) (hB : BytesAt w v xs) (h4 : xs.length ≤ 4) :
    Calls Tryd.prog 63 #[.pointer (some ⟨ab, 0, none⟩), .int .i64 4, v] w (SetPost ab lo P (setP a 4 xs) vo us w) := by
  have RD := Lib.hid (at_read v xs w hB h4)
  have RL := readN_four (bytes_lt hB) h4
  have H := Lib.hid h
  have f1 := row_free h.row 4
  obtain ⟨u, hu⟩ : ∃ u, (atV a vp vc vo)[4]? = some u := ⟨_, rfl⟩
  have y1 := h.at 4 u hu
  have E : Hid (setP a 4 xs = (true, { a with med := readN xs })) := Lib.hid (by simp [setP])
  clear hB h hu
  go_enter Tryd.func63, Tryd.ntmps63
  go_wp2_with fail
  refine RD.out.mono ?_
  rintro e w1 ⟨rfl, rfl⟩
  go_wp2_with fail
  go_ret
  refine ⟨by rw [E.out]; rfl, Kept.setCell _ _ rfl, P, vp, vc, ?_, fun k hk => .inl hk⟩
  rw [E.out]
  refine H.out.cell 4 _ (by simp [atV]) rfl rfl rfl ?_
  have := H.out.rng
  unfold At.Rng I64r at *
  simp only
  refine ⟨this.1, ?_, this.2.2.1, ?_, ?_, this.2.2.2.2.2⟩
  all_goals first | exact this.2.1 | exact this.2.2.2.1 | exact this.2.2.2.2.1 | omega
set_option maxHeartbeats 1600000 in
set_option maxRecDepth 100000 in
theorem set_5 (lo ab : Nat) (P : Nat → Prop) (a : At) (vp vc vo v : Value) (us : List OthV) (xs : List Nat) (w : World) (h : DA w lo ab P a vp vc vo us) (hB : BytesAt w v xs) (h4 : xs.length ≤ 4) :
    Calls Tryd.prog 63 #[.pointer (some ⟨ab, 0, none⟩), .int .i64 5, v] w (SetPost ab lo P (setP a 5 xs) vo us w) := by
  have RD := Lib.hid (at_read v xs w hB h4)
  have RL := readN_four (bytes_lt hB) h4
  have H := Lib.hid h
  have f1 := row_free h.row 5
  obtain ⟨u, hu⟩ : ∃ u, (atV a vp vc vo)[5]? = some u := ⟨_, rfl⟩
  have y1 := h.at 5 u hu
  have E : Hid (setP a 5 xs = (true, { a with loc := readN xs })) := Lib.hid (by simp [setP])
  clear hB h hu
  go_enter Tryd.func63, Tryd.ntmps63
  go_wp2_with fail
  refine RD.out.mono ?_
  rintro e w1 ⟨rfl, rfl⟩
  go_wp2_with fail
  go_ret
  refine ⟨by rw [E.out]; rfl, Kept.setCell _ _ rfl, P, vp, vc, ?_, fun k hk => .inl hk⟩
  rw [E.out]
  refine H.out.cell 5 _ (by simp [atV]) rfl rfl rfl ?_
  have := H.out.rng
  unfold At.Rng I64r at *
  simp only
  refine ⟨this.1, ?_, this.2.2.1, ?_, ?_, this.2.2.2.2.2⟩
  all_goals first | exact this.2.1 | exact this.2.2.2.1 | exact this.2.2.2.2.1 | omega
set_option maxHeartbeats 1600000 in
set_option maxRecDepth 100000 in
theorem set_3 (lo ab : Nat) (P : Nat → Prop) (a : At) (vp vc vo v : Value) (us : List OthV) (xs : List Nat) (w : World) (h : DA w lo ab P a vp vc vo us) (hB : BytesAt w v xs) (h4 : xs.length ≤ 4) :
    Calls Tryd.prog 63 #[.pointer (some ⟨ab, 0, none⟩), .int .i64 3, v] w (SetPost ab lo P (setP a 3 xs) vo us w) := by
  have RD := Lib.hid (at_read v xs w hB h4)
  have RL := readN_four (bytes_lt hB) h4
  have H := Lib.hid h
  have f1 := row_free h.row 3
  obtain ⟨u, hu⟩ : ∃ u, (atV a vp vc vo)[3]? = some u := ⟨_, rfl⟩
  have y1 := h.at 3 u hu
  have E : Hid (setP a 3 xs = (true, { a with hop := readN xs })) := Lib.hid (by simp [setP])
  have r1 : ((readN xs : Nat) : Int) ≤ 4294967295 := by omega
  have r0 : (0 : Int) ≤ ((readN xs : Nat) : Int) := by omega
  clear hB h hu
  go_enter Tryd.func63, Tryd.ntmps63
  go_wp2_with fail
  refine RD.out.mono ?_
  rintro e w1 ⟨rfl, rfl⟩
  go_wp2_with fail
  go_ret
  refine ⟨by rw [E.out]; rfl, Kept.setCell _ _ rfl, P, vp, vc, ?_, fun k hk => .inl hk⟩
  rw [E.out]
  refine H.out.cell 3 _ (by simp [atV]) rfl rfl rfl ?_
  have := H.out.rng
  unfold At.Rng at *
  exact ⟨this.1, this.2.1, RL, this.2.2.2.1, this.2.2.2.2.1, this.2.2.2.2.2.1, this.2.2.2.2.2.2⟩
set_option maxHeartbeats 1600000 in
set_option maxRecDepth 100000 in
theorem set_6 (lo ab : Nat) (P : Nat → Prop) (a : At) (vp vc vo v : Value) (us : List OthV) (xs : List Nat) (w : World) (h : DA w lo ab P a vp vc vo us) :
    Calls Tryd.prog 63 #[.pointer (some ⟨ab, 0, none⟩), .int .i64 6, v] w (SetPost ab lo P (setP a 6 xs) vo us w) := by
  have H := Lib.hid h
  have E : Hid (setP a 6 xs = (true, a)) := Lib.hid (by simp [setP])
  clear h
  go_enter Tryd.func63, Tryd.ntmps63
  go_wp2_with fail
  go_ret
  refine ⟨by rw [E.out]; rfl, Kept.refl _ _, P, vp, vc, ?_, fun k hk => .inl hk⟩
  rw [E.out]
  exact H.out
set_option maxHeartbeats 3200000 in
set_option maxRecDepth 100000 in
theorem set_2 (lo ab : Nat) (P : Nat → Prop) (a : At) (vp vc vo v : Value) (us : List OthV) (xs : List Nat) (w : World) (h : DA w lo ab P a vp vc vo us) (hB : BytesAt w v xs) (h4 : xs.length ≤ 1048576) :
    Calls Tryd.prog 63 #[.pointer (some ⟨ab, 0, none⟩), .int .i64 2, v] w (SetPost ab lo P (setP a 2 xs) vo us w) := by
  have RD := Lib.hid (at_readPath v xs w hB h4)
  have H := Lib.hid h
  obtain ⟨u, hu⟩ : ∃ u, (atV a vp vc vo)[2]? = some u := ⟨_, rfl⟩
  clear hB h
  go_enter Tryd.func63, Tryd.ntmps63
  go_wp2_with fail
  refine RD.out.mono ?_
  rintro e w1 ⟨hm, hb⟩
  have H1 := Lib.hid (H.out.below hb)
  have f1 := row_free H1.out.row 2
  have y1 := H1.out.at 2 u hu
  have B := Lib.hid hb
  clear RD hb hu
  cases hp : rdPath xs with
  | none =>
    rw [hp] at hm
    simp only at hm
    subst hm
    have E : Hid (setP a 2 xs = (false, { a with path := [] })) := Lib.hid (by simp [setP, hp])
    clear hp
    go_wp2_with fail
    go_ret
    have D := H1.out.path (lo1 := w.heap.size) (v := .slice none 0 0) (p := []) H.out.lows (fun W _ => SlAt.nil)
    exact ⟨by rw [E.out]; rfl, (Kept.of_below B.out).trans (Kept.setCell _ _ rfl), _, _, _, by rw [E.out]; exact D, fun k (hk : P k ∨ (w.heap.size ≤ k ∧ k < w1.heap.size)) => hk.imp_right fun h => h.1⟩
  | some p =>
    rw [hp] at hm
    simp only at hm
    obtain ⟨v1, L, hL, rfl, po⟩ := hm
    have PO := Lib.hid po
    obtain ⟨s1, c1, hv1, -⟩ := own_form po.own
    subst hv1
    have E : Hid (setP a 2 xs = (pathB p, { a with path := p })) := Lib.hid (by simp [setP, hp])
    have HL := Lib.hid hL
    clear hp hL po
    go_wp2_with fail
    go_ret
    have D := H1.out.path (lo1 := w.heap.size) (v := .slice s1 L.length c1) (p := p) H.out.lows (PO.out.fresh.imp fun W h => HL.out ▸ h.at)
    exact ⟨by rw [E.out]; rfl, (Kept.of_below B.out).trans (Kept.setCell _ _ rfl), _, _, _, by rw [E.out]; exact D, fun k (hk : P k ∨ (w.heap.size ≤ k ∧ k < w1.heap.size)) => hk.imp_right fun h => h.1⟩
end Go.Proofs.YtohkbcdnlmjcjaaDoor
