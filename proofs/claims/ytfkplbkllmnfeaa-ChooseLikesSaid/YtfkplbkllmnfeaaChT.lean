/-
  CHOOSE: ranks; plains: what counts of all candidates.
-/
import Derived.Test.YtfkplbkllmnfeaaChS
namespace Go.Proofs.Ytfkplbkllmnfeaa
open Go.RowKit

theorem info_rank : (Try.prog.info? 54).map (fun i => (i.zero, i.size, i.bytes)) = some (some (.agg rkZA), 8, 64) := by kernel_rfl
def rksOf (xs : List Cd) : List Rk := xs.mapIdx fun i c => rkOf (i : Int) c
theorem rksOf_len (xs : List Cd) : (rksOf xs).length = xs.length := by unfold rksOf; simp
theorem rksOf_step {xs : List Cd} {k : Nat} {c : Cd} (h : xs[k]? = some c) : rksOf (xs.take (k + 1)) = rksOf (xs.take k) ++ [rkOf k c] := by
  obtain ⟨h1, h2⟩ := List.getElem?_eq_some_iff.1 h
  unfold rksOf
  rw [List.take_succ_eq_append_getElem h1, h2, List.mapIdx_concat, List.length_take, Nat.min_eq_left (Nat.le_of_lt h1)]
/-- ranks in memory of the call's own: they may be written. -/
def RkRow (w : World) (g n : Nat) (rs : List Rk) : Prop := Filled w g 8 rkL rs ∧ w.there g 0 (n * 8)
theorem RkRow.below {w w' : World} {g n : Nat} {rs : List Rk} (h : RkRow w g n rs) (hb : Below w.heap.size w w') : RkRow w' g n rs := ⟨h.1.below hb, there_below h.2 hb⟩
theorem rkL_len (r : Rk) : (rkL r).length = 8 := rfl
theorem RkRow.set {w : World} {g n : Nat} {rs : List Rk} (h : RkRow w g n rs) (hn : rs.length < n) (r : Rk) : RkRow (w.setCells g (rs.length * 8) (rkA r).toList) g n (rs ++ [r]) := Filled.set (C := rkL) rkL_len h.1 h.2 hn r
theorem RkRow.at_ {w : World} {g n : Nat} {rs : List Rk} (h : RkRow w g n rs) (hn : rs.length = n) (hm : n ≤ maxLen) : RksAt w (.slice (some ⟨g, 0, none⟩) n n) rs := Filled.slat (C := rkL) rkL_len h.1 hn hm
theorem there_part {w : World} {g n k : Nat} (h : w.there g 0 (n * 8)) (hk : k < n) : w.there g (k * 8) 8 := by
  intro j hj
  have := h (k * 8 + j) (by omega)
  rw [Nat.zero_add] at this
  exact this
def RanksPost (w : World) (rs : List Rk) (n : Nat) (e : Ending) (w' : World) : Prop := ∃ g, e = .returned (.slice (some ⟨g, 0, none⟩) n n) ∧ RkRow w' g n rs ∧ w.heap.size ≤ g ∧ Below w.heap.size w w'
set_option maxHeartbeats 6400000 in
set_option maxRecDepth 100000 in
theorem ch_ranks (v : Value) (xs : List Cd) (w : World) (h : CdsAt w v xs) (hn : xs.length ≤ 100000) (hh : ∀ c ∈ xs, hopsN c.a.path ≤ 4611686018427387904) : Calls Try.prog 19 #[v] w (RanksPost w (rksOf xs) xs.length) := by
  obtain ⟨i0, hi, hz0, hz1, hz2⟩ := info_parts info_rank
  obtain ⟨sa, cap, rfl, hlc, hcm, hV⟩ := h
  have HV := Lib.hid hV
  have HH := Lib.hid hh
  unfold maxLen at hcm
  clear hV hh
  go_enter Try.func19, Try.ntmps19
  go_wp2_with (refine wpList_make_full _ rfl _ _ 56 rfl w.heap.size 54 i0 _ 8 Try.underlying56 hi hz0 hz1 .i64 .i64 (xs.length : Int) (xs.length : Int) xs.length rfl rfl rfl rfl (by rw [hz2]; omega) (by unfold maxLen; omega) (Nat.le_refl _) ?_)
  intro w1 hown hgrow
  have T1 := Lib.hid (there_own hown)
  have B1 := Lib.hid ((Below.refl _ _).grown hgrow (Nat.le_refl _) (fun j hj => by cases hj))
  clear hown hgrow
  generalize hg : w.heap.size = g at T1 ⊢
  have HG := Lib.hid hg
  clear hg
  go_wp2_with fail
  go_loopw [11] (fun i wr => ∃ k : Nat, k ≤ xs.length ∧ i = .int .i64 k ∧ Hid (RkRow wr g xs.length (rksOf (xs.take k))) ∧ Hid (Below w.heap.size w wr)) (fun i _ => xs.length - (intOf i).toNat)
  case atStart => exact ⟨0, by omega, rfl, Lib.hid ⟨Filled.nil, T1.out⟩, B1⟩
  case round =>
    clear T1 B1
    obtain ⟨k, hk, rfl, R, B⟩ := hrel
    by_cases hlt : k < xs.length
    · obtain ⟨c, hc⟩ : ∃ s, xs[k]? = some s := ⟨_, List.getElem?_eq_getElem hlt⟩
      obtain ⟨b, off, hsa, hP⟩ := HV.out (by omega)
      subst hsa
      obtain ⟨cs, _, ⟨vp, vc, vo, rfl, _, hA⟩, hcs⟩ := hP k c hc
      have HA := Lib.hid (hA)
      obtain ⟨⟨sp, cp, rfl, _⟩, ⟨sc, cc, rfl, _⟩, ⟨so, co, rfl, _⟩⟩ := hA
      obtain ⟨c0, c1, c2, c3, c4, c5, c6, c7, c8, c9, c10, c11, c12, c13⟩ := cd_cells hcs
      have c0 := (B.out.cell (size_lt c0)).trans c0
      have c1 := (B.out.cell (size_lt c1)).trans c1
      have c2 := (B.out.cell (size_lt c2)).trans c2
      have c3 := (B.out.cell (size_lt c3)).trans c3
      have c4 := (B.out.cell (size_lt c4)).trans c4
      have c5 := (B.out.cell (size_lt c5)).trans c5
      have c6 := (B.out.cell (size_lt c6)).trans c6
      have c7 := (B.out.cell (size_lt c7)).trans c7
      have c8 := (B.out.cell (size_lt c8)).trans c8
      have c9 := (B.out.cell (size_lt c9)).trans c9
      have c10 := (B.out.cell (size_lt c10)).trans c10
      have c11 := (B.out.cell (size_lt c11)).trans c11
      have c12 := (B.out.cell (size_lt c12)).trans c12
      have c13 := (B.out.cell (size_lt c13)).trans c13
      have j0 : (0 : Int) ≤ (k : Int) := by omega
      have j1 : (k : Int) < (xs.length : Int) := by omega
      have RO := Lib.hid (fun W h => ch_rankOf (k : Int) c (.slice sp c.a.path.length cp) (.slice sc c.a.comms.length cc) (.slice so c.a.others.length co) W h (HH.out c (List.mem_of_getElem? hc)))
      have ST := Lib.hid (rksOf_step hc)
      have LN : Hid ((rksOf (xs.take k)).length = k) := Lib.hid (by rw [rksOf_len, List.length_take]; omega)
      clear hP hcs hc
      go_upto_region 5 with (fail)
      obtain ⟨W1, hW1, q, hb1, _⟩ := takeCd wr (cdA c (.slice sp c.a.path.length cp) (.slice sc c.a.comms.length cc) (.slice so c.a.others.length co))
      rw [← hW1]
      clear hW1 c0 c1 c2 c3 c4 c5 c6 c7 c8 c9 c10 c11 c12 c13
      have B2 := Lib.hid (below_on B.out hb1)
      have HA1 := Lib.hid (HA.out.below B2.out)
      obtain ⟨c0, c1, c2, c3, c4, c5, c6, c7, c8, c9, c10, c11, c12, c13⟩ := cd_row q
      have R2 := Lib.hid (R.out.below hb1)
      clear q hb1 R B
      go_wp2_with fail
      refine (RO.out _ HA1.out).mono ?_
      rintro e w3 ⟨rfl, hb3⟩
      have R3 := Lib.hid (R2.out.below hb3)
      have B3 := Lib.hid (below_on B2.out hb3)
      clear hb3 R2 B2 c0 c1 c2 c3 c4 c5 c6 c7 c8 c9 c10 c11 c12 c13 RO
      go_wp2_with (with_reducible refine halt_at (X := .store 54 (.tmp 21) (.tmp 20)) ?_ ?_; (· rfl))
      unfold Halt
      refine wpList_store_mid rfl 54 (.tmp 21) (.tmp 20) rfl g (k * 8) (rkA (rkOf k c)) rfl rfl (there_part R3.out.2 hlt) (by kernel_rfl) (rk_one _) ?_
      obtain ⟨W5, hW5⟩ : ∃ W5, W5 = w3.setCells g (k * 8) (rkA (rkOf k c)).toList := ⟨_, rfl⟩
      have R4 := R3.out.set (n := xs.length) (by rw [LN.out]; exact hlt) (rkOf k c)
      rw [LN.out, ← ST.out, ← hW5] at R4
      have B5 := Go.Lib.below_setCells g (show w.heap.size ≤ g by have := HG.out; omega) (rkA (rkOf k c)).toList (k * 8) B3.out
      rw [← hW5] at B5 ⊢
      clear hW5 ST R3 B3
      have R5 := Lib.hid R4
      have B6 := Lib.hid B5
      clear R4 B5
      go_wp2_with fail
      exact ⟨⟨k + 1, by omega, by go_num, R5, B6⟩, by simp [intOf]; omega⟩
    · obtain rfl : k = xs.length := by omega
      rw [List.take_length] at R
      go_wp2_with fail
      go_ret
      exact ⟨g, rfl, R.out, by have := HG.out; omega, B.out⟩
end Go.Proofs.Ytfkplbkllmnfeaa
