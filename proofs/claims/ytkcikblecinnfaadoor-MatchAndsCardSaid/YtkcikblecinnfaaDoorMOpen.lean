/-
  A MATCH AS A CALLER MAY HAND IT IN.
-/
import Derived.Test.YtkcikblecinnfaaDoorMc
import Derived.Deep.DeepHandedRow
namespace Go.Proofs.YtkcikblecinnfaaDoor
open Go.RowKit

theorem open_match {w : World} {r : Reach} {b : Nat} {v : Value} (h : Value.okWide Tryd.prog w r b 25 v) : ∃ x : Mt, v = mtV x ∧ x.Ok := by
  simp only [Value.okWide, Tryd.underlying25] at h
  obtain ⟨cs, rfl, hsz, ts, hts, _, hc⟩ := h
  have e : Tryd.prog.cellTypes Tryd.prog.depth 25 = some [22, 22, 22, 22, 22, 22, 22, 22, 22, 22, 22, 22, 22, 22, 22, 22, 22, 22] := by kernel_rfl
  rw [e] at hts
  obtain rfl := Option.some.inj hts
  have hn : Tryd.prog.cellsOf 25 = 18 := by kernel_rfl
  rw [hn] at hsz
  have hu : ∀ v : Value, Cell.okWide Tryd.prog w r b 22 v → ∃ n : Nat, v = .int .u64 n ∧ n < 18446744073709551616 := fun v hv => by
    obtain ⟨n, rfl, hn⟩ := cell_int Tryd.underlying22 hv
    simp [IntKind.has, IntKind.min, IntKind.max, IntKind.bits, IntKind.signed] at hn
    exact ⟨n.toNat, by rw [Int.toNat_of_nonneg (by omega)], by omega⟩
  match cs, hsz with
  | ⟨[v0, v1, v2, v3, v4, v5, v6, v7, v8, v9, v10, v11, v12, v13, v14, v15, v16, v17]⟩, _ =>
    obtain ⟨u0, hu0, g0⟩ := hc 0 v0 (by simp)
    simp at hu0
    subst hu0
    obtain ⟨b0, rfl, k0⟩ := hu _ g0
    obtain ⟨u1, hu1, g1⟩ := hc 1 v1 (by simp)
    simp at hu1
    subst hu1
    obtain ⟨b1, rfl, k1⟩ := hu _ g1
    obtain ⟨u2, hu2, g2⟩ := hc 2 v2 (by simp)
    simp at hu2
    subst hu2
    obtain ⟨b2, rfl, k2⟩ := hu _ g2
    obtain ⟨u3, hu3, g3⟩ := hc 3 v3 (by simp)
    simp at hu3
    subst hu3
    obtain ⟨b3, rfl, k3⟩ := hu _ g3
    obtain ⟨u4, hu4, g4⟩ := hc 4 v4 (by simp)
    simp at hu4
    subst hu4
    obtain ⟨b4, rfl, k4⟩ := hu _ g4
    obtain ⟨u5, hu5, g5⟩ := hc 5 v5 (by simp)
    simp at hu5
    subst hu5
    obtain ⟨b5, rfl, k5⟩ := hu _ g5
    obtain ⟨u6, hu6, g6⟩ := hc 6 v6 (by simp)
    simp at hu6
    subst hu6
    obtain ⟨b6, rfl, k6⟩ := hu _ g6
    obtain ⟨u7, hu7, g7⟩ := hc 7 v7 (by simp)
    simp at hu7
    subst hu7
    obtain ⟨b7, rfl, k7⟩ := hu _ g7
    obtain ⟨u8, hu8, g8⟩ := hc 8 v8 (by simp)
    simp at hu8
    subst hu8
    obtain ⟨b8, rfl, k8⟩ := hu _ g8
    obtain ⟨u9, hu9, g9⟩ := hc 9 v9 (by simp)
    simp at hu9
    subst hu9
    obtain ⟨b9, rfl, k9⟩ := hu _ g9
    obtain ⟨u10, hu10, g10⟩ := hc 10 v10 (by simp)
    simp at hu10
    subst hu10
    obtain ⟨b10, rfl, k10⟩ := hu _ g10
    obtain ⟨u11, hu11, g11⟩ := hc 11 v11 (by simp)
    simp at hu11
    subst hu11
    obtain ⟨b11, rfl, k11⟩ := hu _ g11
    obtain ⟨u12, hu12, g12⟩ := hc 12 v12 (by simp)
    simp at hu12
    subst hu12
    obtain ⟨b12, rfl, k12⟩ := hu _ g12
    obtain ⟨u13, hu13, g13⟩ := hc 13 v13 (by simp)
    simp at hu13
    subst hu13
    obtain ⟨b13, rfl, k13⟩ := hu _ g13
    obtain ⟨u14, hu14, g14⟩ := hc 14 v14 (by simp)
    simp at hu14
    subst hu14
    obtain ⟨b14, rfl, k14⟩ := hu _ g14
    obtain ⟨u15, hu15, g15⟩ := hc 15 v15 (by simp)
    simp at hu15
    subst hu15
    obtain ⟨b15, rfl, k15⟩ := hu _ g15
    obtain ⟨u16, hu16, g16⟩ := hc 16 v16 (by simp)
    simp at hu16
    subst hu16
    obtain ⟨b16, rfl, k16⟩ := hu _ g16
    obtain ⟨u17, hu17, g17⟩ := hc 17 v17 (by simp)
    simp at hu17
    subst hu17
    obtain ⟨b17, rfl, k17⟩ := hu _ g17
    refine ⟨⟨fun i => [b0, b1, b2, b3, b4, b5, b6, b7, b8].getD i 0, fun i => [b9, b10, b11, b12, b13, b14, b15, b16, b17].getD i 0⟩, rfl, ⟨fun k hk => ?_, fun k hk => ?_⟩⟩
    · rcases nine_cases k hk with rfl | rfl | rfl | rfl | rfl | rfl | rfl | rfl | rfl <;> assumption
    · rcases nine_cases k hk with rfl | rfl | rfl | rfl | rfl | rfl | rfl | rfl | rfl <;> assumption
end Go.Proofs.YtkcikblecinnfaaDoor
