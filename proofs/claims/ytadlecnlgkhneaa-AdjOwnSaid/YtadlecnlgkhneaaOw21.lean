/- Texts of one proof, one behind another. -/
import Derived.Test.YtadlecnlgkhneaaOw20
import Derived.Test.YtadlecnlgkhneaaOw16
import Derived.Test.YtadlecnlgkhneaaOw2
import Derived.StillTailTactics
import Derived.LoopTactic
import Derived.LoopN
/-
  AdjLast: proved of all attributes, every n and whether gone: what a peer says last of a prefix counts; what it says is gone, is.
-/
namespace Go.Proofs.Ytadlecnlgkhneaa
open Go.RowKit

theorem sz_av : (Try.prog.info? 35).map (·.size) = some 10 := by kernel_rfl
theorem sz_msg : (Try.prog.info? 43).map (·.size) = some 20 := by kernel_rfl

abbrev msA (a : AV) : MV := ⟨0, 0, 0, 0, none, 0, 0, none, 0, 0, a, none, 0, 0, 0, 0, ⟨#[]⟩⟩
theorem rt_range {W : World} {b : Nat} {peer : Int} {p : Pf} {v : AV} (hb : W.heap[b]? = some (.cells (rtC peer p v) 48 (0, 0))) : W.rangeAt b 3 v.C.toList := node_range (k0 := .int .i64 peer) (k1 := .int .u32 p.1) (h := .int .i64 p.2) hb
theorem psAt_row {W : World} {b : Nat} {x : Pf} {T : TypeId} (hb : W.heap[b]? = some (.cells #[.int .u32 x.1, .int .i64 x.2] T (0, 0))) (hx : OkP x) : PsAt W (.slice (some ⟨b, 0, none⟩) 1 1) [x] := by
  refine ⟨_, 1, rfl, Nat.le_refl _, by simp [maxLen], fun _ => ⟨b, 0, rfl, fun i y hy => ?_⟩⟩
  match i, hy with
  | 0, hy =>
    simp at hy
    subst hy
    refine ⟨encP x, rfl, ⟨rfl, hx⟩, fun j c hc => ?_⟩
    rw [row_cell hb]
    simpa [encP] using hc
set_option maxHeartbeats 25600000 in
set_option maxRecDepth 100000 in
theorem law_AdjLast_t (a b : At) (u v : AV) (n : Int) (w : World) (ha : AvAt w a u) (hb : AvAt w b v) (za : AtSz a) (zb : AtSz b) : Calls Try.prog 4 #[u.V, v.V, .int .i64 n, .bool true] w fun e w' => e = .returned (.bool true) ∧ Below w.heap.size w w' := by
  obtain ⟨k, hk⟩ : ∃ k : Nat, n % 128 = k := Int.eq_ofNat_of_zero_le (by omega)
  have hand : bits .and .i64 n 127 = (k : Int) := by rw [and_127, hk]
  have HA := Lib.hid ha
  have HB := Lib.hid hb
  have ZA := Lib.hid za
  have ZB := Lib.hid zb
  have K7 : Hid (k < 256) := Lib.hid (by omega)
  clear ha hb za zb hk
  go_enter Try.func4, Try.ntmps4
  go_upto_region 1 with (fail)
  obtain ⟨W0, hW0, qa, qb, hb0⟩ := boxTwo w u.C 35 v.C 35
  rw [← hW0]
  clear hW0
  have QA0 := Lib.hid qa
  have QB0 := Lib.hid qb
  have B0 := Lib.hid hb0
  clear qa qb hb0
  go_wp2_with fail
  refine (law_head W0).mono ?_
  rintro e w1 ⟨rfl, hb1⟩
  have QA := Lib.hid ((hb1.block _ (row_lt QA0.out)).trans QA0.out)
  have QB := Lib.hid ((hb1.block _ (row_lt QB0.out)).trans QB0.out)
  have B1 := Lib.hid (below_on B0.out hb1)
  clear hb1 QA0 QB0 B0
  have LB := Lib.hid (fun m W => l_big m W)
  have PA := Lib.hid (fun W (h : Below w.heap.size w W) => av_Passes a u 9 W (HA.out.below h))
  have PB := Lib.hid (fun W (h : Below w.heap.size w W) => av_Passes b v 9 W (HB.out.below h))
  generalize hpa : passB a.path 9 = pa at PA
  generalize hpb : passB b.path 9 = pb at PB
  have HPA := Lib.hid hpa
  have HPB := Lib.hid hpb
  clear hpa hpb
  go_upto_region 3 with (fail)
  go_cut [36] (fun s wx => ∃ c : Bool, s = .bool c ∧ Hid (c = false → pa = false ∧ pb = false) ∧ Hid (Below w1.heap.size w1 wx))
  case first =>
    go_wp2_with ((with_reducible refine halt_at (X := .load 35 (.tmp 4)) ?_ ?_); (· rfl))
    unfold Halt
    refine ld_at (by rfl) 35 (.tmp 4) rfl w.heap.size rfl 35 u.C (0, 0) _ QA.out Try.underlying35 rfl sz_av ?_
    go_wp2_with fail
    refine (LB.out (msA u) w1).mono ?_
    rintro e w2 ⟨rfl, hb2⟩
    generalize bigB (msA u) = c1
    have B2 := Lib.hid hb2
    have QB2 := Lib.hid ((hb2.block _ (row_lt QB.out)).trans QB.out)
    have QA2 := Lib.hid ((hb2.block _ (row_lt QA.out)).trans QA.out)
    clear hb2
    cases c1 with
    | true =>
      go_wp2_with fail
      go_meet
      exact ⟨true, rfl, Lib.hid (fun h => by cases h), B2⟩
    | false =>
      go_wp2_with ((with_reducible refine halt_at (X := .load 35 (.tmp 5)) ?_ ?_); (· rfl))
      unfold Halt
      refine ld_at (by rfl) 35 (.tmp 5) rfl (w.heap.size + 1) rfl 35 v.C (0, 0) _ QB2.out Try.underlying35 rfl sz_av ?_
      go_wp2_with fail
      refine (LB.out (msA v) w2).mono ?_
      rintro e w3 ⟨rfl, hb3⟩
      generalize bigB (msA v) = c2
      have B3 := Lib.hid (below_on B2.out hb3)
      have QB3 := Lib.hid ((hb3.block _ (row_lt QB2.out)).trans QB2.out)
      have QA3 := Lib.hid ((hb3.block _ (row_lt QA2.out)).trans QA2.out)
      clear hb3
      cases c2 with
      | true =>
        go_wp2_with fail
        go_meet
        exact ⟨true, rfl, Lib.hid (fun h => by cases h), B3⟩
      | false =>
        go_wp2_with ((with_reducible refine halt_at (X := .load 35 (.tmp 4)) ?_ ?_); (· rfl))
        unfold Halt
        refine ld_at (by rfl) 35 (.tmp 4) rfl w.heap.size rfl 35 u.C (0, 0) _ QA3.out Try.underlying35 rfl sz_av ?_
        go_wp2_with fail
        refine (PA.out w3 (below_on B1.out B3.out)).mono ?_
        rintro e w4 ⟨rfl, hb4⟩
        have B4 := Lib.hid (below_on B3.out hb4)
        have QB4 := Lib.hid ((hb4.block _ (row_lt QB3.out)).trans QB3.out)
        clear hb4
        cases pa with
        | true =>
          go_wp2_with fail
          go_meet
          exact ⟨true, rfl, Lib.hid (fun h => by cases h), B4⟩
        | false =>
          go_wp2_with ((with_reducible refine halt_at (X := .load 35 (.tmp 5)) ?_ ?_); (· rfl))
          unfold Halt
          refine ld_at (by rfl) 35 (.tmp 5) rfl (w.heap.size + 1) rfl 35 v.C (0, 0) _ QB4.out Try.underlying35 rfl sz_av ?_
          go_wp2_with fail
          refine (PB.out w4 (below_on B1.out B4.out)).mono ?_
          rintro e w5 ⟨rfl, hb5⟩
          have B5 := Lib.hid (below_on B4.out hb5)
          clear hb5
          cases pb
          · go_wp2_with fail
            go_meet
            exact ⟨false, rfl, Lib.hid (by simp), B5⟩
          · go_wp2_with fail
            go_meet
            exact ⟨true, rfl, Lib.hid (fun h => by cases h), B5⟩
  case rest =>
    obtain ⟨c, rfl, HC, HH⟩ := hcut
    obtain ⟨w6, hw6⟩ : ∃ w6 : World, w6 = wc := ⟨_, rfl⟩
    rw [← hw6] at HH ⊢
    clear hw6
    have B6 := Lib.hid (below_on B1.out HH.out)
    have QA6 := Lib.hid ((HH.out.block _ (row_lt QA.out)).trans QA.out)
    have QB6 := Lib.hid ((HH.out.block _ (row_lt QB.out)).trans QB.out)
    clear HH B1 QA QB LB PA PB
    cases c with
    | true =>
      go_wp2_with fail
      go_ret
      exact ⟨rfl, B6.out⟩
    | false =>
      have PAF : Hid (passB a.path 9 = false) := Lib.hid (HPA.out.trans (HC.out rfl).1)
      have PBF : Hid (passB b.path 9 = false) := Lib.hid (HPB.out.trans (HC.out rfl).2)
      clear HC HPA HPB
      go_wp2_with fail
      refine (l_net k K7.out w6).mono ?_
      rintro e w7 ⟨rfl, hb7⟩
      have OP : Hid (OkP (netP k)) := Lib.hid (netP_ok K7.out)
      have RP : Hid (rightB (netP k).1 (netP k).2 = true) := Lib.hid (netP_right k)
      generalize netP k = p at OP RP ⊢
      have B7 := Lib.hid (below_on B6.out hb7)
      have QB7 := Lib.hid ((hb7.block _ (row_lt QB6.out)).trans QB6.out)
      have QA7 := Lib.hid ((hb7.block _ (row_lt QA6.out)).trans QA6.out)
      clear hb7 B6 QA6 QB6
      go_upto_region 6 with (fail)
      obtain ⟨w8, hw8, c0, c1, hb8⟩ := box2 w7 (.int .u32 p.1) (.int .i64 p.2) 29
      rw [← hw8]
      clear hw8
      have B8 := Lib.hid (below_on B7.out hb8)
      have QB8 := Lib.hid ((hb8.block _ (row_lt QB7.out)).trans QB7.out)
      have QA8 := Lib.hid ((hb8.block _ (row_lt QA7.out)).trans QA7.out)
      have HA8 := Lib.hid (HA.out.below B8.out)
      have HB8 := Lib.hid (HB.out.below B8.out)
      have C0 := Lib.hid c0
      have C1 := Lib.hid c1
      clear hb8 B7 QA7 QB7 HA HB c0 c1
      go_wp2_with fail
      refine (ad_New 1 9 5 w8).mono ?_
      rintro e w9 ⟨rb, rfl, hr, hb9⟩
      have L9 : LR w8 w9 rb 1 9 5 [] (fun k => w8.heap.size ≤ k ∧ k < w9.heap.size) := lr_new (Below.refl _ _) hr hb9
      generalize (fun k => w8.heap.size ≤ k ∧ k < w9.heap.size : Nat → Prop) = F1 at L9
      have L9 := Lib.hid L9
      clear hr hb9
      obtain ⟨T1, hu1⟩ := last_1 (a := a) RP.out PAF.out
      have U1 := Lib.hid hu1
      clear hu1
      have c0 := cell_below C0.out L9.out.bel
      have c1 := cell_below C1.out L9.out.bel
      go_wp2_with ((with_reducible refine halt_at (X := .load 35 (.tmp 4)) ?_ ?_); (· rfl))
      obtain ⟨w10, hw10⟩ : ∃ w10, w10 = w9.alloc (.cells #[.int .u32 p.1, .int .i64 p.2] 29) := ⟨_, rfl⟩
      have P10 : Hid (PsAt w10 (.slice (some ⟨w9.heap.size, 0, none⟩) 1 1) [p]) := Lib.hid (by rw [hw10]; exact psAt_new w9 p 29 OP.out)
      have L10 := Lib.hid (L9.out.below (W' := w10) (by rw [hw10]; exact (Below.refl _ _).alloc (Nat.le_refl _) _))
      rw [← hw10]
      clear hw10 c0 c1 L9
      have QA10 := Lib.hid ((L10.out.bel.block _ (row_lt QA8.out)).trans QA8.out)
      unfold Halt
      refine ld_at (by rfl) 35 (.tmp 4) rfl w.heap.size rfl 35 u.C (0, 0) _ QA10.out Try.underlying35 rfl sz_av ?_
      go_wp2_with fail
      refine (ad_Update (mgV none 0 0 u (some ⟨w9.heap.size, 0, none⟩) 1 1) [] [p] a w10 L10.out.rib SlAt.nil P10.out (fun W hk => L10.out.av HA8.out hk) (by simp) ZA.out).mono ?_
      intro e w11 hp
      rw [show updP 9 5 [] (mgV none 0 0 u (some ⟨w9.heap.size, 0, none⟩) 1 1).kind [] [p] a = _ from U1.out] at hp
      obtain ⟨v11, F2, rfl, -, l11, -, -, -⟩ := L10.out.upd hp
      have L11 : Hid (LR w8 w11 rb 1 9 5 [(p, a)] F2) := Lib.hid l11
      clear hp l11 P10 QA10 U1 L10
      have c0 := cell_below C0.out L11.out.bel
      have c1 := cell_below C1.out L11.out.bel
      go_wp2_with ((with_reducible refine halt_at (X := .load 35 (.tmp 5)) ?_ ?_); (· rfl))
      obtain ⟨w12, hw12⟩ : ∃ w12, w12 = w11.alloc (.cells #[.int .u32 p.1, .int .i64 p.2] 29) := ⟨_, rfl⟩
      have P12 : Hid (PsAt w12 (.slice (some ⟨w11.heap.size, 0, none⟩) 1 1) [p]) := Lib.hid (by rw [hw12]; exact psAt_new w11 p 29 OP.out)
      have L12 := Lib.hid (L11.out.below (W' := w12) (by rw [hw12]; exact (Below.refl _ _).alloc (Nat.le_refl _) _))
      rw [← hw12]
      clear hw12 c0 c1 L11
      have QB12 := Lib.hid ((L12.out.bel.block _ (row_lt QB8.out)).trans QB8.out)
      unfold Halt
      refine ld_at (by rfl) 35 (.tmp 5) rfl (w.heap.size + 1) rfl 35 v.C (0, 0) _ QB12.out Try.underlying35 rfl sz_av ?_
      go_wp2_with ((with_reducible refine halt_at (X := .store 43 (.tmp 13) (.tmp 53)) ?_ ?_); (· rfl))
      unfold Halt
      refine st_fresh rfl 43 (.tmp 13) (.tmp 53) rfl rfl _ (mgV none 0 0 v (some ⟨w11.heap.size, 0, none⟩) 1 1).C rfl sz_msg rfl (by simp [Value.oneCell']) ?_
      obtain ⟨w13, hw13, qm, hb13, -⟩ := box1 w12 (mgV none 0 0 v (some ⟨w11.heap.size, 0, none⟩) 1 1).C 43
      rw [← hw13]
      clear hw13 QB12
      have QM := Lib.hid qm
      have NFM : Hid (¬ F2 w12.heap.size) := Lib.hid (fun h => Nat.lt_irrefl _ (L12.out.flt _ h))
      have WS12 := Lib.hid L12.out.bel.size
      have L13 := Lib.hid (L12.out.below hb13)
      have P13 := Lib.hid (P12.out.below hb13)
      clear qm hb13 P12 L12
      have U2 := Lib.hid (last_3 (a := a) RP.out)
      have c0 := cell_below C0.out L13.out.bel
      have c1 := cell_below C1.out L13.out.bel
      go_wp2_with ((with_reducible refine halt_at (X := .store 43 (.tmp 13) (.tmp 57)) ?_ ?_); (· rfl))
      obtain ⟨w14, hw14⟩ : ∃ w14, w14 = w13.alloc (.cells #[.int .u32 p.1, .int .i64 p.2] 29) := ⟨_, rfl⟩
      have hb14 : Below w13.heap.size w13 w14 := by rw [hw14]; exact (Below.refl _ _).alloc (Nat.le_refl _) _
      have R14 : Hid (w14.heap[w13.heap.size]? = some (.cells #[.int .u32 p.1, .int .i64 p.2] 29 (0, 0))) := Lib.hid (by rw [hw14]; exact heap_alloc_new _ _)
      rw [← hw14]
      clear hw14 c0 c1
      have L14 := Lib.hid (L13.out.below hb14)
      have QM14 := Lib.hid ((hb14.block _ (row_lt QM.out)).trans QM.out)
      have NE : Hid (¬ w13.heap.size = w12.heap.size) := Lib.hid (by have := row_lt QM.out; omega)
      clear hb14 QM L13 P13
      unfold Halt
      refine st_row rfl 43 _ _ rfl w12.heap.size rfl 43 (mgV none 0 0 v (some ⟨w11.heap.size, 0, none⟩) 1 1).C (mgV (some ⟨w13.heap.size, 0, none⟩) 1 1 (avK 0) none 0 0).C rfl QM14.out sz_msg rfl (by simp [Value.oneCell']) ?_
      obtain ⟨w15, hw15⟩ : ∃ w15, w15 = w14.setRow w12.heap.size (mgV (some ⟨w13.heap.size, 0, none⟩) 1 1 (avK 0) none 0 0).C := ⟨_, rfl⟩
      have hk15 : Kept (fun g => g = w12.heap.size) w14 w15 := by rw [hw15]; exact kept_setRow _ _ rfl
      have QM15 : Hid (w15.heap[w12.heap.size]? = some (.cells (mgV (some ⟨w13.heap.size, 0, none⟩) 1 1 (avK 0) none 0 0).C 43 (0, 0))) := Lib.hid (by rw [hw15]; exact setRow_heap _ _ _ _ _ _ QM14.out)
      have P15 := Lib.hid (psAt_row ((hk15.block _ (row_lt R14.out) NE.out).trans R14.out) OP.out)
      have L15 := Lib.hid (L14.out.kept hk15 (fun k hF h => NFM.out (h ▸ hF)) (fun k h => by have := WS12.out; omega))
      rw [← hw15]
      clear hw15 hk15 QM14 R14 L14
      generalize w13.heap.size = g13 at QM15 P15 ⊢
      go_wp2_with ((with_reducible refine halt_at (X := .load 43 (.tmp 13)) ?_ ?_); (· rfl))
      unfold Halt
      refine ld_at (by rfl) 43 (.tmp 13) rfl w12.heap.size rfl 43 (mgV (some ⟨g13, 0, none⟩) 1 1 (avK 0) none 0 0).C (0, 0) _ QM15.out Try.underlying43 rfl sz_msg ?_
      go_wp2_with fail
      refine (ad_Update (mgV (some ⟨g13, 0, none⟩) 1 1 (avK 0) none 0 0) [p] [] (atK 0) w15 L15.out.rib P15.out SlAt.nil (fun W _ => avK_at 0 W) (by simp) (atK_sz 0)).mono ?_
      intro e w16 hp
      rw [show updP 9 5 [(p, a)] (mgV (some ⟨g13, 0, none⟩) 1 1 (avK 0) none 0 0).kind [p] [] (atK 0) = _ from U2.out] at hp
      obtain ⟨v16, F3, rfl, o16, l16, -, -, -⟩ := L15.out.upd hp
      have L16 : Hid (LR w8 w16 rb 1 9 5 [] F3) := Lib.hid l16
      obtain ⟨s16, c16, hv16, -⟩ := o16.at
      clear hp l16 o16 QM15 P15 L15 U2
      subst hv16
      have c0 := cell_below C0.out L16.out.bel
      have c1 := cell_below C1.out L16.out.bel
      go_wp2_with fail
      refine (ad_Get p w16 L16.out.rib OP.out).mono ?_
      rintro e w17 (⟨-, rfl, hb17⟩ | ⟨b', x, hg, -⟩)
      · have B17 := Lib.hid hb17
        clear hb17 c0 c1
        go_wp2_with fail
        go_ret
        exact ⟨rfl, below_on B8.out (below_on L16.out.bel (B17.out.alloc B17.out.size _))⟩
      · exact absurd hg (by simp [getL])
end Go.Proofs.Ytadlecnlgkhneaa

/-
  WRITES THAT LEAVE EACH CELL OF ITS KIND: what they leave of attributes; on which blocks these hang. Plain.
-/
namespace Go.Proofs.Ytadlecnlgkhneaa
open Go.RowKit

/-- of one kind. -/
inductive Kin : Value → Value → Prop where
  | same (v : Value) : Kin v v
  | bool (b c : Bool) : Kin (.bool b) (.bool c)
  | int (m n : Int) (h : I64r n) : Kin (.int .i64 m) (.int .i64 n)
  | byte (m n : Nat) (h : n < 256) : Kin (.int .u8 m) (.int .u8 n)
theorem Kin.trans {u v x : Value} (h : Kin u v) (k : Kin v x) : Kin u x := by
  cases h with
  | same => exact k
  | bool b c => cases k with | same => exact .bool b c | bool _ d => exact .bool b d
  | int m n h => cases k with | same => exact .int m n h | int _ d h2 => exact .int m d h2
  | byte m n h =>
    cases k with
    | same => exact .byte m n h
    | byte _ d h2 => exact .byte m d h2
theorem Kin.ofBool {b : Bool} {v : Value} (h : Kin (.bool b) v) : ∃ c, v = .bool c := by
  cases h with | same => exact ⟨b, rfl⟩ | bool _ c => exact ⟨c, rfl⟩
theorem Kin.ofInt {n : Int} {v : Value} (h : Kin (.int .i64 n) v) (hn : I64r n) : ∃ m, v = .int .i64 m ∧ I64r m := by
  cases h with | same => exact ⟨n, rfl, hn⟩ | int _ m h => exact ⟨m, rfl, h⟩
theorem Kin.ofSlice {s : Option Addr} {n c : Nat} {v : Value} (h : Kin (.slice s n c) v) : v = .slice s n c := by
  cases h; rfl
theorem Kin.ofByte {n : Nat} {v : Value} (h : Kin (.int .u8 n) v) (hn : n < 256) : ∃ m : Nat, v = .int .u8 m ∧ m < 256 := by
  generalize hu : Value.int .u8 (n : Int) = u at h
  cases h with
  | same => exact ⟨n, hu.symm, hn⟩
  | bool => cases hu
  | int => cases hu
  | byte _ m h => exact ⟨m, rfl, h⟩
/-- each cell of its kind. -/
structure Sim (w w' : World) : Prop where
  cell : ∀ b o v, w.cell? ⟨b, o, none⟩ = some v → ∃ v', w'.cell? ⟨b, o, none⟩ = some v' ∧ Kin v v'
  fr : ∀ b o, w'.frozen? ⟨b, o, none⟩ = w.frozen? ⟨b, o, none⟩
theorem Sim.refl (w : World) : Sim w w := ⟨fun _ _ v h => ⟨v, h, .same v⟩, fun _ _ => rfl⟩
theorem Sim.drew {w w' : World} (h : Sim w w') : Sim w w'.drew := ⟨h.cell, h.fr⟩
theorem Sim.set {w w' : World} {b o : Nat} {v v' : Value} (h : Sim w w') (hc : w'.cell? ⟨b, o, none⟩ = some v) (hk : Kin v v') : Sim w (w'.setCell ⟨b, o, none⟩ v') := by
  refine ⟨fun b2 o2 x hx => ?_, fun b2 o2 => by rw [World.frozen?_setCell]; exact h.fr b2 o2⟩
  obtain ⟨x', h1, h2⟩ := h.cell b2 o2 x hx
  by_cases e : (⟨b, o, none⟩ : Addr) = ⟨b2, o2, none⟩
  · rw [← e] at h1 ⊢
    rw [hc] at h1
    obtain rfl := Option.some.inj h1
    exact ⟨v', World.cell?_setCell_same _ _ _ hc, h2.trans hk⟩
  · exact ⟨x', by rw [World.cell?_setCell_other _ _ _ _ e]; exact h1, h2⟩
/-- a row of numbers, of bytes, that may be written. -/
def RowI (F : Nat → Prop) (w : World) (v : Value) (n : Nat) : Prop := ∃ s c, v = .slice s n c ∧ n ≤ maxLen ∧ (0 < n → ∃ g o, s = some ⟨g, o, none⟩ ∧ F g ∧ ∀ j, j < n → (∃ m, w.cell? ⟨g, o + j, none⟩ = some (.int .i64 m) ∧ I64r m) ∧ w.frozen? ⟨g, o + j, none⟩ = false)
def RowB (F : Nat → Prop) (w : World) (v : Value) (n : Nat) : Prop := ∃ s c, v = .slice s n c ∧ n ≤ maxLen ∧ (0 < n → ∃ g o, s = some ⟨g, o, none⟩ ∧ F g ∧ ∀ j, j < n → (∃ m : Nat, w.cell? ⟨g, o + j, none⟩ = some (.int .u8 m) ∧ m < 256) ∧ w.frozen? ⟨g, o + j, none⟩ = false)
def RowP (F : Nat → Prop) (w : World) (v : Value) (n : Nat) : Prop := ∃ s c, v = .slice s n c ∧ n ≤ maxLen ∧ (0 < n → ∃ g o, s = some ⟨g, o, none⟩ ∧ F g ∧ ∀ i, i < n → (∃ b, w.cell? ⟨g, o + i * 2, none⟩ = some (.bool b)) ∧ w.frozen? ⟨g, o + i * 2, none⟩ = false ∧ ∃ u k, w.cell? ⟨g, o + i * 2 + 1, none⟩ = some u ∧ RowI F w u k)
def RowO (F : Nat → Prop) (w : World) (v : Value) (n : Nat) : Prop := ∃ s c, v = .slice s n c ∧ n ≤ maxLen ∧ (0 < n → ∃ g o, s = some ⟨g, o, none⟩ ∧ F g ∧ ∀ i, i < n → ∃ u k, w.cell? ⟨g, o + i * 2 + 1, none⟩ = some u ∧ RowB F w u k)
section
variable {F : Nat → Prop} {w w' : World} {v : Value} {n : Nat}
theorem RowI.sim (h : RowI F w v n) (k : Sim w w') : RowI F w' v n := by
  obtain ⟨s, c, h1, h2, h3⟩ := h
  refine ⟨s, c, h1, h2, fun h0 => ?_⟩
  obtain ⟨g, o, h4, h5, h6⟩ := h3 h0
  refine ⟨g, o, h4, h5, fun j hj => ?_⟩
  obtain ⟨⟨m, a1, a2⟩, a3⟩ := h6 j hj
  obtain ⟨x, b1, b2⟩ := k.cell _ _ _ a1
  obtain ⟨y, rfl, b3⟩ := b2.ofInt a2
  exact ⟨⟨y, b1, b3⟩, (k.fr _ _).trans a3⟩
theorem RowB.sim (h : RowB F w v n) (k : Sim w w') : RowB F w' v n := by
  obtain ⟨s, c, h1, h2, h3⟩ := h
  refine ⟨s, c, h1, h2, fun h0 => ?_⟩
  obtain ⟨g, o, h4, h5, h6⟩ := h3 h0
  refine ⟨g, o, h4, h5, fun j hj => ?_⟩
  obtain ⟨⟨m, a1, a2⟩, a3⟩ := h6 j hj
  obtain ⟨x, b1, b2⟩ := k.cell _ _ _ a1
  obtain ⟨y, rfl, b3⟩ := b2.ofByte a2
  exact ⟨⟨y, b1, b3⟩, (k.fr _ _).trans a3⟩
theorem RowP.sim (h : RowP F w v n) (k : Sim w w') : RowP F w' v n := by
  obtain ⟨s, c, h1, h2, h3⟩ := h
  refine ⟨s, c, h1, h2, fun h0 => ?_⟩
  obtain ⟨g, o, h4, h5, h6⟩ := h3 h0
  refine ⟨g, o, h4, h5, fun i hi => ?_⟩
  obtain ⟨⟨b, a1⟩, a2, u, l, a3, a4⟩ := h6 i hi
  obtain ⟨x, b1, b2⟩ := k.cell _ _ _ a1
  obtain ⟨y, rfl⟩ := b2.ofBool
  obtain ⟨z, c1, c2⟩ := k.cell _ _ _ a3
  have a5 := a4
  obtain ⟨su, cu, rfl, -⟩ := a5
  obtain rfl := c2.ofSlice
  exact ⟨⟨y, b1⟩, (k.fr _ _).trans a2, _, l, c1, a4.sim k⟩
theorem RowO.sim (h : RowO F w v n) (k : Sim w w') : RowO F w' v n := by
  obtain ⟨s, c, h1, h2, h3⟩ := h
  refine ⟨s, c, h1, h2, fun h0 => ?_⟩
  obtain ⟨g, o, h4, h5, h6⟩ := h3 h0
  refine ⟨g, o, h4, h5, fun i hi => ?_⟩
  obtain ⟨u, l, a3, a4⟩ := h6 i hi
  obtain ⟨z, c1, c2⟩ := k.cell _ _ _ a3
  have a5 := a4
  obtain ⟨su, cu, rfl, -⟩ := a5
  obtain rfl := c2.ofSlice
  exact ⟨_, l, c1, a4.sim k⟩
/-! ### on which blocks -/
/-- a world that lacks a block. -/
def kill (w : World) (g : Nat) : World := { w with heap := w.heap.modify g fun _ => .cells #[] 0 (0, 0) }
theorem kill_other (w : World) {g k : Nat} (h : k ≠ g) : (kill w g).heap[k]? = w.heap[k]? := by
  simp [kill, Array.getElem?_modify, Ne.symm h]
theorem kill_cell (w : World) (g o : Nat) : (kill w g).cell? ⟨g, o, none⟩ = none := by
  simp only [kill, World.cell?, Array.getElem?_modify, if_true]
  cases w.heap[g]? <;> simp
theorem kill_cell_other (w : World) {g k : Nat} (h : k ≠ g) (o : Nat) : (kill w g).cell? ⟨k, o, none⟩ = w.cell? ⟨k, o, none⟩ := by
  simp only [World.cell?, kill_other w h]
theorem on_block {Q : World → Prop} (h : On F w Q) {g : Nat} (hg : ∀ W, (∀ k, k ≠ g → W.heap[k]? = w.heap[k]?) → Q W → ∃ o v, W.cell? ⟨g, o, none⟩ = some v) : F g := by
  by_cases hF : F g
  · exact hF
  · obtain ⟨o, v, hc⟩ := hg (kill w g) (fun k hk => kill_other w hk) (h _ fun k hk _ => kill_other w (fun e => hF (e ▸ hk)))
    rw [kill_cell] at hc
    cases hc
end
/-- what may be written of attributes. -/
structure Spl (F : Nat → Prop) (w : World) (vp vc vo : Value) (np nc no : Nat) : Prop where
  path : RowP F w vp np
  comms : RowI F w vc nc
  oths : RowO F w vo no
theorem Spl.sim {F : Nat → Prop} {w w' : World} {vp vc vo : Value} {np nc no : Nat} (h : Spl F w vp vc vo np nc no) (k : Sim w w') : Spl F w' vp vc vo np nc no := ⟨h.path.sim k, h.comms.sim k, h.oths.sim k⟩
theorem intc_cell {w : World} {xs : List Int} {b off : Nat} (h : ∀ (i : Nat) (x : Int), xs[i]? = some x → ∃ cs : List Value, cs.length = 1 ∧ IntC x cs ∧ ∀ (j : Nat) (c : Value), cs[j]? = some c → w.cell? ⟨b, off + i * 1 + j, none⟩ = some c) {j : Nat} (hj : j < xs.length) : ∃ m, w.cell? ⟨b, off + j, none⟩ = some (.int .i64 m) ∧ I64r m := by
  obtain ⟨cs, -, ⟨rfl, h2⟩, h3⟩ := h j _ (List.getElem?_eq_getElem hj)
  have := h3 0 _ rfl
  rw [Nat.mul_one, Nat.add_zero] at this
  exact ⟨_, this, h2⟩
theorem bytec_cell {w : World} {xs : List Nat} {b off : Nat} (h : ∀ (i : Nat) (x : Nat), xs[i]? = some x → ∃ cs : List Value, cs.length = 1 ∧ ByteC x cs ∧ ∀ (j : Nat) (c : Value), cs[j]? = some c → w.cell? ⟨b, off + i * 1 + j, none⟩ = some c) {j : Nat} (hj : j < xs.length) : ∃ m : Nat, w.cell? ⟨b, off + j, none⟩ = some (.int .u8 m) ∧ m < 256 := by
  obtain ⟨cs, -, ⟨rfl, h2⟩, h3⟩ := h j _ (List.getElem?_eq_getElem hj)
  have := h3 0 _ rfl
  rw [Nat.mul_one, Nat.add_zero] at this
  exact ⟨_, this, h2⟩
theorem rowI_of {F : Nat → Prop} {w : World} {v : Value} {xs : List Int} (h : IntsAt w v xs) (hf : NF w 1 v) (hF : ∀ g o n c, v = .slice (some ⟨g, o, none⟩) n c → 0 < n → F g) : RowI F w v xs.length := by
  obtain ⟨s, c, rfl, h1, h2, h3⟩ := h
  refine ⟨s, c, rfl, Nat.le_trans h1 h2, fun h0 => ?_⟩
  obtain ⟨g, o, rfl, h4⟩ := h3 h0
  exact ⟨g, o, rfl, hF _ _ _ _ rfl h0, fun j hj => ⟨intc_cell h4 hj, hf g o xs.length c rfl j (by omega)⟩⟩
theorem rowB_of {F : Nat → Prop} {w : World} {v : Value} {xs : List Nat} (h : BytesAt w v xs) (hf : NF w 1 v) (hF : ∀ g o n c, v = .slice (some ⟨g, o, none⟩) n c → 0 < n → F g) : RowB F w v xs.length := by
  obtain ⟨s, c, rfl, h1, h2, h3⟩ := h
  refine ⟨s, c, rfl, Nat.le_trans h1 h2, fun h0 => ?_⟩
  obtain ⟨g, o, rfl, h4⟩ := h3 h0
  exact ⟨g, o, rfl, hF _ _ _ _ rfl h0, fun j hj => ⟨bytec_cell h4 hj, hf g o xs.length c rfl j (by omega)⟩⟩
/-- the second of a pair, where a slice lies. -/
theorem pair_cells {α : Type} {w : World} {R : α → List Value → Prop} {g o n c : Nat} {xs : List α} (h : SlAt w 2 R (.slice (some ⟨g, o, none⟩) n c) xs) {i : Nat} {x : α} (hx : xs[i]? = some x) : ∃ c0 c1, R x [c0, c1] ∧ w.cell? ⟨g, o + i * 2, none⟩ = some c0 ∧ w.cell? ⟨g, o + i * 2 + 1, none⟩ = some c1 := by
  obtain ⟨s, c', e, h1, h2, h3⟩ := h
  injection e with e _ _
  have hi := (List.getElem?_eq_some_iff.1 hx).1
  obtain ⟨b, off, rfl, h4⟩ := h3 (by omega)
  injection e with e
  injection e with e e2 _
  subst e; subst e2
  obtain ⟨cs, l, hR, hc⟩ := h4 i x hx
  match cs, l with
  | [c0, c1], _ => exact ⟨c0, c1, hR, hc 0 c0 rfl, hc 1 c1 rfl⟩
theorem spl_of {F : Nat → Prop} {w : World} {a : At} {vp vc vo : Value} (h : On F w fun W => AtU W a vp vc vo) : Spl F w vp vc vo a.path.length a.comms.length a.others.length := by
  have hs := h.self
  refine ⟨?_, ?_, ?_⟩
  · obtain ⟨s, c, rfl, h1, h2, h3⟩ := id hs.path
    refine ⟨s, c, rfl, Nat.le_trans h1 h2, fun h0 => ?_⟩
    obtain ⟨g, o, rfl, -⟩ := h3 h0
    have hg : F g := on_block h fun W _ hW => by
      obtain ⟨c0, c1, -, h5, -⟩ := pair_cells hW.path (List.getElem?_eq_getElem h0)
      exact ⟨_, _, h5⟩
    refine ⟨g, o, rfl, hg, fun i hi => ?_⟩
    obtain ⟨c0, c1, ⟨u, hu, h6, h7⟩, h4, h5⟩ := pair_cells hs.path (List.getElem?_eq_getElem hi)
    injection hu with hu1 hu2
    injection hu2 with hu2 _
    subst hu1; subst hu2
    refine ⟨⟨_, h4⟩, hs.pnf g o _ c rfl (i * 2) (by omega), c1, _, h5, rowI_of h6 h7 fun g2 o2 n2 c2 e2 hn2 => ?_⟩
    by_cases e : g2 = g
    · exact e ▸ hg
    refine on_block h fun W hWk hW => ?_
    obtain ⟨d0, d1, ⟨u, hu, h8, -⟩, -, h9⟩ := pair_cells hW.path (List.getElem?_eq_getElem hi)
    injection hu with hu1 hu2
    injection hu2 with hu2 _
    subst hu1; subst hu2
    have : W.cell? ⟨g, o + i * 2 + 1, none⟩ = w.cell? ⟨g, o + i * 2 + 1, none⟩ := by simp only [World.cell?, hWk g (Ne.symm e)]
    rw [this, h5] at h9
    obtain rfl := Option.some.inj h9
    subst e2
    obtain ⟨s8, c8, e8, -, -, h10⟩ := h8
    injection e8 with e8 e9 _
    obtain ⟨b10, o10, e10, h11⟩ := h10 (by omega)
    rw [← e8] at e10
    injection e10 with e10
    injection e10 with e10 e11 _
    subst e10; subst e11
    obtain ⟨m, hm, -⟩ := intc_cell h11 (j := 0) (by omega)
    exact ⟨_, _, hm⟩
  · refine rowI_of hs.comms hs.cnf fun g o n c e hn => on_block h fun W _ hW => ?_
    obtain ⟨s8, c8, e8, -, -, h10⟩ := hW.comms
    rw [e] at e8
    injection e8 with e8 e9 _
    obtain ⟨b10, o10, e10, h11⟩ := h10 (by omega)
    rw [← e8] at e10
    injection e10 with e10
    injection e10 with e10 e11 _
    subst e10; subst e11
    obtain ⟨m, hm, -⟩ := intc_cell h11 (j := 0) (by omega)
    exact ⟨_, _, hm⟩
  · obtain ⟨s, c, rfl, h1, h2, h3⟩ := id hs.oths
    refine ⟨s, c, rfl, Nat.le_trans h1 h2, fun h0 => ?_⟩
    obtain ⟨g, o, rfl, -⟩ := h3 h0
    have hg : F g := on_block h fun W _ hW => by
      obtain ⟨c0, c1, -, h5, -⟩ := pair_cells hW.oths (List.getElem?_eq_getElem h0)
      exact ⟨_, _, h5⟩
    refine ⟨g, o, rfl, hg, fun i hi => ?_⟩
    obtain ⟨c0, c1, ⟨u, hu, h6, h7⟩, h4, h5⟩ := pair_cells hs.oths (List.getElem?_eq_getElem hi)
    injection hu with hu1 hu2
    injection hu2 with hu2 _
    subst hu1; subst hu2
    refine ⟨c1, _, h5, rowB_of h6.2 h7 fun g2 o2 n2 c2 e2 hn2 => ?_⟩
    by_cases e : g2 = g
    · exact e ▸ hg
    refine on_block h fun W hWk hW => ?_
    obtain ⟨d0, d1, ⟨u, hu, h8, -⟩, -, h9⟩ := pair_cells hW.oths (List.getElem?_eq_getElem hi)
    injection hu with hu1 hu2
    injection hu2 with hu2 _
    subst hu1; subst hu2
    have : W.cell? ⟨g, o + i * 2 + 1, none⟩ = w.cell? ⟨g, o + i * 2 + 1, none⟩ := by simp only [World.cell?, hWk g (Ne.symm e)]
    rw [this, h5] at h9
    obtain rfl := Option.some.inj h9
    subst e2
    obtain ⟨s8, c8, e8, -, -, h10⟩ := h8.2
    injection e8 with e8 e9 _
    obtain ⟨b10, o10, e10, h11⟩ := h10 (by omega)
    rw [← e8] at e10
    injection e10 with e10
    injection e10 with e10 e11 _
    subst e10; subst e11
    obtain ⟨m, hm, -⟩ := bytec_cell h11 (j := 0) (by omega)
    exact ⟨_, _, hm⟩
end Go.Proofs.Ytadlecnlgkhneaa

/-
  A region that draws its order, reads, and stores at its end: the world as w.drew.
-/
namespace Go.Proofs.Ytadlecnlgkhneaa
open Go.RowKit
theorem region_tailR {P : Program} {id : Nat} {Q : Exit → Act → World → Prop} {a : Act} {w : World} {l : List Oper} (n : Nat) (hm : P.follows .mixedOrders = true) (hB : Region.lexTailB .any l.toArray n = true)
    (h : wpStill P l.toArray w.drew (fun a' => wpList P l.toArray Q (l.drop n) a' w.drew) (l.take n) a) : (Code.region id l.toArray true).wp P Q a w := wp_region_still_tail n hm hB h
end Go.Proofs.Ytadlecnlgkhneaa

/-
  SPOIL: what attributes hold in lists is changed; no other block is.
-/
namespace Go.Proofs.Ytadlecnlgkhneaa
open Go.RowKit

theorem I64r_bits (op : BinOp) (x y : Int) : I64r (bits op .i64 x y) := bits_within op .i64 x y
theorem byte_bits (op : BinOp) (x y : Int) : ∃ m : Nat, bits op .u8 x y = (m : Int) ∧ m < 256 := by
  have h := bits_within op .u8 x y
  exact ⟨(bits op .u8 x y).toNat, by have : (0 : Int) ≤ bits op .u8 x y := h.1; omega, by have h1 : (0 : Int) ≤ bits op .u8 x y := h.1; have h2 : bits op .u8 x y ≤ 255 := h.2; omega⟩
set_option maxHeartbeats 6400000 in
set_option maxRecDepth 100000 in
theorem l_spoil (F : Nat → Prop) (a : At) (v : AV) (w : World) (h : On F w fun W => AvU W a v) (hF : ∀ k, F k → k < w.heap.size) : Calls Try.prog 17 #[v.V] w fun e w' => (∃ x, e = .returned x) ∧ Kept F w w' := by
  obtain ⟨ps, pc, cs, cc, os, oc, rfl, -⟩ := h.self
  have hU : On F w fun W => AtU W a (.slice ps a.path.length pc) (.slice cs a.comms.length cc) (.slice os a.others.length oc) := h.imp fun W hW => by
    obtain ⟨ps', pc', cs', cc', os', oc', e, h⟩ := hW
    simp only [avOf, AV.mk.injEq] at e
    obtain ⟨-, -, e1, -, e2, -, -, -, -, -, e3, -, e4, e5, -, e6⟩ := e
    subst e1; subst e2; subst e3; subst e4; subst e5; subst e6
    exact h
  show Calls Try.prog 17 #[.agg #[.int .i64 a.has, .int .i64 a.origin, .slice ps a.path.length pc, .int .u32 a.hop, .int .i64 a.med, .int .i64 a.loc, .int .i64 a.aggrAs, .int .u32 a.aggrId, .slice cs a.comms.length cc, .slice os a.others.length oc]] w _
  go_enter Try.func17, Try.ntmps17
  go_upto_region 1 with (fail)
  obtain ⟨W0, hW0, q, hb0, -⟩ := box1 w #[.int .i64 a.has, .int .i64 a.origin, .slice ps a.path.length pc, .int .u32 a.hop, .int .i64 a.med, .int .i64 a.loc, .int .i64 a.aggrAs, .int .u32 a.aggrId, .slice cs a.comms.length cc, .slice os a.others.length oc] 35
  rw [← hW0]
  clear hW0
  have SP := spl_of (hU.below hb0)
  have P := Lib.hid SP.path
  have C := Lib.hid SP.comms
  have O := Lib.hid SP.oths
  have ROW : Hid (∀ W, Kept F W0 W → W.heap[w.heap.size]? = some (.cells #[.int .i64 a.has, .int .i64 a.origin, .slice ps a.path.length pc, .int .u32 a.hop, .int .i64 a.med, .int .i64 a.loc, .int .i64 a.aggrAs, .int .u32 a.aggrId, .slice cs a.comms.length cc, .slice os a.others.length oc] 35 (0, 0))) := Lib.hid fun W hk => (hk.block _ (row_lt q) (fun h => Nat.lt_irrefl _ (hF _ h))).trans q
  have B0 : Hid (Kept F w W0) := Lib.hid (Kept.of_below hb0)
  have y2 := row_cell q 2
  clear SP q hb0 h hU hF
  obtain ⟨-, -, e, pl, -⟩ := id P.out
  have pl : a.path.length ≤ 9223372036854775807 := pl
  obtain ⟨-, -, e, cl, -⟩ := id C.out
  have cl : a.comms.length ≤ 9223372036854775807 := cl
  obtain ⟨-, -, e, ol, -⟩ := id O.out
  have ol : a.others.length ≤ 9223372036854775807 := ol
  go_wp2_with fail
  clear y2
  go_loopw [10] (fun t wr => ∃ i : Nat, i ≤ a.path.length ∧ t = .int .i64 i ∧ Hid (Kept F W0 wr) ∧ Hid (Sim W0 wr)) (fun t _ => a.path.length - (intOf t).toNat)
  case atStart => exact ⟨0, by omega, rfl, Lib.hid (Kept.refl _ _), Lib.hid (Sim.refl _)⟩
  case round =>
    obtain ⟨i, hi, rfl, K, S⟩ := hrel
    by_cases hlt : i < a.path.length
    · obtain ⟨s', c', e, -, h3⟩ := P.out
      injection e with e _ ec
      subst e; subst ec
      obtain ⟨g, o, rfl, hFg, hI⟩ := h3 (by omega)
      obtain ⟨⟨b0, hb0⟩, hf0, u, k, hu, hR⟩ := hI i hlt
      obtain ⟨su, cu, rfl, hkl, -⟩ := id hR
      have R := Lib.hid hR
      have U := Lib.hid hu
      have FG := Lib.hid hFg
      obtain ⟨x, hx, hk⟩ := S.out.cell _ _ _ hb0
      obtain ⟨b, rfl⟩ := hk.ofBool
      have f0 : wr.frozen? ⟨g, o + i * 2, none⟩ = false := (S.out.fr _ _).trans hf0
      have y2 : wr.cell? ⟨w.heap.size, 2, none⟩ = some (.slice (some ⟨g, o, none⟩) a.path.length pc) := row_cell (ROW.out _ K.out) 2
      have i0 : (0 : Int) ≤ (i : Int) := by omega
      have i1 : (i : Int) < (a.path.length : Int) := by omega
      have kl : k ≤ 9223372036854775807 := hkl
      clear hI hb0 hf0 hu hR hFg hk hkl h3
      go_upto_region 4 with (fail)
      refine region_tailR 12 (by kernel_rfl) (by kernel_rfl) ?_
      simp only [List.take_succ_cons, List.take_zero, List.drop_succ_cons, List.drop_zero]
      repeat still_step
      refine wpStill_nil ?_
      go_upto_region 5 with (fail)
      obtain ⟨W1, hW1⟩ : ∃ W1, W1 = (wr.setCell ⟨g, o + i * 2, none⟩ (.bool (!b))).drew := ⟨_, rfl⟩
      have K1 : Hid (Kept F W0 W1) := Lib.hid (by rw [hW1]; exact (K.out.trans (Kept.setCell (F := F) ⟨g, o + i * 2, none⟩ _ FG.out)).trans (Kept.of_below ((Below.refl _ _).drew)))
      have S1 : Hid (Sim W0 W1) := Lib.hid (by rw [hW1]; exact (S.out.set (v := .bool b) hx (.bool _ _)).drew)
      rw [← hW1]
      clear hW1 hx f0 K S
      have y2 : W1.cell? ⟨w.heap.size, 2, none⟩ = some (.slice (some ⟨g, o, none⟩) a.path.length pc) := row_cell (ROW.out _ K1.out) 2
      obtain ⟨x, y3, hk⟩ := S1.out.cell _ _ _ U.out
      obtain rfl := hk.ofSlice
      clear hk
      go_wp2_with fail
      clear y2 y3
      go_loopw [32] (fun t wr => ∃ j : Nat, j ≤ k ∧ t = .int .i64 j ∧ Hid (Kept F W0 wr) ∧ Hid (Sim W0 wr)) (fun t _ => k - (intOf t).toNat)
      case atStart => exact ⟨0, by omega, rfl, K1, S1⟩
      case round =>
        clear K1 S1
        obtain ⟨j, hj, rfl, K, S⟩ := hrel
        by_cases hjk : j < k
        · obtain ⟨s', c', e, -, h3⟩ := R.out.sim S.out
          injection e with e _ ec
          subst e; subst ec
          obtain ⟨g2, o2, rfl, hFg, hI⟩ := h3 (by omega)
          obtain ⟨⟨m, x4, hm⟩, f4⟩ := hI j hjk
          obtain ⟨x, y3, hk⟩ := S.out.cell _ _ _ U.out
          obtain rfl := hk.ofSlice
          have y2 : wr.cell? ⟨w.heap.size, 2, none⟩ = some (.slice (some ⟨g, o, none⟩) a.path.length pc) := row_cell (ROW.out _ K.out) 2
          have j0 : (0 : Int) ≤ (j : Int) := by omega
          have j1 : (j : Int) < (k : Int) := by omega
          have FG2 := Lib.hid hFg
          have X4 := Lib.hid x4
          clear hI hm hFg hk h3
          go_upto_region 9 with (fail)
          obtain ⟨W1, hW1⟩ : ∃ W1, W1 = wr.setCell ⟨g2, o2 + j, none⟩ (.int .i64 (bits .xor .i64 m 1)) := ⟨_, rfl⟩
          have K1 : Hid (Kept F W0 W1) := Lib.hid (by rw [hW1]; exact K.out.trans (Kept.setCell (F := F) ⟨g2, o2 + j, none⟩ _ FG2.out))
          have S1 : Hid (Sim W0 W1) := Lib.hid (by rw [hW1]; exact S.out.set X4.out (.int _ _ (I64r_bits _ _ _)))
          rw [← hW1]
          clear hW1 x4 f4 K S y2 y3 X4
          go_wp2_with fail
          exact ⟨⟨j + 1, by omega, by go_num, K1, S1⟩, by simp [intOf]; omega⟩
        · obtain rfl : j = k := by omega
          clear hj hjk
          go_wp2_with fail
          exact ⟨⟨i + 1, by omega, by go_num, K, S⟩, by simp [intOf]; omega⟩
    · obtain rfl : i = a.path.length := by omega
      have y8 : wr.cell? ⟨w.heap.size, 8, none⟩ = some (.slice cs a.comms.length cc) := row_cell (ROW.out _ K.out) 8
      clear hi hlt
      go_wp2_with fail
      clear y8
      go_loopw [51] (fun t wr => ∃ j : Nat, j ≤ a.comms.length ∧ t = .int .i64 j ∧ Hid (Kept F W0 wr) ∧ Hid (Sim W0 wr)) (fun t _ => a.comms.length - (intOf t).toNat)
      case atStart => exact ⟨0, by omega, rfl, K, S⟩
      case round =>
        clear K S
        obtain ⟨j, hj, rfl, K, S⟩ := hrel
        by_cases hjk : j < a.comms.length
        · obtain ⟨s', c', e, -, h3⟩ := C.out.sim S.out
          injection e with e _ ec
          subst e; subst ec
          obtain ⟨g2, o2, rfl, hFg, hI⟩ := h3 (by omega)
          obtain ⟨⟨m, x4, hm⟩, f4⟩ := hI j hjk
          have y8 : wr.cell? ⟨w.heap.size, 8, none⟩ = some (.slice (some ⟨g2, o2, none⟩) a.comms.length cc) := row_cell (ROW.out _ K.out) 8
          have j0 : (0 : Int) ≤ (j : Int) := by omega
          have j1 : (j : Int) < (a.comms.length : Int) := by omega
          have FG2 := Lib.hid hFg
          have X4 := Lib.hid x4
          clear hI hm hFg h3
          go_upto_region 15 with (fail)
          obtain ⟨W1, hW1⟩ : ∃ W1, W1 = wr.setCell ⟨g2, o2 + j, none⟩ (.int .i64 (bits .xor .i64 m 1)) := ⟨_, rfl⟩
          have K1 : Hid (Kept F W0 W1) := Lib.hid (by rw [hW1]; exact K.out.trans (Kept.setCell (F := F) ⟨g2, o2 + j, none⟩ _ FG2.out))
          have S1 : Hid (Sim W0 W1) := Lib.hid (by rw [hW1]; exact S.out.set X4.out (.int _ _ (I64r_bits _ _ _)))
          rw [← hW1]
          clear hW1 x4 f4 K S y8 X4
          go_wp2_with fail
          exact ⟨⟨j + 1, by omega, by go_num, K1, S1⟩, by simp [intOf]; omega⟩
        · obtain rfl : j = a.comms.length := by omega
          have y9 : wr.cell? ⟨w.heap.size, 9, none⟩ = some (.slice os a.others.length oc) := row_cell (ROW.out _ K.out) 9
          clear hj hjk
          go_wp2_with fail
          clear y9
          go_loopw [65] (fun t wr => ∃ i : Nat, i ≤ a.others.length ∧ t = .int .i64 i ∧ Hid (Kept F W0 wr) ∧ Hid (Sim W0 wr)) (fun t _ => a.others.length - (intOf t).toNat)
          case atStart => exact ⟨0, by omega, rfl, K, S⟩
          case round =>
            clear K S
            obtain ⟨i, hi, rfl, K, S⟩ := hrel
            by_cases hlt : i < a.others.length
            · obtain ⟨s', c', e, -, h3⟩ := O.out
              injection e with e _ ec
              subst e; subst ec
              obtain ⟨g, o, rfl, -, hI⟩ := h3 (by omega)
              obtain ⟨u, k, hu, hR⟩ := hI i hlt
              obtain ⟨su, cu, rfl, hkl, -⟩ := id hR
              have R := Lib.hid hR
              have U := Lib.hid hu
              obtain ⟨x, y3, hk⟩ := S.out.cell _ _ _ hu
              obtain rfl := hk.ofSlice
              have y9 : wr.cell? ⟨w.heap.size, 9, none⟩ = some (.slice (some ⟨g, o, none⟩) a.others.length oc) := row_cell (ROW.out _ K.out) 9
              have i0 : (0 : Int) ≤ (i : Int) := by omega
              have i1 : (i : Int) < (a.others.length : Int) := by omega
              have kl : k ≤ 9223372036854775807 := hkl
              clear hI hu hR hk hkl h3
              go_wp2_with fail
              clear y9 y3
              go_loopw [75] (fun t wr => ∃ j : Nat, j ≤ k ∧ t = .int .i64 j ∧ Hid (Kept F W0 wr) ∧ Hid (Sim W0 wr)) (fun t _ => k - (intOf t).toNat)
              case atStart => exact ⟨0, by omega, rfl, K, S⟩
              case round =>
                clear K S
                obtain ⟨j, hj, rfl, K, S⟩ := hrel
                by_cases hjk : j < k
                · obtain ⟨s', c', e, -, h3⟩ := R.out.sim S.out
                  injection e with e _ ec
                  subst e; subst ec
                  obtain ⟨g2, o2, rfl, hFg, hI⟩ := h3 (by omega)
                  obtain ⟨⟨m, x4, hm⟩, f4⟩ := hI j hjk
                  obtain ⟨x, y3, hk⟩ := S.out.cell _ _ _ U.out
                  obtain rfl := hk.ofSlice
                  have y9 : wr.cell? ⟨w.heap.size, 9, none⟩ = some (.slice (some ⟨g, o, none⟩) a.others.length oc) := row_cell (ROW.out _ K.out) 9
                  have j0 : (0 : Int) ≤ (j : Int) := by omega
                  have j1 : (j : Int) < (k : Int) := by omega
                  have FG2 := Lib.hid hFg
                  have X4 := Lib.hid x4
                  clear hI hm hFg hk h3
                  go_upto_region 23 with (fail)
                  obtain ⟨W1, hW1⟩ : ∃ W1, W1 = wr.setCell ⟨g2, o2 + j, none⟩ (.int .u8 (bits .xor .u8 m 1)) := ⟨_, rfl⟩
                  have K1 : Hid (Kept F W0 W1) := Lib.hid (by rw [hW1]; exact K.out.trans (Kept.setCell (F := F) ⟨g2, o2 + j, none⟩ _ FG2.out))
                  have S1 : Hid (Sim W0 W1) := Lib.hid (by
                    rw [hW1]
                    obtain ⟨z, hz, hz2⟩ := byte_bits .xor (m : Int) 1
                    rw [hz]
                    exact S.out.set X4.out (.byte _ _ hz2))
                  rw [← hW1]
                  clear hW1 x4 f4 K S y9 y3 X4
                  go_wp2_with fail
                  exact ⟨⟨j + 1, by omega, by go_num, K1, S1⟩, by simp [intOf]; omega⟩
                · obtain rfl : j = k := by omega
                  clear hj hjk
                  go_wp2_with fail
                  exact ⟨⟨i + 1, by omega, by go_num, K, S⟩, by simp [intOf]; omega⟩
            · obtain rfl : i = a.others.length := by omega
              clear hi hlt
              go_wp2_with fail
              exact bodyPost_end (results_none rfl _ _ _) rfl ⟨⟨_, rfl⟩, B0.out.trans K.out⟩
end Go.Proofs.Ytadlecnlgkhneaa
