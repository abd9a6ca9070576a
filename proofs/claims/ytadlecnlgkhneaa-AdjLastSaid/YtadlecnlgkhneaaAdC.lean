/-
  WHAT A PEER SAYS: a message as a value; whether its prefixes are all in their form.
-/
import Derived.Test.YtadlecnlgkhneaaAdS
import Derived.Test.YtadlecnlgkhneaaTaP
import Derived.DeepKeys4
namespace Go.Proofs.Ytadlecnlgkhneaa
open Go.RowKit Go.Maps Go.ChangeMaps

/-- a message as the program has it. -/
structure MV where
  kind : Int
  as_ : Int
  hold : Int
  id : Int
  ks : Option Addr
  kn : Nat
  kc : Nat
  gs : Option Addr
  gn : Nat
  gc : Nat
  a : AV
  ns : Option Addr
  nn : Nat
  nc : Nat
  fc : Int
  fs : Int
  fd : ByteArray
abbrev MV.C (m : MV) : Array Value := #[.int .i64 m.kind, .int .i64 m.as_, .int .i64 m.hold, .int .u32 m.id, .slice m.ks m.kn m.kc, .slice m.gs m.gn m.gc,
  .int .i64 m.a.has, .int .i64 m.a.origin, .slice m.a.ps m.a.pn m.a.pc, .int .u32 m.a.hop, .int .i64 m.a.med, .int .i64 m.a.loc, .int .i64 m.a.aggrAs, .int .u32 m.a.aggrId, .slice m.a.cs m.a.cn m.a.cc, .slice m.a.os m.a.on m.a.oc,
  .slice m.ns m.nn m.nc, .int .i64 m.fc, .int .i64 m.fs, .string m.fd]
abbrev MV.V (m : MV) : Value := .agg m.C
abbrev MV.G (m : MV) : Value := .slice m.gs m.gn m.gc
abbrev MV.N (m : MV) : Value := .slice m.ns m.nn m.nc
/-! ### prefixes as keys of maps -/
abbrev pfV (p : Pf) : Value := .agg #[.int .u32 p.1, .int .i64 p.2]
def KOk (p : Pf) : Prop := (0 ≤ p.1 ∧ p.1 < 4294967296) ∧ I64r p.2
theorem pf_lit (k : Pf) (h : KOk k) : ∃ l, keyOf Try.prog 29 (pfV k) = some l := by
  refine ⟨.string (keyBytes [.int .u32 k.1, .int .i64 k.2]), ?_⟩
  obtain ⟨m, hsz⟩ : ∃ m, Try.prog.types.size = m + 1 := ⟨Try.prog.types.size - 1, by kernel_rfl⟩
  have hkt : Try.prog.keyType 29 = true := by kernel_rfl
  have hc : Try.prog.cellsOf 29 = 2 := by kernel_rfl
  have h1 : Try.prog.cellsOf 3 = 1 := by kernel_rfl
  have h2 : Try.prog.cellsOf 27 = 1 := by kernel_rfl
  unfold keyOf
  simp only [Try.underlying29]
  rw [if_pos (by simp [hkt, Value.formed, Try.underlying29, hc]), hsz]
  unfold Program.keyLits
  simp only [Try.underlying29, Value.cells]
  rw [if_pos (by rw [hc]; exact ⟨rfl, by kernel_rfl⟩)]
  have hn : ∀ n : Int, I64r n → Try.prog.keyLits (m + 1) 3 [.int .i64 n] = some [.int .i64 n] := fun n hn => by
    unfold I64r at hn
    unfold Program.keyLits; simp [Try.underlying3, WalkArith.wf_i64 (show _ by omega)]
  have hu : ∀ n : Int, (0 ≤ n ∧ n < 4294967296) → Try.prog.keyLits (m + 1) 27 [.int .u32 n] = some [.int .u32 n] := fun n hn => by
    unfold Program.keyLits; simp [Try.underlying27, Lit.wf, IntKind.min, IntKind.max, IntKind.bits, IntKind.signed]; omega
  simp only [h1, h2, List.mapM_cons, List.mapM_nil, List.drop_zero, List.drop_succ_cons, List.take_succ_cons, List.take_zero, hn _ h.2, hu _ h.1]
  rfl
theorem pf_enc : KeyEnc Try.prog 29 pfV KOk where
  K := Maps.Keyed.of_law (deep_law_laid (by kernel_rfl) (m := 2) (by decide) (of_decide_eq_true (by kernel_rfl)) (by kernel_rfl) (by kernel_rfl))
  lit := pf_lit
  inj a b h := by
    obtain ⟨a1, a2⟩ := a
    obtain ⟨b1, b2⟩ := b
    simp at h
    obtain ⟨h1, h2⟩ := h
    rw [h1, h2]
abbrev unV (_ : Unit) : Value := .agg #[]
abbrev SeenT (W : World) (b : Nat) (l : List (Pf × Unit)) : Prop := MapT pfV unV KOk W b l
def chkE (ps : List Pf) : Int := if rights ps then 0 else 1
theorem chk_bad {gone nets : List Pf} {j k : Nat} {x : Pf} (hx : (if j = 0 then gone else nets)[k]? = some x) (hr : rightB x.1 x.2 = false) : chkE (gone ++ nets) = 1 := by
  unfold chkE
  have : rights (gone ++ nets) = false := by
    unfold rights
    rw [List.all_eq_false]
    refine ⟨x, ?_, by rw [hr]; decide⟩
    have := List.mem_of_getElem? hx
    rw [List.mem_append]
    split at this
    · exact .inl this
    · exact .inr this
  rw [this]; rfl
theorem chk_ok {gone nets : List Pf} (h : AllR gone gone.length) (h2 : AllR nets nets.length) : chkE (gone ++ nets) = 0 := by
  unfold chkE
  have : rights (gone ++ nets) = true := by
    unfold rights
    have a := allR_all h
    have b := allR_all h2
    unfold rights at a b
    rw [List.all_append, a, b]; rfl
  rw [this]; rfl
theorem right_key {p : Pf} (ho : OkP p) (hr : rightB p.1 p.2 = true) : KOk p := by
  have := rightB_range hr
  exact ⟨ho, by unfold I64r; omega⟩
set_option maxHeartbeats 6400000 in
set_option maxRecDepth 100000 in
theorem ad_check (m : MV) (gone nets : List Pf) (w : World) (hg : PsAt w m.G gone) (hn : PsAt w m.N nets) (hz : gone.length + nets.length ≤ 656) :
    Calls Try.prog 25 #[m.V] w fun e w' => e = .returned (.int .i64 (chkE (gone ++ nets))) ∧ Below w.heap.size w w' := by
  have HG := Lib.hid hg
  have HN := Lib.hid hn
  have NB := Lib.hid (fun (j k : Nat) (x : Pf) hx hr => chk_bad (gone := gone) (nets := nets) (j := j) (k := k) (x := x) hx hr)
  have NO := Lib.hid (chk_ok (gone := gone) (nets := nets))
  generalize hE : chkE (gone ++ nets) = E at NB NO ⊢
  clear hE hg hn
  have hmm := @run_makeMap Try.prog
  obtain ⟨sg, cg, hsg, -⟩ := id HG.out
  obtain ⟨sn, cn, hsn, -⟩ := id HN.out
  go_enter Try.func25, Try.ntmps25
  go_upto_region 1 with (fail)
  obtain ⟨W0, hW0, q0, hb0, -⟩ := box1 w m.C 43
  rw [← hW0]
  clear hW0
  have cg0 : W0.cell? ⟨w.heap.size, 5, none⟩ = some m.G := row_cell q0 5
  have cn0 : W0.cell? ⟨w.heap.size, 16, none⟩ = some m.N := row_cell q0 16
  rw [hsg] at cg0
  rw [hsn] at cn0
  clear q0
  go_upto_region 2 with (fail)
  obtain ⟨W1, hW1⟩ : ∃ W1, W1 = W0.alloc (.map #[] 0) := ⟨_, rfl⟩
  have hb1 : Below W0.heap.size W0 W1 := by rw [hW1]; exact (Below.refl _ _).alloc (Nat.le_refl _) _
  have SM : Hid (SeenT W1 W0.heap.size []) := Lib.hid (by rw [hW1]; exact MapT.made W0)
  rw [← hW1]
  clear hW1
  have cg0 := cell_below cg0 hb1
  have cn0 := cell_below cn0 hb1
  have LM : Hid (w.heap.size ≤ W0.heap.size) := Lib.hid hb0.size
  have LM1 : Hid (W0.heap.size < W1.heap.size) := Lib.hid SM.out.lt
  have B1 := Lib.hid (below_on hb0 hb1)
  generalize W0.heap.size = mb at SM LM LM1 ⊢
  clear hb0 hb1 hmm
  go_upto_region 3 with (fail)
  obtain ⟨W2, hW2, q2, hb2, -⟩ := box1 W1 #[.slice sg gone.length cg, .slice sn nets.length cn] 25
  rw [← hW2]
  clear hW2 cg0 cn0
  have s0 : W2.cell? ⟨W1.heap.size, 0, none⟩ = some (.slice sg gone.length cg) := row_cell q2 0
  have s1 : W2.cell? ⟨W1.heap.size, 1, none⟩ = some (.slice sn nets.length cn) := row_cell q2 1
  have B2 := Lib.hid (below_on B1.out hb2)
  have SM2 := Lib.hid (SM.out.below hb2)
  have LS : Hid (∀ j : Nat, j < 2 → ∃ sa cap, W2.cell? ⟨W1.heap.size, j, none⟩ = some (.slice sa (if j = 0 then gone else nets).length cap) ∧ PsAt w (.slice sa (if j = 0 then gone else nets).length cap) (if j = 0 then gone else nets)) := Lib.hid (by
    intro j hj
    by_cases e : j = 0
    · subst e
      refine ⟨sg, cg, s0, ?_⟩
      show PsAt w (.slice sg gone.length cg) gone
      rw [← hsg]; exact HG.out
    · obtain rfl : j = 1 := by omega
      refine ⟨sn, cn, s1, ?_⟩
      show PsAt w (.slice sn nets.length cn) nets
      rw [← hsn]; exact HN.out)
  have NS : Hid (¬ W1.heap.size = mb) := Lib.hid (by have := LM1.out; omega)
  have LL : Hid (∀ j : Nat, j < 2 → (if j = 0 then 0 else gone.length) + (if j = 0 then gone else nets).length ≤ 656) := Lib.hid (by
    intro j hj
    by_cases e : j = 0
    · subst e; simp; omega
    · simp [e]; omega)
  clear q2 hb2 s0 s1 SM B1 HG HN
  generalize W1.heap.size = sb at LS NS ⊢
  have BK : Hid (∀ W, Kept (fun b => b = mb) W2 W → Below w.heap.size w W) := Lib.hid fun W k => B2.out.trans (k.below B2.out.size (by rintro g rfl; exact LM.out))
  go_wp2_with fail
  go_loopw [15] (fun k15 wr => ∃ (j : Nat) (l : List (Pf × Unit)), j ≤ 2 ∧ k15 = .int .i64 j ∧ Hid (SeenT wr mb l ∧ l.length ≤ (if j = 0 then 0 else if j = 1 then gone.length else 656) ∧ (∀ i, i < j → AllR (if i = 0 then gone else nets) (if i = 0 then gone else nets).length)) ∧ Hid (Kept (fun b => b = mb) W2 wr)) (fun k15 _ => 2 - (intOf k15).toNat)
  case atStart => exact ⟨0, [], by omega, rfl, Lib.hid ⟨SM2.out, by simp, fun i hi => by omega⟩, Lib.hid (Kept.refl _ _)⟩
  case round =>
    obtain ⟨j, l0, hj, rfl, I0, K0⟩ := hrel
    by_cases hj2 : j < 2
    · obtain ⟨sa, cap, sj, hP⟩ := LS.out j hj2
      obtain ⟨ls, hls⟩ : ∃ ls, ls = (if j = 0 then gone else nets) := ⟨_, rfl⟩
      rw [← hls] at sj hP
      have NBj := Lib.hid (fun k x => NB.out j k x)
      rw [← hls] at NBj
      have LEN : Hid (l0.length + ls.length ≤ 656) := Lib.hid (by
        have h1 := I0.out.2.1
        have h2 := LL.out j hj2
        rw [← hls] at h2
        by_cases e : j = 0
        · subst e
          rw [if_pos rfl] at h1 h2
          omega
        · obtain rfl : j = 1 := by omega
          have h1' : l0.length ≤ gone.length := by simpa using h1
          have h2' : gone.length + ls.length ≤ 656 := by simpa using h2
          omega)
      have HLS := Lib.hid hls
      clear hls
      have sj := K0.out.cell sj NS.out
      have i0 : (0 : Int) ≤ (j : Int) := by omega
      have i1 : (j : Int) < 2 := by omega
      have lk : ls.length ≤ 656 := by have := LEN.out; omega
      have HPj := Lib.hid hP
      have I0s := Lib.hid I0.out.1
      clear hP
      obtain ⟨sa', cap', hsv, hlc, hcm, hV⟩ := HPj.out
      injection hsv with e1 e2 e3
      subst e1
      have HV := Lib.hid hV
      clear hV e2
      go_wp2_with fail
      clear sj
      go_loopw [21] (fun k21 wq => ∃ (k : Nat) (l : List (Pf × Unit)), k ≤ ls.length ∧ k21 = .int .i64 k ∧ Hid (SeenT wq mb l ∧ l.length ≤ l0.length + k ∧ AllR ls k) ∧ Hid (Kept (fun b => b = mb) W2 wq)) (fun k21 _ => ls.length - (intOf k21).toNat)
      case atStart => exact ⟨0, l0, by omega, rfl, Lib.hid ⟨I0s.out, by omega, fun i x hi => by omega⟩, K0⟩
      case round =>
        obtain ⟨k, l, hk, rfl, I, K⟩ := hrel
        by_cases hlt : k < ls.length
        · obtain ⟨x, hx⟩ : ∃ x, ls[k]? = some x := ⟨_, List.getElem?_eq_getElem hlt⟩
          obtain ⟨b, off, hsa, hQ⟩ := HV.out (by omega)
          subst hsa
          have OX : Hid (OkP x) := Lib.hid (by obtain ⟨cs, _, ⟨_, h⟩, _⟩ := hQ k x hx; exact h)
          obtain ⟨x0, x1⟩ := ps_two hQ hx
          have bm : ¬ b = mb := by have := size_lt x0; have := LM.out; omega
          have x0 := K.out.cell (cell_below x0 B2.out) bm
          have x1 := K.out.cell (cell_below x1 B2.out) bm
          have HX := Lib.hid hx
          have k0 : (0 : Int) ≤ (k : Int) := by omega
          have k1 : (k : Int) < (ls.length : Int) := by omega
          have CK := Lib.hid (fun W => ip_Check x.1 x.2 W OX.out.1 OX.out.2)
          clear hQ hx bm
          go_upto_region 8 with (fail)
          obtain ⟨W3, hW3, q0, q1, hb3⟩ := box2 wr (.int .u32 x.1) (.int .i64 x.2) 29
          rw [← hW3]
          clear hW3 x0 x1
          have K3 := Lib.hid (K.out.grow hb3)
          have S3 := Lib.hid (I.out.1.below hb3)
          clear hb3
          cases hr : rightB x.1 x.2 with
          | false =>
            have EB := Lib.hid (NBj.out k x HX.out hr)
            rw [hr] at CK
            clear hr
            go_wp2_with fail
            refine (CK.out _).mono ?_
            rintro e w4 ⟨rfl, hb4⟩
            have B4 := Lib.hid (K3.out.grow hb4)
            clear hb4 q0 q1
            go_wp2_with fail
            go_ret
            exact ⟨ret_int EB.out.symm, BK.out _ B4.out⟩
          | true =>
            have KX := Lib.hid (right_key OX.out hr)
            have RX := Lib.hid hr
            rw [hr] at CK
            clear hr
            go_wp2_with fail
            refine (CK.out _).mono ?_
            rintro e w4 ⟨rfl, hb4⟩
            have q0 := cell_below q0 hb4
            have q1 := cell_below q1 hb4
            have K4 := Lib.hid (K3.out.grow hb4)
            have S4 := Lib.hid (S3.out.below hb4)
            have I2 := Lib.hid I.out.2
            clear hb4 K3 S3 I
            obtain ⟨o, hrun, hm5⟩ := S4.out.store pf_enc Try.underlying113 x KX.out () (by have := I2.out.1; have := LEN.out; unfold maxLen; omega) w4 rfl
            have M5 := Lib.hid hm5
            have K5 := Lib.hid (K4.out.trans (Kept.setBlock (F := fun b => b = mb) (w := w4) (b := mb) o rfl))
            clear hm5
            go_upto_region 11 with (fail)
            generalize hw5 : setBlock w4 mb o = w5 at M5 K5 ⊢
            clear hw5 q0 q1 hrun S4 K4
            have hlen := M5.out.len Try.underlying113 3 w5 rfl
            have ln : ¬ (((putL l x ()).length : Int) > 656) := by
              have h1 := len_put l x ()
              have h2 := I2.out.1
              have h3 := LEN.out
              split at h1 <;> omega
            have ln2 : Hid ((putL l x ()).length ≤ l0.length + (k + 1)) := Lib.hid (by
              have h1 := len_put l x ()
              have h2 := I2.out.1
              split at h1 <;> omega)
            have AR := Lib.hid (allR_step I2.out.2 HX.out RX.out)
            go_wp2_with fail
            exact ⟨⟨k + 1, _, by omega, by go_num, Lib.hid ⟨M5.out, ln2.out, AR.out⟩, K5⟩, by simp [intOf]; omega⟩
        · obtain rfl : ls.length = k := by omega
          have AL : Hid (∀ i, i < j + 1 → AllR (if i = 0 then gone else nets) (if i = 0 then gone else nets).length) := Lib.hid (by
            intro i hi
            by_cases e : i = j
            · subst e
              rw [← HLS.out]; exact I.out.2.2
            · exact I0.out.2.2 i (by omega))
          have LB : Hid (l.length ≤ (if j + 1 = 0 then 0 else if j + 1 = 1 then gone.length else 656)) := Lib.hid (by
            have h1 := I.out.2.1
            have h2 := LEN.out
            have h3 := I0.out.2.1
            have h4 := HLS.out
            by_cases e : j = 0
            · subst e
              rw [if_pos rfl] at h3 h4
              rw [if_neg (by omega), if_pos (by omega), ← h4]
              omega
            · rw [if_neg (by omega), if_neg (by omega)]
              omega)
          have SQ := Lib.hid I.out.1
          clear I
          go_wp2_with fail
          exact ⟨⟨j + 1, l, by omega, by go_num, Lib.hid ⟨SQ.out, LB.out, AL.out⟩, K⟩, by simp [intOf]; omega⟩
    · obtain rfl : j = 2 := by omega
      have E0 : Hid (E = 0) := Lib.hid (NO.out (I0.out.2.2 0 (by omega)) (I0.out.2.2 1 (by omega)))
      go_wp2_with fail
      go_ret
      exact ⟨ret_int E0.out.symm, BK.out _ K0.out⟩
end Go.Proofs.Ytadlecnlgkhneaa
