/- Texts of one proof, one behind another. -/
import Derived.Test.YtadlecnlgkhneaaRu7
import Derived.Test.YtadlecnlgkhneaaRu4
import Derived.DeepKeys4
import Derived.Test.YtadlecnlgkhneaaRu2
import Derived.SizedLaws
import Derived.Test.YtadlecnlgkhneaaRu6
import Derived.Test.YtadlecnlgkhneaaRu1
import Derived.LoopTactic
import Derived.OwnWalk
import Derived.Deep.DeepCutAuto
import Derived.LoopN
import Derived.Lib.SliceRun
/-
  WHAT A PEER SAYS: a message as a value; whether its prefixes are all in their form.
-/
namespace Go.Proofs.Ytadlecnlgkhneaa
open Go.RowKit Go.Maps Go.ChangeMaps

/-- a message as the program has it. -/
structure MV where
  kind : Int
  as_ : Int
  hold : Int
  id : Int
  ks : Option Addr
  kn : Nat
  kc : Nat
  gs : Option Addr
  gn : Nat
  gc : Nat
  a : AV
  ns : Option Addr
  nn : Nat
  nc : Nat
  fc : Int
  fs : Int
  fd : ByteArray
abbrev MV.C (m : MV) : Array Value := #[.int .i64 m.kind, .int .i64 m.as_, .int .i64 m.hold, .int .u32 m.id, .slice m.ks m.kn m.kc, .slice m.gs m.gn m.gc,
  .int .i64 m.a.has, .int .i64 m.a.origin, .slice m.a.ps m.a.pn m.a.pc, .int .u32 m.a.hop, .int .i64 m.a.med, .int .i64 m.a.loc, .int .i64 m.a.aggrAs, .int .u32 m.a.aggrId, .slice m.a.cs m.a.cn m.a.cc, .slice m.a.os m.a.on m.a.oc,
  .slice m.ns m.nn m.nc, .int .i64 m.fc, .int .i64 m.fs, .string m.fd]
abbrev MV.V (m : MV) : Value := .agg m.C
abbrev MV.G (m : MV) : Value := .slice m.gs m.gn m.gc
abbrev MV.N (m : MV) : Value := .slice m.ns m.nn m.nc
/-! ### prefixes as keys of maps -/
abbrev pfV (p : Pf) : Value := .agg #[.int .u32 p.1, .int .i64 p.2]
def KOk (p : Pf) : Prop := (0 ≤ p.1 ∧ p.1 < 4294967296) ∧ I64r p.2
theorem pf_lit (k : Pf) (h : KOk k) : ∃ l, keyOf Try.prog 29 (pfV k) = some l := by
  refine ⟨.string (keyBytes [.int .u32 k.1, .int .i64 k.2]), ?_⟩
  obtain ⟨m, hsz⟩ : ∃ m, Try.prog.types.size = m + 1 := ⟨Try.prog.types.size - 1, by kernel_rfl⟩
  have hkt : Try.prog.keyType 29 = true := by kernel_rfl
  have hc : Try.prog.cellsOf 29 = 2 := by kernel_rfl
  have h1 : Try.prog.cellsOf 3 = 1 := by kernel_rfl
  have h2 : Try.prog.cellsOf 27 = 1 := by kernel_rfl
  unfold keyOf
  simp only [Try.underlying29]
  rw [if_pos (by simp [hkt, Value.formed, Try.underlying29, hc]), hsz]
  unfold Program.keyLits
  simp only [Try.underlying29, Value.cells]
  rw [if_pos (by rw [hc]; exact ⟨rfl, by kernel_rfl⟩)]
  have hn : ∀ n : Int, I64r n → Try.prog.keyLits (m + 1) 3 [.int .i64 n] = some [.int .i64 n] := fun n hn => by
    unfold I64r at hn
    unfold Program.keyLits; simp [Try.underlying3, WalkArith.wf_i64 (show _ by omega)]
  have hu : ∀ n : Int, (0 ≤ n ∧ n < 4294967296) → Try.prog.keyLits (m + 1) 27 [.int .u32 n] = some [.int .u32 n] := fun n hn => by
    unfold Program.keyLits; simp [Try.underlying27, Lit.wf, IntKind.min, IntKind.max, IntKind.bits, IntKind.signed]; omega
  simp only [h1, h2, List.mapM_cons, List.mapM_nil, List.drop_zero, List.drop_succ_cons, List.take_succ_cons, List.take_zero, hn _ h.2, hu _ h.1]
  rfl
theorem pf_enc : KeyEnc Try.prog 29 pfV KOk where
  K := Maps.Keyed.of_law (deep_law_laid (by kernel_rfl) (m := 2) (by decide) (of_decide_eq_true (by kernel_rfl)) (by kernel_rfl) (by kernel_rfl))
  lit := pf_lit
  inj a b h := by
    obtain ⟨a1, a2⟩ := a
    obtain ⟨b1, b2⟩ := b
    simp at h
    obtain ⟨h1, h2⟩ := h
    rw [h1, h2]
abbrev unV (_ : Unit) : Value := .agg #[]
abbrev SeenT (W : World) (b : Nat) (l : List (Pf × Unit)) : Prop := MapT pfV unV KOk W b l
def chkE (ps : List Pf) : Int := if rights ps then 0 else 1
theorem chk_bad {gone nets : List Pf} {j k : Nat} {x : Pf} (hx : (if j = 0 then gone else nets)[k]? = some x) (hr : rightB x.1 x.2 = false) : chkE (gone ++ nets) = 1 := by
  unfold chkE
  have : rights (gone ++ nets) = false := by
    unfold rights
    rw [List.all_eq_false]
    refine ⟨x, ?_, by rw [hr]; decide⟩
    have := List.mem_of_getElem? hx
    rw [List.mem_append]
    split at this
    · exact .inl this
    · exact .inr this
  rw [this]; rfl
theorem chk_ok {gone nets : List Pf} (h : AllR gone gone.length) (h2 : AllR nets nets.length) : chkE (gone ++ nets) = 0 := by
  unfold chkE
  have : rights (gone ++ nets) = true := by
    unfold rights
    have a := allR_all h
    have b := allR_all h2
    unfold rights at a b
    rw [List.all_append, a, b]; rfl
  rw [this]; rfl
theorem right_key {p : Pf} (ho : OkP p) (hr : rightB p.1 p.2 = true) : KOk p := by
  have := rightB_range hr
  exact ⟨ho, by unfold I64r; omega⟩
set_option maxHeartbeats 6400000 in
set_option maxRecDepth 100000 in
theorem ad_check (m : MV) (gone nets : List Pf) (w : World) (hg : PsAt w m.G gone) (hn : PsAt w m.N nets) (hz : gone.length + nets.length ≤ 656) :
    Calls Try.prog 25 #[m.V] w fun e w' => e = .returned (.int .i64 (chkE (gone ++ nets))) ∧ Below w.heap.size w w' := by
  have HG := Lib.hid hg
  have HN := Lib.hid hn
  have NB := Lib.hid (fun (j k : Nat) (x : Pf) hx hr => chk_bad (gone := gone) (nets := nets) (j := j) (k := k) (x := x) hx hr)
  have NO := Lib.hid (chk_ok (gone := gone) (nets := nets))
  generalize hE : chkE (gone ++ nets) = E at NB NO ⊢
  clear hE hg hn
  have hmm := @run_makeMap Try.prog
  obtain ⟨sg, cg, hsg, -⟩ := id HG.out
  obtain ⟨sn, cn, hsn, -⟩ := id HN.out
  go_enter Try.func25, Try.ntmps25
  go_upto_region 1 with (fail)
  obtain ⟨W0, hW0, q0, hb0, -⟩ := box1 w m.C 43
  rw [← hW0]
  clear hW0
  have cg0 : W0.cell? ⟨w.heap.size, 5, none⟩ = some m.G := row_cell q0 5
  have cn0 : W0.cell? ⟨w.heap.size, 16, none⟩ = some m.N := row_cell q0 16
  rw [hsg] at cg0
  rw [hsn] at cn0
  clear q0
  go_upto_region 2 with (fail)
  obtain ⟨W1, hW1⟩ : ∃ W1, W1 = W0.alloc (.map #[] 0) := ⟨_, rfl⟩
  have hb1 : Below W0.heap.size W0 W1 := by rw [hW1]; exact (Below.refl _ _).alloc (Nat.le_refl _) _
  have SM : Hid (SeenT W1 W0.heap.size []) := Lib.hid (by rw [hW1]; exact MapT.made W0)
  rw [← hW1]
  clear hW1
  have cg0 := cell_below cg0 hb1
  have cn0 := cell_below cn0 hb1
  have LM : Hid (w.heap.size ≤ W0.heap.size) := Lib.hid hb0.size
  have LM1 : Hid (W0.heap.size < W1.heap.size) := Lib.hid SM.out.lt
  have B1 := Lib.hid (below_on hb0 hb1)
  generalize W0.heap.size = mb at SM LM LM1 ⊢
  clear hb0 hb1 hmm
  go_upto_region 3 with (fail)
  obtain ⟨W2, hW2, q2, hb2, -⟩ := box1 W1 #[.slice sg gone.length cg, .slice sn nets.length cn] 25
  rw [← hW2]
  clear hW2 cg0 cn0
  have s0 : W2.cell? ⟨W1.heap.size, 0, none⟩ = some (.slice sg gone.length cg) := row_cell q2 0
  have s1 : W2.cell? ⟨W1.heap.size, 1, none⟩ = some (.slice sn nets.length cn) := row_cell q2 1
  have B2 := Lib.hid (below_on B1.out hb2)
  have SM2 := Lib.hid (SM.out.below hb2)
  have LS : Hid (∀ j : Nat, j < 2 → ∃ sa cap, W2.cell? ⟨W1.heap.size, j, none⟩ = some (.slice sa (if j = 0 then gone else nets).length cap) ∧ PsAt w (.slice sa (if j = 0 then gone else nets).length cap) (if j = 0 then gone else nets)) := Lib.hid (by
    intro j hj
    by_cases e : j = 0
    · subst e
      refine ⟨sg, cg, s0, ?_⟩
      show PsAt w (.slice sg gone.length cg) gone
      rw [← hsg]; exact HG.out
    · obtain rfl : j = 1 := by omega
      refine ⟨sn, cn, s1, ?_⟩
      show PsAt w (.slice sn nets.length cn) nets
      rw [← hsn]; exact HN.out)
  have NS : Hid (¬ W1.heap.size = mb) := Lib.hid (by have := LM1.out; omega)
  have LL : Hid (∀ j : Nat, j < 2 → (if j = 0 then 0 else gone.length) + (if j = 0 then gone else nets).length ≤ 656) := Lib.hid (by
    intro j hj
    by_cases e : j = 0
    · subst e; simp; omega
    · simp [e]; omega)
  clear q2 hb2 s0 s1 SM B1 HG HN
  generalize W1.heap.size = sb at LS NS ⊢
  have BK : Hid (∀ W, Kept (fun b => b = mb) W2 W → Below w.heap.size w W) := Lib.hid fun W k => B2.out.trans (k.below B2.out.size (by rintro g rfl; exact LM.out))
  go_wp2_with fail
  go_loopw [15] (fun k15 wr => ∃ (j : Nat) (l : List (Pf × Unit)), j ≤ 2 ∧ k15 = .int .i64 j ∧ Hid (SeenT wr mb l ∧ l.length ≤ (if j = 0 then 0 else if j = 1 then gone.length else 656) ∧ (∀ i, i < j → AllR (if i = 0 then gone else nets) (if i = 0 then gone else nets).length)) ∧ Hid (Kept (fun b => b = mb) W2 wr)) (fun k15 _ => 2 - (intOf k15).toNat)
  case atStart => exact ⟨0, [], by omega, rfl, Lib.hid ⟨SM2.out, by simp, fun i hi => by omega⟩, Lib.hid (Kept.refl _ _)⟩
  case round =>
    obtain ⟨j, l0, hj, rfl, I0, K0⟩ := hrel
    by_cases hj2 : j < 2
    · obtain ⟨sa, cap, sj, hP⟩ := LS.out j hj2
      obtain ⟨ls, hls⟩ : ∃ ls, ls = (if j = 0 then gone else nets) := ⟨_, rfl⟩
      rw [← hls] at sj hP
      have NBj := Lib.hid (fun k x => NB.out j k x)
      rw [← hls] at NBj
      have LEN : Hid (l0.length + ls.length ≤ 656) := Lib.hid (by
        have h1 := I0.out.2.1
        have h2 := LL.out j hj2
        rw [← hls] at h2
        by_cases e : j = 0
        · subst e
          rw [if_pos rfl] at h1 h2
          omega
        · obtain rfl : j = 1 := by omega
          have h1' : l0.length ≤ gone.length := by simpa using h1
          have h2' : gone.length + ls.length ≤ 656 := by simpa using h2
          omega)
      have HLS := Lib.hid hls
      clear hls
      have sj := K0.out.cell sj NS.out
      have i0 : (0 : Int) ≤ (j : Int) := by omega
      have i1 : (j : Int) < 2 := by omega
      have lk : ls.length ≤ 656 := by have := LEN.out; omega
      have HPj := Lib.hid hP
      have I0s := Lib.hid I0.out.1
      clear hP
      obtain ⟨sa', cap', hsv, hlc, hcm, hV⟩ := HPj.out
      injection hsv with e1 e2 e3
      subst e1
      have HV := Lib.hid hV
      clear hV e2
      go_wp2_with fail
      clear sj
      go_loopw [21] (fun k21 wq => ∃ (k : Nat) (l : List (Pf × Unit)), k ≤ ls.length ∧ k21 = .int .i64 k ∧ Hid (SeenT wq mb l ∧ l.length ≤ l0.length + k ∧ AllR ls k) ∧ Hid (Kept (fun b => b = mb) W2 wq)) (fun k21 _ => ls.length - (intOf k21).toNat)
      case atStart => exact ⟨0, l0, by omega, rfl, Lib.hid ⟨I0s.out, by omega, fun i x hi => by omega⟩, K0⟩
      case round =>
        obtain ⟨k, l, hk, rfl, I, K⟩ := hrel
        by_cases hlt : k < ls.length
        · obtain ⟨x, hx⟩ : ∃ x, ls[k]? = some x := ⟨_, List.getElem?_eq_getElem hlt⟩
          obtain ⟨b, off, hsa, hQ⟩ := HV.out (by omega)
          subst hsa
          have OX : Hid (OkP x) := Lib.hid (by obtain ⟨cs, _, ⟨_, h⟩, _⟩ := hQ k x hx; exact h)
          obtain ⟨x0, x1⟩ := ps_two hQ hx
          have bm : ¬ b = mb := by have := size_lt x0; have := LM.out; omega
          have x0 := K.out.cell (cell_below x0 B2.out) bm
          have x1 := K.out.cell (cell_below x1 B2.out) bm
          have HX := Lib.hid hx
          have k0 : (0 : Int) ≤ (k : Int) := by omega
          have k1 : (k : Int) < (ls.length : Int) := by omega
          have CK := Lib.hid (fun W => ip_Check x.1 x.2 W OX.out.1 OX.out.2)
          clear hQ hx bm
          go_upto_region 8 with (fail)
          obtain ⟨W3, hW3, q0, q1, hb3⟩ := box2 wr (.int .u32 x.1) (.int .i64 x.2) 29
          rw [← hW3]
          clear hW3 x0 x1
          have K3 := Lib.hid (K.out.grow hb3)
          have S3 := Lib.hid (I.out.1.below hb3)
          clear hb3
          cases hr : rightB x.1 x.2 with
          | false =>
            have EB := Lib.hid (NBj.out k x HX.out hr)
            rw [hr] at CK
            clear hr
            go_wp2_with fail
            refine (CK.out _).mono ?_
            rintro e w4 ⟨rfl, hb4⟩
            have B4 := Lib.hid (K3.out.grow hb4)
            clear hb4 q0 q1
            go_wp2_with fail
            go_ret
            exact ⟨ret_int EB.out.symm, BK.out _ B4.out⟩
          | true =>
            have KX := Lib.hid (right_key OX.out hr)
            have RX := Lib.hid hr
            rw [hr] at CK
            clear hr
            go_wp2_with fail
            refine (CK.out _).mono ?_
            rintro e w4 ⟨rfl, hb4⟩
            have q0 := cell_below q0 hb4
            have q1 := cell_below q1 hb4
            have K4 := Lib.hid (K3.out.grow hb4)
            have S4 := Lib.hid (S3.out.below hb4)
            have I2 := Lib.hid I.out.2
            clear hb4 K3 S3 I
            obtain ⟨o, hrun, hm5⟩ := S4.out.store pf_enc Try.underlying113 x KX.out () (by have := I2.out.1; have := LEN.out; unfold maxLen; omega) w4 rfl
            have M5 := Lib.hid hm5
            have K5 := Lib.hid (K4.out.trans (Kept.setBlock (F := fun b => b = mb) (w := w4) (b := mb) o rfl))
            clear hm5
            go_upto_region 11 with (fail)
            generalize hw5 : setBlock w4 mb o = w5 at M5 K5 ⊢
            clear hw5 q0 q1 hrun S4 K4
            have hlen := M5.out.len Try.underlying113 3 w5 rfl
            have ln : ¬ (((putL l x ()).length : Int) > 656) := by
              have h1 := len_put l x ()
              have h2 := I2.out.1
              have h3 := LEN.out
              split at h1 <;> omega
            have ln2 : Hid ((putL l x ()).length ≤ l0.length + (k + 1)) := Lib.hid (by
              have h1 := len_put l x ()
              have h2 := I2.out.1
              split at h1 <;> omega)
            have AR := Lib.hid (allR_step I2.out.2 HX.out RX.out)
            go_wp2_with fail
            exact ⟨⟨k + 1, _, by omega, by go_num, Lib.hid ⟨M5.out, ln2.out, AR.out⟩, K5⟩, by simp [intOf]; omega⟩
        · obtain rfl : ls.length = k := by omega
          have AL : Hid (∀ i, i < j + 1 → AllR (if i = 0 then gone else nets) (if i = 0 then gone else nets).length) := Lib.hid (by
            intro i hi
            by_cases e : i = j
            · subst e
              rw [← HLS.out]; exact I.out.2.2
            · exact I0.out.2.2 i (by omega))
          have LB : Hid (l.length ≤ (if j + 1 = 0 then 0 else if j + 1 = 1 then gone.length else 656)) := Lib.hid (by
            have h1 := I.out.2.1
            have h2 := LEN.out
            have h3 := I0.out.2.1
            have h4 := HLS.out
            by_cases e : j = 0
            · subst e
              rw [if_pos rfl] at h3 h4
              rw [if_neg (by omega), if_pos (by omega), ← h4]
              omega
            · rw [if_neg (by omega), if_neg (by omega)]
              omega)
          have SQ := Lib.hid I.out.1
          clear I
          go_wp2_with fail
          exact ⟨⟨j + 1, l, by omega, by go_num, Lib.hid ⟨SQ.out, LB.out, AL.out⟩, K⟩, by simp [intOf]; omega⟩
    · obtain rfl : j = 2 := by omega
      have E0 : Hid (E = 0) := Lib.hid (NO.out (I0.out.2.2 0 (by omega)) (I0.out.2.2 1 (by omega)))
      go_wp2_with fail
      go_ret
      exact ⟨ret_int E0.out.symm, BK.out _ K0.out⟩
end Go.Proofs.Ytadlecnlgkhneaa

/-
  HOW LARGE what a caller hands in may be: slices of whatever and attributes, opened, each with the reach of its slices.
-/
namespace Go.Proofs.Ytadlecnlgkhneaa
open Go.RowKit Go.ChangeShapes Go.WideShapes

/-- what is read takes no more than the reach. -/
def Sz {H : Type} (P : Program) (t : TypeId) (d : DataW H) : Prop := ∀ n ∈ d.weights P t, n ≤ 140737488351232
theorem sz_of {H : Type} {P : Program} {ts : List TypeId} {ds : List (DataW H)} (h : (DataW.weightsEach P ts ds).all (· ≤ reachBytes) = true) {j : Nat} {t : TypeId} {d : DataW H} (ht : ts[j]? = some t) (hd : ds[j]? = some d) : Sz P t d := by
  intro n hn
  have := List.all_eq_true.1 h n (DataW.weights_mem_each ht hd n hn)
  exact of_decide_eq_true this
theorem mem_weightsAll {H : Type} {P : Program} {e : TypeId} : ∀ {ds : List (DataW H)} {d : DataW H}, d ∈ ds → ∀ n ∈ d.weights P e, n ∈ DataW.weightsAll P e ds
  | x :: ds, d, h, n, hn => by
    simp only [DataW.weightsAll, List.mem_append]
    rcases List.mem_cons.1 h with rfl | h
    · exact .inl hn
    · exact .inr (mem_weightsAll h n hn)
  | [], _, h, _, _ => by simp at h
theorem sz_field {H : Type} {P : Program} {t : TypeId} {fs : Array Field} (hu : P.underlying t = some (.struct fs)) {parts : List (DataW H)} (h : Sz P t (.agg parts)) {j : Nat} {u : TypeId} {d : DataW H} (hf : (fs.toList.map (·.type))[j]? = some u) (hd : parts[j]? = some d) : Sz P u d := by
  intro n hn
  refine h n ?_
  simp only [DataW.weights, hu]
  exact DataW.weights_mem_each hf hd n hn
section
variable {H : Type} {enc : TypeId × Value → H} {w : World} {base : Nat} {spare : Nat → Bool} {held : Bool}
theorem open_sl_sz {α : Type} {t e : TypeId} {k f bs : Nat} {R : α → List Value → Prop} {S : α → Prop} {cs : List Value} {x : DataW H × List MemPlace} (ht : Try.prog.underlying t = some (.slice e)) (hk : Try.prog.cellsOf e = k) (hb : Try.prog.bytesOf e = bs) (hk0 : 0 < k)
    (hR : ∀ f cs y, DataW.trod enc Try.prog w base spare held f e cs = some y → Sz Try.prog e y.1 → ∃ a : α, R a cs ∧ S a) (h : DataW.trod enc Try.prog w base spare held f t cs = some x) (hz : Sz Try.prog t x.1) :
    ∃ v xs, cs = [v] ∧ SlAt w k R v xs ∧ xs.length * bs ≤ 140737488351232 ∧ ∀ x ∈ xs, S x := by
  rcases Deep.open_slice ht h with ⟨h1, _⟩ | ⟨a, len, cap, m, n, D, Pl, h1, _, hlc, hcap, hm, he, hx⟩
  · exact ⟨_, [], h1, SlAt.nil, by simp, fun x hx => by simp at hx⟩
  · rw [hk] at hx
    have hlm : len ≤ m := by rw [hm]; split <;> omega
    have hz1 : ∀ i, i < len → Sz Try.prog e (D i) := by
      intro i hi q hq
      refine hz q ?_
      rw [he]
      simp only [DataW.weights, ht, List.mem_cons, List.mem_append]
      exact .inr (.inl (mem_weightsAll (List.mem_map.2 ⟨i, List.mem_range.2 hi, rfl⟩) q hq))
    have hz0 : len * bs ≤ 140737488351232 := by
      have := hz (((List.range len).map D).length * bs + ((List.range (m - len)).map fun j => D (len + j)).length * bs) (by
        rw [he]
        simp only [DataW.weights, ht, hb, List.mem_cons, ← Nat.add_mul]
        exact .inl trivial)
      simp at this
      omega
    have hone : ∀ i : Fin len, ∃ z : α × List Value, S z.1 ∧ z.2.length = k ∧ R z.1 z.2 ∧ ∀ j c, z.2[j]? = some c → w.cell? (a.add (i.val * k + j)) = some c := by
      intro i
      obtain ⟨cs', hcs, ht⟩ := hx i.val (by omega)
      obtain ⟨y, hy, hS⟩ := hR _ _ _ ht (hz1 i.val i.isLt)
      obtain ⟨_, hl, hat⟩ := World.cells?_some hcs
      refine ⟨(y, cs'), hS, hl, hy, fun j c hc => ?_⟩
      have hj : j < k := by rw [← hl]; exact (List.getElem?_eq_some_iff.1 hc).1
      have := hat j hj
      rw [Deep.add_add] at this
      rw [this]; exact hc
    have hch := Classical.axiomOfChoice hone
    obtain ⟨g, hg⟩ := hch
    refine ⟨_, List.ofFn fun i => (g i).1, h1, ⟨some a, cap, by simp, by simp; omega, hcap, fun h0 => ?_⟩, by simpa using hz0, fun x hx => ?_⟩
    · have h0' : 0 < len := by simpa using h0
      have hsp : a.spot = none := by
        obtain ⟨_, e1, _, e3⟩ := hg ⟨0, h0'⟩
        have hlt : 0 < (g ⟨0, h0'⟩).2.length := by rw [e1]; exact hk0
        have hc := e3 0 _ (List.getElem?_eq_getElem hlt)
        have e : a.add (0 * k + 0) = a := by unfold Addr.add; simp
        simp only at hc
        rw [e] at hc
        unfold World.cell? at hc
        cases hq : a.spot with
        | none => rfl
        | some q => rw [hq] at hc; simp at hc; split at hc <;> simp at hc
      have had : ∀ k, a.add k = ⟨a.block, a.off + k, none⟩ := fun k => by
        unfold Addr.add
        split
        · rename_i hk; subst hk; cases a; simp at hsp; simp [hsp]
        · rfl
      refine ⟨a.block, a.off, by cases a; simp at hsp; simp [hsp], fun i s hi => ?_⟩
      have hil : i < len := by
        have := (List.getElem?_eq_some_iff.1 hi).1
        simpa using this
      rw [List.getElem?_ofFn] at hi
      simp [hil] at hi
      subst hi
      obtain ⟨_, e1, e2, e3⟩ := hg ⟨i, hil⟩
      refine ⟨_, e1, e2, fun j c hc => ?_⟩
      have := e3 j c hc
      rw [had, ← Nat.add_assoc] at this
      exact this
    · obtain ⟨i, rfl⟩ := (List.mem_ofFn).1 hx
      exact (hg i).1
theorem sl_ints_sz {f : Nat} {c : List Value} {y : DataW H × List MemPlace} (h : DataW.trod enc Try.prog w base spare held f 32 c = some y) (hz : Sz Try.prog 32 y.1) : ∃ v xs, c = [v] ∧ IntsAt w v xs ∧ xs.length * 8 ≤ 140737488351232 := by
  obtain ⟨v, xs, h1, h2, h3, _⟩ := open_sl_sz (k := 1) (bs := 8) (R := IntC) (S := fun _ => True) Try.underlying32 (by kernel_rfl) (by kernel_rfl) (by decide) (fun _ _ _ h _ => by obtain ⟨n, hn⟩ := sl_i64 h; exact ⟨n, hn, trivial⟩) h hz
  exact ⟨v, xs, h1, h2, h3⟩
theorem sl_bytes_sz {f : Nat} {c : List Value} {y : DataW H × List MemPlace} (h : DataW.trod enc Try.prog w base spare held f 95 c = some y) (hz : Sz Try.prog 95 y.1) : ∃ v xs, c = [v] ∧ BytesAt w v xs ∧ xs.length * 1 ≤ 140737488351232 := by
  obtain ⟨v, xs, h1, h2, h3, _⟩ := open_sl_sz (k := 1) (bs := 1) (R := ByteC) (S := fun _ => True) Try.underlying95 (by kernel_rfl) (by kernel_rfl) (by decide) (fun _ _ _ h _ => by obtain ⟨n, hn⟩ := sl_u8 h; exact ⟨n, hn, trivial⟩) h hz
  exact ⟨v, xs, h1, h2, h3⟩
def SgSz (s : Sg) : Prop := s.2.length * 8 ≤ 140737488351232
def OthSz (o : Oth) : Prop := o.2.length ≤ 140737488351232
structure AtSz (a : At) : Prop where
  path : a.path.length * 32 ≤ 140737488351232
  segs : ∀ s ∈ a.path, SgSz s
  comms : a.comms.length * 8 ≤ 140737488351232
  others : a.others.length * 32 ≤ 140737488351232
  vals : ∀ o ∈ a.others, OthSz o
set_option maxRecDepth 100000 in
theorem sl_seg_sz {f : Nat} {cs : List Value} {x : DataW H × List MemPlace} (h : DataW.trod enc Try.prog w base spare held f 54 cs = some x) (hz : Sz Try.prog 54 x.1) : ∃ s : Sg, SegC w s cs ∧ SgSz s := by
  obtain ⟨xs, n, _, hxe, hl, hxl, hf⟩ := DataW.trod_struct Try.underlying54 h
  rw [hxe] at hz
  have hc2 : Try.prog.cellsOf 54 = 2 := by kernel_rfl
  have hcb : Try.prog.cellsOf 4 = 1 := by kernel_rfl
  have hci : Try.prog.cellsOf 32 = 1 := by kernel_rfl
  rw [hc2] at hl
  match cs, hl with
  | [c0, c1], _ =>
    match xs, hxl with
    | [x0, x1], _ =>
      have e0 := hf 0 _ rfl
      have e1 := hf 1 _ rfl
      simp [hcb, hci] at e0 e1
      obtain ⟨s, hs, _⟩ := DataW.trod_bool Try.underlying4 e0
      obtain ⟨v, l, hv, hi, hzl⟩ := sl_ints_sz e1 (sz_field Try.underlying54 hz (j := 1) rfl rfl)
      simp at hs hv
      subst hs; subst hv
      exact ⟨(s, l), ⟨c1, rfl, hi⟩, hzl⟩
set_option maxRecDepth 100000 in
theorem sl_other_sz {f : Nat} {cs : List Value} {x : DataW H × List MemPlace} (h : DataW.trod enc Try.prog w base spare held f 97 cs = some x) (hz : Sz Try.prog 97 x.1) : ∃ s : Oth, OthC w s cs ∧ OthSz s := by
  obtain ⟨xs, n, _, hxe, hl, hxl, hf⟩ := DataW.trod_struct Try.underlying97 h
  rw [hxe] at hz
  have hc2 : Try.prog.cellsOf 97 = 2 := by kernel_rfl
  have hcb : Try.prog.cellsOf 3 = 1 := by kernel_rfl
  have hci : Try.prog.cellsOf 95 = 1 := by kernel_rfl
  rw [hc2] at hl
  match cs, hl with
  | [c0, c1], _ =>
    match xs, hxl with
    | [x0, x1], _ =>
      have e0 := hf 0 _ rfl
      have e1 := hf 1 _ rfl
      simp [hcb, hci] at e0 e1
      obtain ⟨s, hs, ir⟩ := sl_i64 e0
      obtain ⟨v, l, hv, hi, hzl⟩ := sl_bytes_sz e1 (sz_field Try.underlying97 hz (j := 1) rfl rfl)
      simp at hs hv
      subst hs; subst hv
      exact ⟨(s, l), ⟨c1, rfl, ir, hi⟩, by unfold OthSz; simpa using hzl⟩
set_option maxRecDepth 100000 in
theorem sl_attrs_sz {f : Nat} {cs : List Value} {x : DataW H × List MemPlace} (h : DataW.trod enc Try.prog w base spare held f 35 cs = some x) (hz : Sz Try.prog 35 x.1) : ∃ a : At, AtC w a cs ∧ AtSz a := by
  obtain ⟨xs, n, _, hxe, hl, hxl, hf⟩ := DataW.trod_struct Try.underlying35 h
  rw [hxe] at hz
  have hc : Try.prog.cellsOf 35 = 10 := by kernel_rfl
  have hc0 : Try.prog.cellsOf 3 = 1 := by kernel_rfl
  have hc1 : Try.prog.cellsOf 31 = 1 := by kernel_rfl
  have hc2 : Try.prog.cellsOf 27 = 1 := by kernel_rfl
  have hc3 : Try.prog.cellsOf 32 = 1 := by kernel_rfl
  have hc4 : Try.prog.cellsOf 33 = 1 := by kernel_rfl
  rw [hc] at hl
  match cs, hl with
  | [c0, c1, c2, c3, c4, c5, c6, c7, c8, c9], _ =>
    match xs, hxl with
    | [x0, x1, x2, x3, x4, x5, x6, x7, x8, x9], _ =>
      have e0 := hf 0 _ rfl
      have e1 := hf 1 _ rfl
      have e2 := hf 2 _ rfl
      have e3 := hf 3 _ rfl
      have e4 := hf 4 _ rfl
      have e5 := hf 5 _ rfl
      have e6 := hf 6 _ rfl
      have e7 := hf 7 _ rfl
      have e8 := hf 8 _ rfl
      have e9 := hf 9 _ rfl
      simp [hc0, hc1, hc2, hc3, hc4] at e0 e1 e2 e3 e4 e5 e6 e7 e8 e9
      obtain ⟨has, q0, i0⟩ := sl_i64 e0
      obtain ⟨origin, q1, i1⟩ := sl_i64 e1
      obtain ⟨vp, path, q2, i2, z2, s2⟩ := open_sl_sz (k := 2) (bs := 32) (R := SegC w) (S := SgSz) Try.underlying31 (by kernel_rfl) (by kernel_rfl) (by decide) (fun _ _ _ h hz => sl_seg_sz h hz) e2 (sz_field Try.underlying35 hz (j := 2) rfl rfl)
      obtain ⟨hop, q3, i3⟩ := sl_u32 e3
      obtain ⟨med, q4, i4⟩ := sl_i64 e4
      obtain ⟨loc, q5, i5⟩ := sl_i64 e5
      obtain ⟨aggrAs, q6, i6⟩ := sl_i64 e6
      obtain ⟨aggrId, q7, i7⟩ := sl_u32 e7
      obtain ⟨vc, comms, q8, i8, z8⟩ := sl_ints_sz e8 (sz_field Try.underlying35 hz (j := 8) rfl rfl)
      obtain ⟨vo, others, q9, i9, z9, s9⟩ := open_sl_sz (k := 2) (bs := 32) (R := OthC w) (S := OthSz) Try.underlying33 (by kernel_rfl) (by kernel_rfl) (by decide) (fun _ _ _ h hz => sl_other_sz h hz) e9 (sz_field Try.underlying35 hz (j := 9) rfl rfl)
      simp at q0 q1 q2 q3 q4 q5 q6 q7 q8 q9
      subst q0; subst q1; subst q2; subst q3; subst q4; subst q5; subst q6; subst q7; subst q8; subst q9
      exact ⟨⟨has, origin, path, hop, med, loc, aggrAs, aggrId, comms, others⟩, ⟨c2, c8, c9, rfl, ⟨i0, i1, i3, i4, i5, i6, i7⟩, i2, i8, i9⟩, ⟨z2, s2, z8, z9, s9⟩⟩
set_option maxRecDepth 100000 in
/-- attributes that are handed in. -/
theorem open_at_sz {v : Value} {d : DataW H} {p : List MemPlace} {r : Reach} {b0 : Nat} (hv : Value.okWide Try.prog w r b0 35 v) (h : DataW.Trod enc Try.prog w base spare held 35 v d p) (hz : Sz Try.prog 35 d) :
    ∃ (a : At) (vp vc vo : Value), v = .agg (atV a vp vc vo).toArray ∧ a.Rng ∧ AtL w a vp vc vo ∧ AtSz a := by
  obtain ⟨fuel, h⟩ := h
  obtain ⟨cs, rfl, hcs⟩ := okWide_struct Try.underlying35 hv
  obtain ⟨a, ⟨vp, vc, vo, hc, hr, hA⟩, hs⟩ := sl_attrs_sz h hz
  refine ⟨a, vp, vc, vo, ?_, hr, hA, hs⟩
  rw [← hc]
  rfl
end
end Go.Proofs.Ytadlecnlgkhneaa

/-
  slices.Clone at four types.
-/
namespace Go.Proofs.Ytadlecnlgkhneaa
open Go.RowKit

set_option maxRecDepth 100000 in
theorem info_seg : (Try.prog.info? 54).map (fun i => (i.zero, i.size, i.bytes)) = some (some (.agg #[.bool false, .slice none 0 0]), 2, 32) := by kernel_rfl
set_option maxRecDepth 100000 in
theorem info_other : (Try.prog.info? 97).map (fun i => (i.zero, i.size, i.bytes)) = some (some (.agg #[.int .i64 0, .slice none 0 0]), 2, 32) := by kernel_rfl
set_option maxRecDepth 100000 in
theorem info_intT : (Try.prog.info? 3).map (fun i => (i.zero, i.size, i.bytes)) = some (some (.int .i64 0), 1, 8) := by kernel_rfl
set_option maxRecDepth 100000 in
theorem info_byteT : (Try.prog.info? 5).map (fun i => (i.zero, i.size, i.bytes)) = some (some (.int .u8 0), 1, 1) := by kernel_rfl
set_option maxRecDepth 100000 in
set_option maxHeartbeats 1600000 in
theorem sl_CloneSeg (sa : Option Addr) (n cap : Nat) (cs : List Value) (w : World) (hl : cs.length = n * 2) (hn : n ≤ maxLen) (hc : 0 < n → ∃ b off, sa = some ⟨b, off, none⟩ ∧ ∀ q u, cs[q]? = some u → w.cell? ⟨b, off + q, none⟩ = some u)
    (h1 : ∀ u ∈ cs, u.oneCell' = true) (hb : n * 32 ≤ 140737488351232) : Calls Try.prog 44 #[.slice sa n cap] w fun e w' => ∃ v', e = .returned v' ∧ w'.ownsRow w.heap.size 54 2 v' n cs ∧ Below w.heap.size w w' := by
  obtain ⟨i0, hii, hz0, hz1, hz2⟩ := info_parts info_seg
  have HC := Lib.hid hc
  have HL := Lib.hid hl
  have H1 := Lib.hid h1
  unfold maxLen at hn
  clear hc hl h1
  go_enter Try.func44, Try.ntmps44
  cases sa with
  | none =>
    obtain rfl : n = 0 := by
      by_cases h0 : 0 < n
      · obtain ⟨b, off, h, _⟩ := HC.out h0
        cases h
      · omega
    obtain rfl : cs = [] := List.length_eq_zero_iff.1 (by have := HL.out; omega)
    have EQ := Lib.run_eql_slice_nil (P := Try.prog) w 31 54 none 0 cap 0 0 Try.underlying31
    simp only [Option.isNone_none] at EQ
    go_wp2_with fail
    go_ret
    exact ⟨_, rfl, ⟨by simp, .inl ⟨rfl, rfl⟩⟩, Below.refl _ _⟩
  | some a =>
    have CC : Hid (∀ q u, cs[q]? = some u → w.cell? (a.add q) = some u) := Lib.hid (by
      intro q u hq
      by_cases h0 : 0 < n
      · obtain ⟨b, off, h, h2⟩ := HC.out h0
        injection h with h
        subst h
        have e : (⟨b, off, none⟩ : Addr).add q = ⟨b, off + q, none⟩ := by
          unfold Addr.add
          split
          · next h => rw [h]; simp
          · rfl
        rw [e]
        exact h2 q u hq
      · have := (List.getElem?_eq_some_iff.1 hq).1
        rw [HL.out] at this
        have : n = 0 := by omega
        subst this
        omega)
    clear HC
    have OE := Lib.hid (own_empty (w := w) (B := w.heap.size) (e := 54) (k := 2) (Nat.le_refl _))
    have EQ := Lib.run_eql_slice_nil (P := Try.prog) w 31 54 (some a) n cap 0 0 Try.underlying31
    simp only [Option.isNone_some] at EQ
    go_wp2_with (at_builtin; refine wpList_append_own _ rfl _ _ 31 rfl w.heap.size 54 i0 _ 2 32 Try.underlying31 hii hz0 hz1 hz2 rfl (by decide) _ 0 [] rfl OE.out a n cap cs rfl HL.out (fun q u hq => cell_below (CC.out q u hq) ((Below.refl _ _).alloc (Nat.le_refl _) _)) H1.out (by unfold maxLen; omega) (by omega) (by simp) ?_)
    intro v' w' hown hgrow _
    have OW : Hid (w'.ownsRow w.heap.size 54 2 v' n cs) := Lib.hid (by simpa using hown)
    have BW : Hid (Below w.heap.size w w') := Lib.hid (((Below.refl _ _).alloc (Nat.le_refl _) _).grown hgrow (by simp) (fun g hg => by cases hg; exact Nat.le_refl _))
    clear hown hgrow
    go_wp2_with fail
    go_ret
    exact ⟨_, rfl, OW.out, BW.out⟩
set_option maxRecDepth 100000 in
set_option maxHeartbeats 1600000 in
theorem sl_CloneInt (sa : Option Addr) (n cap : Nat) (cs : List Value) (w : World) (hl : cs.length = n * 1) (hn : n ≤ maxLen) (hc : 0 < n → ∃ b off, sa = some ⟨b, off, none⟩ ∧ ∀ q u, cs[q]? = some u → w.cell? ⟨b, off + q, none⟩ = some u)
    (h1 : ∀ u ∈ cs, u.oneCell' = true) (hb : n * 8 ≤ 140737488351232) : Calls Try.prog 45 #[.slice sa n cap] w fun e w' => ∃ v', e = .returned v' ∧ w'.ownsRow w.heap.size 3 1 v' n cs ∧ Below w.heap.size w w' := by
  obtain ⟨i0, hii, hz0, hz1, hz2⟩ := info_parts info_intT
  have HC := Lib.hid hc
  have HL := Lib.hid hl
  have H1 := Lib.hid h1
  unfold maxLen at hn
  clear hc hl h1
  go_enter Try.func45, Try.ntmps45
  cases sa with
  | none =>
    obtain rfl : n = 0 := by
      by_cases h0 : 0 < n
      · obtain ⟨b, off, h, _⟩ := HC.out h0
        cases h
      · omega
    obtain rfl : cs = [] := List.length_eq_zero_iff.1 (by have := HL.out; omega)
    have EQ := Lib.run_eql_slice_nil (P := Try.prog) w 32 3 none 0 cap 0 0 Try.underlying32
    simp only [Option.isNone_none] at EQ
    go_wp2_with fail
    go_ret
    exact ⟨_, rfl, ⟨by simp, .inl ⟨rfl, rfl⟩⟩, Below.refl _ _⟩
  | some a =>
    have CC : Hid (∀ q u, cs[q]? = some u → w.cell? (a.add q) = some u) := Lib.hid (by
      intro q u hq
      by_cases h0 : 0 < n
      · obtain ⟨b, off, h, h2⟩ := HC.out h0
        injection h with h
        subst h
        have e : (⟨b, off, none⟩ : Addr).add q = ⟨b, off + q, none⟩ := by
          unfold Addr.add
          split
          · next h => rw [h]; simp
          · rfl
        rw [e]
        exact h2 q u hq
      · have := (List.getElem?_eq_some_iff.1 hq).1
        rw [HL.out] at this
        have : n = 0 := by omega
        subst this
        omega)
    clear HC
    have OE := Lib.hid (own_empty (w := w) (B := w.heap.size) (e := 3) (k := 1) (Nat.le_refl _))
    have EQ := Lib.run_eql_slice_nil (P := Try.prog) w 32 3 (some a) n cap 0 0 Try.underlying32
    simp only [Option.isNone_some] at EQ
    go_wp2_with (at_builtin; refine wpList_append_own _ rfl _ _ 32 rfl w.heap.size 3 i0 _ 1 8 Try.underlying32 hii hz0 hz1 hz2 rfl (by decide) _ 0 [] rfl OE.out a n cap cs rfl HL.out (fun q u hq => cell_below (CC.out q u hq) ((Below.refl _ _).alloc (Nat.le_refl _) _)) H1.out (by unfold maxLen; omega) (by omega) (by simp) ?_)
    intro v' w' hown hgrow _
    have OW : Hid (w'.ownsRow w.heap.size 3 1 v' n cs) := Lib.hid (by simpa using hown)
    have BW : Hid (Below w.heap.size w w') := Lib.hid (((Below.refl _ _).alloc (Nat.le_refl _) _).grown hgrow (by simp) (fun g hg => by cases hg; exact Nat.le_refl _))
    clear hown hgrow
    go_wp2_with fail
    go_ret
    exact ⟨_, rfl, OW.out, BW.out⟩
set_option maxRecDepth 100000 in
set_option maxHeartbeats 1600000 in
theorem sl_CloneOther (sa : Option Addr) (n cap : Nat) (cs : List Value) (w : World) (hl : cs.length = n * 2) (hn : n ≤ maxLen) (hc : 0 < n → ∃ b off, sa = some ⟨b, off, none⟩ ∧ ∀ q u, cs[q]? = some u → w.cell? ⟨b, off + q, none⟩ = some u)
    (h1 : ∀ u ∈ cs, u.oneCell' = true) (hb : n * 32 ≤ 140737488351232) : Calls Try.prog 46 #[.slice sa n cap] w fun e w' => ∃ v', e = .returned v' ∧ w'.ownsRow w.heap.size 97 2 v' n cs ∧ Below w.heap.size w w' := by
  obtain ⟨i0, hii, hz0, hz1, hz2⟩ := info_parts info_other
  have HC := Lib.hid hc
  have HL := Lib.hid hl
  have H1 := Lib.hid h1
  unfold maxLen at hn
  clear hc hl h1
  go_enter Try.func46, Try.ntmps46
  cases sa with
  | none =>
    obtain rfl : n = 0 := by
      by_cases h0 : 0 < n
      · obtain ⟨b, off, h, _⟩ := HC.out h0
        cases h
      · omega
    obtain rfl : cs = [] := List.length_eq_zero_iff.1 (by have := HL.out; omega)
    have EQ := Lib.run_eql_slice_nil (P := Try.prog) w 33 97 none 0 cap 0 0 Try.underlying33
    simp only [Option.isNone_none] at EQ
    go_wp2_with fail
    go_ret
    exact ⟨_, rfl, ⟨by simp, .inl ⟨rfl, rfl⟩⟩, Below.refl _ _⟩
  | some a =>
    have CC : Hid (∀ q u, cs[q]? = some u → w.cell? (a.add q) = some u) := Lib.hid (by
      intro q u hq
      by_cases h0 : 0 < n
      · obtain ⟨b, off, h, h2⟩ := HC.out h0
        injection h with h
        subst h
        have e : (⟨b, off, none⟩ : Addr).add q = ⟨b, off + q, none⟩ := by
          unfold Addr.add
          split
          · next h => rw [h]; simp
          · rfl
        rw [e]
        exact h2 q u hq
      · have := (List.getElem?_eq_some_iff.1 hq).1
        rw [HL.out] at this
        have : n = 0 := by omega
        subst this
        omega)
    clear HC
    have OE := Lib.hid (own_empty (w := w) (B := w.heap.size) (e := 97) (k := 2) (Nat.le_refl _))
    have EQ := Lib.run_eql_slice_nil (P := Try.prog) w 33 97 (some a) n cap 0 0 Try.underlying33
    simp only [Option.isNone_some] at EQ
    go_wp2_with (at_builtin; refine wpList_append_own _ rfl _ _ 33 rfl w.heap.size 97 i0 _ 2 32 Try.underlying33 hii hz0 hz1 hz2 rfl (by decide) _ 0 [] rfl OE.out a n cap cs rfl HL.out (fun q u hq => cell_below (CC.out q u hq) ((Below.refl _ _).alloc (Nat.le_refl _) _)) H1.out (by unfold maxLen; omega) (by omega) (by simp) ?_)
    intro v' w' hown hgrow _
    have OW : Hid (w'.ownsRow w.heap.size 97 2 v' n cs) := Lib.hid (by simpa using hown)
    have BW : Hid (Below w.heap.size w w') := Lib.hid (((Below.refl _ _).alloc (Nat.le_refl _) _).grown hgrow (by simp) (fun g hg => by cases hg; exact Nat.le_refl _))
    clear hown hgrow
    go_wp2_with fail
    go_ret
    exact ⟨_, rfl, OW.out, BW.out⟩
set_option maxRecDepth 100000 in
set_option maxHeartbeats 1600000 in
theorem sl_CloneByte (sa : Option Addr) (n cap : Nat) (cs : List Value) (w : World) (hl : cs.length = n * 1) (hn : n ≤ maxLen) (hc : 0 < n → ∃ b off, sa = some ⟨b, off, none⟩ ∧ ∀ q u, cs[q]? = some u → w.cell? ⟨b, off + q, none⟩ = some u)
    (h1 : ∀ u ∈ cs, u.oneCell' = true) (hb : n * 1 ≤ 140737488351232) : Calls Try.prog 47 #[.slice sa n cap] w fun e w' => ∃ v', e = .returned v' ∧ w'.ownsRow w.heap.size 5 1 v' n cs ∧ Below w.heap.size w w' := by
  obtain ⟨i0, hii, hz0, hz1, hz2⟩ := info_parts info_byteT
  have HC := Lib.hid hc
  have HL := Lib.hid hl
  have H1 := Lib.hid h1
  unfold maxLen at hn
  clear hc hl h1
  go_enter Try.func47, Try.ntmps47
  cases sa with
  | none =>
    obtain rfl : n = 0 := by
      by_cases h0 : 0 < n
      · obtain ⟨b, off, h, _⟩ := HC.out h0
        cases h
      · omega
    obtain rfl : cs = [] := List.length_eq_zero_iff.1 (by have := HL.out; omega)
    have EQ := Lib.run_eql_slice_nil (P := Try.prog) w 95 5 none 0 cap 0 0 Try.underlying95
    simp only [Option.isNone_none] at EQ
    go_wp2_with fail
    go_ret
    exact ⟨_, rfl, ⟨by simp, .inl ⟨rfl, rfl⟩⟩, Below.refl _ _⟩
  | some a =>
    have CC : Hid (∀ q u, cs[q]? = some u → w.cell? (a.add q) = some u) := Lib.hid (by
      intro q u hq
      by_cases h0 : 0 < n
      · obtain ⟨b, off, h, h2⟩ := HC.out h0
        injection h with h
        subst h
        have e : (⟨b, off, none⟩ : Addr).add q = ⟨b, off + q, none⟩ := by
          unfold Addr.add
          split
          · next h => rw [h]; simp
          · rfl
        rw [e]
        exact h2 q u hq
      · have := (List.getElem?_eq_some_iff.1 hq).1
        rw [HL.out] at this
        have : n = 0 := by omega
        subst this
        omega)
    clear HC
    have OE := Lib.hid (own_empty (w := w) (B := w.heap.size) (e := 5) (k := 1) (Nat.le_refl _))
    have EQ := Lib.run_eql_slice_nil (P := Try.prog) w 95 5 (some a) n cap 0 0 Try.underlying95
    simp only [Option.isNone_some] at EQ
    go_wp2_with (at_builtin; refine wpList_append_own _ rfl _ _ 95 rfl w.heap.size 5 i0 _ 1 1 Try.underlying95 hii hz0 hz1 hz2 rfl (by decide) _ 0 [] rfl OE.out a n cap cs rfl HL.out (fun q u hq => cell_below (CC.out q u hq) ((Below.refl _ _).alloc (Nat.le_refl _) _)) H1.out (by unfold maxLen; omega) (by omega) (by simp) ?_)
    intro v' w' hown hgrow _
    have OW : Hid (w'.ownsRow w.heap.size 5 1 v' n cs) := Lib.hid (by simpa using hown)
    have BW : Hid (Below w.heap.size w w') := Lib.hid (((Below.refl _ _).alloc (Nat.le_refl _) _).grown hgrow (by simp) (fun g hg => by cases hg; exact Nat.le_refl _))
    clear hown hgrow
    go_wp2_with fail
    go_ret
    exact ⟨_, rfl, OW.out, BW.out⟩
end Go.Proofs.Ytadlecnlgkhneaa
