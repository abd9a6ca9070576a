/- Texts of one proof, one behind another. -/
import Derived.Test.YtkoidahgbbabiaaGreatMk24
/-
  STEPS, HANDED IN: lists of what is done to a server, each with the reach of its message's attributes.
-/
namespace Go.Proofs.YtkoidahgbbabiaaGreat
open Go.RowKit Go.ChangeShapes Go.WideShapes

/-- a step: what is done, by whom, to whom, and what is said. -/
structure Stp where
  k : Int
  n : Int
  to_ : Int
  on : Bool
  x : Ms
abbrev Stp.C (s : Stp) : Array Value := #[.int .i64 s.k, .int .i64 s.n, .int .i64 s.to_, .bool s.on, .int .i64 s.x.m.kind, .int .i64 s.x.m.as_, .int .i64 s.x.m.hold, .int .u32 s.x.m.id, .slice s.x.m.ks s.x.m.kn s.x.m.kc, .slice s.x.m.gs s.x.m.gn s.x.m.gc,
  .int .i64 s.x.m.a.has, .int .i64 s.x.m.a.origin, .slice s.x.m.a.ps s.x.m.a.pn s.x.m.a.pc, .int .u32 s.x.m.a.hop, .int .i64 s.x.m.a.med, .int .i64 s.x.m.a.loc, .int .i64 s.x.m.a.aggrAs, .int .u32 s.x.m.a.aggrId, .slice s.x.m.a.cs s.x.m.a.cn s.x.m.a.cc, .slice s.x.m.a.os s.x.m.a.on s.x.m.a.oc,
  .slice s.x.m.ns s.x.m.nn s.x.m.nc, .int .i64 s.x.m.fc, .int .i64 s.x.m.fs, .string s.x.m.fd]
structure StpOk (s : Stp) : Prop where
  k : I64r s.k
  n : I64r s.n
  to_ : I64r s.to_
def StpC (W : World) (s : Stp) (cs : List Value) : Prop := cs = s.C.toList ∧ StpOk s ∧ MsAt W s.x
section
variable {H : Type} {enc : TypeId × Value → H} {w : World} {base : Nat} {spare : Nat → Bool} {held : Bool}
set_option maxHeartbeats 1600000 in
set_option maxRecDepth 100000 in
theorem sl_step_sz {f : Nat} {cs : List Value} {x : DataW H × List MemPlace} (h : DataW.trod enc Tryz.prog w base spare held f 48 cs = some x) (hz : Sz Tryz.prog 48 x.1) : ∃ s : Stp, StpC w s cs ∧ MsSz s.x := by
  obtain ⟨xs, n, _, hxe, hl, hxl, hf⟩ := DataW.trod_struct Tryz.underlying48 h
  rw [hxe] at hz
  have hc : Tryz.prog.cellsOf 48 = 24 := by kernel_rfl
  have hc0 : Tryz.prog.cellsOf 3 = 1 := by kernel_rfl
  have hc1 : Tryz.prog.cellsOf 4 = 1 := by kernel_rfl
  have hc2 : Tryz.prog.cellsOf 46 = 20 := by kernel_rfl
  rw [hc] at hl
  match cs, hl with
  | [c0, c1, c2, c3, c4, c5, c6, c7, c8, c9, c10, c11, c12, c13, c14, c15, c16, c17, c18, c19, c20, c21, c22, c23], _ =>
    match xs, hxl with
    | [x0, x1, x2, x3, x4], _ =>
      have e0 := hf 0 _ rfl
      have e1 := hf 1 _ rfl
      have e2 := hf 2 _ rfl
      have e3 := hf 3 _ rfl
      have e4 := hf 4 _ rfl
      simp [hc0, hc1, hc2] at e0 e1 e2 e3 e4
      obtain ⟨k, q0, i0⟩ := sl_i64 e0
      obtain ⟨n, q1, i1⟩ := sl_i64 e1
      obtain ⟨t, q2, i2⟩ := sl_i64 e2
      obtain ⟨b, q3, -⟩ := DataW.trod_bool Tryz.underlying4 e3
      obtain ⟨m, ⟨q4, hm⟩, hz4⟩ := sl_msg_sz e4 (sz_field Tryz.underlying48 hz (j := 4) rfl rfl)
      simp at q0 q1 q2 q3
      subst q0; subst q1; subst q2; subst q3
      refine ⟨⟨k, n, t, b, m⟩, ⟨?_, ⟨i0, i1, i2⟩, hm⟩, hz4⟩
      simp at q4
      obtain ⟨r0, r1, r2, r3, r4, r5, r6, r7, r8, r9, r10, r11, r12, r13, r14, r15, r16, r17, r18, r19⟩ := q4
      subst r0; subst r1; subst r2; subst r3; subst r4; subst r5; subst r6; subst r7; subst r8; subst r9; subst r10; subst r11; subst r12; subst r13; subst r14; subst r15; subst r16; subst r17; subst r18; subst r19
      rfl
/-- steps in memory. -/
abbrev StpsAt (w : World) (v : Value) (xs : List Stp) : Prop := SlAt w 24 (StpC w) v xs
set_option maxRecDepth 100000 in
theorem open_steps_sz {v : Value} {d : DataW H} {p : List MemPlace} {r : Reach} {b0 : Nat} (hv : Value.okWide Tryz.prog w r b0 22 v) (h : DataW.Trod enc Tryz.prog w base spare held 22 v d p) (hz : Sz Tryz.prog 22 d) : ∃ xs : List Stp, StpsAt w v xs ∧ ∀ x ∈ xs, MsSz x.x := by
  obtain ⟨fuel, h⟩ := h
  have hvc : v.cells.toList = [v] := by
    simp only [Value.okWide, Tryz.underlying22] at hv
    cases v <;> first | rfl | (simp [Cell.okWide, Cell.ok, Tryz.underlying22] at hv)
  rw [hvc] at h
  obtain ⟨v', xs, e, hs, _, hx⟩ := open_sl_sz (k := 24) (bs := Tryz.prog.bytesOf 48) (R := StpC w) (S := fun s => MsSz s.x) Tryz.underlying22 (by kernel_rfl) rfl (by decide) (fun _ _ _ h hz => sl_step_sz h hz) h hz
  injection e with e _
  subst e
  exact ⟨xs, hs, hx⟩
set_option maxRecDepth 100000 in
theorem open_pfsS {v : Value} {d : DataW H} {p : List MemPlace} {r : Reach} {b0 : Nat} (hv : Value.okWide Tryz.prog w r b0 23 v) (h : DataW.Trod enc Tryz.prog w base spare held 23 v d p) : ∃ xs : List Pf, PsAt w v xs := by
  obtain ⟨fuel, h⟩ := h
  have hvc : v.cells.toList = [v] := by
    simp only [Value.okWide, Tryz.underlying23] at hv
    cases v <;> first | rfl | (simp [Cell.okWide, Cell.ok, Tryz.underlying23] at hv)
  rw [hvc] at h
  obtain ⟨v', xs, e, hs⟩ := sl_pfs h
  injection e with e _
  subst e
  exact ⟨xs, hs⟩
end
end Go.Proofs.YtkoidahgbbabiaaGreat

/-
  THE LAWS ON SERVERS, PLAIN: who has come; what a list of messages makes of a server.
-/
namespace Go.Proofs.YtkoidahgbbabiaaGreat
open Go.RowKit

/-- so many have come. -/
def joinN (A : Ab) (k : Nat) : Ab := (List.range k).foldl Ab.join A
theorem joinN_succ (A : Ab) (k : Nat) : joinN A (k + 1) = (joinN A k).join k := by unfold joinN; rw [List.range_succ, List.foldl_append]; rfl
theorem joinN_V (A : Ab) : ∀ k, (joinN A k).V = A.V ∧ (joinN A k).own = A.own ∧ (joinN A k).bl = A.bl ∧ (joinN A k).most = A.most
  | 0 => ⟨rfl, rfl, rfl, rfl⟩
  | k + 1 => by rw [joinN_succ]; exact joinN_V A k
theorem joinN_th (A : Ab) : ∀ k i, (joinN A k).th i = if i < k then true else A.th i
  | 0, i => by rw [if_neg (by omega)]; rfl
  | k + 1, i => by
    rw [joinN_succ]
    show setF (joinN A k).th k true i = _
    unfold setF
    rw [joinN_th A k i]
    by_cases h : i = k
    · subst h; rw [if_pos rfl, if_pos (by omega)]
    · rw [if_neg h]
      by_cases h2 : i < k
      · rw [if_pos h2, if_pos (by omega)]
      · rw [if_neg h2, if_neg (by omega)]
/-- what a step says, if it isn't too big. -/
def Ab.say (A : Ab) (s : Stp) : Ab := if bigM s.x then A else A.updI s.n s.x.m.kind s.x.gone s.x.nets s.x.a
def Ab.says (A : Ab) (xs : List Stp) : Ab := xs.foldl Ab.say A
theorem says_snoc (A : Ab) (xs : List Stp) (s : Stp) : A.says (xs ++ [s]) = (A.says xs).say s := by unfold Ab.says; rw [List.foldl_append]; rfl
/-- what saying leaves as it is. -/
structure SameTh (A B : Ab) : Prop where
  len : B.V.length = A.V.length
  th : B.th = A.th
  own : B.own = A.own
  most : B.most = A.most
  bl : B.bl = A.bl
theorem SameTh.refl (A : Ab) : SameTh A A := ⟨rfl, rfl, rfl, rfl, rfl⟩
theorem SameTh.trans {A B C : Ab} (h : SameTh A B) (k : SameTh B C) : SameTh A C := ⟨k.len.trans h.len, k.th.trans h.th, k.own.trans h.own, k.most.trans h.most, k.bl.trans h.bl⟩
theorem same_upd (A : Ab) (i : Nat) (kind : Int) (gone nets : List Pf) (a : At) : SameTh A (A.upd i kind gone nets a) := by
  unfold Ab.upd
  split
  · exact ⟨setV_len .., rfl, rfl, rfl, rfl⟩
  · exact SameTh.refl A
theorem same_updI (A : Ab) (n : Int) (kind : Int) (gone nets : List Pf) (a : At) : SameTh A (A.updI n kind gone nets a) := by
  unfold Ab.updI
  split
  · exact same_upd ..
  · exact SameTh.refl A
theorem same_say (A : Ab) (s : Stp) : SameTh A (A.say s) := by
  unfold Ab.say
  split
  · exact SameTh.refl A
  · exact same_updI ..
theorem same_says : ∀ (xs : List Stp) (A : Ab), SameTh A (A.says xs)
  | [], A => SameTh.refl A
  | s :: xs, A => (same_say A s).trans (same_says xs (A.say s))
theorem nodup_len {α : Type} [DecidableEq α] {xs ys : List α} (hx : xs.Nodup) (hy : ys.Nodup) (h : ∀ p, p ∈ xs ↔ p ∈ ys) : xs.length = ys.length := ((List.perm_ext_iff_of_nodup hx hy).2 h).length_eq
theorem plt_nodup {L : List Pf} (h : L.Pairwise plt) : L.Nodup := by
  rw [List.nodup_iff_pairwise_ne]
  refine h.imp ?_
  intro x y hxy e
  subst e
  exact plt_irrefl x hxy
theorem newA_len (own most : Int) (n : Nat) : (newA own most (sdsN n)).V.length = n := by simp [newA, sdsN]
theorem newCd_sds {n : Nat} (h0 : 0 < n) (h : n ≤ 16) : newCd 65000 (sdsN n) = 0 := by
  refine newCd_ok ?_ (by rw [sdsN_len]; omega) (all_ok fun i x hi hx => ?_)
  · rw [sdsN_len]
    rintro (h1 | h1)
    · revert h1; decide
    · omega
  · rw [sdsN_len] at hi
    rw [sdsN_get hi] at hx
    injection hx with hx
    subst hx
    unfold sdB sysB
    simp
    omega
/-- a message's cells, within a step. -/
theorem stp_range {W : World} {g o : Nat} {s : Stp} (h : W.rangeAt g o s.C.toList) : W.rangeAt g (o + 4) s.x.m.C.toList := by
  intro j v hv
  have hj : j < 20 := by have := (List.getElem?_eq_some_iff.1 hv).1; simpa using this
  have h4 := h (4 + j) v (by
    rw [← hv]
    match j, hj with
    | 0, _ => rfl
    | 1, _ => rfl
    | 2, _ => rfl
    | 3, _ => rfl
    | 4, _ => rfl
    | 5, _ => rfl
    | 6, _ => rfl
    | 7, _ => rfl
    | 8, _ => rfl
    | 9, _ => rfl
    | 10, _ => rfl
    | 11, _ => rfl
    | 12, _ => rfl
    | 13, _ => rfl
    | 14, _ => rfl
    | 15, _ => rfl
    | 16, _ => rfl
    | 17, _ => rfl
    | 18, _ => rfl
    | 19, _ => rfl)
  rw [← h4]
  congr 2; omega
theorem stps_at {w : World} {s : Option Addr} {n c : Nat} {xs : List Stp} (h : StpsAt w (.slice s n c) xs) {i : Nat} {x : Stp} (hx : xs[i]? = some x) : ∃ g o, s = some ⟨g, o, none⟩ ∧ w.rangeAt g (o + i * 24) x.C.toList ∧ StpOk x ∧ MsAt w x.x := by
  obtain ⟨s', c', e, h1, h2, h3⟩ := h
  injection e with e _ _
  subst e
  have hi := (List.getElem?_eq_some_iff.1 hx).1
  obtain ⟨b, off, rfl, h4⟩ := h3 (by omega)
  obtain ⟨cs, l, ⟨rfl, hR, hm⟩, hc⟩ := h4 i x hx
  exact ⟨b, off, rfl, fun j v hv => hc j v hv, hR, hm⟩
theorem range_below {W W' : World} {g o : Nat} {l : List Value} (h : W.rangeAt g o l) (hb : Below W.heap.size W W') : W'.rangeAt g o l := fun j v hv => cell_below (h j v hv) hb
end Go.Proofs.YtkoidahgbbabiaaGreat
