/-
  HEADERS: nine fields as numbers; Get, fits, Check; two headers held against each other.
-/
import Derived.Test.YtkcikblecinnfaaDoorMac
import Derived.Test.YtkcikblecinnfaaDoorWid
import Derived.Test.YtkcikblecinnfaaDoorFrame
namespace Go.Proofs.YtkcikblecinnfaaDoor
open Go.RowKit

/-- a header's numbers. -/
structure Hdr where
  port : Int
  s0 : Int
  s1 : Int
  s2 : Int
  s3 : Int
  s4 : Int
  s5 : Int
  d0 : Int
  d1 : Int
  d2 : Int
  d3 : Int
  d4 : Int
  d5 : Int
  ty : Int
  sip : Int
  dip : Int
  proto : Int
  sp : Int
  dp : Int
abbrev hdrC (h : Hdr) : Array Value := #[.int .i64 h.port, .int .u8 h.s0, .int .u8 h.s1, .int .u8 h.s2, .int .u8 h.s3, .int .u8 h.s4, .int .u8 h.s5, .int .u8 h.d0, .int .u8 h.d1, .int .u8 h.d2, .int .u8 h.d3, .int .u8 h.d4, .int .u8 h.d5, .int .i64 h.ty, .int .u32 h.sip, .int .u32 h.dip, .int .i64 h.proto, .int .i64 h.sp, .int .i64 h.dp]
abbrev hdrV (h : Hdr) : Value := .agg (hdrC h)
def I64 (n : Int) : Prop := -9223372036854775808 ≤ n ∧ n ≤ 9223372036854775807
def U32 (n : Int) : Prop := 0 ≤ n ∧ n < 4294967296
structure Hdr.Ok (h : Hdr) : Prop where
  port : I64 h.port
  src : Byte h.s0 ∧ Byte h.s1 ∧ Byte h.s2 ∧ Byte h.s3 ∧ Byte h.s4 ∧ Byte h.s5
  dst : Byte h.d0 ∧ Byte h.d1 ∧ Byte h.d2 ∧ Byte h.d3 ∧ Byte h.d4 ∧ Byte h.d5
  ty : I64 h.ty
  sip : U32 h.sip
  dip : U32 h.dip
  proto : I64 h.proto
  sp : I64 h.sp
  dp : I64 h.dp

/-- a field's number. -/
def getI (h : Hdr) (f : Int) : Int :=
  if f = 0 then h.port % 256 else if f = 1 then macI h.s0 h.s1 h.s2 h.s3 h.s4 h.s5 else if f = 2 then macI h.d0 h.d1 h.d2 h.d3 h.d4 h.d5 else if f = 3 then h.ty % 65536 else if f = 4 then h.sip else if f = 5 then h.dip
  else if f = 6 then h.proto % 256 else if f = 7 then h.sp % 65536 else if f = 8 then h.dp % 65536 else 0

/-- a number of 64 bits under the mask of its lowest k. -/
theorem and_low_u64 (x : Int) (k : Nat) (hx0 : 0 ≤ x) (hx : x < 18446744073709551616) (hk : k ≤ 48) : bits .and .u64 x (2 ^ k - 1) = x % 2 ^ k := by
  have hp : 0 < 2 ^ k := Nat.two_pow_pos k
  have hle : 2 ^ k ≤ 2 ^ 48 := Nat.pow_le_pow_right (by decide) hk
  have e : ((2 : Int) ^ k) = ((2 ^ k : Nat) : Int) := by simp
  rw [e, u64_and x _ hx0 hx (by omega) (by omega)]
  obtain ⟨y, rfl⟩ := Int.eq_ofNat_of_zero_le hx0
  have e2 : (((2 ^ k : Nat) : Int) - 1).toNat = 2 ^ k - 1 := by omega
  rw [e2, Int.toNat_natCast, Nat.and_two_pow_sub_one_eq_mod]
  simp
theorem mod_u64 (x : Int) (m : Int) (hm : m ∣ 18446744073709551616) : IntKind.u64.wrap x % m = x % m := by
  rw [IntKind.wrap_u64]; exact Int.emod_emod_of_dvd x hm
theorem wrap_u64_lo (x : Int) : 0 ≤ IntKind.u64.wrap x ∧ IntKind.u64.wrap x < 18446744073709551616 := by rw [IntKind.wrap_u64]; omega
theorem get_8 (x : Int) : bits .and .u64 (IntKind.u64.wrap x) 255 = x % 256 := by
  have h := wrap_u64_lo x
  have := and_low_u64 (IntKind.u64.wrap x) 8 h.1 h.2 (by decide)
  rw [mod_u64 x _ (by decide)] at this
  exact this
theorem get_16 (x : Int) : bits .and .u64 (IntKind.u64.wrap x) 65535 = x % 65536 := by
  have h := wrap_u64_lo x
  have := and_low_u64 (IntKind.u64.wrap x) 16 h.1 h.2 (by decide)
  rw [mod_u64 x _ (by decide)] at this
  exact this
theorem get_32 (x : Int) (h : U32 x) : bits .and .u64 x 4294967295 = x := by
  unfold U32 at h
  have := and_low_u64 x 32 (by omega) (by omega) (by decide)
  rw [show x % 2 ^ 32 = x from Int.emod_eq_of_lt h.1 (by omega)] at this
  exact this
theorem get_48 (x : Int) (h0 : 0 ≤ x) (h1 : x < 281474976710656) : bits .and .u64 x 281474976710655 = x := by
  have := and_low_u64 x 48 (by omega) (by omega) (by decide)
  rw [show x % 2 ^ 48 = x from Int.emod_eq_of_lt h0 (by omega)] at this
  exact this
theorem macI_range (b0 b1 b2 b3 b4 b5 : Int) (h : Byte b0 ∧ Byte b1 ∧ Byte b2 ∧ Byte b3 ∧ Byte b4 ∧ Byte b5) : 0 ≤ macI b0 b1 b2 b3 b4 b5 ∧ macI b0 b1 b2 b3 b4 b5 < 281474976710656 := by
  unfold Byte at h; unfold macI; omega
theorem getI_out {h : Hdr} {f : Int} (hf : f < 0 ∨ 9 ≤ f) : getI h f = 0 := by
  unfold getI
  repeat rw [if_neg (by omega)]

set_option maxRecDepth 100000 in
set_option maxHeartbeats 3200000 in
theorem head_Get (h : Hdr) (f : Int) (w : World) (hT : Wid w) (ok : h.Ok) :
    Calls Tryd.prog 10 #[hdrV h, .int .i64 f] w fun e w' => e = .returned (.int .u64 (getI h f)) ∧ Below w.heap.size w w' := by
  have HT := Lib.hid hT
  have hT1 : Wid (w.alloc (.cells (hdrC h) 31)) := hT.below ((Below.refl _ _).alloc (Nat.le_refl _) _)
  have HT1 := Lib.hid hT1
  clear hT hT1
  have OK := Lib.hid ok
  clear ok
  rcases field_cases f with hf | hf | rfl | rfl | rfl | rfl | rfl | rfl | rfl | rfl | rfl
  · have E := Lib.hid (getI_out (h := h) (.inl hf))
    have e1 : fullI f = 0 := fullI_of (widthI_out (.inl hf))
    go_enter Tryd.func10, Tryd.ntmps10
    go_wp2_with (go_at_call 13; refine (head_Full _ _ HT1.out).mono ?_; rintro e w1 ⟨rfl, rfl⟩)
    go_ret
    exact ⟨ret_int (by rw [E.out]; rfl), (Below.refl _ _).alloc (Nat.le_refl _) _⟩
  · have E := Lib.hid (getI_out (h := h) (.inr hf))
    have e1 : fullI f = 0 := fullI_of (widthI_out (.inr hf))
    go_enter Tryd.func10, Tryd.ntmps10
    go_wp2_with (go_at_call 13; refine (head_Full _ _ HT1.out).mono ?_; rintro e w1 ⟨rfl, rfl⟩)
    go_ret
    exact ⟨ret_int (by rw [E.out]; rfl), (Below.refl _ _).alloc (Nat.le_refl _) _⟩
  · have e1 : fullI 0 = 255 := by decide
    have e2 := get_8 h.port
    go_enter Tryd.func10, Tryd.ntmps10
    go_wp2_with (go_at_call 13; refine (head_Full _ _ HT1.out).mono ?_; rintro e w1 ⟨rfl, rfl⟩)
    go_ret
    exact ⟨ret_int rfl, (Below.refl _ _).alloc (Nat.le_refl _) _⟩
  · have e1 : fullI 1 = 281474976710655 := by decide
    have hm := macI_range _ _ _ _ _ _ OK.out.src
    have e2 := get_48 _ hm.1 hm.2
    go_enter Tryd.func10, Tryd.ntmps10
    go_wp2_with fail
    refine (head_Num' _ _ _ _ _ _ _ OK.out.src).mono ?_
    rintro e w1 ⟨rfl, hb⟩
    have hT2 := Lib.hid (HT1.out.below hb)
    have hB := below_on ((Below.refl w.heap.size w).alloc (Nat.le_refl _) (.cells (hdrC h) 31)) hb
    go_wp2_with (go_at_call 13; refine (head_Full _ _ hT2.out).mono ?_; rintro e w1 ⟨rfl, rfl⟩)
    go_ret
    exact ⟨ret_int rfl, hB⟩
  · have e1 : fullI 2 = 281474976710655 := by decide
    have hm := macI_range _ _ _ _ _ _ OK.out.dst
    have e2 := get_48 _ hm.1 hm.2
    go_enter Tryd.func10, Tryd.ntmps10
    go_wp2_with fail
    refine (head_Num' _ _ _ _ _ _ _ OK.out.dst).mono ?_
    rintro e w1 ⟨rfl, hb⟩
    have hT2 := Lib.hid (HT1.out.below hb)
    have hB := below_on ((Below.refl w.heap.size w).alloc (Nat.le_refl _) (.cells (hdrC h) 31)) hb
    go_wp2_with (go_at_call 13; refine (head_Full _ _ hT2.out).mono ?_; rintro e w1 ⟨rfl, rfl⟩)
    go_ret
    exact ⟨ret_int rfl, hB⟩
  · have e1 : fullI 3 = 65535 := by decide
    have e2 := get_16 h.ty
    go_enter Tryd.func10, Tryd.ntmps10
    go_wp2_with (go_at_call 13; refine (head_Full _ _ HT1.out).mono ?_; rintro e w1 ⟨rfl, rfl⟩)
    go_ret
    exact ⟨ret_int rfl, (Below.refl _ _).alloc (Nat.le_refl _) _⟩
  · have e1 : fullI 4 = 4294967295 := by decide
    have e2 := get_32 h.sip OK.out.sip
    have e3 : 0 ≤ h.sip := OK.out.sip.1
    have e4 : h.sip < 4294967296 := OK.out.sip.2
    go_enter Tryd.func10, Tryd.ntmps10
    go_wp2_with (go_at_call 13; refine (head_Full _ _ HT1.out).mono ?_; rintro e w1 ⟨rfl, rfl⟩)
    go_ret
    exact ⟨ret_int rfl, (Below.refl _ _).alloc (Nat.le_refl _) _⟩
  · have e1 : fullI 5 = 4294967295 := by decide
    have e2 := get_32 h.dip OK.out.dip
    have e3 : 0 ≤ h.dip := OK.out.dip.1
    have e4 : h.dip < 4294967296 := OK.out.dip.2
    go_enter Tryd.func10, Tryd.ntmps10
    go_wp2_with (go_at_call 13; refine (head_Full _ _ HT1.out).mono ?_; rintro e w1 ⟨rfl, rfl⟩)
    go_ret
    exact ⟨ret_int rfl, (Below.refl _ _).alloc (Nat.le_refl _) _⟩
  · have e1 : fullI 6 = 255 := by decide
    have e2 := get_8 h.proto
    go_enter Tryd.func10, Tryd.ntmps10
    go_wp2_with (go_at_call 13; refine (head_Full _ _ HT1.out).mono ?_; rintro e w1 ⟨rfl, rfl⟩)
    go_ret
    exact ⟨ret_int rfl, (Below.refl _ _).alloc (Nat.le_refl _) _⟩
  · have e1 : fullI 7 = 65535 := by decide
    have e2 := get_16 h.sp
    go_enter Tryd.func10, Tryd.ntmps10
    go_wp2_with (go_at_call 13; refine (head_Full _ _ HT1.out).mono ?_; rintro e w1 ⟨rfl, rfl⟩)
    go_ret
    exact ⟨ret_int rfl, (Below.refl _ _).alloc (Nat.le_refl _) _⟩
  · have e1 : fullI 8 = 65535 := by decide
    have e2 := get_16 h.dp
    go_enter Tryd.func10, Tryd.ntmps10
    go_wp2_with (go_at_call 13; refine (head_Full _ _ HT1.out).mono ?_; rintro e w1 ⟨rfl, rfl⟩)
    go_ret
    exact ⟨ret_int rfl, (Below.refl _ _).alloc (Nat.le_refl _) _⟩

/-! ### Check -/
def fitsB (f n : Int) : Bool := decide (0 ≤ n) && decide (n ≤ fullI f)
def checkB (h : Hdr) : Bool := fitsB 0 h.port && (fitsB 3 h.ty && (fitsB 6 h.proto && (fitsB 7 h.sp && fitsB 8 h.dp)))
def errI (b : Bool) : Int := if b then 0 else 1
theorem errI_zero (b : Bool) : (errI b == 0) = b := by cases b <;> rfl
/-! ### A header in memory -/
def HBox (W : World) (b : Nat) (h : Hdr) : Prop := W.heap[b]? = some (.cells (hdrC h) 31 (0, 0))
theorem HBox.lt {W : World} {b : Nat} {h : Hdr} (hb : HBox W b h) : b < W.heap.size := by
  rcases Nat.lt_or_ge b W.heap.size with h' | h'
  · exact h'
  · unfold HBox at hb; rw [Array.getElem?_eq_none h'] at hb; cases hb
theorem HBox.below {W W' : World} {b : Nat} {h : Hdr} (hx : HBox W b h) (hb : Below W.heap.size W W') : HBox W' b h := (hb.block b hx.lt).trans hx
theorem HBox.upTo {W W' : World} {b B : Nat} {h : Hdr} (hx : HBox W b h) (hb : Below B W W') (hlt : b < B) : HBox W' b h := (hb.block b hlt).trans hx
theorem HBox.cells {W : World} {b : Nat} {h : Hdr} (hb : HBox W b h) : W.cell? ⟨b, 0, none⟩ = some (.int .i64 h.port) ∧ W.cell? ⟨b, 1, none⟩ = some (.int .u8 h.s0) ∧ W.cell? ⟨b, 2, none⟩ = some (.int .u8 h.s1) ∧ W.cell? ⟨b, 3, none⟩ = some (.int .u8 h.s2) ∧ W.cell? ⟨b, 4, none⟩ = some (.int .u8 h.s3) ∧ W.cell? ⟨b, 5, none⟩ = some (.int .u8 h.s4) ∧ W.cell? ⟨b, 6, none⟩ = some (.int .u8 h.s5) ∧ W.cell? ⟨b, 7, none⟩ = some (.int .u8 h.d0) ∧ W.cell? ⟨b, 8, none⟩ = some (.int .u8 h.d1) ∧ W.cell? ⟨b, 9, none⟩ = some (.int .u8 h.d2) ∧ W.cell? ⟨b, 10, none⟩ = some (.int .u8 h.d3) ∧ W.cell? ⟨b, 11, none⟩ = some (.int .u8 h.d4) ∧ W.cell? ⟨b, 12, none⟩ = some (.int .u8 h.d5) ∧ W.cell? ⟨b, 13, none⟩ = some (.int .i64 h.ty) ∧ W.cell? ⟨b, 14, none⟩ = some (.int .u32 h.sip) ∧ W.cell? ⟨b, 15, none⟩ = some (.int .u32 h.dip) ∧ W.cell? ⟨b, 16, none⟩ = some (.int .i64 h.proto) ∧ W.cell? ⟨b, 17, none⟩ = some (.int .i64 h.sp) ∧ W.cell? ⟨b, 18, none⟩ = some (.int .i64 h.dp) := by
  unfold HBox at hb
  refine ⟨?_, ?_, ?_, ?_, ?_, ?_, ?_, ?_, ?_, ?_, ?_, ?_, ?_, ?_, ?_, ?_, ?_, ?_, ?_⟩ <;> simp [World.cell?, hb]
theorem HBox.unfrozen {W : World} {b : Nat} {h : Hdr} (hb : HBox W b h) (j : Nat) : W.frozen? ⟨b, j, none⟩ = false := by
  unfold HBox at hb
  simp [World.frozen?, hb]
theorem boxH (w : World) (h : Hdr) : ∃ W0, W0 = w.alloc (.cells (hdrC h) 31) ∧ HBox W0 w.heap.size h ∧ Below w.heap.size w W0 :=
  ⟨_, rfl, heap_alloc_new w _, (Below.refl _ _).alloc (Nat.le_refl _) _⟩
theorem HBox.load {W : World} {b : Nat} {h : Hdr} (hb : HBox W b h) : (Instr.loadAt 31 (.pointer (some ⟨b, 0, none⟩))).run Tryd.prog W = .ok (hdrV h) W := by
  simp only [Instr.loadAt, Instr.sureAddr, Sem.run_bind, Sem.run_pure, Result.andThen_ok, run_loadVar_row W b 31 31 (hdrC h) (0, 0) _ hb Tryd.underlying31 rfl (by kernel_rfl)]

end Go.Proofs.YtkcikblecinnfaaDoor
