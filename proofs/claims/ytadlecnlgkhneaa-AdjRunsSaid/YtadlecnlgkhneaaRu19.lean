/- Texts of one proof, one behind another. -/
import Derived.Test.YtadlecnlgkhneaaRu18
/-
  AdjRuns walked.
-/
namespace Go.Proofs.Ytadlecnlgkhneaa
open Go.RowKit

theorem msg_at {W : World} {s : Option Addr} {n c : Nat} {xs : List Ms} (h : MssAt W (.slice s n c) xs) {i : Nat} {x : Ms} (hx : xs[i]? = some x) : ∃ g o, s = some ⟨g, o, none⟩ ∧ W.rangeAt g (o + i * 20) x.m.C.toList ∧ MsAt W x := by
  obtain ⟨s', c', e, _, _, h3⟩ := h
  injection e with e _ _
  subst e
  obtain ⟨g, o, rfl, h4⟩ := h3 (by have := (List.getElem?_eq_some_iff.1 hx).1; omega)
  obtain ⟨cs, -, ⟨rfl, h5⟩, hc⟩ := h4 i x hx
  exact ⟨g, o, rfl, fun j v hv => hc j v hv, h5⟩
theorem rng_below {W W' : World} {g o : Nat} {cs : List Value} (h : W.rangeAt g o cs) (hb : Below W.heap.size W W') : W'.rangeAt g o cs := fun j v hv => cell_below (h j v hv) hb
theorem mss_below {W W' : World} {v : Value} {xs : List Ms} (h : MssAt W v xs) (hb : Below W.heap.size W W') : MssAt W' v xs := SlAt.below h hb fun _ _ h => ⟨h.1, h.2.below hb⟩
theorem big_len {W : World} {x : Ms} (h : MsAt W x) (hb : bigB x.m = false) : x.gone.length ≤ 20 ∧ x.nets.length ≤ 20 ∧ x.a.path.length ≤ 6 := by
  obtain ⟨_, _, e1, -⟩ := h.gone
  obtain ⟨_, _, e2, -⟩ := h.nets
  obtain ⟨_, _, _, _, _, _, e3, -⟩ := h.a
  injection e1 with _ e1 _
  injection e2 with _ e2 _
  have e3 := congrArg AV.pn e3
  unfold avOf at e3
  simp only at e3
  unfold bigB at hb
  simp only [Bool.or_eq_false_iff, decide_eq_false_iff_not] at hb
  omega
theorem pair_at {α : Type} {w : World} {R : α → List Value → Prop} {s : Option Addr} {n c : Nat} {xs : List α} (h : SlAt w 2 R (.slice s n c) xs) {i : Nat} {x : α} (hx : xs[i]? = some x) : ∃ g o c0 c1, s = some ⟨g, o, none⟩ ∧ R x [c0, c1] ∧ w.cell? ⟨g, o + i * 2, none⟩ = some c0 ∧ w.cell? ⟨g, o + i * 2 + 1, none⟩ = some c1 := by
  obtain ⟨s', c', e, h1, h2, h3⟩ := h
  injection e with e _ _
  subst e
  have hi := (List.getElem?_eq_some_iff.1 hx).1
  obtain ⟨b, off, rfl, h4⟩ := h3 (by omega)
  obtain ⟨cs, l, hR, hc⟩ := h4 i x hx
  match cs, l with
  | [c0, c1], _ => exact ⟨b, off, c0, c1, rfl, hR, hc 0 c0 rfl, hc 1 c1 rfl⟩
theorem ow_below {w w' : World} {B : Nat} {v : Value} {xs : List RO} (h : OwnRw w B v xs) (hb : Below w.heap.size w w') : OwnRw w' B v xs := h.below hb
theorem sz_msg : (Try.prog.info? 43).map (·.size) = some 20 := by kernel_rfl
theorem keys_len {R : Rts} {L : List Pf} (hs : L.Pairwise plt) (hm : ∀ p, p ∈ L ↔ (getL R p).isSome = true) (hR : KeysApart R) : L.length = R.length := by
  have hn : L.Nodup := by
    rw [List.nodup_iff_pairwise_ne]
    exact hs.imp fun {x y} hxy e => by subst e; exact plt_irrefl x hxy
  have : L.Perm (R.map (·.1)) := (List.perm_ext_iff_of_nodup hn (keys_nodup hR)).2 fun p => by rw [hm, mem_keys]
  simpa using this.length_eq
set_option maxHeartbeats 25600000 in
set_option maxRecDepth 100000 in
theorem law_AdjRuns (peer own most : Int) (vs : Value) (ms : List Ms) (w : World) (hm : MssAt w vs ms) (hz : ∀ x ∈ ms, MsSz x) :
    Calls Try.prog 6 #[.int .i64 peer, .int .i64 own, .int .i64 most, vs] w fun e w' => e = .returned (.bool true) ∧ Below w.heap.size w w' := by
  have HM := Lib.hid hm
  have HZ := Lib.hid hz
  obtain ⟨s, cap, rfl, hl, hc, -⟩ := hm
  have ml : ms.length ≤ 9223372036854775807 := Nat.le_trans hl hc
  clear hl hc hz
  go_enter Try.func6, Try.ntmps6
  go_wp2_with fail
  refine (law_head w).mono ?_
  rintro e w1 ⟨rfl, hb1⟩
  have B1 := Lib.hid hb1
  clear hb1
  go_wp2_with fail
  refine (ad_New peer own most w1).mono ?_
  rintro e w2 ⟨rb, rfl, hr, hb⟩
  have L2 := Lib.hid (lr_new (Below.refl _ _) hr hb)
  have B2 := Lib.hid (below_on B1.out hb)
  have B1x := B1
  clear hr hb B1
  generalize (fun k => w1.heap.size ≤ k ∧ k < w2.heap.size : Nat → Prop) = F2 at L2
  obtain ⟨mm, hmm⟩ : ∃ mm, min (max most 0) 256 = mm := ⟨_, rfl⟩
  rw [hmm] at L2
  have HMM := Lib.hid hmm
  have MB : Hid (mm ≤ 256) := Lib.hid (by omega)
  go_upto_region 6 with (fail)
  clear hmm
  obtain ⟨w3, hw3, hb3⟩ : ∃ w3, w3 = w2.alloc (.cells #[] 66) ∧ Below w2.heap.size w2 w3 := ⟨_, rfl, (Below.refl _ _).alloc (Nat.le_refl _) _⟩
  rw [← hw3]
  have L3 : Hid (LS w1 w3 rb peer own mm [] F2 (.slice (some ⟨w2.heap.size, 0, none⟩) ([] : List RO).length 0) []) := Lib.hid ⟨L2.out.below hb3, fun _ _ => ⟨_, _, rfl, Nat.le_refl _, Nat.zero_le _, fun h => absurd h (Nat.lt_irrefl _)⟩⟩
  have B3 := Lib.hid (below_on B2.out hb3)
  have BW1 : Hid (Below w.heap.size w w1) := B1x
  clear B1x
  clear hw3 hb3 L2
  generalize (some ⟨w2.heap.size, 0, none⟩ : Option Addr) = s10 at L3 ⊢
  have E10 : (Value.slice s10 0 0) = .slice s10 ([] : List RO).length 0 := rfl
  rw [E10]
  clear E10
  go_wp2_with fail
  refine wp_loop_at (fun u => ⟨#[.int .i64 peer, .int .i64 own, .int .i64 mm, .slice s ms.length cap, u 4, u 5, u 6, u 7, u 8, .pointer (some ⟨rb, 0, none⟩), u 10, u 11, u 12, u 13, u 14, u 15, u 16, u 17, u 18, u 19, u 20, u 21, u 22, u 23, u 24, u 25, u 26, u 27, u 28, u 29, u 30, u 31, u 32, u 33, u 34, u 35, u 36, u 37, u 38, u 39, u 40, u 41, u 42, u 43, u 44, u 45, u 46, u 47, u 48, u 49, u 50, u 51, u 52, u 53, u 54, u 55, u 56, u 57, u 58, u 59, u 60, u 61, u 62, u 63, u 64, u 65, u 66, u 67, u 68, u 69, u 70, u 71, u 72, u 73, u 74, u 75, u 76, u 77, u 78, u 79, u 80, u 81, u 82, u 83, u 84, u 85, u 86, u 87, u 88, u 89, u 90, u 91, u 92, u 93, u 94, u 95, u 96, u 97, u 98, u 99, u 100, u 101, u 102, u 103, u 104, u 105, u 106, u 107, u 108, u 109, u 110, u 111, u 112, u 113, u 114, u 115, u 116, u 117, u 118, u 119, u 120, u 121, u 122, u 123, u 124, u 125, u 126, u 127, u 128, u 129, u 130, u 131, u 132, u 133, u 134, u 135, u 136, u 137, u 138, u 139, u 140, u 141, u 142, u 143, u 144, u 145, u 146, u 147, u 148, u 149, u 150, u 151, u 152, u 153, u 154, u 155, u 156, u 157, u 158, u 159, u 160, u 161, u 162, u 163, u 164, u 165, u 166, u 167, u 168, u 169, u 170, u 171, u 172, u 173, u 174, u 175, u 176, u 177, u 178, u 179, u 180, u 181, u 182, u 183, u 184, u 185, u 186, u 187, u 188, u 189, u 190, u 191, u 192, u 193, u 194, u 195, u 196, u 197, u 198, u 199, u 200, u 201, u 202, u 203, u 204, u 205, u 206, u 207, u 208, u 209, u 210, u 211, u 212, u 213, u 214, u 215, u 216, u 217, u 218, u 219, u 220, u 221, u 222, u 223, u 224, u 225, u 226, u 227, u 228, u 229, u 230, u 231, u 232, u 233, u 234, u 235, u 236, u 237, u 238, u 239, u 240, u 241, u 242, u 243, u 244, u 245, u 246, u 247, u 248, u 249, u 250, u 251, u 252, u 253, u 254, u 255, u 256, u 257, u 258, u 259, u 260, u 261, u 262, u 263, u 264, u 265, u 266, u 267, u 268, u 269, u 270, u 271, u 272, u 273, u 274, u 275, u 276, u 277, u 278, u 279, u 280, u 281, u 282, u 283, u 284, u 285, u 286, u 287, u 288, u 289, u 290, u 291, u 292, u 293, u 294, u 295, u 296, u 297, u 298, u 299, u 300, u 301, u 302, u 303, u 304, u 305, u 306, u 307, u 308, u 309, u 310, u 311, u 312, u 313, u 314, u 315, u 316, u 317, u 318, u 319, u 320, u 321, u 322, u 323, u 324, u 325, u 326, u 327, u 328, u 329, u 330, u 331, u 332, u 333, u 334, u 335, u 336, u 337, u 338, u 339, u 340, u 341, u 342, u 343, u 344, u 345, u 346, u 347, u 348, u 349, u 350, u 351, u 352, u 353, u 354, u 355, u 356, u 357, u 358, u 359, u 360, u 361, u 362, u 363, u 364, u 365, u 366, u 367, u 368, u 369, u 370, u 371, u 372, u 373, u 374, u 375, u 376, u 377, u 378, u 379, u 380, u 381, u 382, u 383, u 384, u 385, u 386, u 387, u 388, u 389, u 390, u 391, u 392, u 393, u 394, u 395, u 396, u 397, u 398, u 399, u 400, u 401, u 402, u 403, u 404, u 405, u 406, u 407, u 408, u 409, u 410, u 411, u 412, u 413, u 414, u 415, u 416, u 417, u 418, u 419, u 420], []⟩) (fun u wr => ∃ (i : Nat) (R : Rts) (F : Nat → Prop) (s : Option Addr) (c : Nat) (xs : List RO), i ≤ 20 ∧ u 11 = .int .i64 i ∧ u 10 = .slice s xs.length c ∧ Hid (LS w1 wr rb peer own mm R F (.slice s xs.length c) xs) ∧ Hid (Rel R (roR xs))) (fun u => 21 - (intOf (u 11)).toNat) (by kernel_rfl) ⟨0, [], F2, s10, 0, [], by omega, rfl, rfl, L3, Lib.hid Rel.nil⟩ ?_
  · intro u wr hrel
    clear L3 B3
    obtain ⟨i, R, F, s1, c1, xs, hi, hi11, hv10, LR0, REL⟩ := hrel
    replace hi11 : u 11 = .int .i64 i := hi11
    replace hv10 : u 10 = .slice s1 xs.length c1 := hv10
    dsimp only
    rw [hi11, hv10]
    clear hi11 hv10
    have BR := Lib.hid (below_on BW1.out LR0.out.bel)
    have NXT : Hid (∀ (a' : Act) (w' : World) (R : Rts) (F : Nat → Prop) (s' : Option Addr) (c' : Nat) (xs : List RO), i < 20 → a' = (fun u => ⟨#[.int .i64 peer, .int .i64 own, .int .i64 mm, .slice s ms.length cap, u 4, u 5, u 6, u 7, u 8, .pointer (some ⟨rb, 0, none⟩), u 10, u 11, u 12, u 13, u 14, u 15, u 16, u 17, u 18, u 19, u 20, u 21, u 22, u 23, u 24, u 25, u 26, u 27, u 28, u 29, u 30, u 31, u 32, u 33, u 34, u 35, u 36, u 37, u 38, u 39, u 40, u 41, u 42, u 43, u 44, u 45, u 46, u 47, u 48, u 49, u 50, u 51, u 52, u 53, u 54, u 55, u 56, u 57, u 58, u 59, u 60, u 61, u 62, u 63, u 64, u 65, u 66, u 67, u 68, u 69, u 70, u 71, u 72, u 73, u 74, u 75, u 76, u 77, u 78, u 79, u 80, u 81, u 82, u 83, u 84, u 85, u 86, u 87, u 88, u 89, u 90, u 91, u 92, u 93, u 94, u 95, u 96, u 97, u 98, u 99, u 100, u 101, u 102, u 103, u 104, u 105, u 106, u 107, u 108, u 109, u 110, u 111, u 112, u 113, u 114, u 115, u 116, u 117, u 118, u 119, u 120, u 121, u 122, u 123, u 124, u 125, u 126, u 127, u 128, u 129, u 130, u 131, u 132, u 133, u 134, u 135, u 136, u 137, u 138, u 139, u 140, u 141, u 142, u 143, u 144, u 145, u 146, u 147, u 148, u 149, u 150, u 151, u 152, u 153, u 154, u 155, u 156, u 157, u 158, u 159, u 160, u 161, u 162, u 163, u 164, u 165, u 166, u 167, u 168, u 169, u 170, u 171, u 172, u 173, u 174, u 175, u 176, u 177, u 178, u 179, u 180, u 181, u 182, u 183, u 184, u 185, u 186, u 187, u 188, u 189, u 190, u 191, u 192, u 193, u 194, u 195, u 196, u 197, u 198, u 199, u 200, u 201, u 202, u 203, u 204, u 205, u 206, u 207, u 208, u 209, u 210, u 211, u 212, u 213, u 214, u 215, u 216, u 217, u 218, u 219, u 220, u 221, u 222, u 223, u 224, u 225, u 226, u 227, u 228, u 229, u 230, u 231, u 232, u 233, u 234, u 235, u 236, u 237, u 238, u 239, u 240, u 241, u 242, u 243, u 244, u 245, u 246, u 247, u 248, u 249, u 250, u 251, u 252, u 253, u 254, u 255, u 256, u 257, u 258, u 259, u 260, u 261, u 262, u 263, u 264, u 265, u 266, u 267, u 268, u 269, u 270, u 271, u 272, u 273, u 274, u 275, u 276, u 277, u 278, u 279, u 280, u 281, u 282, u 283, u 284, u 285, u 286, u 287, u 288, u 289, u 290, u 291, u 292, u 293, u 294, u 295, u 296, u 297, u 298, u 299, u 300, u 301, u 302, u 303, u 304, u 305, u 306, u 307, u 308, u 309, u 310, u 311, u 312, u 313, u 314, u 315, u 316, u 317, u 318, u 319, u 320, u 321, u 322, u 323, u 324, u 325, u 326, u 327, u 328, u 329, u 330, u 331, u 332, u 333, u 334, u 335, u 336, u 337, u 338, u 339, u 340, u 341, u 342, u 343, u 344, u 345, u 346, u 347, u 348, u 349, u 350, u 351, u 352, u 353, u 354, u 355, u 356, u 357, u 358, u 359, u 360, u 361, u 362, u 363, u 364, u 365, u 366, u 367, u 368, u 369, u 370, u 371, u 372, u 373, u 374, u 375, u 376, u 377, u 378, u 379, u 380, u 381, u 382, u 383, u 384, u 385, u 386, u 387, u 388, u 389, u 390, u 391, u 392, u 393, u 394, u 395, u 396, u 397, u 398, u 399, u 400, u 401, u 402, u 403, u 404, u 405, u 406, u 407, u 408, u 409, u 410, u 411, u 412, u 413, u 414, u 415, u 416, u 417, u 418, u 419, u 420], []⟩) (slotsOf a') → slotsOf a' 11 = .int .i64 ((i : Int) + 1) → slotsOf a' 10 = .slice s' xs.length c' → LS w1 w' rb peer own mm R F (.slice s' xs.length c') xs → Rel R (roR xs) → Nx (fun u => ⟨#[.int .i64 peer, .int .i64 own, .int .i64 mm, .slice s ms.length cap, u 4, u 5, u 6, u 7, u 8, .pointer (some ⟨rb, 0, none⟩), u 10, u 11, u 12, u 13, u 14, u 15, u 16, u 17, u 18, u 19, u 20, u 21, u 22, u 23, u 24, u 25, u 26, u 27, u 28, u 29, u 30, u 31, u 32, u 33, u 34, u 35, u 36, u 37, u 38, u 39, u 40, u 41, u 42, u 43, u 44, u 45, u 46, u 47, u 48, u 49, u 50, u 51, u 52, u 53, u 54, u 55, u 56, u 57, u 58, u 59, u 60, u 61, u 62, u 63, u 64, u 65, u 66, u 67, u 68, u 69, u 70, u 71, u 72, u 73, u 74, u 75, u 76, u 77, u 78, u 79, u 80, u 81, u 82, u 83, u 84, u 85, u 86, u 87, u 88, u 89, u 90, u 91, u 92, u 93, u 94, u 95, u 96, u 97, u 98, u 99, u 100, u 101, u 102, u 103, u 104, u 105, u 106, u 107, u 108, u 109, u 110, u 111, u 112, u 113, u 114, u 115, u 116, u 117, u 118, u 119, u 120, u 121, u 122, u 123, u 124, u 125, u 126, u 127, u 128, u 129, u 130, u 131, u 132, u 133, u 134, u 135, u 136, u 137, u 138, u 139, u 140, u 141, u 142, u 143, u 144, u 145, u 146, u 147, u 148, u 149, u 150, u 151, u 152, u 153, u 154, u 155, u 156, u 157, u 158, u 159, u 160, u 161, u 162, u 163, u 164, u 165, u 166, u 167, u 168, u 169, u 170, u 171, u 172, u 173, u 174, u 175, u 176, u 177, u 178, u 179, u 180, u 181, u 182, u 183, u 184, u 185, u 186, u 187, u 188, u 189, u 190, u 191, u 192, u 193, u 194, u 195, u 196, u 197, u 198, u 199, u 200, u 201, u 202, u 203, u 204, u 205, u 206, u 207, u 208, u 209, u 210, u 211, u 212, u 213, u 214, u 215, u 216, u 217, u 218, u 219, u 220, u 221, u 222, u 223, u 224, u 225, u 226, u 227, u 228, u 229, u 230, u 231, u 232, u 233, u 234, u 235, u 236, u 237, u 238, u 239, u 240, u 241, u 242, u 243, u 244, u 245, u 246, u 247, u 248, u 249, u 250, u 251, u 252, u 253, u 254, u 255, u 256, u 257, u 258, u 259, u 260, u 261, u 262, u 263, u 264, u 265, u 266, u 267, u 268, u 269, u 270, u 271, u 272, u 273, u 274, u 275, u 276, u 277, u 278, u 279, u 280, u 281, u 282, u 283, u 284, u 285, u 286, u 287, u 288, u 289, u 290, u 291, u 292, u 293, u 294, u 295, u 296, u 297, u 298, u 299, u 300, u 301, u 302, u 303, u 304, u 305, u 306, u 307, u 308, u 309, u 310, u 311, u 312, u 313, u 314, u 315, u 316, u 317, u 318, u 319, u 320, u 321, u 322, u 323, u 324, u 325, u 326, u 327, u 328, u 329, u 330, u 331, u 332, u 333, u 334, u 335, u 336, u 337, u 338, u 339, u 340, u 341, u 342, u 343, u 344, u 345, u 346, u 347, u 348, u 349, u 350, u 351, u 352, u 353, u 354, u 355, u 356, u 357, u 358, u 359, u 360, u 361, u 362, u 363, u 364, u 365, u 366, u 367, u 368, u 369, u 370, u 371, u 372, u 373, u 374, u 375, u 376, u 377, u 378, u 379, u 380, u 381, u 382, u 383, u 384, u 385, u 386, u 387, u 388, u 389, u 390, u 391, u 392, u 393, u 394, u 395, u 396, u 397, u 398, u 399, u 400, u 401, u 402, u 403, u 404, u 405, u 406, u 407, u 408, u 409, u 410, u 411, u 412, u 413, u 414, u 415, u 416, u 417, u 418, u 419, u 420], []⟩) (fun u wr => ∃ (i : Nat) (R : Rts) (F : Nat → Prop) (s : Option Addr) (c : Nat) (xs : List RO), i ≤ 20 ∧ u 11 = .int .i64 i ∧ u 10 = .slice s xs.length c ∧ Hid (LS w1 wr rb peer own mm R F (.slice s xs.length c) xs) ∧ Hid (Rel R (roR xs))) (fun u => 21 - (intOf (u 11)).toNat) (21 - (intOf (Value.int .i64 i)).toNat) a' w') := Lib.hid (by
      intro a' w' R F s' c' xs hi2 h0 h1 h2 h3 h4
      refine ⟨h0, ⟨i + 1, R, F, s', c', xs, by omega, by rw [h1]; push_cast; rfl, h2, Lib.hid h3, Lib.hid h4⟩, ?_⟩
      rw [h1]
      simp [intOf]
      omega)
    rcases hc1 : decide ((i : Int) < (ms.length : Int)) with _ | _
    · as_aux_lemma =>
        clear NXT
        have hc1' : decide (i < ms.length) = false := by have := of_decide_eq_false hc1; simp; omega
        go_wp2_with fail
        refine (ad_Update_nil ⟨2, 0, 0, 0, none, 0, 0, none, 0, 0, av0, none, 0, 0, 0, 0, ⟨#[]⟩⟩ wr).mono ?_
        rintro e x1 ⟨rfl, hb1⟩
        have X1 := Lib.hid hb1
        clear hb1
        go_wp2_with fail
        refine (l_net 1 (by decide) x1).mono ?_
        rintro e x2 ⟨rfl, hb2⟩
        have X2 := Lib.hid (below_on X1.out hb2)
        clear hb2 X1
        go_wp2_with fail
        refine (ad_Get_nil (netP 1) x2).mono ?_
        rintro e x3 ⟨rfl, hb3⟩
        have X3 := Lib.hid (below_on X2.out hb3)
        clear hb3 X2
        go_wp2_with ((with_reducible refine halt_at (X := .store 48 (.tmp 45) (.tmp 396)) ?_ ?_); (· rfl))
        unfold Halt
        refine st_fresh rfl 48 (.tmp 45) (.tmp 396) rfl rfl _ (rtC 0 (0, 0) av0) rfl (by kernel_rfl) rfl (rt_one _ _ _) ?_
        obtain ⟨x4, hx4, -, hb4, -⟩ := box1 x3 (rtC 0 (0, 0) av0) 48
        rw [← hx4]
        have X4 := Lib.hid (below_on X3.out hb4)
        clear hx4 hb4 X3
        go_wp2_with fail
        refine (ad_All_nil x4).mono ?_
        rintro e x5 ⟨rfl, hb5⟩
        have X5 := Lib.hid (below_on X4.out hb5)
        clear hb5 X4
        go_wp2_with fail
        refine (ad_Clear_nil x5).mono ?_
        rintro e x6 ⟨rfl, hb6⟩
        have X6 := Lib.hid (below_on X5.out hb6)
        clear hb6 X5
        go_wp2_with fail
        refine (ad_Len_nil x6).mono ?_
        rintro e x7 ⟨rfl, rfl⟩
        go_wp2_with fail
        go_ret
        exact ⟨rfl, below_on BR.out X6.out⟩
    · rcases hc2 : decide ((i : Int) < 20) with _ | _
      · as_aux_lemma =>
          clear NXT
          have hc1' : decide (i < ms.length) = true := by have := of_decide_eq_true hc1; simp; omega
          have hc2' : decide (i < 20) = false := by have := of_decide_eq_false hc2; simp; omega
          go_wp2_with fail
          refine (ad_Update_nil ⟨2, 0, 0, 0, none, 0, 0, none, 0, 0, av0, none, 0, 0, 0, 0, ⟨#[]⟩⟩ wr).mono ?_
          rintro e x1 ⟨rfl, hb1⟩
          have X1 := Lib.hid hb1
          clear hb1
          go_wp2_with fail
          refine (l_net 1 (by decide) x1).mono ?_
          rintro e x2 ⟨rfl, hb2⟩
          have X2 := Lib.hid (below_on X1.out hb2)
          clear hb2 X1
          go_wp2_with fail
          refine (ad_Get_nil (netP 1) x2).mono ?_
          rintro e x3 ⟨rfl, hb3⟩
          have X3 := Lib.hid (below_on X2.out hb3)
          clear hb3 X2
          go_wp2_with ((with_reducible refine halt_at (X := .store 48 (.tmp 45) (.tmp 396)) ?_ ?_); (· rfl))
          unfold Halt
          refine st_fresh rfl 48 (.tmp 45) (.tmp 396) rfl rfl _ (rtC 0 (0, 0) av0) rfl (by kernel_rfl) rfl (rt_one _ _ _) ?_
          obtain ⟨x4, hx4, -, hb4, -⟩ := box1 x3 (rtC 0 (0, 0) av0) 48
          rw [← hx4]
          have X4 := Lib.hid (below_on X3.out hb4)
          clear hx4 hb4 X3
          go_wp2_with fail
          refine (ad_All_nil x4).mono ?_
          rintro e x5 ⟨rfl, hb5⟩
          have X5 := Lib.hid (below_on X4.out hb5)
          clear hb5 X4
          go_wp2_with fail
          refine (ad_Clear_nil x5).mono ?_
          rintro e x6 ⟨rfl, hb6⟩
          have X6 := Lib.hid (below_on X5.out hb6)
          clear hb6 X5
          go_wp2_with fail
          refine (ad_Len_nil x6).mono ?_
          rintro e x7 ⟨rfl, rfl⟩
          go_wp2_with fail
          go_ret
          exact ⟨rfl, below_on BR.out X6.out⟩
      · as_aux_lemma =>
          have hlt : i < ms.length := by have := of_decide_eq_true hc1; omega
          have hl20 : i < 20 := by have := of_decide_eq_true hc2; omega
          obtain ⟨x, hx⟩ : ∃ x, ms[i]? = some x := ⟨_, List.getElem?_eq_getElem hlt⟩
          obtain ⟨g, o, rfl, hr, hma⟩ := msg_at (mss_below HM.out BR.out) hx
          have RM := Lib.hid hr
          have MA := Lib.hid hma
          have MB1 : Hid (∀ W, Below w1.heap.size w1 W → MsAt W x) := Lib.hid (fun W hW => by
            have hx' := hx
            obtain ⟨_, _, _, _, h⟩ := msg_at (mss_below HM.out (below_on BW1.out hW)) hx'
            exact h)
          have MZ := Lib.hid (HZ.out x (List.mem_of_getElem? hx))
          have HX := Lib.hid hx
          have i0 : (0 : Int) ≤ (i : Int) := by omega
          have i1 : (i : Int) < (ms.length : Int) := by omega
          clear hx hr hma
          go_wp2_with ((with_reducible refine halt_at (X := .load 43 (.tmp 69)) ?_ ?_); (· rfl))
          unfold Halt
          clear hc1 hc2
          refine ldm_at (by rfl) 43 (.tmp 69) rfl g (o + i * 20) rfl x.m.C.toList _ RM.out Try.underlying43 rfl sz_msg ?_
          go_wp2_with ((with_reducible refine halt_at (X := .store 43 (.tmp 12) (.tmp 70)) ?_ ?_); (· rfl))
          unfold Halt
          refine st_fresh rfl 43 (.tmp 12) (.tmp 70) rfl rfl _ x.m.C rfl sz_msg rfl (by simp [Value.oneCell']) ?_
          obtain ⟨w4, hw4, q4, hb4, -⟩ := box1 wr x.m.C 43
          rw [← hw4]
          obtain ⟨mb, hmb⟩ : ∃ mb, mb = wr.heap.size := ⟨_, rfl⟩
          rw [← hmb]
          have Q4 : Hid (w4.heap[mb]? = some (.cells x.m.C 43 (0, 0))) := Lib.hid (by rw [hmb]; exact q4)
          have L4 := Lib.hid (LR0.out.below hb4)
          have M4 := Lib.hid (MA.out.below hb4)
          have NF : Hid (¬ F mb) := Lib.hid (fun h => Nat.lt_irrefl _ (hmb ▸ LR0.out.lr.flt _ h))
          have BB := Lib.hid (l_big x.m w4)
          clear hw4 q4 hb4 RM MA LR0 BR hmb
          go_wp2_with ((with_reducible refine halt_at (X := .load 43 (.tmp 12)) ?_ ?_); (· rfl))
          unfold Halt
          refine ld_at (by rfl) 43 (.tmp 12) rfl mb rfl 43 x.m.C (0, 0) _ Q4.out Try.underlying43 rfl sz_msg ?_
          go_wp2_with fail
          refine BB.out.mono ?_
          rintro e w5 ⟨rfl, hb5⟩
          have L5 := Lib.hid (L4.out.below hb5)
          have Q5 := Lib.hid ((hb5.block _ (row_lt Q4.out)).trans Q4.out)
          have M5 := Lib.hid (M4.out.below hb5)
          clear BB hb5 L4 Q4 M4
          rcases hbg : bigB x.m with _ | _
          case true =>
            as_aux_lemma =>
              clear hbg
              go_wp2_with fail
              refine NXT.out _ w5 R F s1 c1 xs hl20 ?_ ?_ ?_ L5.out REL.out
              · kernel_rfl
              · rfl
              · rfl
          as_aux_lemma =>
            have BG := Lib.hid (big_len M5.out hbg)
            clear hbg
            obtain ⟨ps, pc, cs, cc, os, oc, hav, hal⟩ := M5.out.a
            have y8 : w5.cell? ⟨mb, 8, none⟩ = some (.slice ps x.a.path.length pc) := by
              refine (show w5.cell? _ = some (.slice x.m.a.ps x.m.a.pn x.m.a.pc) from row_cell Q5.out 8).trans ?_
              rw [hav]; rfl
            have HAV := Lib.hid hav
            have HAL := Lib.hid hal.1
            have pl := BG.out.2.2
            clear hav hal
            go_upto_region 11 with (fail)
            go_wp2_with fail
            clear y8
            go_loopw [77] (fun t77 wv => ∃ k : Nat, k ≤ x.a.path.length ∧ t77 = .int .i64 k ∧ Hid (Below w5.heap.size w5 wv)) (fun t77 _ => x.a.path.length - (intOf t77).toNat)
            case atStart => exact ⟨0, by omega, rfl, Lib.hid (Below.refl _ _)⟩
            case round =>
              obtain ⟨k, hk, rfl, BV⟩ := hrel
              by_cases hkl : k < x.a.path.length
              · as_aux_lemma =>
                  obtain ⟨sg, hsg⟩ : ∃ sg, x.a.path[k]? = some sg := ⟨_, List.getElem?_eq_getElem hkl⟩
                  obtain ⟨g2, o2, e0, e1, rfl, ⟨u2, hu2, hin⟩, p0, p1⟩ := pair_at (PathAt.below HAL.out BV.out) hsg
                  injection hu2 with q1 q2; injection q2 with q2 _; subst q1; subst q2
                  obtain ⟨su, cu, rfl, -, -, -⟩ := hin
                  have k0 : (0 : Int) ≤ (k : Int) := by omega
                  have k1 : (k : Int) < (x.a.path.length : Int) := by omega
                  clear hsg
                  go_upto_region 14 with (fail)
                  obtain ⟨v1, hv1, c0, c1', hb1⟩ := box2 wr (.bool sg.1) (.slice su sg.2.length cu) 54
                  rw [← hv1]
                  have BV1 := Lib.hid (below_on BV.out hb1)
                  clear hv1 hb1 BV p0 p1
                  rcases hcx : decide ((sg.2.length : Int) > 60) with _ | _
                  · have hcx' : decide (60 < sg.2.length) = false := by have := of_decide_eq_false hcx; simp; omega
                    go_wp2_with fail
                    exact ⟨⟨k + 1, by omega, by go_num, BV1⟩, by simp [intOf]; omega⟩
                  · have hcx' : decide (60 < sg.2.length) = true := by have := of_decide_eq_true hcx; simp; omega
                    go_wp2_with fail
                    go_ret
                    exact ⟨rfl, below_on BW1.out (below_on L5.out.bel BV1.out)⟩
              · as_aux_lemma =>
                  obtain rfl : k = x.a.path.length := by omega
                  obtain ⟨w6, hw6⟩ : ∃ w6 : World, w6 = wr := ⟨_, rfl⟩
                  rw [← hw6] at BV ⊢
                  have L6 := Lib.hid (L5.out.below BV.out)
                  have Q6 := Lib.hid ((BV.out.block _ (row_lt Q5.out)).trans Q5.out)
                  clear hw6 hk hkl BV L5 Q5 M5 HAL HAV pl
                  go_upto_if 87 with (fail)
                  go_cut [10] from 87 to 99 (fun v10 wx => ∃ (R : Rts) (F : Nat → Prop) (s' : Option Addr) (c' : Nat) (xs : List RO), v10 = .slice s' xs.length c' ∧ Hid (LS w1 wx rb peer own mm R F (.slice s' xs.length c') xs) ∧ Hid (Rel R (roR xs)) ∧ Hid (¬ F mb ∧ wx.heap[mb]? = some (.cells x.m.C 43 (0, 0))))
                  case first =>
                    clear NXT
                    by_cases h7 : i = 7
                    · as_aux_lemma =>
                        subst h7
                        have CL := Lib.hid (ad_Clear w6 L6.out.lr.rib L6.out.lr.flt)
                        go_wp2_with fail
                        refine CL.out.mono ?_
                        rintro e w7 ⟨vh, Lh, F', rfl, ho, hs, hmem, hrib, hF', -, hk⟩
                        obtain ⟨sh, ch, hvh, -⟩ := own_form ho.1
                        subst hvh
                        have L7 := Lib.hid (L6.out.clr hk hrib hF')
                        have e1 : Lh.length = xs.length := by
                          have h1 := keys_len hs hmem REL.out.r
                          have h2 := REL.out.len
                          unfold roR at h2
                          rw [List.length_map] at h2
                          omega
                        have d0 : ((Lh.length : Int) != (xs.length : Int)) = false := by rw [e1]; simp
                        have NF7 : Hid (¬ F' mb ∧ w7.heap[mb]? = some (.cells x.m.C 43 (0, 0))) := Lib.hid ⟨fun h => by
                          rcases hF' mb h with h1 | h1
                          · exact NF.out h1
                          · have := row_lt Q6.out; omega, (hk.block _ (row_lt Q6.out) NF.out).trans Q6.out⟩
                        have LN := Lib.hid (ad_Len L7.out.lr.rib)
                        clear ho hs hmem hrib hF' hk e1 CL L6 Q6
                        go_wp2_with fail
                        refine LN.out.mono ?_
                        rintro e w8 ⟨rfl, rfl⟩
                        go_wp2_with fail
                        go_meet
                        exact ⟨[], F', none, 0, [], rfl, Lib.hid L7.out.none, Lib.hid Rel.nil, NF7⟩
                    · as_aux_lemma =>
                        have e7 : ((i : Int) == 7) = false := by simp; omega
                        have e7' : ¬ ((i : Int) = 7) := by omega
                        go_wp2_with fail
                        go_meet
                        exact ⟨R, F, s1, c1, xs, rfl, L6, REL, Lib.hid ⟨NF.out, Q6.out⟩⟩
                  case rest =>
                    clear L6 Q6 REL NF
                    obtain ⟨R2, F2, s2, c2, xs2, hv10, L7, REL, Z7⟩ := hcut
                    subst hv10
                    obtain ⟨w7, hw7⟩ : ∃ wv : World, wv = wc := ⟨_, rfl⟩
                    rw [← hw7] at L7 Z7 ⊢
                    clear hw7 wc
                    have MS7 := Lib.hid (MB1.out w7 L7.out.bel)
                    have XL : Hid (xs2.length ≤ 256) := Lib.hid (by
                      have h := rel_len_room L7.out.lr.rib REL.out
                      unfold roR at h
                      rw [List.length_map] at h
                      omega)
                    have UP := Lib.hid (ad_Update x.m x.gone x.nets x.a w7 L7.out.lr.rib MS7.out.gone MS7.out.nets (fun W hk => (MB1.out W (L7.out.bel.trans (hk.below L7.out.bel.size L7.out.lr.fw))).a) (by have := BG.out; omega) MZ.out.a)
                    obtain ⟨r, hr⟩ : ∃ r, updP own mm R2 x.m.kind x.gone x.nets x.a = r := ⟨_, rfl⟩
                    rw [hr] at UP
                    have HR := Lib.hid hr
                    clear hr
                    go_wp2_with ((with_reducible refine halt_at (X := .load 43 (.tmp 12)) ?_ ?_); (· rfl))
                    unfold Halt
                    refine ld_at (by rfl) 43 (.tmp 12) rfl mb rfl 43 x.m.C (0, 0) _ Z7.out.2 Try.underlying43 rfl sz_msg ?_
                    go_wp2_with fail
                    refine UP.out.mono ?_
                    intro e w8 hp
                    obtain ⟨v8, F8, rfl, ow8, lr8, hF8, -, hk8⟩ := L7.out.lr.upd hp
                    obtain ⟨s8, c8, hv8, -⟩ := own_form ow8.1
                    subst hv8
                    have L8 := Lib.hid (L7.out.rib hk8 lr8 hF8)
                    have T8 := Lib.hid ow8
                    have Z8 : Hid (¬ F8 mb ∧ w8.heap[mb]? = some (.cells x.m.C 43 (0, 0))) := Lib.hid ⟨fun h => by
                      rcases hF8 mb h with h1 | h1
                      · exact Z7.out.1 h1
                      · have := row_lt Z7.out.2; omega, (hk8.block _ (row_lt Z7.out.2) Z7.out.1).trans Z7.out.2⟩
                    clear hp ow8 lr8 hF8 hk8 UP MS7 L7 Z7
                    obtain ⟨r1, r2, r3⟩ := r
                    have y0 : w8.cell? ⟨mb, 0, none⟩ = some (.int .i64 x.m.kind) := row_cell Z8.out.2 0
                    by_cases hk2 : x.m.kind = 2
                    · have HK := Lib.hid hk2
                      rw [hk2] at y0
                      obtain ⟨h1, h2⟩ := upd_next REL.out own mm x.gone x.nets x.a
                      have UN := Lib.hid h1
                      have UR := Lib.hid h2
                      have HR2 : Hid ((updLaw own mm (roR xs2) R2 x.gone x.nets x.a).1 = r1 ∧ (updLaw own mm (roR xs2) R2 x.gone x.nets x.a).2.1 = r2 ∧ (updLaw own mm (roR xs2) R2 x.gone x.nets x.a).2.2.1 = r3) := Lib.hid (by
                        have := HR.out
                        rw [hk2, h1] at this
                        injection this with e1 e2
                        injection e2 with e2 e3
                        exact ⟨e1, e2, e3⟩)
                      clear hk2 h1 h2 HR
                      as_aux_lemma =>
                        go_upto_region 27 with (fail)
                        -- HERE
                        have MS8 := Lib.hid (MB1.out w8 L8.out.bel)
                        obtain ⟨sg, cg, hG, -⟩ := id MS8.out.gone
                        obtain ⟨sn, cn, hN, -⟩ := id MS8.out.nets
                        have PG : Hid (∀ W, Below w8.heap.size w8 W → PsAt W (.slice sg x.gone.length cg) x.gone) := Lib.hid fun W hW => by rw [← hG]; exact PsAt.below MS8.out.gone hW
                        have PN : Hid (∀ W, Below w8.heap.size w8 W → PsAt W (.slice sn x.nets.length cn) x.nets) := Lib.hid fun W hW => by rw [← hN]; exact PsAt.below MS8.out.nets hW
                        have y5 : w8.cell? ⟨mb, 5, none⟩ = some (.slice sg x.gone.length cg) := by rw [← hG]; exact row_cell Z8.out.2 5
                        have y16 : w8.cell? ⟨mb, 16, none⟩ = some (.slice sn x.nets.length cn) := by rw [← hN]; exact row_cell Z8.out.2 16
                        have Y5 := Lib.hid y5
                        have Y16 := Lib.hid y16
                        obtain ⟨Lg, hLg⟩ : ∃ Lg, Lg = x.gone ++ x.nets := ⟨_, rfl⟩
                        have HLg := Lib.hid hLg
                        have LgL : Hid (Lg.length ≤ 40) := Lib.hid (by rw [hLg, List.length_append]; have := BG.out; omega)
                        have LgO : Hid (∀ p ∈ Lg, OkP p) := Lib.hid (by
                          rw [hLg]; intro p hp
                          rcases List.mem_append.1 hp with h | h
                          · exact ps_ok MS8.out.gone p h
                          · exact ps_ok MS8.out.nets p h)
                        have GN : Hid (x.gone.length ≤ 20 ∧ x.nets.length ≤ 20) := Lib.hid ⟨BG.out.1, BG.out.2.1⟩
                        clear hG hN hLg y0
                        refine wp_region_held_drew (S := fun w' => Below w8.heap.size w8 w') (by kernel_rfl) ?_ (fun hHeld => ?_)
                        · exact (Below.refl _ _).drew
                        generalize World.drew w8 = wd at hHeld ⊢
                        refine rgy (i := 1) (v := ?_) (atN rfl) (by kernel_rfl) (fun _ _ _ h => h) ?_ ?_ hHeld ?_; rotate_left 1; (· rfl); (· intro w' hSw; (try clear hHeld); go_simp; try with_reducible rfl)
                        try simp only [Act.put, List.setIfInBounds_toArray, List.set_cons_zero, List.set_cons_succ]
                        refine rgy (i := 2) (v := ?_) (atN rfl) (by kernel_rfl) (fun _ _ _ h => h) ?_ ?_ hHeld ?_; rotate_left 1; (· rfl); (· intro w' hSw; have y5 := cell_below y5 hSw; have y16 := cell_below y16 hSw; (try clear hHeld); go_simp; try with_reducible rfl)
                        try simp only [Act.put, List.setIfInBounds_toArray, List.set_cons_zero, List.set_cons_succ]
                        refine rgy (i := 4) (v := ?_) (atN rfl) (by kernel_rfl) (fun _ _ _ h => h) ?_ ?_ hHeld ?_; rotate_left 1; (· rfl); (· intro w' hSw; (try clear hHeld); go_simp; try with_reducible rfl)
                        try simp only [Act.put, List.setIfInBounds_toArray, List.set_cons_zero, List.set_cons_succ]
                        refine rgy (i := 5) (v := ?_) (atN rfl) (by kernel_rfl) (fun _ _ _ h => h) ?_ ?_ hHeld ?_; rotate_left 1; (· rfl); (· intro w' hSw; have y5 := cell_below y5 hSw; have y16 := cell_below y16 hSw; (try clear hHeld); go_simp; try with_reducible rfl)
                        try simp only [Act.put, List.setIfInBounds_toArray, List.set_cons_zero, List.set_cons_succ]
                        refine rgy (i := 8) (v := ?_) (atN rfl) (by kernel_rfl) (fun _ _ _ h => h) ?_ ?_ hHeld ?_; rotate_left 1; (· rfl); (· intro w' hSw; (try clear hHeld); go_simp; try with_reducible rfl)
                        try simp only [Act.put, List.setIfInBounds_toArray, List.set_cons_zero, List.set_cons_succ]
                        refine rg_call (i := 0) (atN rfl) (by kernel_rfl) ?_ (fun K hK => ?_); (· rfl); (try clear hb); have hwd := hHeld.size; go_simp; go_wp2_with fail; refine hK.out _ _ ?_ (fun hHeld => ?_); (· exact hHeld.alloc hHeld.size _); clear hK K
                        try simp only [Act.put, List.setIfInBounds_toArray, List.set_cons_zero, List.set_cons_succ]
                        refine rg_call (i := 3) (atN rfl) (by kernel_rfl) ?_ (fun K hK => ?_); (· rfl); (try clear hb); refine wp_appP (.tmp 116) (.tmp 118) rfl w8.heap.size _ _ [] x.gone x.gone rfl rfl rfl hHeld.size ⟨own_empty hwd, fun p hp => by simp at hp⟩ (PG.out _ hHeld) (by have := GN.out; simp; omega) ?_; intro s3 c3 wa ho1 hb1; refine hK.out _ _ ?_ (fun hHeld => ?_); (· exact hHeld.trans hb1); clear hK K
                        try simp only [Act.put, List.setIfInBounds_toArray, List.set_cons_zero, List.set_cons_succ]
                        refine rg_call (i := 6) (atN rfl) (by kernel_rfl) ?_ (fun K hK => ?_); (· rfl); (try clear hb); refine wp_appP (.tmp 119) (.tmp 121) rfl w8.heap.size _ _ x.gone x.nets Lg HLg.out rfl rfl hHeld.size ho1 (PN.out _ hHeld) (by have := GN.out; omega) ?_; intro s6 c6 wb ho2 hb2; refine hK.out _ _ ?_ (fun hHeld => ?_); (· exact hHeld.trans hb2); clear hK K
                        try simp only [Act.put, List.setIfInBounds_toArray, List.set_cons_zero, List.set_cons_succ]
                        refine rgy (i := 7) (v := ?_) (atN rfl) (by kernel_rfl) (fun _ _ _ h => h) ?_ ?_ hHeld ?_; rotate_left 1; (· rfl); (· intro w' hSw; (try clear hHeld); go_simp; try with_reducible rfl)
                        try simp only [Act.put, List.setIfInBounds_toArray, List.set_cons_zero, List.set_cons_succ]
                        refine wpAnyH_done (by kernel_rfl) ?_ _
                        have L9 := Lib.hid (L8.out.below hHeld)
                        have T9 := Lib.hid (T8.out.below hHeld)
                        have Z9 : Hid (¬ F8 mb ∧ wb.heap[mb]? = some (.cells x.m.C 43 (0, 0))) := Lib.hid ⟨Z8.out.1, (hHeld.block _ (row_lt Z8.out.2)).trans Z8.out.2⟩
                        have PL := Lib.hid ho2.at
                        have hll := LgL.out
                        clear hHeld ho2 hb2 ho1 hb1 hwd y5 y16 Y5 Y16 PG PN L8 T8 Z8 MS8
                        go_wp2_with fail
                        go_loopw [124, 18] (fun t124 t18 wv => ∃ k : Nat, k ≤ Lg.length ∧ t124 = .int .i64 k ∧ t18 = .bool (rights (Lg.take k)) ∧ Hid (Below wb.heap.size wb wv)) (fun t124 _ _ => Lg.length - (intOf t124).toNat)
                        case atStart => exact ⟨0, by omega, rfl, rfl, Lib.hid (Below.refl _ _)⟩
                        case round =>
                          obtain ⟨k, hk, rfl, rfl, BV⟩ := hrel
                          by_cases hkl : k < Lg.length
                          · as_aux_lemma =>
                              obtain ⟨p, hp⟩ : ∃ p, Lg[k]? = some p := ⟨_, List.getElem?_eq_getElem hkl⟩
                              obtain ⟨g2, o2, d0, d1, rfl, ⟨hpc, hok⟩, p0, p1⟩ := pair_at (PsAt.below PL.out BV.out) hp
                              injection hpc with q1 q2; injection q2 with q2 _; subst q1; subst q2
                              have k0 : (0 : Int) ≤ (k : Int) := by omega
                              have k1 : (k : Int) < (Lg.length : Int) := by omega
                              have RN : rights (Lg.take (k + 1)) = (rights (Lg.take k) && rightB p.1 p.2) := by
                                unfold rights
                                rw [take_snoc hp, List.all_append]
                                simp
                              have RN := Lib.hid RN
                              have RR := Lib.hid (fun W => ref_Right p.1 p.2 W hok.1 hok.2)
                              clear hp
                              go_upto_region 30 with (fail)
                              obtain ⟨v1, hv1, c0, c1', hb1⟩ := box2 wr (.int .u32 p.1) (.int .i64 p.2) 29
                              rw [← hv1]
                              have BV1 := Lib.hid (below_on BV.out hb1)
                              clear hv1 hb1 BV p0 p1 hok
                              rcases hrk : rights (Lg.take k) with _ | _
                              · have E : Hid (rights (Lg.take (k + 1)) = false) := Lib.hid (by rw [RN.out, hrk]; rfl)
                                clear hrk
                                go_wp2_with fail
                                exact ⟨⟨k + 1, by omega, by go_num, by rw [E.out], BV1⟩, by simp [intOf]; omega⟩
                              · have E : Hid (rights (Lg.take (k + 1)) = rightB p.1 p.2) := Lib.hid (by rw [RN.out, hrk]; rfl)
                                clear hrk
                                go_wp2_with fail
                                refine (RR.out v1).mono ?_
                                rintro e v2 ⟨rfl, hb2⟩
                                have BV2 := Lib.hid (below_on BV1.out hb2)
                                clear hb2 BV1 c0 c1'
                                go_wp2_with fail
                                exact ⟨⟨k + 1, by omega, by go_num, by rw [E.out], BV2⟩, by simp [intOf]; omega⟩
                          · as_aux_lemma =>
                              obtain rfl : k = Lg.length := by omega
                              rw [List.take_length]
                              -- HERE2
                              obtain ⟨w10, hw10⟩ : ∃ w10 : World, w10 = wr := ⟨_, rfl⟩
                              rw [← hw10] at BV ⊢
                              have LA := Lib.hid (L9.out.below BV.out)
                              have TA := Lib.hid (T9.out.below BV.out)
                              have ZA : Hid (¬ F8 mb ∧ w10.heap[mb]? = some (.cells x.m.C 43 (0, 0))) := Lib.hid ⟨Z9.out.1, (BV.out.block _ (row_lt Z9.out.2)).trans Z9.out.2⟩
                              obtain ⟨rg, hrg⟩ : ∃ rg, rights Lg = rg := ⟨_, rfl⟩
                              rw [hrg]
                              have HRG := Lib.hid hrg
                              have MSA := Lib.hid (MB1.out w10 LA.out.bel)
                              obtain ⟨sg, cg, hG, -⟩ := id MSA.out.gone
                              obtain ⟨sn, cn, hN, -⟩ := id MSA.out.nets
                              have PG : Hid (∀ W, Below w1.heap.size w1 W → PsAt W (.slice sg x.gone.length cg) x.gone) := Lib.hid fun W hW => by rw [← hG]; exact (MB1.out W hW).gone
                              have PN : Hid (∀ W, Below w1.heap.size w1 W → PsAt W (.slice sn x.nets.length cn) x.nets) := Lib.hid fun W hW => by rw [← hN]; exact (MB1.out W hW).nets
                              have y5 : w10.cell? ⟨mb, 5, none⟩ = some (.slice sg x.gone.length cg) := by rw [← hG]; exact row_cell ZA.out.2 5
                              have Y16 : Hid (∀ W : World, W.heap[mb]? = some (.cells x.m.C 43 (0, 0)) → W.cell? ⟨mb, 16, none⟩ = some (.slice sn x.nets.length cn)) := Lib.hid (fun W hW => by rw [← hN]; exact row_cell hW 16)
                              have R0 : Hid (On (fun q => ¬ F8 q ∧ q < w10.heap.size) w10 (fun W => RwAt W (.slice s2 xs2.length c2) xs2)) := Lib.hid LA.out.rows
                              have gl := GN.out.1
                              clear hw10 BV hk hkl L9 T9 Z9 PL hll hG hN hrg MSA LgL LgO
                              go_upto_region 33 with (fail)
                              go_wp2_with fail
                              clear y5
                              go_loopw [141, 21] (fun t141 t21 wv => ∃ (k : Nat) (s' : Option Addr) (c' : Nat) (ys : List RO), k ≤ x.gone.length ∧ t141 = .int .i64 k ∧ t21 = .slice s' ys.length c' ∧ Hid (On (fun q => ¬ F8 q ∧ q < wv.heap.size) wv (fun W => RwAt W (.slice s' ys.length c') ys)) ∧ Hid (roR ys = goneN (roR xs2) (x.gone.take k)) ∧ Hid (ys.length ≤ 256) ∧ Hid (Below w10.heap.size w10 wv)) (fun t141 _ _ => x.gone.length - (intOf t141).toNat)
                              case atStart => exact ⟨0, s2, c2, xs2, by omega, rfl, rfl, R0, Lib.hid rfl, XL, Lib.hid (Below.refl _ _)⟩
                              case round =>
                                clear R0
                                obtain ⟨k, s4, c4, ys, hk, rfl, rfl, RY, GY, YL, BV⟩ := hrel
                                by_cases hkl : k < x.gone.length
                                · as_aux_lemma =>
                                    -- HERE3
                                    obtain ⟨p, hp⟩ : ∃ p, x.gone[k]? = some p := ⟨_, List.getElem?_eq_getElem hkl⟩
                                    obtain ⟨g2, o2, d0, d1, rfl, ⟨hpc, hok⟩, p0, p1⟩ := pair_at (PG.out wr (below_on LA.out.bel BV.out)) hp
                                    injection hpc with q1 q2; injection q2 with q2 _; subst q1; subst q2
                                    have k0 : (0 : Int) ≤ (k : Int) := by omega
                                    have k1 : (k : Int) < (x.gone.length : Int) := by omega
                                    have GN1 : Hid (roR (keepRO p ys) = goneN (roR xs2) (x.gone.take (k + 1))) := Lib.hid (by
                                      rw [keep_rts, GY.out, take_snoc hp]
                                      unfold goneN
                                      rw [List.foldl_append]; rfl)
                                    have YL1 : Hid ((keepRO p ys).length ≤ 256) := Lib.hid (Nat.le_trans (List.length_filter_le ..) YL.out)
                                    clear hp
                                    go_upto_region 36 with (fail)
                                    obtain ⟨v1, hv1, c0, c1', hb1⟩ := box2 wr (.int .u32 p.1) (.int .i64 p.2) 29
                                    rw [← hv1]
                                    have BV1 := Lib.hid (below_on BV.out hb1)
                                    have RY1 := Lib.hid (on_below RY.out hb1)
                                    have WT := Lib.hid (l_without (.slice s4 ys.length c4) ys p v1 RY1.out.self (by have := YL.out; omega))
                                    clear hv1 hb1 BV RY p0 p1 hok
                                    go_wp2_with fail
                                    refine WT.out.mono ?_
                                    rintro e v2 ⟨s5, c5, rfl, ow, hb2⟩
                                    have BV2 := Lib.hid (below_on BV1.out hb2)
                                    have RY2 : Hid (On (fun q => ¬ F8 q ∧ q < v2.heap.size) v2 (fun W => RwAt W (.slice s5 (keepRO p ys).length c5) (keepRO p ys))) := Lib.hid (on_rows ow (fun q hq => Nat.lt_of_lt_of_le (LA.out.lr.flt q hq) BV1.out.size) (on_mem (on_below RY1.out hb2) fun x hx => (List.mem_filter.1 hx).1))
                                    clear ow hb2 BV1 RY1 WT c0 c1'
                                    go_wp2_with fail
                                    exact ⟨⟨k + 1, s5, c5, keepRO p ys, by omega, by go_num, rfl, RY2, GN1, YL1, BV2⟩, by simp [intOf]; omega⟩
                                · as_aux_lemma =>
                                    obtain rfl : k = x.gone.length := by omega
                                    rw [List.take_length] at GY
                                    -- HERE4
                                    obtain ⟨w11, hw11⟩ : ∃ w11 : World, w11 = wr := ⟨_, rfl⟩
                                    rw [← hw11] at BV RY ⊢
                                    have LB := Lib.hid (LA.out.below BV.out)
                                    have TB := Lib.hid (TA.out.below BV.out)
                                    have ZB : Hid (¬ F8 mb ∧ w11.heap[mb]? = some (.cells x.m.C 43 (0, 0))) := Lib.hid ⟨ZA.out.1, (BV.out.block _ (row_lt ZA.out.2)).trans ZA.out.2⟩
                                    have y16 : w11.cell? ⟨mb, 16, none⟩ = some (.slice sn x.nets.length cn) := Y16.out w11 ZB.out.2
                                    have nl := GN.out.2
                                    obtain ⟨pass, hpass⟩ : ∃ pass, passB x.a.path own = pass := ⟨_, rfl⟩
                                    have HPS := Lib.hid hpass
                                    obtain ⟨i0, hii, hz0, hz1, hz2⟩ := info_parts info_row
                                    clear hw11 BV hk hkl LA TA ZA gl hpass
                                    go_upto_region 38 with (fail)
                                    go_wp2_with fail
                                    clear y16
                                    go_loopw [152, 21] (fun t152 t21 wv => ∃ (k : Nat) (s' : Option Addr) (c' : Nat) (ys : List RO), k ≤ x.nets.length ∧ t152 = .int .i64 k ∧ t21 = .slice s' ys.length c' ∧ Hid (On (fun q => ¬ F8 q ∧ q < wv.heap.size) wv (fun W => RwAt W (.slice s' ys.length c') ys)) ∧ Hid (roR ys = netsN pass x.a (goneN (roR xs2) x.gone) (x.nets.take k)) ∧ Hid (ys.length ≤ 256 + k) ∧ Hid (Below w11.heap.size w11 wv)) (fun t152 _ _ => x.nets.length - (intOf t152).toNat)
                                    case atStart => exact ⟨0, s4, c4, ys, by omega, rfl, rfl, RY, GY, Lib.hid (by have := YL.out; omega), Lib.hid (Below.refl _ _)⟩
                                    case round =>
                                      clear RY GY YL
                                      obtain ⟨k, s4, c4, ys, hk, rfl, rfl, RY, GY, YL, BV⟩ := hrel
                                      by_cases hkl : k < x.nets.length
                                      · as_aux_lemma =>
                                          -- HERE5
                                          obtain ⟨p, hp⟩ : ∃ p, x.nets[k]? = some p := ⟨_, List.getElem?_eq_getElem hkl⟩
                                          obtain ⟨g2, o2, d0, d1, rfl, ⟨hpc, hok⟩, p0, p1⟩ := pair_at (PN.out wr (below_on LB.out.bel BV.out)) hp
                                          injection hpc with q1 q2; injection q2 with q2 _; subst q1; subst q2
                                          have k0 : (0 : Int) ≤ (k : Int) := by omega
                                          have k1 : (k : Int) < (x.nets.length : Int) := by omega
                                          have HOK := Lib.hid hok
                                          have GNX : Hid (netsN pass x.a (goneN (roR xs2) x.gone) (x.nets.take (k + 1)) = delL (roR ys) p ++ if pass then [] else [(p, x.a)]) := Lib.hid (by
                                            rw [take_snoc hp]
                                            unfold netsN
                                            rw [List.foldl_append]
                                            have := GY.out
                                            unfold netsN at this
                                            rw [← this]; rfl)
                                          have YL1 : Hid ((keepRO p ys).length ≤ 256 + k) := Lib.hid (Nat.le_trans (List.length_filter_le ..) YL.out)
                                          clear hp
                                          go_upto_region 41 with (fail)
                                          obtain ⟨v1, hv1, c0, c1', hb1⟩ := box2 wr (.int .u32 p.1) (.int .i64 p.2) 29
                                          rw [← hv1]
                                          obtain ⟨pb, hpb⟩ : ∃ pb, pb = wr.heap.size := ⟨_, rfl⟩
                                          rw [← hpb] at c0 c1' ⊢
                                          have BV1 := Lib.hid (below_on BV.out hb1)
                                          have RY1 := Lib.hid (on_below RY.out hb1)
                                          have PBL : Hid (pb < v1.heap.size) := Lib.hid (size_lt c0)
                                          have C0 := Lib.hid c0
                                          have C1 := Lib.hid c1'
                                          have WT := Lib.hid (l_without (.slice s4 ys.length c4) ys p v1 RY1.out.self (by have := YL.out; omega))
                                          clear hv1 hb1 BV RY p0 p1 hok hpb
                                          go_wp2_with fail
                                          refine WT.out.mono ?_
                                          rintro e v2 ⟨s5, c5, rfl, ow, hb2⟩
                                          have BV2 := Lib.hid (below_on BV1.out hb2)
                                          have OW2 := Lib.hid ow
                                          have C02 := Lib.hid (cell_below C0.out hb2)
                                          have C12 := Lib.hid (cell_below C1.out hb2)
                                          have RY2 := Lib.hid (on_mem (on_below RY1.out hb2) (zs := keepRO p ys) fun x hx => (List.mem_filter.1 hx).1)
                                          have MBL : Hid (mb < v1.heap.size) := Lib.hid (Nat.lt_of_lt_of_le (row_lt ZB.out.2) BV1.out.size)
                                          have ZV : Hid (v2.heap[mb]? = some (.cells x.m.C 43 (0, 0))) := Lib.hid ((BV2.out.block _ (row_lt ZB.out.2)).trans ZB.out.2)
                                          have V12 : Hid (v1.heap.size ≤ v2.heap.size) := Lib.hid hb2.size
                                          have B12 := Lib.hid hb2
                                          have RYA := Lib.hid (on_mem RY1.out (zs := keepRO p ys) fun x hx => (List.mem_filter.1 hx).1)
                                          have MA2 := Lib.hid (fun W (hW : Below v2.heap.size v2 W) => (MB1.out W (below_on LB.out.bel (below_on BV2.out hW))).a)
                                          have PSS := Lib.hid (av_Passes x.a x.m.a own v2 (MA2.out v2 (Below.refl _ _)))
                                          rw [HPS.out] at PSS
                                          clear ow hb2 RY1 WT c0 c1' C0 C1
                                          go_wp2_with ((with_reducible refine halt_at (X := .load 35 (.tmp 159)) ?_ ?_); (· rfl))
                                          unfold Halt
                                          refine ldm_at (by rfl) 35 (.tmp 159) rfl mb 6 rfl x.m.a.C.toList _ (msg_range ZV.out) Try.underlying35 rfl (by kernel_rfl) ?_
                                          go_wp2_with fail
                                          refine PSS.out.mono ?_
                                          rintro e v3 ⟨rfl, hb3⟩
                                          have BV3 := Lib.hid (below_on BV2.out hb3)
                                          have OW3 := Lib.hid (ow_below OW2.out hb3)
                                          have RY3 := Lib.hid (on_below RY2.out hb3)
                                          have ZV3 := Lib.hid ((hb3.block _ (row_lt ZV.out)).trans ZV.out)
                                          have V13 : Hid (v1.heap.size ≤ v3.heap.size) := Lib.hid (Nat.le_trans V12.out hb3.size)
                                          have C03 := Lib.hid (cell_below C02.out hb3)
                                          have C13 := Lib.hid (cell_below C12.out hb3)
                                          have B23 := Lib.hid hb3
                                          have B13 := Lib.hid (below_on B12.out hb3)
                                          clear hb3 OW2 RY2 ZV C02 C12 PSS
                                          rcases pass with _ | _
                                          · have CLN := Lib.hid (fun W (hW : Below v2.heap.size v2 W) => av_Clone x.a x.m.a W (MA2.out W hW) MZ.out.a)
                                            have OD := OW3.out.below (Below.refl _ _).drew
                                            have XD := (below_on B23.out (Below.refl _ _).drew : Below v2.heap.size v2 v3.drew)
                                            have X3 := (Below.refl v3.heap.size v3).drew
                                            have A3 : Hid ((keepRO p ys).length + 1 ≤ maxLen) := Lib.hid (app_short YL1.out GN.out.2 hk)
                                            have A4 : Hid (((keepRO p ys).length + 1) * 144 ≤ 140737488355328) := Lib.hid (app_bytes YL1.out GN.out.2 hk)
                                            go_upto_region 43 with (fail)
                                            refine wp_region_held_drew (S := fun w' => Below v1.heap.size v3 w') (by kernel_rfl) ?_ (fun hHeld => ?_)
                                            · exact (Below.refl _ _).drew
                                            generalize World.drew v3 = wd at OD XD X3 hHeld ⊢
                                            refine rgy (i := 0) (v := ?_) (atN rfl) (by kernel_rfl) (fun _ _ _ h => h) ?_ ?_ hHeld ?_; rotate_left 1; (· rfl); (· intro w' hSw; (try clear hHeld); go_simp; try with_reducible rfl)
                                            try simp only [Act.put, List.setIfInBounds_toArray, List.set_cons_zero, List.set_cons_succ]
                                            refine rgy (i := 1) (v := ?_) (atN rfl) (by kernel_rfl) (fun _ _ _ h => h) ?_ ?_ hHeld ?_; rotate_left 1; (· rfl); (· intro w' hSw; have c0 := (hSw.cell (p := ⟨pb, 0, none⟩) PBL.out).trans C03.out; have c1 := (hSw.cell (p := ⟨pb, 1, none⟩) PBL.out).trans C13.out; (try clear hHeld); go_simp; try with_reducible rfl)
                                            try simp only [Act.put, List.setIfInBounds_toArray, List.set_cons_zero, List.set_cons_succ]
                                            refine rgy (i := 2) (v := ?_) (atN rfl) (by kernel_rfl) (fun _ _ _ h => h) ?_ ?_ hHeld ?_; rotate_left 1; (· rfl); (· intro w' hSw; (try clear hHeld); go_simp; try with_reducible rfl)
                                            try simp only [Act.put, List.setIfInBounds_toArray, List.set_cons_zero, List.set_cons_succ]
                                            refine rgy (i := 3) (v := ?_) (atN rfl) (by kernel_rfl) (fun _ _ _ h => h) ?_ ?_ hHeld ?_; rotate_left 1; (· rfl); (· intro w' hSw; refine exec_ldm 35 (.tmp 166) ?_ mb 6 ?_ x.m.a.C.toList _ (msg_range ((hSw.block mb MBL.out).trans ZV3.out)) Try.underlying35 rfl (by kernel_rfl) <;> rfl)
                                            try simp only [Act.put, List.setIfInBounds_toArray, List.set_cons_zero, List.set_cons_succ]
                                            refine rg_call (i := 4) (atN rfl) (by kernel_rfl) ?_ (fun K hK => ?_); (· rfl); (try clear hb); go_simp; refine (CLN.out _ XD).mono ?_; rintro e wq ⟨cu, rfl, fr, hb⟩; have FR := Lib.hid fr; clear fr; replace OD := ow_below OD hb; have XQ := below_on X3 hb; go_wp2_with fail; refine hK.out _ _ ?_ (fun hHeld => ?_); (· exact XQ.mono V13.out); clear hK K
                                            try simp only [Act.put, List.setIfInBounds_toArray, List.set_cons_zero, List.set_cons_succ]
                                            refine rgy (i := 5) (v := .agg (roA ⟨p, x.a, cu⟩)) (atN rfl) (by kernel_rfl) (fun _ _ _ h => h) ?_ ?_ hHeld ?_; (· rfl); (· intro w' hSw; refine exec_built2 66 (.tmp 165) (.tmp 168) ?_ (.agg #[.int .u32 p.1, .int .i64 p.2]) cu.V ?_ ?_ (roA ⟨p, x.a, cu⟩) (ro_built p x.a cu); (· rfl); (· rfl); (· rfl))
                                            try simp only [Act.put, List.setIfInBounds_toArray, List.set_cons_zero, List.set_cons_succ]
                                            refine rg_call (i := 6) (atN rfl) (by kernel_rfl) ?_ (fun K hK => ?_); (· rfl); (try clear hb); refine wp_row1 (.tmp 169) ?_ ⟨p, x.a, cu⟩ ?_ ?_; (· kernel_rfl); (· kernel_rfl); intro wx hcs hb2; replace OD := ow_below OD hb2; have XX := below_on XQ hb2; refine hK.out _ _ ?_ (fun hHeld => ?_); (· exact XX.mono V13.out); clear hK K
                                            try simp only [Act.put, List.setIfInBounds_toArray, List.set_cons_zero, List.set_cons_succ]
                                            refine rg_call (i := 7) (atN rfl) (by kernel_rfl) ?_ (fun K hK => ?_); (· rfl); (try clear hb); refine wp_append_own wx (.tmp 164) (.tmp 170) 61 (by kernel_rfl) v1.heap.size 66 i0 _ 12 144 Try.underlying61 hii hz0 hz1 hz2 rfl (by decide) (.slice s5 (keepRO p ys).length c5) (keepRO p ys).length ((keepRO p ys).flatMap roL) (by kernel_rfl) OD ⟨wq.heap.size, 0, none⟩ 1 1 (roL ⟨p, x.a, cu⟩) (by kernel_rfl) (roL_len _) hcs (roL_one _) A3.out A4.out (Nat.le_trans V13.out XX.size) ?_; intro v' w' hown hgrow _; obtain ⟨s6, c6, hv6, -⟩ := own_form hown; subst hv6; refine hK.out _ _ ?_ (fun hHeld => ?_); (· exact (XX.mono V13.out).grown hgrow (Nat.le_trans V13.out XX.size) (own_form_le OD)); clear hK K
                                            try simp only [Act.put, List.setIfInBounds_toArray, List.set_cons_zero, List.set_cons_succ]
                                            refine rgy (i := 8) (v := .slice s6 ((keepRO p ys).length + 1) c6) (atN rfl) (by kernel_rfl) (fun _ _ _ h => h) ?_ ?_ hHeld ?_; (· rfl); (· intro w' hSw; (try clear hHeld); go_simp; try with_reducible rfl)
                                            try simp only [Act.put, List.setIfInBounds_toArray, List.set_cons_zero, List.set_cons_succ]
                                            refine wpAnyH_done (by kernel_rfl) ?_ _
                                            have GF : Hid (roR (keepRO p ys ++ [⟨p, x.a, cu⟩]) = netsN false x.a (goneN (roR xs2) x.gone) (x.nets.take (k + 1))) := Lib.hid (ro_snoc (cu := cu) GNX.out)
                                            have RF := Lib.hid (row_more (fun q hq => Nat.lt_of_lt_of_le (LB.out.lr.flt q hq) BV1.out.size) RYA.out B13.out hHeld FR.out X3 hb2 hown hgrow (fun g hg => own_lt OW3.out g hg) HOK.out MZ.out.a)
                                            have EL : Hid ((keepRO p ys ++ [(⟨p, x.a, cu⟩ : RO)]).length = (keepRO p ys).length + 1) := Lib.hid (by rw [List.length_append]; rfl)
                                            rw [← EL.out] at RF
                                            have BVN : Hid (Below w11.heap.size w11 w') := Lib.hid (below_on BV1.out (B13.out.trans hHeld))
                                            have YLN : Hid ((keepRO p ys).length + 1 ≤ 256 + (k + 1)) := Lib.hid (Nat.succ_le_succ YL1.out)
                                            clear hHeld hown hgrow hcs hb2 OD XD X3 XQ XX
                                            go_wp2_with fail
                                            refine ⟨⟨k + 1, s6, c6, keepRO p ys ++ [⟨p, x.a, cu⟩], by omega, by go_num, by rw [EL.out], RF, GF, Lib.hid (by rw [EL.out]; exact YLN.out), BVN⟩, by simp [intOf]; omega⟩
                                          · have GF : Hid (roR (keepRO p ys) = netsN true x.a (goneN (roR xs2) x.gone) (x.nets.take (k + 1))) := Lib.hid (by rw [GNX.out, keep_rts]; simp)
                                            have RF := Lib.hid (on_rows OW3.out (fun q hq => Nat.lt_of_lt_of_le (LB.out.lr.flt q hq) BV1.out.size) RY3.out)
                                            go_wp2_with fail
                                            exact ⟨⟨k + 1, s5, c5, keepRO p ys, by omega, by go_num, rfl, RF, GF, Lib.hid (by have := YL1.out; omega), BV3⟩, by simp [intOf]; omega⟩
                                      · as_aux_lemma =>
                                          obtain rfl : k = x.nets.length := by omega
                                          -- HERE6
                                          have NXT2 : Hid (roR ys = nextLw own (roR xs2) x.gone x.nets x.a) := Lib.hid (by
                                            have := GY.out
                                            rw [List.take_length, ← HPS.out] at this
                                            exact this)
                                          obtain ⟨w12, hw12⟩ : ∃ w12 : World, w12 = wr := ⟨_, rfl⟩
                                          rw [← hw12] at BV RY ⊢
                                          have LC := Lib.hid (LB.out.below BV.out)
                                          have TC := Lib.hid (TB.out.below BV.out)
                                          have YLC : Hid (ys.length ≤ 276) := Lib.hid (Nat.le_trans YL.out (by have := GN.out.2; omega))
                                          clear hw12 BV hk hkl GY LB TB ZB nl PN PG YL i0 hii hz0 hz1 hz2 Y16
                                          go_upto_block 10 with (fail)
                                          refine wp_cut_at (fun v => ⟨#[.int .i64 peer, .int .i64 own, .int .i64 mm, .slice (some ⟨g, o, none⟩) ms.length cap, v 4, v 5, v 6, v 7, v 8, .pointer (some ⟨rb, 0, none⟩), v 10, .int .i64 i, v 12, v 13, v 14, v 15, v 16, v 17, v 18, v 19, v 20, v 21, v 22, v 23, v 24, v 25, v 26, v 27, v 28, v 29, v 30, v 31, v 32, v 33, v 34, v 35, v 36, v 37, v 38, v 39, v 40, v 41, v 42, v 43, v 44, v 45, v 46, v 47, v 48, v 49, v 50, v 51, v 52, v 53, v 54, v 55, v 56, v 57, v 58, v 59, v 60, v 61, v 62, v 63, v 64, v 65, v 66, v 67, v 68, v 69, v 70, v 71, v 72, v 73, v 74, v 75, v 76, v 77, v 78, v 79, v 80, v 81, v 82, v 83, v 84, v 85, v 86, v 87, v 88, v 89, v 90, v 91, v 92, v 93, v 94, v 95, v 96, v 97, v 98, v 99, v 100, v 101, v 102, v 103, v 104, v 105, v 106, v 107, v 108, v 109, v 110, v 111, v 112, v 113, v 114, v 115, v 116, v 117, v 118, v 119, v 120, v 121, v 122, v 123, v 124, v 125, v 126, v 127, v 128, v 129, v 130, v 131, v 132, v 133, v 134, v 135, v 136, v 137, v 138, v 139, v 140, v 141, v 142, v 143, v 144, v 145, v 146, v 147, v 148, v 149, v 150, v 151, v 152, v 153, v 154, v 155, v 156, v 157, v 158, v 159, v 160, v 161, v 162, v 163, v 164, v 165, v 166, v 167, v 168, v 169, v 170, v 171, v 172, v 173, v 174, v 175, v 176, v 177, v 178, v 179, v 180, v 181, v 182, v 183, v 184, v 185, v 186, v 187, v 188, v 189, v 190, v 191, v 192, v 193, v 194, v 195, v 196, v 197, v 198, v 199, v 200, v 201, v 202, v 203, v 204, v 205, v 206, v 207, v 208, v 209, v 210, v 211, v 212, v 213, v 214, v 215, v 216, v 217, v 218, v 219, v 220, v 221, v 222, v 223, v 224, v 225, v 226, v 227, v 228, v 229, v 230, v 231, v 232, v 233, v 234, v 235, v 236, v 237, v 238, v 239, v 240, v 241, v 242, v 243, v 244, v 245, v 246, v 247, v 248, v 249, v 250, v 251, v 252, v 253, v 254, v 255, v 256, v 257, v 258, v 259, v 260, v 261, v 262, v 263, v 264, v 265, v 266, v 267, v 268, v 269, v 270, v 271, v 272, v 273, v 274, v 275, v 276, v 277, v 278, v 279, v 280, v 281, v 282, v 283, v 284, v 285, v 286, v 287, v 288, v 289, v 290, v 291, v 292, v 293, v 294, v 295, v 296, v 297, v 298, v 299, v 300, v 301, v 302, v 303, v 304, v 305, v 306, v 307, v 308, v 309, v 310, v 311, v 312, v 313, v 314, v 315, v 316, v 317, v 318, v 319, v 320, v 321, v 322, v 323, v 324, v 325, v 326, v 327, v 328, v 329, v 330, v 331, v 332, v 333, v 334, v 335, v 336, v 337, v 338, v 339, v 340, v 341, v 342, v 343, v 344, v 345, v 346, v 347, v 348, v 349, v 350, v 351, v 352, v 353, v 354, v 355, v 356, v 357, v 358, v 359, v 360, v 361, v 362, v 363, v 364, v 365, v 366, v 367, v 368, v 369, v 370, v 371, v 372, v 373, v 374, v 375, v 376, v 377, v 378, v 379, v 380, v 381, v 382, v 383, v 384, v 385, v 386, v 387, v 388, v 389, v 390, v 391, v 392, v 393, v 394, v 395, v 396, v 397, v 398, v 399, v 400, v 401, v 402, v 403, v 404, v 405, v 406, v 407, v 408, v 409, v 410, v 411, v 412, v 413, v 414, v 415, v 416, v 417, v 418, v 419, v 420], []⟩) (fun v wx => ∃ (s' : Option Addr) (c' : Nat) (zs : List RO), v 21 = .slice s' zs.length c' ∧ Hid (LS w1 wx rb peer own mm r3 F8 (.slice s' zs.length c') zs) ∧ Hid (Rel r3 (roR zs))) ?_ ?_
                                          · as_aux_lemma =>
                                            intro v wc hrel
                                            -- HERE7
                                            obtain ⟨s5, c5, zs, hv21, LE, REL2⟩ := hrel
                                            obtain ⟨w15, hw15⟩ : ∃ w15 : World, w15 = wc := ⟨_, rfl⟩
                                            rw [← hw15] at LE ⊢
                                            clear hw15 LC TC RY; try clear NXT2; try clear YLC; try clear HR2; try clear UR; try clear REL; try clear HPS; try clear XL
                                            dsimp only
                                            rw [hv21]
                                            clear hv21
                                            have PEER : Hid (∀ p, getL r3 p = getL (roR zs) p) := Lib.hid REL2.out.eq
                                            have LEN : Hid (r3.length = zs.length) := Lib.hid (by have := REL2.out.len; unfold roR at this; rw [List.length_map] at this; exact this)
                                            have KA : Hid (KeysApart r3) := Lib.hid REL2.out.r
                                            have ZL : Hid (zs.length ≤ 256) := Lib.hid (by
                                              have h := rel_len_room LE.out.lr.rib REL2.out
                                              unfold roR at h
                                              rw [List.length_map] at h
                                              omega)
                                            have AL := Lib.hid (ad_All w15 LE.out.lr.rib)
                                            go_wp2_with fail
                                            refine AL.out.mono ?_
                                            rintro e w16 ⟨va, vs, rfl, rs, hpl, hmem, hb16⟩
                                            obtain ⟨sa, ca, hva, -⟩ := own_form rs.own
                                            subst hva
                                            have RS := Lib.hid rs
                                            have PL := Lib.hid hpl
                                            have vl : vs.length = zs.length := by
                                              have h := keys_len hpl hmem KA.out
                                              rw [List.length_map] at h
                                              rw [h]; exact LEN.out
                                            have VL := Lib.hid vl
                                            have LF := Lib.hid (LE.out.below hb16)
                                            clear rs hpl hmem hb16 AL LE
                                            have ll := ad_Len LF.out.lr.rib
                                            rw [LEN.out] at ll
                                            have LN := Lib.hid ll
                                            have zl := ZL.out
                                            have d1 : ((vs.length : Int) != (zs.length : Int)) = false := by rw [vl]; simp
                                            have d2 : ((zs.length : Int) != (zs.length : Int)) = false := by simp
                                            clear ll vl
                                            go_wp2_with fail
                                            refine LN.out.mono ?_
                                            rintro e w17 ⟨rfl, rfl⟩
                                            go_wp2_with fail
                                            clear d1 d2
                                            have vle : vs.length ≤ 256 := by rw [VL.out]; exact ZL.out
                                            go_loopw [316] (fun t316 wv => ∃ (k : Nat), k ≤ vs.length ∧ t316 = .int .i64 k ∧ Hid (Below w16.heap.size w16 wv)) (fun t316 _ => vs.length - (intOf t316).toNat)
                                            case atStart => exact ⟨0, by omega, rfl, Lib.hid (Below.refl _ _)⟩
                                            case round =>
                                              obtain ⟨k, hk, rfl, BV⟩ := hrel
                                              by_cases hkl : k < vs.length
                                              · as_aux_lemma =>
                                                  -- HERE23
                                                  obtain ⟨x', hx⟩ : ∃ x', vs[k]? = some x' := ⟨_, List.getElem?_eq_getElem hkl⟩
                                                  obtain ⟨gr, ow, rfl, hr, hgt, hok, hav⟩ := re_at (RS.out.below BV.out) hx
                                                  have RR := Lib.hid hr
                                                  have HAV := Lib.hid hav
                                                  have HX := Lib.hid hx
                                                  have HOK := Lib.hid hok
                                                  have GT0 := Lib.hid hgt
                                                  have k0 : (0 : Int) ≤ (k : Int) := by omega
                                                  have k1 : (k : Int) < (vs.length : Int) := by omega
                                                  clear hx hr hav hok hgt
                                                  go_wp2_with ((with_reducible refine halt_at (X := .load 48 (.tmp 319)) ?_ ?_); (· rfl))
                                                  unfold Halt
                                                  refine ldm_at (by rfl) 48 (.tmp 319) rfl gr (ow + k * 13) rfl (rtL peer x') _ RR.out Try.underlying48 rfl sz_rtR ?_
                                                  go_wp2_with ((with_reducible refine halt_at (X := .store 48 (.tmp 38) (.tmp 320)) ?_ ?_); (· rfl))
                                                  unfold Halt
                                                  refine st_fresh rfl 48 (.tmp 38) (.tmp 320) rfl rfl _ (rtC peer x'.p x'.v) rfl sz_rtR rfl (rt_one _ _ _) ?_
                                                  obtain ⟨v1, hv1, q1, hb1, -⟩ := box1 wr (rtC peer x'.p x'.v) 48
                                                  rw [← hv1]
                                                  obtain ⟨pb, hpb⟩ : ∃ pb, pb = wr.heap.size := ⟨_, rfl⟩
                                                  rw [← hpb] at q1 ⊢
                                                  have BV1 := Lib.hid (below_on BV.out hb1)
                                                  have HAV1 := Lib.hid (HAV.out.below hb1)
                                                  have Q1 := Lib.hid q1
                                                  have y1 : v1.cell? ⟨pb, 1, none⟩ = some (.int .u32 x'.p.1) := row_cell q1 1
                                                  have y2 : v1.cell? ⟨pb, 2, none⟩ = some (.int .i64 x'.p.2) := row_cell q1 2
                                                  have FN := Lib.hid (l_find (.slice s5 zs.length c5) zs x'.p v1 (LF.out.below BV1.out).at)
                                                  clear hv1 q1 hb1 BV HAV RR hpb
                                                  go_wp2_with fail
                                                  refine FN.out.mono ?_
                                                  rintro e v2 ⟨rfl, hb2⟩
                                                  have BV2 := Lib.hid (below_on BV1.out hb2)
                                                  have HAV2 := Lib.hid (HAV1.out.below hb2)
                                                  have Q2 := Lib.hid ((hb2.block _ (row_lt Q1.out)).trans Q1.out)
                                                  have GG := Lib.hid (ad_Get x'.p v2 (LF.out.below BV2.out).lr.rib HOK.out)
                                                  clear hb2 BV1 HAV1 Q1 FN y1 y2
                                                  have y1 : v2.cell? ⟨pb, 1, none⟩ = some (.int .u32 x'.p.1) := row_cell Q2.out 1
                                                  have y2 : v2.cell? ⟨pb, 2, none⟩ = some (.int .i64 x'.p.2) := row_cell Q2.out 2
                                                  obtain ⟨j, y, hy, hf, hya⟩ : ∃ (j : Nat) (y : RO), zs[j]? = some y ∧ fndI (roR zs) x'.p = j ∧ y.a = x'.a := by
                                                    have h1 := GT0.out
                                                    rw [PEER.out] at h1
                                                    rcases fnd_cases zs x'.p with ⟨g0, f0⟩ | ⟨j, y, hy, hyp, g0, f0⟩
                                                    · rw [h1] at g0; cases g0
                                                    · rw [h1] at g0
                                                      exact ⟨j, y, hy, f0, (Option.some.inj g0).symm⟩
                                                  rw [hf]
                                                  have j0 : (0 : Int) ≤ (j : Int) := by omega
                                                  have j1 : (j : Int) < (zs.length : Int) := by have := (List.getElem?_eq_some_iff.1 hy).1; omega
                                                  have j2 : decide ((j : Int) < 0) = false := by simp
                                                  have HY := Lib.hid hy
                                                  have HYA := Lib.hid hya
                                                  clear hy hf hya
                                                  go_wp2_with fail
                                                  refine GG.out.mono ?_
                                                  intro e v3 hpost
                                                  obtain ⟨av', uv, rfl, hga, hfr, hb3⟩ : ∃ (av' : At) (uv : AV), e = .returned (.tuple #[.agg (rtC peer x'.p uv), .bool true]) ∧ av' = x'.a ∧ AvAt v3 x'.a uv ∧ Below v2.heap.size v2 v3 := by
                                                    rcases hpost with ⟨h1, -⟩ | ⟨a, v, h1, h2, -, h4, h5⟩
                                                    · rw [GT0.out] at h1; cases h1
                                                    · rw [GT0.out] at h1
                                                      have := Option.some.inj h1
                                                      subst this
                                                      exact ⟨_, v, h2, rfl, h4.self.at, h5⟩
                                                  subst hga
                                                  have BV3 := Lib.hid (below_on BV2.out hb3)
                                                  have HAV3 := Lib.hid (HAV2.out.below hb3)
                                                  have Q3 := Lib.hid ((hb3.block _ (row_lt Q2.out)).trans Q2.out)
                                                  have HU := Lib.hid hfr
                                                  clear hb3 BV2 HAV2 Q2 GG y1 y2 hfr
                                                  go_wp2_with ((with_reducible refine halt_at (X := .store 48 (.tmp 40) (.tmp 330)) ?_ ?_); (· rfl))
                                                  unfold Halt
                                                  refine st_fresh rfl 48 (.tmp 40) (.tmp 330) rfl rfl _ (rtC peer x'.p uv) rfl sz_rtR rfl (rt_one _ _ _) ?_
                                                  obtain ⟨v4, hv4, q4, hb4, -⟩ := box1 v3 (rtC peer x'.p uv) 48
                                                  rw [← hv4]
                                                  obtain ⟨qb, hqb⟩ : ∃ qb, qb = v3.heap.size := ⟨_, rfl⟩
                                                  rw [← hqb] at q4 ⊢
                                                  have BV4 := Lib.hid (below_on BV3.out hb4)
                                                  have HAV4 := Lib.hid (HAV3.out.below hb4)
                                                  have HU4 := Lib.hid (HU.out.below hb4)
                                                  have q3 := (hb4.block _ (row_lt Q3.out)).trans Q3.out
                                                  have RPX := Lib.hid (rt_block q3)
                                                  have RQX := Lib.hid (rt_block q4)
                                                  have y0 : v4.cell? ⟨pb, 0, none⟩ = some (.int .i64 peer) := row_cell q3 0
                                                  have y1 : v4.cell? ⟨pb, 1, none⟩ = some (.int .u32 x'.p.1) := row_cell q3 1
                                                  have y2 : v4.cell? ⟨pb, 2, none⟩ = some (.int .i64 x'.p.2) := row_cell q3 2
                                                  have z0 : v4.cell? ⟨qb, 0, none⟩ = some (.int .i64 peer) := row_cell q4 0
                                                  clear hv4 q4 q3 hb4 BV3 HAV3 Q3 HU hqb
                                                  obtain ⟨gy, oy, rfl, hry, -, hay, -⟩ := row_at (LF.out.below BV4.out).at HY.out
                                                  have RYY := Lib.hid (ro_range hry)
                                                  have SM1 := Lib.hid (fun W (hW : Below v4.heap.size v4 W) => av_Same x'.a y.a x'.v y.v W (HAV4.out.below hW) (hay.below hW))
                                                  have SM2 := Lib.hid (fun W (hW : Below v4.heap.size v4 W) => av_Same x'.a x'.a uv x'.v W (HU4.out.below hW) (HAV4.out.below hW))
                                                  rw [HYA.out, sameA_refl] at SM1
                                                  rw [sameA_refl] at SM2
                                                  have pe : (peer != peer) = false := by simp
                                                  clear hry hay HY
                                                  go_upto_region 88 with (fail)
                                                  by_cases hk0 : k = 0
                                                  · as_aux_lemma =>
                                                      -- HERE25
                                                      have g1 : decide ((k : Int) > 0) = false := by rw [hk0]; rfl
                                                      have g2 : decide (0 < k) = false := by rw [hk0]; rfl
                                                      clear HX hk0
                                                      refine wp_region_held_drew (S := fun w' => Below v4.heap.size v4 w') (by kernel_rfl) ?_ (fun hHeld => ?_)
                                                      · exact (Below.refl _ _).drew
                                                      refine rgy (i := 0) (v := ?_) (atN rfl) (by kernel_rfl) (fun _ _ _ h => h) ?_ ?_ hHeld ?_; rotate_left 1; (· rfl); (· intro w' hSw; (try clear hHeld); go_simp; try with_reducible rfl)
                                                      try simp only [Act.put, List.setIfInBounds_toArray, List.set_cons_zero, List.set_cons_succ]
                                                      refine rgy (i := 1) (v := ?_) (atN rfl) (by kernel_rfl) (fun _ _ _ h => h) ?_ ?_ hHeld ?_; rotate_left 1; (· rfl); (· intro w' hSw; (try clear hHeld); go_simp; try with_reducible rfl)
                                                      try simp only [Act.put, List.setIfInBounds_toArray, List.set_cons_zero, List.set_cons_succ]
                                                      refine rgy (i := 2) (v := ?_) (atN rfl) (by kernel_rfl) (fun _ _ _ h => h) ?_ ?_ hHeld ?_; rotate_left 1; (· rfl); (· intro w' hSw; (try clear hHeld); go_simp; try with_reducible rfl)
                                                      try simp only [Act.put, List.setIfInBounds_toArray, List.set_cons_zero, List.set_cons_succ]
                                                      refine rgy (i := 3) (v := ?_) (atN rfl) (by kernel_rfl) (fun _ _ _ h => h) ?_ ?_ hHeld ?_; rotate_left 1; (· rfl); (· intro w' hSw; (try clear hHeld); go_simp; try with_reducible rfl)
                                                      try simp only [Act.put, List.setIfInBounds_toArray, List.set_cons_zero, List.set_cons_succ]
                                                      refine rgy (i := 4) (v := ?_) (atN rfl) (by kernel_rfl) (fun _ _ _ h => h) ?_ ?_ hHeld ?_; rotate_left 1; (· rfl); (· intro w' hSw; have y0 := cell_below y0 hSw; have y1 := cell_below y1 hSw; have y2 := cell_below y2 hSw; have z0 := cell_below z0 hSw; (try clear hHeld); go_simp; try with_reducible rfl)
                                                      try simp only [Act.put, List.setIfInBounds_toArray, List.set_cons_zero, List.set_cons_succ]
                                                      refine rgy (i := 5) (v := ?_) (atN rfl) (by kernel_rfl) (fun _ _ _ h => h) ?_ ?_ hHeld ?_; rotate_left 1; (· rfl); (· intro w' hSw; (try clear hHeld); go_simp; try with_reducible rfl)
                                                      try simp only [Act.put, List.setIfInBounds_toArray, List.set_cons_zero, List.set_cons_succ]
                                                      refine rgy (i := 6) (v := ?_) (atN rfl) (by kernel_rfl) (fun _ _ _ h => h) ?_ ?_ hHeld ?_; rotate_left 1; (· rfl); (· intro w' hSw; (try clear hHeld); go_simp; try with_reducible rfl)
                                                      try simp only [Act.put, List.setIfInBounds_toArray, List.set_cons_zero, List.set_cons_succ]
                                                      refine rgy (i := 7) (v := ?_) (atN rfl) (by kernel_rfl) (fun _ _ _ h => h) ?_ ?_ hHeld ?_; rotate_left 1; (· rfl); (· intro w' hSw; (try clear hHeld); go_simp; try with_reducible rfl)
                                                      try simp only [Act.put, List.setIfInBounds_toArray, List.set_cons_zero, List.set_cons_succ]
                                                      refine rgy (i := 8) (v := ?_) (atN rfl) (by kernel_rfl) (fun _ _ _ h => h) ?_ ?_ hHeld ?_; rotate_left 1; (· rfl); (· intro w' hSw; (try clear hHeld); go_simp; try with_reducible rfl)
                                                      try simp only [Act.put, List.setIfInBounds_toArray, List.set_cons_zero, List.set_cons_succ]
                                                      refine rgy (i := 9) (v := ?_) (atN rfl) (by kernel_rfl) (fun _ _ _ h => h) ?_ ?_ hHeld ?_; rotate_left 1; (· rfl); (· intro w' hSw; (try clear hHeld); go_simp; try with_reducible rfl)
                                                      try simp only [Act.put, List.setIfInBounds_toArray, List.set_cons_zero, List.set_cons_succ]
                                                      refine rgy (i := 10) (v := x'.v.V) (atN rfl) (by kernel_rfl) (fun _ _ _ h => h) ?_ ?_ hHeld ?_; (· rfl); (· intro w' hSw; refine exec_ldm 35 (.tmp 341) ?_ pb 3 ?_ x'.v.C.toList _ (range_belowR RPX.out hSw) Try.underlying35 rfl sz_avR <;> kernel_rfl)
                                                      try simp only [Act.put, List.setIfInBounds_toArray, List.set_cons_zero, List.set_cons_succ]
                                                      refine rgy (i := 11) (v := ?_) (atN rfl) (by kernel_rfl) (fun _ _ _ h => h) ?_ ?_ hHeld ?_; rotate_left 1; (· rfl); (· intro w' hSw; (try clear hHeld); go_simp; try with_reducible rfl)
                                                      try simp only [Act.put, List.setIfInBounds_toArray, List.set_cons_zero, List.set_cons_succ]
                                                      refine rgy (i := 12) (v := ?_) (atN rfl) (by kernel_rfl) (fun _ _ _ h => h) ?_ ?_ hHeld ?_; rotate_left 1; (· rfl); (· intro w' hSw; (try clear hHeld); go_simp; try with_reducible rfl)
                                                      try simp only [Act.put, List.setIfInBounds_toArray, List.set_cons_zero, List.set_cons_succ]
                                                      refine rgy (i := 13) (v := ?_) (atN rfl) (by kernel_rfl) (fun _ _ _ h => h) ?_ ?_ hHeld ?_; rotate_left 1; (· rfl); (· intro w' hSw; have y0 := cell_below y0 hSw; have y1 := cell_below y1 hSw; have y2 := cell_below y2 hSw; have z0 := cell_below z0 hSw; (try clear hHeld); go_simp; try with_reducible rfl)
                                                      try simp only [Act.put, List.setIfInBounds_toArray, List.set_cons_zero, List.set_cons_succ]
                                                      refine rgy (i := 14) (v := ?_) (atN rfl) (by kernel_rfl) (fun _ _ _ h => h) ?_ ?_ hHeld ?_; rotate_left 1; (· rfl); (· intro w' hSw; (try clear hHeld); go_simp; try with_reducible rfl)
                                                      try simp only [Act.put, List.setIfInBounds_toArray, List.set_cons_zero, List.set_cons_succ]
                                                      refine rgy (i := 15) (v := y.v.V) (atN rfl) (by kernel_rfl) (fun _ _ _ h => h) ?_ ?_ hHeld ?_; (· rfl); (· intro w' hSw; refine exec_ldm 35 (.tmp 346) ?_ gy (oy + j * 12 + 2) ?_ y.v.C.toList _ (range_belowR RYY.out hSw) Try.underlying35 rfl sz_avR <;> kernel_rfl)
                                                      try simp only [Act.put, List.setIfInBounds_toArray, List.set_cons_zero, List.set_cons_succ]
                                                      refine rg_call (i := 16) (atN rfl) (by kernel_rfl) ?_ (fun K hK => ?_); (· rfl); (try clear hb); go_simp; (refine (SM1.out _ hHeld).mono ?_; rintro e w1 ⟨rfl, hb⟩); go_wp2_with fail; refine hK.out _ _ ?_ (fun hHeld => ?_); (· exact hHeld.trans (hb.mono hHeld.size)); clear hK K
                                                      try simp only [Act.put, List.setIfInBounds_toArray, List.set_cons_zero, List.set_cons_succ]
                                                      refine rgy (i := 17) (v := ?_) (atN rfl) (by kernel_rfl) (fun _ _ _ h => h) ?_ ?_ hHeld ?_; rotate_left 1; (· rfl); (· intro w' hSw; (try clear hHeld); go_simp; try with_reducible rfl)
                                                      try simp only [Act.put, List.setIfInBounds_toArray, List.set_cons_zero, List.set_cons_succ]
                                                      refine rgy (i := 18) (v := ?_) (atN rfl) (by kernel_rfl) (fun _ _ _ h => h) ?_ ?_ hHeld ?_; rotate_left 1; (· rfl); (· intro w' hSw; (try clear hHeld); go_simp; try with_reducible rfl)
                                                      try simp only [Act.put, List.setIfInBounds_toArray, List.set_cons_zero, List.set_cons_succ]
                                                      refine rgy (i := 19) (v := ?_) (atN rfl) (by kernel_rfl) (fun _ _ _ h => h) ?_ ?_ hHeld ?_; rotate_left 1; (· rfl); (· intro w' hSw; (try clear hHeld); go_simp; try with_reducible rfl)
                                                      try simp only [Act.put, List.setIfInBounds_toArray, List.set_cons_zero, List.set_cons_succ]
                                                      refine rgy (i := 20) (v := ?_) (atN rfl) (by kernel_rfl) (fun _ _ _ h => h) ?_ ?_ hHeld ?_; rotate_left 1; (· rfl); (· intro w' hSw; (try clear hHeld); go_simp; try with_reducible rfl)
                                                      try simp only [Act.put, List.setIfInBounds_toArray, List.set_cons_zero, List.set_cons_succ]
                                                      refine rgy (i := 21) (v := ?_) (atN rfl) (by kernel_rfl) (fun _ _ _ h => h) ?_ ?_ hHeld ?_; rotate_left 1; (· rfl); (· intro w' hSw; (try clear hHeld); go_simp; try with_reducible rfl)
                                                      try simp only [Act.put, List.setIfInBounds_toArray, List.set_cons_zero, List.set_cons_succ]
                                                      refine rgy (i := 22) (v := ?_) (atN rfl) (by kernel_rfl) (fun _ _ _ h => h) ?_ ?_ hHeld ?_; rotate_left 1; (· rfl); (· intro w' hSw; (try clear hHeld); go_simp; try with_reducible rfl)
                                                      try simp only [Act.put, List.setIfInBounds_toArray, List.set_cons_zero, List.set_cons_succ]
                                                      refine rgy (i := 23) (v := ?_) (atN rfl) (by kernel_rfl) (fun _ _ _ h => h) ?_ ?_ hHeld ?_; rotate_left 1; (· rfl); (· intro w' hSw; (try clear hHeld); go_simp; try with_reducible rfl)
                                                      try simp only [Act.put, List.setIfInBounds_toArray, List.set_cons_zero, List.set_cons_succ]
                                                      refine rgy (i := 24) (v := ?_) (atN rfl) (by kernel_rfl) (fun _ _ _ h => h) ?_ ?_ hHeld ?_; rotate_left 1; (· rfl); (· intro w' hSw; (try clear hHeld); go_simp; try with_reducible rfl)
                                                      try simp only [Act.put, List.setIfInBounds_toArray, List.set_cons_zero, List.set_cons_succ]
                                                      refine rgy (i := 25) (v := uv.V) (atN rfl) (by kernel_rfl) (fun _ _ _ h => h) ?_ ?_ hHeld ?_; (· rfl); (· intro w' hSw; refine exec_ldm 35 (.tmp 356) ?_ qb 3 ?_ uv.C.toList _ (range_belowR RQX.out hSw) Try.underlying35 rfl sz_avR <;> kernel_rfl)
                                                      try simp only [Act.put, List.setIfInBounds_toArray, List.set_cons_zero, List.set_cons_succ]
                                                      refine rgy (i := 26) (v := ?_) (atN rfl) (by kernel_rfl) (fun _ _ _ h => h) ?_ ?_ hHeld ?_; rotate_left 1; (· rfl); (· intro w' hSw; (try clear hHeld); go_simp; try with_reducible rfl)
                                                      try simp only [Act.put, List.setIfInBounds_toArray, List.set_cons_zero, List.set_cons_succ]
                                                      refine rgy (i := 27) (v := x'.v.V) (atN rfl) (by kernel_rfl) (fun _ _ _ h => h) ?_ ?_ hHeld ?_; (· rfl); (· intro w' hSw; refine exec_ldm 35 (.tmp 358) ?_ pb 3 ?_ x'.v.C.toList _ (range_belowR RPX.out hSw) Try.underlying35 rfl sz_avR <;> kernel_rfl)
                                                      try simp only [Act.put, List.setIfInBounds_toArray, List.set_cons_zero, List.set_cons_succ]
                                                      refine rg_call (i := 28) (atN rfl) (by kernel_rfl) ?_ (fun K hK => ?_); (· rfl); (try clear hb); go_simp; (refine (SM2.out _ hHeld).mono ?_; rintro e w1 ⟨rfl, hb⟩); go_wp2_with fail; refine hK.out _ _ ?_ (fun hHeld => ?_); (· exact hHeld.trans (hb.mono hHeld.size)); clear hK K
                                                      try simp only [Act.put, List.setIfInBounds_toArray, List.set_cons_zero, List.set_cons_succ]
                                                      refine rgy (i := 29) (v := ?_) (atN rfl) (by kernel_rfl) (fun _ _ _ h => h) ?_ ?_ hHeld ?_; rotate_left 1; (· rfl); (· intro w' hSw; (try clear hHeld); go_simp; try with_reducible rfl)
                                                      try simp only [Act.put, List.setIfInBounds_toArray, List.set_cons_zero, List.set_cons_succ]
                                                      refine rgy (i := 30) (v := ?_) (atN rfl) (by kernel_rfl) (fun _ _ _ h => h) ?_ ?_ hHeld ?_; rotate_left 1; (· rfl); (· intro w' hSw; (try clear hHeld); go_simp; try with_reducible rfl)
                                                      try simp only [Act.put, List.setIfInBounds_toArray, List.set_cons_zero, List.set_cons_succ]
                                                      refine rgy (i := 31) (v := ?_) (atN rfl) (by kernel_rfl) (fun _ _ _ h => h) ?_ ?_ hHeld ?_; rotate_left 1; (· rfl); (· intro w' hSw; (try clear hHeld); go_simp; try with_reducible rfl)
                                                      try simp only [Act.put, List.setIfInBounds_toArray, List.set_cons_zero, List.set_cons_succ]
                                                      refine rgy (i := 32) (v := ?_) (atN rfl) (by kernel_rfl) (fun _ _ _ h => h) ?_ ?_ hHeld ?_; rotate_left 1; (· rfl); (· intro w' hSw; (try clear hHeld); go_simp; try with_reducible rfl)
                                                      try simp only [Act.put, List.setIfInBounds_toArray, List.set_cons_zero, List.set_cons_succ]
                                                      refine rgy (i := 33) (v := ?_) (atN rfl) (by kernel_rfl) (fun _ _ _ h => h) ?_ ?_ hHeld ?_; rotate_left 1; (· rfl); (· intro w' hSw; have y0 := cell_below y0 hSw; have y1 := cell_below y1 hSw; have y2 := cell_below y2 hSw; have z0 := cell_below z0 hSw; (try clear hHeld); go_simp; try with_reducible rfl)
                                                      try simp only [Act.put, List.setIfInBounds_toArray, List.set_cons_zero, List.set_cons_succ]
                                                      refine rgy (i := 34) (v := ?_) (atN rfl) (by kernel_rfl) (fun _ _ _ h => h) ?_ ?_ hHeld ?_; rotate_left 1; (· rfl); (· intro w' hSw; (try clear hHeld); go_simp; try with_reducible rfl)
                                                      try simp only [Act.put, List.setIfInBounds_toArray, List.set_cons_zero, List.set_cons_succ]
                                                      refine rgy (i := 35) (v := ?_) (atN rfl) (by kernel_rfl) (fun _ _ _ h => h) ?_ ?_ hHeld ?_; rotate_left 1; (· rfl); (· intro w' hSw; (try clear hHeld); go_simp; try with_reducible rfl)
                                                      try simp only [Act.put, List.setIfInBounds_toArray, List.set_cons_zero, List.set_cons_succ]
                                                      refine rgy (i := 36) (v := ?_) (atN rfl) (by kernel_rfl) (fun _ _ _ h => h) ?_ ?_ hHeld ?_; rotate_left 1; (· rfl); (· intro w' hSw; (try clear hHeld); go_simp; try with_reducible rfl)
                                                      try simp only [Act.put, List.setIfInBounds_toArray, List.set_cons_zero, List.set_cons_succ]
                                                      refine rgy (i := 37) (v := ?_) (atN rfl) (by kernel_rfl) (fun _ _ _ h => h) ?_ ?_ hHeld ?_; rotate_left 1; (· rfl); (· intro w' hSw; (try clear hHeld); go_simp; try with_reducible rfl)
                                                      try simp only [Act.put, List.setIfInBounds_toArray, List.set_cons_zero, List.set_cons_succ]
                                                      refine rgy (i := 38) (v := ?_) (atN rfl) (by kernel_rfl) (fun _ _ _ h => h) ?_ ?_ hHeld ?_; rotate_left 1; (· rfl); (· intro w' hSw; (try clear hHeld); go_simp; try with_reducible rfl)
                                                      try simp only [Act.put, List.setIfInBounds_toArray, List.set_cons_zero, List.set_cons_succ]
                                                      refine rgy (i := 39) (v := ?_) (atN rfl) (by kernel_rfl) (fun _ _ _ h => h) ?_ ?_ hHeld ?_; rotate_left 1; (· rfl); (· intro w' hSw; (try clear hHeld); go_simp; try with_reducible rfl)
                                                      try simp only [Act.put, List.setIfInBounds_toArray, List.set_cons_zero, List.set_cons_succ]
                                                      refine rgy (i := 40) (v := ?_) (atN rfl) (by kernel_rfl) (fun _ _ _ h => h) ?_ ?_ hHeld ?_; rotate_left 1; (· rfl); (· intro w' hSw; (try clear hHeld); go_simp; try with_reducible rfl)
                                                      try simp only [Act.put, List.setIfInBounds_toArray, List.set_cons_zero, List.set_cons_succ]
                                                      refine rgn (i := 41) (atN rfl) (by kernel_rfl) (fun _ _ _ h => h) ?_ hHeld ?_; (· rfl)
                                                      try simp only [Act.put, List.setIfInBounds_toArray, List.set_cons_zero, List.set_cons_succ]
                                                      refine rgn (i := 42) (atN rfl) (by kernel_rfl) (fun _ _ _ h => h) ?_ hHeld ?_; (· rfl)
                                                      try simp only [Act.put, List.setIfInBounds_toArray, List.set_cons_zero, List.set_cons_succ]
                                                      refine rgn (i := 43) (atN rfl) (by kernel_rfl) (fun _ _ _ h => h) ?_ hHeld ?_; (· rfl)
                                                      try simp only [Act.put, List.setIfInBounds_toArray, List.set_cons_zero, List.set_cons_succ]
                                                      refine rgn (i := 44) (atN rfl) (by kernel_rfl) (fun _ _ _ h => h) ?_ hHeld ?_; (· rfl)
                                                      try simp only [Act.put, List.setIfInBounds_toArray, List.set_cons_zero, List.set_cons_succ]
                                                      refine rgn (i := 45) (atN rfl) (by kernel_rfl) (fun _ _ _ h => h) ?_ hHeld ?_; (· rfl)
                                                      try simp only [Act.put, List.setIfInBounds_toArray, List.set_cons_zero, List.set_cons_succ]
                                                      refine rgn (i := 46) (atN rfl) (by kernel_rfl) (fun _ _ _ h => h) ?_ hHeld ?_; (· rfl)
                                                      try simp only [Act.put, List.setIfInBounds_toArray, List.set_cons_zero, List.set_cons_succ]
                                                      refine rgn (i := 47) (atN rfl) (by kernel_rfl) (fun _ _ _ h => h) ?_ hHeld ?_; (· rfl)
                                                      try simp only [Act.put, List.setIfInBounds_toArray, List.set_cons_zero, List.set_cons_succ]
                                                      refine rgn (i := 48) (atN rfl) (by kernel_rfl) (fun _ _ _ h => h) ?_ hHeld ?_; (· rfl)
                                                      try simp only [Act.put, List.setIfInBounds_toArray, List.set_cons_zero, List.set_cons_succ]
                                                      refine rgn (i := 49) (atN rfl) (by kernel_rfl) (fun _ _ _ h => h) ?_ hHeld ?_; (· rfl)
                                                      try simp only [Act.put, List.setIfInBounds_toArray, List.set_cons_zero, List.set_cons_succ]
                                                      refine rgn (i := 50) (atN rfl) (by kernel_rfl) (fun _ _ _ h => h) ?_ hHeld ?_; (· rfl)
                                                      try simp only [Act.put, List.setIfInBounds_toArray, List.set_cons_zero, List.set_cons_succ]
                                                      refine rgy (i := 51) (v := ?_) (atN rfl) (by kernel_rfl) (fun _ _ _ h => h) ?_ ?_ hHeld ?_; rotate_left 1; (· rfl); (· intro w' hSw; (try clear hHeld); go_simp; try with_reducible rfl)
                                                      try simp only [Act.put, List.setIfInBounds_toArray, List.set_cons_zero, List.set_cons_succ]
                                                      refine rgy (i := 52) (v := ?_) (atN rfl) (by kernel_rfl) (fun _ _ _ h => h) ?_ ?_ hHeld ?_; rotate_left 1; (· rfl); (· intro w' hSw; (try clear hHeld); go_simp; try with_reducible rfl)
                                                      try simp only [Act.put, List.setIfInBounds_toArray, List.set_cons_zero, List.set_cons_succ]
                                                      refine wpAnyH_done (by kernel_rfl) ?_ _
                                                      have BV5 := Lib.hid (below_on BV4.out hHeld)
                                                      clear hHeld
                                                      go_wp2_with fail
                                                      exact ⟨⟨k + 1, by omega, by go_num, BV5⟩, by simp [intOf]; omega⟩
                                                  · as_aux_lemma =>
                                                      -- HERE26
                                                      obtain ⟨i', hi'⟩ : ∃ i', k = i' + 1 := ⟨k - 1, by omega⟩
                                                      have g1 : decide ((k : Int) > 0) = true := by simp; omega
                                                      have g2 : decide (0 < k) = true := by simp; omega
                                                      obtain ⟨x2, hq⟩ : ∃ x2, vs[i']? = some x2 := ⟨_, List.getElem?_eq_getElem (by omega)⟩
                                                      have cz : decide (pcmp x2.p x'.p ≥ 0) = false := pcmp_lessR (srt_lt PL.out (by rw [List.getElem?_map, hq]; rfl) (by rw [List.getElem?_map, HX.out]; rfl) (show i' < k by omega))
                                                      obtain ⟨g3, o3, e3, hr3, -⟩ := re_at (RS.out.below BV4.out) hq
                                                      injection e3 with e3; injection e3 with e3 e4 _; subst e3; subst e4
                                                      have u1 : v4.cell? ⟨gr, ow + i' * 13 + 1, none⟩ = some (.int .u32 x2.p.1) := hr3 1 _ rfl
                                                      have u2 : v4.cell? ⟨gr, ow + i' * 13 + 2, none⟩ = some (.int .i64 x2.p.2) := hr3 2 _ rfl
                                                      have CC := Lib.hid (fun W => ps_Cmp x2.p x'.p W)
                                                      have wj : IntKind.i64.wrap ((k : Int) - 1) = (i' : Int) := by rw [IntWalk.i64_in _ (by omega)]; omega
                                                      have i0' : (0 : Int) ≤ (i' : Int) := by omega
                                                      have i1' : (i' : Int) < (vs.length : Int) := by omega
                                                      generalize pcmp x2.p x'.p = cm at cz CC
                                                      clear hk0 hi' hq HX hr3
                                                      refine wp_region_held_drew (S := fun w' => Below v4.heap.size v4 w') (by kernel_rfl) ?_ (fun hHeld => ?_)
                                                      · exact (Below.refl _ _).drew
                                                      refine rgy (i := 0) (v := ?_) (atN rfl) (by kernel_rfl) (fun _ _ _ h => h) ?_ ?_ hHeld ?_; rotate_left 1; (· rfl); (· intro w' hSw; (try clear hHeld); go_simp; try with_reducible rfl)
                                                      try simp only [Act.put, List.setIfInBounds_toArray, List.set_cons_zero, List.set_cons_succ]
                                                      refine rgy (i := 1) (v := ?_) (atN rfl) (by kernel_rfl) (fun _ _ _ h => h) ?_ ?_ hHeld ?_; rotate_left 1; (· rfl); (· intro w' hSw; (try clear hHeld); go_simp; try with_reducible rfl)
                                                      try simp only [Act.put, List.setIfInBounds_toArray, List.set_cons_zero, List.set_cons_succ]
                                                      refine rgy (i := 2) (v := ?_) (atN rfl) (by kernel_rfl) (fun _ _ _ h => h) ?_ ?_ hHeld ?_; rotate_left 1; (· rfl); (· intro w' hSw; (try clear hHeld); go_simp; try with_reducible rfl)
                                                      try simp only [Act.put, List.setIfInBounds_toArray, List.set_cons_zero, List.set_cons_succ]
                                                      refine rgy (i := 3) (v := ?_) (atN rfl) (by kernel_rfl) (fun _ _ _ h => h) ?_ ?_ hHeld ?_; rotate_left 1; (· rfl); (· intro w' hSw; (try clear hHeld); go_simp; try with_reducible rfl)
                                                      try simp only [Act.put, List.setIfInBounds_toArray, List.set_cons_zero, List.set_cons_succ]
                                                      refine rgy (i := 4) (v := ?_) (atN rfl) (by kernel_rfl) (fun _ _ _ h => h) ?_ ?_ hHeld ?_; rotate_left 1; (· rfl); (· intro w' hSw; have y0 := cell_below y0 hSw; have y1 := cell_below y1 hSw; have y2 := cell_below y2 hSw; have z0 := cell_below z0 hSw; have u1 := cell_below u1 hSw; have u2 := cell_below u2 hSw; (try clear hHeld); go_simp; try with_reducible rfl)
                                                      try simp only [Act.put, List.setIfInBounds_toArray, List.set_cons_zero, List.set_cons_succ]
                                                      refine rgy (i := 5) (v := ?_) (atN rfl) (by kernel_rfl) (fun _ _ _ h => h) ?_ ?_ hHeld ?_; rotate_left 1; (· rfl); (· intro w' hSw; (try clear hHeld); go_simp; try with_reducible rfl)
                                                      try simp only [Act.put, List.setIfInBounds_toArray, List.set_cons_zero, List.set_cons_succ]
                                                      refine rgy (i := 6) (v := ?_) (atN rfl) (by kernel_rfl) (fun _ _ _ h => h) ?_ ?_ hHeld ?_; rotate_left 1; (· rfl); (· intro w' hSw; (try clear hHeld); go_simp; try with_reducible rfl)
                                                      try simp only [Act.put, List.setIfInBounds_toArray, List.set_cons_zero, List.set_cons_succ]
                                                      refine rgy (i := 7) (v := ?_) (atN rfl) (by kernel_rfl) (fun _ _ _ h => h) ?_ ?_ hHeld ?_; rotate_left 1; (· rfl); (· intro w' hSw; (try clear hHeld); go_simp; try with_reducible rfl)
                                                      try simp only [Act.put, List.setIfInBounds_toArray, List.set_cons_zero, List.set_cons_succ]
                                                      refine rgy (i := 8) (v := ?_) (atN rfl) (by kernel_rfl) (fun _ _ _ h => h) ?_ ?_ hHeld ?_; rotate_left 1; (· rfl); (· intro w' hSw; (try clear hHeld); go_simp; try with_reducible rfl)
                                                      try simp only [Act.put, List.setIfInBounds_toArray, List.set_cons_zero, List.set_cons_succ]
                                                      refine rgy (i := 9) (v := ?_) (atN rfl) (by kernel_rfl) (fun _ _ _ h => h) ?_ ?_ hHeld ?_; rotate_left 1; (· rfl); (· intro w' hSw; (try clear hHeld); go_simp; try with_reducible rfl)
                                                      try simp only [Act.put, List.setIfInBounds_toArray, List.set_cons_zero, List.set_cons_succ]
                                                      refine rgy (i := 10) (v := x'.v.V) (atN rfl) (by kernel_rfl) (fun _ _ _ h => h) ?_ ?_ hHeld ?_; (· rfl); (· intro w' hSw; refine exec_ldm 35 (.tmp 341) ?_ pb 3 ?_ x'.v.C.toList _ (range_belowR RPX.out hSw) Try.underlying35 rfl sz_avR <;> kernel_rfl)
                                                      try simp only [Act.put, List.setIfInBounds_toArray, List.set_cons_zero, List.set_cons_succ]
                                                      refine rgy (i := 11) (v := ?_) (atN rfl) (by kernel_rfl) (fun _ _ _ h => h) ?_ ?_ hHeld ?_; rotate_left 1; (· rfl); (· intro w' hSw; (try clear hHeld); go_simp; try with_reducible rfl)
                                                      try simp only [Act.put, List.setIfInBounds_toArray, List.set_cons_zero, List.set_cons_succ]
                                                      refine rgy (i := 12) (v := ?_) (atN rfl) (by kernel_rfl) (fun _ _ _ h => h) ?_ ?_ hHeld ?_; rotate_left 1; (· rfl); (· intro w' hSw; (try clear hHeld); go_simp; try with_reducible rfl)
                                                      try simp only [Act.put, List.setIfInBounds_toArray, List.set_cons_zero, List.set_cons_succ]
                                                      refine rgy (i := 13) (v := ?_) (atN rfl) (by kernel_rfl) (fun _ _ _ h => h) ?_ ?_ hHeld ?_; rotate_left 1; (· rfl); (· intro w' hSw; have y0 := cell_below y0 hSw; have y1 := cell_below y1 hSw; have y2 := cell_below y2 hSw; have z0 := cell_below z0 hSw; have u1 := cell_below u1 hSw; have u2 := cell_below u2 hSw; (try clear hHeld); go_simp; try with_reducible rfl)
                                                      try simp only [Act.put, List.setIfInBounds_toArray, List.set_cons_zero, List.set_cons_succ]
                                                      refine rgy (i := 14) (v := ?_) (atN rfl) (by kernel_rfl) (fun _ _ _ h => h) ?_ ?_ hHeld ?_; rotate_left 1; (· rfl); (· intro w' hSw; (try clear hHeld); go_simp; try with_reducible rfl)
                                                      try simp only [Act.put, List.setIfInBounds_toArray, List.set_cons_zero, List.set_cons_succ]
                                                      refine rgy (i := 15) (v := y.v.V) (atN rfl) (by kernel_rfl) (fun _ _ _ h => h) ?_ ?_ hHeld ?_; (· rfl); (· intro w' hSw; refine exec_ldm 35 (.tmp 346) ?_ gy (oy + j * 12 + 2) ?_ y.v.C.toList _ (range_belowR RYY.out hSw) Try.underlying35 rfl sz_avR <;> kernel_rfl)
                                                      try simp only [Act.put, List.setIfInBounds_toArray, List.set_cons_zero, List.set_cons_succ]
                                                      refine rg_call (i := 16) (atN rfl) (by kernel_rfl) ?_ (fun K hK => ?_); (· rfl); (try clear hb); go_simp; (refine (SM1.out _ hHeld).mono ?_; rintro e w1 ⟨rfl, hb⟩); go_wp2_with fail; refine hK.out _ _ ?_ (fun hHeld => ?_); (· exact hHeld.trans (hb.mono hHeld.size)); clear hK K
                                                      try simp only [Act.put, List.setIfInBounds_toArray, List.set_cons_zero, List.set_cons_succ]
                                                      refine rgy (i := 17) (v := ?_) (atN rfl) (by kernel_rfl) (fun _ _ _ h => h) ?_ ?_ hHeld ?_; rotate_left 1; (· rfl); (· intro w' hSw; (try clear hHeld); go_simp; try with_reducible rfl)
                                                      try simp only [Act.put, List.setIfInBounds_toArray, List.set_cons_zero, List.set_cons_succ]
                                                      refine rgy (i := 18) (v := ?_) (atN rfl) (by kernel_rfl) (fun _ _ _ h => h) ?_ ?_ hHeld ?_; rotate_left 1; (· rfl); (· intro w' hSw; (try clear hHeld); go_simp; try with_reducible rfl)
                                                      try simp only [Act.put, List.setIfInBounds_toArray, List.set_cons_zero, List.set_cons_succ]
                                                      refine rgy (i := 19) (v := ?_) (atN rfl) (by kernel_rfl) (fun _ _ _ h => h) ?_ ?_ hHeld ?_; rotate_left 1; (· rfl); (· intro w' hSw; (try clear hHeld); go_simp; try with_reducible rfl)
                                                      try simp only [Act.put, List.setIfInBounds_toArray, List.set_cons_zero, List.set_cons_succ]
                                                      refine rgy (i := 20) (v := ?_) (atN rfl) (by kernel_rfl) (fun _ _ _ h => h) ?_ ?_ hHeld ?_; rotate_left 1; (· rfl); (· intro w' hSw; (try clear hHeld); go_simp; try with_reducible rfl)
                                                      try simp only [Act.put, List.setIfInBounds_toArray, List.set_cons_zero, List.set_cons_succ]
                                                      refine rgy (i := 21) (v := ?_) (atN rfl) (by kernel_rfl) (fun _ _ _ h => h) ?_ ?_ hHeld ?_; rotate_left 1; (· rfl); (· intro w' hSw; (try clear hHeld); go_simp; try with_reducible rfl)
                                                      try simp only [Act.put, List.setIfInBounds_toArray, List.set_cons_zero, List.set_cons_succ]
                                                      refine rgy (i := 22) (v := ?_) (atN rfl) (by kernel_rfl) (fun _ _ _ h => h) ?_ ?_ hHeld ?_; rotate_left 1; (· rfl); (· intro w' hSw; (try clear hHeld); go_simp; try with_reducible rfl)
                                                      try simp only [Act.put, List.setIfInBounds_toArray, List.set_cons_zero, List.set_cons_succ]
                                                      refine rgy (i := 23) (v := ?_) (atN rfl) (by kernel_rfl) (fun _ _ _ h => h) ?_ ?_ hHeld ?_; rotate_left 1; (· rfl); (· intro w' hSw; (try clear hHeld); go_simp; try with_reducible rfl)
                                                      try simp only [Act.put, List.setIfInBounds_toArray, List.set_cons_zero, List.set_cons_succ]
                                                      refine rgy (i := 24) (v := ?_) (atN rfl) (by kernel_rfl) (fun _ _ _ h => h) ?_ ?_ hHeld ?_; rotate_left 1; (· rfl); (· intro w' hSw; (try clear hHeld); go_simp; try with_reducible rfl)
                                                      try simp only [Act.put, List.setIfInBounds_toArray, List.set_cons_zero, List.set_cons_succ]
                                                      refine rgy (i := 25) (v := uv.V) (atN rfl) (by kernel_rfl) (fun _ _ _ h => h) ?_ ?_ hHeld ?_; (· rfl); (· intro w' hSw; refine exec_ldm 35 (.tmp 356) ?_ qb 3 ?_ uv.C.toList _ (range_belowR RQX.out hSw) Try.underlying35 rfl sz_avR <;> kernel_rfl)
                                                      try simp only [Act.put, List.setIfInBounds_toArray, List.set_cons_zero, List.set_cons_succ]
                                                      refine rgy (i := 26) (v := ?_) (atN rfl) (by kernel_rfl) (fun _ _ _ h => h) ?_ ?_ hHeld ?_; rotate_left 1; (· rfl); (· intro w' hSw; (try clear hHeld); go_simp; try with_reducible rfl)
                                                      try simp only [Act.put, List.setIfInBounds_toArray, List.set_cons_zero, List.set_cons_succ]
                                                      refine rgy (i := 27) (v := x'.v.V) (atN rfl) (by kernel_rfl) (fun _ _ _ h => h) ?_ ?_ hHeld ?_; (· rfl); (· intro w' hSw; refine exec_ldm 35 (.tmp 358) ?_ pb 3 ?_ x'.v.C.toList _ (range_belowR RPX.out hSw) Try.underlying35 rfl sz_avR <;> kernel_rfl)
                                                      try simp only [Act.put, List.setIfInBounds_toArray, List.set_cons_zero, List.set_cons_succ]
                                                      refine rg_call (i := 28) (atN rfl) (by kernel_rfl) ?_ (fun K hK => ?_); (· rfl); (try clear hb); go_simp; (refine (SM2.out _ hHeld).mono ?_; rintro e w1 ⟨rfl, hb⟩); go_wp2_with fail; refine hK.out _ _ ?_ (fun hHeld => ?_); (· exact hHeld.trans (hb.mono hHeld.size)); clear hK K
                                                      try simp only [Act.put, List.setIfInBounds_toArray, List.set_cons_zero, List.set_cons_succ]
                                                      refine rgy (i := 29) (v := ?_) (atN rfl) (by kernel_rfl) (fun _ _ _ h => h) ?_ ?_ hHeld ?_; rotate_left 1; (· rfl); (· intro w' hSw; (try clear hHeld); go_simp; try with_reducible rfl)
                                                      try simp only [Act.put, List.setIfInBounds_toArray, List.set_cons_zero, List.set_cons_succ]
                                                      refine rgy (i := 30) (v := ?_) (atN rfl) (by kernel_rfl) (fun _ _ _ h => h) ?_ ?_ hHeld ?_; rotate_left 1; (· rfl); (· intro w' hSw; (try clear hHeld); go_simp; try with_reducible rfl)
                                                      try simp only [Act.put, List.setIfInBounds_toArray, List.set_cons_zero, List.set_cons_succ]
                                                      refine rgy (i := 31) (v := ?_) (atN rfl) (by kernel_rfl) (fun _ _ _ h => h) ?_ ?_ hHeld ?_; rotate_left 1; (· rfl); (· intro w' hSw; (try clear hHeld); go_simp; try with_reducible rfl)
                                                      try simp only [Act.put, List.setIfInBounds_toArray, List.set_cons_zero, List.set_cons_succ]
                                                      refine rgy (i := 32) (v := ?_) (atN rfl) (by kernel_rfl) (fun _ _ _ h => h) ?_ ?_ hHeld ?_; rotate_left 1; (· rfl); (· intro w' hSw; (try clear hHeld); go_simp; try with_reducible rfl)
                                                      try simp only [Act.put, List.setIfInBounds_toArray, List.set_cons_zero, List.set_cons_succ]
                                                      refine rgy (i := 33) (v := ?_) (atN rfl) (by kernel_rfl) (fun _ _ _ h => h) ?_ ?_ hHeld ?_; rotate_left 1; (· rfl); (· intro w' hSw; have y0 := cell_below y0 hSw; have y1 := cell_below y1 hSw; have y2 := cell_below y2 hSw; have z0 := cell_below z0 hSw; have u1 := cell_below u1 hSw; have u2 := cell_below u2 hSw; (try clear hHeld); go_simp; try with_reducible rfl)
                                                      try simp only [Act.put, List.setIfInBounds_toArray, List.set_cons_zero, List.set_cons_succ]
                                                      refine rgy (i := 34) (v := ?_) (atN rfl) (by kernel_rfl) (fun _ _ _ h => h) ?_ ?_ hHeld ?_; rotate_left 1; (· rfl); (· intro w' hSw; (try clear hHeld); go_simp; try with_reducible rfl)
                                                      try simp only [Act.put, List.setIfInBounds_toArray, List.set_cons_zero, List.set_cons_succ]
                                                      refine rgy (i := 35) (v := ?_) (atN rfl) (by kernel_rfl) (fun _ _ _ h => h) ?_ ?_ hHeld ?_; rotate_left 1; (· rfl); (· intro w' hSw; (try clear hHeld); go_simp; try with_reducible rfl)
                                                      try simp only [Act.put, List.setIfInBounds_toArray, List.set_cons_zero, List.set_cons_succ]
                                                      refine rgy (i := 36) (v := ?_) (atN rfl) (by kernel_rfl) (fun _ _ _ h => h) ?_ ?_ hHeld ?_; rotate_left 1; (· rfl); (· intro w' hSw; (try clear hHeld); go_simp; try with_reducible rfl)
                                                      try simp only [Act.put, List.setIfInBounds_toArray, List.set_cons_zero, List.set_cons_succ]
                                                      refine rgy (i := 37) (v := ?_) (atN rfl) (by kernel_rfl) (fun _ _ _ h => h) ?_ ?_ hHeld ?_; rotate_left 1; (· rfl); (· intro w' hSw; (try clear hHeld); go_simp; try with_reducible rfl)
                                                      try simp only [Act.put, List.setIfInBounds_toArray, List.set_cons_zero, List.set_cons_succ]
                                                      refine rgy (i := 38) (v := ?_) (atN rfl) (by kernel_rfl) (fun _ _ _ h => h) ?_ ?_ hHeld ?_; rotate_left 1; (· rfl); (· intro w' hSw; (try clear hHeld); go_simp; try with_reducible rfl)
                                                      try simp only [Act.put, List.setIfInBounds_toArray, List.set_cons_zero, List.set_cons_succ]
                                                      refine rgy (i := 39) (v := ?_) (atN rfl) (by kernel_rfl) (fun _ _ _ h => h) ?_ ?_ hHeld ?_; rotate_left 1; (· rfl); (· intro w' hSw; (try clear hHeld); go_simp; try with_reducible rfl)
                                                      try simp only [Act.put, List.setIfInBounds_toArray, List.set_cons_zero, List.set_cons_succ]
                                                      refine rgy (i := 40) (v := ?_) (atN rfl) (by kernel_rfl) (fun _ _ _ h => h) ?_ ?_ hHeld ?_; rotate_left 1; (· rfl); (· intro w' hSw; (try clear hHeld); go_simp; try with_reducible rfl)
                                                      try simp only [Act.put, List.setIfInBounds_toArray, List.set_cons_zero, List.set_cons_succ]
                                                      refine rgy (i := 41) (v := ?_) (atN rfl) (by kernel_rfl) (fun _ _ _ h => h) ?_ ?_ hHeld ?_; rotate_left 1; (· rfl); (· intro w' hSw; (try clear hHeld); go_simp; try with_reducible rfl)
                                                      try simp only [Act.put, List.setIfInBounds_toArray, List.set_cons_zero, List.set_cons_succ]
                                                      refine rgy (i := 42) (v := ?_) (atN rfl) (by kernel_rfl) (fun _ _ _ h => h) ?_ ?_ hHeld ?_; rotate_left 1; (· rfl); (· intro w' hSw; (try clear hHeld); go_simp; try with_reducible rfl)
                                                      try simp only [Act.put, List.setIfInBounds_toArray, List.set_cons_zero, List.set_cons_succ]
                                                      refine rgy (i := 43) (v := ?_) (atN rfl) (by kernel_rfl) (fun _ _ _ h => h) ?_ ?_ hHeld ?_; rotate_left 1; (· rfl); (· intro w' hSw; (try clear hHeld); go_simp; try with_reducible rfl)
                                                      try simp only [Act.put, List.setIfInBounds_toArray, List.set_cons_zero, List.set_cons_succ]
                                                      refine rgy (i := 44) (v := ?_) (atN rfl) (by kernel_rfl) (fun _ _ _ h => h) ?_ ?_ hHeld ?_; rotate_left 1; (· rfl); (· intro w' hSw; have y0 := cell_below y0 hSw; have y1 := cell_below y1 hSw; have y2 := cell_below y2 hSw; have z0 := cell_below z0 hSw; have u1 := cell_below u1 hSw; have u2 := cell_below u2 hSw; (try clear hHeld); go_simp; try with_reducible rfl)
                                                      try simp only [Act.put, List.setIfInBounds_toArray, List.set_cons_zero, List.set_cons_succ]
                                                      refine rgy (i := 45) (v := ?_) (atN rfl) (by kernel_rfl) (fun _ _ _ h => h) ?_ ?_ hHeld ?_; rotate_left 1; (· rfl); (· intro w' hSw; (try clear hHeld); go_simp; try with_reducible rfl)
                                                      try simp only [Act.put, List.setIfInBounds_toArray, List.set_cons_zero, List.set_cons_succ]
                                                      refine rgy (i := 46) (v := ?_) (atN rfl) (by kernel_rfl) (fun _ _ _ h => h) ?_ ?_ hHeld ?_; rotate_left 1; (· rfl); (· intro w' hSw; have y0 := cell_below y0 hSw; have y1 := cell_below y1 hSw; have y2 := cell_below y2 hSw; have z0 := cell_below z0 hSw; have u1 := cell_below u1 hSw; have u2 := cell_below u2 hSw; (try clear hHeld); go_simp; try with_reducible rfl)
                                                      try simp only [Act.put, List.setIfInBounds_toArray, List.set_cons_zero, List.set_cons_succ]
                                                      refine rgy (i := 47) (v := ?_) (atN rfl) (by kernel_rfl) (fun _ _ _ h => h) ?_ ?_ hHeld ?_; rotate_left 1; (· rfl); (· intro w' hSw; (try clear hHeld); go_simp; try with_reducible rfl)
                                                      try simp only [Act.put, List.setIfInBounds_toArray, List.set_cons_zero, List.set_cons_succ]
                                                      refine rgy (i := 48) (v := ?_) (atN rfl) (by kernel_rfl) (fun _ _ _ h => h) ?_ ?_ hHeld ?_; rotate_left 1; (· rfl); (· intro w' hSw; have y0 := cell_below y0 hSw; have y1 := cell_below y1 hSw; have y2 := cell_below y2 hSw; have z0 := cell_below z0 hSw; have u1 := cell_below u1 hSw; have u2 := cell_below u2 hSw; (try clear hHeld); go_simp; try with_reducible rfl)
                                                      try simp only [Act.put, List.setIfInBounds_toArray, List.set_cons_zero, List.set_cons_succ]
                                                      refine rg_call (i := 49) (atN rfl) (by kernel_rfl) ?_ (fun K hK => ?_); (· rfl); (try clear hb); go_simp; (refine (CC.out _).mono ?_; rintro e w1 ⟨rfl, hb⟩); go_wp2_with fail; refine hK.out _ _ ?_ (fun hHeld => ?_); (· exact hHeld.trans (hb.mono hHeld.size)); clear hK K
                                                      try simp only [Act.put, List.setIfInBounds_toArray, List.set_cons_zero, List.set_cons_succ]
                                                      refine rgy (i := 50) (v := ?_) (atN rfl) (by kernel_rfl) (fun _ _ _ h => h) ?_ ?_ hHeld ?_; rotate_left 1; (· rfl); (· intro w' hSw; (try clear hHeld); go_simp; try with_reducible rfl)
                                                      try simp only [Act.put, List.setIfInBounds_toArray, List.set_cons_zero, List.set_cons_succ]
                                                      refine rgy (i := 51) (v := ?_) (atN rfl) (by kernel_rfl) (fun _ _ _ h => h) ?_ ?_ hHeld ?_; rotate_left 1; (· rfl); (· intro w' hSw; (try clear hHeld); go_simp; try with_reducible rfl)
                                                      try simp only [Act.put, List.setIfInBounds_toArray, List.set_cons_zero, List.set_cons_succ]
                                                      refine rgy (i := 52) (v := ?_) (atN rfl) (by kernel_rfl) (fun _ _ _ h => h) ?_ ?_ hHeld ?_; rotate_left 1; (· rfl); (· intro w' hSw; (try clear hHeld); go_simp; try with_reducible rfl)
                                                      try simp only [Act.put, List.setIfInBounds_toArray, List.set_cons_zero, List.set_cons_succ]
                                                      refine wpAnyH_done (by kernel_rfl) ?_ _
                                                      have BV5 := Lib.hid (below_on BV4.out hHeld)
                                                      clear hHeld
                                                      go_wp2_with fail
                                                      exact ⟨⟨k + 1, by omega, by go_num, BV5⟩, by simp [intOf]; omega⟩
                                              · as_aux_lemma =>
                                                  -- HERE24
                                                  have LG := Lib.hid (LF.out.below BV.out)
                                                  go_wp2_with fail
                                                  refine NXT.out _ _ r3 F8 s5 c5 zs hl20 ?_ ?_ ?_ LG.out REL2.out
                                                  · kernel_rfl
                                                  · rfl
                                                  · rfl
                                          · intro K' hJ
                                            have MEET : Hid (∀ (a' : Act) (w' : World) (s' : Option Addr) (c' : Nat) (zs : List RO), a' = (fun v => ⟨#[.int .i64 peer, .int .i64 own, .int .i64 mm, .slice (some ⟨g, o, none⟩) ms.length cap, v 4, v 5, v 6, v 7, v 8, .pointer (some ⟨rb, 0, none⟩), v 10, .int .i64 i, v 12, v 13, v 14, v 15, v 16, v 17, v 18, v 19, v 20, v 21, v 22, v 23, v 24, v 25, v 26, v 27, v 28, v 29, v 30, v 31, v 32, v 33, v 34, v 35, v 36, v 37, v 38, v 39, v 40, v 41, v 42, v 43, v 44, v 45, v 46, v 47, v 48, v 49, v 50, v 51, v 52, v 53, v 54, v 55, v 56, v 57, v 58, v 59, v 60, v 61, v 62, v 63, v 64, v 65, v 66, v 67, v 68, v 69, v 70, v 71, v 72, v 73, v 74, v 75, v 76, v 77, v 78, v 79, v 80, v 81, v 82, v 83, v 84, v 85, v 86, v 87, v 88, v 89, v 90, v 91, v 92, v 93, v 94, v 95, v 96, v 97, v 98, v 99, v 100, v 101, v 102, v 103, v 104, v 105, v 106, v 107, v 108, v 109, v 110, v 111, v 112, v 113, v 114, v 115, v 116, v 117, v 118, v 119, v 120, v 121, v 122, v 123, v 124, v 125, v 126, v 127, v 128, v 129, v 130, v 131, v 132, v 133, v 134, v 135, v 136, v 137, v 138, v 139, v 140, v 141, v 142, v 143, v 144, v 145, v 146, v 147, v 148, v 149, v 150, v 151, v 152, v 153, v 154, v 155, v 156, v 157, v 158, v 159, v 160, v 161, v 162, v 163, v 164, v 165, v 166, v 167, v 168, v 169, v 170, v 171, v 172, v 173, v 174, v 175, v 176, v 177, v 178, v 179, v 180, v 181, v 182, v 183, v 184, v 185, v 186, v 187, v 188, v 189, v 190, v 191, v 192, v 193, v 194, v 195, v 196, v 197, v 198, v 199, v 200, v 201, v 202, v 203, v 204, v 205, v 206, v 207, v 208, v 209, v 210, v 211, v 212, v 213, v 214, v 215, v 216, v 217, v 218, v 219, v 220, v 221, v 222, v 223, v 224, v 225, v 226, v 227, v 228, v 229, v 230, v 231, v 232, v 233, v 234, v 235, v 236, v 237, v 238, v 239, v 240, v 241, v 242, v 243, v 244, v 245, v 246, v 247, v 248, v 249, v 250, v 251, v 252, v 253, v 254, v 255, v 256, v 257, v 258, v 259, v 260, v 261, v 262, v 263, v 264, v 265, v 266, v 267, v 268, v 269, v 270, v 271, v 272, v 273, v 274, v 275, v 276, v 277, v 278, v 279, v 280, v 281, v 282, v 283, v 284, v 285, v 286, v 287, v 288, v 289, v 290, v 291, v 292, v 293, v 294, v 295, v 296, v 297, v 298, v 299, v 300, v 301, v 302, v 303, v 304, v 305, v 306, v 307, v 308, v 309, v 310, v 311, v 312, v 313, v 314, v 315, v 316, v 317, v 318, v 319, v 320, v 321, v 322, v 323, v 324, v 325, v 326, v 327, v 328, v 329, v 330, v 331, v 332, v 333, v 334, v 335, v 336, v 337, v 338, v 339, v 340, v 341, v 342, v 343, v 344, v 345, v 346, v 347, v 348, v 349, v 350, v 351, v 352, v 353, v 354, v 355, v 356, v 357, v 358, v 359, v 360, v 361, v 362, v 363, v 364, v 365, v 366, v 367, v 368, v 369, v 370, v 371, v 372, v 373, v 374, v 375, v 376, v 377, v 378, v 379, v 380, v 381, v 382, v 383, v 384, v 385, v 386, v 387, v 388, v 389, v 390, v 391, v 392, v 393, v 394, v 395, v 396, v 397, v 398, v 399, v 400, v 401, v 402, v 403, v 404, v 405, v 406, v 407, v 408, v 409, v 410, v 411, v 412, v 413, v 414, v 415, v 416, v 417, v 418, v 419, v 420], []⟩) (slotsOf a') → slotsOf a' 21 = .slice s' zs.length c' → LS w1 w' rb peer own mm r3 F8 (.slice s' zs.length c') zs → Rel r3 (roR zs) → K' a' w') := Lib.hid (fun a' w' s' c' zs h0 h1 h2 h3 => hJ a' w' h0 ⟨s', c', zs, h1, Lib.hid h2, Lib.hid h3⟩)
                                            clear hJ
                                            rcases rg with _ | _
                                            · as_aux_lemma =>
                                                -- HERE8
                                                have E := HR2.out
                                                rw [updl_no (by rw [← HLg.out]; exact HRG.out)] at E
                                                obtain ⟨e1, e2, e3⟩ := E
                                                subst e1; subst e2; subst e3
                                                go_wp2_with fail
                                                refine MEET.out _ _ s2 c2 xs2 ?_ ?_ LC.out REL.out
                                                · kernel_rfl
                                                · rfl
                                            · rcases hcm : decide ((ys.length : Int) > mm) with _ | _
                                              case true =>
                                                as_aux_lemma =>
                                                  -- HERE9
                                                  have E := HR2.out
                                                  rw [updl_big (by rw [← HLg.out]; exact HRG.out) (by rw [← NXT2.out]; have := of_decide_eq_true hcm; unfold roR; rw [List.length_map]; exact this)] at E
                                                  obtain ⟨e1, e2, e3⟩ := E
                                                  subst e1; subst e2; subst e3
                                                  go_wp2_with fail
                                                  refine MEET.out _ _ s2 c2 xs2 ?_ ?_ LC.out REL.out
                                                  · kernel_rfl
                                                  · rfl
                                              case false =>
                                                as_aux_lemma =>
                                                  -- HERE10
                                                  have RELN : Hid (Rel r3 (roR ys)) := Lib.hid (by
                                                    have h1 := UR.out
                                                    have h2 := HR2.out
                                                    rw [updl_ok (by rw [← HLg.out]; exact HRG.out) (by rw [← NXT2.out]; have := of_decide_eq_false hcm; unfold roR; rw [List.length_map]; exact this)] at h1 h2
                                                    rw [NXT2.out, ← h2.2.2]; exact h1)
                                                  have E2 : Hid (0 = r1 ∧ (saidP x.gone x.nets).filter (turnB R2 (netsP own x.nets x.a) x.a) = r2) := Lib.hid (by
                                                    have h2 := HR2.out
                                                    rw [updl_ok (by rw [← HLg.out]; exact HRG.out) (by rw [← NXT2.out]; have := of_decide_eq_false hcm; unfold roR; rw [List.length_map]; exact this)] at h2
                                                    exact ⟨h2.1, h2.2.1⟩)
                                                  have TMEM : Hid (∀ p ∈ r2, match getL (roR xs2) p, getL (roR ys) p with | none, none => False | some b, some c => c ≠ b | _, _ => True) := Lib.hid (fun p hp => by
                                                    rw [← E2.out.2] at hp
                                                    rw [NXT2.out]
                                                    exact (turn_mem REL.out own x.gone x.nets x.a p).1 hp)
                                                  have TCNT : Hid (cntG xs2 ys xs2.length + cntN xs2 ys ys.length = r2.length) := Lib.hid (by
                                                    rw [cnt_all, ← E2.out.2, NXT2.out]
                                                    exact (turn_count REL.out own x.gone x.nets x.a).symm)
                                                  have TSRT : Hid (r2.Pairwise plt) := Lib.hid (by
                                                    rw [← E2.out.2]
                                                    exact (said_srt x.gone x.nets).1.filter _)
                                                  obtain ⟨e1, -⟩ := E2.out
                                                  subst e1
                                                  have xl2 := XL.out
                                                  have yl2 := YLC.out
                                                  try clear HR2; try clear UR; try clear E2; try clear HPS; try clear HRG; try clear HLg; try clear NXT2; try clear REL; try clear UN; try clear GN
                                                  go_wp2_with fail
                                                  clear hcm
                                                  go_loopw [175, 26] (fun t175 t26 wv => ∃ (k n : Nat), k ≤ xs2.length ∧ t175 = .int .i64 k ∧ t26 = .int .i64 n ∧ n ≤ k ∧ Hid (cntG xs2 ys k = n) ∧ Hid (Below w12.heap.size w12 wv)) (fun t175 _ _ => xs2.length - (intOf t175).toNat)
                                                  case atStart => exact ⟨0, 0, by omega, rfl, rfl, by omega, Lib.hid rfl, Lib.hid (Below.refl _ _)⟩
                                                  case round =>
                                                    obtain ⟨k, n, hk, rfl, rfl, hnk, CN, BV⟩ := hrel
                                                    by_cases hkl : k < xs2.length
                                                    · as_aux_lemma =>
                                                        -- HERE11
                                                        obtain ⟨x', hx⟩ : ∃ x', xs2[k]? = some x' := ⟨_, List.getElem?_eq_getElem hkl⟩
                                                        obtain ⟨gr, ow, rfl, hr, -, hav, -⟩ := row_at (LC.out.below BV.out).at hx
                                                        have RR := Lib.hid hr
                                                        have HAV := Lib.hid hav
                                                        have HX := Lib.hid hx
                                                        have k0 : (0 : Int) ≤ (k : Int) := by omega
                                                        have k1 : (k : Int) < (xs2.length : Int) := by omega
                                                        clear hx hr hav
                                                        go_wp2_with ((with_reducible refine halt_at (X := .load 66 (.tmp 177)) ?_ ?_); (· rfl))
                                                        unfold Halt
                                                        refine ldm_at (by rfl) 66 (.tmp 177) rfl gr (ow + k * 12) rfl (roL x') _ RR.out Try.underlying66 rfl sz_row ?_
                                                        go_wp2_with ((with_reducible refine halt_at (X := .store 66 (.tmp 28) (.tmp 178)) ?_ ?_); (· rfl))
                                                        unfold Halt
                                                        refine st_fresh rfl 66 (.tmp 28) (.tmp 178) rfl rfl _ (roA x') rfl sz_row rfl (ro_one x') ?_
                                                        obtain ⟨v1, hv1, q1, hb1, -⟩ := box1 wr (roA x') 66
                                                        rw [← hv1]
                                                        obtain ⟨pb, hpb⟩ : ∃ pb, pb = wr.heap.size := ⟨_, rfl⟩
                                                        rw [← hpb] at q1 ⊢
                                                        have BV1 := Lib.hid (below_on BV.out hb1)
                                                        have HAV1 := Lib.hid (HAV.out.below hb1)
                                                        have Q1 := Lib.hid q1
                                                        have y0 : v1.cell? ⟨pb, 0, none⟩ = some (.int .u32 x'.p.1) := row_cell q1 0
                                                        have y1 : v1.cell? ⟨pb, 1, none⟩ = some (.int .i64 x'.p.2) := row_cell q1 1
                                                        have RYA := Lib.hid ((on_below RY.out BV1.out).self)
                                                        have FN := Lib.hid (l_find (.slice s4 ys.length c4) ys x'.p v1 RYA.out)
                                                        clear hv1 q1 hb1 BV HAV RR hpb
                                                        go_wp2_with fail
                                                        refine FN.out.mono ?_
                                                        rintro e v2 ⟨rfl, hb2⟩
                                                        have BV2 := Lib.hid (below_on BV1.out hb2)
                                                        have Q2 := Lib.hid ((hb2.block _ (row_lt Q1.out)).trans Q1.out)
                                                        have HAV2 := Lib.hid (HAV1.out.below hb2)
                                                        have RYB := Lib.hid (RwAt.below RYA.out hb2)
                                                        clear hb2 BV1 HAV1 RYA Q1 FN y0 y1
                                                        rcases fnd_cases ys x'.p with ⟨g0, f0⟩ | ⟨j, y, hy, hyp, g0, f0⟩
                                                        · as_aux_lemma =>
                                                            -- HERE15
                                                            rw [f0]
                                                            have C1 : Hid (cntG xs2 ys (k + 1) = n + 1) := Lib.hid (by
                                                              have := cntG_step (c := true) HX.out (by unfold gone1; rw [g0])
                                                              rw [CN.out] at this
                                                              simp at this; omega)
                                                            clear g0 f0
                                                            go_upto_region 50 with (fail)
                                                            refine wp_region_held_drew (S := fun w' => Below v2.heap.size v2 w') (by kernel_rfl) ?_ (fun hHeld => ?_)
                                                            · exact (Below.refl _ _).drew
                                                            refine rgy (i := 0) (v := ?_) (atN rfl) (by kernel_rfl) (fun _ _ _ h => h) ?_ ?_ hHeld ?_; rotate_left 1; (· rfl); (· intro w' hSw; (try clear hHeld); go_simp; try with_reducible rfl)
                                                            try simp only [Act.put, List.setIfInBounds_toArray, List.set_cons_zero, List.set_cons_succ]
                                                            refine rgy (i := 1) (v := ?_) (atN rfl) (by kernel_rfl) (fun _ _ _ h => h) ?_ ?_ hHeld ?_; rotate_left 1; (· rfl); (· intro w' hSw; (try clear hHeld); go_simp; try with_reducible rfl)
                                                            try simp only [Act.put, List.setIfInBounds_toArray, List.set_cons_zero, List.set_cons_succ]
                                                            refine rgy (i := 2) (v := ?_) (atN rfl) (by kernel_rfl) (fun _ _ _ h => h) ?_ ?_ hHeld ?_; rotate_left 1; (· rfl); (· intro w' hSw; (try clear hHeld); go_simp; try with_reducible rfl)
                                                            try simp only [Act.put, List.setIfInBounds_toArray, List.set_cons_zero, List.set_cons_succ]
                                                            refine rgn (i := 3) (atN rfl) (by kernel_rfl) (fun _ _ _ h => h) ?_ hHeld ?_; (· rfl)
                                                            try simp only [Act.put, List.setIfInBounds_toArray, List.set_cons_zero, List.set_cons_succ]
                                                            refine rgn (i := 4) (atN rfl) (by kernel_rfl) (fun _ _ _ h => h) ?_ hHeld ?_; (· rfl)
                                                            try simp only [Act.put, List.setIfInBounds_toArray, List.set_cons_zero, List.set_cons_succ]
                                                            refine rgn (i := 5) (atN rfl) (by kernel_rfl) (fun _ _ _ h => h) ?_ hHeld ?_; (· rfl)
                                                            try simp only [Act.put, List.setIfInBounds_toArray, List.set_cons_zero, List.set_cons_succ]
                                                            refine rgn (i := 6) (atN rfl) (by kernel_rfl) (fun _ _ _ h => h) ?_ hHeld ?_; (· rfl)
                                                            try simp only [Act.put, List.setIfInBounds_toArray, List.set_cons_zero, List.set_cons_succ]
                                                            refine rgn (i := 7) (atN rfl) (by kernel_rfl) (fun _ _ _ h => h) ?_ hHeld ?_; (· rfl)
                                                            try simp only [Act.put, List.setIfInBounds_toArray, List.set_cons_zero, List.set_cons_succ]
                                                            refine rgn (i := 8) (atN rfl) (by kernel_rfl) (fun _ _ _ h => h) ?_ hHeld ?_; (· rfl)
                                                            try simp only [Act.put, List.setIfInBounds_toArray, List.set_cons_zero, List.set_cons_succ]
                                                            refine rgn (i := 9) (atN rfl) (by kernel_rfl) (fun _ _ _ h => h) ?_ hHeld ?_; (· rfl)
                                                            try simp only [Act.put, List.setIfInBounds_toArray, List.set_cons_zero, List.set_cons_succ]
                                                            refine rgn (i := 10) (atN rfl) (by kernel_rfl) (fun _ _ _ h => h) ?_ hHeld ?_; (· rfl)
                                                            try simp only [Act.put, List.setIfInBounds_toArray, List.set_cons_zero, List.set_cons_succ]
                                                            refine rgn (i := 11) (atN rfl) (by kernel_rfl) (fun _ _ _ h => h) ?_ hHeld ?_; (· rfl)
                                                            try simp only [Act.put, List.setIfInBounds_toArray, List.set_cons_zero, List.set_cons_succ]
                                                            refine rgy (i := 12) (v := ?_) (atN rfl) (by kernel_rfl) (fun _ _ _ h => h) ?_ ?_ hHeld ?_; rotate_left 1; (· rfl); (· intro w' hSw; (try clear hHeld); go_simp; try with_reducible rfl)
                                                            try simp only [Act.put, List.setIfInBounds_toArray, List.set_cons_zero, List.set_cons_succ]
                                                            refine wpAnyH_done (by kernel_rfl) ?_ _
                                                            have BV3 := Lib.hid (below_on BV2.out hHeld)
                                                            clear hHeld
                                                            go_wp2_with fail
                                                            exact ⟨⟨k + 1, n + 1, by omega, by go_num, by go_num, by omega, C1, BV3⟩, by simp [intOf]; omega⟩
                                                        · rw [f0]
                                                          obtain ⟨gy, oy, rfl, hry, -, hay, -⟩ := row_at RYB.out hy
                                                          have j0 : (0 : Int) ≤ (j : Int) := by omega
                                                          have j1 : (j : Int) < (ys.length : Int) := by have := (List.getElem?_eq_some_iff.1 hy).1; omega
                                                          have j2 : decide ((j : Int) < 0) = false := by simp
                                                          have RYY := Lib.hid (ro_range hry)
                                                          have RXX := Lib.hid (ro_block Q2.out)
                                                          have SM := Lib.hid (fun W (hW : Below v2.heap.size v2 W) => av_Same y.a x'.a y.v x'.v W (hay.below hW) (HAV2.out.below hW))
                                                          rcases hs : sameA y.a x'.a with _ | _
                                                          · as_aux_lemma =>
                                                              -- HERE13
                                                              have C1 : Hid (cntG xs2 ys (k + 1) = n + 1) := Lib.hid (by
                                                                have := cntG_step (c := true) HX.out (by unfold gone1; rw [g0]; simp only; rw [hs]; rfl)
                                                                rw [CN.out] at this
                                                                simp at this; omega)
                                                              rw [hs] at SM
                                                              clear g0 f0 hs hy hyp hry hay
                                                              go_upto_region 50 with (fail)
                                                              refine wp_region_held_drew (S := fun w' => Below v2.heap.size v2 w') (by kernel_rfl) ?_ (fun hHeld => ?_)
                                                              · exact (Below.refl _ _).drew
                                                              refine rgy (i := 0) (v := ?_) (atN rfl) (by kernel_rfl) (fun _ _ _ h => h) ?_ ?_ hHeld ?_; rotate_left 1; (· rfl); (· intro w' hSw; (try clear hHeld); go_simp; try with_reducible rfl)
                                                              try simp only [Act.put, List.setIfInBounds_toArray, List.set_cons_zero, List.set_cons_succ]
                                                              refine rgy (i := 1) (v := ?_) (atN rfl) (by kernel_rfl) (fun _ _ _ h => h) ?_ ?_ hHeld ?_; rotate_left 1; (· rfl); (· intro w' hSw; (try clear hHeld); go_simp; try with_reducible rfl)
                                                              try simp only [Act.put, List.setIfInBounds_toArray, List.set_cons_zero, List.set_cons_succ]
                                                              refine rgy (i := 2) (v := ?_) (atN rfl) (by kernel_rfl) (fun _ _ _ h => h) ?_ ?_ hHeld ?_; rotate_left 1; (· rfl); (· intro w' hSw; (try clear hHeld); go_simp; try with_reducible rfl)
                                                              try simp only [Act.put, List.setIfInBounds_toArray, List.set_cons_zero, List.set_cons_succ]
                                                              refine rgy (i := 3) (v := ?_) (atN rfl) (by kernel_rfl) (fun _ _ _ h => h) ?_ ?_ hHeld ?_; rotate_left 1; (· rfl); (· intro w' hSw; (try clear hHeld); go_simp; try with_reducible rfl)
                                                              try simp only [Act.put, List.setIfInBounds_toArray, List.set_cons_zero, List.set_cons_succ]
                                                              refine rgy (i := 4) (v := ?_) (atN rfl) (by kernel_rfl) (fun _ _ _ h => h) ?_ ?_ hHeld ?_; rotate_left 1; (· rfl); (· intro w' hSw; (try clear hHeld); go_simp; try with_reducible rfl)
                                                              try simp only [Act.put, List.setIfInBounds_toArray, List.set_cons_zero, List.set_cons_succ]
                                                              refine rgy (i := 5) (v := ?_) (atN rfl) (by kernel_rfl) (fun _ _ _ h => h) ?_ ?_ hHeld ?_; rotate_left 1; (· rfl); (· intro w' hSw; (try clear hHeld); go_simp; try with_reducible rfl)
                                                              try simp only [Act.put, List.setIfInBounds_toArray, List.set_cons_zero, List.set_cons_succ]
                                                              refine rgy (i := 6) (v := ?_) (atN rfl) (by kernel_rfl) (fun _ _ _ h => h) ?_ ?_ hHeld ?_; rotate_left 1; (· rfl); (· intro w' hSw; (try clear hHeld); go_simp; try with_reducible rfl)
                                                              try simp only [Act.put, List.setIfInBounds_toArray, List.set_cons_zero, List.set_cons_succ]
                                                              refine rgy (i := 7) (v := ?_) (atN rfl) (by kernel_rfl) (fun _ _ _ h => h) ?_ ?_ hHeld ?_; rotate_left 1; (· rfl); (· intro w' hSw; refine exec_ldm 35 (.tmp 189) ?_ gy (oy + j * 12 + 2) ?_ y.v.C.toList _ (range_belowR RYY.out hSw) Try.underlying35 rfl sz_avR <;> rfl)
                                                              try simp only [Act.put, List.setIfInBounds_toArray, List.set_cons_zero, List.set_cons_succ]
                                                              refine rgy (i := 8) (v := ?_) (atN rfl) (by kernel_rfl) (fun _ _ _ h => h) ?_ ?_ hHeld ?_; rotate_left 1; (· rfl); (· intro w' hSw; (try clear hHeld); go_simp; try with_reducible rfl)
                                                              try simp only [Act.put, List.setIfInBounds_toArray, List.set_cons_zero, List.set_cons_succ]
                                                              refine rgy (i := 9) (v := ?_) (atN rfl) (by kernel_rfl) (fun _ _ _ h => h) ?_ ?_ hHeld ?_; rotate_left 1; (· rfl); (· intro w' hSw; refine exec_ldm 35 (.tmp 191) ?_ pb 2 ?_ x'.v.C.toList _ (range_belowR RXX.out hSw) Try.underlying35 rfl sz_avR <;> rfl)
                                                              try simp only [Act.put, List.setIfInBounds_toArray, List.set_cons_zero, List.set_cons_succ]
                                                              refine rg_call (i := 10) (atN rfl) (by kernel_rfl) ?_ (fun K hK => ?_); (· rfl); (try clear hb); go_simp; (refine (SM.out _ hHeld).mono ?_; rintro e w1 ⟨rfl, hb⟩); go_wp2_with fail; refine hK.out _ _ ?_ (fun hHeld => ?_); (· exact hHeld.trans (hb.mono hHeld.size)); clear hK K
                                                              try simp only [Act.put, List.setIfInBounds_toArray, List.set_cons_zero, List.set_cons_succ]
                                                              refine rgy (i := 11) (v := ?_) (atN rfl) (by kernel_rfl) (fun _ _ _ h => h) ?_ ?_ hHeld ?_; rotate_left 1; (· rfl); (· intro w' hSw; (try clear hHeld); go_simp; try with_reducible rfl)
                                                              try simp only [Act.put, List.setIfInBounds_toArray, List.set_cons_zero, List.set_cons_succ]
                                                              refine rgy (i := 12) (v := ?_) (atN rfl) (by kernel_rfl) (fun _ _ _ h => h) ?_ ?_ hHeld ?_; rotate_left 1; (· rfl); (· intro w' hSw; (try clear hHeld); go_simp; try with_reducible rfl)
                                                              try simp only [Act.put, List.setIfInBounds_toArray, List.set_cons_zero, List.set_cons_succ]
                                                              refine wpAnyH_done (by kernel_rfl) ?_ _
                                                              have BV3 := Lib.hid (below_on BV2.out hHeld)
                                                              clear hHeld
                                                              go_wp2_with fail
                                                              exact ⟨⟨k + 1, n + 1, by omega, by go_num, by go_num, by omega, C1, BV3⟩, by simp [intOf]; omega⟩
                                                          · as_aux_lemma =>
                                                              -- HERE14
                                                              have C1 : Hid (cntG xs2 ys (k + 1) = n) := Lib.hid (by
                                                                have := cntG_step (c := false) HX.out (by unfold gone1; rw [g0]; simp only; rw [hs]; rfl)
                                                                rw [CN.out] at this
                                                                simp at this; omega)
                                                              rw [hs] at SM
                                                              clear g0 f0 hs hy hyp hry hay
                                                              go_upto_region 50 with (fail)
                                                              refine wp_region_held_drew (S := fun w' => Below v2.heap.size v2 w') (by kernel_rfl) ?_ (fun hHeld => ?_)
                                                              · exact (Below.refl _ _).drew
                                                              refine rgy (i := 0) (v := ?_) (atN rfl) (by kernel_rfl) (fun _ _ _ h => h) ?_ ?_ hHeld ?_; rotate_left 1; (· rfl); (· intro w' hSw; (try clear hHeld); go_simp; try with_reducible rfl)
                                                              try simp only [Act.put, List.setIfInBounds_toArray, List.set_cons_zero, List.set_cons_succ]
                                                              refine rgy (i := 1) (v := ?_) (atN rfl) (by kernel_rfl) (fun _ _ _ h => h) ?_ ?_ hHeld ?_; rotate_left 1; (· rfl); (· intro w' hSw; (try clear hHeld); go_simp; try with_reducible rfl)
                                                              try simp only [Act.put, List.setIfInBounds_toArray, List.set_cons_zero, List.set_cons_succ]
                                                              refine rgy (i := 2) (v := ?_) (atN rfl) (by kernel_rfl) (fun _ _ _ h => h) ?_ ?_ hHeld ?_; rotate_left 1; (· rfl); (· intro w' hSw; (try clear hHeld); go_simp; try with_reducible rfl)
                                                              try simp only [Act.put, List.setIfInBounds_toArray, List.set_cons_zero, List.set_cons_succ]
                                                              refine rgy (i := 3) (v := ?_) (atN rfl) (by kernel_rfl) (fun _ _ _ h => h) ?_ ?_ hHeld ?_; rotate_left 1; (· rfl); (· intro w' hSw; (try clear hHeld); go_simp; try with_reducible rfl)
                                                              try simp only [Act.put, List.setIfInBounds_toArray, List.set_cons_zero, List.set_cons_succ]
                                                              refine rgy (i := 4) (v := ?_) (atN rfl) (by kernel_rfl) (fun _ _ _ h => h) ?_ ?_ hHeld ?_; rotate_left 1; (· rfl); (· intro w' hSw; (try clear hHeld); go_simp; try with_reducible rfl)
                                                              try simp only [Act.put, List.setIfInBounds_toArray, List.set_cons_zero, List.set_cons_succ]
                                                              refine rgy (i := 5) (v := ?_) (atN rfl) (by kernel_rfl) (fun _ _ _ h => h) ?_ ?_ hHeld ?_; rotate_left 1; (· rfl); (· intro w' hSw; (try clear hHeld); go_simp; try with_reducible rfl)
                                                              try simp only [Act.put, List.setIfInBounds_toArray, List.set_cons_zero, List.set_cons_succ]
                                                              refine rgy (i := 6) (v := ?_) (atN rfl) (by kernel_rfl) (fun _ _ _ h => h) ?_ ?_ hHeld ?_; rotate_left 1; (· rfl); (· intro w' hSw; (try clear hHeld); go_simp; try with_reducible rfl)
                                                              try simp only [Act.put, List.setIfInBounds_toArray, List.set_cons_zero, List.set_cons_succ]
                                                              refine rgy (i := 7) (v := ?_) (atN rfl) (by kernel_rfl) (fun _ _ _ h => h) ?_ ?_ hHeld ?_; rotate_left 1; (· rfl); (· intro w' hSw; refine exec_ldm 35 (.tmp 189) ?_ gy (oy + j * 12 + 2) ?_ y.v.C.toList _ (range_belowR RYY.out hSw) Try.underlying35 rfl sz_avR <;> rfl)
                                                              try simp only [Act.put, List.setIfInBounds_toArray, List.set_cons_zero, List.set_cons_succ]
                                                              refine rgy (i := 8) (v := ?_) (atN rfl) (by kernel_rfl) (fun _ _ _ h => h) ?_ ?_ hHeld ?_; rotate_left 1; (· rfl); (· intro w' hSw; (try clear hHeld); go_simp; try with_reducible rfl)
                                                              try simp only [Act.put, List.setIfInBounds_toArray, List.set_cons_zero, List.set_cons_succ]
                                                              refine rgy (i := 9) (v := ?_) (atN rfl) (by kernel_rfl) (fun _ _ _ h => h) ?_ ?_ hHeld ?_; rotate_left 1; (· rfl); (· intro w' hSw; refine exec_ldm 35 (.tmp 191) ?_ pb 2 ?_ x'.v.C.toList _ (range_belowR RXX.out hSw) Try.underlying35 rfl sz_avR <;> rfl)
                                                              try simp only [Act.put, List.setIfInBounds_toArray, List.set_cons_zero, List.set_cons_succ]
                                                              refine rg_call (i := 10) (atN rfl) (by kernel_rfl) ?_ (fun K hK => ?_); (· rfl); (try clear hb); go_simp; (refine (SM.out _ hHeld).mono ?_; rintro e w1 ⟨rfl, hb⟩); go_wp2_with fail; refine hK.out _ _ ?_ (fun hHeld => ?_); (· exact hHeld.trans (hb.mono hHeld.size)); clear hK K
                                                              try simp only [Act.put, List.setIfInBounds_toArray, List.set_cons_zero, List.set_cons_succ]
                                                              refine rgy (i := 11) (v := ?_) (atN rfl) (by kernel_rfl) (fun _ _ _ h => h) ?_ ?_ hHeld ?_; rotate_left 1; (· rfl); (· intro w' hSw; (try clear hHeld); go_simp; try with_reducible rfl)
                                                              try simp only [Act.put, List.setIfInBounds_toArray, List.set_cons_zero, List.set_cons_succ]
                                                              refine rgy (i := 12) (v := ?_) (atN rfl) (by kernel_rfl) (fun _ _ _ h => h) ?_ ?_ hHeld ?_; rotate_left 1; (· rfl); (· intro w' hSw; (try clear hHeld); go_simp; try with_reducible rfl)
                                                              try simp only [Act.put, List.setIfInBounds_toArray, List.set_cons_zero, List.set_cons_succ]
                                                              refine wpAnyH_done (by kernel_rfl) ?_ _
                                                              have BV3 := Lib.hid (below_on BV2.out hHeld)
                                                              clear hHeld
                                                              go_wp2_with fail
                                                              exact ⟨⟨k + 1, n, by omega, by go_num, rfl, by omega, C1, BV3⟩, by simp [intOf]; omega⟩
                                                    · as_aux_lemma =>
                                                        -- HERE12
                                                        obtain rfl : k = xs2.length := by omega
                                                        obtain ⟨w13, hw13⟩ : ∃ w13 : World, w13 = wr := ⟨_, rfl⟩
                                                        rw [← hw13] at BV ⊢
                                                        have BA := BV
                                                        have N0 := CN
                                                        have nle : n ≤ 256 := by omega
                                                        clear hw13 BV hk hkl CN hnk
                                                        go_wp2_with fail
                                                        go_loopw [201, 26] (fun t201 t26 wv => ∃ (k n2 : Nat), k ≤ ys.length ∧ t201 = .int .i64 k ∧ t26 = .int .i64 n2 ∧ n2 ≤ 256 + k ∧ Hid (cntN xs2 ys k + n = n2) ∧ Hid (Below w12.heap.size w12 wv)) (fun t201 _ _ => ys.length - (intOf t201).toNat)
                                                        case atStart => exact ⟨0, n, by omega, rfl, rfl, by omega, Lib.hid (Nat.zero_add n), BA⟩
                                                        case round =>
                                                          clear BA
                                                          obtain ⟨k, n2, hk, rfl, rfl, hnk, CN, BV⟩ := hrel
                                                          by_cases hkl : k < ys.length
                                                          · as_aux_lemma =>
                                                              -- HERE16
                                                              obtain ⟨x', hx⟩ : ∃ x', ys[k]? = some x' := ⟨_, List.getElem?_eq_getElem hkl⟩
                                                              obtain ⟨gr, ow, rfl, hr, -, hav, -⟩ := row_at (on_below RY.out BV.out).self hx
                                                              have RR := Lib.hid hr
                                                              have HX := Lib.hid hx
                                                              have k0 : (0 : Int) ≤ (k : Int) := by omega
                                                              have k1 : (k : Int) < (ys.length : Int) := by omega
                                                              clear hx hr hav
                                                              go_wp2_with ((with_reducible refine halt_at (X := .load 66 (.tmp 203)) ?_ ?_); (· rfl))
                                                              unfold Halt
                                                              refine ldm_at (by rfl) 66 (.tmp 203) rfl gr (ow + k * 12) rfl (roL x') _ RR.out Try.underlying66 rfl sz_row ?_
                                                              go_wp2_with ((with_reducible refine halt_at (X := .store 66 (.tmp 31) (.tmp 204)) ?_ ?_); (· rfl))
                                                              unfold Halt
                                                              refine st_fresh rfl 66 (.tmp 31) (.tmp 204) rfl rfl _ (roA x') rfl sz_row rfl (ro_one x') ?_
                                                              obtain ⟨v1, hv1, q1, hb1, -⟩ := box1 wr (roA x') 66
                                                              rw [← hv1]
                                                              obtain ⟨pb, hpb⟩ : ∃ pb, pb = wr.heap.size := ⟨_, rfl⟩
                                                              rw [← hpb] at q1 ⊢
                                                              have BV1 := Lib.hid (below_on BV.out hb1)
                                                              have y0 : v1.cell? ⟨pb, 0, none⟩ = some (.int .u32 x'.p.1) := row_cell q1 0
                                                              have y1 : v1.cell? ⟨pb, 1, none⟩ = some (.int .i64 x'.p.2) := row_cell q1 1
                                                              have FN := Lib.hid (l_find (.slice s2 xs2.length c2) xs2 x'.p v1 (LC.out.below BV1.out).at)
                                                              clear hv1 q1 hb1 BV RR hpb
                                                              go_wp2_with fail
                                                              refine FN.out.mono ?_
                                                              rintro e v2 ⟨rfl, hb2⟩
                                                              have BV2 := Lib.hid (below_on BV1.out hb2)
                                                              clear hb2 BV1 FN y0 y1
                                                              rcases fnd_cases xs2 x'.p with ⟨g0, f0⟩ | ⟨j, y, hy, hyp, g0, f0⟩
                                                              · rw [f0]
                                                                have C1 : Hid (cntN xs2 ys (k + 1) + n = n2 + 1) := Lib.hid (by
                                                                  have := cntN_step (c := true) HX.out (by unfold new1; rw [g0]; rfl)
                                                                  have := CN.out
                                                                  simp at *; omega)
                                                                clear g0 f0
                                                                go_wp2_with fail
                                                                exact ⟨⟨k + 1, n2 + 1, by omega, by go_num, by go_num, by omega, C1, BV2⟩, by simp [intOf]; omega⟩
                                                              · rw [f0]
                                                                have j2 : decide ((j : Int) < 0) = false := by simp
                                                                have C1 : Hid (cntN xs2 ys (k + 1) + n = n2) := Lib.hid (by
                                                                  have := cntN_step (c := false) HX.out (by unfold new1; rw [g0]; rfl)
                                                                  have := CN.out
                                                                  simp at *; omega)
                                                                clear g0 f0 hy hyp
                                                                go_wp2_with fail
                                                                exact ⟨⟨k + 1, n2, by omega, by go_num, rfl, by omega, C1, BV2⟩, by simp [intOf]; omega⟩
                                                          · as_aux_lemma =>
                                                              -- HERE17
                                                              obtain rfl : k = ys.length := by omega
                                                              obtain ⟨w14, hw14⟩ : ∃ w14 : World, w14 = wr := ⟨_, rfl⟩
                                                              rw [← hw14] at BV ⊢
                                                              have BA := BV
                                                              have en : n2 = r2.length := by have h1 := TCNT.out; have h2 := CN.out; have h3 := N0.out; omega
                                                              subst en
                                                              have d0 : ((r2.length : Int) != (r2.length : Int)) = false := by simp
                                                              have tle : r2.length ≤ 600 := by omega
                                                              clear hw14 BV hk hkl CN hnk TCNT N0
                                                              go_wp2_with fail
                                                              go_loopw [219] (fun t219 wv => ∃ (k : Nat), k ≤ r2.length ∧ t219 = .int .i64 k ∧ Hid (Below w12.heap.size w12 wv)) (fun t219 _ => r2.length - (intOf t219).toNat)
                                                              case atStart => exact ⟨0, by omega, rfl, BA⟩
                                                              case round =>
                                                                clear BA
                                                                obtain ⟨k, hk, rfl, BV⟩ := hrel
                                                                by_cases hkl : k < r2.length
                                                                · as_aux_lemma =>
                                                                    -- HERE18
                                                                    obtain ⟨p, hp⟩ : ∃ p, r2[k]? = some p := ⟨_, List.getElem?_eq_getElem hkl⟩
                                                                    obtain ⟨g2, o2, d0', d1', rfl, ⟨hpc, hok⟩, p0, p1⟩ := pair_at (TC.out.below BV.out).at hp
                                                                    injection hpc with q1 q2; injection q2 with q2 _; subst q1; subst q2
                                                                    have k0 : (0 : Int) ≤ (k : Int) := by omega
                                                                    have k1 : (k : Int) < (r2.length : Int) := by omega
                                                                    have HP := Lib.hid hp
                                                                    have TM := Lib.hid (TMEM.out p (List.mem_of_getElem? hp))
                                                                    clear hp hok d0
                                                                    go_upto_region 64 with (fail)
                                                                    obtain ⟨v1, hv1, c0, c1', hb1⟩ := box2 wr (.int .u32 p.1) (.int .i64 p.2) 29
                                                                    rw [← hv1]
                                                                    obtain ⟨pb, hpb⟩ : ∃ pb, pb = wr.heap.size := ⟨_, rfl⟩
                                                                    rw [← hpb] at c0 c1' ⊢
                                                                    have BV1 := Lib.hid (below_on BV.out hb1)
                                                                    have C0 := Lib.hid c0
                                                                    have C1 := Lib.hid c1'
                                                                    have FA := Lib.hid (l_find (.slice s2 xs2.length c2) xs2 p v1 (LC.out.below BV1.out).at)
                                                                    clear hv1 hb1 BV p0 p1 hpb
                                                                    go_wp2_with fail
                                                                    refine FA.out.mono ?_
                                                                    rintro e v2 ⟨rfl, hb2⟩
                                                                    have BV2 := Lib.hid (below_on BV1.out hb2)
                                                                    have C02 := Lib.hid (cell_below C0.out hb2)
                                                                    have C12 := Lib.hid (cell_below C1.out hb2)
                                                                    have FB := Lib.hid (l_find (.slice s4 ys.length c4) ys p v2 (on_below RY.out BV2.out).self)
                                                                    clear hb2 BV1 FA C0 C1 c0 c1'
                                                                    have c0 := C02.out
                                                                    have c1 := C12.out
                                                                    go_wp2_with fail
                                                                    refine FB.out.mono ?_
                                                                    rintro e v3 ⟨rfl, hb3⟩
                                                                    have BV3 := Lib.hid (below_on BV2.out hb3)
                                                                    replace c0 := cell_below c0 hb3
                                                                    replace c1 := cell_below c1 hb3
                                                                    clear hb3 BV2 FB C02 C12
                                                                    obtain ⟨za, hza⟩ : ∃ z, fndI (roR xs2) p = z := ⟨_, rfl⟩
                                                                    obtain ⟨zb, hzb⟩ : ∃ z, fndI (roR ys) p = z := ⟨_, rfl⟩
                                                                    rw [hza, hzb]
                                                                    have ZA := Lib.hid hza
                                                                    have ZB := Lib.hid hzb
                                                                    clear hza hzb
                                                                    go_upto_region 66 with (fail)
                                                                    rcases fnd_cases xs2 p with ⟨ga, fa⟩ | ⟨ja, ya, hya, hyap, ga, fa⟩ <;> rcases fnd_cases ys p with ⟨gb, fb⟩ | ⟨jb, yb, hyb, hybp, gb, fb⟩
                                                                    · exact absurd TM.out (by rw [ga, gb]; exact id)
                                                                    · as_aux_lemma =>
                                                                        -- HERE19
                                                                        obtain rfl : za = -1 := ZA.out.symm.trans fa
                                                                        obtain rfl : zb = (jb : Int) := ZB.out.symm.trans fb
                                                                        have b0 : decide ((jb : Int) < 0) = false := by simp
                                                                        have b1 : decide ((jb : Int) ≥ 0) = true := by simp
                                                                        clear ga fa gb fb hyb hybp TM ZA ZB
                                                                        by_cases hk0 : k = 0
                                                                        · subst hk0
                                                                          have g1 : decide (((0 : Nat) : Int) > 0) = false := rfl
                                                                          clear HP
                                                                          refine wp_region_held_drew (S := fun w' => Below v3.heap.size v3 w') (by kernel_rfl) ?_ (fun hHeld => ?_)
                                                                          · exact (Below.refl _ _).drew
                                                                          refine rgy (i := 0) (v := ?_) (atN rfl) (by kernel_rfl) (fun _ _ _ h => h) ?_ ?_ hHeld ?_; rotate_left 1; (· rfl); (· intro w' hSw; (try clear hHeld); go_simp; try with_reducible rfl)
                                                                          try simp only [Act.put, List.setIfInBounds_toArray, List.set_cons_zero, List.set_cons_succ]
                                                                          refine rgy (i := 1) (v := ?_) (atN rfl) (by kernel_rfl) (fun _ _ _ h => h) ?_ ?_ hHeld ?_; rotate_left 1; (· rfl); (· intro w' hSw; (try clear hHeld); go_simp; try with_reducible rfl)
                                                                          try simp only [Act.put, List.setIfInBounds_toArray, List.set_cons_zero, List.set_cons_succ]
                                                                          refine rgy (i := 2) (v := ?_) (atN rfl) (by kernel_rfl) (fun _ _ _ h => h) ?_ ?_ hHeld ?_; rotate_left 1; (· rfl); (· intro w' hSw; (try clear hHeld); go_simp; try with_reducible rfl)
                                                                          try simp only [Act.put, List.setIfInBounds_toArray, List.set_cons_zero, List.set_cons_succ]
                                                                          refine rgn (i := 3) (atN rfl) (by kernel_rfl) (fun _ _ _ h => h) ?_ hHeld ?_; (· rfl)
                                                                          try simp only [Act.put, List.setIfInBounds_toArray, List.set_cons_zero, List.set_cons_succ]
                                                                          refine rgn (i := 4) (atN rfl) (by kernel_rfl) (fun _ _ _ h => h) ?_ hHeld ?_; (· rfl)
                                                                          try simp only [Act.put, List.setIfInBounds_toArray, List.set_cons_zero, List.set_cons_succ]
                                                                          refine rgn (i := 5) (atN rfl) (by kernel_rfl) (fun _ _ _ h => h) ?_ hHeld ?_; (· rfl)
                                                                          try simp only [Act.put, List.setIfInBounds_toArray, List.set_cons_zero, List.set_cons_succ]
                                                                          refine rgn (i := 6) (atN rfl) (by kernel_rfl) (fun _ _ _ h => h) ?_ hHeld ?_; (· rfl)
                                                                          try simp only [Act.put, List.setIfInBounds_toArray, List.set_cons_zero, List.set_cons_succ]
                                                                          refine rgn (i := 7) (atN rfl) (by kernel_rfl) (fun _ _ _ h => h) ?_ hHeld ?_; (· rfl)
                                                                          try simp only [Act.put, List.setIfInBounds_toArray, List.set_cons_zero, List.set_cons_succ]
                                                                          refine rgn (i := 8) (atN rfl) (by kernel_rfl) (fun _ _ _ h => h) ?_ hHeld ?_; (· rfl)
                                                                          try simp only [Act.put, List.setIfInBounds_toArray, List.set_cons_zero, List.set_cons_succ]
                                                                          refine rgn (i := 9) (atN rfl) (by kernel_rfl) (fun _ _ _ h => h) ?_ hHeld ?_; (· rfl)
                                                                          try simp only [Act.put, List.setIfInBounds_toArray, List.set_cons_zero, List.set_cons_succ]
                                                                          refine rgn (i := 10) (atN rfl) (by kernel_rfl) (fun _ _ _ h => h) ?_ hHeld ?_; (· rfl)
                                                                          try simp only [Act.put, List.setIfInBounds_toArray, List.set_cons_zero, List.set_cons_succ]
                                                                          refine rgy (i := 11) (v := ?_) (atN rfl) (by kernel_rfl) (fun _ _ _ h => h) ?_ ?_ hHeld ?_; rotate_left 1; (· rfl); (· intro w' hSw; (try clear hHeld); go_simp; try with_reducible rfl)
                                                                          try simp only [Act.put, List.setIfInBounds_toArray, List.set_cons_zero, List.set_cons_succ]
                                                                          refine rgy (i := 12) (v := ?_) (atN rfl) (by kernel_rfl) (fun _ _ _ h => h) ?_ ?_ hHeld ?_; rotate_left 1; (· rfl); (· intro w' hSw; (try clear hHeld); go_simp; try with_reducible rfl)
                                                                          try simp only [Act.put, List.setIfInBounds_toArray, List.set_cons_zero, List.set_cons_succ]
                                                                          refine rgy (i := 13) (v := ?_) (atN rfl) (by kernel_rfl) (fun _ _ _ h => h) ?_ ?_ hHeld ?_; rotate_left 1; (· rfl); (· intro w' hSw; (try clear hHeld); go_simp; try with_reducible rfl)
                                                                          try simp only [Act.put, List.setIfInBounds_toArray, List.set_cons_zero, List.set_cons_succ]
                                                                          refine rgy (i := 14) (v := ?_) (atN rfl) (by kernel_rfl) (fun _ _ _ h => h) ?_ ?_ hHeld ?_; rotate_left 1; (· rfl); (· intro w' hSw; (try clear hHeld); go_simp; try with_reducible rfl)
                                                                          try simp only [Act.put, List.setIfInBounds_toArray, List.set_cons_zero, List.set_cons_succ]
                                                                          refine rgy (i := 15) (v := ?_) (atN rfl) (by kernel_rfl) (fun _ _ _ h => h) ?_ ?_ hHeld ?_; rotate_left 1; (· rfl); (· intro w' hSw; (try clear hHeld); go_simp; try with_reducible rfl)
                                                                          try simp only [Act.put, List.setIfInBounds_toArray, List.set_cons_zero, List.set_cons_succ]
                                                                          refine rgy (i := 16) (v := ?_) (atN rfl) (by kernel_rfl) (fun _ _ _ h => h) ?_ ?_ hHeld ?_; rotate_left 1; (· rfl); (· intro w' hSw; (try clear hHeld); go_simp; try with_reducible rfl)
                                                                          try simp only [Act.put, List.setIfInBounds_toArray, List.set_cons_zero, List.set_cons_succ]
                                                                          refine rgy (i := 17) (v := ?_) (atN rfl) (by kernel_rfl) (fun _ _ _ h => h) ?_ ?_ hHeld ?_; rotate_left 1; (· rfl); (· intro w' hSw; (try clear hHeld); go_simp; try with_reducible rfl)
                                                                          try simp only [Act.put, List.setIfInBounds_toArray, List.set_cons_zero, List.set_cons_succ]
                                                                          refine rgy (i := 18) (v := ?_) (atN rfl) (by kernel_rfl) (fun _ _ _ h => h) ?_ ?_ hHeld ?_; rotate_left 1; (· rfl); (· intro w' hSw; (try clear hHeld); go_simp; try with_reducible rfl)
                                                                          try simp only [Act.put, List.setIfInBounds_toArray, List.set_cons_zero, List.set_cons_succ]
                                                                          refine rgy (i := 19) (v := ?_) (atN rfl) (by kernel_rfl) (fun _ _ _ h => h) ?_ ?_ hHeld ?_; rotate_left 1; (· rfl); (· intro w' hSw; (try clear hHeld); go_simp; try with_reducible rfl)
                                                                          try simp only [Act.put, List.setIfInBounds_toArray, List.set_cons_zero, List.set_cons_succ]
                                                                          refine rgy (i := 20) (v := ?_) (atN rfl) (by kernel_rfl) (fun _ _ _ h => h) ?_ ?_ hHeld ?_; rotate_left 1; (· rfl); (· intro w' hSw; (try clear hHeld); go_simp; try with_reducible rfl)
                                                                          try simp only [Act.put, List.setIfInBounds_toArray, List.set_cons_zero, List.set_cons_succ]
                                                                          refine rgy (i := 21) (v := ?_) (atN rfl) (by kernel_rfl) (fun _ _ _ h => h) ?_ ?_ hHeld ?_; rotate_left 1; (· rfl); (· intro w' hSw; (try clear hHeld); go_simp; try with_reducible rfl)
                                                                          try simp only [Act.put, List.setIfInBounds_toArray, List.set_cons_zero, List.set_cons_succ]
                                                                          refine rgy (i := 22) (v := ?_) (atN rfl) (by kernel_rfl) (fun _ _ _ h => h) ?_ ?_ hHeld ?_; rotate_left 1; (· rfl); (· intro w' hSw; (try clear hHeld); go_simp; try with_reducible rfl)
                                                                          try simp only [Act.put, List.setIfInBounds_toArray, List.set_cons_zero, List.set_cons_succ]
                                                                          refine rgy (i := 23) (v := ?_) (atN rfl) (by kernel_rfl) (fun _ _ _ h => h) ?_ ?_ hHeld ?_; rotate_left 1; (· rfl); (· intro w' hSw; (try clear hHeld); go_simp; try with_reducible rfl)
                                                                          try simp only [Act.put, List.setIfInBounds_toArray, List.set_cons_zero, List.set_cons_succ]
                                                                          refine rgn (i := 24) (atN rfl) (by kernel_rfl) (fun _ _ _ h => h) ?_ hHeld ?_; (· rfl)
                                                                          try simp only [Act.put, List.setIfInBounds_toArray, List.set_cons_zero, List.set_cons_succ]
                                                                          refine rgn (i := 25) (atN rfl) (by kernel_rfl) (fun _ _ _ h => h) ?_ hHeld ?_; (· rfl)
                                                                          try simp only [Act.put, List.setIfInBounds_toArray, List.set_cons_zero, List.set_cons_succ]
                                                                          refine rgy (i := 26) (v := ?_) (atN rfl) (by kernel_rfl) (fun _ _ _ h => h) ?_ ?_ hHeld ?_; rotate_left 1; (· rfl); (· intro w' hSw; (try clear hHeld); go_simp; try with_reducible rfl)
                                                                          try simp only [Act.put, List.setIfInBounds_toArray, List.set_cons_zero, List.set_cons_succ]
                                                                          refine rgy (i := 27) (v := ?_) (atN rfl) (by kernel_rfl) (fun _ _ _ h => h) ?_ ?_ hHeld ?_; rotate_left 1; (· rfl); (· intro w' hSw; (try clear hHeld); go_simp; try with_reducible rfl)
                                                                          try simp only [Act.put, List.setIfInBounds_toArray, List.set_cons_zero, List.set_cons_succ]
                                                                          refine rgn (i := 28) (atN rfl) (by kernel_rfl) (fun _ _ _ h => h) ?_ hHeld ?_; (· rfl)
                                                                          try simp only [Act.put, List.setIfInBounds_toArray, List.set_cons_zero, List.set_cons_succ]
                                                                          refine rgn (i := 29) (atN rfl) (by kernel_rfl) (fun _ _ _ h => h) ?_ hHeld ?_; (· rfl)
                                                                          try simp only [Act.put, List.setIfInBounds_toArray, List.set_cons_zero, List.set_cons_succ]
                                                                          refine rgn (i := 30) (atN rfl) (by kernel_rfl) (fun _ _ _ h => h) ?_ hHeld ?_; (· rfl)
                                                                          try simp only [Act.put, List.setIfInBounds_toArray, List.set_cons_zero, List.set_cons_succ]
                                                                          refine rgn (i := 31) (atN rfl) (by kernel_rfl) (fun _ _ _ h => h) ?_ hHeld ?_; (· rfl)
                                                                          try simp only [Act.put, List.setIfInBounds_toArray, List.set_cons_zero, List.set_cons_succ]
                                                                          refine rgn (i := 32) (atN rfl) (by kernel_rfl) (fun _ _ _ h => h) ?_ hHeld ?_; (· rfl)
                                                                          try simp only [Act.put, List.setIfInBounds_toArray, List.set_cons_zero, List.set_cons_succ]
                                                                          refine rgn (i := 33) (atN rfl) (by kernel_rfl) (fun _ _ _ h => h) ?_ hHeld ?_; (· rfl)
                                                                          try simp only [Act.put, List.setIfInBounds_toArray, List.set_cons_zero, List.set_cons_succ]
                                                                          refine rgn (i := 34) (atN rfl) (by kernel_rfl) (fun _ _ _ h => h) ?_ hHeld ?_; (· rfl)
                                                                          try simp only [Act.put, List.setIfInBounds_toArray, List.set_cons_zero, List.set_cons_succ]
                                                                          refine rgn (i := 35) (atN rfl) (by kernel_rfl) (fun _ _ _ h => h) ?_ hHeld ?_; (· rfl)
                                                                          try simp only [Act.put, List.setIfInBounds_toArray, List.set_cons_zero, List.set_cons_succ]
                                                                          refine rgn (i := 36) (atN rfl) (by kernel_rfl) (fun _ _ _ h => h) ?_ hHeld ?_; (· rfl)
                                                                          try simp only [Act.put, List.setIfInBounds_toArray, List.set_cons_zero, List.set_cons_succ]
                                                                          refine rgn (i := 37) (atN rfl) (by kernel_rfl) (fun _ _ _ h => h) ?_ hHeld ?_; (· rfl)
                                                                          try simp only [Act.put, List.setIfInBounds_toArray, List.set_cons_zero, List.set_cons_succ]
                                                                          refine rgn (i := 38) (atN rfl) (by kernel_rfl) (fun _ _ _ h => h) ?_ hHeld ?_; (· rfl)
                                                                          try simp only [Act.put, List.setIfInBounds_toArray, List.set_cons_zero, List.set_cons_succ]
                                                                          refine rgy (i := 39) (v := ?_) (atN rfl) (by kernel_rfl) (fun _ _ _ h => h) ?_ ?_ hHeld ?_; rotate_left 1; (· rfl); (· intro w' hSw; (try clear hHeld); go_simp; try with_reducible rfl)
                                                                          try simp only [Act.put, List.setIfInBounds_toArray, List.set_cons_zero, List.set_cons_succ]
                                                                          refine rgy (i := 40) (v := ?_) (atN rfl) (by kernel_rfl) (fun _ _ _ h => h) ?_ ?_ hHeld ?_; rotate_left 1; (· rfl); (· intro w' hSw; (try clear hHeld); go_simp; try with_reducible rfl)
                                                                          try simp only [Act.put, List.setIfInBounds_toArray, List.set_cons_zero, List.set_cons_succ]
                                                                          refine wpAnyH_done (by kernel_rfl) ?_ _
                                                                          have BV4 := Lib.hid (below_on BV3.out hHeld)
                                                                          clear hHeld
                                                                          go_wp2_with fail
                                                                          exact ⟨⟨0 + 1, by omega, by go_num, BV4⟩, by simp [intOf]; omega⟩
                                                                        · obtain ⟨i', hi'⟩ : ∃ i', k = i' + 1 := ⟨k - 1, by omega⟩
                                                                          have g1 : decide ((k : Int) > 0) = true := by simp; omega
                                                                          have g2 : decide (0 < k) = true := by simp; omega
                                                                          obtain ⟨q, hq⟩ : ∃ q, r2[i']? = some q := ⟨_, List.getElem?_eq_getElem (by omega)⟩
                                                                          have cz : decide (pcmp q p ≥ 0) = false := pcmp_lessR (srt_lt TSRT.out hq HP.out (by omega))
                                                                          obtain ⟨g3, o3, d0, d1, e3, ⟨hqc, -⟩, u0, u1⟩ := pair_at (TC.out.below BV3.out).at hq
                                                                          injection hqc with q1 q2; injection q2 with q2 _; subst q1; subst q2
                                                                          injection e3 with e3; injection e3 with e3 e4 _; subst e3; subst e4
                                                                          have CC := Lib.hid (fun W => ps_Cmp q p W)
                                                                          have wj : IntKind.i64.wrap ((k : Int) - 1) = (i' : Int) := by rw [IntWalk.i64_in _ (by omega)]; omega
                                                                          have j0 : (0 : Int) ≤ (i' : Int) := by omega
                                                                          have j1 : (i' : Int) < (r2.length : Int) := by omega
                                                                          generalize pcmp q p = cm at cz CC
                                                                          clear hk0 hi' hq HP TSRT
                                                                          refine wp_region_held_drew (S := fun w' => Below v3.heap.size v3 w') (by kernel_rfl) ?_ (fun hHeld => ?_)
                                                                          · exact (Below.refl _ _).drew
                                                                          refine rgy (i := 0) (v := ?_) (atN rfl) (by kernel_rfl) (fun _ _ _ h => h) ?_ ?_ hHeld ?_; rotate_left 1; (· rfl); (· intro w' hSw; (try clear hHeld); go_simp; try with_reducible rfl)
                                                                          try simp only [Act.put, List.setIfInBounds_toArray, List.set_cons_zero, List.set_cons_succ]
                                                                          refine rgy (i := 1) (v := ?_) (atN rfl) (by kernel_rfl) (fun _ _ _ h => h) ?_ ?_ hHeld ?_; rotate_left 1; (· rfl); (· intro w' hSw; (try clear hHeld); go_simp; try with_reducible rfl)
                                                                          try simp only [Act.put, List.setIfInBounds_toArray, List.set_cons_zero, List.set_cons_succ]
                                                                          refine rgy (i := 2) (v := ?_) (atN rfl) (by kernel_rfl) (fun _ _ _ h => h) ?_ ?_ hHeld ?_; rotate_left 1; (· rfl); (· intro w' hSw; (try clear hHeld); go_simp; try with_reducible rfl)
                                                                          try simp only [Act.put, List.setIfInBounds_toArray, List.set_cons_zero, List.set_cons_succ]
                                                                          refine rgy (i := 3) (v := ?_) (atN rfl) (by kernel_rfl) (fun _ _ _ h => h) ?_ ?_ hHeld ?_; rotate_left 1; (· rfl); (· intro w' hSw; (try clear hHeld); go_simp; try with_reducible rfl)
                                                                          try simp only [Act.put, List.setIfInBounds_toArray, List.set_cons_zero, List.set_cons_succ]
                                                                          refine rgy (i := 4) (v := ?_) (atN rfl) (by kernel_rfl) (fun _ _ _ h => h) ?_ ?_ hHeld ?_; rotate_left 1; (· rfl); (· intro w' hSw; (try clear hHeld); go_simp; try with_reducible rfl)
                                                                          try simp only [Act.put, List.setIfInBounds_toArray, List.set_cons_zero, List.set_cons_succ]
                                                                          refine rgy (i := 5) (v := ?_) (atN rfl) (by kernel_rfl) (fun _ _ _ h => h) ?_ ?_ hHeld ?_; rotate_left 1; (· rfl); (· intro w' hSw; (try clear hHeld); go_simp; try with_reducible rfl)
                                                                          try simp only [Act.put, List.setIfInBounds_toArray, List.set_cons_zero, List.set_cons_succ]
                                                                          refine rgy (i := 6) (v := ?_) (atN rfl) (by kernel_rfl) (fun _ _ _ h => h) ?_ ?_ hHeld ?_; rotate_left 1; (· rfl); (· intro w' hSw; have c0 := cell_below c0 hSw; have c1 := cell_below c1 hSw; have u0 := cell_below u0 hSw; have u1 := cell_below u1 hSw; (try clear hHeld); go_simp; try with_reducible rfl)
                                                                          try simp only [Act.put, List.setIfInBounds_toArray, List.set_cons_zero, List.set_cons_succ]
                                                                          refine rgy (i := 7) (v := ?_) (atN rfl) (by kernel_rfl) (fun _ _ _ h => h) ?_ ?_ hHeld ?_; rotate_left 1; (· rfl); (· intro w' hSw; have c0 := cell_below c0 hSw; have c1 := cell_below c1 hSw; have u0 := cell_below u0 hSw; have u1 := cell_below u1 hSw; (try clear hHeld); go_simp; try with_reducible rfl)
                                                                          try simp only [Act.put, List.setIfInBounds_toArray, List.set_cons_zero, List.set_cons_succ]
                                                                          refine rgy (i := 8) (v := ?_) (atN rfl) (by kernel_rfl) (fun _ _ _ h => h) ?_ ?_ hHeld ?_; rotate_left 1; (· rfl); (· intro w' hSw; have c0 := cell_below c0 hSw; have c1 := cell_below c1 hSw; have u0 := cell_below u0 hSw; have u1 := cell_below u1 hSw; (try clear hHeld); go_simp; try with_reducible rfl)
                                                                          try simp only [Act.put, List.setIfInBounds_toArray, List.set_cons_zero, List.set_cons_succ]
                                                                          refine rg_call (i := 9) (atN rfl) (by kernel_rfl) ?_ (fun K hK => ?_); (· rfl); (try clear hb); go_simp; (refine (CC.out _).mono ?_; rintro e w1 ⟨rfl, hb⟩); go_wp2_with fail; refine hK.out _ _ ?_ (fun hHeld => ?_); (· exact hHeld.trans (hb.mono hHeld.size)); clear hK K
                                                                          try simp only [Act.put, List.setIfInBounds_toArray, List.set_cons_zero, List.set_cons_succ]
                                                                          refine rgy (i := 10) (v := ?_) (atN rfl) (by kernel_rfl) (fun _ _ _ h => h) ?_ ?_ hHeld ?_; rotate_left 1; (· rfl); (· intro w' hSw; (try clear hHeld); go_simp; try with_reducible rfl)
                                                                          try simp only [Act.put, List.setIfInBounds_toArray, List.set_cons_zero, List.set_cons_succ]
                                                                          refine rgy (i := 11) (v := ?_) (atN rfl) (by kernel_rfl) (fun _ _ _ h => h) ?_ ?_ hHeld ?_; rotate_left 1; (· rfl); (· intro w' hSw; (try clear hHeld); go_simp; try with_reducible rfl)
                                                                          try simp only [Act.put, List.setIfInBounds_toArray, List.set_cons_zero, List.set_cons_succ]
                                                                          refine rgy (i := 12) (v := ?_) (atN rfl) (by kernel_rfl) (fun _ _ _ h => h) ?_ ?_ hHeld ?_; rotate_left 1; (· rfl); (· intro w' hSw; (try clear hHeld); go_simp; try with_reducible rfl)
                                                                          try simp only [Act.put, List.setIfInBounds_toArray, List.set_cons_zero, List.set_cons_succ]
                                                                          refine rgy (i := 13) (v := ?_) (atN rfl) (by kernel_rfl) (fun _ _ _ h => h) ?_ ?_ hHeld ?_; rotate_left 1; (· rfl); (· intro w' hSw; (try clear hHeld); go_simp; try with_reducible rfl)
                                                                          try simp only [Act.put, List.setIfInBounds_toArray, List.set_cons_zero, List.set_cons_succ]
                                                                          refine rgy (i := 14) (v := ?_) (atN rfl) (by kernel_rfl) (fun _ _ _ h => h) ?_ ?_ hHeld ?_; rotate_left 1; (· rfl); (· intro w' hSw; (try clear hHeld); go_simp; try with_reducible rfl)
                                                                          try simp only [Act.put, List.setIfInBounds_toArray, List.set_cons_zero, List.set_cons_succ]
                                                                          refine rgy (i := 15) (v := ?_) (atN rfl) (by kernel_rfl) (fun _ _ _ h => h) ?_ ?_ hHeld ?_; rotate_left 1; (· rfl); (· intro w' hSw; (try clear hHeld); go_simp; try with_reducible rfl)
                                                                          try simp only [Act.put, List.setIfInBounds_toArray, List.set_cons_zero, List.set_cons_succ]
                                                                          refine rgy (i := 16) (v := ?_) (atN rfl) (by kernel_rfl) (fun _ _ _ h => h) ?_ ?_ hHeld ?_; rotate_left 1; (· rfl); (· intro w' hSw; (try clear hHeld); go_simp; try with_reducible rfl)
                                                                          try simp only [Act.put, List.setIfInBounds_toArray, List.set_cons_zero, List.set_cons_succ]
                                                                          refine rgy (i := 17) (v := ?_) (atN rfl) (by kernel_rfl) (fun _ _ _ h => h) ?_ ?_ hHeld ?_; rotate_left 1; (· rfl); (· intro w' hSw; (try clear hHeld); go_simp; try with_reducible rfl)
                                                                          try simp only [Act.put, List.setIfInBounds_toArray, List.set_cons_zero, List.set_cons_succ]
                                                                          refine rgy (i := 18) (v := ?_) (atN rfl) (by kernel_rfl) (fun _ _ _ h => h) ?_ ?_ hHeld ?_; rotate_left 1; (· rfl); (· intro w' hSw; (try clear hHeld); go_simp; try with_reducible rfl)
                                                                          try simp only [Act.put, List.setIfInBounds_toArray, List.set_cons_zero, List.set_cons_succ]
                                                                          refine rgy (i := 19) (v := ?_) (atN rfl) (by kernel_rfl) (fun _ _ _ h => h) ?_ ?_ hHeld ?_; rotate_left 1; (· rfl); (· intro w' hSw; (try clear hHeld); go_simp; try with_reducible rfl)
                                                                          try simp only [Act.put, List.setIfInBounds_toArray, List.set_cons_zero, List.set_cons_succ]
                                                                          refine rgy (i := 20) (v := ?_) (atN rfl) (by kernel_rfl) (fun _ _ _ h => h) ?_ ?_ hHeld ?_; rotate_left 1; (· rfl); (· intro w' hSw; (try clear hHeld); go_simp; try with_reducible rfl)
                                                                          try simp only [Act.put, List.setIfInBounds_toArray, List.set_cons_zero, List.set_cons_succ]
                                                                          refine rgy (i := 21) (v := ?_) (atN rfl) (by kernel_rfl) (fun _ _ _ h => h) ?_ ?_ hHeld ?_; rotate_left 1; (· rfl); (· intro w' hSw; (try clear hHeld); go_simp; try with_reducible rfl)
                                                                          try simp only [Act.put, List.setIfInBounds_toArray, List.set_cons_zero, List.set_cons_succ]
                                                                          refine rgy (i := 22) (v := ?_) (atN rfl) (by kernel_rfl) (fun _ _ _ h => h) ?_ ?_ hHeld ?_; rotate_left 1; (· rfl); (· intro w' hSw; (try clear hHeld); go_simp; try with_reducible rfl)
                                                                          try simp only [Act.put, List.setIfInBounds_toArray, List.set_cons_zero, List.set_cons_succ]
                                                                          refine rgy (i := 23) (v := ?_) (atN rfl) (by kernel_rfl) (fun _ _ _ h => h) ?_ ?_ hHeld ?_; rotate_left 1; (· rfl); (· intro w' hSw; (try clear hHeld); go_simp; try with_reducible rfl)
                                                                          try simp only [Act.put, List.setIfInBounds_toArray, List.set_cons_zero, List.set_cons_succ]
                                                                          refine rgn (i := 24) (atN rfl) (by kernel_rfl) (fun _ _ _ h => h) ?_ hHeld ?_; (· rfl)
                                                                          try simp only [Act.put, List.setIfInBounds_toArray, List.set_cons_zero, List.set_cons_succ]
                                                                          refine rgn (i := 25) (atN rfl) (by kernel_rfl) (fun _ _ _ h => h) ?_ hHeld ?_; (· rfl)
                                                                          try simp only [Act.put, List.setIfInBounds_toArray, List.set_cons_zero, List.set_cons_succ]
                                                                          refine rgy (i := 26) (v := ?_) (atN rfl) (by kernel_rfl) (fun _ _ _ h => h) ?_ ?_ hHeld ?_; rotate_left 1; (· rfl); (· intro w' hSw; (try clear hHeld); go_simp; try with_reducible rfl)
                                                                          try simp only [Act.put, List.setIfInBounds_toArray, List.set_cons_zero, List.set_cons_succ]
                                                                          refine rgy (i := 27) (v := ?_) (atN rfl) (by kernel_rfl) (fun _ _ _ h => h) ?_ ?_ hHeld ?_; rotate_left 1; (· rfl); (· intro w' hSw; (try clear hHeld); go_simp; try with_reducible rfl)
                                                                          try simp only [Act.put, List.setIfInBounds_toArray, List.set_cons_zero, List.set_cons_succ]
                                                                          refine rgn (i := 28) (atN rfl) (by kernel_rfl) (fun _ _ _ h => h) ?_ hHeld ?_; (· rfl)
                                                                          try simp only [Act.put, List.setIfInBounds_toArray, List.set_cons_zero, List.set_cons_succ]
                                                                          refine rgn (i := 29) (atN rfl) (by kernel_rfl) (fun _ _ _ h => h) ?_ hHeld ?_; (· rfl)
                                                                          try simp only [Act.put, List.setIfInBounds_toArray, List.set_cons_zero, List.set_cons_succ]
                                                                          refine rgn (i := 30) (atN rfl) (by kernel_rfl) (fun _ _ _ h => h) ?_ hHeld ?_; (· rfl)
                                                                          try simp only [Act.put, List.setIfInBounds_toArray, List.set_cons_zero, List.set_cons_succ]
                                                                          refine rgn (i := 31) (atN rfl) (by kernel_rfl) (fun _ _ _ h => h) ?_ hHeld ?_; (· rfl)
                                                                          try simp only [Act.put, List.setIfInBounds_toArray, List.set_cons_zero, List.set_cons_succ]
                                                                          refine rgn (i := 32) (atN rfl) (by kernel_rfl) (fun _ _ _ h => h) ?_ hHeld ?_; (· rfl)
                                                                          try simp only [Act.put, List.setIfInBounds_toArray, List.set_cons_zero, List.set_cons_succ]
                                                                          refine rgn (i := 33) (atN rfl) (by kernel_rfl) (fun _ _ _ h => h) ?_ hHeld ?_; (· rfl)
                                                                          try simp only [Act.put, List.setIfInBounds_toArray, List.set_cons_zero, List.set_cons_succ]
                                                                          refine rgn (i := 34) (atN rfl) (by kernel_rfl) (fun _ _ _ h => h) ?_ hHeld ?_; (· rfl)
                                                                          try simp only [Act.put, List.setIfInBounds_toArray, List.set_cons_zero, List.set_cons_succ]
                                                                          refine rgn (i := 35) (atN rfl) (by kernel_rfl) (fun _ _ _ h => h) ?_ hHeld ?_; (· rfl)
                                                                          try simp only [Act.put, List.setIfInBounds_toArray, List.set_cons_zero, List.set_cons_succ]
                                                                          refine rgn (i := 36) (atN rfl) (by kernel_rfl) (fun _ _ _ h => h) ?_ hHeld ?_; (· rfl)
                                                                          try simp only [Act.put, List.setIfInBounds_toArray, List.set_cons_zero, List.set_cons_succ]
                                                                          refine rgn (i := 37) (atN rfl) (by kernel_rfl) (fun _ _ _ h => h) ?_ hHeld ?_; (· rfl)
                                                                          try simp only [Act.put, List.setIfInBounds_toArray, List.set_cons_zero, List.set_cons_succ]
                                                                          refine rgn (i := 38) (atN rfl) (by kernel_rfl) (fun _ _ _ h => h) ?_ hHeld ?_; (· rfl)
                                                                          try simp only [Act.put, List.setIfInBounds_toArray, List.set_cons_zero, List.set_cons_succ]
                                                                          refine rgy (i := 39) (v := ?_) (atN rfl) (by kernel_rfl) (fun _ _ _ h => h) ?_ ?_ hHeld ?_; rotate_left 1; (· rfl); (· intro w' hSw; (try clear hHeld); go_simp; try with_reducible rfl)
                                                                          try simp only [Act.put, List.setIfInBounds_toArray, List.set_cons_zero, List.set_cons_succ]
                                                                          refine rgy (i := 40) (v := ?_) (atN rfl) (by kernel_rfl) (fun _ _ _ h => h) ?_ ?_ hHeld ?_; rotate_left 1; (· rfl); (· intro w' hSw; (try clear hHeld); go_simp; try with_reducible rfl)
                                                                          try simp only [Act.put, List.setIfInBounds_toArray, List.set_cons_zero, List.set_cons_succ]
                                                                          refine wpAnyH_done (by kernel_rfl) ?_ _
                                                                          have BV4 := Lib.hid (below_on BV3.out hHeld)
                                                                          clear hHeld
                                                                          go_wp2_with fail
                                                                          exact ⟨⟨k + 1, by omega, by go_num, BV4⟩, by simp [intOf]; omega⟩
                                                                    · as_aux_lemma =>
                                                                        -- HERE20
                                                                        obtain rfl : za = (ja : Int) := ZA.out.symm.trans fa
                                                                        obtain rfl : zb = -1 := ZB.out.symm.trans fb
                                                                        have a0 : decide ((ja : Int) < 0) = false := by simp
                                                                        have a1 : decide ((ja : Int) ≥ 0) = true := by simp
                                                                        clear ga fa gb fb hya hyap TM ZA ZB
                                                                        by_cases hk0 : k = 0
                                                                        · subst hk0
                                                                          have g1 : decide (((0 : Nat) : Int) > 0) = false := rfl
                                                                          clear HP
                                                                          refine wp_region_held_drew (S := fun w' => Below v3.heap.size v3 w') (by kernel_rfl) ?_ (fun hHeld => ?_)
                                                                          · exact (Below.refl _ _).drew
                                                                          refine rgy (i := 0) (v := ?_) (atN rfl) (by kernel_rfl) (fun _ _ _ h => h) ?_ ?_ hHeld ?_; rotate_left 1; (· rfl); (· intro w' hSw; (try clear hHeld); go_simp; try with_reducible rfl)
                                                                          try simp only [Act.put, List.setIfInBounds_toArray, List.set_cons_zero, List.set_cons_succ]
                                                                          refine rgy (i := 1) (v := ?_) (atN rfl) (by kernel_rfl) (fun _ _ _ h => h) ?_ ?_ hHeld ?_; rotate_left 1; (· rfl); (· intro w' hSw; (try clear hHeld); go_simp; try with_reducible rfl)
                                                                          try simp only [Act.put, List.setIfInBounds_toArray, List.set_cons_zero, List.set_cons_succ]
                                                                          refine rgy (i := 2) (v := ?_) (atN rfl) (by kernel_rfl) (fun _ _ _ h => h) ?_ ?_ hHeld ?_; rotate_left 1; (· rfl); (· intro w' hSw; (try clear hHeld); go_simp; try with_reducible rfl)
                                                                          try simp only [Act.put, List.setIfInBounds_toArray, List.set_cons_zero, List.set_cons_succ]
                                                                          refine rgn (i := 3) (atN rfl) (by kernel_rfl) (fun _ _ _ h => h) ?_ hHeld ?_; (· rfl)
                                                                          try simp only [Act.put, List.setIfInBounds_toArray, List.set_cons_zero, List.set_cons_succ]
                                                                          refine rgn (i := 4) (atN rfl) (by kernel_rfl) (fun _ _ _ h => h) ?_ hHeld ?_; (· rfl)
                                                                          try simp only [Act.put, List.setIfInBounds_toArray, List.set_cons_zero, List.set_cons_succ]
                                                                          refine rgn (i := 5) (atN rfl) (by kernel_rfl) (fun _ _ _ h => h) ?_ hHeld ?_; (· rfl)
                                                                          try simp only [Act.put, List.setIfInBounds_toArray, List.set_cons_zero, List.set_cons_succ]
                                                                          refine rgn (i := 6) (atN rfl) (by kernel_rfl) (fun _ _ _ h => h) ?_ hHeld ?_; (· rfl)
                                                                          try simp only [Act.put, List.setIfInBounds_toArray, List.set_cons_zero, List.set_cons_succ]
                                                                          refine rgn (i := 7) (atN rfl) (by kernel_rfl) (fun _ _ _ h => h) ?_ hHeld ?_; (· rfl)
                                                                          try simp only [Act.put, List.setIfInBounds_toArray, List.set_cons_zero, List.set_cons_succ]
                                                                          refine rgn (i := 8) (atN rfl) (by kernel_rfl) (fun _ _ _ h => h) ?_ hHeld ?_; (· rfl)
                                                                          try simp only [Act.put, List.setIfInBounds_toArray, List.set_cons_zero, List.set_cons_succ]
                                                                          refine rgn (i := 9) (atN rfl) (by kernel_rfl) (fun _ _ _ h => h) ?_ hHeld ?_; (· rfl)
                                                                          try simp only [Act.put, List.setIfInBounds_toArray, List.set_cons_zero, List.set_cons_succ]
                                                                          refine rgn (i := 10) (atN rfl) (by kernel_rfl) (fun _ _ _ h => h) ?_ hHeld ?_; (· rfl)
                                                                          try simp only [Act.put, List.setIfInBounds_toArray, List.set_cons_zero, List.set_cons_succ]
                                                                          refine rgy (i := 11) (v := ?_) (atN rfl) (by kernel_rfl) (fun _ _ _ h => h) ?_ ?_ hHeld ?_; rotate_left 1; (· rfl); (· intro w' hSw; (try clear hHeld); go_simp; try with_reducible rfl)
                                                                          try simp only [Act.put, List.setIfInBounds_toArray, List.set_cons_zero, List.set_cons_succ]
                                                                          refine rgy (i := 12) (v := ?_) (atN rfl) (by kernel_rfl) (fun _ _ _ h => h) ?_ ?_ hHeld ?_; rotate_left 1; (· rfl); (· intro w' hSw; (try clear hHeld); go_simp; try with_reducible rfl)
                                                                          try simp only [Act.put, List.setIfInBounds_toArray, List.set_cons_zero, List.set_cons_succ]
                                                                          refine rgy (i := 13) (v := ?_) (atN rfl) (by kernel_rfl) (fun _ _ _ h => h) ?_ ?_ hHeld ?_; rotate_left 1; (· rfl); (· intro w' hSw; (try clear hHeld); go_simp; try with_reducible rfl)
                                                                          try simp only [Act.put, List.setIfInBounds_toArray, List.set_cons_zero, List.set_cons_succ]
                                                                          refine rgy (i := 14) (v := ?_) (atN rfl) (by kernel_rfl) (fun _ _ _ h => h) ?_ ?_ hHeld ?_; rotate_left 1; (· rfl); (· intro w' hSw; (try clear hHeld); go_simp; try with_reducible rfl)
                                                                          try simp only [Act.put, List.setIfInBounds_toArray, List.set_cons_zero, List.set_cons_succ]
                                                                          refine rgy (i := 15) (v := ?_) (atN rfl) (by kernel_rfl) (fun _ _ _ h => h) ?_ ?_ hHeld ?_; rotate_left 1; (· rfl); (· intro w' hSw; (try clear hHeld); go_simp; try with_reducible rfl)
                                                                          try simp only [Act.put, List.setIfInBounds_toArray, List.set_cons_zero, List.set_cons_succ]
                                                                          refine rgn (i := 16) (atN rfl) (by kernel_rfl) (fun _ _ _ h => h) ?_ hHeld ?_; (· rfl)
                                                                          try simp only [Act.put, List.setIfInBounds_toArray, List.set_cons_zero, List.set_cons_succ]
                                                                          refine rgn (i := 17) (atN rfl) (by kernel_rfl) (fun _ _ _ h => h) ?_ hHeld ?_; (· rfl)
                                                                          try simp only [Act.put, List.setIfInBounds_toArray, List.set_cons_zero, List.set_cons_succ]
                                                                          refine rgy (i := 18) (v := ?_) (atN rfl) (by kernel_rfl) (fun _ _ _ h => h) ?_ ?_ hHeld ?_; rotate_left 1; (· rfl); (· intro w' hSw; (try clear hHeld); go_simp; try with_reducible rfl)
                                                                          try simp only [Act.put, List.setIfInBounds_toArray, List.set_cons_zero, List.set_cons_succ]
                                                                          refine rgy (i := 19) (v := ?_) (atN rfl) (by kernel_rfl) (fun _ _ _ h => h) ?_ ?_ hHeld ?_; rotate_left 1; (· rfl); (· intro w' hSw; (try clear hHeld); go_simp; try with_reducible rfl)
                                                                          try simp only [Act.put, List.setIfInBounds_toArray, List.set_cons_zero, List.set_cons_succ]
                                                                          refine rgy (i := 20) (v := ?_) (atN rfl) (by kernel_rfl) (fun _ _ _ h => h) ?_ ?_ hHeld ?_; rotate_left 1; (· rfl); (· intro w' hSw; (try clear hHeld); go_simp; try with_reducible rfl)
                                                                          try simp only [Act.put, List.setIfInBounds_toArray, List.set_cons_zero, List.set_cons_succ]
                                                                          refine rgy (i := 21) (v := ?_) (atN rfl) (by kernel_rfl) (fun _ _ _ h => h) ?_ ?_ hHeld ?_; rotate_left 1; (· rfl); (· intro w' hSw; (try clear hHeld); go_simp; try with_reducible rfl)
                                                                          try simp only [Act.put, List.setIfInBounds_toArray, List.set_cons_zero, List.set_cons_succ]
                                                                          refine rgy (i := 22) (v := ?_) (atN rfl) (by kernel_rfl) (fun _ _ _ h => h) ?_ ?_ hHeld ?_; rotate_left 1; (· rfl); (· intro w' hSw; (try clear hHeld); go_simp; try with_reducible rfl)
                                                                          try simp only [Act.put, List.setIfInBounds_toArray, List.set_cons_zero, List.set_cons_succ]
                                                                          refine rgy (i := 23) (v := ?_) (atN rfl) (by kernel_rfl) (fun _ _ _ h => h) ?_ ?_ hHeld ?_; rotate_left 1; (· rfl); (· intro w' hSw; (try clear hHeld); go_simp; try with_reducible rfl)
                                                                          try simp only [Act.put, List.setIfInBounds_toArray, List.set_cons_zero, List.set_cons_succ]
                                                                          refine rgy (i := 24) (v := ?_) (atN rfl) (by kernel_rfl) (fun _ _ _ h => h) ?_ ?_ hHeld ?_; rotate_left 1; (· rfl); (· intro w' hSw; (try clear hHeld); go_simp; try with_reducible rfl)
                                                                          try simp only [Act.put, List.setIfInBounds_toArray, List.set_cons_zero, List.set_cons_succ]
                                                                          refine rgy (i := 25) (v := ?_) (atN rfl) (by kernel_rfl) (fun _ _ _ h => h) ?_ ?_ hHeld ?_; rotate_left 1; (· rfl); (· intro w' hSw; (try clear hHeld); go_simp; try with_reducible rfl)
                                                                          try simp only [Act.put, List.setIfInBounds_toArray, List.set_cons_zero, List.set_cons_succ]
                                                                          refine rgy (i := 26) (v := ?_) (atN rfl) (by kernel_rfl) (fun _ _ _ h => h) ?_ ?_ hHeld ?_; rotate_left 1; (· rfl); (· intro w' hSw; (try clear hHeld); go_simp; try with_reducible rfl)
                                                                          try simp only [Act.put, List.setIfInBounds_toArray, List.set_cons_zero, List.set_cons_succ]
                                                                          refine rgy (i := 27) (v := ?_) (atN rfl) (by kernel_rfl) (fun _ _ _ h => h) ?_ ?_ hHeld ?_; rotate_left 1; (· rfl); (· intro w' hSw; (try clear hHeld); go_simp; try with_reducible rfl)
                                                                          try simp only [Act.put, List.setIfInBounds_toArray, List.set_cons_zero, List.set_cons_succ]
                                                                          refine rgn (i := 28) (atN rfl) (by kernel_rfl) (fun _ _ _ h => h) ?_ hHeld ?_; (· rfl)
                                                                          try simp only [Act.put, List.setIfInBounds_toArray, List.set_cons_zero, List.set_cons_succ]
                                                                          refine rgn (i := 29) (atN rfl) (by kernel_rfl) (fun _ _ _ h => h) ?_ hHeld ?_; (· rfl)
                                                                          try simp only [Act.put, List.setIfInBounds_toArray, List.set_cons_zero, List.set_cons_succ]
                                                                          refine rgn (i := 30) (atN rfl) (by kernel_rfl) (fun _ _ _ h => h) ?_ hHeld ?_; (· rfl)
                                                                          try simp only [Act.put, List.setIfInBounds_toArray, List.set_cons_zero, List.set_cons_succ]
                                                                          refine rgn (i := 31) (atN rfl) (by kernel_rfl) (fun _ _ _ h => h) ?_ hHeld ?_; (· rfl)
                                                                          try simp only [Act.put, List.setIfInBounds_toArray, List.set_cons_zero, List.set_cons_succ]
                                                                          refine rgn (i := 32) (atN rfl) (by kernel_rfl) (fun _ _ _ h => h) ?_ hHeld ?_; (· rfl)
                                                                          try simp only [Act.put, List.setIfInBounds_toArray, List.set_cons_zero, List.set_cons_succ]
                                                                          refine rgn (i := 33) (atN rfl) (by kernel_rfl) (fun _ _ _ h => h) ?_ hHeld ?_; (· rfl)
                                                                          try simp only [Act.put, List.setIfInBounds_toArray, List.set_cons_zero, List.set_cons_succ]
                                                                          refine rgn (i := 34) (atN rfl) (by kernel_rfl) (fun _ _ _ h => h) ?_ hHeld ?_; (· rfl)
                                                                          try simp only [Act.put, List.setIfInBounds_toArray, List.set_cons_zero, List.set_cons_succ]
                                                                          refine rgn (i := 35) (atN rfl) (by kernel_rfl) (fun _ _ _ h => h) ?_ hHeld ?_; (· rfl)
                                                                          try simp only [Act.put, List.setIfInBounds_toArray, List.set_cons_zero, List.set_cons_succ]
                                                                          refine rgn (i := 36) (atN rfl) (by kernel_rfl) (fun _ _ _ h => h) ?_ hHeld ?_; (· rfl)
                                                                          try simp only [Act.put, List.setIfInBounds_toArray, List.set_cons_zero, List.set_cons_succ]
                                                                          refine rgn (i := 37) (atN rfl) (by kernel_rfl) (fun _ _ _ h => h) ?_ hHeld ?_; (· rfl)
                                                                          try simp only [Act.put, List.setIfInBounds_toArray, List.set_cons_zero, List.set_cons_succ]
                                                                          refine rgn (i := 38) (atN rfl) (by kernel_rfl) (fun _ _ _ h => h) ?_ hHeld ?_; (· rfl)
                                                                          try simp only [Act.put, List.setIfInBounds_toArray, List.set_cons_zero, List.set_cons_succ]
                                                                          refine rgy (i := 39) (v := ?_) (atN rfl) (by kernel_rfl) (fun _ _ _ h => h) ?_ ?_ hHeld ?_; rotate_left 1; (· rfl); (· intro w' hSw; (try clear hHeld); go_simp; try with_reducible rfl)
                                                                          try simp only [Act.put, List.setIfInBounds_toArray, List.set_cons_zero, List.set_cons_succ]
                                                                          refine rgy (i := 40) (v := ?_) (atN rfl) (by kernel_rfl) (fun _ _ _ h => h) ?_ ?_ hHeld ?_; rotate_left 1; (· rfl); (· intro w' hSw; (try clear hHeld); go_simp; try with_reducible rfl)
                                                                          try simp only [Act.put, List.setIfInBounds_toArray, List.set_cons_zero, List.set_cons_succ]
                                                                          refine wpAnyH_done (by kernel_rfl) ?_ _
                                                                          have BV4 := Lib.hid (below_on BV3.out hHeld)
                                                                          clear hHeld
                                                                          go_wp2_with fail
                                                                          exact ⟨⟨0 + 1, by omega, by go_num, BV4⟩, by simp [intOf]; omega⟩
                                                                        · obtain ⟨i', hi'⟩ : ∃ i', k = i' + 1 := ⟨k - 1, by omega⟩
                                                                          have g1 : decide ((k : Int) > 0) = true := by simp; omega
                                                                          have g2 : decide (0 < k) = true := by simp; omega
                                                                          obtain ⟨q, hq⟩ : ∃ q, r2[i']? = some q := ⟨_, List.getElem?_eq_getElem (by omega)⟩
                                                                          have cz : decide (pcmp q p ≥ 0) = false := pcmp_lessR (srt_lt TSRT.out hq HP.out (by omega))
                                                                          obtain ⟨g3, o3, d0, d1, e3, ⟨hqc, -⟩, u0, u1⟩ := pair_at (TC.out.below BV3.out).at hq
                                                                          injection hqc with q1 q2; injection q2 with q2 _; subst q1; subst q2
                                                                          injection e3 with e3; injection e3 with e3 e4 _; subst e3; subst e4
                                                                          have CC := Lib.hid (fun W => ps_Cmp q p W)
                                                                          have wj : IntKind.i64.wrap ((k : Int) - 1) = (i' : Int) := by rw [IntWalk.i64_in _ (by omega)]; omega
                                                                          have j0 : (0 : Int) ≤ (i' : Int) := by omega
                                                                          have j1 : (i' : Int) < (r2.length : Int) := by omega
                                                                          generalize pcmp q p = cm at cz CC
                                                                          clear hk0 hi' hq HP TSRT
                                                                          refine wp_region_held_drew (S := fun w' => Below v3.heap.size v3 w') (by kernel_rfl) ?_ (fun hHeld => ?_)
                                                                          · exact (Below.refl _ _).drew
                                                                          refine rgy (i := 0) (v := ?_) (atN rfl) (by kernel_rfl) (fun _ _ _ h => h) ?_ ?_ hHeld ?_; rotate_left 1; (· rfl); (· intro w' hSw; (try clear hHeld); go_simp; try with_reducible rfl)
                                                                          try simp only [Act.put, List.setIfInBounds_toArray, List.set_cons_zero, List.set_cons_succ]
                                                                          refine rgy (i := 1) (v := ?_) (atN rfl) (by kernel_rfl) (fun _ _ _ h => h) ?_ ?_ hHeld ?_; rotate_left 1; (· rfl); (· intro w' hSw; (try clear hHeld); go_simp; try with_reducible rfl)
                                                                          try simp only [Act.put, List.setIfInBounds_toArray, List.set_cons_zero, List.set_cons_succ]
                                                                          refine rgy (i := 2) (v := ?_) (atN rfl) (by kernel_rfl) (fun _ _ _ h => h) ?_ ?_ hHeld ?_; rotate_left 1; (· rfl); (· intro w' hSw; (try clear hHeld); go_simp; try with_reducible rfl)
                                                                          try simp only [Act.put, List.setIfInBounds_toArray, List.set_cons_zero, List.set_cons_succ]
                                                                          refine rgy (i := 3) (v := ?_) (atN rfl) (by kernel_rfl) (fun _ _ _ h => h) ?_ ?_ hHeld ?_; rotate_left 1; (· rfl); (· intro w' hSw; (try clear hHeld); go_simp; try with_reducible rfl)
                                                                          try simp only [Act.put, List.setIfInBounds_toArray, List.set_cons_zero, List.set_cons_succ]
                                                                          refine rgy (i := 4) (v := ?_) (atN rfl) (by kernel_rfl) (fun _ _ _ h => h) ?_ ?_ hHeld ?_; rotate_left 1; (· rfl); (· intro w' hSw; (try clear hHeld); go_simp; try with_reducible rfl)
                                                                          try simp only [Act.put, List.setIfInBounds_toArray, List.set_cons_zero, List.set_cons_succ]
                                                                          refine rgy (i := 5) (v := ?_) (atN rfl) (by kernel_rfl) (fun _ _ _ h => h) ?_ ?_ hHeld ?_; rotate_left 1; (· rfl); (· intro w' hSw; (try clear hHeld); go_simp; try with_reducible rfl)
                                                                          try simp only [Act.put, List.setIfInBounds_toArray, List.set_cons_zero, List.set_cons_succ]
                                                                          refine rgy (i := 6) (v := ?_) (atN rfl) (by kernel_rfl) (fun _ _ _ h => h) ?_ ?_ hHeld ?_; rotate_left 1; (· rfl); (· intro w' hSw; have c0 := cell_below c0 hSw; have c1 := cell_below c1 hSw; have u0 := cell_below u0 hSw; have u1 := cell_below u1 hSw; (try clear hHeld); go_simp; try with_reducible rfl)
                                                                          try simp only [Act.put, List.setIfInBounds_toArray, List.set_cons_zero, List.set_cons_succ]
                                                                          refine rgy (i := 7) (v := ?_) (atN rfl) (by kernel_rfl) (fun _ _ _ h => h) ?_ ?_ hHeld ?_; rotate_left 1; (· rfl); (· intro w' hSw; have c0 := cell_below c0 hSw; have c1 := cell_below c1 hSw; have u0 := cell_below u0 hSw; have u1 := cell_below u1 hSw; (try clear hHeld); go_simp; try with_reducible rfl)
                                                                          try simp only [Act.put, List.setIfInBounds_toArray, List.set_cons_zero, List.set_cons_succ]
                                                                          refine rgy (i := 8) (v := ?_) (atN rfl) (by kernel_rfl) (fun _ _ _ h => h) ?_ ?_ hHeld ?_; rotate_left 1; (· rfl); (· intro w' hSw; have c0 := cell_below c0 hSw; have c1 := cell_below c1 hSw; have u0 := cell_below u0 hSw; have u1 := cell_below u1 hSw; (try clear hHeld); go_simp; try with_reducible rfl)
                                                                          try simp only [Act.put, List.setIfInBounds_toArray, List.set_cons_zero, List.set_cons_succ]
                                                                          refine rg_call (i := 9) (atN rfl) (by kernel_rfl) ?_ (fun K hK => ?_); (· rfl); (try clear hb); go_simp; (refine (CC.out _).mono ?_; rintro e w1 ⟨rfl, hb⟩); go_wp2_with fail; refine hK.out _ _ ?_ (fun hHeld => ?_); (· exact hHeld.trans (hb.mono hHeld.size)); clear hK K
                                                                          try simp only [Act.put, List.setIfInBounds_toArray, List.set_cons_zero, List.set_cons_succ]
                                                                          refine rgy (i := 10) (v := ?_) (atN rfl) (by kernel_rfl) (fun _ _ _ h => h) ?_ ?_ hHeld ?_; rotate_left 1; (· rfl); (· intro w' hSw; (try clear hHeld); go_simp; try with_reducible rfl)
                                                                          try simp only [Act.put, List.setIfInBounds_toArray, List.set_cons_zero, List.set_cons_succ]
                                                                          refine rgy (i := 11) (v := ?_) (atN rfl) (by kernel_rfl) (fun _ _ _ h => h) ?_ ?_ hHeld ?_; rotate_left 1; (· rfl); (· intro w' hSw; (try clear hHeld); go_simp; try with_reducible rfl)
                                                                          try simp only [Act.put, List.setIfInBounds_toArray, List.set_cons_zero, List.set_cons_succ]
                                                                          refine rgy (i := 12) (v := ?_) (atN rfl) (by kernel_rfl) (fun _ _ _ h => h) ?_ ?_ hHeld ?_; rotate_left 1; (· rfl); (· intro w' hSw; (try clear hHeld); go_simp; try with_reducible rfl)
                                                                          try simp only [Act.put, List.setIfInBounds_toArray, List.set_cons_zero, List.set_cons_succ]
                                                                          refine rgy (i := 13) (v := ?_) (atN rfl) (by kernel_rfl) (fun _ _ _ h => h) ?_ ?_ hHeld ?_; rotate_left 1; (· rfl); (· intro w' hSw; (try clear hHeld); go_simp; try with_reducible rfl)
                                                                          try simp only [Act.put, List.setIfInBounds_toArray, List.set_cons_zero, List.set_cons_succ]
                                                                          refine rgy (i := 14) (v := ?_) (atN rfl) (by kernel_rfl) (fun _ _ _ h => h) ?_ ?_ hHeld ?_; rotate_left 1; (· rfl); (· intro w' hSw; (try clear hHeld); go_simp; try with_reducible rfl)
                                                                          try simp only [Act.put, List.setIfInBounds_toArray, List.set_cons_zero, List.set_cons_succ]
                                                                          refine rgy (i := 15) (v := ?_) (atN rfl) (by kernel_rfl) (fun _ _ _ h => h) ?_ ?_ hHeld ?_; rotate_left 1; (· rfl); (· intro w' hSw; (try clear hHeld); go_simp; try with_reducible rfl)
                                                                          try simp only [Act.put, List.setIfInBounds_toArray, List.set_cons_zero, List.set_cons_succ]
                                                                          refine rgn (i := 16) (atN rfl) (by kernel_rfl) (fun _ _ _ h => h) ?_ hHeld ?_; (· rfl)
                                                                          try simp only [Act.put, List.setIfInBounds_toArray, List.set_cons_zero, List.set_cons_succ]
                                                                          refine rgn (i := 17) (atN rfl) (by kernel_rfl) (fun _ _ _ h => h) ?_ hHeld ?_; (· rfl)
                                                                          try simp only [Act.put, List.setIfInBounds_toArray, List.set_cons_zero, List.set_cons_succ]
                                                                          refine rgy (i := 18) (v := ?_) (atN rfl) (by kernel_rfl) (fun _ _ _ h => h) ?_ ?_ hHeld ?_; rotate_left 1; (· rfl); (· intro w' hSw; (try clear hHeld); go_simp; try with_reducible rfl)
                                                                          try simp only [Act.put, List.setIfInBounds_toArray, List.set_cons_zero, List.set_cons_succ]
                                                                          refine rgy (i := 19) (v := ?_) (atN rfl) (by kernel_rfl) (fun _ _ _ h => h) ?_ ?_ hHeld ?_; rotate_left 1; (· rfl); (· intro w' hSw; (try clear hHeld); go_simp; try with_reducible rfl)
                                                                          try simp only [Act.put, List.setIfInBounds_toArray, List.set_cons_zero, List.set_cons_succ]
                                                                          refine rgy (i := 20) (v := ?_) (atN rfl) (by kernel_rfl) (fun _ _ _ h => h) ?_ ?_ hHeld ?_; rotate_left 1; (· rfl); (· intro w' hSw; (try clear hHeld); go_simp; try with_reducible rfl)
                                                                          try simp only [Act.put, List.setIfInBounds_toArray, List.set_cons_zero, List.set_cons_succ]
                                                                          refine rgy (i := 21) (v := ?_) (atN rfl) (by kernel_rfl) (fun _ _ _ h => h) ?_ ?_ hHeld ?_; rotate_left 1; (· rfl); (· intro w' hSw; (try clear hHeld); go_simp; try with_reducible rfl)
                                                                          try simp only [Act.put, List.setIfInBounds_toArray, List.set_cons_zero, List.set_cons_succ]
                                                                          refine rgy (i := 22) (v := ?_) (atN rfl) (by kernel_rfl) (fun _ _ _ h => h) ?_ ?_ hHeld ?_; rotate_left 1; (· rfl); (· intro w' hSw; (try clear hHeld); go_simp; try with_reducible rfl)
                                                                          try simp only [Act.put, List.setIfInBounds_toArray, List.set_cons_zero, List.set_cons_succ]
                                                                          refine rgy (i := 23) (v := ?_) (atN rfl) (by kernel_rfl) (fun _ _ _ h => h) ?_ ?_ hHeld ?_; rotate_left 1; (· rfl); (· intro w' hSw; (try clear hHeld); go_simp; try with_reducible rfl)
                                                                          try simp only [Act.put, List.setIfInBounds_toArray, List.set_cons_zero, List.set_cons_succ]
                                                                          refine rgy (i := 24) (v := ?_) (atN rfl) (by kernel_rfl) (fun _ _ _ h => h) ?_ ?_ hHeld ?_; rotate_left 1; (· rfl); (· intro w' hSw; (try clear hHeld); go_simp; try with_reducible rfl)
                                                                          try simp only [Act.put, List.setIfInBounds_toArray, List.set_cons_zero, List.set_cons_succ]
                                                                          refine rgy (i := 25) (v := ?_) (atN rfl) (by kernel_rfl) (fun _ _ _ h => h) ?_ ?_ hHeld ?_; rotate_left 1; (· rfl); (· intro w' hSw; (try clear hHeld); go_simp; try with_reducible rfl)
                                                                          try simp only [Act.put, List.setIfInBounds_toArray, List.set_cons_zero, List.set_cons_succ]
                                                                          refine rgy (i := 26) (v := ?_) (atN rfl) (by kernel_rfl) (fun _ _ _ h => h) ?_ ?_ hHeld ?_; rotate_left 1; (· rfl); (· intro w' hSw; (try clear hHeld); go_simp; try with_reducible rfl)
                                                                          try simp only [Act.put, List.setIfInBounds_toArray, List.set_cons_zero, List.set_cons_succ]
                                                                          refine rgy (i := 27) (v := ?_) (atN rfl) (by kernel_rfl) (fun _ _ _ h => h) ?_ ?_ hHeld ?_; rotate_left 1; (· rfl); (· intro w' hSw; (try clear hHeld); go_simp; try with_reducible rfl)
                                                                          try simp only [Act.put, List.setIfInBounds_toArray, List.set_cons_zero, List.set_cons_succ]
                                                                          refine rgn (i := 28) (atN rfl) (by kernel_rfl) (fun _ _ _ h => h) ?_ hHeld ?_; (· rfl)
                                                                          try simp only [Act.put, List.setIfInBounds_toArray, List.set_cons_zero, List.set_cons_succ]
                                                                          refine rgn (i := 29) (atN rfl) (by kernel_rfl) (fun _ _ _ h => h) ?_ hHeld ?_; (· rfl)
                                                                          try simp only [Act.put, List.setIfInBounds_toArray, List.set_cons_zero, List.set_cons_succ]
                                                                          refine rgn (i := 30) (atN rfl) (by kernel_rfl) (fun _ _ _ h => h) ?_ hHeld ?_; (· rfl)
                                                                          try simp only [Act.put, List.setIfInBounds_toArray, List.set_cons_zero, List.set_cons_succ]
                                                                          refine rgn (i := 31) (atN rfl) (by kernel_rfl) (fun _ _ _ h => h) ?_ hHeld ?_; (· rfl)
                                                                          try simp only [Act.put, List.setIfInBounds_toArray, List.set_cons_zero, List.set_cons_succ]
                                                                          refine rgn (i := 32) (atN rfl) (by kernel_rfl) (fun _ _ _ h => h) ?_ hHeld ?_; (· rfl)
                                                                          try simp only [Act.put, List.setIfInBounds_toArray, List.set_cons_zero, List.set_cons_succ]
                                                                          refine rgn (i := 33) (atN rfl) (by kernel_rfl) (fun _ _ _ h => h) ?_ hHeld ?_; (· rfl)
                                                                          try simp only [Act.put, List.setIfInBounds_toArray, List.set_cons_zero, List.set_cons_succ]
                                                                          refine rgn (i := 34) (atN rfl) (by kernel_rfl) (fun _ _ _ h => h) ?_ hHeld ?_; (· rfl)
                                                                          try simp only [Act.put, List.setIfInBounds_toArray, List.set_cons_zero, List.set_cons_succ]
                                                                          refine rgn (i := 35) (atN rfl) (by kernel_rfl) (fun _ _ _ h => h) ?_ hHeld ?_; (· rfl)
                                                                          try simp only [Act.put, List.setIfInBounds_toArray, List.set_cons_zero, List.set_cons_succ]
                                                                          refine rgn (i := 36) (atN rfl) (by kernel_rfl) (fun _ _ _ h => h) ?_ hHeld ?_; (· rfl)
                                                                          try simp only [Act.put, List.setIfInBounds_toArray, List.set_cons_zero, List.set_cons_succ]
                                                                          refine rgn (i := 37) (atN rfl) (by kernel_rfl) (fun _ _ _ h => h) ?_ hHeld ?_; (· rfl)
                                                                          try simp only [Act.put, List.setIfInBounds_toArray, List.set_cons_zero, List.set_cons_succ]
                                                                          refine rgn (i := 38) (atN rfl) (by kernel_rfl) (fun _ _ _ h => h) ?_ hHeld ?_; (· rfl)
                                                                          try simp only [Act.put, List.setIfInBounds_toArray, List.set_cons_zero, List.set_cons_succ]
                                                                          refine rgy (i := 39) (v := ?_) (atN rfl) (by kernel_rfl) (fun _ _ _ h => h) ?_ ?_ hHeld ?_; rotate_left 1; (· rfl); (· intro w' hSw; (try clear hHeld); go_simp; try with_reducible rfl)
                                                                          try simp only [Act.put, List.setIfInBounds_toArray, List.set_cons_zero, List.set_cons_succ]
                                                                          refine rgy (i := 40) (v := ?_) (atN rfl) (by kernel_rfl) (fun _ _ _ h => h) ?_ ?_ hHeld ?_; rotate_left 1; (· rfl); (· intro w' hSw; (try clear hHeld); go_simp; try with_reducible rfl)
                                                                          try simp only [Act.put, List.setIfInBounds_toArray, List.set_cons_zero, List.set_cons_succ]
                                                                          refine wpAnyH_done (by kernel_rfl) ?_ _
                                                                          have BV4 := Lib.hid (below_on BV3.out hHeld)
                                                                          clear hHeld
                                                                          go_wp2_with fail
                                                                          exact ⟨⟨k + 1, by omega, by go_num, BV4⟩, by simp [intOf]; omega⟩
                                                                    · as_aux_lemma =>
                                                                        -- HERE21
                                                                        obtain rfl : za = (ja : Int) := ZA.out.symm.trans fa
                                                                        obtain rfl : zb = (jb : Int) := ZB.out.symm.trans fb
                                                                        have hs : sameA ya.a yb.a = false := (turned_at TM.out ga gb).2 _ _ rfl rfl
                                                                        have a0 : decide ((ja : Int) < 0) = false := by simp
                                                                        have a1 : decide ((ja : Int) ≥ 0) = true := by simp
                                                                        have b0 : decide ((jb : Int) < 0) = false := by simp
                                                                        have b1 : decide ((jb : Int) ≥ 0) = true := by simp
                                                                        obtain ⟨gx, ox, rfl, hrx, -, hax, -⟩ := row_at (LC.out.below BV3.out).at hya
                                                                        obtain ⟨gy, oy, rfl, hry, -, hay, -⟩ := row_at (on_below RY.out BV3.out).self hyb
                                                                        have x0 : (0 : Int) ≤ (ja : Int) := by omega
                                                                        have x1 : (ja : Int) < (xs2.length : Int) := by have := (List.getElem?_eq_some_iff.1 hya).1; omega
                                                                        have y0 : (0 : Int) ≤ (jb : Int) := by omega
                                                                        have y1 : (jb : Int) < (ys.length : Int) := by have := (List.getElem?_eq_some_iff.1 hyb).1; omega
                                                                        have RXX := Lib.hid (ro_range hrx)
                                                                        have RYY := Lib.hid (ro_range hry)
                                                                        have SM := Lib.hid (fun W (hW : Below v3.heap.size v3 W) => av_Same ya.a yb.a ya.v yb.v W (hax.below hW) (hay.below hW))
                                                                        rw [hs] at SM
                                                                        clear ga fa gb fb hya hyap hyb hybp TM ZA ZB hs hrx hry hax hay
                                                                        by_cases hk0 : k = 0
                                                                        · subst hk0
                                                                          have g1 : decide (((0 : Nat) : Int) > 0) = false := rfl
                                                                          clear HP
                                                                          refine wp_region_held_drew (S := fun w' => Below v3.heap.size v3 w') (by kernel_rfl) ?_ (fun hHeld => ?_)
                                                                          · exact (Below.refl _ _).drew
                                                                          refine rgy (i := 0) (v := ?_) (atN rfl) (by kernel_rfl) (fun _ _ _ h => h) ?_ ?_ hHeld ?_; rotate_left 1; (· rfl); (· intro w' hSw; (try clear hHeld); go_simp; try with_reducible rfl)
                                                                          try simp only [Act.put, List.setIfInBounds_toArray, List.set_cons_zero, List.set_cons_succ]
                                                                          refine rgy (i := 1) (v := ?_) (atN rfl) (by kernel_rfl) (fun _ _ _ h => h) ?_ ?_ hHeld ?_; rotate_left 1; (· rfl); (· intro w' hSw; (try clear hHeld); go_simp; try with_reducible rfl)
                                                                          try simp only [Act.put, List.setIfInBounds_toArray, List.set_cons_zero, List.set_cons_succ]
                                                                          refine rgy (i := 2) (v := ?_) (atN rfl) (by kernel_rfl) (fun _ _ _ h => h) ?_ ?_ hHeld ?_; rotate_left 1; (· rfl); (· intro w' hSw; (try clear hHeld); go_simp; try with_reducible rfl)
                                                                          try simp only [Act.put, List.setIfInBounds_toArray, List.set_cons_zero, List.set_cons_succ]
                                                                          refine rgn (i := 3) (atN rfl) (by kernel_rfl) (fun _ _ _ h => h) ?_ hHeld ?_; (· rfl)
                                                                          try simp only [Act.put, List.setIfInBounds_toArray, List.set_cons_zero, List.set_cons_succ]
                                                                          refine rgn (i := 4) (atN rfl) (by kernel_rfl) (fun _ _ _ h => h) ?_ hHeld ?_; (· rfl)
                                                                          try simp only [Act.put, List.setIfInBounds_toArray, List.set_cons_zero, List.set_cons_succ]
                                                                          refine rgn (i := 5) (atN rfl) (by kernel_rfl) (fun _ _ _ h => h) ?_ hHeld ?_; (· rfl)
                                                                          try simp only [Act.put, List.setIfInBounds_toArray, List.set_cons_zero, List.set_cons_succ]
                                                                          refine rgn (i := 6) (atN rfl) (by kernel_rfl) (fun _ _ _ h => h) ?_ hHeld ?_; (· rfl)
                                                                          try simp only [Act.put, List.setIfInBounds_toArray, List.set_cons_zero, List.set_cons_succ]
                                                                          refine rgn (i := 7) (atN rfl) (by kernel_rfl) (fun _ _ _ h => h) ?_ hHeld ?_; (· rfl)
                                                                          try simp only [Act.put, List.setIfInBounds_toArray, List.set_cons_zero, List.set_cons_succ]
                                                                          refine rgn (i := 8) (atN rfl) (by kernel_rfl) (fun _ _ _ h => h) ?_ hHeld ?_; (· rfl)
                                                                          try simp only [Act.put, List.setIfInBounds_toArray, List.set_cons_zero, List.set_cons_succ]
                                                                          refine rgn (i := 9) (atN rfl) (by kernel_rfl) (fun _ _ _ h => h) ?_ hHeld ?_; (· rfl)
                                                                          try simp only [Act.put, List.setIfInBounds_toArray, List.set_cons_zero, List.set_cons_succ]
                                                                          refine rgn (i := 10) (atN rfl) (by kernel_rfl) (fun _ _ _ h => h) ?_ hHeld ?_; (· rfl)
                                                                          try simp only [Act.put, List.setIfInBounds_toArray, List.set_cons_zero, List.set_cons_succ]
                                                                          refine rgy (i := 11) (v := ?_) (atN rfl) (by kernel_rfl) (fun _ _ _ h => h) ?_ ?_ hHeld ?_; rotate_left 1; (· rfl); (· intro w' hSw; (try clear hHeld); go_simp; try with_reducible rfl)
                                                                          try simp only [Act.put, List.setIfInBounds_toArray, List.set_cons_zero, List.set_cons_succ]
                                                                          refine rgy (i := 12) (v := ?_) (atN rfl) (by kernel_rfl) (fun _ _ _ h => h) ?_ ?_ hHeld ?_; rotate_left 1; (· rfl); (· intro w' hSw; (try clear hHeld); go_simp; try with_reducible rfl)
                                                                          try simp only [Act.put, List.setIfInBounds_toArray, List.set_cons_zero, List.set_cons_succ]
                                                                          refine rgy (i := 13) (v := ?_) (atN rfl) (by kernel_rfl) (fun _ _ _ h => h) ?_ ?_ hHeld ?_; rotate_left 1; (· rfl); (· intro w' hSw; (try clear hHeld); go_simp; try with_reducible rfl)
                                                                          try simp only [Act.put, List.setIfInBounds_toArray, List.set_cons_zero, List.set_cons_succ]
                                                                          refine rgy (i := 14) (v := ?_) (atN rfl) (by kernel_rfl) (fun _ _ _ h => h) ?_ ?_ hHeld ?_; rotate_left 1; (· rfl); (· intro w' hSw; (try clear hHeld); go_simp; try with_reducible rfl)
                                                                          try simp only [Act.put, List.setIfInBounds_toArray, List.set_cons_zero, List.set_cons_succ]
                                                                          refine rgy (i := 15) (v := ?_) (atN rfl) (by kernel_rfl) (fun _ _ _ h => h) ?_ ?_ hHeld ?_; rotate_left 1; (· rfl); (· intro w' hSw; (try clear hHeld); go_simp; try with_reducible rfl)
                                                                          try simp only [Act.put, List.setIfInBounds_toArray, List.set_cons_zero, List.set_cons_succ]
                                                                          refine rgn (i := 16) (atN rfl) (by kernel_rfl) (fun _ _ _ h => h) ?_ hHeld ?_; (· rfl)
                                                                          try simp only [Act.put, List.setIfInBounds_toArray, List.set_cons_zero, List.set_cons_succ]
                                                                          refine rgn (i := 17) (atN rfl) (by kernel_rfl) (fun _ _ _ h => h) ?_ hHeld ?_; (· rfl)
                                                                          try simp only [Act.put, List.setIfInBounds_toArray, List.set_cons_zero, List.set_cons_succ]
                                                                          refine rgy (i := 18) (v := ?_) (atN rfl) (by kernel_rfl) (fun _ _ _ h => h) ?_ ?_ hHeld ?_; rotate_left 1; (· rfl); (· intro w' hSw; (try clear hHeld); go_simp; try with_reducible rfl)
                                                                          try simp only [Act.put, List.setIfInBounds_toArray, List.set_cons_zero, List.set_cons_succ]
                                                                          refine rgy (i := 19) (v := ?_) (atN rfl) (by kernel_rfl) (fun _ _ _ h => h) ?_ ?_ hHeld ?_; rotate_left 1; (· rfl); (· intro w' hSw; (try clear hHeld); go_simp; try with_reducible rfl)
                                                                          try simp only [Act.put, List.setIfInBounds_toArray, List.set_cons_zero, List.set_cons_succ]
                                                                          refine rgy (i := 20) (v := ?_) (atN rfl) (by kernel_rfl) (fun _ _ _ h => h) ?_ ?_ hHeld ?_; rotate_left 1; (· rfl); (· intro w' hSw; (try clear hHeld); go_simp; try with_reducible rfl)
                                                                          try simp only [Act.put, List.setIfInBounds_toArray, List.set_cons_zero, List.set_cons_succ]
                                                                          refine rgy (i := 21) (v := ?_) (atN rfl) (by kernel_rfl) (fun _ _ _ h => h) ?_ ?_ hHeld ?_; rotate_left 1; (· rfl); (· intro w' hSw; (try clear hHeld); go_simp; try with_reducible rfl)
                                                                          try simp only [Act.put, List.setIfInBounds_toArray, List.set_cons_zero, List.set_cons_succ]
                                                                          refine rgy (i := 22) (v := ?_) (atN rfl) (by kernel_rfl) (fun _ _ _ h => h) ?_ ?_ hHeld ?_; rotate_left 1; (· rfl); (· intro w' hSw; (try clear hHeld); go_simp; try with_reducible rfl)
                                                                          try simp only [Act.put, List.setIfInBounds_toArray, List.set_cons_zero, List.set_cons_succ]
                                                                          refine rgy (i := 23) (v := ?_) (atN rfl) (by kernel_rfl) (fun _ _ _ h => h) ?_ ?_ hHeld ?_; rotate_left 1; (· rfl); (· intro w' hSw; (try clear hHeld); go_simp; try with_reducible rfl)
                                                                          try simp only [Act.put, List.setIfInBounds_toArray, List.set_cons_zero, List.set_cons_succ]
                                                                          refine rgy (i := 24) (v := ?_) (atN rfl) (by kernel_rfl) (fun _ _ _ h => h) ?_ ?_ hHeld ?_; rotate_left 1; (· rfl); (· intro w' hSw; (try clear hHeld); go_simp; try with_reducible rfl)
                                                                          try simp only [Act.put, List.setIfInBounds_toArray, List.set_cons_zero, List.set_cons_succ]
                                                                          refine rgy (i := 25) (v := ?_) (atN rfl) (by kernel_rfl) (fun _ _ _ h => h) ?_ ?_ hHeld ?_; rotate_left 1; (· rfl); (· intro w' hSw; (try clear hHeld); go_simp; try with_reducible rfl)
                                                                          try simp only [Act.put, List.setIfInBounds_toArray, List.set_cons_zero, List.set_cons_succ]
                                                                          refine rgy (i := 26) (v := ?_) (atN rfl) (by kernel_rfl) (fun _ _ _ h => h) ?_ ?_ hHeld ?_; rotate_left 1; (· rfl); (· intro w' hSw; (try clear hHeld); go_simp; try with_reducible rfl)
                                                                          try simp only [Act.put, List.setIfInBounds_toArray, List.set_cons_zero, List.set_cons_succ]
                                                                          refine rgy (i := 27) (v := ?_) (atN rfl) (by kernel_rfl) (fun _ _ _ h => h) ?_ ?_ hHeld ?_; rotate_left 1; (· rfl); (· intro w' hSw; (try clear hHeld); go_simp; try with_reducible rfl)
                                                                          try simp only [Act.put, List.setIfInBounds_toArray, List.set_cons_zero, List.set_cons_succ]
                                                                          refine rgy (i := 28) (v := ?_) (atN rfl) (by kernel_rfl) (fun _ _ _ h => h) ?_ ?_ hHeld ?_; rotate_left 1; (· rfl); (· intro w' hSw; (try clear hHeld); go_simp; try with_reducible rfl)
                                                                          try simp only [Act.put, List.setIfInBounds_toArray, List.set_cons_zero, List.set_cons_succ]
                                                                          refine rgy (i := 29) (v := ?_) (atN rfl) (by kernel_rfl) (fun _ _ _ h => h) ?_ ?_ hHeld ?_; rotate_left 1; (· rfl); (· intro w' hSw; (try clear hHeld); go_simp; try with_reducible rfl)
                                                                          try simp only [Act.put, List.setIfInBounds_toArray, List.set_cons_zero, List.set_cons_succ]
                                                                          refine rgy (i := 30) (v := ?_) (atN rfl) (by kernel_rfl) (fun _ _ _ h => h) ?_ ?_ hHeld ?_; rotate_left 1; (· rfl); (· intro w' hSw; have c0 := cell_below c0 hSw; have c1 := cell_below c1 hSw; (try clear hHeld); go_simp; try with_reducible rfl)
                                                                          try simp only [Act.put, List.setIfInBounds_toArray, List.set_cons_zero, List.set_cons_succ]
                                                                          refine rgy (i := 31) (v := ?_) (atN rfl) (by kernel_rfl) (fun _ _ _ h => h) ?_ ?_ hHeld ?_; rotate_left 1; (· rfl); (· intro w' hSw; (try clear hHeld); go_simp; try with_reducible rfl)
                                                                          try simp only [Act.put, List.setIfInBounds_toArray, List.set_cons_zero, List.set_cons_succ]
                                                                          refine rgy (i := 32) (v := ?_) (atN rfl) (by kernel_rfl) (fun _ _ _ h => h) ?_ ?_ hHeld ?_; rotate_left 1; (· rfl); (· intro w' hSw; refine exec_ldm 35 (.tmp 261) ?_ gx (ox + ja * 12 + 2) ?_ ya.v.C.toList _ (range_belowR RXX.out hSw) Try.underlying35 rfl sz_avR <;> rfl)
                                                                          try simp only [Act.put, List.setIfInBounds_toArray, List.set_cons_zero, List.set_cons_succ]
                                                                          refine rgy (i := 33) (v := ?_) (atN rfl) (by kernel_rfl) (fun _ _ _ h => h) ?_ ?_ hHeld ?_; rotate_left 1; (· rfl); (· intro w' hSw; (try clear hHeld); go_simp; try with_reducible rfl)
                                                                          try simp only [Act.put, List.setIfInBounds_toArray, List.set_cons_zero, List.set_cons_succ]
                                                                          refine rgy (i := 34) (v := ?_) (atN rfl) (by kernel_rfl) (fun _ _ _ h => h) ?_ ?_ hHeld ?_; rotate_left 1; (· rfl); (· intro w' hSw; (try clear hHeld); go_simp; try with_reducible rfl)
                                                                          try simp only [Act.put, List.setIfInBounds_toArray, List.set_cons_zero, List.set_cons_succ]
                                                                          refine rgy (i := 35) (v := ?_) (atN rfl) (by kernel_rfl) (fun _ _ _ h => h) ?_ ?_ hHeld ?_; rotate_left 1; (· rfl); (· intro w' hSw; have c0 := cell_below c0 hSw; have c1 := cell_below c1 hSw; (try clear hHeld); go_simp; try with_reducible rfl)
                                                                          try simp only [Act.put, List.setIfInBounds_toArray, List.set_cons_zero, List.set_cons_succ]
                                                                          refine rgy (i := 36) (v := ?_) (atN rfl) (by kernel_rfl) (fun _ _ _ h => h) ?_ ?_ hHeld ?_; rotate_left 1; (· rfl); (· intro w' hSw; (try clear hHeld); go_simp; try with_reducible rfl)
                                                                          try simp only [Act.put, List.setIfInBounds_toArray, List.set_cons_zero, List.set_cons_succ]
                                                                          refine rgy (i := 37) (v := ?_) (atN rfl) (by kernel_rfl) (fun _ _ _ h => h) ?_ ?_ hHeld ?_; rotate_left 1; (· rfl); (· intro w' hSw; refine exec_ldm 35 (.tmp 266) ?_ gy (oy + jb * 12 + 2) ?_ yb.v.C.toList _ (range_belowR RYY.out hSw) Try.underlying35 rfl sz_avR <;> rfl)
                                                                          try simp only [Act.put, List.setIfInBounds_toArray, List.set_cons_zero, List.set_cons_succ]
                                                                          refine rg_call (i := 38) (atN rfl) (by kernel_rfl) ?_ (fun K hK => ?_); (· rfl); (try clear hb); go_simp; (refine (SM.out _ hHeld).mono ?_; rintro e w1 ⟨rfl, hb⟩); go_wp2_with fail; refine hK.out _ _ ?_ (fun hHeld => ?_); (· exact hHeld.trans (hb.mono hHeld.size)); clear hK K
                                                                          try simp only [Act.put, List.setIfInBounds_toArray, List.set_cons_zero, List.set_cons_succ]
                                                                          refine rgy (i := 39) (v := ?_) (atN rfl) (by kernel_rfl) (fun _ _ _ h => h) ?_ ?_ hHeld ?_; rotate_left 1; (· rfl); (· intro w' hSw; (try clear hHeld); go_simp; try with_reducible rfl)
                                                                          try simp only [Act.put, List.setIfInBounds_toArray, List.set_cons_zero, List.set_cons_succ]
                                                                          refine rgy (i := 40) (v := ?_) (atN rfl) (by kernel_rfl) (fun _ _ _ h => h) ?_ ?_ hHeld ?_; rotate_left 1; (· rfl); (· intro w' hSw; (try clear hHeld); go_simp; try with_reducible rfl)
                                                                          try simp only [Act.put, List.setIfInBounds_toArray, List.set_cons_zero, List.set_cons_succ]
                                                                          refine wpAnyH_done (by kernel_rfl) ?_ _
                                                                          have BV4 := Lib.hid (below_on BV3.out hHeld)
                                                                          clear hHeld
                                                                          go_wp2_with fail
                                                                          exact ⟨⟨0 + 1, by omega, by go_num, BV4⟩, by simp [intOf]; omega⟩
                                                                        · obtain ⟨i', hi'⟩ : ∃ i', k = i' + 1 := ⟨k - 1, by omega⟩
                                                                          have g1 : decide ((k : Int) > 0) = true := by simp; omega
                                                                          have g2 : decide (0 < k) = true := by simp; omega
                                                                          obtain ⟨q, hq⟩ : ∃ q, r2[i']? = some q := ⟨_, List.getElem?_eq_getElem (by omega)⟩
                                                                          have cz : decide (pcmp q p ≥ 0) = false := pcmp_lessR (srt_lt TSRT.out hq HP.out (by omega))
                                                                          obtain ⟨g3, o3, d0, d1, e3, ⟨hqc, -⟩, u0, u1⟩ := pair_at (TC.out.below BV3.out).at hq
                                                                          injection hqc with q1 q2; injection q2 with q2 _; subst q1; subst q2
                                                                          injection e3 with e3; injection e3 with e3 e4 _; subst e3; subst e4
                                                                          have CC := Lib.hid (fun W => ps_Cmp q p W)
                                                                          have wj : IntKind.i64.wrap ((k : Int) - 1) = (i' : Int) := by rw [IntWalk.i64_in _ (by omega)]; omega
                                                                          have j0 : (0 : Int) ≤ (i' : Int) := by omega
                                                                          have j1 : (i' : Int) < (r2.length : Int) := by omega
                                                                          generalize pcmp q p = cm at cz CC
                                                                          clear hk0 hi' hq HP TSRT
                                                                          refine wp_region_held_drew (S := fun w' => Below v3.heap.size v3 w') (by kernel_rfl) ?_ (fun hHeld => ?_)
                                                                          · exact (Below.refl _ _).drew
                                                                          refine rgy (i := 0) (v := ?_) (atN rfl) (by kernel_rfl) (fun _ _ _ h => h) ?_ ?_ hHeld ?_; rotate_left 1; (· rfl); (· intro w' hSw; (try clear hHeld); go_simp; try with_reducible rfl)
                                                                          try simp only [Act.put, List.setIfInBounds_toArray, List.set_cons_zero, List.set_cons_succ]
                                                                          refine rgy (i := 1) (v := ?_) (atN rfl) (by kernel_rfl) (fun _ _ _ h => h) ?_ ?_ hHeld ?_; rotate_left 1; (· rfl); (· intro w' hSw; (try clear hHeld); go_simp; try with_reducible rfl)
                                                                          try simp only [Act.put, List.setIfInBounds_toArray, List.set_cons_zero, List.set_cons_succ]
                                                                          refine rgy (i := 2) (v := ?_) (atN rfl) (by kernel_rfl) (fun _ _ _ h => h) ?_ ?_ hHeld ?_; rotate_left 1; (· rfl); (· intro w' hSw; (try clear hHeld); go_simp; try with_reducible rfl)
                                                                          try simp only [Act.put, List.setIfInBounds_toArray, List.set_cons_zero, List.set_cons_succ]
                                                                          refine rgy (i := 3) (v := ?_) (atN rfl) (by kernel_rfl) (fun _ _ _ h => h) ?_ ?_ hHeld ?_; rotate_left 1; (· rfl); (· intro w' hSw; (try clear hHeld); go_simp; try with_reducible rfl)
                                                                          try simp only [Act.put, List.setIfInBounds_toArray, List.set_cons_zero, List.set_cons_succ]
                                                                          refine rgy (i := 4) (v := ?_) (atN rfl) (by kernel_rfl) (fun _ _ _ h => h) ?_ ?_ hHeld ?_; rotate_left 1; (· rfl); (· intro w' hSw; (try clear hHeld); go_simp; try with_reducible rfl)
                                                                          try simp only [Act.put, List.setIfInBounds_toArray, List.set_cons_zero, List.set_cons_succ]
                                                                          refine rgy (i := 5) (v := ?_) (atN rfl) (by kernel_rfl) (fun _ _ _ h => h) ?_ ?_ hHeld ?_; rotate_left 1; (· rfl); (· intro w' hSw; (try clear hHeld); go_simp; try with_reducible rfl)
                                                                          try simp only [Act.put, List.setIfInBounds_toArray, List.set_cons_zero, List.set_cons_succ]
                                                                          refine rgy (i := 6) (v := ?_) (atN rfl) (by kernel_rfl) (fun _ _ _ h => h) ?_ ?_ hHeld ?_; rotate_left 1; (· rfl); (· intro w' hSw; have c0 := cell_below c0 hSw; have c1 := cell_below c1 hSw; have u0 := cell_below u0 hSw; have u1 := cell_below u1 hSw; (try clear hHeld); go_simp; try with_reducible rfl)
                                                                          try simp only [Act.put, List.setIfInBounds_toArray, List.set_cons_zero, List.set_cons_succ]
                                                                          refine rgy (i := 7) (v := ?_) (atN rfl) (by kernel_rfl) (fun _ _ _ h => h) ?_ ?_ hHeld ?_; rotate_left 1; (· rfl); (· intro w' hSw; have c0 := cell_below c0 hSw; have c1 := cell_below c1 hSw; have u0 := cell_below u0 hSw; have u1 := cell_below u1 hSw; (try clear hHeld); go_simp; try with_reducible rfl)
                                                                          try simp only [Act.put, List.setIfInBounds_toArray, List.set_cons_zero, List.set_cons_succ]
                                                                          refine rgy (i := 8) (v := ?_) (atN rfl) (by kernel_rfl) (fun _ _ _ h => h) ?_ ?_ hHeld ?_; rotate_left 1; (· rfl); (· intro w' hSw; have c0 := cell_below c0 hSw; have c1 := cell_below c1 hSw; have u0 := cell_below u0 hSw; have u1 := cell_below u1 hSw; (try clear hHeld); go_simp; try with_reducible rfl)
                                                                          try simp only [Act.put, List.setIfInBounds_toArray, List.set_cons_zero, List.set_cons_succ]
                                                                          refine rg_call (i := 9) (atN rfl) (by kernel_rfl) ?_ (fun K hK => ?_); (· rfl); (try clear hb); go_simp; (refine (CC.out _).mono ?_; rintro e w1 ⟨rfl, hb⟩); go_wp2_with fail; refine hK.out _ _ ?_ (fun hHeld => ?_); (· exact hHeld.trans (hb.mono hHeld.size)); clear hK K
                                                                          try simp only [Act.put, List.setIfInBounds_toArray, List.set_cons_zero, List.set_cons_succ]
                                                                          refine rgy (i := 10) (v := ?_) (atN rfl) (by kernel_rfl) (fun _ _ _ h => h) ?_ ?_ hHeld ?_; rotate_left 1; (· rfl); (· intro w' hSw; (try clear hHeld); go_simp; try with_reducible rfl)
                                                                          try simp only [Act.put, List.setIfInBounds_toArray, List.set_cons_zero, List.set_cons_succ]
                                                                          refine rgy (i := 11) (v := ?_) (atN rfl) (by kernel_rfl) (fun _ _ _ h => h) ?_ ?_ hHeld ?_; rotate_left 1; (· rfl); (· intro w' hSw; (try clear hHeld); go_simp; try with_reducible rfl)
                                                                          try simp only [Act.put, List.setIfInBounds_toArray, List.set_cons_zero, List.set_cons_succ]
                                                                          refine rgy (i := 12) (v := ?_) (atN rfl) (by kernel_rfl) (fun _ _ _ h => h) ?_ ?_ hHeld ?_; rotate_left 1; (· rfl); (· intro w' hSw; (try clear hHeld); go_simp; try with_reducible rfl)
                                                                          try simp only [Act.put, List.setIfInBounds_toArray, List.set_cons_zero, List.set_cons_succ]
                                                                          refine rgy (i := 13) (v := ?_) (atN rfl) (by kernel_rfl) (fun _ _ _ h => h) ?_ ?_ hHeld ?_; rotate_left 1; (· rfl); (· intro w' hSw; (try clear hHeld); go_simp; try with_reducible rfl)
                                                                          try simp only [Act.put, List.setIfInBounds_toArray, List.set_cons_zero, List.set_cons_succ]
                                                                          refine rgy (i := 14) (v := ?_) (atN rfl) (by kernel_rfl) (fun _ _ _ h => h) ?_ ?_ hHeld ?_; rotate_left 1; (· rfl); (· intro w' hSw; (try clear hHeld); go_simp; try with_reducible rfl)
                                                                          try simp only [Act.put, List.setIfInBounds_toArray, List.set_cons_zero, List.set_cons_succ]
                                                                          refine rgy (i := 15) (v := ?_) (atN rfl) (by kernel_rfl) (fun _ _ _ h => h) ?_ ?_ hHeld ?_; rotate_left 1; (· rfl); (· intro w' hSw; (try clear hHeld); go_simp; try with_reducible rfl)
                                                                          try simp only [Act.put, List.setIfInBounds_toArray, List.set_cons_zero, List.set_cons_succ]
                                                                          refine rgn (i := 16) (atN rfl) (by kernel_rfl) (fun _ _ _ h => h) ?_ hHeld ?_; (· rfl)
                                                                          try simp only [Act.put, List.setIfInBounds_toArray, List.set_cons_zero, List.set_cons_succ]
                                                                          refine rgn (i := 17) (atN rfl) (by kernel_rfl) (fun _ _ _ h => h) ?_ hHeld ?_; (· rfl)
                                                                          try simp only [Act.put, List.setIfInBounds_toArray, List.set_cons_zero, List.set_cons_succ]
                                                                          refine rgy (i := 18) (v := ?_) (atN rfl) (by kernel_rfl) (fun _ _ _ h => h) ?_ ?_ hHeld ?_; rotate_left 1; (· rfl); (· intro w' hSw; (try clear hHeld); go_simp; try with_reducible rfl)
                                                                          try simp only [Act.put, List.setIfInBounds_toArray, List.set_cons_zero, List.set_cons_succ]
                                                                          refine rgy (i := 19) (v := ?_) (atN rfl) (by kernel_rfl) (fun _ _ _ h => h) ?_ ?_ hHeld ?_; rotate_left 1; (· rfl); (· intro w' hSw; (try clear hHeld); go_simp; try with_reducible rfl)
                                                                          try simp only [Act.put, List.setIfInBounds_toArray, List.set_cons_zero, List.set_cons_succ]
                                                                          refine rgy (i := 20) (v := ?_) (atN rfl) (by kernel_rfl) (fun _ _ _ h => h) ?_ ?_ hHeld ?_; rotate_left 1; (· rfl); (· intro w' hSw; (try clear hHeld); go_simp; try with_reducible rfl)
                                                                          try simp only [Act.put, List.setIfInBounds_toArray, List.set_cons_zero, List.set_cons_succ]
                                                                          refine rgy (i := 21) (v := ?_) (atN rfl) (by kernel_rfl) (fun _ _ _ h => h) ?_ ?_ hHeld ?_; rotate_left 1; (· rfl); (· intro w' hSw; (try clear hHeld); go_simp; try with_reducible rfl)
                                                                          try simp only [Act.put, List.setIfInBounds_toArray, List.set_cons_zero, List.set_cons_succ]
                                                                          refine rgy (i := 22) (v := ?_) (atN rfl) (by kernel_rfl) (fun _ _ _ h => h) ?_ ?_ hHeld ?_; rotate_left 1; (· rfl); (· intro w' hSw; (try clear hHeld); go_simp; try with_reducible rfl)
                                                                          try simp only [Act.put, List.setIfInBounds_toArray, List.set_cons_zero, List.set_cons_succ]
                                                                          refine rgy (i := 23) (v := ?_) (atN rfl) (by kernel_rfl) (fun _ _ _ h => h) ?_ ?_ hHeld ?_; rotate_left 1; (· rfl); (· intro w' hSw; (try clear hHeld); go_simp; try with_reducible rfl)
                                                                          try simp only [Act.put, List.setIfInBounds_toArray, List.set_cons_zero, List.set_cons_succ]
                                                                          refine rgy (i := 24) (v := ?_) (atN rfl) (by kernel_rfl) (fun _ _ _ h => h) ?_ ?_ hHeld ?_; rotate_left 1; (· rfl); (· intro w' hSw; (try clear hHeld); go_simp; try with_reducible rfl)
                                                                          try simp only [Act.put, List.setIfInBounds_toArray, List.set_cons_zero, List.set_cons_succ]
                                                                          refine rgy (i := 25) (v := ?_) (atN rfl) (by kernel_rfl) (fun _ _ _ h => h) ?_ ?_ hHeld ?_; rotate_left 1; (· rfl); (· intro w' hSw; (try clear hHeld); go_simp; try with_reducible rfl)
                                                                          try simp only [Act.put, List.setIfInBounds_toArray, List.set_cons_zero, List.set_cons_succ]
                                                                          refine rgy (i := 26) (v := ?_) (atN rfl) (by kernel_rfl) (fun _ _ _ h => h) ?_ ?_ hHeld ?_; rotate_left 1; (· rfl); (· intro w' hSw; (try clear hHeld); go_simp; try with_reducible rfl)
                                                                          try simp only [Act.put, List.setIfInBounds_toArray, List.set_cons_zero, List.set_cons_succ]
                                                                          refine rgy (i := 27) (v := ?_) (atN rfl) (by kernel_rfl) (fun _ _ _ h => h) ?_ ?_ hHeld ?_; rotate_left 1; (· rfl); (· intro w' hSw; (try clear hHeld); go_simp; try with_reducible rfl)
                                                                          try simp only [Act.put, List.setIfInBounds_toArray, List.set_cons_zero, List.set_cons_succ]
                                                                          refine rgy (i := 28) (v := ?_) (atN rfl) (by kernel_rfl) (fun _ _ _ h => h) ?_ ?_ hHeld ?_; rotate_left 1; (· rfl); (· intro w' hSw; (try clear hHeld); go_simp; try with_reducible rfl)
                                                                          try simp only [Act.put, List.setIfInBounds_toArray, List.set_cons_zero, List.set_cons_succ]
                                                                          refine rgy (i := 29) (v := ?_) (atN rfl) (by kernel_rfl) (fun _ _ _ h => h) ?_ ?_ hHeld ?_; rotate_left 1; (· rfl); (· intro w' hSw; (try clear hHeld); go_simp; try with_reducible rfl)
                                                                          try simp only [Act.put, List.setIfInBounds_toArray, List.set_cons_zero, List.set_cons_succ]
                                                                          refine rgy (i := 30) (v := ?_) (atN rfl) (by kernel_rfl) (fun _ _ _ h => h) ?_ ?_ hHeld ?_; rotate_left 1; (· rfl); (· intro w' hSw; have c0 := cell_below c0 hSw; have c1 := cell_below c1 hSw; have u0 := cell_below u0 hSw; have u1 := cell_below u1 hSw; (try clear hHeld); go_simp; try with_reducible rfl)
                                                                          try simp only [Act.put, List.setIfInBounds_toArray, List.set_cons_zero, List.set_cons_succ]
                                                                          refine rgy (i := 31) (v := ?_) (atN rfl) (by kernel_rfl) (fun _ _ _ h => h) ?_ ?_ hHeld ?_; rotate_left 1; (· rfl); (· intro w' hSw; (try clear hHeld); go_simp; try with_reducible rfl)
                                                                          try simp only [Act.put, List.setIfInBounds_toArray, List.set_cons_zero, List.set_cons_succ]
                                                                          refine rgy (i := 32) (v := ?_) (atN rfl) (by kernel_rfl) (fun _ _ _ h => h) ?_ ?_ hHeld ?_; rotate_left 1; (· rfl); (· intro w' hSw; refine exec_ldm 35 (.tmp 261) ?_ gx (ox + ja * 12 + 2) ?_ ya.v.C.toList _ (range_belowR RXX.out hSw) Try.underlying35 rfl sz_avR <;> rfl)
                                                                          try simp only [Act.put, List.setIfInBounds_toArray, List.set_cons_zero, List.set_cons_succ]
                                                                          refine rgy (i := 33) (v := ?_) (atN rfl) (by kernel_rfl) (fun _ _ _ h => h) ?_ ?_ hHeld ?_; rotate_left 1; (· rfl); (· intro w' hSw; (try clear hHeld); go_simp; try with_reducible rfl)
                                                                          try simp only [Act.put, List.setIfInBounds_toArray, List.set_cons_zero, List.set_cons_succ]
                                                                          refine rgy (i := 34) (v := ?_) (atN rfl) (by kernel_rfl) (fun _ _ _ h => h) ?_ ?_ hHeld ?_; rotate_left 1; (· rfl); (· intro w' hSw; (try clear hHeld); go_simp; try with_reducible rfl)
                                                                          try simp only [Act.put, List.setIfInBounds_toArray, List.set_cons_zero, List.set_cons_succ]
                                                                          refine rgy (i := 35) (v := ?_) (atN rfl) (by kernel_rfl) (fun _ _ _ h => h) ?_ ?_ hHeld ?_; rotate_left 1; (· rfl); (· intro w' hSw; have c0 := cell_below c0 hSw; have c1 := cell_below c1 hSw; have u0 := cell_below u0 hSw; have u1 := cell_below u1 hSw; (try clear hHeld); go_simp; try with_reducible rfl)
                                                                          try simp only [Act.put, List.setIfInBounds_toArray, List.set_cons_zero, List.set_cons_succ]
                                                                          refine rgy (i := 36) (v := ?_) (atN rfl) (by kernel_rfl) (fun _ _ _ h => h) ?_ ?_ hHeld ?_; rotate_left 1; (· rfl); (· intro w' hSw; (try clear hHeld); go_simp; try with_reducible rfl)
                                                                          try simp only [Act.put, List.setIfInBounds_toArray, List.set_cons_zero, List.set_cons_succ]
                                                                          refine rgy (i := 37) (v := ?_) (atN rfl) (by kernel_rfl) (fun _ _ _ h => h) ?_ ?_ hHeld ?_; rotate_left 1; (· rfl); (· intro w' hSw; refine exec_ldm 35 (.tmp 266) ?_ gy (oy + jb * 12 + 2) ?_ yb.v.C.toList _ (range_belowR RYY.out hSw) Try.underlying35 rfl sz_avR <;> rfl)
                                                                          try simp only [Act.put, List.setIfInBounds_toArray, List.set_cons_zero, List.set_cons_succ]
                                                                          refine rg_call (i := 38) (atN rfl) (by kernel_rfl) ?_ (fun K hK => ?_); (· rfl); (try clear hb); go_simp; (refine (SM.out _ hHeld).mono ?_; rintro e w1 ⟨rfl, hb⟩); go_wp2_with fail; refine hK.out _ _ ?_ (fun hHeld => ?_); (· exact hHeld.trans (hb.mono hHeld.size)); clear hK K
                                                                          try simp only [Act.put, List.setIfInBounds_toArray, List.set_cons_zero, List.set_cons_succ]
                                                                          refine rgy (i := 39) (v := ?_) (atN rfl) (by kernel_rfl) (fun _ _ _ h => h) ?_ ?_ hHeld ?_; rotate_left 1; (· rfl); (· intro w' hSw; (try clear hHeld); go_simp; try with_reducible rfl)
                                                                          try simp only [Act.put, List.setIfInBounds_toArray, List.set_cons_zero, List.set_cons_succ]
                                                                          refine rgy (i := 40) (v := ?_) (atN rfl) (by kernel_rfl) (fun _ _ _ h => h) ?_ ?_ hHeld ?_; rotate_left 1; (· rfl); (· intro w' hSw; (try clear hHeld); go_simp; try with_reducible rfl)
                                                                          try simp only [Act.put, List.setIfInBounds_toArray, List.set_cons_zero, List.set_cons_succ]
                                                                          refine wpAnyH_done (by kernel_rfl) ?_ _
                                                                          have BV4 := Lib.hid (below_on BV3.out hHeld)
                                                                          clear hHeld
                                                                          go_wp2_with fail
                                                                          exact ⟨⟨k + 1, by omega, by go_num, BV4⟩, by simp [intOf]; omega⟩
                                                                · as_aux_lemma =>
                                                                    -- HERE22
                                                                    obtain rfl : k = r2.length := by omega
                                                                    have LD := Lib.hid (LC.out.below BV.out)
                                                                    have RYD := Lib.hid (on_below RY.out BV.out)
                                                                    clear d0
                                                                    go_wp2_with fail
                                                                    refine MEET.out _ _ s4 c4 ys ?_ ?_ ⟨LD.out.lr, RYD.out⟩ RELN.out
                                                                    · kernel_rfl
                                                                    · rfl
                    · as_aux_lemma =>
                        have e : ((r1, r2, r3) : Int × List Pf × Rts) = (1, [], R2) := by rw [← HR.out]; unfold updP; rw [if_neg hk2]
                        injection e with e1 e2
                        injection e2 with e2 e3
                        subst e1; subst e2; subst e3
                        have k1 : (x.m.kind != 2) = true := by simpa using hk2
                        go_wp2_with fail
                        refine NXT.out _ w8 r3 F8 s2 c2 xs2 hl20 ?_ ?_ ?_ L8.out REL.out
                        · kernel_rfl
                        · rfl
                        · rfl
end Go.Proofs.Ytadlecnlgkhneaa
