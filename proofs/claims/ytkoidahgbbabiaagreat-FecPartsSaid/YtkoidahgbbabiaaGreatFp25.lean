/- Texts of one proof, one behind another. -/
import Derived.Test.YtkoidahgbbabiaaGreatFp24
import Derived.Test.YtkoidahgbbabiaaGreatFp1
namespace Go.Proofs.YtkoidahgbbabiaaGreat
open Go.RowKit
theorem at7_at {W : World} {b ib : Nat} (h1 : W.heap[b]? = some (.cells #[.bool false, .slice (some ⟨ib, 0, none⟩) 1 1] 121 (0, 0))) (h2 : W.heap[ib]? = some (.cells #[.int .i64 7] 3 (0, 0))) : AvAt W at7 (avH b) := by
 refine ⟨some ⟨b, 0, none⟩, 1, none, 0, none, 0, rfl, ?_, SlAt.nil, SlAt.nil⟩
 refine ⟨_, 1, rfl, Nat.le_refl _, by simp [maxLen], fun _ => ⟨b, 0, rfl, fun i x hx => ?_⟩⟩
 obtain ⟨rfl, rfl⟩ : i = 0 ∧ x = (false, [7]) := by
  have h := (List.getElem?_eq_some_iff.1 hx).1
  simp [at7] at h
  subst h
  simp [at7] at hx
  exact ⟨rfl, hx.symm⟩
 refine ⟨[.bool false, .slice (some ⟨ib, 0, none⟩) 1 1], rfl, ⟨_, rfl, ?_⟩, fun j u hu => ?_⟩
 ·refine ⟨_, 1, rfl, Nat.le_refl _, by simp [maxLen], fun _ => ⟨ib, 0, rfl, fun i x hx => ?_⟩⟩
  match i, hx with
  | 0, hx =>
   simp at hx
   subst hx
   refine ⟨[.int .i64 7], rfl, ⟨rfl, by unfold I64r; omega⟩, fun j u hu => ?_⟩
   rw [jB h2]
   simpa using hu
 ·rw [jB h1]
  simpa using hu
theorem msg_built (b : Nat) (s : Option Addr) (n c : Nat) : Tryz.prog.built 46 [(0, .int .i64 2), (7, .slice s n c), (6, .agg (avH b).C)] = some (MV.C ⟨2, 0, 0, 0, none, 0, 0, none, 0, 0, avH b, s, n, c, 0, 0, ⟨#[]⟩⟩) := by kernel_rfl
theorem said_built (i : Int) (m : MV) (gone nets : List Pf) (a : At) : Tryz.prog.built 183 [(0, .int .i64 i), (3, .agg m.C)] = some (Stp.C21 ⟨0, i, 0, false, ⟨m, gone, nets, a⟩⟩) := by kernel_rfl
theorem info_said : (Tryz.prog.info? 183).map (fun i => (i.zero, i.size, i.bytes)) = some (some (.agg #[.int .i64 0, .int .i64 0, .bool false, .int .i64 0, .int .i64 0, .int .i64 0, .int .u32 0, .slice none 0 0, .slice none 0 0, .int .i64 0, .int .i64 0, .slice none 0 0, .int .u32 0, .int .i64 0, .int .i64 0, .int .i64 0, .int .u32 0, .slice none 0 0, .slice none 0 0, .slice none 0 0, .int .i64 0, .int .i64 0, .string ⟨#[]⟩]), 23, 288) := by kernel_rfl
theorem wp_sd2 {o : Oper} {a : Act} {w : World} {K : Act → World → Prop} {Q : Exit → Act → World → Prop} (x0 x1 : Operand) (ho : o.op = .buildSlice 110 2 #[(0, x0), (1, x1)]) (x y : Stp) (hx : a.eval x0 = .agg x.C21) (hy : a.eval x1 = .agg y.C21)
  (h : ∀ w2 : World, (∀ (j : Nat) (u : Value), (x.C21.toList ++ y.C21.toList)[j]? = some u → w2.cell? ((⟨w.heap.size, 0, none⟩ : Addr).add j) = some u) → Below w.heap.size w w2 → K (a.put o.dst (.slice (some ⟨w.heap.size, 0, none⟩) 2 2)) w2) : o.wp Tryz.prog a w K Q := by
 obtain ⟨i0, hii, hz0, hz1, hz2⟩ := info_parts info_said
 refine wp_buildSlice 110 183 2 _ ho (x.C21 ++ y.C21) i0 _ Tryz.underlying110 hii hz0 (by rw [hz1]; decide) (by rw [hz1]; decide) ?_ (h _ ?_ ((Below.refl _ _).alloc (Nat.le_refl _) _))
 ·rw [hz1]
  simp only [List.map_toArray, List.map_cons, List.map_nil, hx, hy]
  kernel_rfl
 ·intro j u hu
  exact new_cells w (x.C21 ++ y.C21) 183 j u (by simpa using hu)
theorem pf2_at {V : World} {g : Nat} {T : TypeId} (x y : Pf) (hx : OkP x) (hy : OkP y) (q : V.heap[g]? = some (.cells #[.int .u32 x.1, .int .i64 x.2, .int .u32 y.1, .int .i64 y.2] T (0, 0))) : PsAt V (.slice (some ⟨g, 0, none⟩) 2 2) [x, y] := by
 refine ⟨_, 2, rfl, Nat.le_refl _, by simp [maxLen], fun _ => ⟨g, 0, rfl, fun i z hz => ?_⟩⟩
 match i, hz with
 | 0, hz =>
  simp at hz
  subst hz
  refine ⟨encP x, rfl, ⟨rfl, hx⟩, fun j c hc => ?_⟩
  rw [jB q]
  match j, hc with
  | 0, hc => simpa [encP] using hc
  | 1, hc => simpa [encP] using hc
 | 1, hz =>
  simp at hz
  subst hz
  refine ⟨encP y, rfl, ⟨rfl, hy⟩, fun j c hc => ?_⟩
  rw [jB q]
  match j, hc with
  | 0, hc => simpa [encP] using hc
  | 1, hc => simpa [encP] using hc
theorem pf2_k {W : World} {p : World → Prop} {x y : Pf} {T : TypeId} (hx : OkP x) (hy : OkP y) (h : ∀ w1 : World, Fresh W.heap.size w1 (fun V => PsAt V (.slice (some ⟨W.heap.size, 0, none⟩) 2 2) [x, y]) → Below W.heap.size W w1 → p w1) : p (W.alloc (.cells #[.int .u32 x.1, .int .i64 x.2, .int .u32 y.1, .int .i64 y.2] T)) :=
 h _ (fun V hV => pf2_at x y hx hy (by rw [hV _ (Nat.le_refl _) (by simp)]; exact heap_alloc_new W _)) ((Below.refl _ _).alloc (Nat.le_refl _) _)
theorem pf1_k {W : World} {p : World → Prop} {x : Pf} {T : TypeId} (hx : OkP x) (h : ∀ w1 : World, Fresh W.heap.size w1 (fun V => PsAt V (.slice (some ⟨W.heap.size, 0, none⟩) 1 1) [x]) → Below W.heap.size W w1 → p w1) : p (W.alloc (.cells #[.int .u32 x.1, .int .i64 x.2] T)) :=
 h _ (one_fresh W x T hx) ((Below.refl _ _).alloc (Nat.le_refl _) _)
theorem saids_two {W : World} {g : Nat} {s s' : Option Addr} {c c' b : Nat} (hc : ∀ (j : Nat) (u : Value), ((hX0 s c b).C21.toList ++ (hX1 s' c' b).C21.toList)[j]? = some u → W.cell? ((⟨g, 0, none⟩ : Addr).add j) = some u) (fa : PsAt W (.slice s 2 c) [netP 1, netP 2]) (fb : PsAt W (.slice s' 1 c') [netP 2]) (ha : AvAt W at7 (avH b)) :
  SaidsAt W (.slice (some ⟨g, 0, none⟩) 2 2) [hX0 s c b, hX1 s' c' b] := by
 have hcell : ∀ (j : Nat) (u : Value), ((hX0 s c b).C21.toList ++ (hX1 s' c' b).C21.toList)[j]? = some u → W.cell? ⟨g, j, none⟩ = some u := fun j u hu => by
  have := hc j u hu
  unfold Addr.add at this
  split at this
  ·rename_i e; subst e; exact this
  ·simpa using this
 refine ⟨_, 2, rfl, Nat.le_refl _, by simp [maxLen], fun _ => ⟨g, 0, rfl, fun i z hz => ?_⟩⟩
 match i, hz with
 | 0, hz =>
  simp at hz
  subst hz
  refine ⟨(hX0 s c b).C21.toList, rfl, ⟨rfl, ⟨by simp [I64r], by simp [I64r], by simp [I64r]⟩, ⟨SlAt.nil, fa, ha⟩⟩, fun j u hu => ?_⟩
  have := hcell j u (by rw [List.getElem?_append_left (List.getElem?_eq_some_iff.1 hu).1]; exact hu)
  simpa using this
 | 1, hz =>
  simp at hz
  subst hz
  refine ⟨(hX1 s' c' b).C21.toList, rfl, ⟨rfl, ⟨by simp [I64r], by simp [I64r], by simp [I64r]⟩, ⟨SlAt.nil, fb, ha⟩⟩, fun j u hu => ?_⟩
  have := hcell (23 + j) u (by
   rw [List.getElem?_append_right (by show 23 ≤ 23 + j; omega)]
   show (hX1 s' c' b).C21.toList[23 + j - 23]? = some u
   rw [show 23 + j - 23 = j by omega]; exact hu)
  simpa using this
theorem cl_at {w : World} {s : Option Addr} {n c : Nat} {xs : List Cls} (h : SlAt w 4 (fun x cs => cs = clL x) (.slice s n c) xs) {i : Nat} {x : Cls} (hx : xs[i]? = some x) : ∃ g o, s = some ⟨g, o, none⟩ ∧ w.rangeAt g (o + i * 4) (clL x) := by
 obtain ⟨s', c', e, h1, h2, h3⟩ := h
 injection e with e _ _
 subst e
 have hi := (List.getElem?_eq_some_iff.1 hx).1
 obtain ⟨b, off, rfl, h4⟩ := h3 (by omega)
 obtain ⟨cs, -, rfl, hc⟩ := h4 i x hx
 exact ⟨b, off, rfl, fun j v hv => hc j v hv⟩
theorem ms7 (s s' : Option Addr) (c c' b : Nat) : ∀ x ∈ [hX0 s c b, hX1 s' c' b], MsSz x.x := by
 have h : AtSz at7 ∧ at7.Rng := by
  refine ⟨⟨?_, ?_, ?_, ?_, ?_⟩, ⟨?_, ?_, ?_, ?_, ?_, ?_, ?_⟩⟩ <;> simp [at7, SgSz, I64r]
 intro x hx
 simp at hx
 rcases hx with rfl | rfl <;> exact ⟨h.1, h.2⟩
set_option maxHeartbeats 6400000 in
set_option maxRecDepth 100000 in
theorem law_head21 (w : World) : Calls Tryz.prog 47 #[] w fun e w' => e = .returned (.bool true) ∧ Below w.heap.size w w' := by
 have n1 := jh (l_net21 1 (by decide))
 have n2 := jh (l_net21 2 (by decide))
 go_enter Tryz.func47, Tryz.ntmps47
 go_upto_region 2 with (fail)
 obtain ⟨w0, hw0⟩ : ∃ w0, w0 = (((w.alloc (.cells #[.int .i64 7] 3)).alloc (.cells #[.bool false, .slice (some ⟨w.heap.size, 0, none⟩) 1 1] 121)).alloc (.cells (avH (w.heap.size + 1)).C 42)) := ⟨_, rfl⟩
 rw [show (((w.alloc (.cells #[.int .i64 7] 3)).alloc (.cells #[.bool false, .slice (some ⟨w.heap.size, 0, none⟩) 1 1] 121)).alloc (.cells #[.int .i64 14, .int .i64 0, .slice (some ⟨w.heap.size + 1, 0, none⟩) 1 1, .int .u32 167772161, .int .i64 0, .int .i64 0, .int .i64 0, .int .u32 0, .slice none 0 0, .slice none 0 0] 42)) = w0 from hw0.symm]
 have H0 : Hid (w0.heap[w.heap.size + 1 + 1]? = some (.cells (avH (w.heap.size + 1)).C 42 (0, 0)) ∧ AvAt w0 at7 (avH (w.heap.size + 1)) ∧ Below w.heap.size w w0) := jh (by
  have b1 : Below w.heap.size w (w.alloc (.cells #[.int .i64 7] 3)) := (Below.refl _ _).alloc (Nat.le_refl _) _
  have q1 := heap_alloc_new w (.cells #[.int .i64 7] 3)
  have b2 : Below (w.alloc (.cells #[.int .i64 7] 3)).heap.size (w.alloc (.cells #[.int .i64 7] 3)) ((w.alloc (.cells #[.int .i64 7] 3)).alloc (.cells #[.bool false, .slice (some ⟨w.heap.size, 0, none⟩) 1 1] 121)) := (Below.refl _ _).alloc (Nat.le_refl _) _
  have q2 := heap_alloc_new (w.alloc (.cells #[.int .i64 7] 3)) (.cells #[.bool false, .slice (some ⟨w.heap.size, 0, none⟩) 1 1] 121)
  have b3 : Below ((w.alloc (.cells #[.int .i64 7] 3)).alloc (.cells #[.bool false, .slice (some ⟨w.heap.size, 0, none⟩) 1 1] 121)).heap.size ((w.alloc (.cells #[.int .i64 7] 3)).alloc (.cells #[.bool false, .slice (some ⟨w.heap.size, 0, none⟩) 1 1] 121)) w0 := by rw [hw0]; exact (Below.refl _ _).alloc (Nat.le_refl _) _
  have q3 := heap_alloc_new ((w.alloc (.cells #[.int .i64 7] 3)).alloc (.cells #[.bool false, .slice (some ⟨w.heap.size, 0, none⟩) 1 1] 121)) (.cells (avH (w.heap.size + 1)).C 42)
  rw [← hw0] at q3
  have q2' := (b3.block _ (jE q2)).trans q2
  have q1' := (b3.block _ (Nat.lt_of_lt_of_le (jE q1) b2.size)).trans ((b2.block _ (jE q1)).trans q1)
  refine ⟨by simpa using q3, at7_at (ib := w.heap.size) (by simpa using q2') q1', jC (jC b1 b2) b3⟩)
 obtain ⟨sgb, hsgb⟩ : ∃ b, b = w.heap.size + 1 := ⟨_, rfl⟩
 obtain ⟨ab, hab⟩ : ∃ b, b = w.heap.size + 1 + 1 := ⟨_, rfl⟩
 rw [← hab, ← hsgb] at H0 ⊢
 clear hw0 hsgb hab
 go_cut [2] from 8 to 20 (fun s2 wx => ∃ sb : Nat, s2 = .pointer (some ⟨sb, 0, none⟩) ∧ Hid (Below w0.heap.size w0 wx ∧ ∃ (wz : World) (rho : Nat → Role) (fb : Nat) (ls : List Pl), LSv wz wx rho sb fb ls hB2))
 case first =>
  refine wp_region_held_drew (S := fun w' => Below w0.heap.size w0 w') (by kernel_rfl) ?_ (fun hHeld => ?_)
  ·exact (Below.refl _ _).drew
  generalize World.drew w0 = wd at hHeld ⊢
  refine qy 3 ?_ ?_ ?_ hHeld ?_; rotate_left 1; (· rfl); (· intro w' hSw; refine exec_ld 42 (.tmp 1) ?_ ab ?_ 42 (avH sgb).C (0, 0) _ ((hSw.block _ (jE H0.out.1)).trans H0.out.1) Tryz.underlying42 rfl sz_avS <;> rfl)
  try simp only [jz]
  refine qy 8 ?_ ?_ ?_ hHeld ?_; rotate_left 1; (· rfl); (· intro w' hSw; refine exec_ld 42 (.tmp 1) ?_ ab ?_ 42 (avH sgb).C (0, 0) _ ((hSw.block _ (jE H0.out.1)).trans H0.out.1) Tryz.underlying42 rfl sz_avS <;> rfl)
  try simp only [jz]
  refine jr 0 ?_ fun K hK => ?_; (· rfl); (try clear hb); go_simp; (refine (n1.out _).mono ?_; rintro e w1 ⟨rfl, hb⟩); (try replace fa := fa.below hb); (try replace fb := fb.below hb); go_wp2_with fail; refine hK.out _ _ ?_ (fun hHeld => ?_); (· exact jC hHeld hb); clear hK K
  try simp only [jz]
  refine jr 1 ?_ fun K hK => ?_; (· rfl); (try clear hb); go_simp; (refine (n2.out _).mono ?_; rintro e w1 ⟨rfl, hb⟩); (try replace fa := fa.below hb); (try replace fb := fb.below hb); go_wp2_with fail; refine hK.out _ _ ?_ (fun hHeld => ?_); (· exact jC hHeld hb); clear hK K
  try simp only [jz]
  refine jI (i := 2) (j := 6) (atS (atS at0)) (atS (atS (atS (atS (atS (atS at0)))))) (by kernel_rfl) ?_ ?_ (fun K hK => ?_) (fun K hK => ?_)
  ·rfl
  ·rfl
  ·(try clear hb); go_simp; refine pf2_k (p := K _) (x := netP 1) (y := netP 2) (netP_ok (by decide)) (netP_ok (by decide)) ?_; intro wA fa hb; (try replace fb := fb.below hb); refine hK.out _ _ ?_ (fun hHeld => ?_); (· exact jC hHeld hb); clear hK K
   try simp only [jz]
   refine qy 4 ?_ ?_ ?_ hHeld ?_; rotate_left 1; (· rfl); (· intro w' hSw; have mbl := msg_built sgb; (try clear hHeld); go_simp; try with_reducible rfl)
   try simp only [jz]
   refine qy 5 ?_ ?_ ?_ hHeld ?_; rotate_left 1; (· rfl); (· intro w' hSw; have mbl := fun m => said_built 0 m [] [netP 1, netP 2] at7; (try clear hHeld); go_simp; try with_reducible rfl)
   try simp only [jz]
   refine jr 6 ?_ fun K hK => ?_; (· rfl); (try clear hb); go_simp; (refine (n2.out _).mono ?_; rintro e w1 ⟨rfl, hb⟩); (try replace fa := fa.below hb); (try replace fb := fb.below hb); go_wp2_with fail; refine hK.out _ _ ?_ (fun hHeld => ?_); (· exact jC hHeld hb); clear hK K
   try simp only [jz]
   refine jr 7 ?_ fun K hK => ?_; (· rfl); (try clear hb); go_simp; refine pf1_k (p := K _) (x := netP 2) (netP_ok (by decide)) ?_; intro wA fb hb; (try replace fa := fa.below hb); refine hK.out _ _ ?_ (fun hHeld => ?_); (· exact jC hHeld hb); clear hK K
   try simp only [jz]
   refine qy 9 ?_ ?_ ?_ hHeld ?_; rotate_left 1; (· rfl); (· intro w' hSw; have mbl := msg_built sgb; (try clear hHeld); go_simp; try with_reducible rfl)
   try simp only [jz]
   refine qy 10 ?_ ?_ ?_ hHeld ?_; rotate_left 1; (· rfl); (· intro w' hSw; have mbl := fun m => said_built 1 m [] [netP 2] at7; (try clear hHeld); go_simp; try with_reducible rfl)
   try simp only [jz]
   refine jr 11 ?_ fun K hK => ?_; (· rfl); (try clear hb); refine wp_sd2 (.tmp 13) (.tmp 18) rfl (hX0 _ _ sgb) (hX1 _ _ sgb) rfl rfl ?_; intro wB nc hb; (try replace fa := fa.below hb); (try replace fb := fb.below hb); refine hK.out _ _ ?_ (fun hHeld => ?_); (· exact jC hHeld hb); clear hK K
   try simp only [jz]
   refine jr 12 ?_ fun K hK => ?_; (· rfl); (try clear hb); go_simp; refine (l_told 3 (by decide) (by decide) _ _ _ (saids_two nc fa.self fb.self (H0.out.2.1.below hHeld)) (ms7 _ _ _ _ _)).mono ?_; rintro e wq ⟨rho, sb, fb2, ls, rfl, hl⟩; rw [told_head] at hl; have hbq := hl.bel; go_wp2_with fail; refine hK.out _ _ ?_ (fun hHeld => ?_); (· exact jC hHeld hbq); clear hK K
   try simp only [jz]
   refine qy 13 ?_ ?_ ?_ hHeld ?_; rotate_left 1; (· rfl); (· intro w' hSw; (try clear hHeld); go_simp; try with_reducible rfl)
   try simp only [jz]
   refine wpAnyH_done (by kernel_rfl) ?_ _
   go_wp2_with fail
   go_meet
   exact ⟨sb, rfl, jh ⟨hHeld, _, rho, fb2, ls, hl⟩⟩
  ·(try clear hb); go_simp; (refine (n2.out _).mono ?_; rintro e w1 ⟨rfl, hb⟩); (try replace fa := fa.below hb); (try replace fb := fb.below hb); go_wp2_with fail; refine hK.out _ _ ?_ (fun hHeld => ?_); (· exact jC hHeld hb); clear hK K
   try simp only [jz]
   refine jI (i := 2) (j := 7) (atS (atS at0)) (atS (atS (atS (atS (atS (atS (atS at0))))))) (by kernel_rfl) ?_ ?_ (fun K hK => ?_) (fun K hK => ?_)
   ·rfl
   ·rfl
   ·(try clear hb); go_simp; refine pf2_k (p := K _) (x := netP 1) (y := netP 2) (netP_ok (by decide)) (netP_ok (by decide)) ?_; intro wA fa hb; (try replace fb := fb.below hb); refine hK.out _ _ ?_ (fun hHeld => ?_); (· exact jC hHeld hb); clear hK K
    try simp only [jz]
    refine qy 4 ?_ ?_ ?_ hHeld ?_; rotate_left 1; (· rfl); (· intro w' hSw; have mbl := msg_built sgb; (try clear hHeld); go_simp; try with_reducible rfl)
    try simp only [jz]
    refine qy 5 ?_ ?_ ?_ hHeld ?_; rotate_left 1; (· rfl); (· intro w' hSw; have mbl := fun m => said_built 0 m [] [netP 1, netP 2] at7; (try clear hHeld); go_simp; try with_reducible rfl)
    try simp only [jz]
    refine jr 7 ?_ fun K hK => ?_; (· rfl); (try clear hb); go_simp; refine pf1_k (p := K _) (x := netP 2) (netP_ok (by decide)) ?_; intro wA fb hb; (try replace fa := fa.below hb); refine hK.out _ _ ?_ (fun hHeld => ?_); (· exact jC hHeld hb); clear hK K
    try simp only [jz]
    refine qy 9 ?_ ?_ ?_ hHeld ?_; rotate_left 1; (· rfl); (· intro w' hSw; have mbl := msg_built sgb; (try clear hHeld); go_simp; try with_reducible rfl)
    try simp only [jz]
    refine qy 10 ?_ ?_ ?_ hHeld ?_; rotate_left 1; (· rfl); (· intro w' hSw; have mbl := fun m => said_built 1 m [] [netP 2] at7; (try clear hHeld); go_simp; try with_reducible rfl)
    try simp only [jz]
    refine jr 11 ?_ fun K hK => ?_; (· rfl); (try clear hb); refine wp_sd2 (.tmp 13) (.tmp 18) rfl (hX0 _ _ sgb) (hX1 _ _ sgb) rfl rfl ?_; intro wB nc hb; (try replace fa := fa.below hb); (try replace fb := fb.below hb); refine hK.out _ _ ?_ (fun hHeld => ?_); (· exact jC hHeld hb); clear hK K
    try simp only [jz]
    refine jr 12 ?_ fun K hK => ?_; (· rfl); (try clear hb); go_simp; refine (l_told 3 (by decide) (by decide) _ _ _ (saids_two nc fa.self fb.self (H0.out.2.1.below hHeld)) (ms7 _ _ _ _ _)).mono ?_; rintro e wq ⟨rho, sb, fb2, ls, rfl, hl⟩; rw [told_head] at hl; have hbq := hl.bel; go_wp2_with fail; refine hK.out _ _ ?_ (fun hHeld => ?_); (· exact jC hHeld hbq); clear hK K
    try simp only [jz]
    refine qy 13 ?_ ?_ ?_ hHeld ?_; rotate_left 1; (· rfl); (· intro w' hSw; (try clear hHeld); go_simp; try with_reducible rfl)
    try simp only [jz]
    refine wpAnyH_done (by kernel_rfl) ?_ _
    go_wp2_with fail
    go_meet
    exact ⟨sb, rfl, jh ⟨hHeld, _, rho, fb2, ls, hl⟩⟩
   ·(try clear hb); go_simp; refine pf1_k (p := K _) (x := netP 2) (netP_ok (by decide)) ?_; intro wA fb hb; (try replace fa := fa.below hb); refine hK.out _ _ ?_ (fun hHeld => ?_); (· exact jC hHeld hb); clear hK K
    try simp only [jz]
    refine qy 9 ?_ ?_ ?_ hHeld ?_; rotate_left 1; (· rfl); (· intro w' hSw; have mbl := msg_built sgb; (try clear hHeld); go_simp; try with_reducible rfl)
    try simp only [jz]
    refine qy 10 ?_ ?_ ?_ hHeld ?_; rotate_left 1; (· rfl); (· intro w' hSw; have mbl := fun m => said_built 1 m [] [netP 2] at7; (try clear hHeld); go_simp; try with_reducible rfl)
    try simp only [jz]
    refine jr 2 ?_ fun K hK => ?_; (· rfl); (try clear hb); go_simp; refine pf2_k (p := K _) (x := netP 1) (y := netP 2) (netP_ok (by decide)) (netP_ok (by decide)) ?_; intro wA fa hb; (try replace fb := fb.below hb); refine hK.out _ _ ?_ (fun hHeld => ?_); (· exact jC hHeld hb); clear hK K
    try simp only [jz]
    refine qy 4 ?_ ?_ ?_ hHeld ?_; rotate_left 1; (· rfl); (· intro w' hSw; have mbl := msg_built sgb; (try clear hHeld); go_simp; try with_reducible rfl)
    try simp only [jz]
    refine qy 5 ?_ ?_ ?_ hHeld ?_; rotate_left 1; (· rfl); (· intro w' hSw; have mbl := fun m => said_built 0 m [] [netP 1, netP 2] at7; (try clear hHeld); go_simp; try with_reducible rfl)
    try simp only [jz]
    refine jr 11 ?_ fun K hK => ?_; (· rfl); (try clear hb); refine wp_sd2 (.tmp 13) (.tmp 18) rfl (hX0 _ _ sgb) (hX1 _ _ sgb) rfl rfl ?_; intro wB nc hb; (try replace fa := fa.below hb); (try replace fb := fb.below hb); refine hK.out _ _ ?_ (fun hHeld => ?_); (· exact jC hHeld hb); clear hK K
    try simp only [jz]
    refine jr 12 ?_ fun K hK => ?_; (· rfl); (try clear hb); go_simp; refine (l_told 3 (by decide) (by decide) _ _ _ (saids_two nc fa.self fb.self (H0.out.2.1.below hHeld)) (ms7 _ _ _ _ _)).mono ?_; rintro e wq ⟨rho, sb, fb2, ls, rfl, hl⟩; rw [told_head] at hl; have hbq := hl.bel; go_wp2_with fail; refine hK.out _ _ ?_ (fun hHeld => ?_); (· exact jC hHeld hbq); clear hK K
    try simp only [jz]
    refine qy 13 ?_ ?_ ?_ hHeld ?_; rotate_left 1; (· rfl); (· intro w' hSw; (try clear hHeld); go_simp; try with_reducible rfl)
    try simp only [jz]
    refine wpAnyH_done (by kernel_rfl) ?_ _
    go_wp2_with fail
    go_meet
    exact ⟨sb, rfl, jh ⟨hHeld, _, rho, fb2, ls, hl⟩⟩
 case rest =>
  obtain ⟨sb, rfl, HH⟩ := hcut
  obtain ⟨w1, hw1⟩ : ∃ w1 : World, w1 = wc := ⟨_, rfl⟩
  rw [← hw1] at HH ⊢
  obtain ⟨hb1, wz, rho, fb, ls, hl⟩ := HH.out
  have AL := jh (ls_All hl 2)
  have B1 := jh (jC H0.out.2.2 hb1)
  clear hw1 HH hl hb1 H0
  go_wp2_with fail
  refine AL.out.mono ?_
  rintro e w2 ⟨s, c, L, Q, ps, rfl, oc, h1, h2, h3, h4, h5, h6, hb2⟩
  obtain ⟨x, y, rfl, hx, hy, hyp⟩ := hB2_all h1 h2 h4 h5 h6
  have B2 := jh (jC B1.out hb2)
  obtain ⟨g, o, rfl, rx⟩ := cl_at (own_slat clL_len oc.own) (i := 0) (x := x) rfl
  obtain ⟨g', o', hgo, ry⟩ := cl_at (own_slat clL_len oc.own) (i := 1) (x := y) rfl
  injection hgo with hgo
  injection hgo with e1 e2 _
  subst e1; subst e2
  have py := oc.mem.self y (by simp)
  rw [hyp] at py
  obtain ⟨sv, cv, hyv, -⟩ := id py
  have hyv : y.v = .slice sv 1 cv := hyv
  rw [hyv] at py
  have x0 : w2.cell? ⟨g, o, none⟩ = some (.int .i64 2) := by have := rx 0 _ rfl; rw [hx] at this; exact this
  have x1 : w2.cell? ⟨g, o + 1, none⟩ = some (.int .i64 0) := by have := rx 1 _ rfl; rw [hx] at this; exact this
  have x2 : w2.cell? ⟨g, o + 2, none⟩ = some (.int .i64 1) := by have := rx 2 _ rfl; rw [hx] at this; exact this
  have y0 : w2.cell? ⟨g, o + 4, none⟩ = some (.int .i64 2) := by have := ry 0 _ rfl; rw [hy] at this; exact this
  have y1 : w2.cell? ⟨g, o + 4 + 1, none⟩ = some (.int .i64 0) := by have := ry 1 _ rfl; rw [hy] at this; exact this
  have y2 : w2.cell? ⟨g, o + 4 + 2, none⟩ = some (.int .i64 3) := by have := ry 2 _ rfl; rw [hy] at this; exact this
  have y3 : w2.cell? ⟨g, o + 4 + 3, none⟩ = some (.slice sv 1 cv) := by have := ry 3 _ rfl; rw [← hyv]; exact this
  have HS : Hid (∀ w', Below w2.heap.size w2 w' → Calls Tryz.prog 102 #[.agg #[.slice sv 1 cv], .agg #[.int .u32 (netP 2).1, .int .i64 (netP 2).2]] w' fun e w3 => e = .returned (.bool true) ∧ Below w'.heap.size w' w3) := jh (fun w' hb => by
   have := ps_Has (.slice sv 1 cv) [netP 2] (netP 2) w' (py.below hb) (by simp [Srt])
   simpa using this)
  have LN : Hid (∀ w', Below w2.heap.size w2 w' → Calls Tryz.prog 103 #[.agg #[.slice sv 1 cv]] w' fun e w3 => e = .returned (.int .i64 1) ∧ Below w'.heap.size w' w3) := jh (fun w' hb => ps_Len (.slice sv 1 cv) [netP 2] w' (py.below hb))
  clear h1 h2 h3 h4 h5 h6 hx hy hyp rx ry py hyv oc hb2 AL B1
  go_upto_region 6 with (fail)
  refine wp_region_held_drew (S := fun w' => Below w2.heap.size w2 w') (by kernel_rfl) ?_ (fun hHeld => ?_)
  ·exact (Below.refl _ _).drew
  generalize World.drew w2 = wd at hHeld ⊢
  refine qy 0 ?_ ?_ ?_ hHeld ?_; rotate_left 1; (· rfl); (· intro w' hSw; (try clear hHeld); go_simp; try with_reducible rfl)
  try simp only [jz]
  refine qy 1 ?_ ?_ ?_ hHeld ?_; rotate_left 1; (· rfl); (· intro w' hSw; (try clear hHeld); go_simp; try with_reducible rfl)
  try simp only [jz]
  refine qy 2 ?_ ?_ ?_ hHeld ?_; rotate_left 1; (· rfl); (· intro w' hSw; (try clear hHeld); go_simp; try with_reducible rfl)
  try simp only [jz]
  refine qy 3 ?_ ?_ ?_ hHeld ?_; rotate_left 1; (· rfl); (· intro w' hSw; (try clear hHeld); go_simp; try with_reducible rfl)
  try simp only [jz]
  refine qy 4 ?_ ?_ ?_ hHeld ?_; rotate_left 1; (· rfl); (· intro w' hSw; (try clear hHeld); go_simp; try with_reducible rfl)
  try simp only [jz]
  refine qy 5 ?_ ?_ ?_ hHeld ?_; rotate_left 1; (· rfl); (· intro w' hSw; have x0 := jA x0 hSw; have x1 := jA x1 hSw; have x2 := jA x2 hSw; have y0 := jA y0 hSw; have y1 := jA y1 hSw; have y2 := jA y2 hSw; have y3 := jA y3 hSw; (try clear hHeld); go_simp; try with_reducible rfl)
  try simp only [jz]
  refine qy 6 ?_ ?_ ?_ hHeld ?_; rotate_left 1; (· rfl); (· intro w' hSw; (try clear hHeld); go_simp; try with_reducible rfl)
  try simp only [jz]
  refine qy 7 ?_ ?_ ?_ hHeld ?_; rotate_left 1; (· rfl); (· intro w' hSw; have x0 := jA x0 hSw; have x1 := jA x1 hSw; have x2 := jA x2 hSw; have y0 := jA y0 hSw; have y1 := jA y1 hSw; have y2 := jA y2 hSw; have y3 := jA y3 hSw; (try clear hHeld); go_simp; try with_reducible rfl)
  try simp only [jz]
  refine qy 8 ?_ ?_ ?_ hHeld ?_; rotate_left 1; (· rfl); (· intro w' hSw; (try clear hHeld); go_simp; try with_reducible rfl)
  try simp only [jz]
  refine qy 9 ?_ ?_ ?_ hHeld ?_; rotate_left 1; (· rfl); (· intro w' hSw; (try clear hHeld); go_simp; try with_reducible rfl)
  try simp only [jz]
  refine qy 10 ?_ ?_ ?_ hHeld ?_; rotate_left 1; (· rfl); (· intro w' hSw; (try clear hHeld); go_simp; try with_reducible rfl)
  try simp only [jz]
  refine qy 11 ?_ ?_ ?_ hHeld ?_; rotate_left 1; (· rfl); (· intro w' hSw; (try clear hHeld); go_simp; try with_reducible rfl)
  try simp only [jz]
  refine qy 12 ?_ ?_ ?_ hHeld ?_; rotate_left 1; (· rfl); (· intro w' hSw; (try clear hHeld); go_simp; try with_reducible rfl)
  try simp only [jz]
  refine qy 13 ?_ ?_ ?_ hHeld ?_; rotate_left 1; (· rfl); (· intro w' hSw; have x0 := jA x0 hSw; have x1 := jA x1 hSw; have x2 := jA x2 hSw; have y0 := jA y0 hSw; have y1 := jA y1 hSw; have y2 := jA y2 hSw; have y3 := jA y3 hSw; (try clear hHeld); go_simp; try with_reducible rfl)
  try simp only [jz]
  refine qy 14 ?_ ?_ ?_ hHeld ?_; rotate_left 1; (· rfl); (· intro w' hSw; (try clear hHeld); go_simp; try with_reducible rfl)
  try simp only [jz]
  refine qy 15 ?_ ?_ ?_ hHeld ?_; rotate_left 1; (· rfl); (· intro w' hSw; have x0 := jA x0 hSw; have x1 := jA x1 hSw; have x2 := jA x2 hSw; have y0 := jA y0 hSw; have y1 := jA y1 hSw; have y2 := jA y2 hSw; have y3 := jA y3 hSw; (try clear hHeld); go_simp; try with_reducible rfl)
  try simp only [jz]
  refine qy 16 ?_ ?_ ?_ hHeld ?_; rotate_left 1; (· rfl); (· intro w' hSw; (try clear hHeld); go_simp; try with_reducible rfl)
  try simp only [jz]
  refine qy 17 ?_ ?_ ?_ hHeld ?_; rotate_left 1; (· rfl); (· intro w' hSw; (try clear hHeld); go_simp; try with_reducible rfl)
  try simp only [jz]
  refine qy 18 ?_ ?_ ?_ hHeld ?_; rotate_left 1; (· rfl); (· intro w' hSw; (try clear hHeld); go_simp; try with_reducible rfl)
  try simp only [jz]
  refine qy 19 ?_ ?_ ?_ hHeld ?_; rotate_left 1; (· rfl); (· intro w' hSw; (try clear hHeld); go_simp; try with_reducible rfl)
  try simp only [jz]
  refine qy 20 ?_ ?_ ?_ hHeld ?_; rotate_left 1; (· rfl); (· intro w' hSw; (try clear hHeld); go_simp; try with_reducible rfl)
  try simp only [jz]
  refine qy 21 ?_ ?_ ?_ hHeld ?_; rotate_left 1; (· rfl); (· intro w' hSw; have x0 := jA x0 hSw; have x1 := jA x1 hSw; have x2 := jA x2 hSw; have y0 := jA y0 hSw; have y1 := jA y1 hSw; have y2 := jA y2 hSw; have y3 := jA y3 hSw; (try clear hHeld); go_simp; try with_reducible rfl)
  try simp only [jz]
  refine qy 22 ?_ ?_ ?_ hHeld ?_; rotate_left 1; (· rfl); (· intro w' hSw; (try clear hHeld); go_simp; try with_reducible rfl)
  try simp only [jz]
  refine qy 23 ?_ ?_ ?_ hHeld ?_; rotate_left 1; (· rfl); (· intro w' hSw; have x0 := jA x0 hSw; have x1 := jA x1 hSw; have x2 := jA x2 hSw; have y0 := jA y0 hSw; have y1 := jA y1 hSw; have y2 := jA y2 hSw; have y3 := jA y3 hSw; (try clear hHeld); go_simp; try with_reducible rfl)
  try simp only [jz]
  refine jr 24 ?_ fun K hK => ?_; (· rfl); (try clear hb); go_simp; (refine (n2.out _).mono ?_; rintro e w1 ⟨rfl, hb⟩); go_wp2_with fail; refine hK.out _ _ ?_ (fun hHeld => ?_); (· exact hHeld.trans (hb.mono hHeld.size)); clear hK K
  try simp only [jz]
  refine jr 25 ?_ fun K hK => ?_; (· rfl); (try clear hb); go_simp; (refine (HS.out _ hHeld).mono ?_; rintro e w1 ⟨rfl, hb⟩); go_wp2_with fail; refine hK.out _ _ ?_ (fun hHeld => ?_); (· exact hHeld.trans (hb.mono hHeld.size)); clear hK K
  try simp only [jz]
  refine qy 26 ?_ ?_ ?_ hHeld ?_; rotate_left 1; (· rfl); (· intro w' hSw; (try clear hHeld); go_simp; try with_reducible rfl)
  try simp only [jz]
  refine qy 27 ?_ ?_ ?_ hHeld ?_; rotate_left 1; (· rfl); (· intro w' hSw; (try clear hHeld); go_simp; try with_reducible rfl)
  try simp only [jz]
  refine qy 28 ?_ ?_ ?_ hHeld ?_; rotate_left 1; (· rfl); (· intro w' hSw; (try clear hHeld); go_simp; try with_reducible rfl)
  try simp only [jz]
  refine qy 29 ?_ ?_ ?_ hHeld ?_; rotate_left 1; (· rfl); (· intro w' hSw; have x0 := jA x0 hSw; have x1 := jA x1 hSw; have x2 := jA x2 hSw; have y0 := jA y0 hSw; have y1 := jA y1 hSw; have y2 := jA y2 hSw; have y3 := jA y3 hSw; (try clear hHeld); go_simp; try with_reducible rfl)
  try simp only [jz]
  refine qy 30 ?_ ?_ ?_ hHeld ?_; rotate_left 1; (· rfl); (· intro w' hSw; (try clear hHeld); go_simp; try with_reducible rfl)
  try simp only [jz]
  refine qy 31 ?_ ?_ ?_ hHeld ?_; rotate_left 1; (· rfl); (· intro w' hSw; have x0 := jA x0 hSw; have x1 := jA x1 hSw; have x2 := jA x2 hSw; have y0 := jA y0 hSw; have y1 := jA y1 hSw; have y2 := jA y2 hSw; have y3 := jA y3 hSw; (try clear hHeld); go_simp; try with_reducible rfl)
  try simp only [jz]
  refine jr 32 ?_ fun K hK => ?_; (· rfl); (try clear hb); go_simp; (refine (LN.out _ hHeld).mono ?_; rintro e w1 ⟨rfl, hb⟩); go_wp2_with fail; refine hK.out _ _ ?_ (fun hHeld => ?_); (· exact hHeld.trans (hb.mono hHeld.size)); clear hK K
  try simp only [jz]
  refine qy 33 ?_ ?_ ?_ hHeld ?_; rotate_left 1; (· rfl); (· intro w' hSw; (try clear hHeld); go_simp; try with_reducible rfl)
  try simp only [jz]
  refine qy 34 ?_ ?_ ?_ hHeld ?_; rotate_left 1; (· rfl); (· intro w' hSw; (try clear hHeld); go_simp; try with_reducible rfl)
  try simp only [jz]
  refine qy 35 ?_ ?_ ?_ hHeld ?_; rotate_left 1; (· rfl); (· intro w' hSw; (try clear hHeld); go_simp; try with_reducible rfl)
  try simp only [Act.put, List.setIfInBounds_toArray, List.set_cons_zero]
  refine wpAnyH_done (by kernel_rfl) ?_ _
  have B3 := jh (jC B2.out hHeld)
  clear hHeld
  go_wp2_with fail
  go_ret
  exact ⟨rfl, B3.out⟩
end Go.Proofs.YtkoidahgbbabiaaGreat
