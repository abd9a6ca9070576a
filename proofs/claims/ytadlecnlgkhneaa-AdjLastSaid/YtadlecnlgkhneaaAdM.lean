/-
  AdjRoom: what the law's messages make of a rib: plain; how a law makes lists and messages.
-/
import Derived.Test.YtadlecnlgkhneaaAdH
namespace Go.Proofs.Ytadlecnlgkhneaa
open Go.RowKit

theorem setOf_self {ps : List Pf} (h : Srt ps) : setOf ps = ps := setOf_is h fun _ => Iff.rfl
theorem dropAll_nil (ps : List Pf) : dropAll [] ps = [] := by
  unfold dropAll
  induction ps with
  | nil => rfl
  | cons p ps ih => exact ih
theorem filter_had_nil (ps : List Pf) : ps.filter (hadB []) = [] := by
  rw [List.filter_eq_nil_iff]
  intro p _
  simp [hadB, getL]
def R1 (ps : List Pf) (a : At) : Rts := putAll [] ps a
theorem R1_get (ps : List Pf) (a : At) (p : Pf) : getL (R1 ps a) p = if p ∈ ps then some a else none := getL_putAll a ps [] p
theorem R1_ap (ps : List Pf) (a : At) : KeysApart (R1 ps a) := apart_putAll a ps (by simp [KeysApart])
theorem R1_len {ps : List Pf} (h : Srt ps) (a : At) : (R1 ps a).length = ps.length := by
  unfold R1
  rw [len_putAll a ps [] (srt_nodup h) (fun p _ => rfl)]
  simp
theorem rights_all {ps : List Pf} (h : ∀ p ∈ ps, rightB p.1 p.2 = true) : rights ps = true := by
  unfold rights
  rw [List.all_eq_true]
  exact h
theorem room_1 {ps : List Pf} {a : At} {N : Int} (h : Srt ps) (hr : ∀ p ∈ ps, rightB p.1 p.2 = true) (ha : passB a.path 9 = false) (hN : (ps.length : Int) = N) : ∃ T, updP 9 N [] 2 [] ps a = (0, T, R1 ps a) := by
  have h1 : saidP [] ps = ps := setOf_self h
  have h2 : netsP 9 ps a = ps := by unfold netsP; rw [ha]; exact setOf_self h
  have h3 : cntP [] ps ps = N := by unfold cntP; rw [filter_had_nil]; simpa using hN
  refine ⟨ps.filter (turnB [] ps a), ?_⟩
  unfold updP
  rw [if_pos rfl, h1, h2, h3, if_pos (rights_all (by simpa using hr)), if_neg (by omega), dropAll_nil]
  rfl
theorem room_2 {R : Rts} {a : At} {N : Int} {p : Pf} (hp : rightB p.1 p.2 = true) (hno : getL R p = none) (hl : (R.length : Int) = N) (ha : passB a.path 9 = false) : updP 9 N R 2 [] [p] a = (32, [], R) := by
  have h1 : saidP [] [p] = [p] := setOf_one p
  have h2 : netsP 9 [p] a = [p] := by unfold netsP; rw [ha]; exact setOf_one p
  have h3 : cntP R [p] [p] = N + 1 := by
    unfold cntP
    have : [p].filter (hadB R) = [] := by simp [hadB, hno]
    rw [this]
    simp; omega
  unfold updP
  rw [if_pos rfl, h1, h2, h3, if_pos (rights_all (by simpa using hp)), if_pos (by omega)]
theorem room_3 {R : Rts} {a : At} {N : Int} {p q : Pf} (hap : KeysApart R) (hp : rightB p.1 p.2 = true) (hq : rightB q.1 q.2 = true) (hpq : plt p q) (hyes : (getL R p).isSome = true) (hno : getL R q = none) (hl : (R.length : Int) = N) (ha : passB a.path 9 = false) :
    ∃ T R3, updP 9 N R 2 [p] [q] a = (0, T, R3) ∧ (R3.length : Int) = N := by
  have h1 : saidP [p] [q] = [p, q] := setOf_two' hpq
  have h2 : netsP 9 [q] a = [q] := by unfold netsP; rw [ha]; exact setOf_one q
  have nd : [p, q].Nodup := srt_nodup (by simp [Srt, hpq])
  have hf : [p, q].filter (hadB R) = [p] := by simp [hadB, hyes, hno]
  have hd := len_dropAll hap nd
  rw [hf] at hd
  simp only [List.length_cons, List.length_nil] at hd
  have h3 : cntP R [p, q] [q] = N := by
    unfold cntP
    rw [hf]
    simp; omega
  refine ⟨[p, q].filter (turnB R [q] a), putAll (dropAll R [p, q]) [q] a, ?_, ?_⟩
  · unfold updP
    rw [if_pos rfl, h1, h2, h3, if_pos (rights_all (by intro x hx; simp at hx; rcases hx with rfl | rfl <;> assumption)), if_neg (by omega)]
  · rw [len_putAll a [q] _ (by simp) (fun x hx => by simp at hx; subst hx; rw [getL_dropAll]; simp)]
    simp only [List.length_cons, List.length_nil]
    omega
/-! ### the law's lists -/
def netsL (k : Nat) : List Pf := (List.range k).map netP
theorem netsL_len (k : Nat) : (netsL k).length = k := by simp [netsL]
theorem netsL_snoc (k : Nat) : netsL (k + 1) = netsL k ++ [netP k] := by simp [netsL, List.range_succ]
theorem netsL_srt (k : Nat) : Srt (netsL k) := by
  unfold netsL Srt
  rw [List.pairwise_map]
  exact List.pairwise_lt_range.imp fun h => netP_lt h
theorem netsL_mem {k : Nat} {p : Pf} : p ∈ netsL k ↔ ∃ i, i < k ∧ p = netP i := by
  simp [netsL, eq_comm]
/-- a slice of one prefix is made, within a region. -/
theorem pf_one_k {W : World} {p : World → Prop} {x : Pf} (hx : OkP x) (h : ∀ w1, PsAt w1 (.slice (some ⟨W.heap.size, 0, none⟩) 1 1) [x] → Below W.heap.size W w1 → p w1) : p (W.alloc (.cells #[.int .u32 x.1, .int .i64 x.2] 29)) :=
  h _ (psAt_new W x 29 hx) ((Below.refl _ _).alloc (Nat.le_refl _) _)
end Go.Proofs.Ytadlecnlgkhneaa
