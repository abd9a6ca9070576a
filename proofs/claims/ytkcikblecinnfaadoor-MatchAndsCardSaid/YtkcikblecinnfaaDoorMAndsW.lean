/-
  MatchAnds, walks: the join.
-/
import Derived.Test.YtkcikblecinnfaaDoorAn0
import Derived.Test.YtkcikblecinnfaaDoorAn1
import Derived.Test.YtkcikblecinnfaaDoorAn2
import Derived.Test.YtkcikblecinnfaaDoorAn3
import Derived.Test.YtkcikblecinnfaaDoorAn4
import Derived.Test.YtkcikblecinnfaaDoorAnNo
namespace Go.Proofs.YtkcikblecinnfaaDoor
open Go.RowKit

theorem w_right {m : Mt} {b : Bool} (hb : lawR m = b) (W : World) (hT : Wid W) : Calls Tryd.prog 9 #[mtV m] W fun e w' => e = .returned (.bool b) ∧ Below W.heap.size W w' := by
  have := law_right m W hT; rwa [hb] at this
theorem w_and {m n : Mt} {b : Bool} (om : m.Ok) (on : n.Ok) (hb : andOk m n = b) (W : World) : Calls Tryd.prog 18 #[mtV m, mtV n] W fun e w' => e = .returned (.tuple #[mtV (andM m n), .bool b]) ∧ Below W.heap.size W w' := by
  have := match_And m n W om on; rwa [hb] at this
theorem w_hits {m : Mt} {h : Hdr} {b : Bool} (ok : h.Ok) (hb : hitsM m h = b) (W : World) (hT : Wid W) : Calls Tryd.prog 11 #[mtV m, hdrV h] W fun e w' => e = .returned (.bool b) ∧ Below W.heap.size W w' := by
  have := match_Hits m h W hT ok; rwa [hb] at this
theorem w_cov {m n : Mt} {b : Bool} (hb : coversM m n = b) (W : World) : Calls Tryd.prog 19 #[mtV m, mtV n] W fun e w' => e = .returned (.bool b) ∧ Below W.heap.size W w' := by
  have := match_Covers m n W; rwa [hb] at this
theorem cov_hits {m n : Mt} (gm : Good m) (gn : Good n) (h : Hdr) (ok : h.Ok) (hc : coversM m n = true) (hn : hitsM n h = true) : hitsM m h = true := by
  have h1 := covers_both gm gn
  have h2 := hits_both gm gn h ok
  rw [hc] at h1
  have h3 : andOk m n = true ∧ eqM (andM m n) n = true := by simpa using h1.symm
  have h4 : hitsM (andM m n) h = true := by
    rw [hits_iff (and_good gm gn) h ok]
    intro j hj
    have e := (eqM_iff _ _).1 h3.2 j hj
    rw [e.1, e.2]
    exact (hits_iff gn h ok).1 hn j hj
  rw [h4, h3.1, hn] at h2
  simpa using h2
set_option maxRecDepth 100000 in
theorem law_MatchAnds (m n : Mt) (h : Hdr) (w : World) (hT : Wid w) (om : m.Ok) (on : n.Ok) (ok : h.Ok) :
    Calls Tryd.prog 6 #[mtV m, mtV n, hdrV h] w fun e w' => e = .returned (.bool true) ∧ Below w.heap.size w w' := by
  cases hr1 : lawR m
  · exact an_no0 m n h w hT (w_right hr1)
  cases hr2 : lawR n
  · exact an_no1 m n h w hT (w_right hr1) (w_right hr2)
  have gm : Good m := ⟨om, hr1⟩
  have gn : Good n := ⟨on, hr2⟩
  have hb := hits_both gm gn h ok
  have cb := covers_both gm gn
  have e1 := andM_comm gm gn
  have hO := andOk_comm gm gn
  have hcov := cov_hits gm gn h ok
  have gx := (and_good gm gn).law
  cases ho : andOk m n
  · rw [ho] at hO hb cb
    have e0 : eqM (andM m n) mt0 = true := by
      have : andM m n = mt0 := by unfold andM; rw [ho]; rfl
      rw [this]; decide +kernel
    cases hc : coversM m n
    · rw [hc] at cb hcov
      cases h1 : hitsM m h
      · rw [h1] at hb hcov
        cases h2 : hitsM n h
        · rw [h2] at hb hcov
          exact an_0000 m n _ _ h w hT (w_right hr1) (w_right hr2) (w_and om on ho) (w_and on om hO) (w_hits ok h1) (w_hits ok h2) (w_cov hc) e1 e0 gm gn hc
        · rw [h2] at hb hcov
          exact an_0001 m n _ _ h w hT (w_right hr1) (w_right hr2) (w_and om on ho) (w_and on om hO) (w_hits ok h1) (w_hits ok h2) (w_cov hc) e1 e0 gm gn hc
      · rw [h1] at hb hcov
        cases h2 : hitsM n h
        · rw [h2] at hb hcov
          exact an_0010 m n _ _ h w hT (w_right hr1) (w_right hr2) (w_and om on ho) (w_and on om hO) (w_hits ok h1) (w_hits ok h2) (w_cov hc) e1 e0 gm gn hc
        · rw [h2] at hb hcov
          simp at hb cb hcov
    · rw [hc] at cb hcov
      cases h1 : hitsM m h
      · rw [h1] at hb hcov
        cases h2 : hitsM n h
        · rw [h2] at hb hcov
          simp at hb cb hcov
        · rw [h2] at hb hcov
          simp at hb cb hcov
      · rw [h1] at hb hcov
        cases h2 : hitsM n h
        · rw [h2] at hb hcov
          simp at hb cb hcov
        · rw [h2] at hb hcov
          simp at hb cb hcov
  · rw [ho] at hO hb cb
    cases hc : coversM m n
    · rw [hc] at cb hcov
      cases h1 : hitsM m h
      · rw [h1] at hb hcov
        cases h2 : hitsM n h
        · rw [h2] at hb hcov
          exact an_1000 m n _ _ h w hT (w_right hr1) (w_right hr2) (w_and om on ho) (w_and on om hO) (w_hits ok h1) (w_hits ok h2) (w_cov hc) e1 (w_right gx) (w_hits ok (by simpa using hb.symm)) (by simpa using cb.symm) gm gn hc
        · rw [h2] at hb hcov
          exact an_1001 m n _ _ h w hT (w_right hr1) (w_right hr2) (w_and om on ho) (w_and on om hO) (w_hits ok h1) (w_hits ok h2) (w_cov hc) e1 (w_right gx) (w_hits ok (by simpa using hb.symm)) (by simpa using cb.symm) gm gn hc
      · rw [h1] at hb hcov
        cases h2 : hitsM n h
        · rw [h2] at hb hcov
          exact an_1010 m n _ _ h w hT (w_right hr1) (w_right hr2) (w_and om on ho) (w_and on om hO) (w_hits ok h1) (w_hits ok h2) (w_cov hc) e1 (w_right gx) (w_hits ok (by simpa using hb.symm)) (by simpa using cb.symm) gm gn hc
        · rw [h2] at hb hcov
          exact an_1011 m n _ _ h w hT (w_right hr1) (w_right hr2) (w_and om on ho) (w_and on om hO) (w_hits ok h1) (w_hits ok h2) (w_cov hc) e1 (w_right gx) (w_hits ok (by simpa using hb.symm)) (by simpa using cb.symm) gm gn hc
    · rw [hc] at cb hcov
      cases h1 : hitsM m h
      · rw [h1] at hb hcov
        cases h2 : hitsM n h
        · rw [h2] at hb hcov
          exact an_1100 m n _ _ h w hT (w_right hr1) (w_right hr2) (w_and om on ho) (w_and on om hO) (w_hits ok h1) (w_hits ok h2) (w_cov hc) e1 (w_right gx) (w_hits ok (by simpa using hb.symm)) (by simpa using cb.symm)
        · rw [h2] at hb hcov
          simp at hb cb hcov
      · rw [h1] at hb hcov
        cases h2 : hitsM n h
        · rw [h2] at hb hcov
          exact an_1110 m n _ _ h w hT (w_right hr1) (w_right hr2) (w_and om on ho) (w_and on om hO) (w_hits ok h1) (w_hits ok h2) (w_cov hc) e1 (w_right gx) (w_hits ok (by simpa using hb.symm)) (by simpa using cb.symm)
        · rw [h2] at hb hcov
          exact an_1111 m n _ _ h w hT (w_right hr1) (w_right hr2) (w_and om on ho) (w_and on om hO) (w_hits ok h1) (w_hits ok h2) (w_cov hc) e1 (w_right gx) (w_hits ok (by simpa using hb.symm)) (by simpa using cb.symm)
end Go.Proofs.YtkcikblecinnfaaDoor
