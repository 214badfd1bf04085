/- Lists that are one are equal by the reference's SameInts. Condition: at most 2^40 elements. -/
import Derived.Test.YtkanmafjjejpmaaM0
import Derived.Test.YtkanmafjjejpmaaPx7
namespace Go.Proofs.Ytkanmafjjejpmaa.M
open Go.RowKit Go.Proofs.YtkanmafjjejpmaaW.PrintWords Go.Proofs.Ytkanmafjjejpmaa.P

theorem same_ints {l : List Int} (hl : l.length ≤ 1000000000000) : Ev (fun k => corporaref09_SameInts.f k l l) true := by
  have key : ∀ (e : Nat) (i : Int), 0 ≤ i → i + e = l.length → Ev (fun k => corporaref09_SameInts.l0 k l l l.length i) true := by
    intro e
    induction e with
    | zero =>
      intro i h0 hi
      refine ev_step (Ev.now _) fun k => ?_
      simp only [corporaref09_SameInts.l0]
      rw [if_neg (by omega)]
    | succ e ih =>
      intro i h0 hi
      refine ev_step (ih (i + 1) (by omega) (by omega)) fun k => ?_
      simp only [corporaref09_SameInts.l0]
      rw [if_pos (by omega), if_pos h0, if_pos (by omega), if_pos (by omega), if_pos trivial, w64 (by omega) (by omega)]
  exact ev_pos rfl (key l.length 0 (by omega) (by omega))
end Go.Proofs.Ytkanmafjjejpmaa.M
