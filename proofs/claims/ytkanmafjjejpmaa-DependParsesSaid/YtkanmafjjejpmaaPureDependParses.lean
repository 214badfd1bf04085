/- For any text and token count depend.Parse gives what its reference gives. Conditions: none beyond the statement's own. -/
import Derived.Test.YtkanmafjjejpmaaPx31
import Derived.Test.YtkanmafjjejpmaaM7
import Derived.Test.YtkanmafjjejpmaaMs
namespace Go.Proofs.Ytkanmafjjejpmaa.Pure
open Go.RowKit Go.Proofs.Ytkanmafjjejpmaa.P Go.Proofs.YtkanmafjjejpmaaW.PrintWords Go.Proofs.YtkanmafjjejpmaaW.PrintLast Go.Proofs.Ytkanmafjjejpmaa.M

theorem DependParses : corporalaw09_DependParses.Pure := by
  intro s tk _ _
  unfold corporalaw09_DependParses.f
  by_cases c : (s.size : Int) > 1500
  · exact ⟨0, by rw [if_pos c]⟩
  · obtain ⟨R, h1, h2, h3⟩ := parses_ev s tk
    have hl : R.1.length ≤ 1000000000000 ∧ R.2.1.length ≤ 1000000000000 := by
      rcases h3 with ⟨_, a, b, d, e, _⟩ | ⟨_, a, b, _⟩
      · exact ⟨by omega, by omega⟩
      · rw [a, b]; exact ⟨by simp, by simp⟩
    exact Ev.rounds (ev_neg c (h1.bind (h2.bind ((same_ints hl.1).bind (ev_pos rfl ((same_strings hl.2).bind (ev_pos rfl (ev_pos (by simp) (ev_pos rfl (awake_ev.bind (Ev.now _))))))))))) 

end Go.Proofs.Ytkanmafjjejpmaa.Pure
