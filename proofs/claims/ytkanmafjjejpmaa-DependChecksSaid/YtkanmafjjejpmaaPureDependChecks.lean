/- For any heads depend.Check gives what its reference gives, and the sanity check holds. Conditions: none beyond the statement's own. -/
import Derived.Test.YtkanmafjjejpmaaPx16
import Derived.Test.YtkanmafjjejpmaaM1
namespace Go.Proofs.Ytkanmafjjejpmaa.Pure
open Go.RowKit Go.Proofs.Ytkanmafjjejpmaa.P Go.Proofs.YtkanmafjjejpmaaW.PrintWords Go.Proofs.YtkanmafjjejpmaaW.PrintLast Go.Proofs.Ytkanmafjjejpmaa.M

theorem DependChecks : corporalaw09_DependChecks.Pure := by
  intro h _ _ _
  unfold corporalaw09_DependChecks.f
  by_cases c : (h.length : Int) > 200
  · exact ⟨0, by rw [if_pos c]⟩
  · obtain ⟨r, _, h2, h3⟩ := checks_ev (h := h) (by omega)
    refine Ev.rounds (ev_neg c (h2.bind (h3.bind ?_)))
    exact ev_pos rfl (ev_pos rfl (awake_ev.bind (Ev.now _)))

end Go.Proofs.Ytkanmafjjejpmaa.Pure
