/- For any heads and two tokens depend.Path gives what its reference gives. Conditions: none beyond the statement's own. -/
import Derived.Test.YtkanmafjjejpmaaPx20
import Derived.Test.YtkanmafjjejpmaaM3
import Derived.Test.YtkanmafjjejpmaaMs
namespace Go.Proofs.Ytkanmafjjejpmaa.Pure
open Go.RowKit Go.Proofs.Ytkanmafjjejpmaa.P Go.Proofs.YtkanmafjjejpmaaW.PrintWords Go.Proofs.YtkanmafjjejpmaaW.PrintLast Go.Proofs.Ytkanmafjjejpmaa.M

theorem DependPaths : corporalaw09_DependPaths.Pure := by
  intro h a b _ _ _ _ _
  unfold corporalaw09_DependPaths.f
  by_cases c : (h.length : Int) > 100
  · exact ⟨0, by rw [if_pos c]⟩
  · obtain ⟨r, h1, h2, h3⟩ := path_ev (h := h) (by omega) a b
    have hl : r.1.length ≤ 10000 := by
      rcases h1 with ⟨_, rfl⟩ | ⟨_, _, _, _, rfl⟩ | ⟨hO, ha, hb, i, k, _, rfl⟩
      · simp
      · simp
      · have := List.length_take_le (i + 1).toNat (way h a)
        have := List.length_take_le k.toNat (way h b)
        have := List.length_take_le' (i + 1).toNat (way h a)
        have := List.length_take_le' k.toNat (way h b)
        have := way_len hO ha
        have := way_len hO hb
        simp only [joined, List.length_append, List.length_reverse]
        omega
    exact Ev.rounds (ev_neg c (h2.bind (h3.bind ((same_ints (by omega)).bind (ev_pos rfl (ev_pos rfl (awake_ev.bind (Ev.now _))))))))

end Go.Proofs.Ytkanmafjjejpmaa.Pure
