/- For any heads and token depend.Depth gives what its reference gives, one more than at the head. Conditions: none beyond the statement's own. -/
import Derived.Test.YtkanmafjjejpmaaPx18
import Derived.Test.YtkanmafjjejpmaaM2
namespace Go.Proofs.Ytkanmafjjejpmaa.Pure
open Go.RowKit Go.Proofs.Ytkanmafjjejpmaa.P Go.Proofs.YtkanmafjjejpmaaW.PrintWords Go.Proofs.YtkanmafjjejpmaaW.PrintLast Go.Proofs.Ytkanmafjjejpmaa.M

theorem j0_ev {h : List Int} (hn : h.length ≤ 4096) (a : Int) : Ev (fun k => corporalaw09_DependDepths.j0 k h a (depth h a) false) true := by
  refine ev_step (f := fun k => (corporaref09_Depth.f k h a).bind fun t => if depth h a = t then (corporalaw09_awake.f k).bind fun t => some t else some false) ((rdepth_ev hn a).bind (ev_pos rfl (awake_ev.bind (Ev.now _)))) fun k => ?_
  simp [corporalaw09_DependDepths.j0]

theorem DependDepths : corporalaw09_DependDepths.Pure := by
  intro h a _ _ _ _
  unfold corporalaw09_DependDepths.f
  by_cases c : (h.length : Int) > 100
  · exact ⟨0, by rw [if_pos c]⟩
  · have hn : h.length ≤ 4096 := by omega
    obtain ⟨r, h1, h2, _⟩ := checks_ev hn
    refine Ev.rounds (ev_neg c ((depth_ev hn a).bind (h2.bind ?_)))
    by_cases c1 : r.2 = 0
    · have hO := (chk_ok hn h1).1 c1
      refine ev_pos c1 ?_
      by_cases c2 : 0 ≤ a
      · refine ev_pos c2 ?_
        by_cases c3 : a < h.length
        · refine ev_pos c3 (ev_pos c2 ?_)
          by_cases c4 : rd h a ≥ 0
          · refine ev_pos c4 ((depth_ev hn (rd h a)).bind ?_)
            have hb := depth_bound hn a
            rw [depth_head hO ⟨c2, c3⟩ c4, w64 (by omega) (by omega), bne_self_eq_false]
            exact j0_ev hn a
          · exact ev_neg c4 (j0_ev hn a)
        · exact ev_neg c3 (j0_ev hn a)
      · exact ev_neg c2 (j0_ev hn a)
    · exact ev_neg c1 (j0_ev hn a)

end Go.Proofs.Ytkanmafjjejpmaa.Pure
