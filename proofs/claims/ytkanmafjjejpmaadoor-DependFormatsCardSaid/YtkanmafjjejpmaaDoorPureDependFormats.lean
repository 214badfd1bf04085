/- For any heads and relations depend.Format gives what its reference gives. Conditions: none beyond the statement's own. -/
import Derived.Test.YtkanmafjjejpmaaDoorPx25
import Derived.Test.YtkanmafjjejpmaaDoorM3
namespace Go.Proofs.YtkanmafjjejpmaaDoor.Pure
open Go.RowKit Go.Proofs.YtkanmafjjejpmaaDoor.P Go.Proofs.YtkanmafjjejpmaaDoorW.PrintWords Go.Proofs.YtkanmafjjejpmaaDoorW.PrintLast Go.Proofs.YtkanmafjjejpmaaDoor.M

theorem DependFormats (h : List Int) (rl : List ByteArray) : ∃ k, corporalaw09_DependFormats.f k h rl = some true := by
  unfold corporalaw09_DependFormats.f
  have no : Ev (fun k => corporalaw09_DependFormats.j0 k h rl true) true := ev_step (Ev.now _) fun k => by simp [corporalaw09_DependFormats.j0]
  refine Ev.rounds ?_
  by_cases c : (h.length : Int) > 100
  · exact ev_pos c no
  refine ev_neg c ?_
  by_cases c2 : (rl.length : Int) > 110
  · rw [show decide ((rl.length : Int) > 110) = true from decide_eq_true c2]; exact no
  rw [show decide ((rl.length : Int) > 110) = false from decide_eq_false c2]
  obtain ⟨R, h1, h2, _⟩ := formats_ev (h := h) (rl := rl) (by omega)
  refine ev_step (h1.bind (f := fun k a => (corporaref09_Format.f k h rl).bind fun b => if a.1.toList = b.1.toList then (if a.2 = b.2 then ((corporalaw09_awake.f k).bind fun t => (some t)) else (some false)) else (some false)) (h2.bind (ev_pos rfl (ev_pos rfl (awake_ev.bind (Ev.now _)))))) fun k => ?_
  simp only [corporalaw09_DependFormats.j0, Bool.false_eq_true, if_false]
end Go.Proofs.YtkanmafjjejpmaaDoor.Pure
