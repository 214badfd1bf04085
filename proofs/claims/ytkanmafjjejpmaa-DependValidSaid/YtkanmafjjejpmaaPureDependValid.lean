/- For any text and token count what depend.Parse accepts depend.Check accepts, and its position is one of the text. Conditions: none beyond the statement's own. -/
import Derived.Test.YtkanmafjjejpmaaPx32
import Derived.Test.YtkanmafjjejpmaaM7
namespace Go.Proofs.Ytkanmafjjejpmaa.Pure
open Go.RowKit Go.Proofs.Ytkanmafjjejpmaa.P Go.Proofs.YtkanmafjjejpmaaW.PrintWords Go.Proofs.YtkanmafjjejpmaaW.PrintLast Go.Proofs.Ytkanmafjjejpmaa.M

theorem valid_l0 {s : ByteArray} (hs : s.size ≤ 1500) {p q : Int} {a : Int} (h0 : 0 ≤ a) (h1 : a ≤ s.size) (hp : (p, q) = posn s a) (e : Nat) :
    ∀ i : Int, 0 ≤ i → i + e = a → Ev (fun k => corporalaw09_DependValid.l0 k s [] [] i p q) true := by
  have step : ∀ (i : Int), 0 ≤ i → i ≤ s.size → Ev (fun k => if ((posn s i).1 == p && (posn s i).2 == q) = true then (corporalaw09_awake.f k).bind fun t => some t else corporalaw09_DependValid.l0 k s [] [] (i + 1) p q) true → Ev (fun k => corporalaw09_DependValid.l0 k s [] [] i p q) true := by
    intro i hi hi1 hR
    refine ev_step hR fun k => ?_
    simp only [corporalaw09_DependValid.l0]
    rw [if_pos hi1, w64 (x := i + 1) (by omega) (by omega)]
    rfl
  induction e with
  | zero =>
    intro i hi hj
    obtain rfl : i = a := by omega
    refine step i hi h1 (ev_pos ?_ (awake_ev.bind (Ev.now _)))
    rw [← hp]; simp
  | succ e ih =>
    intro i hi hj
    by_cases c : ((posn s i).1 == p && (posn s i).2 == q) = true
    · exact step i hi (by omega) (ev_pos c (awake_ev.bind (Ev.now _)))
    · exact step i hi (by omega) (ev_neg c (ih (i + 1) (by omega) (by omega)))

theorem DependValid : corporalaw09_DependValid.Pure := by
  intro s tk _ _
  unfold corporalaw09_DependValid.f
  have no : Ev (fun k => corporalaw09_DependValid.j0 k s tk true) true := ev_step (Ev.now _) fun k => by simp [corporalaw09_DependValid.j0]
  refine Ev.rounds ?_
  by_cases c : (s.size : Int) > 1500
  · exact ev_pos c no
  by_cases c1 : tk < 0
  · exact ev_neg c (ev_pos c1 no)
  refine ev_neg c (ev_neg c1 ?_)
  by_cases c2 : tk > 300
  · rw [show decide (tk > 300) = true from decide_eq_true c2]; exact no
  rw [show decide (tk > 300) = false from decide_eq_false c2]
  obtain ⟨R, h1, h2, h3⟩ := parses_ev s tk
  have st : Ev (fun k => if R.2.2.2.2 = 0 then (depend_Check.f k R.1).bind fun b => (if b.2 = 0 then (if (R.1.length : Int) = tk then (if (R.2.1.length : Int) = tk then (if (R.2.2.1 == 0 && (R.2.2.2.1 == 0)) = true then ((corporalaw09_awake.f k).bind fun t => (some t)) else (some false)) else (some false)) else (some false)) else (some false)) else corporalaw09_DependValid.l0 k s R.1 R.2.1 0 R.2.2.1 R.2.2.2.1) true → Ev (fun k => corporalaw09_DependValid.j0 k s tk false) true := fun hR => by
    refine ev_step (Ev.bind (f := fun k (R : List Int × List ByteArray × Int × Int × Int) => if R.2.2.2.2 = 0 then (depend_Check.f k R.1).bind fun b => (if b.2 = 0 then (if (R.1.length : Int) = tk then (if (R.2.1.length : Int) = tk then (if (R.2.2.1 == 0 && (R.2.2.2.1 == 0)) = true then ((corporalaw09_awake.f k).bind fun t => (some t)) else (some false)) else (some false)) else (some false)) else (some false)) else corporalaw09_DependValid.l0 k s R.1 R.2.1 0 R.2.2.1 R.2.2.2.1) h1 hR) fun k => ?_
    simp only [corporalaw09_DependValid.j0, Bool.false_eq_true, if_false]
  refine st ?_
  rcases h3 with ⟨g1, _, _, g2, g3, g4, g5, g6⟩ | ⟨g1, g2, g3, g4⟩
  · obtain ⟨r, k1, k2, _⟩ := checks_ev g6.1
    have k3 := (chk_ok g6.1 k1).2 g6
    have e0 : (R.2.2.1 == 0 && (R.2.2.2.1 == 0)) = true := by rw [g4, g5]; rfl
    exact ev_pos g1 (k2.bind (ev_pos k3 (ev_pos g2 (ev_pos g3 (ev_pos e0 (awake_ev.bind (Ev.now _)))))))
  · rcases g4 with ⟨_, g5⟩ | ⟨a, a0, a1, ap⟩
    · exfalso; omega
    · rw [g2, g3]
      exact ev_neg g1 (valid_l0 (by omega) a0 a1 ap a.toNat 0 (by omega) (by omega))

end Go.Proofs.Ytkanmafjjejpmaa.Pure
