/- Short words for steps that the printed walks take often: each takes what it is given and finds the rest by the tactic that stands in it. No condition. -/
import Derived.Test.YtkanmafjjejpmaaDoorWAll
namespace Go.Proofs.YtkanmafjjejpmaaDoor.S
open Go.RowKit Go.Proofs.YtkanmafjjejpmaaDoorW.PrintWords Go.Proofs.YtkanmafjjejpmaaDoorW.PrintLast Go.Proofs.YtkanmafjjejpmaaDoorW.PrintMore
theorem BB {P : Prop} (h : P := by repeat (first | (with_reducible first | exact HB.out | apply below_alloc | apply pw_below_drewN | apply below_drew1) | exact HB.out)) : P := h
theorem BS {P R : Prop} (g : R) (h : R → P := by intro ge_; repeat (first | (with_reducible first | exact HB.out | apply below_alloc | apply pw_below_drewN | apply below_drew1 | refine below_set ?_ ge_) | exact HB.out)) : P := h g
theorem BS2 {P R R' : Prop} (g : R) (g' : R') (h : R → R' → P := by intro ge_ gf_; repeat (first | (with_reducible first | exact HB.out | apply below_alloc | apply pw_below_drewN | apply below_drew1 | refine below_set ?_ ge_ | refine below_set ?_ gf_) | exact HB.out)) : P := h g g'
theorem BR {P Q : Prop} (q : Q) (h : Q → P := by intro q_; (with_reducible repeat (first | apply Kd.R_alloc | apply Kd.R_drewN | apply Kd.R_drew)); exact q_) : P := h q
theorem OD {p : Prop} [Decidable p] (h : decide p = true := by first | (with_reducible assumption) | assumption) : p := of_decide_eq_true h
theorem BM {P : Prop} (h : P := by (try simp only [List.map_toArray, List.map_cons, List.map_nil]); first | done | rfl | (simp only [List.length_drop, List.length_take]; rfl)) : P := h
theorem BC {P Q : Prop} (q : Q) (h : Q → P := by intro q_; repeat (first | exact (Kd.C_below q_ HB.out) | (with_reducible refine Kd.C_alloc ?_ _) | (with_reducible refine Kd.C_drewN ?_ _) | (with_reducible refine Kd.C_drew ?_))) : P := h q
theorem BK {P Q : Prop} (q : Q) (h : Q → P := by intro q_; repeat (first | exact q_ | (with_reducible refine Kd.C_alloc ?_ _) | (with_reducible refine Kd.C_drewN ?_ _) | (with_reducible refine Kd.C_drew ?_))) : P := h q
theorem BE {P : Prop} (h : P := by first | rfl | (simp; done) | (simp [*]; done)) : P := h
theorem BX {P : Prop} (h : P := by first | rfl | (simp [errW_none, errW_some] <;> rfl) | (simp [*, errW_none, errW_some] <;> rfl)) : P := h
theorem BD {P : Prop} (h : P := by repeat (first | exact Drawn0.refl _ | apply Drawn0.step)) : P := h
theorem AB {P : Prop} (h : none = some P) : False := by cases h
end Go.Proofs.YtkanmafjjejpmaaDoor.S
