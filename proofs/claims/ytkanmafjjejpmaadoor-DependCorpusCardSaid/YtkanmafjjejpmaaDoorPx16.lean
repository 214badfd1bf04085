-- Written by a program of this session (wip/doprint.sh) out of the translation; Lean checks it.
import Derived.Test.YtkanmafjjejpmaaDoorPx0
import Derived.Test.YtkanmafjjejpmaaDoorPx13
import Derived.Test.YtkanmafjjejpmaaDoorPx14
namespace Go.Proofs.YtkanmafjjejpmaaDoor.P
open Go.Proofs.YtkanmafjjejpmaaDoor.S
open Go.Proofs.YtkanmafjjejpmaaDoor.X
open Go.RowKit Go.Proofs.YtkanmafjjejpmaaDoorW.PrintWords Go.Proofs.YtkanmafjjejpmaaDoorW.PrintLast Go.Proofs.YtkanmafjjejpmaaDoorW.PrintMore
attribute [local go_sem] max2_int min2_int max_two min_two max_three min_three max_four min_four   -- for this text's walks alone
set_option linter.unusedVariables false
set_option linter.unusedSimpArgs false

/-! ### depend_Depth: function 20 -/
def depend_Depth.f (k : Nat) (l0 : List Int) (a1 : Int) : Option (Int) := (depend_usable.f k l0 a1).bind fun t237 => (if t237 = true then ((depend_way.f k l0 a1).bind fun t238 => (some (wrap64 ((t238.length : Int) - 1)))) else (some (-1)))
theorem depend_Depth.mono : ∀ a0 a1 k, LeO (depend_Depth.f k a0 a1) (depend_Depth.f (k + 1) a0 a1) := by
 intro a0 a1 k
 unfold depend_Depth.f
 with_reducible repeat' first | exact depend_usable.mono _ _ _ | exact depend_way.mono _ _ _ | exact LeO.refl _ | exact LeO.none _ | refine LeO.ite ?_ ?_ | refine LeO.bind ?_ (fun _ => ?_)
set_option maxHeartbeats 8000000 in
set_option maxRecDepth 100000 in
theorem depend_Depth.calls (k : Nat) (A0 : Option Addr) (c0 : Nat) (l0 : List Int) (a1 : Int) (r : Int) (w : World) (hr0 : Kd.C (Kd.int .i64) w A0 l0.length l0) (hc0 : l0.length ≤ c0) (h : depend_Depth.f k l0 a1 = some r) :
 Calls Tryd.prog 20 #[.slice A0 l0.length c0, .int .i64 a1] w fun e w' => e = .returned (.int .i64 r) ∧ Below w.heap.size w w' := by
 have HR0 := Aside0.mk hr0
 have HC0 := Aside0.mk hc0
 clear hr0 hc0
 have HB := Aside0.mk (Below.refl w.heap.size w)
 have H : ((depend_usable.f k l0 a1).bind fun t237 => (if t237 = true then ((depend_way.f k l0 a1).bind fun t238 => (some (wrap64 ((t238.length : Int) - 1)))) else (some (-1)))) = some r := h
 clear h
 replace H := Option.bind_eq_some_iff.mp H
 obtain ⟨t237, A30, H⟩ := H
 replace H : (if t237 = true then ((depend_way.f k l0 a1).bind fun t238 => (some (wrap64 ((t238.length : Int) - 1)))) else (some (-1))) = some r := H
 have A3 := Aside0.mk A30
 clear A30
 by_cases c4 : t237 = true
 ·
  subst c4
  have H1 : ((depend_way.f k l0 a1).bind fun t238 => (some (wrap64 ((t238.length : Int) - 1)))) = some r := by rw [if_pos rfl] at H; exact H
  clear H
  have H := H1
  clear H1
  replace H := Option.bind_eq_some_iff.mp H
  obtain ⟨t238, A50, H⟩ := H
  replace H : (some (wrap64 ((t238.length : Int) - 1))) = some r := H
  have A5 := Aside0.mk A50
  clear A50
  obtain rfl := Option.some.inj H
  go_enter Tryd.func20, Tryd.ntmps20
  go_wp2_with (first | ((with_reducible refine gate_callee (f := 37) rfl ?_); refine goesL_ (some 7) rfl rfl Tryd.func37 (by kernel_rfl) rfl #[.slice A0 l0.length c0, .int .i64 a1] rfl BM ?_; (with_reducible refine (depend_usable.calls k _ _ l0 a1 true _ ?side1 ?side2 A3.out).mono ?_); (case side1 => exact BK HR0.out); (case side2 => exact HC0.out); rintro e w6 ⟨rfl, hb⟩; refine ⟨_, rfl, ?_⟩; have n0_ := Aside0.mk (below_step (BB) hb); clear HB; have HB := n0_; clear n0_; (try clear hb); (try clear hb2); (try clear hk); (try clear hi)) | ((with_reducible refine gate_callee (f := 38) rfl ?_); refine goesL_ (some 11) rfl rfl Tryd.func38 (by kernel_rfl) rfl #[.slice A0 l0.length c0, .int .i64 a1] rfl BM ?_; (with_reducible refine (depend_way.calls k _ _ l0 a1 t238 _ ?side1 ?side2 A5.out).mono ?_); (case side1 => exact BC HR0.out); (case side2 => exact HC0.out); rintro e w7 ⟨v239, rfl, ho0, hb⟩; refine ⟨_, rfl, ?_⟩; have n0_ := Aside0.mk (Kd.R_lower ho0 (below_size (BB))); have n1_ := Aside0.mk (below_step (BB) hb); clear HB; have HO240 := n0_; have HB := n1_; clear n0_ n1_; (try clear hb); (try clear hb2); (try clear hk); (try clear hi); (try clear ho0); obtain ⟨Ao8, co8, eo8⟩ := Kd.R_slice HO240.out; subst eo8))
  go_ret
  exact ⟨BX, BB⟩
 ·
  replace c4 := Bool.eq_false_iff.mpr c4
  subst c4
  have H1 : (some (-1)) = some r := by rw [if_neg (show ¬ (false = true) by decide)] at H; exact H
  clear H
  have H := H1
  clear H1
  obtain rfl := Option.some.inj H
  go_enter Tryd.func20, Tryd.ntmps20
  go_wp2_with (first | ((with_reducible refine gate_callee (f := 37) rfl ?_); refine goesL_ (some 7) rfl rfl Tryd.func37 (by kernel_rfl) rfl #[.slice A0 l0.length c0, .int .i64 a1] rfl BM ?_; (with_reducible refine (depend_usable.calls k _ _ l0 a1 false _ ?side1 ?side2 A3.out).mono ?_); (case side1 => exact BK HR0.out); (case side2 => exact HC0.out); rintro e w9 ⟨rfl, hb⟩; refine ⟨_, rfl, ?_⟩; have n0_ := Aside0.mk (below_step (BB) hb); clear HB; have HB := n0_; clear n0_; (try clear hb); (try clear hb2); (try clear hk); (try clear hi)))
  go_ret
  exact ⟨BX, BB⟩

end Go.Proofs.YtkanmafjjejpmaaDoor.P
