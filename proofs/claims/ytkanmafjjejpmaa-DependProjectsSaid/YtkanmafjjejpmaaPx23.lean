-- Written by a program of this session (wip/doprint.sh) out of the translation; Lean checks it.
import Derived.Test.YtkanmafjjejpmaaPx0
import Derived.Test.YtkanmafjjejpmaaPx9
import Derived.Test.YtkanmafjjejpmaaPx16
import Derived.Test.YtkanmafjjejpmaaPx22
namespace Go.Proofs.Ytkanmafjjejpmaa.P
open Go.Proofs.Ytkanmafjjejpmaa.S
open Go.Proofs.Ytkanmafjjejpmaa.X
open Go.RowKit Go.Proofs.YtkanmafjjejpmaaW.PrintWords Go.Proofs.YtkanmafjjejpmaaW.PrintLast Go.Proofs.YtkanmafjjejpmaaW.PrintMore
attribute [local go_sem] max2_int min2_int max_two min_two max_three min_three max_four min_four   -- for this text's walks alone
set_option linter.unusedVariables false
set_option linter.unusedSimpArgs false

/-! ### corporalaw09_DependProjects: function 7 -/
def corporalaw09_DependProjects.f (k : Nat) (l0 : List Int) : Option (Bool) := if (l0.length : Int) > 40 then (some true) else ((depend_Projective.f k l0).bind fun t357 => ((corporaref09_Projective.f k l0).bind fun t358 => (if (t357 == t358) = true then ((corporalaw09_awake.f k).bind fun t359 => (some t359)) else (some false))))
theorem corporalaw09_DependProjects.mono : ∀ a0 k, LeO (corporalaw09_DependProjects.f k a0) (corporalaw09_DependProjects.f (k + 1) a0) := by
 intro a0 k
 unfold corporalaw09_DependProjects.f
 with_reducible repeat' first | exact corporalaw09_awake.mono _ | exact corporaref09_Projective.mono _ _ | exact depend_Projective.mono _ _ | exact LeO.refl _ | exact LeO.none _ | refine LeO.ite ?_ ?_ | refine LeO.bind ?_ (fun _ => ?_)
set_option maxHeartbeats 8000000 in
set_option maxRecDepth 100000 in
theorem corporalaw09_DependProjects.calls (k : Nat) (A0 : Option Addr) (c0 : Nat) (l0 : List Int) (r : Bool) (w : World) (hr0 : Kd.C (Kd.int .i64) w A0 l0.length l0) (hc0 : l0.length ≤ c0) (h : corporalaw09_DependProjects.f k l0 = some r) :
 Calls Try.prog 7 #[.slice A0 l0.length c0] w fun e w' => e = .returned (.bool r) ∧ Below w.heap.size w w' := by
 have HR0 := Aside0.mk hr0
 have HC0 := Aside0.mk hc0
 clear hr0 hc0
 have HB := Aside0.mk (Below.refl w.heap.size w)
 have H : (if (l0.length : Int) > 40 then (some true) else ((depend_Projective.f k l0).bind fun t357 => ((corporaref09_Projective.f k l0).bind fun t358 => (if (t357 == t358) = true then ((corporalaw09_awake.f k).bind fun t359 => (some t359)) else (some false))))) = some r := h
 clear h
 by_cases c2 : (l0.length : Int) > 40
 ·
  rw [if_pos c2] at H
  have c2b0 : decide (40 < (l0.length : Int)) = true := decide_eq_true c2
  have c2b1 : decide (40 < l0.length) = true := decide_eq_true (by omega)
  clear c2
  obtain rfl := Option.some.inj H
  go_enter Try.func7, Try.ntmps7
  go_wp2
  go_ret
  exact ⟨BX, BB⟩
 ·
  rw [if_neg c2] at H
  have c2b0 : decide (40 < (l0.length : Int)) = false := decide_eq_false c2
  have c2b1 : decide (40 < l0.length) = false := decide_eq_false (by omega)
  clear c2
  replace H := Option.bind_eq_some_iff.mp H
  obtain ⟨t357, A30, H⟩ := H
  replace H : ((corporaref09_Projective.f k l0).bind fun t358 => (if (t357 == t358) = true then ((corporalaw09_awake.f k).bind fun t359 => (some t359)) else (some false))) = some r := H
  have A3 := Aside0.mk A30
  clear A30
  replace H := Option.bind_eq_some_iff.mp H
  obtain ⟨t358, A40, H⟩ := H
  replace H : (if (t357 == t358) = true then ((corporalaw09_awake.f k).bind fun t359 => (some t359)) else (some false)) = some r := H
  have A4 := Aside0.mk A40
  clear A40
  by_cases c5 : (t357 == t358) = true
  ·
   rw [if_pos c5] at H
   have c5b0 : (t357 == t358) = true := c5
   (try (have c5b1 : decide (t357 = t358) = true := by simpa using c5))
   (try (have c5b2 : (t357 == t358) = true := by simpa using c5))
   clear c5
   replace H := Option.bind_eq_some_iff.mp H
   obtain ⟨t359, A60, H⟩ := H
   replace H : (some t359) = some r := H
   have A6 := Aside0.mk A60
   clear A60
   obtain rfl := Option.some.inj H
   go_enter Try.func7, Try.ntmps7
   go_wp2_with (first | ((with_reducible refine gate_callee (f := 19) rfl ?_); refine goesL_ (some 7) rfl rfl Try.func19 (by kernel_rfl) rfl #[.slice A0 l0.length c0] rfl BM ?_; (with_reducible refine (depend_Projective.calls k _ _ l0 t357 _ ?side1 ?side2 A3.out).mono ?_); (case side1 => exact BK HR0.out); (case side2 => exact HC0.out); rintro e w7 ⟨rfl, hb⟩; refine ⟨_, rfl, ?_⟩; have n0_ := Aside0.mk (below_step (BB) hb); clear HB; have HB := n0_; clear n0_; (try clear hb); (try clear hb2); (try clear hk); (try clear hi)) | ((with_reducible refine gate_callee (f := 20) rfl ?_); refine goesL_ (some 9) rfl rfl Try.func20 (by kernel_rfl) rfl #[.slice A0 l0.length c0] rfl BM ?_; (with_reducible refine (corporaref09_Projective.calls k _ _ l0 t358 _ ?side1 ?side2 A4.out).mono ?_); (case side1 => exact BC HR0.out); (case side2 => exact HC0.out); rintro e w8 ⟨rfl, hb⟩; refine ⟨_, rfl, ?_⟩; have n0_ := Aside0.mk (below_step (BB) hb); clear HB; have HB := n0_; clear n0_; (try clear hb); (try clear hb2); (try clear hk); (try clear hi)) | (go_at_call 13; (with_reducible refine (corporalaw09_awake.calls k  t359 _ A6.out).mono ?_); rintro e w9 ⟨rfl, hb⟩; have n0_ := Aside0.mk (below_step (BB) hb); clear HB; have HB := n0_; clear n0_; (try clear hb); (try clear hb2); (try clear hk); (try clear hi)))
   go_ret
   exact ⟨BX, BB⟩
  ·
   rw [if_neg c5] at H
   have c5b0 : (t357 == t358) = false := by simpa using c5
   (try (have c5b1 : decide (t357 = t358) = false := by simpa using c5))
   (try (have c5b2 : (t357 == t358) = false := by simpa using c5))
   (try (have c5b3 : ¬ (t357 = t358) := by simpa using c5))
   clear c5
   obtain rfl := Option.some.inj H
   go_enter Try.func7, Try.ntmps7
   go_wp2_with (first | ((with_reducible refine gate_callee (f := 19) rfl ?_); refine goesL_ (some 7) rfl rfl Try.func19 (by kernel_rfl) rfl #[.slice A0 l0.length c0] rfl BM ?_; (with_reducible refine (depend_Projective.calls k _ _ l0 t357 _ ?side1 ?side2 A3.out).mono ?_); (case side1 => exact BK HR0.out); (case side2 => exact HC0.out); rintro e w10 ⟨rfl, hb⟩; refine ⟨_, rfl, ?_⟩; have n0_ := Aside0.mk (below_step (BB) hb); clear HB; have HB := n0_; clear n0_; (try clear hb); (try clear hb2); (try clear hk); (try clear hi)) | ((with_reducible refine gate_callee (f := 20) rfl ?_); refine goesL_ (some 9) rfl rfl Try.func20 (by kernel_rfl) rfl #[.slice A0 l0.length c0] rfl BM ?_; (with_reducible refine (corporaref09_Projective.calls k _ _ l0 t358 _ ?side1 ?side2 A4.out).mono ?_); (case side1 => exact BC HR0.out); (case side2 => exact HC0.out); rintro e w11 ⟨rfl, hb⟩; refine ⟨_, rfl, ?_⟩; have n0_ := Aside0.mk (below_step (BB) hb); clear HB; have HB := n0_; clear n0_; (try clear hb); (try clear hb2); (try clear hk); (try clear hi)))
   go_ret
   exact ⟨BX, BB⟩

/-- THE ONE PURE STATEMENT of corporalaw09_DependProjects: yours. -/
def corporalaw09_DependProjects.Pure : Prop := ∀ (l0 : List Int), l0.length ≤ maxLen → l0.length * 8 ≤ 140737488351232 → (∀ x ∈ l0, (Lit.int .i64 x).wf = true) → ∃ k, corporalaw09_DependProjects.f k l0 = some true
theorem corporalaw09_DependProjects.walk (P : corporalaw09_DependProjects.Pure) (a0 : Option Addr) (len0 cap0 : Nat) (z0 : List Int) (w : World) (w0 : (a0 = none ∧ len0 = 0 ∧ cap0 = 0 ∧ z0 = []) ∨ ∃ x, a0 = some x ∧ len0 ≤ cap0 ∧ cap0 ≤ maxLen ∧ z0.length = cap0 ∧ (∀ i, i < z0.length → w.cell? (x.add i) = some (.int .i64 (z0.getD i 0))) ∧ ∀ n ∈ z0, (Lit.int .i64 n).wf = true) (y0 : len0 * 8 ≤ 140737488351232) :
 Calls Try.prog 7 #[.slice a0 len0 cap0] w fun e w' => e = .returned (.bool true) ∧ Below w.heap.size w w' := by
 obtain ⟨l0, rfl, hr0, hm0, hw0, hc0⟩ := ReadsInt.ofRowC w0
 obtain ⟨k, h⟩ := P l0 hm0 y0 hw0
 refine (corporalaw09_DependProjects.calls k _ _ l0 true w (Kd.C_of_reads (d := (0 : Int)) (h1 := fun _ => rfl) hr0) hc0 h).mono ?_
 rintro e w' ⟨rfl, hd⟩
 exact ⟨rfl, hd⟩

end Go.Proofs.Ytkanmafjjejpmaa.P
