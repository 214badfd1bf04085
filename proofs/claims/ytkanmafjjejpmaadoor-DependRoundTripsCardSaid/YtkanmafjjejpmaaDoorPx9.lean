-- Written by a program of this session (wip/doprint.sh) out of the translation; Lean checks it.
import Derived.Test.YtkanmafjjejpmaaDoorPx0
import Derived.Test.YtkanmafjjejpmaaDoorPx8
namespace Go.Proofs.YtkanmafjjejpmaaDoor.P
open Go.Proofs.YtkanmafjjejpmaaDoor.S
open Go.Proofs.YtkanmafjjejpmaaDoor.X
open Go.RowKit Go.Proofs.YtkanmafjjejpmaaDoorW.PrintWords Go.Proofs.YtkanmafjjejpmaaDoorW.PrintLast Go.Proofs.YtkanmafjjejpmaaDoorW.PrintMore
attribute [local go_sem] max2_int min2_int max_two min_two max_three min_three max_four min_four   -- for this text's walks alone
set_option linter.unusedVariables false
set_option linter.unusedSimpArgs false

/-! ### corporaref09_Check: function 16 -/
mutual
def corporaref09_Check.l0 : Nat → List Int → List Int → Int → Int → Option (Int × Int)
  | 0, _, _, _, _ => none
  | k + 1, x0, x10, x11, x12 => if x12 < x11 then (if 0 ≤ x12 then (if x12 < (x10.length : Int) then (if (rd x10 x12) < (-1) then (some (x12, 8)) else (if (rd x10 x12) ≥ (x0.length : Int) then (some (x12, 8)) else (corporaref09_Check.l0 k x0 x10 x11 (wrap64 (x12 + 1))))) else (none)) else (none)) else (corporaref09_Check.l1 k x0 (x0.length : Int) 0)
def corporaref09_Check.l1 : Nat → List Int → Int → Int → Option (Int × Int)
  | 0, _, _, _ => none
  | k + 1, x0, x28, x29 => if x29 < x28 then ((corporaref09_cyclic.f k x0 x29).bind fun t172 => (if t172 = true then (some (x29, 12)) else (corporaref09_Check.l1 k x0 x28 (wrap64 (x29 + 1))))) else (some (0, 0))
end
def corporaref09_Check.f (k : Nat) (l0 : List Int) : Option (Int × Int) := if (l0.length : Int) > 4096 then (some (0, 2)) else (corporaref09_Check.l0 k l0 l0 (l0.length : Int) 0)
theorem corporaref09_Check.mono_l : ∀ k, (∀ y0 y1 y2 y3, LeO (corporaref09_Check.l0 k y0 y1 y2 y3) (corporaref09_Check.l0 (k + 1) y0 y1 y2 y3)) ∧ (∀ y0 y1 y2, LeO (corporaref09_Check.l1 k y0 y1 y2) (corporaref09_Check.l1 (k + 1) y0 y1 y2))
 | 0 => ⟨fun _ _ _ _ r h => by simp [corporaref09_Check.l0] at h, fun _ _ _ r h => by simp [corporaref09_Check.l1] at h⟩
 | k + 1 => by
  obtain ⟨ih0, ih1⟩ := corporaref09_Check.mono_l k
  refine ⟨?_, ?_⟩
  ·
   intro y0 y1 y2 y3
   unfold corporaref09_Check.l0
   with_reducible repeat' first | exact ih0 _ _ _ _ | exact ih1 _ _ _ | exact corporaref09_cyclic.mono _ _ _ | exact LeO.refl _ | exact LeO.none _ | refine LeO.ite ?_ ?_ | refine LeO.bind ?_ (fun _ => ?_)
  ·
   intro y0 y1 y2
   unfold corporaref09_Check.l1
   with_reducible repeat' first | exact ih0 _ _ _ _ | exact ih1 _ _ _ | exact corporaref09_cyclic.mono _ _ _ | exact LeO.refl _ | exact LeO.none _ | refine LeO.ite ?_ ?_ | refine LeO.bind ?_ (fun _ => ?_)
theorem corporaref09_Check.mono : ∀ a0 k, LeO (corporaref09_Check.f k a0) (corporaref09_Check.f (k + 1) a0) := by
 intro a0 k
 obtain ⟨ih0, ih1⟩ := corporaref09_Check.mono_l k
 unfold corporaref09_Check.f
 with_reducible repeat' first | exact ih0 _ _ _ _ | exact ih1 _ _ _ | exact corporaref09_cyclic.mono _ _ _ | exact LeO.refl _ | exact LeO.none _ | refine LeO.ite ?_ ?_ | refine LeO.bind ?_ (fun _ => ?_)
set_option maxHeartbeats 8000000 in
set_option maxRecDepth 100000 in
theorem corporaref09_Check.calls (k : Nat) (A0 : Option Addr) (c0 : Nat) (l0 : List Int) (r1 : Int) (r2 : Int) (w : World) (hr0 : Kd.C (Kd.int .i64) w A0 l0.length l0) (hc0 : l0.length ≤ c0) (h : corporaref09_Check.f k l0 = some (r1, r2)) :
 Calls Tryd.prog 16 #[.slice A0 l0.length c0] w fun e w' => e = .returned (.tuple #[.int .i64 r1, .int .i64 r2]) ∧ Drawn0 w w' := by
 have HR0 := Aside0.mk hr0
 have HC0 := Aside0.mk hc0
 clear hr0 hc0
 have H : (if (l0.length : Int) > 4096 then (some (0, 2)) else (corporaref09_Check.l0 k l0 l0 (l0.length : Int) 0)) = some (r1, r2) := h
 clear h
 by_cases c2 : (l0.length : Int) > 4096
 ·
  rw [if_pos c2] at H
  have c2b0 : decide (4096 < (l0.length : Int)) = true := decide_eq_true c2
  have c2b1 : decide (4096 < l0.length) = true := decide_eq_true (by omega)
  clear c2
  simp only [Option.some.injEq, Prod.mk.injEq] at H
  obtain ⟨rfl, rfl⟩ := H
  go_enter Tryd.func16, Tryd.ntmps16
  go_wp2
  go_ret2
  exact ⟨BE, BD⟩
 ·
  rw [if_neg c2] at H
  have c2b0 : decide (4096 < (l0.length : Int)) = false := decide_eq_false c2
  have c2b1 : decide (4096 < l0.length) = false := decide_eq_false (by omega)
  clear c2
  have H' := Aside0.mk H
  clear H
  go_enter Tryd.func16, Tryd.ntmps16
  go_wp2
  go_loopg [12] k (fun kq v12 w' => ∃ (x12_1 : Int), v12 = .int .i64 x12_1 ∧ Aside0 (corporaref09_Check.l0 kq l0 l0 (l0.length : Int) x12_1 = some (r1, r2)) ∧ Aside0 (kq ≤ k) ∧ Drawn0 w w')
  case atStart => exact ⟨(0), (BE), H', ⟨Nat.le_refl _⟩, BD⟩
  case round =>
   clear H'
   (try clear c1); (try clear c2); (try clear c2b0); (try clear c2b1); (try clear p2)
   obtain ⟨x12_1, rfl, HA, HK1, ⟨m1, rfl⟩⟩ := hrel
   cases gk with
   | zero => exact absurd HA.out (by simp [corporaref09_Check.l0])
   | succ k1 =>
    have H := HA.out
    clear HA
    simp only [corporaref09_Check.l0] at H
    by_cases c3 : x12_1 < (l0.length : Int)
    ·
     rw [if_pos c3] at H
     have c3b0 : decide (x12_1 < (l0.length : Int)) = true := decide_eq_true c3
     clear c3
     by_cases c4 : 0 ≤ x12_1
     ·
      rw [if_pos c4] at H
      have c4b0 : decide (0 ≤ x12_1) = true := decide_eq_true c4
      clear c4
      by_cases c5 : x12_1 < (l0.length : Int)
      ·
       rw [if_pos c5] at H
       have c5b0 : decide (x12_1 < (l0.length : Int)) = true := decide_eq_true c5
       clear c5
       by_cases c6 : (rd l0 x12_1) < (-1)
       ·
        rw [if_pos c6] at H
        have c6b0 : decide ((rd l0 x12_1) < (-1)) = true := decide_eq_true c6
        clear c6
        simp only [Option.some.injEq, Prod.mk.injEq] at H
        obtain ⟨rfl, rfl⟩ := H
        have p171 : 0 ≤ (x12_1 : Int) := OD
        have q171 : x12_1 < (l0.length : Int) := OD
        obtain ⟨ad171, e171, hx171_0⟩ := Kd.at_int HR0.out x12_1 p171 q171
        cases e171
        replace p171 := eq_true p171
        replace q171 := eq_true q171
        go_wp2
        go_ret2
        exact ⟨BE, BD⟩
       ·
        rw [if_neg c6] at H
        have c6b0 : decide ((rd l0 x12_1) < (-1)) = false := decide_eq_false c6
        clear c6
        by_cases c7 : (rd l0 x12_1) ≥ (l0.length : Int)
        ·
         rw [if_pos c7] at H
         have c7b0 : decide ((l0.length : Int) ≤ (rd l0 x12_1)) = true := decide_eq_true c7
         clear c7
         simp only [Option.some.injEq, Prod.mk.injEq] at H
         obtain ⟨rfl, rfl⟩ := H
         have p171 : 0 ≤ (x12_1 : Int) := OD
         have q171 : x12_1 < (l0.length : Int) := OD
         obtain ⟨ad171, e171, hx171_0⟩ := Kd.at_int HR0.out x12_1 p171 q171
         cases e171
         replace p171 := eq_true p171
         replace q171 := eq_true q171
         go_wp2
         go_ret2
         exact ⟨BE, BD⟩
        ·
         rw [if_neg c7] at H
         have c7b0 : decide ((l0.length : Int) ≤ (rd l0 x12_1)) = false := decide_eq_false c7
         clear c7
         have H' := Aside0.mk H
         clear H
         have p171 : 0 ≤ (x12_1 : Int) := OD
         have q171 : x12_1 < (l0.length : Int) := OD
         obtain ⟨ad171, e171, hx171_0⟩ := Kd.at_int HR0.out x12_1 p171 q171
         cases e171
         replace p171 := eq_true p171
         replace q171 := eq_true q171
         go_wp2
         go_roundg k1
         case measure => have := HK1.out; omega
         case rel => exact ⟨(wrap64 (x12_1 + 1)), (BE), H', ⟨by have := HK1.out; omega⟩, BD⟩
      ·
       rw [if_neg c5] at H
       exact absurd H (by simp)
     ·
      rw [if_neg c4] at H
      exact absurd H (by simp)
    ·
     rw [if_neg c3] at H
     have c3b0 : decide (x12_1 < (l0.length : Int)) = false := decide_eq_false c3
     clear c3
     have H' := Aside0.mk H
     clear H
     go_wp2
     go_loopg [29] k1 (fun kq v29 w' => ∃ (x29_2 : Int), v29 = .int .i64 x29_2 ∧ Aside0 (corporaref09_Check.l1 kq l0 (l0.length : Int) x29_2 = some (r1, r2)) ∧ Aside0 (kq ≤ k1) ∧ Drawn0 w w')
     case atStart => exact ⟨(0), (BE), H', ⟨Nat.le_refl _⟩, BD⟩
     case round =>
      clear H'
      (try clear c1); (try clear p1); (try clear q1); (try clear hx1); (try clear c2); (try clear c2b0); (try clear c2b1); (try clear p2); (try clear c3); (try clear c3b0); (try clear c4); (try clear c4b0); (try clear c5)
      (try clear c5b0); (try clear c6); (try clear c6b0); (try clear p6); (try clear c7); (try clear c7b0); (try clear hx171_0); (try clear p171); (try clear p2); (try clear q171)
      obtain ⟨x29_2, rfl, HA, HK2, ⟨m2, rfl⟩⟩ := hrel
      cases gk with
      | zero => exact absurd HA.out (by simp [corporaref09_Check.l1])
      | succ k2 =>
       have H := HA.out
       clear HA
       simp only [corporaref09_Check.l1] at H
       by_cases c8 : x29_2 < (l0.length : Int)
       ·
        rw [if_pos c8] at H
        have c8b0 : decide (x29_2 < (l0.length : Int)) = true := decide_eq_true c8
        clear c8
        replace H := Option.bind_eq_some_iff.mp H
        obtain ⟨t172, A90, H⟩ := H
        replace H : (if t172 = true then (some (x29_2, 12)) else (corporaref09_Check.l1 k2 l0 (l0.length : Int) (wrap64 (x29_2 + 1)))) = some (r1, r2) := H
        have A9 := Aside0.mk A90
        clear A90
        by_cases c10 : t172 = true
        ·
         subst c10
         have H1 : (some (x29_2, 12)) = some (r1, r2) := by rw [if_pos rfl] at H; exact H
         clear H
         have H := H1
         clear H1
         simp only [Option.some.injEq, Prod.mk.injEq] at H
         obtain ⟨rfl, rfl⟩ := H
         go_wp2_with (first | ((with_reducible refine gate_callee (f := 34) rfl ?_); refine goesL_ (some 34) rfl rfl Tryd.func34 (by kernel_rfl) rfl #[.slice A0 l0.length c0, .int .i64 x29_2] rfl BM ?_; (with_reducible refine (corporaref09_cyclic.calls k2 _ _ l0 x29_2 true _ ?side1 ?side2 A9.out).mono ?_); (case side1 => exact BK HR0.out); (case side2 => exact HC0.out); rintro e w' ⟨rfl, ⟨nd, rfl⟩⟩; refine ⟨_, rfl, ?_⟩))
         go_ret2
         exact ⟨BE, BD⟩
        ·
         replace c10 := Bool.eq_false_iff.mpr c10
         subst c10
         have H1 : (corporaref09_Check.l1 k2 l0 (l0.length : Int) (wrap64 (x29_2 + 1))) = some (r1, r2) := by rw [if_neg (show ¬ (false = true) by decide)] at H; exact H
         clear H
         have H := H1
         clear H1
         have H' := Aside0.mk H
         clear H
         go_wp2_with (first | ((with_reducible refine gate_callee (f := 34) rfl ?_); refine goesL_ (some 34) rfl rfl Tryd.func34 (by kernel_rfl) rfl #[.slice A0 l0.length c0, .int .i64 x29_2] rfl BM ?_; (with_reducible refine (corporaref09_cyclic.calls k2 _ _ l0 x29_2 false _ ?side1 ?side2 A9.out).mono ?_); (case side1 => exact BK HR0.out); (case side2 => exact HC0.out); rintro e w' ⟨rfl, ⟨nd, rfl⟩⟩; refine ⟨_, rfl, ?_⟩))
         go_roundg k2
         case measure => have := HK1.out; have := HK2.out; omega
         case rel => exact ⟨(wrap64 (x29_2 + 1)), (BE), H', ⟨by have := HK1.out; have := HK2.out; omega⟩, BD⟩
       ·
        rw [if_neg c8] at H
        have c8b0 : decide (x29_2 < (l0.length : Int)) = false := decide_eq_false c8
        clear c8
        simp only [Option.some.injEq, Prod.mk.injEq] at H
        obtain ⟨rfl, rfl⟩ := H
        go_wp2
        go_ret2
        exact ⟨BE, BD⟩

end Go.Proofs.YtkanmafjjejpmaaDoor.P
