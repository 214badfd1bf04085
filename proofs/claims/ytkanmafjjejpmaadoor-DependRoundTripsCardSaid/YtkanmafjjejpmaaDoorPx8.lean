-- Written by a program of this session (wip/doprint.sh) out of the translation; Lean checks it.
import Derived.Test.YtkanmafjjejpmaaDoorPx0
namespace Go.Proofs.YtkanmafjjejpmaaDoor.P
open Go.Proofs.YtkanmafjjejpmaaDoor.S
open Go.Proofs.YtkanmafjjejpmaaDoor.X
open Go.RowKit Go.Proofs.YtkanmafjjejpmaaDoorW.PrintWords Go.Proofs.YtkanmafjjejpmaaDoorW.PrintLast Go.Proofs.YtkanmafjjejpmaaDoorW.PrintMore
attribute [local go_sem] max2_int min2_int max_two min_two max_three min_three max_four min_four   -- for this text's walks alone
set_option linter.unusedVariables false
set_option linter.unusedSimpArgs false

/-! ### corporaref09_cyclic: function 34 -/
def corporaref09_cyclic.l0 : Nat → List Int → Int → Int → Int → Int → Option (Bool)
  | 0, _, _, _, _, _ => none
  | k + 1, x0, x1, x5, x8, x9 => if x9 < x8 then (if 0 ≤ x5 then (if x5 < (x0.length : Int) then (if (rd x0 x5) < 0 then (some false) else (if (rd x0 x5) = x1 then (some true) else (corporaref09_cyclic.l0 k x0 x1 (rd x0 x5) x8 (wrap64 (x9 + 1))))) else (none)) else (none)) else (some false)
def corporaref09_cyclic.f (k : Nat) (l0 : List Int) (a1 : Int) : Option (Bool) := corporaref09_cyclic.l0 k l0 a1 a1 (l0.length : Int) 0
theorem corporaref09_cyclic.mono_l : ∀ k, (∀ y0 y1 y2 y3 y4, LeO (corporaref09_cyclic.l0 k y0 y1 y2 y3 y4) (corporaref09_cyclic.l0 (k + 1) y0 y1 y2 y3 y4))
 | 0 => fun _ _ _ _ _ r h => by simp [corporaref09_cyclic.l0] at h
 | k + 1 => by
  have ih0 := corporaref09_cyclic.mono_l k
  ·
   intro y0 y1 y2 y3 y4
   unfold corporaref09_cyclic.l0
   with_reducible repeat' first | exact ih0 _ _ _ _ _ | exact LeO.refl _ | exact LeO.none _ | refine LeO.ite ?_ ?_ | refine LeO.bind ?_ (fun _ => ?_)
theorem corporaref09_cyclic.mono : ∀ a0 a1 k, LeO (corporaref09_cyclic.f k a0 a1) (corporaref09_cyclic.f (k + 1) a0 a1) := by
 intro a0 a1 k
 have ih0 := corporaref09_cyclic.mono_l k
 unfold corporaref09_cyclic.f
 with_reducible repeat' first | exact ih0 _ _ _ _ _ | exact LeO.refl _ | exact LeO.none _ | refine LeO.ite ?_ ?_ | refine LeO.bind ?_ (fun _ => ?_)
set_option maxHeartbeats 8000000 in
set_option maxRecDepth 100000 in
theorem corporaref09_cyclic.calls (k : Nat) (A0 : Option Addr) (c0 : Nat) (l0 : List Int) (a1 : Int) (r : Bool) (w : World) (hr0 : Kd.C (Kd.int .i64) w A0 l0.length l0) (hc0 : l0.length ≤ c0) (h : corporaref09_cyclic.f k l0 a1 = some r) :
 Calls Tryd.prog 34 #[.slice A0 l0.length c0, .int .i64 a1] w fun e w' => e = .returned (.bool r) ∧ Drawn0 w w' := by
 have HR0 := Aside0.mk hr0
 have HC0 := Aside0.mk hc0
 clear hr0 hc0
 have H : (corporaref09_cyclic.l0 k l0 a1 a1 (l0.length : Int) 0) = some r := h
 clear h
 have H' := Aside0.mk H
 clear H
 go_enter Tryd.func34, Tryd.ntmps34
 go_wp2
 go_loopg [5, 9] k (fun kq v5 v9 w' => ∃ (x5_1 : Int) (x9_1 : Int), v5 = .int .i64 x5_1 ∧ v9 = .int .i64 x9_1 ∧ Aside0 (corporaref09_cyclic.l0 kq l0 a1 x5_1 (l0.length : Int) x9_1 = some r) ∧ Aside0 (kq ≤ k) ∧ Drawn0 w w')
 case atStart => exact ⟨(a1), (0), (BE), (BE), H', ⟨Nat.le_refl _⟩, BD⟩
 case round =>
  clear H'
  (try clear p2)
  obtain ⟨x5_1, x9_1, rfl, rfl, HA, HK1, ⟨m1, rfl⟩⟩ := hrel
  cases gk with
  | zero => exact absurd HA.out (by simp [corporaref09_cyclic.l0])
  | succ k1 =>
   have H := HA.out
   clear HA
   simp only [corporaref09_cyclic.l0] at H
   by_cases c3 : x9_1 < (l0.length : Int)
   ·
    rw [if_pos c3] at H
    have c3b0 : decide (x9_1 < (l0.length : Int)) = true := decide_eq_true c3
    clear c3
    by_cases c4 : 0 ≤ x5_1
    ·
     rw [if_pos c4] at H
     have c4b0 : decide (0 ≤ x5_1) = true := decide_eq_true c4
     clear c4
     by_cases c5 : x5_1 < (l0.length : Int)
     ·
      rw [if_pos c5] at H
      have c5b0 : decide (x5_1 < (l0.length : Int)) = true := decide_eq_true c5
      clear c5
      by_cases c6 : (rd l0 x5_1) < 0
      ·
       rw [if_pos c6] at H
       have c6b0 : decide ((rd l0 x5_1) < 0) = true := decide_eq_true c6
       clear c6
       obtain rfl := Option.some.inj H
       have p170 : 0 ≤ (x5_1 : Int) := OD
       have q170 : x5_1 < (l0.length : Int) := OD
       obtain ⟨ad170, e170, hx170_0⟩ := Kd.at_int HR0.out x5_1 p170 q170
       cases e170
       replace p170 := eq_true p170
       replace q170 := eq_true q170
       go_wp2
       go_ret
       exact ⟨BE, BD⟩
      ·
       rw [if_neg c6] at H
       have c6b0 : decide ((rd l0 x5_1) < 0) = false := decide_eq_false c6
       clear c6
       by_cases c7 : (rd l0 x5_1) = a1
       ·
        rw [if_pos c7] at H
        have c7b0 : ((rd l0 x5_1) == a1) = true := beq_iff_eq.mpr c7
        have c7b1 : ((rd l0 x5_1) != a1) = false := bne_eq_false_iff_eq.mpr c7
        clear c7
        obtain rfl := Option.some.inj H
        have p170 : 0 ≤ (x5_1 : Int) := OD
        have q170 : x5_1 < (l0.length : Int) := OD
        obtain ⟨ad170, e170, hx170_0⟩ := Kd.at_int HR0.out x5_1 p170 q170
        cases e170
        replace p170 := eq_true p170
        replace q170 := eq_true q170
        go_wp2
        go_ret
        exact ⟨BE, BD⟩
       ·
        rw [if_neg c7] at H
        have c7b0 : ((rd l0 x5_1) == a1) = false := beq_eq_false_iff_ne.mpr c7
        have c7b1 : ((rd l0 x5_1) != a1) = true := bne_iff_ne.mpr c7
        have H' := Aside0.mk H
        clear H
        have p170 : 0 ≤ (x5_1 : Int) := OD
        have q170 : x5_1 < (l0.length : Int) := OD
        obtain ⟨ad170, e170, hx170_0⟩ := Kd.at_int HR0.out x5_1 p170 q170
        cases e170
        replace p170 := eq_true p170
        replace q170 := eq_true q170
        go_wp2
        go_roundg k1
        case measure => have := HK1.out; omega
        case rel => exact ⟨(rd l0 x5_1), (wrap64 (x9_1 + 1)), (BE), (BE), H', ⟨by have := HK1.out; omega⟩, BD⟩
     ·
      rw [if_neg c5] at H
      exact absurd H (by simp)
    ·
     rw [if_neg c4] at H
     exact absurd H (by simp)
   ·
    rw [if_neg c3] at H
    have c3b0 : decide (x9_1 < (l0.length : Int)) = false := decide_eq_false c3
    clear c3
    obtain rfl := Option.some.inj H
    go_wp2
    go_ret
    exact ⟨BE, BD⟩

end Go.Proofs.YtkanmafjjejpmaaDoor.P
