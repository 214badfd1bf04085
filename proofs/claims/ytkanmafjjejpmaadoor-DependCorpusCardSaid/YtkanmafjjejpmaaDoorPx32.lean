-- Written by a program of this session (wip/doprint.sh) out of the translation; Lean checks it.
import Derived.Test.YtkanmafjjejpmaaDoorPx0
namespace Go.Proofs.YtkanmafjjejpmaaDoor.P
open Go.Proofs.YtkanmafjjejpmaaDoor.S
open Go.Proofs.YtkanmafjjejpmaaDoor.X
open Go.RowKit Go.Proofs.YtkanmafjjejpmaaDoorW.PrintWords Go.Proofs.YtkanmafjjejpmaaDoorW.PrintLast Go.Proofs.YtkanmafjjejpmaaDoorW.PrintMore
attribute [local go_sem] max2_int min2_int max_two min_two max_three min_three max_four min_four   -- for this text's walks alone
set_option linter.unusedVariables false
set_option linter.unusedSimpArgs false

/-! ### corpus_noHeads: function 48 -/
def corpus_noHeads.l0 : Nat → List ByteArray → List Int → Int → Int → Option (Bool)
  | 0, _, _, _, _ => none
  | k + 1, x1, x7, x8, x9 => if x9 < x8 then (if 0 ≤ x9 then (if x9 < (x7.length : Int) then (if (rd x7 x9) = (-1) then (if x9 < (x1.length : Int) then (if (rdOf ByteArray.empty x1 x9).toList = ([] : List UInt8) then (corpus_noHeads.l0 k x1 x7 x8 (wrap64 (x9 + 1))) else (some false)) else (none)) else (some false)) else (none)) else (none)) else (some true)
def corpus_noHeads.f (k : Nat) (l0 : List Int) (l1 : List ByteArray) : Option (Bool) := corpus_noHeads.l0 k l1 l0 (l0.length : Int) 0
theorem corpus_noHeads.mono_l : ∀ k, (∀ y0 y1 y2 y3, LeO (corpus_noHeads.l0 k y0 y1 y2 y3) (corpus_noHeads.l0 (k + 1) y0 y1 y2 y3))
 | 0 => fun _ _ _ _ r h => by simp [corpus_noHeads.l0] at h
 | k + 1 => by
  have ih0 := corpus_noHeads.mono_l k
  ·
   intro y0 y1 y2 y3
   unfold corpus_noHeads.l0
   with_reducible repeat' first | exact ih0 _ _ _ _ | exact LeO.refl _ | exact LeO.none _ | refine LeO.ite ?_ ?_ | refine LeO.bind ?_ (fun _ => ?_)
theorem corpus_noHeads.mono : ∀ a0 a1 k, LeO (corpus_noHeads.f k a0 a1) (corpus_noHeads.f (k + 1) a0 a1) := by
 intro a0 a1 k
 have ih0 := corpus_noHeads.mono_l k
 unfold corpus_noHeads.f
 with_reducible repeat' first | exact ih0 _ _ _ _ | exact LeO.refl _ | exact LeO.none _ | refine LeO.ite ?_ ?_ | refine LeO.bind ?_ (fun _ => ?_)
set_option maxHeartbeats 8000000 in
set_option maxRecDepth 100000 in
theorem corpus_noHeads.calls (k : Nat) (A0 : Option Addr) (c0 : Nat) (l0 : List Int) (A1 : Option Addr) (c1 : Nat) (l1 : List ByteArray) (r : Bool) (w : World) (hr0 : Kd.C (Kd.int .i64) w A0 l0.length l0) (hc0 : l0.length ≤ c0) (hr1 : Kd.C Kd.string w A1 l1.length l1) (hc1 : l1.length ≤ c1) (h : corpus_noHeads.f k l0 l1 = some r) :
 Calls Tryd.prog 48 #[.slice A0 l0.length c0, .slice A1 l1.length c1] w fun e w' => e = .returned (.bool r) ∧ Drawn0 w w' := by
 have HR0 := Aside0.mk hr0
 have HC0 := Aside0.mk hc0
 clear hr0 hc0
 have HR1 := Aside0.mk hr1
 have HC1 := Aside0.mk hc1
 clear hr1 hc1
 have H : (corpus_noHeads.l0 k l1 l0 (l0.length : Int) 0) = some r := h
 clear h
 have H' := Aside0.mk H
 clear H
 go_enter Tryd.func48, Tryd.ntmps48
 go_wp2
 go_loopg [9] k (fun kq v9 w' => ∃ (x9_1 : Int), v9 = .int .i64 x9_1 ∧ Aside0 (corpus_noHeads.l0 kq l1 l0 (l0.length : Int) x9_1 = some r) ∧ Aside0 (kq ≤ k) ∧ Drawn0 w w')
 case atStart => exact ⟨(0), (BE), H', ⟨Nat.le_refl _⟩, BD⟩
 case round =>
  clear H'
  (try clear c1); (try clear p2)
  obtain ⟨x9_1, rfl, HA, HK1, ⟨m1, rfl⟩⟩ := hrel
  cases gk with
  | zero => exact absurd HA.out (by simp [corpus_noHeads.l0])
  | succ k1 =>
   have H := HA.out
   clear HA
   simp only [corpus_noHeads.l0] at H
   by_cases c3 : x9_1 < (l0.length : Int)
   ·
    rw [if_pos c3] at H
    have c3b0 : decide (x9_1 < (l0.length : Int)) = true := decide_eq_true c3
    clear c3
    by_cases c4 : 0 ≤ x9_1
    ·
     rw [if_pos c4] at H
     have c4b0 : decide (0 ≤ x9_1) = true := decide_eq_true c4
     clear c4
     by_cases c5 : x9_1 < (l0.length : Int)
     ·
      rw [if_pos c5] at H
      have c5b0 : decide (x9_1 < (l0.length : Int)) = true := decide_eq_true c5
      clear c5
      by_cases c6 : (rd l0 x9_1) = (-1)
      ·
       rw [if_pos c6] at H
       have c6b0 : ((rd l0 x9_1) == (-1)) = true := beq_iff_eq.mpr c6
       have c6b1 : ((rd l0 x9_1) != (-1)) = false := bne_eq_false_iff_eq.mpr c6
       clear c6
       by_cases c7 : x9_1 < (l1.length : Int)
       ·
        rw [if_pos c7] at H
        have c7b0 : decide (x9_1 < (l1.length : Int)) = true := decide_eq_true c7
        clear c7
        by_cases c8 : (rdOf ByteArray.empty l1 x9_1).toList = ([] : List UInt8)
        ·
         rw [if_pos c8] at H
         have c8b0 : ((rdOf ByteArray.empty l1 x9_1).toList == ([] : List UInt8)) = true := beq_iff_eq.mpr c8
         have c8b1 : ((rdOf ByteArray.empty l1 x9_1).toList != ([] : List UInt8)) = false := bne_eq_false_iff_eq.mpr c8
         clear c8
         have H' := Aside0.mk H
         clear H
         have p416 : 0 ≤ (x9_1 : Int) := OD
         have q416 : x9_1 < (l0.length : Int) := OD
         obtain ⟨ad416, e416, hx416_0⟩ := Kd.at_int HR0.out x9_1 p416 q416
         cases e416
         replace p416 := eq_true p416
         replace q416 := eq_true q416
         have p417 : 0 ≤ (x9_1 : Int) := OD
         have q417 : x9_1 < (l1.length : Int) := OD
         obtain ⟨ad417, e417, hx417_0⟩ := Kd.at_string HR1.out x9_1 p417 q417
         cases e417
         replace p417 := eq_true p417
         replace q417 := eq_true q417
         go_wp2
         go_roundg k1
         case measure => have := HK1.out; omega
         case rel => exact ⟨(wrap64 (x9_1 + 1)), (BE), H', ⟨by have := HK1.out; omega⟩, BD⟩
        ·
         rw [if_neg c8] at H
         have c8b0 : ((rdOf ByteArray.empty l1 x9_1).toList == ([] : List UInt8)) = false := beq_eq_false_iff_ne.mpr c8
         have c8b1 : ((rdOf ByteArray.empty l1 x9_1).toList != ([] : List UInt8)) = true := bne_iff_ne.mpr c8
         obtain rfl := Option.some.inj H
         have p416 : 0 ≤ (x9_1 : Int) := OD
         have q416 : x9_1 < (l0.length : Int) := OD
         obtain ⟨ad416, e416, hx416_0⟩ := Kd.at_int HR0.out x9_1 p416 q416
         cases e416
         replace p416 := eq_true p416
         replace q416 := eq_true q416
         have p417 : 0 ≤ (x9_1 : Int) := OD
         have q417 : x9_1 < (l1.length : Int) := OD
         obtain ⟨ad417, e417, hx417_0⟩ := Kd.at_string HR1.out x9_1 p417 q417
         cases e417
         replace p417 := eq_true p417
         replace q417 := eq_true q417
         go_wp2
         go_ret
         exact ⟨BE, BD⟩
       ·
        rw [if_neg c7] at H
        exact absurd H (by simp)
      ·
       rw [if_neg c6] at H
       have c6b0 : ((rd l0 x9_1) == (-1)) = false := beq_eq_false_iff_ne.mpr c6
       have c6b1 : ((rd l0 x9_1) != (-1)) = true := bne_iff_ne.mpr c6
       obtain rfl := Option.some.inj H
       have p416 : 0 ≤ (x9_1 : Int) := OD
       have q416 : x9_1 < (l0.length : Int) := OD
       obtain ⟨ad416, e416, hx416_0⟩ := Kd.at_int HR0.out x9_1 p416 q416
       cases e416
       replace p416 := eq_true p416
       replace q416 := eq_true q416
       go_wp2
       go_ret
       exact ⟨BE, BD⟩
     ·
      rw [if_neg c5] at H
      exact absurd H (by simp)
    ·
     rw [if_neg c4] at H
     exact absurd H (by simp)
   ·
    rw [if_neg c3] at H
    have c3b0 : decide (x9_1 < (l0.length : Int)) = false := decide_eq_false c3
    clear c3
    obtain rfl := Option.some.inj H
    go_wp2
    go_ret
    exact ⟨BE, BD⟩

end Go.Proofs.YtkanmafjjejpmaaDoor.P
