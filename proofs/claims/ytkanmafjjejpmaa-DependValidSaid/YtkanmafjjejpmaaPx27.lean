-- Written by a program of this session (wip/doprint.sh) out of the translation; Lean checks it.
import Derived.Test.YtkanmafjjejpmaaPx0
import Derived.Test.YtkanmafjjejpmaaPx4
import Derived.Test.YtkanmafjjejpmaaPx26
namespace Go.Proofs.Ytkanmafjjejpmaa.P
open Go.Proofs.Ytkanmafjjejpmaa.S
open Go.Proofs.Ytkanmafjjejpmaa.X
open Go.RowKit Go.Proofs.YtkanmafjjejpmaaW.PrintWords Go.Proofs.YtkanmafjjejpmaaW.PrintLast Go.Proofs.YtkanmafjjejpmaaW.PrintMore
attribute [local go_sem] max2_int min2_int max_two min_two max_three min_three max_four min_four   -- for this text's walks alone
set_option linter.unusedVariables false
set_option linter.unusedSimpArgs false

/-! ### corporaref09_parse: function 33 -/
mutual
def corporaref09_parse.l0 : Nat → ByteArray → Int → List Int → List Int → List ByteArray → Int → Option (List Int × List ByteArray × Int × Int)
  | 0, _, _, _, _, _, _ => none
  | k + 1, x0, x1, x8, x9, x10, x11 => if x11 < (x0.size : Int) then (corporaref09_parse.l1 k x0 x1 x8 x9 x10 x11 x11) else (if (x8.length : Int) < x1 then (some (([] : List Int), ([] : List ByteArray), (x0.size : Int), 15)) else ((corporaref09_Check.f k x8).bind fun bt395 => (if bt395.2 = 0 then (some (x8, x10, 0, 0)) else (if 0 ≤ bt395.1 then (if bt395.1 < (x9.length : Int) then (some (([] : List Int), ([] : List ByteArray), rd x9 bt395.1, bt395.2)) else (none)) else (none)))))
def corporaref09_parse.j2 : Nat → ByteArray → Int → List Int → List Int → List ByteArray → Int → Int → Option (List Int × List ByteArray × Int × Int)
  | 0, _, _, _, _, _, _, _ => none
  | k + 1, x0, x1, x8, x9, x10, x11, x12 => if (x8.length : Int) ≥ x1 then (some (([] : List Int), ([] : List ByteArray), x11, 15)) else (corporaref09_parse.l2 k x0 x1 x8 x9 x10 x11 x12 0 x11)
def corporaref09_parse.l2 : Nat → ByteArray → Int → List Int → List Int → List ByteArray → Int → Int → Int → Int → Option (List Int × List ByteArray × Int × Int)
  | 0, _, _, _, _, _, _, _, _, _ => none
  | k + 1, x0, x1, x8, x9, x10, x11, x12, x13, x14 => if x14 < x12 then (if 0 ≤ x14 then (if x14 < (x0.size : Int) then (if (bt x0 x14) ≥ 48 then (corporaref09_parse.j4 k x0 x1 x8 x9 x10 x11 x12 x13 x14 (decide ((bt x0 x14) ≤ 57))) else (corporaref09_parse.j4 k x0 x1 x8 x9 x10 x11 x12 x13 x14 false)) else (none)) else (none)) else (corporaref09_parse.j4 k x0 x1 x8 x9 x10 x11 x12 x13 x14 false)
def corporaref09_parse.j4 : Nat → ByteArray → Int → List Int → List Int → List ByteArray → Int → Int → Int → Int → Bool → Option (List Int × List ByteArray × Int × Int)
  | 0, _, _, _, _, _, _, _, _, _, _ => none
  | k + 1, x0, x1, x8, x9, x10, x11, x12, x13, x14, x55 => if x55 = true then (if x14 = (wrap64 (x11 + 1)) then (if 0 ≤ x11 then (if x11 < (x0.size : Int) then (if (bt x0 x11) = 48 then (some (([] : List Int), ([] : List ByteArray), x14, 3)) else (if 0 ≤ x14 then (if x14 < (x0.size : Int) then (corporaref09_parse.l2 k x0 x1 x8 x9 x10 x11 x12 (mn (wrap64 ((wrap64 (10 * x13)) + (((bt x0 x14) - 48) % 256))) 1099511627776) (wrap64 (x14 + 1))) else (none)) else (none))) else (none)) else (none)) else (if 0 ≤ x14 then (if x14 < (x0.size : Int) then (corporaref09_parse.l2 k x0 x1 x8 x9 x10 x11 x12 (mn (wrap64 ((wrap64 (10 * x13)) + (((bt x0 x14) - 48) % 256))) 1099511627776) (wrap64 (x14 + 1))) else (none)) else (none))) else (if x14 = x11 then (corporaref09_parse.j5 k x0 x1 x8 x9 x10 x11 x12 x13 x14 true) else (if x14 ≥ x12 then (corporaref09_parse.j5 k x0 x1 x8 x9 x10 x11 x12 x13 x14 true) else (if 0 ≤ x14 then (if x14 < (x0.size : Int) then (corporaref09_parse.j5 k x0 x1 x8 x9 x10 x11 x12 x13 x14 ((bt x0 x14) != 9)) else (none)) else (none))))
def corporaref09_parse.j5 : Nat → ByteArray → Int → List Int → List Int → List ByteArray → Int → Int → Int → Int → Bool → Option (List Int × List ByteArray × Int × Int)
  | 0, _, _, _, _, _, _, _, _, _, _ => none
  | k + 1, x0, x1, x8, x9, x10, x11, x12, x13, x14, x91 => if x91 = true then (some (([] : List Int), ([] : List ByteArray), x14, 3)) else (if x13 > x1 then (some (([] : List Int), ([] : List ByteArray), x11, 8)) else (if 0 ≤ (wrap64 (x14 + 1)) then (if (wrap64 (x14 + 1)) ≤ x12 then (if x12 ≤ (x0.size : Int) then (if (x0.extract ((wrap64 (x14 + 1)) : Int).toNat (x12 : Int).toNat).toList = ([] : List UInt8) then (if x8.length < 17592186044416 then (if x10.length < 8796093022208 then (if x9.length < 17592186044416 then (corporaref09_parse.l0 k x0 x1 (x8 ++ [wrap64 (x13 - 1)]) (x9 ++ [x11]) (x10 ++ [x0.extract ((wrap64 (x14 + 1)) : Int).toNat (x12 : Int).toNat]) (wrap64 (x12 + 1))) else (none)) else (none)) else (none)) else ((corporaref04_ValidName.f k (x0.extract ((wrap64 (x14 + 1)) : Int).toNat (x12 : Int).toNat)).bind fun t385 => (if t385 = true then (if x8.length < 17592186044416 then (if x10.length < 8796093022208 then (if x9.length < 17592186044416 then (corporaref09_parse.l0 k x0 x1 (x8 ++ [wrap64 (x13 - 1)]) (x9 ++ [x11]) (x10 ++ [x0.extract ((wrap64 (x14 + 1)) : Int).toNat (x12 : Int).toNat]) (wrap64 (x12 + 1))) else (none)) else (none)) else (none)) else (some (([] : List Int), ([] : List ByteArray), wrap64 (x14 + 1), 4))))) else (none)) else (none)) else (none)))
def corporaref09_parse.l1 : Nat → ByteArray → Int → List Int → List Int → List ByteArray → Int → Int → Option (List Int × List ByteArray × Int × Int)
  | 0, _, _, _, _, _, _, _ => none
  | k + 1, x0, x1, x8, x9, x10, x11, x12 => if x12 < (x0.size : Int) then (if 0 ≤ x12 then (if (bt x0 x12) = 10 then (corporaref09_parse.j2 k x0 x1 x8 x9 x10 x11 x12) else (corporaref09_parse.l1 k x0 x1 x8 x9 x10 x11 (wrap64 (x12 + 1)))) else (none)) else (corporaref09_parse.j2 k x0 x1 x8 x9 x10 x11 x12)
end
def corporaref09_parse.f (k : Nat) (a0 : ByteArray) (a1 : Int) : Option (List Int × List ByteArray × Int × Int) := corporaref09_parse.l0 k a0 a1 ([] : List Int) ([] : List Int) ([] : List ByteArray) 0
theorem corporaref09_parse.mono_l : ∀ k, (∀ y0 y1 y2 y3 y4 y5, LeO (corporaref09_parse.l0 k y0 y1 y2 y3 y4 y5) (corporaref09_parse.l0 (k + 1) y0 y1 y2 y3 y4 y5)) ∧ (∀ y0 y1 y2 y3 y4 y5 y6, LeO (corporaref09_parse.j2 k y0 y1 y2 y3 y4 y5 y6) (corporaref09_parse.j2 (k + 1) y0 y1 y2 y3 y4 y5 y6)) ∧ (∀ y0 y1 y2 y3 y4 y5 y6 y7 y8, LeO (corporaref09_parse.l2 k y0 y1 y2 y3 y4 y5 y6 y7 y8) (corporaref09_parse.l2 (k + 1) y0 y1 y2 y3 y4 y5 y6 y7 y8)) ∧ (∀ y0 y1 y2 y3 y4 y5 y6 y7 y8 y9, LeO (corporaref09_parse.j4 k y0 y1 y2 y3 y4 y5 y6 y7 y8 y9) (corporaref09_parse.j4 (k + 1) y0 y1 y2 y3 y4 y5 y6 y7 y8 y9)) ∧ (∀ y0 y1 y2 y3 y4 y5 y6 y7 y8 y9, LeO (corporaref09_parse.j5 k y0 y1 y2 y3 y4 y5 y6 y7 y8 y9) (corporaref09_parse.j5 (k + 1) y0 y1 y2 y3 y4 y5 y6 y7 y8 y9)) ∧ (∀ y0 y1 y2 y3 y4 y5 y6, LeO (corporaref09_parse.l1 k y0 y1 y2 y3 y4 y5 y6) (corporaref09_parse.l1 (k + 1) y0 y1 y2 y3 y4 y5 y6))
 | 0 => ⟨fun _ _ _ _ _ _ r h => by simp [corporaref09_parse.l0] at h, fun _ _ _ _ _ _ _ r h => by simp [corporaref09_parse.j2] at h, fun _ _ _ _ _ _ _ _ _ r h => by simp [corporaref09_parse.l2] at h, fun _ _ _ _ _ _ _ _ _ _ r h => by simp [corporaref09_parse.j4] at h, fun _ _ _ _ _ _ _ _ _ _ r h => by simp [corporaref09_parse.j5] at h, fun _ _ _ _ _ _ _ r h => by simp [corporaref09_parse.l1] at h⟩
 | k + 1 => by
  obtain ⟨ih0, ih1, ih2, ih3, ih4, ih5⟩ := corporaref09_parse.mono_l k
  refine ⟨?_, ?_, ?_, ?_, ?_, ?_⟩
  ·
   intro y0 y1 y2 y3 y4 y5
   unfold corporaref09_parse.l0
   with_reducible repeat' first | exact ih0 _ _ _ _ _ _ | exact ih1 _ _ _ _ _ _ _ | exact ih2 _ _ _ _ _ _ _ _ _ | exact ih3 _ _ _ _ _ _ _ _ _ _ | exact ih4 _ _ _ _ _ _ _ _ _ _ | exact ih5 _ _ _ _ _ _ _ | exact corporaref04_ValidName.mono _ _ | exact corporaref09_Check.mono _ _ | exact LeO.refl _ | exact LeO.none _ | refine LeO.ite ?_ ?_ | refine LeO.bind ?_ (fun _ => ?_)
  ·
   intro y0 y1 y2 y3 y4 y5 y6
   unfold corporaref09_parse.j2
   with_reducible repeat' first | exact ih0 _ _ _ _ _ _ | exact ih1 _ _ _ _ _ _ _ | exact ih2 _ _ _ _ _ _ _ _ _ | exact ih3 _ _ _ _ _ _ _ _ _ _ | exact ih4 _ _ _ _ _ _ _ _ _ _ | exact ih5 _ _ _ _ _ _ _ | exact corporaref04_ValidName.mono _ _ | exact corporaref09_Check.mono _ _ | exact LeO.refl _ | exact LeO.none _ | refine LeO.ite ?_ ?_ | refine LeO.bind ?_ (fun _ => ?_)
  ·
   intro y0 y1 y2 y3 y4 y5 y6 y7 y8
   unfold corporaref09_parse.l2
   with_reducible repeat' first | exact ih0 _ _ _ _ _ _ | exact ih1 _ _ _ _ _ _ _ | exact ih2 _ _ _ _ _ _ _ _ _ | exact ih3 _ _ _ _ _ _ _ _ _ _ | exact ih4 _ _ _ _ _ _ _ _ _ _ | exact ih5 _ _ _ _ _ _ _ | exact corporaref04_ValidName.mono _ _ | exact corporaref09_Check.mono _ _ | exact LeO.refl _ | exact LeO.none _ | refine LeO.ite ?_ ?_ | refine LeO.bind ?_ (fun _ => ?_)
  ·
   intro y0 y1 y2 y3 y4 y5 y6 y7 y8 y9
   unfold corporaref09_parse.j4
   with_reducible repeat' first | exact ih0 _ _ _ _ _ _ | exact ih1 _ _ _ _ _ _ _ | exact ih2 _ _ _ _ _ _ _ _ _ | exact ih3 _ _ _ _ _ _ _ _ _ _ | exact ih4 _ _ _ _ _ _ _ _ _ _ | exact ih5 _ _ _ _ _ _ _ | exact corporaref04_ValidName.mono _ _ | exact corporaref09_Check.mono _ _ | exact LeO.refl _ | exact LeO.none _ | refine LeO.ite ?_ ?_ | refine LeO.bind ?_ (fun _ => ?_)
  ·
   intro y0 y1 y2 y3 y4 y5 y6 y7 y8 y9
   unfold corporaref09_parse.j5
   with_reducible repeat' first | exact ih0 _ _ _ _ _ _ | exact ih1 _ _ _ _ _ _ _ | exact ih2 _ _ _ _ _ _ _ _ _ | exact ih3 _ _ _ _ _ _ _ _ _ _ | exact ih4 _ _ _ _ _ _ _ _ _ _ | exact ih5 _ _ _ _ _ _ _ | exact corporaref04_ValidName.mono _ _ | exact corporaref09_Check.mono _ _ | exact LeO.refl _ | exact LeO.none _ | refine LeO.ite ?_ ?_ | refine LeO.bind ?_ (fun _ => ?_)
  ·
   intro y0 y1 y2 y3 y4 y5 y6
   unfold corporaref09_parse.l1
   with_reducible repeat' first | exact ih0 _ _ _ _ _ _ | exact ih1 _ _ _ _ _ _ _ | exact ih2 _ _ _ _ _ _ _ _ _ | exact ih3 _ _ _ _ _ _ _ _ _ _ | exact ih4 _ _ _ _ _ _ _ _ _ _ | exact ih5 _ _ _ _ _ _ _ | exact corporaref04_ValidName.mono _ _ | exact corporaref09_Check.mono _ _ | exact LeO.refl _ | exact LeO.none _ | refine LeO.ite ?_ ?_ | refine LeO.bind ?_ (fun _ => ?_)
theorem corporaref09_parse.mono : ∀ a0 a1 k, LeO (corporaref09_parse.f k a0 a1) (corporaref09_parse.f (k + 1) a0 a1) := by
 intro a0 a1 k
 obtain ⟨ih0, ih1, ih2, ih3, ih4, ih5⟩ := corporaref09_parse.mono_l k
 unfold corporaref09_parse.f
 with_reducible repeat' first | exact ih0 _ _ _ _ _ _ | exact ih1 _ _ _ _ _ _ _ | exact ih2 _ _ _ _ _ _ _ _ _ | exact ih3 _ _ _ _ _ _ _ _ _ _ | exact ih4 _ _ _ _ _ _ _ _ _ _ | exact ih5 _ _ _ _ _ _ _ | exact corporaref04_ValidName.mono _ _ | exact corporaref09_Check.mono _ _ | exact LeO.refl _ | exact LeO.none _ | refine LeO.ite ?_ ?_ | refine LeO.bind ?_ (fun _ => ?_)
set_option maxHeartbeats 8000000 in
set_option maxRecDepth 100000 in
theorem corporaref09_parse.calls (k : Nat) (a0 : ByteArray) (a1 : Int) (r1 : List Int) (r2 : List ByteArray) (r3 : Int) (r4 : Int) (w : World) (h : corporaref09_parse.f k a0 a1 = some (r1, r2, r3, r4)) :
 Calls Try.prog 33 #[.string a0, .int .i64 a1] w fun e w' => ∃ v0_ v1_ : Value, e = .returned (.tuple #[v0_, v1_, .int .i64 r3, .int .i64 r4]) ∧ Kd.R (Kd.int .i64) 3 w' w.heap.size (fun _ => True) v0_ r1 ∧ Kd.R Kd.string 9 w' w.heap.size (fun _ => True) v1_ r2 ∧ Below w.heap.size w w' := by
 have HB := Aside0.mk (Below.refl w.heap.size w)
 have H : (corporaref09_parse.l0 k a0 a1 ([] : List Int) ([] : List Int) ([] : List ByteArray) 0) = some (r1, r2, r3, r4) := h
 clear h
 have H' := Aside0.mk H
 clear H
 go_enter Try.func33, Try.ntmps33
 go_wp2
 repeat (go_quiet (fail); try go_wp2)
 go_loopg [8, 9, 10, 11] k (fun kq v8 v9 v10 v11 w' => ∃ (x8_1 : List Int) (x9_1 : List Int) (x10_1 : List ByteArray) (x11_1 : Int), v11 = .int .i64 x11_1 ∧ Aside0 (corporaref09_parse.l0 kq a0 a1 x8_1 x9_1 x10_1 x11_1 = some (r1, r2, r3, r4)) ∧ Aside0 (kq ≤ k) ∧ Aside0 (Kd.R (Kd.int .i64) 3 w' w.heap.size (fun k_ => some k_ ≠ (v9 : Value).ownBlock) v8 x8_1) ∧ Aside0 (Kd.R (Kd.int .i64) 3 w' w.heap.size (fun k_ => some k_ ≠ (v8 : Value).ownBlock) v9 x9_1) ∧ Aside0 (Kd.R Kd.string 9 w' w.heap.size (fun _ => True) v10 x10_1) ∧ Aside0 (Below w.heap.size w w'))
 case atStart => exact ⟨(([] : List Int)), (([] : List Int)), (([] : List ByteArray)), (0), (BE), H', ⟨Nat.le_refl _⟩, ⟨by first | exact Kd.R_nil _ _ _ _ _ | exact Kd.N_nil _ _ _ _ _ | exact Kd.V_nil _ _ _ _ _ | exact Kd.Q_nil _ _ _ _ _ | exact Kd.S_nil _ _ _ _ _⟩, ⟨by first | exact Kd.R_nil _ _ _ _ _ | exact Kd.N_nil _ _ _ _ _ | exact Kd.V_nil _ _ _ _ _ | exact Kd.Q_nil _ _ _ _ _ | exact Kd.S_nil _ _ _ _ _⟩, ⟨by first | exact Kd.R_nil _ _ _ _ _ | exact Kd.N_nil _ _ _ _ _ | exact Kd.V_nil _ _ _ _ _ | exact Kd.Q_nil _ _ _ _ _ | exact Kd.S_nil _ _ _ _ _⟩, ⟨BB⟩⟩
 case round =>
  clear H'
  (try clear p2)
  obtain ⟨x8_1, x9_1, x10_1, x11_1, rfl, HA, HK1, HO_8, HO_9, HO_10, HB⟩ := hrel
  cases gk with
  | zero => exact absurd HA.out (by simp [corporaref09_parse.l0])
  | succ k1 =>
   have H := HA.out
   clear HA
   simp only [corporaref09_parse.l0] at H
   by_cases c3 : x11_1 < (a0.size : Int)
   ·
    rw [if_pos c3] at H
    have c3b0 : decide (x11_1 < (a0.size : Int)) = true := decide_eq_true c3
    clear c3
    have HC4 := Aside0.mk H
    clear H
    go_upto_block 2 with (fail)
    repeat (go_quiet (fail); go_upto_block 2 with (fail))
    go_cut [12] (fun v12 wc => ∃ (kq : Nat) (x12_3 : Int), v12 = .int .i64 x12_3 ∧ Aside0 (corporaref09_parse.j2 kq a0 a1 x8_1 x9_1 x10_1 x11_1 x12_3 = some (r1, r2, r3, r4)) ∧ Aside0 (kq ≤ k1) ∧ Aside0 (Kd.R (Kd.int .i64) 3 wc w.heap.size (fun k_ => some k_ ≠ (u9 : Value).ownBlock) u8 x8_1) ∧ Aside0 (Kd.R (Kd.int .i64) 3 wc w.heap.size (fun k_ => some k_ ≠ (u8 : Value).ownBlock) u9 x9_1) ∧ Aside0 (Kd.R Kd.string 9 wc w.heap.size (fun _ => True) u10 x10_1) ∧ Aside0 (Below w.heap.size w wc))
    case first =>
     have H := HC4.out
     clear HC4
     have H' := Aside0.mk H
     clear H
     go_wp2
     repeat (go_quiet (fail); try go_wp2)
     go_loopg [12] k1 (fun kq v12 w' => ∃ (x12_2 : Int), v12 = .int .i64 x12_2 ∧ Aside0 (corporaref09_parse.l1 kq a0 a1 x8_1 x9_1 x10_1 x11_1 x12_2 = some (r1, r2, r3, r4)) ∧ Aside0 (kq ≤ k1) ∧ Aside0 (Kd.R (Kd.int .i64) 3 w' w.heap.size (fun k_ => some k_ ≠ (u9 : Value).ownBlock) u8 x8_1) ∧ Aside0 (Kd.R (Kd.int .i64) 3 w' w.heap.size (fun k_ => some k_ ≠ (u8 : Value).ownBlock) u9 x9_1) ∧ Aside0 (Kd.R Kd.string 9 w' w.heap.size (fun _ => True) u10 x10_1) ∧ Aside0 (Below w.heap.size w w'))
     case atStart => exact ⟨(x11_1), (BE), H', ⟨Nat.le_refl _⟩, ⟨BR HO_8.out⟩, ⟨BR HO_9.out⟩, ⟨BR HO_10.out⟩, ⟨BB⟩⟩
     case round =>
      clear H'
      (try clear p2); (try clear c3); (try clear c3b0); (try clear p2)
      obtain ⟨x12_2, rfl, HA, HK2, HO_8, HO_9, HO_10, HB⟩ := hrel
      cases gk with
      | zero => exact absurd HA.out (by simp [corporaref09_parse.l1])
      | succ k2 =>
       have H := HA.out
       clear HA
       simp only [corporaref09_parse.l1] at H
       by_cases c5 : x12_2 < (a0.size : Int)
       ·
        rw [if_pos c5] at H
        have c5b0 : decide (x12_2 < (a0.size : Int)) = true := decide_eq_true c5
        clear c5
        (first | rw [c5b0] | (simp only [i64_w, i32_w]; rw [c5b0]) | skip)
        by_cases c6 : 0 ≤ x12_2
        ·
         rw [if_pos c6] at H
         have c6b0 : decide (0 ≤ x12_2) = true := decide_eq_true c6
         clear c6
         by_cases c8 : (bt a0 x12_2) = 10
         ·
          rw [if_pos c8] at H
          have c8b0 : ((bt a0 x12_2) == 10) = true := beq_iff_eq.mpr c8
          have c8b1 : ((bt a0 x12_2) != 10) = false := bne_eq_false_iff_eq.mpr c8
          clear c8
          have H' := Aside0.mk H
          clear H
          have p7 : 0 ≤ (x12_2 : Int) := OD
          have q7 : x12_2 < (a0.size : Int) := OD
          have hx7 := bt_at a0 x12_2
          replace p7 := eq_true p7
          replace q7 := eq_true q7
          go_wp2
          repeat (go_quiet (fail); try go_wp2)
          go_meet
          case rel => exact ⟨_, (x12_2), (BE), H', ⟨by have := HK1.out; have := HK2.out; first | omega | exact Nat.le_refl _⟩, ⟨BR HO_8.out⟩, ⟨BR HO_9.out⟩, ⟨BR HO_10.out⟩, ⟨BB⟩⟩
         ·
          rw [if_neg c8] at H
          have c8b0 : ((bt a0 x12_2) == 10) = false := beq_eq_false_iff_ne.mpr c8
          have c8b1 : ((bt a0 x12_2) != 10) = true := bne_iff_ne.mpr c8
          have H' := Aside0.mk H
          clear H
          have p7 : 0 ≤ (x12_2 : Int) := OD
          have q7 : x12_2 < (a0.size : Int) := OD
          have hx7 := bt_at a0 x12_2
          replace p7 := eq_true p7
          replace q7 := eq_true q7
          go_wp2
          repeat (go_quiet (fail); try go_wp2)
          go_roundg k2
          case measure => have := HK1.out; have := HK2.out; omega
          case rel => exact ⟨(wrap64 (x12_2 + 1)), (BE), H', ⟨by have := HK1.out; have := HK2.out; omega⟩, ⟨BR HO_8.out⟩, ⟨BR HO_9.out⟩, ⟨BR HO_10.out⟩, ⟨BB⟩⟩
        ·
         rw [if_neg c6] at H
         exact absurd H (by simp)
       ·
        rw [if_neg c5] at H
        have c5b0 : decide (x12_2 < (a0.size : Int)) = false := decide_eq_false c5
        clear c5
        (first | rw [c5b0] | (simp only [i64_w, i32_w]; rw [c5b0]) | skip)
        have H' := Aside0.mk H
        clear H
        go_wp2
        repeat (go_quiet (fail); try go_wp2)
        go_meet
        case rel => exact ⟨_, (x12_2), (BE), H', ⟨by have := HK1.out; have := HK2.out; first | omega | exact Nat.le_refl _⟩, ⟨BR HO_8.out⟩, ⟨BR HO_9.out⟩, ⟨BR HO_10.out⟩, ⟨BB⟩⟩
    case rest =>
     clear HC4
     (try clear p2); (try clear c3); (try clear c3b0); (try clear c5); (try clear c5b0); (try clear c6); (try clear c6b0); (try clear p6); (try clear p7); (try clear q7); (try clear hx7); (try clear c8); (try clear c8b0)
     (try clear c8b1); (try clear p2); (try clear p7); (try clear q7)
     obtain ⟨kq, x12_3, rfl, HA, HJ3, HO_8, HO_9, HO_10, HB⟩ := hcut
     cases kq with
     | zero => exact absurd HA.out (by simp [corporaref09_parse.j2])
     | succ kj3 =>
      have H := HA.out
      clear HA
      simp only [corporaref09_parse.j2] at H
      by_cases c9 : (x8_1.length : Int) ≥ a1
      ·
       rw [if_pos c9] at H
       have c9b0 : decide (a1 ≤ (x8_1.length : Int)) = true := decide_eq_true c9
       clear c9
       simp only [Option.some.injEq, Prod.mk.injEq] at H
       obtain ⟨rfl, rfl, rfl, rfl⟩ := H
       obtain ⟨Ao10, co10, eo10⟩ := Kd.R_slice HO_8.out
       subst eo10
       go_wp2
       repeat (go_quiet (fail); try go_wp2)
       refine bodyPost_ret (results_list (rs := [.tmp 4, .tmp 5, .tmp 6, .tmp 7]) rfl (by simp) (.tmp (.tmp (.tmp (.tmp .nil))))) rfl ?_
       exact ⟨_, _, BX, by first | exact Kd.R_nil _ _ _ _ _ | exact Kd.N_nil _ _ _ _ _ | exact Kd.V_nil _ _ _ _ _ | exact Kd.Q_nil _ _ _ _ _ | exact Kd.S_nil _ _ _ _ _, by first | exact Kd.R_nil _ _ _ _ _ | exact Kd.N_nil _ _ _ _ _ | exact Kd.V_nil _ _ _ _ _ | exact Kd.Q_nil _ _ _ _ _ | exact Kd.S_nil _ _ _ _ _, BB⟩
      ·
       rw [if_neg c9] at H
       have c9b0 : decide (a1 ≤ (x8_1.length : Int)) = false := decide_eq_false c9
       clear c9
       have H' := Aside0.mk H
       clear H
       obtain ⟨Ao11, co11, eo11⟩ := Kd.R_slice HO_8.out
       subst eo11
       go_wp2
       repeat (go_quiet (fail); try go_wp2)
       go_loopg [13, 14] kj3 (fun kq v13 v14 w' => ∃ (x13_3 : Int) (x14_3 : Int), v13 = .int .i64 x13_3 ∧ v14 = .int .i64 x14_3 ∧ Aside0 (corporaref09_parse.l2 kq a0 a1 x8_1 x9_1 x10_1 x11_1 x12_3 x13_3 x14_3 = some (r1, r2, r3, r4)) ∧ Aside0 (kq ≤ kj3) ∧ Aside0 (Kd.R (Kd.int .i64) 3 w' w.heap.size (fun k_ => some k_ ≠ (u9 : Value).ownBlock) (.slice Ao11 x8_1.length co11) x8_1) ∧ Aside0 (Kd.R (Kd.int .i64) 3 w' w.heap.size (fun k_ => some k_ ≠ ((.slice Ao11 x8_1.length co11) : Value).ownBlock) u9 x9_1) ∧ Aside0 (Kd.R Kd.string 9 w' w.heap.size (fun _ => True) u10 x10_1) ∧ Aside0 (Below w.heap.size w w'))
       case atStart => exact ⟨(0), (x11_1), (BE), (BE), H', ⟨Nat.le_refl _⟩, ⟨BR HO_8.out⟩, ⟨BR HO_9.out⟩, ⟨BR HO_10.out⟩, ⟨BB⟩⟩
       case round =>
        clear H'
        (try clear p2); (try clear c3); (try clear c3b0); (try clear c5); (try clear c5b0); (try clear c6); (try clear c6b0); (try clear p6); (try clear p7); (try clear q7); (try clear hx7); (try clear c8); (try clear c8b0)
        (try clear c8b1); (try clear c9); (try clear c9b0); (try clear p2); (try clear p6); (try clear p7); (try clear q7)
        obtain ⟨x13_3, x14_3, rfl, rfl, HA, HK3, HO_8, HO_9, HO_10, HB⟩ := hrel
        cases gk with
        | zero => exact absurd HA.out (by simp [corporaref09_parse.l2])
        | succ k3 =>
         have H := HA.out
         clear HA
         simp only [corporaref09_parse.l2] at H
         have HC12 := Aside0.mk H
         clear H
         go_upto_region 11 with (fail)
         repeat (go_quiet (fail); go_upto_region 11 with (fail))
         go_cut [55] (fun v55 wc => ∃ (kq : Nat) (x55_11 : Bool), v55 = .bool x55_11 ∧ Aside0 (corporaref09_parse.j4 kq a0 a1 x8_1 x9_1 x10_1 x11_1 x12_3 x13_3 x14_3 x55_11 = some (r1, r2, r3, r4)) ∧ Aside0 (kq ≤ k3) ∧ Aside0 (Kd.R (Kd.int .i64) 3 wc w.heap.size (fun k_ => some k_ ≠ (u9 : Value).ownBlock) (.slice Ao11 x8_1.length co11) x8_1) ∧ Aside0 (Kd.R (Kd.int .i64) 3 wc w.heap.size (fun k_ => some k_ ≠ ((.slice Ao11 x8_1.length co11) : Value).ownBlock) u9 x9_1) ∧ Aside0 (Kd.R Kd.string 9 wc w.heap.size (fun _ => True) u10 x10_1) ∧ Aside0 (Below w.heap.size w wc))
         case first =>
          have H := HC12.out
          clear HC12
          by_cases c13 : x14_3 < x12_3
          ·
           rw [if_pos c13] at H
           have c13b0 : decide (x14_3 < x12_3) = true := decide_eq_true c13
           clear c13
           (first | rw [c13b0] | (simp only [i64_w, i32_w]; rw [c13b0]) | skip)
           by_cases c14 : 0 ≤ x14_3
           ·
            rw [if_pos c14] at H
            have c14b0 : decide (0 ≤ x14_3) = true := decide_eq_true c14
            clear c14
            by_cases c15 : x14_3 < (a0.size : Int)
            ·
             rw [if_pos c15] at H
             have c15b0 : decide (x14_3 < (a0.size : Int)) = true := decide_eq_true c15
             clear c15
             by_cases c17 : (bt a0 x14_3) ≥ 48
             ·
              rw [if_pos c17] at H
              have c17b0 : decide (48 ≤ (bt a0 x14_3)) = true := decide_eq_true c17
              clear c17
              have H' := Aside0.mk H
              clear H
              have p16 : 0 ≤ (x14_3 : Int) := OD
              have q16 : x14_3 < (a0.size : Int) := OD
              have hx16 := bt_at a0 x14_3
              replace p16 := eq_true p16
              replace q16 := eq_true q16
              have p18 : 0 ≤ (x14_3 : Int) := OD
              have q18 : x14_3 < (a0.size : Int) := OD
              have hx18 := bt_at a0 x14_3
              replace p18 := eq_true p18
              replace q18 := eq_true q18
              go_wp2
              repeat (go_quiet (fail); try go_wp2)
              go_meet
              case rel => exact ⟨_, (decide ((bt a0 x14_3) ≤ 57)), (BE), H', ⟨by have := HK1.out; have := HJ3.out; have := HK3.out; first | omega | exact Nat.le_refl _⟩, ⟨BR HO_8.out⟩, ⟨BR HO_9.out⟩, ⟨BR HO_10.out⟩, ⟨BB⟩⟩
             ·
              rw [if_neg c17] at H
              have c17b0 : decide (48 ≤ (bt a0 x14_3)) = false := decide_eq_false c17
              clear c17
              have H' := Aside0.mk H
              clear H
              have p16 : 0 ≤ (x14_3 : Int) := OD
              have q16 : x14_3 < (a0.size : Int) := OD
              have hx16 := bt_at a0 x14_3
              replace p16 := eq_true p16
              replace q16 := eq_true q16
              go_wp2
              repeat (go_quiet (fail); try go_wp2)
              go_meet
              case rel => exact ⟨_, (false), (BE), H', ⟨by have := HK1.out; have := HJ3.out; have := HK3.out; first | omega | exact Nat.le_refl _⟩, ⟨BR HO_8.out⟩, ⟨BR HO_9.out⟩, ⟨BR HO_10.out⟩, ⟨BB⟩⟩
            ·
             rw [if_neg c15] at H
             exact absurd H (by simp)
           ·
            rw [if_neg c14] at H
            exact absurd H (by simp)
          ·
           rw [if_neg c13] at H
           have c13b0 : decide (x14_3 < x12_3) = false := decide_eq_false c13
           clear c13
           (first | rw [c13b0] | (simp only [i64_w, i32_w]; rw [c13b0]) | skip)
           have H' := Aside0.mk H
           clear H
           go_wp2
           repeat (go_quiet (fail); try go_wp2)
           go_meet
           case rel => exact ⟨_, (false), (BE), H', ⟨by have := HK1.out; have := HJ3.out; have := HK3.out; first | omega | exact Nat.le_refl _⟩, ⟨BR HO_8.out⟩, ⟨BR HO_9.out⟩, ⟨BR HO_10.out⟩, ⟨BB⟩⟩
         case rest =>
          clear HC12
          (try clear c1); (try clear p1); (try clear q1); (try clear hx1); (try clear p2); (try clear c3); (try clear c3b0); (try clear c5); (try clear c5b0); (try clear c6); (try clear c6b0); (try clear p6); (try clear p7)
          (try clear q7); (try clear hx7); (try clear c8); (try clear c8b0); (try clear c8b1); (try clear c9); (try clear c9b0); (try clear c13); (try clear c13b0); (try clear c14); (try clear c14b0); (try clear c15)
          (try clear c15b0); (try clear p16); (try clear q16); (try clear hx16); (try clear c17); (try clear c17b0); (try clear p18); (try clear q18); (try clear hx18); (try clear p16); (try clear p18); (try clear p2)
          (try clear p6); (try clear p7); (try clear q16); (try clear q18); (try clear q7)
          obtain ⟨kq, x55_11, rfl, HA, HJ11, HO_8, HO_9, HO_10, HB⟩ := hcut
          cases kq with
          | zero => exact absurd HA.out (by simp [corporaref09_parse.j4])
          | succ kj11 =>
           have H := HA.out
           clear HA
           simp only [corporaref09_parse.j4] at H
           by_cases c19 : x55_11 = true
           ·
            subst c19
            have H1 : (if x14_3 = (wrap64 (x11_1 + 1)) then (if 0 ≤ x11_1 then (if x11_1 < (a0.size : Int) then (if (bt a0 x11_1) = 48 then (some (([] : List Int), ([] : List ByteArray), x14_3, 3)) else (if 0 ≤ x14_3 then (if x14_3 < (a0.size : Int) then (corporaref09_parse.l2 kj11 a0 a1 x8_1 x9_1 x10_1 x11_1 x12_3 (mn (wrap64 ((wrap64 (10 * x13_3)) + (((bt a0 x14_3) - 48) % 256))) 1099511627776) (wrap64 (x14_3 + 1))) else (none)) else (none))) else (none)) else (none)) else (if 0 ≤ x14_3 then (if x14_3 < (a0.size : Int) then (corporaref09_parse.l2 kj11 a0 a1 x8_1 x9_1 x10_1 x11_1 x12_3 (mn (wrap64 ((wrap64 (10 * x13_3)) + (((bt a0 x14_3) - 48) % 256))) 1099511627776) (wrap64 (x14_3 + 1))) else (none)) else (none))) = some (r1, r2, r3, r4) := by rw [if_pos rfl] at H; exact H
            clear H
            have H := H1
            clear H1
            by_cases c20 : x14_3 = (wrap64 (x11_1 + 1))
            ·
             rw [if_pos c20] at H
             have c20b0 : (x14_3 == (wrap64 (x11_1 + 1))) = true := beq_iff_eq.mpr c20
             have c20b1 : (x14_3 != (wrap64 (x11_1 + 1))) = false := bne_eq_false_iff_eq.mpr c20
             clear c20
             by_cases c21 : 0 ≤ x11_1
             ·
              rw [if_pos c21] at H
              have c21b0 : decide (0 ≤ x11_1) = true := decide_eq_true c21
              clear c21
              by_cases c22 : x11_1 < (a0.size : Int)
              ·
               rw [if_pos c22] at H
               have c22b0 : decide (x11_1 < (a0.size : Int)) = true := decide_eq_true c22
               clear c22
               by_cases c24 : (bt a0 x11_1) = 48
               ·
                rw [if_pos c24] at H
                have c24b0 : ((bt a0 x11_1) == 48) = true := beq_iff_eq.mpr c24
                have c24b1 : ((bt a0 x11_1) != 48) = false := bne_eq_false_iff_eq.mpr c24
                clear c24
                simp only [Option.some.injEq, Prod.mk.injEq] at H
                obtain ⟨rfl, rfl, rfl, rfl⟩ := H
                have p23 : 0 ≤ (x11_1 : Int) := OD
                have q23 : x11_1 < (a0.size : Int) := OD
                have hx23 := bt_at a0 x11_1
                replace p23 := eq_true p23
                replace q23 := eq_true q23
                go_wp2
                repeat (go_quiet (fail); try go_wp2)
                refine bodyPost_ret (results_list (rs := [.tmp 4, .tmp 5, .tmp 6, .tmp 7]) rfl (by simp) (.tmp (.tmp (.tmp (.tmp .nil))))) rfl ?_
                exact ⟨_, _, BX, by first | exact Kd.R_nil _ _ _ _ _ | exact Kd.N_nil _ _ _ _ _ | exact Kd.V_nil _ _ _ _ _ | exact Kd.Q_nil _ _ _ _ _ | exact Kd.S_nil _ _ _ _ _, by first | exact Kd.R_nil _ _ _ _ _ | exact Kd.N_nil _ _ _ _ _ | exact Kd.V_nil _ _ _ _ _ | exact Kd.Q_nil _ _ _ _ _ | exact Kd.S_nil _ _ _ _ _, BB⟩
               ·
                rw [if_neg c24] at H
                have c24b0 : ((bt a0 x11_1) == 48) = false := beq_eq_false_iff_ne.mpr c24
                have c24b1 : ((bt a0 x11_1) != 48) = true := bne_iff_ne.mpr c24
                by_cases c25 : 0 ≤ x14_3
                ·
                 rw [if_pos c25] at H
                 have c25b0 : decide (0 ≤ x14_3) = true := decide_eq_true c25
                 clear c25
                 by_cases c26 : x14_3 < (a0.size : Int)
                 ·
                  rw [if_pos c26] at H
                  have c26b0 : decide (x14_3 < (a0.size : Int)) = true := decide_eq_true c26
                  clear c26
                  obtain ⟨ji28, hji28⟩ : ∃ j_ : Int, (mn (wrap64 ((wrap64 (10 * x13_3)) + (((bt a0 x14_3) - 48) % 256))) 1099511627776) = j_ := ⟨_, rfl⟩
                  replace H : (corporaref09_parse.l2 kj11 a0 a1 x8_1 x9_1 x10_1 x11_1 x12_3 ji28 (wrap64 (x14_3 + 1))) = some (r1, r2, r3, r4) := by first | (rw [hji28] at H; exact H) | (simp only [hji28] at H ⊢; exact H)
                  have hji28_ : (if 1099511627776 < (wrap64 ((wrap64 (10 * x13_3)) + (((bt a0 x14_3) - 48) % 256))) then 1099511627776 else (wrap64 ((wrap64 (10 * x13_3)) + (((bt a0 x14_3) - 48) % 256)))) = ji28 := hji28
                  have H' := Aside0.mk H
                  clear H
                  have p23 : 0 ≤ (x11_1 : Int) := OD
                  have q23 : x11_1 < (a0.size : Int) := OD
                  have hx23 := bt_at a0 x11_1
                  replace p23 := eq_true p23
                  replace q23 := eq_true q23
                  have p27 : 0 ≤ (x14_3 : Int) := OD
                  have q27 : x14_3 < (a0.size : Int) := OD
                  have hx27 := bt_at a0 x14_3
                  replace p27 := eq_true p27
                  replace q27 := eq_true q27
                  go_wp2
                  repeat (go_quiet (fail); try go_wp2)
                  go_roundg kj11
                  case measure => have := HK1.out; have := HJ3.out; have := HK3.out; have := HJ11.out; omega
                  case rel => exact ⟨(ji28), (wrap64 (x14_3 + 1)), (by first | rfl | (simp; done) | (simp only [← hji28] <;> (first | rfl | simp)) | (simp [*]; done)), (BE), H', ⟨by have := HK1.out; have := HJ3.out; have := HK3.out; have := HJ11.out; omega⟩, ⟨BR HO_8.out⟩, ⟨BR HO_9.out⟩, ⟨BR HO_10.out⟩, ⟨BB⟩⟩
                 ·
                  rw [if_neg c26] at H
                  exact absurd H (by simp)
                ·
                 rw [if_neg c25] at H
                 exact absurd H (by simp)
              ·
               rw [if_neg c22] at H
               exact absurd H (by simp)
             ·
              rw [if_neg c21] at H
              exact absurd H (by simp)
            ·
             rw [if_neg c20] at H
             have c20b0 : (x14_3 == (wrap64 (x11_1 + 1))) = false := beq_eq_false_iff_ne.mpr c20
             have c20b1 : (x14_3 != (wrap64 (x11_1 + 1))) = true := bne_iff_ne.mpr c20
             by_cases c29 : 0 ≤ x14_3
             ·
              rw [if_pos c29] at H
              have c29b0 : decide (0 ≤ x14_3) = true := decide_eq_true c29
              clear c29
              by_cases c30 : x14_3 < (a0.size : Int)
              ·
               rw [if_pos c30] at H
               have c30b0 : decide (x14_3 < (a0.size : Int)) = true := decide_eq_true c30
               clear c30
               obtain ⟨ji32, hji32⟩ : ∃ j_ : Int, (mn (wrap64 ((wrap64 (10 * x13_3)) + (((bt a0 x14_3) - 48) % 256))) 1099511627776) = j_ := ⟨_, rfl⟩
               replace H : (corporaref09_parse.l2 kj11 a0 a1 x8_1 x9_1 x10_1 x11_1 x12_3 ji32 (wrap64 (x14_3 + 1))) = some (r1, r2, r3, r4) := by first | (rw [hji32] at H; exact H) | (simp only [hji32] at H ⊢; exact H)
               have hji32_ : (if 1099511627776 < (wrap64 ((wrap64 (10 * x13_3)) + (((bt a0 x14_3) - 48) % 256))) then 1099511627776 else (wrap64 ((wrap64 (10 * x13_3)) + (((bt a0 x14_3) - 48) % 256)))) = ji32 := hji32
               have H' := Aside0.mk H
               clear H
               have p31 : 0 ≤ (x14_3 : Int) := OD
               have q31 : x14_3 < (a0.size : Int) := OD
               have hx31 := bt_at a0 x14_3
               replace p31 := eq_true p31
               replace q31 := eq_true q31
               go_wp2
               repeat (go_quiet (fail); try go_wp2)
               go_roundg kj11
               case measure => have := HK1.out; have := HJ3.out; have := HK3.out; have := HJ11.out; omega
               case rel => exact ⟨(ji32), (wrap64 (x14_3 + 1)), (by first | rfl | (simp; done) | (simp only [← hji32] <;> (first | rfl | simp)) | (simp [*]; done)), (BE), H', ⟨by have := HK1.out; have := HJ3.out; have := HK3.out; have := HJ11.out; omega⟩, ⟨BR HO_8.out⟩, ⟨BR HO_9.out⟩, ⟨BR HO_10.out⟩, ⟨BB⟩⟩
              ·
               rw [if_neg c30] at H
               exact absurd H (by simp)
             ·
              rw [if_neg c29] at H
              exact absurd H (by simp)
           ·
            replace c19 := Bool.eq_false_iff.mpr c19
            subst c19
            have H1 : (if x14_3 = x11_1 then (corporaref09_parse.j5 kj11 a0 a1 x8_1 x9_1 x10_1 x11_1 x12_3 x13_3 x14_3 true) else (if x14_3 ≥ x12_3 then (corporaref09_parse.j5 kj11 a0 a1 x8_1 x9_1 x10_1 x11_1 x12_3 x13_3 x14_3 true) else (if 0 ≤ x14_3 then (if x14_3 < (a0.size : Int) then (corporaref09_parse.j5 kj11 a0 a1 x8_1 x9_1 x10_1 x11_1 x12_3 x13_3 x14_3 ((bt a0 x14_3) != 9)) else (none)) else (none)))) = some (r1, r2, r3, r4) := by rw [if_neg (show ¬ (false = true) by decide)] at H; exact H
            clear H
            have H := H1
            clear H1
            have HC33 := Aside0.mk H
            clear H
            go_upto_region 16 with (fail)
            repeat (go_quiet (fail); go_upto_region 16 with (fail))
            go_cut [91] (fun v91 wc => ∃ (kq : Nat) (x91_32 : Bool), v91 = .bool x91_32 ∧ Aside0 (corporaref09_parse.j5 kq a0 a1 x8_1 x9_1 x10_1 x11_1 x12_3 x13_3 x14_3 x91_32 = some (r1, r2, r3, r4)) ∧ Aside0 (kq ≤ kj11) ∧ Aside0 (Kd.R (Kd.int .i64) 3 wc w.heap.size (fun k_ => some k_ ≠ (u9 : Value).ownBlock) (.slice Ao11 x8_1.length co11) x8_1) ∧ Aside0 (Kd.R (Kd.int .i64) 3 wc w.heap.size (fun k_ => some k_ ≠ ((.slice Ao11 x8_1.length co11) : Value).ownBlock) u9 x9_1) ∧ Aside0 (Kd.R Kd.string 9 wc w.heap.size (fun _ => True) u10 x10_1) ∧ Aside0 (Below w.heap.size w wc))
            case first =>
             have H := HC33.out
             clear HC33
             by_cases c34 : x14_3 = x11_1
             ·
              rw [if_pos c34] at H
              have c34b0 : (x14_3 == x11_1) = true := beq_iff_eq.mpr c34
              have c34b1 : (x14_3 != x11_1) = false := bne_eq_false_iff_eq.mpr c34
              clear c34
              (first | rw [c34b0] | rw [c34b1] | (simp only [i64_w, i32_w]; rw [c34b0]) | skip)
              have H' := Aside0.mk H
              clear H
              go_wp2
              repeat (go_quiet (fail); try go_wp2)
              go_meet
              case rel => exact ⟨_, (true), (BE), H', ⟨by have := HK1.out; have := HJ3.out; have := HK3.out; have := HJ11.out; first | omega | exact Nat.le_refl _⟩, ⟨BR HO_8.out⟩, ⟨BR HO_9.out⟩, ⟨BR HO_10.out⟩, ⟨BB⟩⟩
             ·
              rw [if_neg c34] at H
              have c34b0 : (x14_3 == x11_1) = false := beq_eq_false_iff_ne.mpr c34
              have c34b1 : (x14_3 != x11_1) = true := bne_iff_ne.mpr c34
              (first | rw [c34b0] | rw [c34b1] | (simp only [i64_w, i32_w]; rw [c34b0]) | skip)
              by_cases c35 : x14_3 ≥ x12_3
              ·
               rw [if_pos c35] at H
               have c35b0 : decide (x12_3 ≤ x14_3) = true := decide_eq_true c35
               clear c35
               have H' := Aside0.mk H
               clear H
               go_wp2
               repeat (go_quiet (fail); try go_wp2)
               go_meet
               case rel => exact ⟨_, (true), (BE), H', ⟨by have := HK1.out; have := HJ3.out; have := HK3.out; have := HJ11.out; first | omega | exact Nat.le_refl _⟩, ⟨BR HO_8.out⟩, ⟨BR HO_9.out⟩, ⟨BR HO_10.out⟩, ⟨BB⟩⟩
              ·
               rw [if_neg c35] at H
               have c35b0 : decide (x12_3 ≤ x14_3) = false := decide_eq_false c35
               clear c35
               by_cases c36 : 0 ≤ x14_3
               ·
                rw [if_pos c36] at H
                have c36b0 : decide (0 ≤ x14_3) = true := decide_eq_true c36
                clear c36
                by_cases c37 : x14_3 < (a0.size : Int)
                ·
                 rw [if_pos c37] at H
                 have c37b0 : decide (x14_3 < (a0.size : Int)) = true := decide_eq_true c37
                 clear c37
                 have H' := Aside0.mk H
                 clear H
                 have p38 : 0 ≤ (x14_3 : Int) := OD
                 have q38 : x14_3 < (a0.size : Int) := OD
                 have hx38 := bt_at a0 x14_3
                 replace p38 := eq_true p38
                 replace q38 := eq_true q38
                 go_wp2
                 repeat (go_quiet (fail); try go_wp2)
                 go_meet
                 case rel => exact ⟨_, (((bt a0 x14_3) != 9)), (BE), H', ⟨by have := HK1.out; have := HJ3.out; have := HK3.out; have := HJ11.out; first | omega | exact Nat.le_refl _⟩, ⟨BR HO_8.out⟩, ⟨BR HO_9.out⟩, ⟨BR HO_10.out⟩, ⟨BB⟩⟩
                ·
                 rw [if_neg c37] at H
                 exact absurd H (by simp)
               ·
                rw [if_neg c36] at H
                exact absurd H (by simp)
            case rest =>
             clear HC33
             (try clear c1); (try clear p1); (try clear q1); (try clear hx1); (try clear c2); (try clear p2); (try clear q2); (try clear hx2); (try clear c3); (try clear c3b0); (try clear p3); (try clear q3)
             (try clear hx3); (try clear c5); (try clear c5b0); (try clear c6); (try clear c6b0); (try clear p6); (try clear p7); (try clear q7); (try clear hx7); (try clear c8); (try clear c8b0); (try clear c8b1)
             (try clear c9); (try clear c9b0); (try clear c13); (try clear c13b0); (try clear c14); (try clear c14b0); (try clear c15); (try clear c15b0); (try clear p16); (try clear q16); (try clear hx16); (try clear c17)
             (try clear c17b0); (try clear p18); (try clear q18); (try clear hx18); (try clear c19); (try clear c20); (try clear c20b0); (try clear c20b1); (try clear c21); (try clear c21b0); (try clear c22)
             (try clear c22b0); (try clear p23); (try clear q23); (try clear hx23); (try clear c24); (try clear c24b0); (try clear c24b1); (try clear c25); (try clear c25b0); (try clear c26); (try clear c26b0)
             (try clear p27); (try clear q27); (try clear hx27); (try clear c29); (try clear c29b0); (try clear c30); (try clear c30b0); (try clear p31); (try clear q31); (try clear hx31); (try clear c33); (try clear c34)
             (try clear c34b0); (try clear c34b1); (try clear c35); (try clear c35b0); (try clear c36); (try clear c36b0); (try clear c37); (try clear c37b0); (try clear p38); (try clear q38); (try clear hx38)
             (try clear p1); (try clear p16); (try clear p18); (try clear p2); (try clear p23); (try clear p27); (try clear p31); (try clear p38); (try clear p6); (try clear p7); (try clear q1); (try clear q16)
             (try clear q18); (try clear q23); (try clear q27); (try clear q31); (try clear q38); (try clear q7)
             obtain ⟨kq, x91_32, rfl, HA, HJ32, HO_8, HO_9, HO_10, HB⟩ := hcut
             cases kq with
             | zero => exact absurd HA.out (by simp [corporaref09_parse.j5])
             | succ kj32 =>
              have H := HA.out
              clear HA
              simp only [corporaref09_parse.j5] at H
              by_cases c39 : x91_32 = true
              ·
               subst c39
               have H1 : (some (([] : List Int), ([] : List ByteArray), x14_3, 3)) = some (r1, r2, r3, r4) := by rw [if_pos rfl] at H; exact H
               clear H
               have H := H1
               clear H1
               simp only [Option.some.injEq, Prod.mk.injEq] at H
               obtain ⟨rfl, rfl, rfl, rfl⟩ := H
               go_wp2
               repeat (go_quiet (fail); try go_wp2)
               refine bodyPost_ret (results_list (rs := [.tmp 4, .tmp 5, .tmp 6, .tmp 7]) rfl (by simp) (.tmp (.tmp (.tmp (.tmp .nil))))) rfl ?_
               exact ⟨_, _, BX, by first | exact Kd.R_nil _ _ _ _ _ | exact Kd.N_nil _ _ _ _ _ | exact Kd.V_nil _ _ _ _ _ | exact Kd.Q_nil _ _ _ _ _ | exact Kd.S_nil _ _ _ _ _, by first | exact Kd.R_nil _ _ _ _ _ | exact Kd.N_nil _ _ _ _ _ | exact Kd.V_nil _ _ _ _ _ | exact Kd.Q_nil _ _ _ _ _ | exact Kd.S_nil _ _ _ _ _, BB⟩
              ·
               replace c39 := Bool.eq_false_iff.mpr c39
               subst c39
               have H1 : (if x13_3 > a1 then (some (([] : List Int), ([] : List ByteArray), x11_1, 8)) else (if 0 ≤ (wrap64 (x14_3 + 1)) then (if (wrap64 (x14_3 + 1)) ≤ x12_3 then (if x12_3 ≤ (a0.size : Int) then (if (a0.extract ((wrap64 (x14_3 + 1)) : Int).toNat (x12_3 : Int).toNat).toList = ([] : List UInt8) then (if x8_1.length < 17592186044416 then (if x10_1.length < 8796093022208 then (if x9_1.length < 17592186044416 then (corporaref09_parse.l0 kj32 a0 a1 (x8_1 ++ [wrap64 (x13_3 - 1)]) (x9_1 ++ [x11_1]) (x10_1 ++ [a0.extract ((wrap64 (x14_3 + 1)) : Int).toNat (x12_3 : Int).toNat]) (wrap64 (x12_3 + 1))) else (none)) else (none)) else (none)) else ((corporaref04_ValidName.f kj32 (a0.extract ((wrap64 (x14_3 + 1)) : Int).toNat (x12_3 : Int).toNat)).bind fun t385 => (if t385 = true then (if x8_1.length < 17592186044416 then (if x10_1.length < 8796093022208 then (if x9_1.length < 17592186044416 then (corporaref09_parse.l0 kj32 a0 a1 (x8_1 ++ [wrap64 (x13_3 - 1)]) (x9_1 ++ [x11_1]) (x10_1 ++ [a0.extract ((wrap64 (x14_3 + 1)) : Int).toNat (x12_3 : Int).toNat]) (wrap64 (x12_3 + 1))) else (none)) else (none)) else (none)) else (some (([] : List Int), ([] : List ByteArray), wrap64 (x14_3 + 1), 4))))) else (none)) else (none)) else (none))) = some (r1, r2, r3, r4) := by rw [if_neg (show ¬ (false = true) by decide)] at H; exact H
               clear H
               have H := H1
               clear H1
               by_cases c40 : x13_3 > a1
               ·
                rw [if_pos c40] at H
                have c40b0 : decide (a1 < x13_3) = true := decide_eq_true c40
                clear c40
                simp only [Option.some.injEq, Prod.mk.injEq] at H
                obtain ⟨rfl, rfl, rfl, rfl⟩ := H
                go_wp2
                repeat (go_quiet (fail); try go_wp2)
                refine bodyPost_ret (results_list (rs := [.tmp 4, .tmp 5, .tmp 6, .tmp 7]) rfl (by simp) (.tmp (.tmp (.tmp (.tmp .nil))))) rfl ?_
                exact ⟨_, _, BX, by first | exact Kd.R_nil _ _ _ _ _ | exact Kd.N_nil _ _ _ _ _ | exact Kd.V_nil _ _ _ _ _ | exact Kd.Q_nil _ _ _ _ _ | exact Kd.S_nil _ _ _ _ _, by first | exact Kd.R_nil _ _ _ _ _ | exact Kd.N_nil _ _ _ _ _ | exact Kd.V_nil _ _ _ _ _ | exact Kd.Q_nil _ _ _ _ _ | exact Kd.S_nil _ _ _ _ _, BB⟩
               ·
                rw [if_neg c40] at H
                have c40b0 : decide (a1 < x13_3) = false := decide_eq_false c40
                clear c40
                obtain ⟨ji41, hji41⟩ : ∃ j_ : Int, (wrap64 (x14_3 + 1)) = j_ := ⟨_, rfl⟩
                replace H : (if 0 ≤ (ji41) then (if (ji41) ≤ x12_3 then (if x12_3 ≤ (a0.size : Int) then (if (a0.extract ((ji41) : Int).toNat (x12_3 : Int).toNat).toList = ([] : List UInt8) then (if x8_1.length < 17592186044416 then (if x10_1.length < 8796093022208 then (if x9_1.length < 17592186044416 then (corporaref09_parse.l0 kj32 a0 a1 (x8_1 ++ [wrap64 (x13_3 - 1)]) (x9_1 ++ [x11_1]) (x10_1 ++ [a0.extract ((ji41) : Int).toNat (x12_3 : Int).toNat]) (wrap64 (x12_3 + 1))) else (none)) else (none)) else (none)) else ((corporaref04_ValidName.f kj32 (a0.extract ((ji41) : Int).toNat (x12_3 : Int).toNat)).bind fun t385 => (if t385 = true then (if x8_1.length < 17592186044416 then (if x10_1.length < 8796093022208 then (if x9_1.length < 17592186044416 then (corporaref09_parse.l0 kj32 a0 a1 (x8_1 ++ [wrap64 (x13_3 - 1)]) (x9_1 ++ [x11_1]) (x10_1 ++ [a0.extract ((ji41) : Int).toNat (x12_3 : Int).toNat]) (wrap64 (x12_3 + 1))) else (none)) else (none)) else (none)) else (some (([] : List Int), ([] : List ByteArray), ji41, 4))))) else (none)) else (none)) else (none)) = some (r1, r2, r3, r4) := by first | (rw [hji41] at H; exact H) | (simp only [hji41] at H ⊢; exact H)
                have hji41w : (IntKind.i64.wrap (x14_3 + 1)) = ji41 := (i64_w _).trans hji41
                by_cases c42 : 0 ≤ (ji41)
                ·
                 rw [if_pos c42] at H
                 have c42b0 := eq_true c42
                 have c42b1 : decide (0 ≤ (ji41)) = true := decide_eq_true c42
                 clear c42
                 by_cases c43 : (ji41) ≤ x12_3
                 ·
                  rw [if_pos c43] at H
                  have c43b0 := eq_true c43
                  have c43b1 : decide ((ji41) ≤ x12_3) = true := decide_eq_true c43
                  clear c43
                  by_cases c44 : x12_3 ≤ (a0.size : Int)
                  ·
                   rw [if_pos c44] at H
                   have c44b0 := eq_true c44
                   have c44b1 : decide (x12_3 ≤ (a0.size : Int)) = true := decide_eq_true c44
                   clear c44
                   by_cases c45 : (a0.extract ((ji41) : Int).toNat (x12_3 : Int).toNat).toList = ([] : List UInt8)
                   ·
                    rw [if_pos c45] at H
                    have c45b0 : ((a0.extract ((ji41) : Int).toNat (x12_3 : Int).toNat).toList == ([] : List UInt8)) = true := beq_iff_eq.mpr c45
                    have c45b1 : ((a0.extract ((ji41) : Int).toNat (x12_3 : Int).toNat).toList != ([] : List UInt8)) = false := bne_eq_false_iff_eq.mpr c45
                    clear c45
                    by_cases c46 : x8_1.length < 17592186044416
                    ·
                     rw [if_pos c46] at H
                     have LMc46 := Aside0.mk c46
                     clear c46
                     obtain ⟨y376, hy376⟩ : ∃ y_ : List Int, y_ = (x8_1 ++ [wrap64 (x13_3 - 1)]) := ⟨_, rfl⟩
                     replace H : (if x10_1.length < 8796093022208 then (if x9_1.length < 17592186044416 then (corporaref09_parse.l0 kj32 a0 a1 y376 (x9_1 ++ [x11_1]) (x10_1 ++ [a0.extract ((ji41) : Int).toNat (x12_3 : Int).toNat]) (wrap64 (x12_3 + 1))) else (none)) else (none)) = some (r1, r2, r3, r4) := by first | (rw [hy376]; with_reducible exact H) | (have H2_ := (Option.bind_some _ _).symm.trans H; rw [hy376]; with_reducible exact H2_) | (have H2_ := (Option.bind_some _ _).symm.trans H; with_reducible exact H2_) | with_reducible exact H | (rw [hy376]; exact H) | exact H
                     have Ny376 := Aside0.mk hy376
                     clear hy376
                     by_cases c47 : x10_1.length < 8796093022208
                     ·
                      rw [if_pos c47] at H
                      have LMc47 := Aside0.mk c47
                      clear c47
                      obtain ⟨y379, hy379⟩ : ∃ y_ : List ByteArray, y_ = (x10_1 ++ [a0.extract ((ji41) : Int).toNat (x12_3 : Int).toNat]) := ⟨_, rfl⟩
                      replace H : (if x9_1.length < 17592186044416 then (corporaref09_parse.l0 kj32 a0 a1 y376 (x9_1 ++ [x11_1]) y379 (wrap64 (x12_3 + 1))) else (none)) = some (r1, r2, r3, r4) := by first | (rw [hy379]; with_reducible exact H) | (have H2_ := (Option.bind_some _ _).symm.trans H; rw [hy379]; with_reducible exact H2_) | (have H2_ := (Option.bind_some _ _).symm.trans H; with_reducible exact H2_) | with_reducible exact H | (rw [hy379]; exact H) | exact H
                      have Ny379 := Aside0.mk hy379
                      clear hy379
                      by_cases c48 : x9_1.length < 17592186044416
                      ·
                       rw [if_pos c48] at H
                       have LMc48 := Aside0.mk c48
                       clear c48
                       obtain ⟨y382, hy382⟩ : ∃ y_ : List Int, y_ = (x9_1 ++ [x11_1]) := ⟨_, rfl⟩
                       replace H : (corporaref09_parse.l0 kj32 a0 a1 y376 y382 y379 (wrap64 (x12_3 + 1))) = some (r1, r2, r3, r4) := by first | (rw [hy382]; with_reducible exact H) | (have H2_ := (Option.bind_some _ _).symm.trans H; rw [hy382]; with_reducible exact H2_) | (have H2_ := (Option.bind_some _ _).symm.trans H; with_reducible exact H2_) | with_reducible exact H | (rw [hy382]; exact H) | exact H
                       have Ny382 := Aside0.mk hy382
                       clear hy382
                       have H' := Aside0.mk H
                       clear H
                       go_wp2_with (first | ((with_reducible refine gate_builtin (b := .append) (xs := #[.tmp 111, .tmp 114]) rfl ?_); at_builtin; refine Kd.R_append (Kd.int .i64) (w0 := w) w.heap.size rfl (.tmp 111) (.tmp 114) 22 3 (.int .i64 0) 8 rfl Try.underlying22 info3 rfl (by decide) (by omega) (.slice Ao11 x8_1.length co11) x8_1 (wrap64 (x13_3 - 1)) [.int .i64 (wrap64 (x13_3 - 1))] (fun k_ => some k_ ≠ (u9 : Value).ownBlock) (fun _ => False) rfl rfl ?aP (fun _ hk => hk.elim) ?aF ?aO ?aB ?aS ?aL ?_; (case aP => exact rfl); (case aB => exact (BB)); (case aF => exact (fun k_ hk => Kd.fresh' (Kd.R_lt (BR HO_9.out)) k_ hk)); (case aO => exact (BR HO_8.out)); (case aS => exact (below_size (BB))); (case aL => have := LMc46.out; omega); intro v377 w49 ho hb hg hat; rw [← Ny376.out] at ho; have n0_ := Aside0.mk (Kd.R_after (ok := (fun _ => True)) (by (with_reducible repeat (first | apply Kd.R_alloc | apply Kd.R_drewN | apply Kd.R_drew)); exact Kd.R_mono HO_9.out (fun _ hk => ⟨trivial, hk⟩)) hg hat); have n1_ := Aside0.mk (Kd.R_over' (BR HO_10.out) (Kd.R_typed (BR HO_8.out)) (by decide) hg); have n2_ := Aside0.mk (hb); have n3_ := Aside0.mk (ho); clear HO_9; clear HO_10; clear HB; clear HO_8; have HO_9 := n0_; have HO_10 := n1_; have HB := n2_; have HO378 := n3_; clear n0_ n1_ n2_ n3_; clear ho hb hg hat) | ((with_reducible refine gate_builtin (b := .append) (xs := #[.tmp 116, .tmp 118]) rfl ?_); at_builtin; refine Kd.R_append Kd.string (w0 := w) w.heap.size rfl (.tmp 116) (.tmp 118) 34 9 (.string ⟨#[]⟩) 16 rfl Try.underlying34 info9 rfl (by decide) (by omega) u10 x10_1 (a0.extract ((ji41) : Int).toNat (x12_3 : Int).toNat) [.string (a0.extract ((ji41) : Int).toNat (x12_3 : Int).toNat)] (fun _ => True) (fun _ => False) rfl rfl ?aP (fun _ hk => hk.elim) ?aF ?aO ?aB ?aS ?aL ?_; (case aP => exact rfl); (case aB => exact (BB)); (case aF => exact (fun _ _ => trivial)); (case aO => exact (BR HO_10.out)); (case aS => exact (below_size (BB))); (case aL => have := LMc47.out; omega); intro v380 w50 ho hb hg hat; rw [← Ny379.out] at ho; have n0_ := Aside0.mk (Kd.R_over' (BR HO_9.out) (Kd.R_typed (BR HO_10.out)) (by decide) hg); have n1_ := Aside0.mk (Kd.R_over' (BR HO378.out) (Kd.R_typed (BR HO_10.out)) (by decide) hg); have n2_ := Aside0.mk (hb); have n3_ := Aside0.mk (ho); clear HO_9; clear HO378; clear HB; clear HO_10; have HO_9 := n0_; have HO378 := n1_; have HB := n2_; have HO381 := n3_; clear n0_ n1_ n2_ n3_; clear ho hb hg hat) | ((with_reducible refine gate_builtin (b := .append) (xs := #[.tmp 120, .tmp 122]) rfl ?_); at_builtin; refine Kd.R_append (Kd.int .i64) (w0 := w) w.heap.size rfl (.tmp 120) (.tmp 122) 22 3 (.int .i64 0) 8 rfl Try.underlying22 info3 rfl (by decide) (by omega) u9 x9_1 x11_1 [.int .i64 x11_1] (fun k_ => some k_ ≠ (v377 : Value).ownBlock) (fun _ => False) rfl rfl ?aP (fun _ hk => hk.elim) ?aF ?aO ?aB ?aS ?aL ?_; (case aP => exact rfl); (case aB => exact (BB)); (case aF => exact (fun k_ hk => Kd.fresh' (Kd.R_lt (BR HO378.out)) k_ hk)); (case aO => exact (by (with_reducible repeat (first | apply Kd.R_alloc | apply Kd.R_drewN | apply Kd.R_drew)); exact Kd.R_mono HO_9.out (fun _ hk => hk.2))); (case aS => exact (below_size (BB))); (case aL => have := LMc48.out; omega); intro v383 w51 ho hb hg hat; rw [← Ny382.out] at ho; have n0_ := Aside0.mk (Kd.R_after (ok := (fun _ => True)) (by (with_reducible repeat (first | apply Kd.R_alloc | apply Kd.R_drewN | apply Kd.R_drew)); exact Kd.R_mono HO378.out (fun _ hk => ⟨trivial, hk⟩)) hg hat); have n1_ := Aside0.mk (Kd.R_over' (BR HO381.out) (Kd.R_typed (BR HO_9.out)) (by decide) hg); have n2_ := Aside0.mk (hb); have n3_ := Aside0.mk (ho); clear HO378; clear HO381; clear HB; clear HO_9; have HO378 := n0_; have HO381 := n1_; have HB := n2_; have HO384 := n3_; clear n0_ n1_ n2_ n3_; clear ho hb hg hat))
                       repeat (go_quiet (first | ((with_reducible refine gate_builtin (b := .append) (xs := #[.tmp 111, .tmp 114]) rfl ?_); at_builtin; refine Kd.R_append (Kd.int .i64) (w0 := w) w.heap.size rfl (.tmp 111) (.tmp 114) 22 3 (.int .i64 0) 8 rfl Try.underlying22 info3 rfl (by decide) (by omega) (.slice Ao11 x8_1.length co11) x8_1 (wrap64 (x13_3 - 1)) [.int .i64 (wrap64 (x13_3 - 1))] (fun k_ => some k_ ≠ (u9 : Value).ownBlock) (fun _ => False) rfl rfl ?aP (fun _ hk => hk.elim) ?aF ?aO ?aB ?aS ?aL ?_; (case aP => exact rfl); (case aB => exact (BB)); (case aF => exact (fun k_ hk => Kd.fresh' (Kd.R_lt (BR HO_9.out)) k_ hk)); (case aO => exact (BR HO_8.out)); (case aS => exact (below_size (BB))); (case aL => have := LMc46.out; omega); intro v377 w49 ho hb hg hat; rw [← Ny376.out] at ho; have n0_ := Aside0.mk (Kd.R_after (ok := (fun _ => True)) (by (with_reducible repeat (first | apply Kd.R_alloc | apply Kd.R_drewN | apply Kd.R_drew)); exact Kd.R_mono HO_9.out (fun _ hk => ⟨trivial, hk⟩)) hg hat); have n1_ := Aside0.mk (Kd.R_over' (BR HO_10.out) (Kd.R_typed (BR HO_8.out)) (by decide) hg); have n2_ := Aside0.mk (hb); have n3_ := Aside0.mk (ho); clear HO_9; clear HO_10; clear HB; clear HO_8; have HO_9 := n0_; have HO_10 := n1_; have HB := n2_; have HO378 := n3_; clear n0_ n1_ n2_ n3_; clear ho hb hg hat) | ((with_reducible refine gate_builtin (b := .append) (xs := #[.tmp 116, .tmp 118]) rfl ?_); at_builtin; refine Kd.R_append Kd.string (w0 := w) w.heap.size rfl (.tmp 116) (.tmp 118) 34 9 (.string ⟨#[]⟩) 16 rfl Try.underlying34 info9 rfl (by decide) (by omega) u10 x10_1 (a0.extract ((ji41) : Int).toNat (x12_3 : Int).toNat) [.string (a0.extract ((ji41) : Int).toNat (x12_3 : Int).toNat)] (fun _ => True) (fun _ => False) rfl rfl ?aP (fun _ hk => hk.elim) ?aF ?aO ?aB ?aS ?aL ?_; (case aP => exact rfl); (case aB => exact (BB)); (case aF => exact (fun _ _ => trivial)); (case aO => exact (BR HO_10.out)); (case aS => exact (below_size (BB))); (case aL => have := LMc47.out; omega); intro v380 w50 ho hb hg hat; rw [← Ny379.out] at ho; have n0_ := Aside0.mk (Kd.R_over' (BR HO_9.out) (Kd.R_typed (BR HO_10.out)) (by decide) hg); have n1_ := Aside0.mk (Kd.R_over' (BR HO378.out) (Kd.R_typed (BR HO_10.out)) (by decide) hg); have n2_ := Aside0.mk (hb); have n3_ := Aside0.mk (ho); clear HO_9; clear HO378; clear HB; clear HO_10; have HO_9 := n0_; have HO378 := n1_; have HB := n2_; have HO381 := n3_; clear n0_ n1_ n2_ n3_; clear ho hb hg hat) | ((with_reducible refine gate_builtin (b := .append) (xs := #[.tmp 120, .tmp 122]) rfl ?_); at_builtin; refine Kd.R_append (Kd.int .i64) (w0 := w) w.heap.size rfl (.tmp 120) (.tmp 122) 22 3 (.int .i64 0) 8 rfl Try.underlying22 info3 rfl (by decide) (by omega) u9 x9_1 x11_1 [.int .i64 x11_1] (fun k_ => some k_ ≠ (v377 : Value).ownBlock) (fun _ => False) rfl rfl ?aP (fun _ hk => hk.elim) ?aF ?aO ?aB ?aS ?aL ?_; (case aP => exact rfl); (case aB => exact (BB)); (case aF => exact (fun k_ hk => Kd.fresh' (Kd.R_lt (BR HO378.out)) k_ hk)); (case aO => exact (by (with_reducible repeat (first | apply Kd.R_alloc | apply Kd.R_drewN | apply Kd.R_drew)); exact Kd.R_mono HO_9.out (fun _ hk => hk.2))); (case aS => exact (below_size (BB))); (case aL => have := LMc48.out; omega); intro v383 w51 ho hb hg hat; rw [← Ny382.out] at ho; have n0_ := Aside0.mk (Kd.R_after (ok := (fun _ => True)) (by (with_reducible repeat (first | apply Kd.R_alloc | apply Kd.R_drewN | apply Kd.R_drew)); exact Kd.R_mono HO378.out (fun _ hk => ⟨trivial, hk⟩)) hg hat); have n1_ := Aside0.mk (Kd.R_over' (BR HO381.out) (Kd.R_typed (BR HO_9.out)) (by decide) hg); have n2_ := Aside0.mk (hb); have n3_ := Aside0.mk (ho); clear HO378; clear HO381; clear HB; clear HO_9; have HO378 := n0_; have HO381 := n1_; have HB := n2_; have HO384 := n3_; clear n0_ n1_ n2_ n3_; clear ho hb hg hat)); try go_wp2_with (first | ((with_reducible refine gate_builtin (b := .append) (xs := #[.tmp 111, .tmp 114]) rfl ?_); at_builtin; refine Kd.R_append (Kd.int .i64) (w0 := w) w.heap.size rfl (.tmp 111) (.tmp 114) 22 3 (.int .i64 0) 8 rfl Try.underlying22 info3 rfl (by decide) (by omega) (.slice Ao11 x8_1.length co11) x8_1 (wrap64 (x13_3 - 1)) [.int .i64 (wrap64 (x13_3 - 1))] (fun k_ => some k_ ≠ (u9 : Value).ownBlock) (fun _ => False) rfl rfl ?aP (fun _ hk => hk.elim) ?aF ?aO ?aB ?aS ?aL ?_; (case aP => exact rfl); (case aB => exact (BB)); (case aF => exact (fun k_ hk => Kd.fresh' (Kd.R_lt (BR HO_9.out)) k_ hk)); (case aO => exact (BR HO_8.out)); (case aS => exact (below_size (BB))); (case aL => have := LMc46.out; omega); intro v377 w49 ho hb hg hat; rw [← Ny376.out] at ho; have n0_ := Aside0.mk (Kd.R_after (ok := (fun _ => True)) (by (with_reducible repeat (first | apply Kd.R_alloc | apply Kd.R_drewN | apply Kd.R_drew)); exact Kd.R_mono HO_9.out (fun _ hk => ⟨trivial, hk⟩)) hg hat); have n1_ := Aside0.mk (Kd.R_over' (BR HO_10.out) (Kd.R_typed (BR HO_8.out)) (by decide) hg); have n2_ := Aside0.mk (hb); have n3_ := Aside0.mk (ho); clear HO_9; clear HO_10; clear HB; clear HO_8; have HO_9 := n0_; have HO_10 := n1_; have HB := n2_; have HO378 := n3_; clear n0_ n1_ n2_ n3_; clear ho hb hg hat) | ((with_reducible refine gate_builtin (b := .append) (xs := #[.tmp 116, .tmp 118]) rfl ?_); at_builtin; refine Kd.R_append Kd.string (w0 := w) w.heap.size rfl (.tmp 116) (.tmp 118) 34 9 (.string ⟨#[]⟩) 16 rfl Try.underlying34 info9 rfl (by decide) (by omega) u10 x10_1 (a0.extract ((ji41) : Int).toNat (x12_3 : Int).toNat) [.string (a0.extract ((ji41) : Int).toNat (x12_3 : Int).toNat)] (fun _ => True) (fun _ => False) rfl rfl ?aP (fun _ hk => hk.elim) ?aF ?aO ?aB ?aS ?aL ?_; (case aP => exact rfl); (case aB => exact (BB)); (case aF => exact (fun _ _ => trivial)); (case aO => exact (BR HO_10.out)); (case aS => exact (below_size (BB))); (case aL => have := LMc47.out; omega); intro v380 w50 ho hb hg hat; rw [← Ny379.out] at ho; have n0_ := Aside0.mk (Kd.R_over' (BR HO_9.out) (Kd.R_typed (BR HO_10.out)) (by decide) hg); have n1_ := Aside0.mk (Kd.R_over' (BR HO378.out) (Kd.R_typed (BR HO_10.out)) (by decide) hg); have n2_ := Aside0.mk (hb); have n3_ := Aside0.mk (ho); clear HO_9; clear HO378; clear HB; clear HO_10; have HO_9 := n0_; have HO378 := n1_; have HB := n2_; have HO381 := n3_; clear n0_ n1_ n2_ n3_; clear ho hb hg hat) | ((with_reducible refine gate_builtin (b := .append) (xs := #[.tmp 120, .tmp 122]) rfl ?_); at_builtin; refine Kd.R_append (Kd.int .i64) (w0 := w) w.heap.size rfl (.tmp 120) (.tmp 122) 22 3 (.int .i64 0) 8 rfl Try.underlying22 info3 rfl (by decide) (by omega) u9 x9_1 x11_1 [.int .i64 x11_1] (fun k_ => some k_ ≠ (v377 : Value).ownBlock) (fun _ => False) rfl rfl ?aP (fun _ hk => hk.elim) ?aF ?aO ?aB ?aS ?aL ?_; (case aP => exact rfl); (case aB => exact (BB)); (case aF => exact (fun k_ hk => Kd.fresh' (Kd.R_lt (BR HO378.out)) k_ hk)); (case aO => exact (by (with_reducible repeat (first | apply Kd.R_alloc | apply Kd.R_drewN | apply Kd.R_drew)); exact Kd.R_mono HO_9.out (fun _ hk => hk.2))); (case aS => exact (below_size (BB))); (case aL => have := LMc48.out; omega); intro v383 w51 ho hb hg hat; rw [← Ny382.out] at ho; have n0_ := Aside0.mk (Kd.R_after (ok := (fun _ => True)) (by (with_reducible repeat (first | apply Kd.R_alloc | apply Kd.R_drewN | apply Kd.R_drew)); exact Kd.R_mono HO378.out (fun _ hk => ⟨trivial, hk⟩)) hg hat); have n1_ := Aside0.mk (Kd.R_over' (BR HO381.out) (Kd.R_typed (BR HO_9.out)) (by decide) hg); have n2_ := Aside0.mk (hb); have n3_ := Aside0.mk (ho); clear HO378; clear HO381; clear HB; clear HO_9; have HO378 := n0_; have HO381 := n1_; have HB := n2_; have HO384 := n3_; clear n0_ n1_ n2_ n3_; clear ho hb hg hat)))
                       go_roundg kj32
                       case measure => have := HK1.out; have := HJ3.out; have := HK3.out; have := HJ11.out; have := HJ32.out; omega
                       case rel => exact ⟨(y376), (y382), (y379), (wrap64 (x12_3 + 1)), (BE), H', ⟨by have := HK1.out; have := HJ3.out; have := HK3.out; have := HJ11.out; have := HJ32.out; omega⟩, ⟨by (with_reducible repeat (first | apply Kd.R_alloc | apply Kd.R_drewN | apply Kd.R_drew)); exact Kd.R_mono HO378.out (fun _ hk => hk.2)⟩, ⟨BR HO384.out⟩, ⟨BR HO381.out⟩, ⟨BB⟩⟩
                      ·
                       rw [if_neg c48] at H
                       exact absurd H (by simp)
                     ·
                      rw [if_neg c47] at H
                      exact absurd H (by simp)
                    ·
                     rw [if_neg c46] at H
                     exact absurd H (by simp)
                   ·
                    rw [if_neg c45] at H
                    have c45b0 : ((a0.extract ((ji41) : Int).toNat (x12_3 : Int).toNat).toList == ([] : List UInt8)) = false := beq_eq_false_iff_ne.mpr c45
                    have c45b1 : ((a0.extract ((ji41) : Int).toNat (x12_3 : Int).toNat).toList != ([] : List UInt8)) = true := bne_iff_ne.mpr c45
                    replace H := Option.bind_eq_some_iff.mp H
                    obtain ⟨t385, A520, H⟩ := H
                    replace H : (if t385 = true then (if x8_1.length < 17592186044416 then (if x10_1.length < 8796093022208 then (if x9_1.length < 17592186044416 then (corporaref09_parse.l0 kj32 a0 a1 (x8_1 ++ [wrap64 (x13_3 - 1)]) (x9_1 ++ [x11_1]) (x10_1 ++ [a0.extract ((ji41) : Int).toNat (x12_3 : Int).toNat]) (wrap64 (x12_3 + 1))) else (none)) else (none)) else (none)) else (some (([] : List Int), ([] : List ByteArray), ji41, 4))) = some (r1, r2, r3, r4) := H
                    have A52 := Aside0.mk A520
                    clear A520
                    by_cases c53 : t385 = true
                    ·
                     subst c53
                     have H1 : (if x8_1.length < 17592186044416 then (if x10_1.length < 8796093022208 then (if x9_1.length < 17592186044416 then (corporaref09_parse.l0 kj32 a0 a1 (x8_1 ++ [wrap64 (x13_3 - 1)]) (x9_1 ++ [x11_1]) (x10_1 ++ [a0.extract ((ji41) : Int).toNat (x12_3 : Int).toNat]) (wrap64 (x12_3 + 1))) else (none)) else (none)) else (none)) = some (r1, r2, r3, r4) := by rw [if_pos rfl] at H; exact H
                     clear H
                     have H := H1
                     clear H1
                     by_cases c54 : x8_1.length < 17592186044416
                     ·
                      rw [if_pos c54] at H
                      have LMc54 := Aside0.mk c54
                      clear c54
                      obtain ⟨y386, hy386⟩ : ∃ y_ : List Int, y_ = (x8_1 ++ [wrap64 (x13_3 - 1)]) := ⟨_, rfl⟩
                      replace H : (if x10_1.length < 8796093022208 then (if x9_1.length < 17592186044416 then (corporaref09_parse.l0 kj32 a0 a1 y386 (x9_1 ++ [x11_1]) (x10_1 ++ [a0.extract ((ji41) : Int).toNat (x12_3 : Int).toNat]) (wrap64 (x12_3 + 1))) else (none)) else (none)) = some (r1, r2, r3, r4) := by first | (rw [hy386]; with_reducible exact H) | (have H2_ := (Option.bind_some _ _).symm.trans H; rw [hy386]; with_reducible exact H2_) | (have H2_ := (Option.bind_some _ _).symm.trans H; with_reducible exact H2_) | with_reducible exact H | (rw [hy386]; exact H) | exact H
                      have Ny386 := Aside0.mk hy386
                      clear hy386
                      by_cases c55 : x10_1.length < 8796093022208
                      ·
                       rw [if_pos c55] at H
                       have LMc55 := Aside0.mk c55
                       clear c55
                       obtain ⟨y389, hy389⟩ : ∃ y_ : List ByteArray, y_ = (x10_1 ++ [a0.extract ((ji41) : Int).toNat (x12_3 : Int).toNat]) := ⟨_, rfl⟩
                       replace H : (if x9_1.length < 17592186044416 then (corporaref09_parse.l0 kj32 a0 a1 y386 (x9_1 ++ [x11_1]) y389 (wrap64 (x12_3 + 1))) else (none)) = some (r1, r2, r3, r4) := by first | (rw [hy389]; with_reducible exact H) | (have H2_ := (Option.bind_some _ _).symm.trans H; rw [hy389]; with_reducible exact H2_) | (have H2_ := (Option.bind_some _ _).symm.trans H; with_reducible exact H2_) | with_reducible exact H | (rw [hy389]; exact H) | exact H
                       have Ny389 := Aside0.mk hy389
                       clear hy389
                       by_cases c56 : x9_1.length < 17592186044416
                       ·
                        rw [if_pos c56] at H
                        have LMc56 := Aside0.mk c56
                        clear c56
                        obtain ⟨y392, hy392⟩ : ∃ y_ : List Int, y_ = (x9_1 ++ [x11_1]) := ⟨_, rfl⟩
                        replace H : (corporaref09_parse.l0 kj32 a0 a1 y386 y392 y389 (wrap64 (x12_3 + 1))) = some (r1, r2, r3, r4) := by first | (rw [hy392]; with_reducible exact H) | (have H2_ := (Option.bind_some _ _).symm.trans H; rw [hy392]; with_reducible exact H2_) | (have H2_ := (Option.bind_some _ _).symm.trans H; with_reducible exact H2_) | with_reducible exact H | (rw [hy392]; exact H) | exact H
                        have Ny392 := Aside0.mk hy392
                        clear hy392
                        have H' := Aside0.mk H
                        clear H
                        go_wp2_with (first | (go_at_call 37; (with_reducible refine (corporaref04_ValidName.calls kj32 (a0.extract ((ji41) : Int).toNat (x12_3 : Int).toNat) true _ A52.out).mono ?_); rintro e w' ⟨rfl, ⟨nd, rfl⟩⟩; (try first | exact ⟨rfl, _, World.drewN_drewN _ _ _⟩ | exact ⟨rfl, _, Eq.trans (World.drewN_drewN _ _ _) (congrArg (World.drewN _) (Nat.add_assoc _ _ _))⟩)) | ((with_reducible refine gate_builtin (b := .append) (xs := #[.tmp 111, .tmp 114]) rfl ?_); at_builtin; refine Kd.R_append (Kd.int .i64) (w0 := w) w.heap.size rfl (.tmp 111) (.tmp 114) 22 3 (.int .i64 0) 8 rfl Try.underlying22 info3 rfl (by decide) (by omega) (.slice Ao11 x8_1.length co11) x8_1 (wrap64 (x13_3 - 1)) [.int .i64 (wrap64 (x13_3 - 1))] (fun k_ => some k_ ≠ (u9 : Value).ownBlock) (fun _ => False) rfl rfl ?aP (fun _ hk => hk.elim) ?aF ?aO ?aB ?aS ?aL ?_; (case aP => exact rfl); (case aB => exact (BB)); (case aF => exact (fun k_ hk => Kd.fresh' (Kd.R_lt (BR HO_9.out)) k_ hk)); (case aO => exact (BR HO_8.out)); (case aS => exact (below_size (BB))); (case aL => have := LMc54.out; omega); intro v387 w57 ho hb hg hat; rw [← Ny386.out] at ho; have n0_ := Aside0.mk (Kd.R_after (ok := (fun _ => True)) (by (with_reducible repeat (first | apply Kd.R_alloc | apply Kd.R_drewN | apply Kd.R_drew)); exact Kd.R_mono HO_9.out (fun _ hk => ⟨trivial, hk⟩)) hg hat); have n1_ := Aside0.mk (Kd.R_over' (BR HO_10.out) (Kd.R_typed (BR HO_8.out)) (by decide) hg); have n2_ := Aside0.mk (hb); have n3_ := Aside0.mk (ho); clear HO_9; clear HO_10; clear HB; clear HO_8; have HO_9 := n0_; have HO_10 := n1_; have HB := n2_; have HO388 := n3_; clear n0_ n1_ n2_ n3_; clear ho hb hg hat) | ((with_reducible refine gate_builtin (b := .append) (xs := #[.tmp 116, .tmp 118]) rfl ?_); at_builtin; refine Kd.R_append Kd.string (w0 := w) w.heap.size rfl (.tmp 116) (.tmp 118) 34 9 (.string ⟨#[]⟩) 16 rfl Try.underlying34 info9 rfl (by decide) (by omega) u10 x10_1 (a0.extract ((ji41) : Int).toNat (x12_3 : Int).toNat) [.string (a0.extract ((ji41) : Int).toNat (x12_3 : Int).toNat)] (fun _ => True) (fun _ => False) rfl rfl ?aP (fun _ hk => hk.elim) ?aF ?aO ?aB ?aS ?aL ?_; (case aP => exact rfl); (case aB => exact (BB)); (case aF => exact (fun _ _ => trivial)); (case aO => exact (BR HO_10.out)); (case aS => exact (below_size (BB))); (case aL => have := LMc55.out; omega); intro v390 w58 ho hb hg hat; rw [← Ny389.out] at ho; have n0_ := Aside0.mk (Kd.R_over' (BR HO_9.out) (Kd.R_typed (BR HO_10.out)) (by decide) hg); have n1_ := Aside0.mk (Kd.R_over' (BR HO388.out) (Kd.R_typed (BR HO_10.out)) (by decide) hg); have n2_ := Aside0.mk (hb); have n3_ := Aside0.mk (ho); clear HO_9; clear HO388; clear HB; clear HO_10; have HO_9 := n0_; have HO388 := n1_; have HB := n2_; have HO391 := n3_; clear n0_ n1_ n2_ n3_; clear ho hb hg hat) | ((with_reducible refine gate_builtin (b := .append) (xs := #[.tmp 120, .tmp 122]) rfl ?_); at_builtin; refine Kd.R_append (Kd.int .i64) (w0 := w) w.heap.size rfl (.tmp 120) (.tmp 122) 22 3 (.int .i64 0) 8 rfl Try.underlying22 info3 rfl (by decide) (by omega) u9 x9_1 x11_1 [.int .i64 x11_1] (fun k_ => some k_ ≠ (v387 : Value).ownBlock) (fun _ => False) rfl rfl ?aP (fun _ hk => hk.elim) ?aF ?aO ?aB ?aS ?aL ?_; (case aP => exact rfl); (case aB => exact (BB)); (case aF => exact (fun k_ hk => Kd.fresh' (Kd.R_lt (BR HO388.out)) k_ hk)); (case aO => exact (by (with_reducible repeat (first | apply Kd.R_alloc | apply Kd.R_drewN | apply Kd.R_drew)); exact Kd.R_mono HO_9.out (fun _ hk => hk.2))); (case aS => exact (below_size (BB))); (case aL => have := LMc56.out; omega); intro v393 w59 ho hb hg hat; rw [← Ny392.out] at ho; have n0_ := Aside0.mk (Kd.R_after (ok := (fun _ => True)) (by (with_reducible repeat (first | apply Kd.R_alloc | apply Kd.R_drewN | apply Kd.R_drew)); exact Kd.R_mono HO388.out (fun _ hk => ⟨trivial, hk⟩)) hg hat); have n1_ := Aside0.mk (Kd.R_over' (BR HO391.out) (Kd.R_typed (BR HO_9.out)) (by decide) hg); have n2_ := Aside0.mk (hb); have n3_ := Aside0.mk (ho); clear HO388; clear HO391; clear HB; clear HO_9; have HO388 := n0_; have HO391 := n1_; have HB := n2_; have HO394 := n3_; clear n0_ n1_ n2_ n3_; clear ho hb hg hat))
                        repeat (go_quiet (first | (go_at_call 37; (with_reducible refine (corporaref04_ValidName.calls kj32 (a0.extract ((ji41) : Int).toNat (x12_3 : Int).toNat) true _ A52.out).mono ?_); rintro e w' ⟨rfl, ⟨nd, rfl⟩⟩; (try first | exact ⟨rfl, _, World.drewN_drewN _ _ _⟩ | exact ⟨rfl, _, Eq.trans (World.drewN_drewN _ _ _) (congrArg (World.drewN _) (Nat.add_assoc _ _ _))⟩)) | ((with_reducible refine gate_builtin (b := .append) (xs := #[.tmp 111, .tmp 114]) rfl ?_); at_builtin; refine Kd.R_append (Kd.int .i64) (w0 := w) w.heap.size rfl (.tmp 111) (.tmp 114) 22 3 (.int .i64 0) 8 rfl Try.underlying22 info3 rfl (by decide) (by omega) (.slice Ao11 x8_1.length co11) x8_1 (wrap64 (x13_3 - 1)) [.int .i64 (wrap64 (x13_3 - 1))] (fun k_ => some k_ ≠ (u9 : Value).ownBlock) (fun _ => False) rfl rfl ?aP (fun _ hk => hk.elim) ?aF ?aO ?aB ?aS ?aL ?_; (case aP => exact rfl); (case aB => exact (BB)); (case aF => exact (fun k_ hk => Kd.fresh' (Kd.R_lt (BR HO_9.out)) k_ hk)); (case aO => exact (BR HO_8.out)); (case aS => exact (below_size (BB))); (case aL => have := LMc54.out; omega); intro v387 w57 ho hb hg hat; rw [← Ny386.out] at ho; have n0_ := Aside0.mk (Kd.R_after (ok := (fun _ => True)) (by (with_reducible repeat (first | apply Kd.R_alloc | apply Kd.R_drewN | apply Kd.R_drew)); exact Kd.R_mono HO_9.out (fun _ hk => ⟨trivial, hk⟩)) hg hat); have n1_ := Aside0.mk (Kd.R_over' (BR HO_10.out) (Kd.R_typed (BR HO_8.out)) (by decide) hg); have n2_ := Aside0.mk (hb); have n3_ := Aside0.mk (ho); clear HO_9; clear HO_10; clear HB; clear HO_8; have HO_9 := n0_; have HO_10 := n1_; have HB := n2_; have HO388 := n3_; clear n0_ n1_ n2_ n3_; clear ho hb hg hat) | ((with_reducible refine gate_builtin (b := .append) (xs := #[.tmp 116, .tmp 118]) rfl ?_); at_builtin; refine Kd.R_append Kd.string (w0 := w) w.heap.size rfl (.tmp 116) (.tmp 118) 34 9 (.string ⟨#[]⟩) 16 rfl Try.underlying34 info9 rfl (by decide) (by omega) u10 x10_1 (a0.extract ((ji41) : Int).toNat (x12_3 : Int).toNat) [.string (a0.extract ((ji41) : Int).toNat (x12_3 : Int).toNat)] (fun _ => True) (fun _ => False) rfl rfl ?aP (fun _ hk => hk.elim) ?aF ?aO ?aB ?aS ?aL ?_; (case aP => exact rfl); (case aB => exact (BB)); (case aF => exact (fun _ _ => trivial)); (case aO => exact (BR HO_10.out)); (case aS => exact (below_size (BB))); (case aL => have := LMc55.out; omega); intro v390 w58 ho hb hg hat; rw [← Ny389.out] at ho; have n0_ := Aside0.mk (Kd.R_over' (BR HO_9.out) (Kd.R_typed (BR HO_10.out)) (by decide) hg); have n1_ := Aside0.mk (Kd.R_over' (BR HO388.out) (Kd.R_typed (BR HO_10.out)) (by decide) hg); have n2_ := Aside0.mk (hb); have n3_ := Aside0.mk (ho); clear HO_9; clear HO388; clear HB; clear HO_10; have HO_9 := n0_; have HO388 := n1_; have HB := n2_; have HO391 := n3_; clear n0_ n1_ n2_ n3_; clear ho hb hg hat) | ((with_reducible refine gate_builtin (b := .append) (xs := #[.tmp 120, .tmp 122]) rfl ?_); at_builtin; refine Kd.R_append (Kd.int .i64) (w0 := w) w.heap.size rfl (.tmp 120) (.tmp 122) 22 3 (.int .i64 0) 8 rfl Try.underlying22 info3 rfl (by decide) (by omega) u9 x9_1 x11_1 [.int .i64 x11_1] (fun k_ => some k_ ≠ (v387 : Value).ownBlock) (fun _ => False) rfl rfl ?aP (fun _ hk => hk.elim) ?aF ?aO ?aB ?aS ?aL ?_; (case aP => exact rfl); (case aB => exact (BB)); (case aF => exact (fun k_ hk => Kd.fresh' (Kd.R_lt (BR HO388.out)) k_ hk)); (case aO => exact (by (with_reducible repeat (first | apply Kd.R_alloc | apply Kd.R_drewN | apply Kd.R_drew)); exact Kd.R_mono HO_9.out (fun _ hk => hk.2))); (case aS => exact (below_size (BB))); (case aL => have := LMc56.out; omega); intro v393 w59 ho hb hg hat; rw [← Ny392.out] at ho; have n0_ := Aside0.mk (Kd.R_after (ok := (fun _ => True)) (by (with_reducible repeat (first | apply Kd.R_alloc | apply Kd.R_drewN | apply Kd.R_drew)); exact Kd.R_mono HO388.out (fun _ hk => ⟨trivial, hk⟩)) hg hat); have n1_ := Aside0.mk (Kd.R_over' (BR HO391.out) (Kd.R_typed (BR HO_9.out)) (by decide) hg); have n2_ := Aside0.mk (hb); have n3_ := Aside0.mk (ho); clear HO388; clear HO391; clear HB; clear HO_9; have HO388 := n0_; have HO391 := n1_; have HB := n2_; have HO394 := n3_; clear n0_ n1_ n2_ n3_; clear ho hb hg hat)); try go_wp2_with (first | (go_at_call 37; (with_reducible refine (corporaref04_ValidName.calls kj32 (a0.extract ((ji41) : Int).toNat (x12_3 : Int).toNat) true _ A52.out).mono ?_); rintro e w' ⟨rfl, ⟨nd, rfl⟩⟩; (try first | exact ⟨rfl, _, World.drewN_drewN _ _ _⟩ | exact ⟨rfl, _, Eq.trans (World.drewN_drewN _ _ _) (congrArg (World.drewN _) (Nat.add_assoc _ _ _))⟩)) | ((with_reducible refine gate_builtin (b := .append) (xs := #[.tmp 111, .tmp 114]) rfl ?_); at_builtin; refine Kd.R_append (Kd.int .i64) (w0 := w) w.heap.size rfl (.tmp 111) (.tmp 114) 22 3 (.int .i64 0) 8 rfl Try.underlying22 info3 rfl (by decide) (by omega) (.slice Ao11 x8_1.length co11) x8_1 (wrap64 (x13_3 - 1)) [.int .i64 (wrap64 (x13_3 - 1))] (fun k_ => some k_ ≠ (u9 : Value).ownBlock) (fun _ => False) rfl rfl ?aP (fun _ hk => hk.elim) ?aF ?aO ?aB ?aS ?aL ?_; (case aP => exact rfl); (case aB => exact (BB)); (case aF => exact (fun k_ hk => Kd.fresh' (Kd.R_lt (BR HO_9.out)) k_ hk)); (case aO => exact (BR HO_8.out)); (case aS => exact (below_size (BB))); (case aL => have := LMc54.out; omega); intro v387 w57 ho hb hg hat; rw [← Ny386.out] at ho; have n0_ := Aside0.mk (Kd.R_after (ok := (fun _ => True)) (by (with_reducible repeat (first | apply Kd.R_alloc | apply Kd.R_drewN | apply Kd.R_drew)); exact Kd.R_mono HO_9.out (fun _ hk => ⟨trivial, hk⟩)) hg hat); have n1_ := Aside0.mk (Kd.R_over' (BR HO_10.out) (Kd.R_typed (BR HO_8.out)) (by decide) hg); have n2_ := Aside0.mk (hb); have n3_ := Aside0.mk (ho); clear HO_9; clear HO_10; clear HB; clear HO_8; have HO_9 := n0_; have HO_10 := n1_; have HB := n2_; have HO388 := n3_; clear n0_ n1_ n2_ n3_; clear ho hb hg hat) | ((with_reducible refine gate_builtin (b := .append) (xs := #[.tmp 116, .tmp 118]) rfl ?_); at_builtin; refine Kd.R_append Kd.string (w0 := w) w.heap.size rfl (.tmp 116) (.tmp 118) 34 9 (.string ⟨#[]⟩) 16 rfl Try.underlying34 info9 rfl (by decide) (by omega) u10 x10_1 (a0.extract ((ji41) : Int).toNat (x12_3 : Int).toNat) [.string (a0.extract ((ji41) : Int).toNat (x12_3 : Int).toNat)] (fun _ => True) (fun _ => False) rfl rfl ?aP (fun _ hk => hk.elim) ?aF ?aO ?aB ?aS ?aL ?_; (case aP => exact rfl); (case aB => exact (BB)); (case aF => exact (fun _ _ => trivial)); (case aO => exact (BR HO_10.out)); (case aS => exact (below_size (BB))); (case aL => have := LMc55.out; omega); intro v390 w58 ho hb hg hat; rw [← Ny389.out] at ho; have n0_ := Aside0.mk (Kd.R_over' (BR HO_9.out) (Kd.R_typed (BR HO_10.out)) (by decide) hg); have n1_ := Aside0.mk (Kd.R_over' (BR HO388.out) (Kd.R_typed (BR HO_10.out)) (by decide) hg); have n2_ := Aside0.mk (hb); have n3_ := Aside0.mk (ho); clear HO_9; clear HO388; clear HB; clear HO_10; have HO_9 := n0_; have HO388 := n1_; have HB := n2_; have HO391 := n3_; clear n0_ n1_ n2_ n3_; clear ho hb hg hat) | ((with_reducible refine gate_builtin (b := .append) (xs := #[.tmp 120, .tmp 122]) rfl ?_); at_builtin; refine Kd.R_append (Kd.int .i64) (w0 := w) w.heap.size rfl (.tmp 120) (.tmp 122) 22 3 (.int .i64 0) 8 rfl Try.underlying22 info3 rfl (by decide) (by omega) u9 x9_1 x11_1 [.int .i64 x11_1] (fun k_ => some k_ ≠ (v387 : Value).ownBlock) (fun _ => False) rfl rfl ?aP (fun _ hk => hk.elim) ?aF ?aO ?aB ?aS ?aL ?_; (case aP => exact rfl); (case aB => exact (BB)); (case aF => exact (fun k_ hk => Kd.fresh' (Kd.R_lt (BR HO388.out)) k_ hk)); (case aO => exact (by (with_reducible repeat (first | apply Kd.R_alloc | apply Kd.R_drewN | apply Kd.R_drew)); exact Kd.R_mono HO_9.out (fun _ hk => hk.2))); (case aS => exact (below_size (BB))); (case aL => have := LMc56.out; omega); intro v393 w59 ho hb hg hat; rw [← Ny392.out] at ho; have n0_ := Aside0.mk (Kd.R_after (ok := (fun _ => True)) (by (with_reducible repeat (first | apply Kd.R_alloc | apply Kd.R_drewN | apply Kd.R_drew)); exact Kd.R_mono HO388.out (fun _ hk => ⟨trivial, hk⟩)) hg hat); have n1_ := Aside0.mk (Kd.R_over' (BR HO391.out) (Kd.R_typed (BR HO_9.out)) (by decide) hg); have n2_ := Aside0.mk (hb); have n3_ := Aside0.mk (ho); clear HO388; clear HO391; clear HB; clear HO_9; have HO388 := n0_; have HO391 := n1_; have HB := n2_; have HO394 := n3_; clear n0_ n1_ n2_ n3_; clear ho hb hg hat)))
                        go_roundg kj32
                        case measure => have := HK1.out; have := HJ3.out; have := HK3.out; have := HJ11.out; have := HJ32.out; omega
                        case rel => exact ⟨(y386), (y392), (y389), (wrap64 (x12_3 + 1)), (BE), H', ⟨by have := HK1.out; have := HJ3.out; have := HK3.out; have := HJ11.out; have := HJ32.out; omega⟩, ⟨by (with_reducible repeat (first | apply Kd.R_alloc | apply Kd.R_drewN | apply Kd.R_drew)); exact Kd.R_mono HO388.out (fun _ hk => hk.2)⟩, ⟨BR HO394.out⟩, ⟨BR HO391.out⟩, ⟨BB⟩⟩
                       ·
                        rw [if_neg c56] at H
                        exact absurd H (by simp)
                      ·
                       rw [if_neg c55] at H
                       exact absurd H (by simp)
                     ·
                      rw [if_neg c54] at H
                      exact absurd H (by simp)
                    ·
                     replace c53 := Bool.eq_false_iff.mpr c53
                     subst c53
                     have H1 : (some (([] : List Int), ([] : List ByteArray), ji41, 4)) = some (r1, r2, r3, r4) := by rw [if_neg (show ¬ (false = true) by decide)] at H; exact H
                     clear H
                     have H := H1
                     clear H1
                     simp only [Option.some.injEq, Prod.mk.injEq] at H
                     obtain ⟨rfl, rfl, rfl, rfl⟩ := H
                     go_wp2_with (first | (go_at_call 37; (with_reducible refine (corporaref04_ValidName.calls kj32 (a0.extract ((ji41) : Int).toNat (x12_3 : Int).toNat) false _ A52.out).mono ?_); rintro e w' ⟨rfl, ⟨nd, rfl⟩⟩; (try first | exact ⟨rfl, _, World.drewN_drewN _ _ _⟩ | exact ⟨rfl, _, Eq.trans (World.drewN_drewN _ _ _) (congrArg (World.drewN _) (Nat.add_assoc _ _ _))⟩)))
                     repeat (go_quiet (first | (go_at_call 37; (with_reducible refine (corporaref04_ValidName.calls kj32 (a0.extract ((ji41) : Int).toNat (x12_3 : Int).toNat) false _ A52.out).mono ?_); rintro e w' ⟨rfl, ⟨nd, rfl⟩⟩; (try first | exact ⟨rfl, _, World.drewN_drewN _ _ _⟩ | exact ⟨rfl, _, Eq.trans (World.drewN_drewN _ _ _) (congrArg (World.drewN _) (Nat.add_assoc _ _ _))⟩))); try go_wp2_with (first | (go_at_call 37; (with_reducible refine (corporaref04_ValidName.calls kj32 (a0.extract ((ji41) : Int).toNat (x12_3 : Int).toNat) false _ A52.out).mono ?_); rintro e w' ⟨rfl, ⟨nd, rfl⟩⟩; (try first | exact ⟨rfl, _, World.drewN_drewN _ _ _⟩ | exact ⟨rfl, _, Eq.trans (World.drewN_drewN _ _ _) (congrArg (World.drewN _) (Nat.add_assoc _ _ _))⟩))))
                     refine bodyPost_ret (results_list (rs := [.tmp 4, .tmp 5, .tmp 6, .tmp 7]) rfl (by simp) (.tmp (.tmp (.tmp (.tmp .nil))))) rfl ?_
                     exact ⟨_, _, by first | rfl | (simp [errW_none, errW_some] <;> rfl) | (simp only [← hji41]; first | rfl | (simp [errW_none, errW_some] <;> rfl)) | (simp [*, errW_none, errW_some] <;> rfl), by first | exact Kd.R_nil _ _ _ _ _ | exact Kd.N_nil _ _ _ _ _ | exact Kd.V_nil _ _ _ _ _ | exact Kd.Q_nil _ _ _ _ _ | exact Kd.S_nil _ _ _ _ _, by first | exact Kd.R_nil _ _ _ _ _ | exact Kd.N_nil _ _ _ _ _ | exact Kd.V_nil _ _ _ _ _ | exact Kd.Q_nil _ _ _ _ _ | exact Kd.S_nil _ _ _ _ _, BB⟩
                  ·
                   rw [if_neg c44] at H
                   exact absurd H (by simp)
                 ·
                  rw [if_neg c43] at H
                  exact absurd H (by simp)
                ·
                 rw [if_neg c42] at H
                 exact absurd H (by simp)
   ·
    rw [if_neg c3] at H
    have c3b0 : decide (x11_1 < (a0.size : Int)) = false := decide_eq_false c3
    clear c3
    by_cases c60 : (x8_1.length : Int) < a1
    ·
     rw [if_pos c60] at H
     have c60b0 : decide ((x8_1.length : Int) < a1) = true := decide_eq_true c60
     clear c60
     simp only [Option.some.injEq, Prod.mk.injEq] at H
     obtain ⟨rfl, rfl, rfl, rfl⟩ := H
     obtain ⟨Ao61, co61, eo61⟩ := Kd.R_slice HO_8.out
     subst eo61
     go_wp2
     repeat (go_quiet (fail); try go_wp2)
     refine bodyPost_ret (results_list (rs := [.tmp 4, .tmp 5, .tmp 6, .tmp 7]) rfl (by simp) (.tmp (.tmp (.tmp (.tmp .nil))))) rfl ?_
     exact ⟨_, _, BX, by first | exact Kd.R_nil _ _ _ _ _ | exact Kd.N_nil _ _ _ _ _ | exact Kd.V_nil _ _ _ _ _ | exact Kd.Q_nil _ _ _ _ _ | exact Kd.S_nil _ _ _ _ _, by first | exact Kd.R_nil _ _ _ _ _ | exact Kd.N_nil _ _ _ _ _ | exact Kd.V_nil _ _ _ _ _ | exact Kd.Q_nil _ _ _ _ _ | exact Kd.S_nil _ _ _ _ _, BB⟩
    ·
     rw [if_neg c60] at H
     have c60b0 : decide ((x8_1.length : Int) < a1) = false := decide_eq_false c60
     clear c60
     replace H := Option.bind_eq_some_iff.mp H
     obtain ⟨⟨t395, t396⟩, A620, H⟩ := H
     replace H : (if t396 = 0 then (some (x8_1, x10_1, 0, 0)) else (if 0 ≤ t395 then (if t395 < (x9_1.length : Int) then (some (([] : List Int), ([] : List ByteArray), rd x9_1 t395, t396)) else (none)) else (none))) = some (r1, r2, r3, r4) := H
     have A62 := Aside0.mk A620
     clear A620
     by_cases c63 : t396 = 0
     ·
      rw [if_pos c63] at H
      have c63b0 : (t396 == 0) = true := beq_iff_eq.mpr c63
      have c63b1 : (t396 != 0) = false := bne_eq_false_iff_eq.mpr c63
      clear c63
      simp only [Option.some.injEq, Prod.mk.injEq] at H
      obtain ⟨rfl, rfl, rfl, rfl⟩ := H
      obtain ⟨Ao64, co64, eo64⟩ := Kd.R_slice HO_8.out
      subst eo64
      go_wp2_with (first | (go_at_call 12; (with_reducible refine (corporaref09_Check.calls k1 _ _ x8_1 t395 t396 _ ?side1 ?side2 A62.out).mono ?_); (case side1 => repeat (first | exact (Kd.R_reads' HO_8.out).2.2 | (with_reducible refine Kd.C_alloc ?_ _) | (with_reducible refine Kd.C_drewN ?_ _) | (with_reducible refine Kd.C_drew ?_))); (case side2 => exact (Kd.R_reads' HO_8.out).2.1); rintro e w' ⟨rfl, ⟨nd, rfl⟩⟩; (try first | exact ⟨rfl, _, World.drewN_drewN _ _ _⟩ | exact ⟨rfl, _, Eq.trans (World.drewN_drewN _ _ _) (congrArg (World.drewN _) (Nat.add_assoc _ _ _))⟩)))
      repeat (go_quiet (first | (go_at_call 12; (with_reducible refine (corporaref09_Check.calls k1 _ _ x8_1 t395 t396 _ ?side1 ?side2 A62.out).mono ?_); (case side1 => repeat (first | exact (Kd.R_reads' HO_8.out).2.2 | (with_reducible refine Kd.C_alloc ?_ _) | (with_reducible refine Kd.C_drewN ?_ _) | (with_reducible refine Kd.C_drew ?_))); (case side2 => exact (Kd.R_reads' HO_8.out).2.1); rintro e w' ⟨rfl, ⟨nd, rfl⟩⟩; (try first | exact ⟨rfl, _, World.drewN_drewN _ _ _⟩ | exact ⟨rfl, _, Eq.trans (World.drewN_drewN _ _ _) (congrArg (World.drewN _) (Nat.add_assoc _ _ _))⟩))); try go_wp2_with (first | (go_at_call 12; (with_reducible refine (corporaref09_Check.calls k1 _ _ x8_1 t395 t396 _ ?side1 ?side2 A62.out).mono ?_); (case side1 => repeat (first | exact (Kd.R_reads' HO_8.out).2.2 | (with_reducible refine Kd.C_alloc ?_ _) | (with_reducible refine Kd.C_drewN ?_ _) | (with_reducible refine Kd.C_drew ?_))); (case side2 => exact (Kd.R_reads' HO_8.out).2.1); rintro e w' ⟨rfl, ⟨nd, rfl⟩⟩; (try first | exact ⟨rfl, _, World.drewN_drewN _ _ _⟩ | exact ⟨rfl, _, Eq.trans (World.drewN_drewN _ _ _) (congrArg (World.drewN _) (Nat.add_assoc _ _ _))⟩))))
      refine bodyPost_ret (results_list (rs := [.tmp 4, .tmp 5, .tmp 6, .tmp 7]) rfl (by simp) (.tmp (.tmp (.tmp (.tmp .nil))))) rfl ?_
      exact ⟨_, _, BX, by (with_reducible repeat (first | apply Kd.R_alloc | apply Kd.R_drewN | apply Kd.R_drew)); exact Kd.R_mono HO_8.out (fun _ hk => trivial), by (with_reducible repeat (first | apply Kd.R_alloc | apply Kd.R_drewN | apply Kd.R_drew)); exact HO_10.out, BB⟩
     ·
      rw [if_neg c63] at H
      have c63b0 : (t396 == 0) = false := beq_eq_false_iff_ne.mpr c63
      have c63b1 : (t396 != 0) = true := bne_iff_ne.mpr c63
      by_cases c65 : 0 ≤ t395
      ·
       rw [if_pos c65] at H
       have c65b0 : decide (0 ≤ t395) = true := decide_eq_true c65
       clear c65
       by_cases c66 : t395 < (x9_1.length : Int)
       ·
        rw [if_pos c66] at H
        have c66b0 : decide (t395 < (x9_1.length : Int)) = true := decide_eq_true c66
        clear c66
        simp only [Option.some.injEq, Prod.mk.injEq] at H
        obtain ⟨rfl, rfl, rfl, rfl⟩ := H
        obtain ⟨Ao67, co67, eo67⟩ := Kd.R_slice HO_8.out
        subst eo67
        go_wp2_with (first | (go_at_call 12; (with_reducible refine (corporaref09_Check.calls k1 _ _ x8_1 t395 t396 _ ?side1 ?side2 A62.out).mono ?_); (case side1 => repeat (first | exact (Kd.R_reads' HO_8.out).2.2 | (with_reducible refine Kd.C_alloc ?_ _) | (with_reducible refine Kd.C_drewN ?_ _) | (with_reducible refine Kd.C_drew ?_))); (case side2 => exact (Kd.R_reads' HO_8.out).2.1); rintro e w' ⟨rfl, ⟨nd, rfl⟩⟩; (try first | exact ⟨rfl, _, World.drewN_drewN _ _ _⟩ | exact ⟨rfl, _, Eq.trans (World.drewN_drewN _ _ _) (congrArg (World.drewN _) (Nat.add_assoc _ _ _))⟩); obtain ⟨Ao68, co68, eo68⟩ := Kd.R_slice HO_9.out; subst eo68; have p397 : 0 ≤ (t395 : Int) := OD; have q397 : t395 < (x9_1.length : Int) := OD; obtain ⟨ad397, e397, hx397_0⟩ := Kd.at_int (Kd.R_reads' HO_9.out).2.2 t395 p397 q397; cases e397; replace p397 := eq_true p397; replace q397 := eq_true q397))
        repeat (go_quiet (first | (go_at_call 12; (with_reducible refine (corporaref09_Check.calls k1 _ _ x8_1 t395 t396 _ ?side1 ?side2 A62.out).mono ?_); (case side1 => repeat (first | exact (Kd.R_reads' HO_8.out).2.2 | (with_reducible refine Kd.C_alloc ?_ _) | (with_reducible refine Kd.C_drewN ?_ _) | (with_reducible refine Kd.C_drew ?_))); (case side2 => exact (Kd.R_reads' HO_8.out).2.1); rintro e w' ⟨rfl, ⟨nd, rfl⟩⟩; (try first | exact ⟨rfl, _, World.drewN_drewN _ _ _⟩ | exact ⟨rfl, _, Eq.trans (World.drewN_drewN _ _ _) (congrArg (World.drewN _) (Nat.add_assoc _ _ _))⟩); obtain ⟨Ao68, co68, eo68⟩ := Kd.R_slice HO_9.out; subst eo68; have p397 : 0 ≤ (t395 : Int) := OD; have q397 : t395 < (x9_1.length : Int) := OD; obtain ⟨ad397, e397, hx397_0⟩ := Kd.at_int (Kd.R_reads' HO_9.out).2.2 t395 p397 q397; cases e397; replace p397 := eq_true p397; replace q397 := eq_true q397)); try go_wp2_with (first | (go_at_call 12; (with_reducible refine (corporaref09_Check.calls k1 _ _ x8_1 t395 t396 _ ?side1 ?side2 A62.out).mono ?_); (case side1 => repeat (first | exact (Kd.R_reads' HO_8.out).2.2 | (with_reducible refine Kd.C_alloc ?_ _) | (with_reducible refine Kd.C_drewN ?_ _) | (with_reducible refine Kd.C_drew ?_))); (case side2 => exact (Kd.R_reads' HO_8.out).2.1); rintro e w' ⟨rfl, ⟨nd, rfl⟩⟩; (try first | exact ⟨rfl, _, World.drewN_drewN _ _ _⟩ | exact ⟨rfl, _, Eq.trans (World.drewN_drewN _ _ _) (congrArg (World.drewN _) (Nat.add_assoc _ _ _))⟩); obtain ⟨Ao68, co68, eo68⟩ := Kd.R_slice HO_9.out; subst eo68; have p397 : 0 ≤ (t395 : Int) := OD; have q397 : t395 < (x9_1.length : Int) := OD; obtain ⟨ad397, e397, hx397_0⟩ := Kd.at_int (Kd.R_reads' HO_9.out).2.2 t395 p397 q397; cases e397; replace p397 := eq_true p397; replace q397 := eq_true q397)))
        refine bodyPost_ret (results_list (rs := [.tmp 4, .tmp 5, .tmp 6, .tmp 7]) rfl (by simp) (.tmp (.tmp (.tmp (.tmp .nil))))) rfl ?_
        exact ⟨_, _, BX, by first | exact Kd.R_nil _ _ _ _ _ | exact Kd.N_nil _ _ _ _ _ | exact Kd.V_nil _ _ _ _ _ | exact Kd.Q_nil _ _ _ _ _ | exact Kd.S_nil _ _ _ _ _, by first | exact Kd.R_nil _ _ _ _ _ | exact Kd.N_nil _ _ _ _ _ | exact Kd.V_nil _ _ _ _ _ | exact Kd.Q_nil _ _ _ _ _ | exact Kd.S_nil _ _ _ _ _, BB⟩
       ·
        rw [if_neg c66] at H
        exact absurd H (by simp)
      ·
       rw [if_neg c65] at H
       exact absurd H (by simp)

end Go.Proofs.Ytkanmafjjejpmaa.P
