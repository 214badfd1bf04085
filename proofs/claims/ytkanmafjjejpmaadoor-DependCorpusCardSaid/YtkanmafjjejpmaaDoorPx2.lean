-- Written by a program of this session (wip/doprint.sh) out of the translation; Lean checks it.
import Derived.Test.YtkanmafjjejpmaaDoorPx0
namespace Go.Proofs.YtkanmafjjejpmaaDoor.P
open Go.Proofs.YtkanmafjjejpmaaDoor.S
open Go.Proofs.YtkanmafjjejpmaaDoor.X
open Go.RowKit Go.Proofs.YtkanmafjjejpmaaDoorW.PrintWords Go.Proofs.YtkanmafjjejpmaaDoorW.PrintLast Go.Proofs.YtkanmafjjejpmaaDoorW.PrintMore
attribute [local go_sem] max2_int min2_int max_two min_two max_three min_three max_four min_four   -- for this text's walks alone
set_option linter.unusedVariables false
set_option linter.unusedSimpArgs false

/-! ### depend_Check: function 13 -/
mutual
def depend_Check.l0 : Nat → List Int → List Int → Int → Int → Option (Int × Int)
  | 0, _, _, _, _ => none
  | k + 1, x0, x15, x16, x17 => if x17 < x16 then (if 0 ≤ x17 then (if x17 < (x15.length : Int) then (if (rd x15 x17) < (-1) then (some (x17, 8)) else (if (rd x15 x17) ≥ (x0.length : Int) then (some (x17, 8)) else (depend_Check.l0 k x0 x15 x16 (wrap64 (x17 + 1))))) else (none)) else (none)) else (if 0 ≤ (x0.length : Int) then (if ((x0.length : Int) : Int).toNat ≤ 35184372088832 then (depend_Check.l1 k x0 (List.replicate ((x0.length : Int) : Int).toNat 0) (-1) (x0.length : Int) 0) else (none)) else (none))
def depend_Check.l1 : Nat → List Int → List Int → Int → Int → Int → Option (Int × Int)
  | 0, _, _, _, _, _ => none
  | k + 1, x0, x6, x7, x36, x37 => if x37 < x36 then (depend_Check.l2 k x0 x6 x7 x37 x37 x36 x37) else (if x7 ≥ 0 then (some (x7, 12)) else (some (0, 0)))
def depend_Check.j3 : Nat → List Int → List Int → Int → Int → Int → Int → Int → Option (Int × Int)
  | 0, _, _, _, _, _, _, _ => none
  | k + 1, x0, x6, x7, x8, x9, x36, x37 => if x9 < 0 then (depend_Check.j4 k x0 x6 x7 x9 x36 x37 true) else (if 0 ≤ x9 then (if x9 < (x6.length : Int) then (depend_Check.j4 k x0 x6 x7 x9 x36 x37 ((rd x6 x9) != (wrap64 (x8 + 1)))) else (none)) else (none))
def depend_Check.j4 : Nat → List Int → List Int → Int → Int → Int → Int → Bool → Option (Int × Int)
  | 0, _, _, _, _, _, _, _ => none
  | k + 1, x0, x6, x7, x9, x36, x37, x69 => if x69 = true then (depend_Check.l1 k x0 x6 x7 x36 (wrap64 (x37 + 1))) else (depend_Check.l3 k x0 x6 x7 x9 x9 true x36 x37)
def depend_Check.l3 : Nat → List Int → List Int → Int → Int → Int → Bool → Int → Int → Option (Int × Int)
  | 0, _, _, _, _, _, _, _, _ => none
  | k + 1, x0, x6, x7, x9, x10, x11, x36, x37 => if x11 = true then (depend_Check.j6 k x0 x6 x7 x9 x10 x36 x37 true) else (depend_Check.j6 k x0 x6 x7 x9 x10 x36 x37 (x10 != x9))
def depend_Check.j6 : Nat → List Int → List Int → Int → Int → Int → Int → Int → Bool → Option (Int × Int)
  | 0, _, _, _, _, _, _, _, _ => none
  | k + 1, x0, x6, x7, x9, x10, x36, x37, x76 => if x76 = true then (if x7 < 0 then (if 0 ≤ x10 then (if x10 < (x0.length : Int) then (depend_Check.l3 k x0 x6 x10 x9 (rd x0 x10) false x36 x37) else (none)) else (none)) else (if x10 < x7 then (if 0 ≤ x10 then (if x10 < (x0.length : Int) then (depend_Check.l3 k x0 x6 x10 x9 (rd x0 x10) false x36 x37) else (none)) else (none)) else (if 0 ≤ x10 then (if x10 < (x0.length : Int) then (depend_Check.l3 k x0 x6 x7 x9 (rd x0 x10) false x36 x37) else (none)) else (none)))) else (depend_Check.l1 k x0 x6 x7 x36 (wrap64 (x37 + 1)))
def depend_Check.l2 : Nat → List Int → List Int → Int → Int → Int → Int → Int → Option (Int × Int)
  | 0, _, _, _, _, _, _, _ => none
  | k + 1, x0, x6, x7, x8, x9, x36, x37 => if x9 ≥ 0 then (if 0 ≤ x9 then (if x9 < (x6.length : Int) then (if (rd x6 x9) = 0 then (if x9 < (x0.length : Int) then (depend_Check.l2 k x0 (x6.set (x9 : Int).toNat (wrap64 (x8 + 1))) x7 x8 (rd x0 x9) x36 x37) else (none)) else (depend_Check.j3 k x0 x6 x7 x8 x9 x36 x37)) else (none)) else (none)) else (depend_Check.j3 k x0 x6 x7 x8 x9 x36 x37)
end
def depend_Check.f (k : Nat) (l0 : List Int) : Option (Int × Int) := if (l0.length : Int) > 4096 then (some (0, 2)) else (depend_Check.l0 k l0 l0 (l0.length : Int) 0)
theorem depend_Check.mono_l : ∀ k, (∀ y0 y1 y2 y3, LeO (depend_Check.l0 k y0 y1 y2 y3) (depend_Check.l0 (k + 1) y0 y1 y2 y3)) ∧ (∀ y0 y1 y2 y3 y4, LeO (depend_Check.l1 k y0 y1 y2 y3 y4) (depend_Check.l1 (k + 1) y0 y1 y2 y3 y4)) ∧ (∀ y0 y1 y2 y3 y4 y5 y6, LeO (depend_Check.j3 k y0 y1 y2 y3 y4 y5 y6) (depend_Check.j3 (k + 1) y0 y1 y2 y3 y4 y5 y6)) ∧ (∀ y0 y1 y2 y3 y4 y5 y6, LeO (depend_Check.j4 k y0 y1 y2 y3 y4 y5 y6) (depend_Check.j4 (k + 1) y0 y1 y2 y3 y4 y5 y6)) ∧ (∀ y0 y1 y2 y3 y4 y5 y6 y7, LeO (depend_Check.l3 k y0 y1 y2 y3 y4 y5 y6 y7) (depend_Check.l3 (k + 1) y0 y1 y2 y3 y4 y5 y6 y7)) ∧ (∀ y0 y1 y2 y3 y4 y5 y6 y7, LeO (depend_Check.j6 k y0 y1 y2 y3 y4 y5 y6 y7) (depend_Check.j6 (k + 1) y0 y1 y2 y3 y4 y5 y6 y7)) ∧ (∀ y0 y1 y2 y3 y4 y5 y6, LeO (depend_Check.l2 k y0 y1 y2 y3 y4 y5 y6) (depend_Check.l2 (k + 1) y0 y1 y2 y3 y4 y5 y6))
 | 0 => ⟨fun _ _ _ _ r h => by simp [depend_Check.l0] at h, fun _ _ _ _ _ r h => by simp [depend_Check.l1] at h, fun _ _ _ _ _ _ _ r h => by simp [depend_Check.j3] at h, fun _ _ _ _ _ _ _ r h => by simp [depend_Check.j4] at h, fun _ _ _ _ _ _ _ _ r h => by simp [depend_Check.l3] at h, fun _ _ _ _ _ _ _ _ r h => by simp [depend_Check.j6] at h, fun _ _ _ _ _ _ _ r h => by simp [depend_Check.l2] at h⟩
 | k + 1 => by
  obtain ⟨ih0, ih1, ih2, ih3, ih4, ih5, ih6⟩ := depend_Check.mono_l k
  refine ⟨?_, ?_, ?_, ?_, ?_, ?_, ?_⟩
  ·
   intro y0 y1 y2 y3
   unfold depend_Check.l0
   with_reducible repeat' first | exact ih0 _ _ _ _ | exact ih1 _ _ _ _ _ | exact ih2 _ _ _ _ _ _ _ | exact ih3 _ _ _ _ _ _ _ | exact ih4 _ _ _ _ _ _ _ _ | exact ih5 _ _ _ _ _ _ _ _ | exact ih6 _ _ _ _ _ _ _ | exact LeO.refl _ | exact LeO.none _ | refine LeO.ite ?_ ?_ | refine LeO.bind ?_ (fun _ => ?_)
  ·
   intro y0 y1 y2 y3 y4
   unfold depend_Check.l1
   with_reducible repeat' first | exact ih0 _ _ _ _ | exact ih1 _ _ _ _ _ | exact ih2 _ _ _ _ _ _ _ | exact ih3 _ _ _ _ _ _ _ | exact ih4 _ _ _ _ _ _ _ _ | exact ih5 _ _ _ _ _ _ _ _ | exact ih6 _ _ _ _ _ _ _ | exact LeO.refl _ | exact LeO.none _ | refine LeO.ite ?_ ?_ | refine LeO.bind ?_ (fun _ => ?_)
  ·
   intro y0 y1 y2 y3 y4 y5 y6
   unfold depend_Check.j3
   with_reducible repeat' first | exact ih0 _ _ _ _ | exact ih1 _ _ _ _ _ | exact ih2 _ _ _ _ _ _ _ | exact ih3 _ _ _ _ _ _ _ | exact ih4 _ _ _ _ _ _ _ _ | exact ih5 _ _ _ _ _ _ _ _ | exact ih6 _ _ _ _ _ _ _ | exact LeO.refl _ | exact LeO.none _ | refine LeO.ite ?_ ?_ | refine LeO.bind ?_ (fun _ => ?_)
  ·
   intro y0 y1 y2 y3 y4 y5 y6
   unfold depend_Check.j4
   with_reducible repeat' first | exact ih0 _ _ _ _ | exact ih1 _ _ _ _ _ | exact ih2 _ _ _ _ _ _ _ | exact ih3 _ _ _ _ _ _ _ | exact ih4 _ _ _ _ _ _ _ _ | exact ih5 _ _ _ _ _ _ _ _ | exact ih6 _ _ _ _ _ _ _ | exact LeO.refl _ | exact LeO.none _ | refine LeO.ite ?_ ?_ | refine LeO.bind ?_ (fun _ => ?_)
  ·
   intro y0 y1 y2 y3 y4 y5 y6 y7
   unfold depend_Check.l3
   with_reducible repeat' first | exact ih0 _ _ _ _ | exact ih1 _ _ _ _ _ | exact ih2 _ _ _ _ _ _ _ | exact ih3 _ _ _ _ _ _ _ | exact ih4 _ _ _ _ _ _ _ _ | exact ih5 _ _ _ _ _ _ _ _ | exact ih6 _ _ _ _ _ _ _ | exact LeO.refl _ | exact LeO.none _ | refine LeO.ite ?_ ?_ | refine LeO.bind ?_ (fun _ => ?_)
  ·
   intro y0 y1 y2 y3 y4 y5 y6 y7
   unfold depend_Check.j6
   with_reducible repeat' first | exact ih0 _ _ _ _ | exact ih1 _ _ _ _ _ | exact ih2 _ _ _ _ _ _ _ | exact ih3 _ _ _ _ _ _ _ | exact ih4 _ _ _ _ _ _ _ _ | exact ih5 _ _ _ _ _ _ _ _ | exact ih6 _ _ _ _ _ _ _ | exact LeO.refl _ | exact LeO.none _ | refine LeO.ite ?_ ?_ | refine LeO.bind ?_ (fun _ => ?_)
  ·
   intro y0 y1 y2 y3 y4 y5 y6
   unfold depend_Check.l2
   with_reducible repeat' first | exact ih0 _ _ _ _ | exact ih1 _ _ _ _ _ | exact ih2 _ _ _ _ _ _ _ | exact ih3 _ _ _ _ _ _ _ | exact ih4 _ _ _ _ _ _ _ _ | exact ih5 _ _ _ _ _ _ _ _ | exact ih6 _ _ _ _ _ _ _ | exact LeO.refl _ | exact LeO.none _ | refine LeO.ite ?_ ?_ | refine LeO.bind ?_ (fun _ => ?_)
theorem depend_Check.mono : ∀ a0 k, LeO (depend_Check.f k a0) (depend_Check.f (k + 1) a0) := by
 intro a0 k
 obtain ⟨ih0, ih1, ih2, ih3, ih4, ih5, ih6⟩ := depend_Check.mono_l k
 unfold depend_Check.f
 with_reducible repeat' first | exact ih0 _ _ _ _ | exact ih1 _ _ _ _ _ | exact ih2 _ _ _ _ _ _ _ | exact ih3 _ _ _ _ _ _ _ | exact ih4 _ _ _ _ _ _ _ _ | exact ih5 _ _ _ _ _ _ _ _ | exact ih6 _ _ _ _ _ _ _ | exact LeO.refl _ | exact LeO.none _ | refine LeO.ite ?_ ?_ | refine LeO.bind ?_ (fun _ => ?_)
set_option maxHeartbeats 8000000 in
set_option maxRecDepth 100000 in
theorem depend_Check.calls (k : Nat) (A0 : Option Addr) (c0 : Nat) (l0 : List Int) (r1 : Int) (r2 : Int) (w : World) (hr0 : Kd.C (Kd.int .i64) w A0 l0.length l0) (hc0 : l0.length ≤ c0) (h : depend_Check.f k l0 = some (r1, r2)) :
 Calls Tryd.prog 13 #[.slice A0 l0.length c0] w fun e w' => e = .returned (.tuple #[.int .i64 r1, .int .i64 r2]) ∧ Below w.heap.size w w' := by
 have HR0 := Aside0.mk hr0
 have HC0 := Aside0.mk hc0
 clear hr0 hc0
 have HB := Aside0.mk (Below.refl w.heap.size w)
 have H : (if (l0.length : Int) > 4096 then (some (0, 2)) else (depend_Check.l0 k l0 l0 (l0.length : Int) 0)) = some (r1, r2) := h
 clear h
 by_cases c2 : (l0.length : Int) > 4096
 ·
  rw [if_pos c2] at H
  have c2b0 : decide (4096 < (l0.length : Int)) = true := decide_eq_true c2
  have c2b1 : decide (4096 < l0.length) = true := decide_eq_true (by omega)
  clear c2
  simp only [Option.some.injEq, Prod.mk.injEq] at H
  obtain ⟨rfl, rfl⟩ := H
  go_enter Tryd.func13, Tryd.ntmps13
  go_wp2
  go_ret2
  exact ⟨BX, BB⟩
 ·
  rw [if_neg c2] at H
  have c2b0 : decide (4096 < (l0.length : Int)) = false := decide_eq_false c2
  have c2b1 : decide (4096 < l0.length) = false := decide_eq_false (by omega)
  clear c2
  have H' := Aside0.mk H
  clear H
  go_enter Tryd.func13, Tryd.ntmps13
  go_wp2
  go_loopg [17] k (fun kq v17 w' => ∃ (x17_1 : Int), v17 = .int .i64 x17_1 ∧ Aside0 (depend_Check.l0 kq l0 l0 (l0.length : Int) x17_1 = some (r1, r2)) ∧ Aside0 (kq ≤ k) ∧ Aside0 (Below w.heap.size w w'))
  case atStart => exact ⟨(0), (BE), H', ⟨Nat.le_refl _⟩, ⟨BB⟩⟩
  case round =>
   clear H'
   (try clear c1); (try clear c2); (try clear c2b0); (try clear c2b1); (try clear p2)
   obtain ⟨x17_1, rfl, HA, HK1, HB⟩ := hrel
   cases gk with
   | zero => exact absurd HA.out (by simp [depend_Check.l0])
   | succ k1 =>
    have H := HA.out
    clear HA
    simp only [depend_Check.l0] at H
    by_cases c3 : x17_1 < (l0.length : Int)
    ·
     rw [if_pos c3] at H
     have c3b0 : decide (x17_1 < (l0.length : Int)) = true := decide_eq_true c3
     clear c3
     by_cases c4 : 0 ≤ x17_1
     ·
      rw [if_pos c4] at H
      have c4b0 : decide (0 ≤ x17_1) = true := decide_eq_true c4
      clear c4
      by_cases c5 : x17_1 < (l0.length : Int)
      ·
       rw [if_pos c5] at H
       have c5b0 : decide (x17_1 < (l0.length : Int)) = true := decide_eq_true c5
       clear c5
       by_cases c6 : (rd l0 x17_1) < (-1)
       ·
        rw [if_pos c6] at H
        have c6b0 : decide ((rd l0 x17_1) < (-1)) = true := decide_eq_true c6
        clear c6
        simp only [Option.some.injEq, Prod.mk.injEq] at H
        obtain ⟨rfl, rfl⟩ := H
        have p101 : 0 ≤ (x17_1 : Int) := OD
        have q101 : x17_1 < (l0.length : Int) := OD
        obtain ⟨ad101, e101, hx101_0⟩ := Kd.at_int HR0.out x17_1 p101 q101
        cases e101
        replace hx101_0 := (HB.out.cell (World.block_lt_of_cell? w _ hx101_0)).trans hx101_0
        replace p101 := eq_true p101
        replace q101 := eq_true q101
        go_wp2
        go_ret2
        exact ⟨BX, BB⟩
       ·
        rw [if_neg c6] at H
        have c6b0 : decide ((rd l0 x17_1) < (-1)) = false := decide_eq_false c6
        clear c6
        by_cases c7 : (rd l0 x17_1) ≥ (l0.length : Int)
        ·
         rw [if_pos c7] at H
         have c7b0 : decide ((l0.length : Int) ≤ (rd l0 x17_1)) = true := decide_eq_true c7
         clear c7
         simp only [Option.some.injEq, Prod.mk.injEq] at H
         obtain ⟨rfl, rfl⟩ := H
         have p101 : 0 ≤ (x17_1 : Int) := OD
         have q101 : x17_1 < (l0.length : Int) := OD
         obtain ⟨ad101, e101, hx101_0⟩ := Kd.at_int HR0.out x17_1 p101 q101
         cases e101
         replace hx101_0 := (HB.out.cell (World.block_lt_of_cell? w _ hx101_0)).trans hx101_0
         replace p101 := eq_true p101
         replace q101 := eq_true q101
         go_wp2
         go_ret2
         exact ⟨BX, BB⟩
        ·
         rw [if_neg c7] at H
         have c7b0 : decide ((l0.length : Int) ≤ (rd l0 x17_1)) = false := decide_eq_false c7
         clear c7
         have H' := Aside0.mk H
         clear H
         have p101 : 0 ≤ (x17_1 : Int) := OD
         have q101 : x17_1 < (l0.length : Int) := OD
         obtain ⟨ad101, e101, hx101_0⟩ := Kd.at_int HR0.out x17_1 p101 q101
         cases e101
         replace hx101_0 := (HB.out.cell (World.block_lt_of_cell? w _ hx101_0)).trans hx101_0
         replace p101 := eq_true p101
         replace q101 := eq_true q101
         go_wp2
         go_roundg k1
         case measure => have := HK1.out; omega
         case rel => exact ⟨(wrap64 (x17_1 + 1)), (BE), H', ⟨by have := HK1.out; omega⟩, ⟨BB⟩⟩
      ·
       rw [if_neg c5] at H
       exact absurd H (by simp)
     ·
      rw [if_neg c4] at H
      exact absurd H (by simp)
    ·
     rw [if_neg c3] at H
     have c3b0 : decide (x17_1 < (l0.length : Int)) = false := decide_eq_false c3
     clear c3
     by_cases c8 : 0 ≤ (l0.length : Int)
     ·
      rw [if_pos c8] at H
      have c8b0 := eq_true c8
      have c8b1 : decide (0 ≤ (l0.length : Int)) = true := decide_eq_true c8
      clear c8
      by_cases c9 : ((l0.length : Int) : Int).toNat ≤ 35184372088832
      ·
       rw [if_pos c9] at H
       have c9b0 := eq_true c9
       have c9b1 : decide (((l0.length : Int) : Int).toNat ≤ 35184372088832) = true := decide_eq_true c9
       clear c9
       obtain ⟨y102, hy102⟩ : ∃ y_ : List Int, y_ = (List.replicate ((l0.length : Int) : Int).toNat 0) := ⟨_, rfl⟩
       replace H : (depend_Check.l1 k1 l0 y102 (-1) (l0.length : Int) 0) = some (r1, r2) := by first | (rw [hy102]; with_reducible exact H) | (have H2_ := (Option.bind_some _ _).symm.trans H; rw [hy102]; with_reducible exact H2_) | (have H2_ := (Option.bind_some _ _).symm.trans H; with_reducible exact H2_) | with_reducible exact H | (rw [hy102]; exact H) | exact H
       have Ny102 := Aside0.mk hy102
       clear hy102
       have H' := Aside0.mk H
       clear H
       go_wp2_with (first | ((with_reducible refine gate_dst (N := 34) rfl ?_); (try (refine gate_guard (by rfl) ?_; dsimp only)); refine Kd.R_make (Kd.int .i64) _ 3 rfl (N := 34) rfl 22 _ _ rfl (l0.length : Int) rfl rfl Tryd.underlying22 (.int .i64 0) 8 info3 rfl (by decide) (by omega) 0 (ok := fun _ => True) (okp := fun _ => True) rfl (fun _ hk => hk) trivial (OD) (Nat.le_trans (Nat.mul_le_mul_right _ (OD : (l0.length : Int).toNat ≤ 35184372088832)) (by omega)) (Below.refl _ _) (Nat.le_refl _) ?_; intro v103 w10 ho11 hb hg_ hnew_; clear hg_ hnew_; (first | rw [← Ny102.out] at ho11 | (simp only [Int.reduceToNat] at ho11; rw [← Ny102.out] at ho11)); have n0_ := Aside0.mk (Kd.R_lower ho11 (below_size (BB))); have n1_ := Aside0.mk (below_step (BB) hb); clear HB; have HO104 := n0_; have HB := n1_; clear n0_ n1_; clear hb ho11))
       go_loopg [7, 37] k1 (fun kq v7 v37 w' => ∃ (x6_2 : List Int) (x7_2 : Int) (x37_2 : Int), v7 = .int .i64 x7_2 ∧ v37 = .int .i64 x37_2 ∧ Aside0 (depend_Check.l1 kq l0 x6_2 x7_2 (l0.length : Int) x37_2 = some (r1, r2)) ∧ Aside0 (kq ≤ k1) ∧ Aside0 (Kd.R (Kd.int .i64) 3 w' w.heap.size (fun _ => True) v103 x6_2) ∧ Aside0 (Below w.heap.size w w'))
       case atStart => exact ⟨(y102), ((-1)), (0), (BE), (BE), H', ⟨Nat.le_refl _⟩, ⟨BR HO104.out⟩, ⟨BB⟩⟩
       case round =>
        clear H'
        (try clear c1); (try clear p1); (try clear q1); (try clear hx1); (try clear c2); (try clear c2b0); (try clear c2b1); (try clear p2); (try clear c3); (try clear c3b0); (try clear c4); (try clear c4b0); (try clear c5)
        (try clear c5b0); (try clear c6); (try clear c6b0); (try clear p6); (try clear c7); (try clear c7b0); (try clear c8); (try clear c8b0); (try clear c8b1); (try clear c9); (try clear c9b0); (try clear c9b1)
        (try clear p10); (try clear q10); (try clear hx10); (try clear hx101_0); (try clear p101); (try clear p2); (try clear q101)
        obtain ⟨x6_2, x7_2, x37_2, rfl, rfl, HA, HK2, HO_6, HB⟩ := hrel
        cases gk with
        | zero => exact absurd HA.out (by simp [depend_Check.l1])
        | succ k2 =>
         have H := HA.out
         clear HA
         simp only [depend_Check.l1] at H
         by_cases c12 : x37_2 < (l0.length : Int)
         ·
          rw [if_pos c12] at H
          have c12b0 : decide (x37_2 < (l0.length : Int)) = true := decide_eq_true c12
          clear c12
          have HC13 := Aside0.mk H
          clear H
          go_upto_block 4 with (fail)
          go_cut [9] (fun v9 wc => ∃ (kq : Nat) (x6_12 : List Int) (x9_12 : Int), v9 = .int .i64 x9_12 ∧ Aside0 (depend_Check.j3 kq l0 x6_12 x7_2 x37_2 x9_12 (l0.length : Int) x37_2 = some (r1, r2)) ∧ Aside0 (kq ≤ k2) ∧ Aside0 (Kd.R (Kd.int .i64) 3 wc w.heap.size (fun _ => True) v103 x6_12) ∧ Aside0 (Below w.heap.size w wc))
          case first =>
           have H := HC13.out
           clear HC13
           have H' := Aside0.mk H
           clear H
           go_wp2
           go_loopg [9] k2 (fun kq v9 w' => ∃ (x6_3 : List Int) (x9_3 : Int), v9 = .int .i64 x9_3 ∧ Aside0 (depend_Check.l2 kq l0 x6_3 x7_2 x37_2 x9_3 (l0.length : Int) x37_2 = some (r1, r2)) ∧ Aside0 (kq ≤ k2) ∧ Aside0 (Kd.R (Kd.int .i64) 3 w' w.heap.size (fun _ => True) v103 x6_3) ∧ Aside0 (Below w.heap.size w w'))
           case atStart => exact ⟨(x6_2), (x37_2), (BE), H', ⟨Nat.le_refl _⟩, ⟨BR HO_6.out⟩, ⟨BB⟩⟩
           case round =>
            clear H'
            (try clear c1); (try clear p1); (try clear q1); (try clear hx1); (try clear c2); (try clear c2b0); (try clear c2b1); (try clear p2); (try clear c3); (try clear c3b0); (try clear c4); (try clear c4b0)
            (try clear c5); (try clear c5b0); (try clear c6); (try clear c6b0); (try clear p6); (try clear c7); (try clear c7b0); (try clear c8); (try clear c8b0); (try clear c8b1); (try clear c9); (try clear c9b0)
            (try clear c9b1); (try clear p10); (try clear q10); (try clear hx10); (try clear c12); (try clear c12b0); (try clear c13); (try clear hx101_0); (try clear p1); (try clear p10); (try clear p101); (try clear p2)
            (try clear p6); (try clear q1); (try clear q10); (try clear q101)
            obtain ⟨x6_3, x9_3, rfl, HA, HK3, HO_6, HB⟩ := hrel
            cases gk with
            | zero => exact absurd HA.out (by simp [depend_Check.l2])
            | succ k3 =>
             have H := HA.out
             clear HA
             simp only [depend_Check.l2] at H
             by_cases c14 : x9_3 ≥ 0
             ·
              rw [if_pos c14] at H
              have c14b0 : decide (0 ≤ x9_3) = true := decide_eq_true c14
              clear c14
              (first | rw [c14b0] | (simp only [i64_w, i32_w]; rw [c14b0]) | skip)
              by_cases c15 : 0 ≤ x9_3
              ·
               rw [if_pos c15] at H
               have c15b0 : decide (0 ≤ x9_3) = true := decide_eq_true c15
               clear c15
               by_cases c16 : x9_3 < (x6_3.length : Int)
               ·
                rw [if_pos c16] at H
                have c16b0 : decide (x9_3 < (x6_3.length : Int)) = true := decide_eq_true c16
                clear c16
                by_cases c17 : (rd x6_3 x9_3) = 0
                ·
                 rw [if_pos c17] at H
                 have c17b0 : ((rd x6_3 x9_3) == 0) = true := beq_iff_eq.mpr c17
                 have c17b1 : ((rd x6_3 x9_3) != 0) = false := bne_eq_false_iff_eq.mpr c17
                 clear c17
                 obtain ⟨y106, hy106⟩ : ∃ y_ : List Int, y_ = (x6_3.set (x9_3 : Int).toNat (wrap64 (x37_2 + 1))) := ⟨_, rfl⟩
                 replace H : (if x9_3 < (l0.length : Int) then (depend_Check.l2 k3 l0 y106 x7_2 x37_2 (rd l0 x9_3) (l0.length : Int) x37_2) else (none)) = some (r1, r2) := by first | (rw [hy106]; with_reducible exact H) | (have H2_ := (Option.bind_some _ _).symm.trans H; rw [hy106]; with_reducible exact H2_) | (have H2_ := (Option.bind_some _ _).symm.trans H; with_reducible exact H2_) | with_reducible exact H | (rw [hy106]; exact H) | exact H
                 have Ny106 := Aside0.mk hy106
                 clear hy106
                 by_cases c19 : x9_3 < (l0.length : Int)
                 ·
                  rw [if_pos c19] at H
                  have c19b0 : decide (x9_3 < (l0.length : Int)) = true := decide_eq_true c19
                  clear c19
                  have H' := Aside0.mk H
                  clear H
                  obtain ⟨Ao20, co20, eo20⟩ := Kd.R_slice HO_6.out
                  subst eo20
                  have p105 : 0 ≤ (x9_3 : Int) := OD
                  have q105 : x9_3 < (x6_3.length : Int) := OD
                  obtain ⟨ad105, e105, hx105_0⟩ := Kd.at_int (Kd.R_reads' HO_6.out).2.2 x9_3 p105 q105
                  cases e105
                  replace p105 := eq_true p105
                  replace q105 := eq_true q105
                  have p18 : 0 ≤ (x9_3 : Int) := OD
                  have q18 : (x9_3 : Int) < ((x6_3.length : Int) : Int) := OD
                  obtain ⟨go18, co18, eo18, gb18, gl18, cl18, HG18⟩ := Kd.R_form HO_6.out (by omega)
                  (first | cases eo18 | (injection eo18 with ea_ en_ ec_; (first | subst ea_ | (injection ea_ with ea_; subst ea_)); subst ec_; clear en_))
                  have GB18 := Aside0.mk gb18
                  have GG18 := Aside0.mk HG18
                  clear gb18 gl18 HG18
                  (first | simp only [add_plain] at hx105_0 | skip)
                  obtain ⟨hx18_0, hf18_0⟩ := Kd.R_celln 0 HO_6.out (x9_3 : Int) p18 q18
                  replace p18 := eq_true p18
                  replace q18 := eq_true q18
                  have HP21 := Kd.R_putg HO_6.out (x9_3 : Int) (wrap64 (x37_2 + 1))
                  go_wp2_with (first | ((with_reducible refine gate_store (t := 3) (p := 54) rfl ?_); refine store_event (t := 3) (p := 54) (v := ?vo_w22) (w1 := (wr.setCell ⟨go18, (x9_3 : Int).toNat, none⟩ (.int .i64 (wrap64 (x37_2 + 1))))) ?hg ?ho ?hn ?hr ?_; (case ho => rfl); (case hg => rfl); (case hn => rfl); (case hr => first | (go_simp; done) | (go_simp; rfl)); intro w22 hw; have hg : wr.grownBy w22 (some go18) := (by rw [hw]; exact HP21.2); have hp_ : Kd.R (Kd.int .i64) 3 w22 w.heap.size (fun _ => True) (.slice (some ⟨go18, 0, none⟩) x6_3.length co20) y106 := (by rw [hw, Ny106.out]; exact HP21.1); clear HP21; have n0_ := Aside0.mk (hp_); have n1_ := Aside0.mk ((by rw [hw]; exact below_set (HB.out) GB18.out : Below w.heap.size w w22)); clear HO_6; clear HB; have HO_6 := n0_; have HB := n1_; clear n0_ n1_; clear hg hw hp_; have p107 : 0 ≤ (x9_3 : Int) := OD; have q107 : x9_3 < (l0.length : Int) := OD; obtain ⟨ad107, e107, hx107_0⟩ := Kd.at_int HR0.out x9_3 p107 q107; cases e107; replace hx107_0 := (HB.out.cell (World.block_lt_of_cell? w _ hx107_0)).trans hx107_0; replace p107 := eq_true p107; replace q107 := eq_true q107))
                  go_roundg k3
                  case measure => have := HK1.out; have := HK2.out; have := HK3.out; omega
                  case rel => exact ⟨(y106), (rd l0 x9_3), (BE), H', ⟨by have := HK1.out; have := HK2.out; have := HK3.out; omega⟩, ⟨BR HO_6.out⟩, ⟨BB⟩⟩
                 ·
                  rw [if_neg c19] at H
                  exact absurd H (by simp)
                ·
                 rw [if_neg c17] at H
                 have c17b0 : ((rd x6_3 x9_3) == 0) = false := beq_eq_false_iff_ne.mpr c17
                 have c17b1 : ((rd x6_3 x9_3) != 0) = true := bne_iff_ne.mpr c17
                 have H' := Aside0.mk H
                 clear H
                 obtain ⟨Ao23, co23, eo23⟩ := Kd.R_slice HO_6.out
                 subst eo23
                 have p105 : 0 ≤ (x9_3 : Int) := OD
                 have q105 : x9_3 < (x6_3.length : Int) := OD
                 obtain ⟨ad105, e105, hx105_0⟩ := Kd.at_int (Kd.R_reads' HO_6.out).2.2 x9_3 p105 q105
                 cases e105
                 replace p105 := eq_true p105
                 replace q105 := eq_true q105
                 go_wp2
                 go_meet
                 case rel => exact ⟨_, (x6_3), (x9_3), (BE), H', ⟨by have := HK1.out; have := HK2.out; have := HK3.out; first | omega | exact Nat.le_refl _⟩, ⟨BR HO_6.out⟩, ⟨BB⟩⟩
               ·
                rw [if_neg c16] at H
                exact absurd H (by simp)
              ·
               rw [if_neg c15] at H
               exact absurd H (by simp)
             ·
              rw [if_neg c14] at H
              have c14b0 : decide (0 ≤ x9_3) = false := decide_eq_false c14
              clear c14
              (first | rw [c14b0] | (simp only [i64_w, i32_w]; rw [c14b0]) | skip)
              have H' := Aside0.mk H
              clear H
              go_wp2
              go_meet
              case rel => exact ⟨_, (x6_3), (x9_3), (BE), H', ⟨by have := HK1.out; have := HK2.out; have := HK3.out; first | omega | exact Nat.le_refl _⟩, ⟨BR HO_6.out⟩, ⟨BB⟩⟩
          case rest =>
           clear HC13
           (try clear c1); (try clear p1); (try clear q1); (try clear hx1); (try clear hf1); (try clear c2); (try clear c2b0); (try clear c2b1); (try clear p2); (try clear c3); (try clear c3b0); (try clear c4)
           (try clear c4b0); (try clear c5); (try clear c5b0); (try clear c6); (try clear c6b0); (try clear p6); (try clear c7); (try clear c7b0); (try clear c8); (try clear c8b0); (try clear c8b1); (try clear c9)
           (try clear c9b0); (try clear c9b1); (try clear p10); (try clear q10); (try clear hx10); (try clear c12); (try clear c12b0); (try clear c13); (try clear c14); (try clear c14b0); (try clear c15); (try clear c15b0)
           (try clear c16); (try clear c16b0); (try clear c17); (try clear c17b0); (try clear c17b1); (try clear p18); (try clear q18); (try clear hx18); (try clear hf18); (try clear c19); (try clear c19b0); (try clear hx101_0)
           (try clear hx105_0); (try clear hx107_0); (try clear hx18_0); (try clear p1); (try clear p10); (try clear p101); (try clear p105); (try clear p107); (try clear p18); (try clear p2); (try clear p6); (try clear q1)
           (try clear q10); (try clear q101); (try clear q105); (try clear q107); (try clear q18)
           obtain ⟨kq, x6_12, x9_12, rfl, HA, HJ12, HO_6, HB⟩ := hcut
           cases kq with
           | zero => exact absurd HA.out (by simp [depend_Check.j3])
           | succ kj12 =>
            have H := HA.out
            clear HA
            simp only [depend_Check.j3] at H
            have HC24 := Aside0.mk H
            clear H
            go_upto_region 18 with (fail)
            go_cut [69] (fun v69 wc => ∃ (kq : Nat) (x69_23 : Bool), v69 = .bool x69_23 ∧ Aside0 (depend_Check.j4 kq l0 x6_12 x7_2 x9_12 (l0.length : Int) x37_2 x69_23 = some (r1, r2)) ∧ Aside0 (kq ≤ kj12) ∧ Aside0 (Kd.R (Kd.int .i64) 3 wc w.heap.size (fun _ => True) v103 x6_12) ∧ Aside0 (Below w.heap.size w wc))
            case first =>
             have H := HC24.out
             clear HC24
             by_cases c25 : x9_12 < 0
             ·
              rw [if_pos c25] at H
              have c25b0 : decide (x9_12 < 0) = true := decide_eq_true c25
              clear c25
              (first | rw [c25b0] | (simp only [i64_w, i32_w]; rw [c25b0]) | skip)
              have H' := Aside0.mk H
              clear H
              go_wp2
              go_meet
              case rel => exact ⟨_, (true), (BE), H', ⟨by have := HK1.out; have := HK2.out; have := HJ12.out; first | omega | exact Nat.le_refl _⟩, ⟨BR HO_6.out⟩, ⟨BB⟩⟩
             ·
              rw [if_neg c25] at H
              have c25b0 : decide (x9_12 < 0) = false := decide_eq_false c25
              clear c25
              (first | rw [c25b0] | (simp only [i64_w, i32_w]; rw [c25b0]) | skip)
              by_cases c26 : 0 ≤ x9_12
              ·
               rw [if_pos c26] at H
               have c26b0 : decide (0 ≤ x9_12) = true := decide_eq_true c26
               clear c26
               by_cases c27 : x9_12 < (x6_12.length : Int)
               ·
                rw [if_pos c27] at H
                have c27b0 : decide (x9_12 < (x6_12.length : Int)) = true := decide_eq_true c27
                clear c27
                have H' := Aside0.mk H
                clear H
                obtain ⟨Ao28, co28, eo28⟩ := Kd.R_slice HO_6.out
                subst eo28
                have p108 : 0 ≤ (x9_12 : Int) := OD
                have q108 : x9_12 < (x6_12.length : Int) := OD
                obtain ⟨ad108, e108, hx108_0⟩ := Kd.at_int (Kd.R_reads' HO_6.out).2.2 x9_12 p108 q108
                cases e108
                replace p108 := eq_true p108
                replace q108 := eq_true q108
                go_wp2
                go_meet
                case rel => exact ⟨_, (((rd x6_12 x9_12) != (wrap64 (x37_2 + 1)))), (BE), H', ⟨by have := HK1.out; have := HK2.out; have := HJ12.out; first | omega | exact Nat.le_refl _⟩, ⟨BR HO_6.out⟩, ⟨BB⟩⟩
               ·
                rw [if_neg c27] at H
                exact absurd H (by simp)
              ·
               rw [if_neg c26] at H
               exact absurd H (by simp)
            case rest =>
             clear HC24
             (try clear c1); (try clear p1); (try clear q1); (try clear hx1); (try clear hf1); (try clear c2); (try clear c2b0); (try clear c2b1); (try clear p2); (try clear c3); (try clear c3b0); (try clear c4)
             (try clear c4b0); (try clear c5); (try clear c5b0); (try clear c6); (try clear c6b0); (try clear p6); (try clear c7); (try clear c7b0); (try clear c8); (try clear c8b0); (try clear c8b1); (try clear c9)
             (try clear c9b0); (try clear c9b1); (try clear p10); (try clear q10); (try clear hx10); (try clear c12); (try clear c12b0); (try clear c13); (try clear c14); (try clear c14b0); (try clear c15); (try clear c15b0)
             (try clear c16); (try clear c16b0); (try clear c17); (try clear c17b0); (try clear c17b1); (try clear p18); (try clear q18); (try clear hx18); (try clear hf18); (try clear c19); (try clear c19b0)
             (try clear c25); (try clear c25b0); (try clear c26); (try clear c26b0); (try clear c27); (try clear c27b0); (try clear hx101_0); (try clear hx105_0); (try clear hx107_0); (try clear hx108_0); (try clear hx18_0)
             (try clear p1); (try clear p10); (try clear p101); (try clear p105); (try clear p107); (try clear p108); (try clear p18); (try clear p2); (try clear p6); (try clear q1); (try clear q10); (try clear q101)
             (try clear q105); (try clear q107); (try clear q108); (try clear q18)
             obtain ⟨kq, x69_23, rfl, HA, HJ23, HO_6, HB⟩ := hcut
             cases kq with
             | zero => exact absurd HA.out (by simp [depend_Check.j4])
             | succ kj23 =>
              have H := HA.out
              clear HA
              simp only [depend_Check.j4] at H
              by_cases c29 : x69_23 = true
              ·
               subst c29
               have H1 : (depend_Check.l1 kj23 l0 x6_12 x7_2 (l0.length : Int) (wrap64 (x37_2 + 1))) = some (r1, r2) := by rw [if_pos rfl] at H; exact H
               clear H
               have H := H1
               clear H1
               have H' := Aside0.mk H
               clear H
               go_wp2
               go_roundg kj23
               case measure => have := HK1.out; have := HK2.out; have := HJ12.out; have := HJ23.out; omega
               case rel => exact ⟨(x6_12), (x7_2), (wrap64 (x37_2 + 1)), (BE), (BE), H', ⟨by have := HK1.out; have := HK2.out; have := HJ12.out; have := HJ23.out; omega⟩, ⟨BR HO_6.out⟩, ⟨BB⟩⟩
              ·
               replace c29 := Bool.eq_false_iff.mpr c29
               subst c29
               have H1 : (depend_Check.l3 kj23 l0 x6_12 x7_2 x9_12 x9_12 true (l0.length : Int) x37_2) = some (r1, r2) := by rw [if_neg (show ¬ (false = true) by decide)] at H; exact H
               clear H
               have H := H1
               clear H1
               have H' := Aside0.mk H
               clear H
               go_wp2
               go_loopg [7, 10, 11] kj23 (fun kq v7 v10 v11 w' => ∃ (x7_5 : Int) (x10_5 : Int) (x11_5 : Bool), v7 = .int .i64 x7_5 ∧ v10 = .int .i64 x10_5 ∧ v11 = .bool x11_5 ∧ Aside0 (depend_Check.l3 kq l0 x6_12 x7_5 x9_12 x10_5 x11_5 (l0.length : Int) x37_2 = some (r1, r2)) ∧ Aside0 (kq ≤ kj23) ∧ Aside0 (Kd.R (Kd.int .i64) 3 w' w.heap.size (fun _ => True) v103 x6_12) ∧ Aside0 (Below w.heap.size w w'))
               case atStart => exact ⟨(x7_2), (x9_12), (true), (BE), (BE), (BE), H', ⟨Nat.le_refl _⟩, ⟨BR HO_6.out⟩, ⟨BB⟩⟩
               case round =>
                clear H'
                (try clear c1); (try clear p1); (try clear q1); (try clear hx1); (try clear hf1); (try clear c2); (try clear c2b0); (try clear c2b1); (try clear p2); (try clear c3); (try clear c3b0); (try clear c4)
                (try clear c4b0); (try clear c5); (try clear c5b0); (try clear c6); (try clear c6b0); (try clear p6); (try clear c7); (try clear c7b0); (try clear c8); (try clear c8b0); (try clear c8b1); (try clear c9)
                (try clear c9b0); (try clear c9b1); (try clear p10); (try clear q10); (try clear hx10); (try clear c12); (try clear c12b0); (try clear c13); (try clear c14); (try clear c14b0); (try clear c15)
                (try clear c15b0); (try clear c16); (try clear c16b0); (try clear c17); (try clear c17b0); (try clear c17b1); (try clear p18); (try clear q18); (try clear hx18); (try clear hf18); (try clear c19)
                (try clear c19b0); (try clear c25); (try clear c25b0); (try clear c26); (try clear c26b0); (try clear c27); (try clear c27b0); (try clear c29); (try clear hx101_0); (try clear hx105_0); (try clear hx107_0)
                (try clear hx108_0); (try clear hx18_0); (try clear p1); (try clear p10); (try clear p101); (try clear p105); (try clear p107); (try clear p108); (try clear p18); (try clear p2); (try clear p6)
                (try clear q1); (try clear q10); (try clear q101); (try clear q105); (try clear q107); (try clear q108); (try clear q18)
                obtain ⟨x7_5, x10_5, x11_5, rfl, rfl, rfl, HA, HK5, HO_6, HB⟩ := hrel
                cases gk with
                | zero => exact absurd HA.out (by simp [depend_Check.l3])
                | succ k5 =>
                 have H := HA.out
                 clear HA
                 simp only [depend_Check.l3] at H
                 have HC30 := Aside0.mk H
                 clear H
                 go_upto_region 20 with (fail)
                 go_cut [76] (fun v76 wc => ∃ (kq : Nat) (x76_29 : Bool), v76 = .bool x76_29 ∧ Aside0 (depend_Check.j6 kq l0 x6_12 x7_5 x9_12 x10_5 (l0.length : Int) x37_2 x76_29 = some (r1, r2)) ∧ Aside0 (kq ≤ k5) ∧ Aside0 (Kd.R (Kd.int .i64) 3 wc w.heap.size (fun _ => True) v103 x6_12) ∧ Aside0 (Below w.heap.size w wc))
                 case first =>
                  have H := HC30.out
                  clear HC30
                  by_cases c31 : x11_5 = true
                  ·
                   subst c31
                   have H1 : (depend_Check.j6 k5 l0 x6_12 x7_5 x9_12 x10_5 (l0.length : Int) x37_2 true) = some (r1, r2) := by rw [if_pos rfl] at H; exact H
                   clear H
                   have H := H1
                   clear H1
                   have H' := Aside0.mk H
                   clear H
                   go_wp2
                   go_meet
                   case rel => exact ⟨_, (true), (BE), H', ⟨by have := HK1.out; have := HK2.out; have := HJ12.out; have := HJ23.out; have := HK5.out; first | omega | exact Nat.le_refl _⟩, ⟨BR HO_6.out⟩, ⟨BB⟩⟩
                  ·
                   replace c31 := Bool.eq_false_iff.mpr c31
                   subst c31
                   have H1 : (depend_Check.j6 k5 l0 x6_12 x7_5 x9_12 x10_5 (l0.length : Int) x37_2 (x10_5 != x9_12)) = some (r1, r2) := by rw [if_neg (show ¬ (false = true) by decide)] at H; exact H
                   clear H
                   have H := H1
                   clear H1
                   have H' := Aside0.mk H
                   clear H
                   go_wp2
                   go_meet
                   case rel => exact ⟨_, ((x10_5 != x9_12)), (BE), H', ⟨by have := HK1.out; have := HK2.out; have := HJ12.out; have := HJ23.out; have := HK5.out; first | omega | exact Nat.le_refl _⟩, ⟨BR HO_6.out⟩, ⟨BB⟩⟩
                 case rest =>
                  clear HC30
                  (try clear c1); (try clear p1); (try clear q1); (try clear hx1); (try clear hf1); (try clear c2); (try clear c2b0); (try clear c2b1); (try clear p2); (try clear c3); (try clear c3b0); (try clear c4)
                  (try clear c4b0); (try clear c5); (try clear c5b0); (try clear c6); (try clear c6b0); (try clear p6); (try clear c7); (try clear c7b0); (try clear c8); (try clear c8b0); (try clear c8b1)
                  (try clear c9); (try clear c9b0); (try clear c9b1); (try clear p10); (try clear q10); (try clear hx10); (try clear c12); (try clear c12b0); (try clear c13); (try clear c14); (try clear c14b0)
                  (try clear c15); (try clear c15b0); (try clear c16); (try clear c16b0); (try clear c17); (try clear c17b0); (try clear c17b1); (try clear p18); (try clear q18); (try clear hx18); (try clear hf18)
                  (try clear c19); (try clear c19b0); (try clear c25); (try clear c25b0); (try clear c26); (try clear c26b0); (try clear c27); (try clear c27b0); (try clear c29); (try clear c31); (try clear hx101_0)
                  (try clear hx105_0); (try clear hx107_0); (try clear hx108_0); (try clear hx18_0); (try clear p1); (try clear p10); (try clear p101); (try clear p105); (try clear p107); (try clear p108)
                  (try clear p18); (try clear p2); (try clear p6); (try clear q1); (try clear q10); (try clear q101); (try clear q105); (try clear q107); (try clear q108); (try clear q18)
                  obtain ⟨kq, x76_29, rfl, HA, HJ29, HO_6, HB⟩ := hcut
                  cases kq with
                  | zero => exact absurd HA.out (by simp [depend_Check.j6])
                  | succ kj29 =>
                   have H := HA.out
                   clear HA
                   simp only [depend_Check.j6] at H
                   by_cases c32 : x76_29 = true
                   ·
                    subst c32
                    have H1 : (if x7_5 < 0 then (if 0 ≤ x10_5 then (if x10_5 < (l0.length : Int) then (depend_Check.l3 kj29 l0 x6_12 x10_5 x9_12 (rd l0 x10_5) false (l0.length : Int) x37_2) else (none)) else (none)) else (if x10_5 < x7_5 then (if 0 ≤ x10_5 then (if x10_5 < (l0.length : Int) then (depend_Check.l3 kj29 l0 x6_12 x10_5 x9_12 (rd l0 x10_5) false (l0.length : Int) x37_2) else (none)) else (none)) else (if 0 ≤ x10_5 then (if x10_5 < (l0.length : Int) then (depend_Check.l3 kj29 l0 x6_12 x7_5 x9_12 (rd l0 x10_5) false (l0.length : Int) x37_2) else (none)) else (none)))) = some (r1, r2) := by rw [if_pos rfl] at H; exact H
                    clear H
                    have H := H1
                    clear H1
                    by_cases c33 : x7_5 < 0
                    ·
                     rw [if_pos c33] at H
                     have c33b0 : decide (x7_5 < 0) = true := decide_eq_true c33
                     clear c33
                     by_cases c34 : 0 ≤ x10_5
                     ·
                      rw [if_pos c34] at H
                      have c34b0 : decide (0 ≤ x10_5) = true := decide_eq_true c34
                      clear c34
                      by_cases c35 : x10_5 < (l0.length : Int)
                      ·
                       rw [if_pos c35] at H
                       have c35b0 : decide (x10_5 < (l0.length : Int)) = true := decide_eq_true c35
                       clear c35
                       have H' := Aside0.mk H
                       clear H
                       have p109 : 0 ≤ (x10_5 : Int) := OD
                       have q109 : x10_5 < (l0.length : Int) := OD
                       obtain ⟨ad109, e109, hx109_0⟩ := Kd.at_int HR0.out x10_5 p109 q109
                       cases e109
                       replace hx109_0 := (HB.out.cell (World.block_lt_of_cell? w _ hx109_0)).trans hx109_0
                       replace p109 := eq_true p109
                       replace q109 := eq_true q109
                       go_wp2
                       go_roundg kj29
                       case measure => have := HK1.out; have := HK2.out; have := HJ12.out; have := HJ23.out; have := HK5.out; have := HJ29.out; omega
                       case rel => exact ⟨(x10_5), (rd l0 x10_5), (false), (BE), (BE), (BE), H', ⟨by have := HK1.out; have := HK2.out; have := HJ12.out; have := HJ23.out; have := HK5.out; have := HJ29.out; omega⟩, ⟨BR HO_6.out⟩, ⟨BB⟩⟩
                      ·
                       rw [if_neg c35] at H
                       exact absurd H (by simp)
                     ·
                      rw [if_neg c34] at H
                      exact absurd H (by simp)
                    ·
                     rw [if_neg c33] at H
                     have c33b0 : decide (x7_5 < 0) = false := decide_eq_false c33
                     clear c33
                     by_cases c36 : x10_5 < x7_5
                     ·
                      rw [if_pos c36] at H
                      have c36b0 : decide (x10_5 < x7_5) = true := decide_eq_true c36
                      clear c36
                      by_cases c37 : 0 ≤ x10_5
                      ·
                       rw [if_pos c37] at H
                       have c37b0 : decide (0 ≤ x10_5) = true := decide_eq_true c37
                       clear c37
                       by_cases c38 : x10_5 < (l0.length : Int)
                       ·
                        rw [if_pos c38] at H
                        have c38b0 : decide (x10_5 < (l0.length : Int)) = true := decide_eq_true c38
                        clear c38
                        have H' := Aside0.mk H
                        clear H
                        have p110 : 0 ≤ (x10_5 : Int) := OD
                        have q110 : x10_5 < (l0.length : Int) := OD
                        obtain ⟨ad110, e110, hx110_0⟩ := Kd.at_int HR0.out x10_5 p110 q110
                        cases e110
                        replace hx110_0 := (HB.out.cell (World.block_lt_of_cell? w _ hx110_0)).trans hx110_0
                        replace p110 := eq_true p110
                        replace q110 := eq_true q110
                        go_wp2
                        go_roundg kj29
                        case measure => have := HK1.out; have := HK2.out; have := HJ12.out; have := HJ23.out; have := HK5.out; have := HJ29.out; omega
                        case rel => exact ⟨(x10_5), (rd l0 x10_5), (false), (BE), (BE), (BE), H', ⟨by have := HK1.out; have := HK2.out; have := HJ12.out; have := HJ23.out; have := HK5.out; have := HJ29.out; omega⟩, ⟨BR HO_6.out⟩, ⟨BB⟩⟩
                       ·
                        rw [if_neg c38] at H
                        exact absurd H (by simp)
                      ·
                       rw [if_neg c37] at H
                       exact absurd H (by simp)
                     ·
                      rw [if_neg c36] at H
                      have c36b0 : decide (x10_5 < x7_5) = false := decide_eq_false c36
                      clear c36
                      by_cases c39 : 0 ≤ x10_5
                      ·
                       rw [if_pos c39] at H
                       have c39b0 : decide (0 ≤ x10_5) = true := decide_eq_true c39
                       clear c39
                       by_cases c40 : x10_5 < (l0.length : Int)
                       ·
                        rw [if_pos c40] at H
                        have c40b0 : decide (x10_5 < (l0.length : Int)) = true := decide_eq_true c40
                        clear c40
                        have H' := Aside0.mk H
                        clear H
                        have p111 : 0 ≤ (x10_5 : Int) := OD
                        have q111 : x10_5 < (l0.length : Int) := OD
                        obtain ⟨ad111, e111, hx111_0⟩ := Kd.at_int HR0.out x10_5 p111 q111
                        cases e111
                        replace hx111_0 := (HB.out.cell (World.block_lt_of_cell? w _ hx111_0)).trans hx111_0
                        replace p111 := eq_true p111
                        replace q111 := eq_true q111
                        go_wp2
                        go_roundg kj29
                        case measure => have := HK1.out; have := HK2.out; have := HJ12.out; have := HJ23.out; have := HK5.out; have := HJ29.out; omega
                        case rel => exact ⟨(x7_5), (rd l0 x10_5), (false), (BE), (BE), (BE), H', ⟨by have := HK1.out; have := HK2.out; have := HJ12.out; have := HJ23.out; have := HK5.out; have := HJ29.out; omega⟩, ⟨BR HO_6.out⟩, ⟨BB⟩⟩
                       ·
                        rw [if_neg c40] at H
                        exact absurd H (by simp)
                      ·
                       rw [if_neg c39] at H
                       exact absurd H (by simp)
                   ·
                    replace c32 := Bool.eq_false_iff.mpr c32
                    subst c32
                    have H1 : (depend_Check.l1 kj29 l0 x6_12 x7_5 (l0.length : Int) (wrap64 (x37_2 + 1))) = some (r1, r2) := by rw [if_neg (show ¬ (false = true) by decide)] at H; exact H
                    clear H
                    have H := H1
                    clear H1
                    have H' := Aside0.mk H
                    clear H
                    go_wp2
                    go_roundg kj29
                    case measure => have := HK1.out; have := HK2.out; have := HJ12.out; have := HJ23.out; have := HK5.out; have := HJ29.out; omega
                    case rel => exact ⟨(x6_12), (x7_5), (wrap64 (x37_2 + 1)), (BE), (BE), H', ⟨by have := HK1.out; have := HK2.out; have := HJ12.out; have := HJ23.out; have := HK5.out; have := HJ29.out; omega⟩, ⟨BR HO_6.out⟩, ⟨BB⟩⟩
         ·
          rw [if_neg c12] at H
          have c12b0 : decide (x37_2 < (l0.length : Int)) = false := decide_eq_false c12
          clear c12
          by_cases c41 : x7_2 ≥ 0
          ·
           rw [if_pos c41] at H
           have c41b0 : decide (0 ≤ x7_2) = true := decide_eq_true c41
           clear c41
           simp only [Option.some.injEq, Prod.mk.injEq] at H
           obtain ⟨rfl, rfl⟩ := H
           go_wp2
           go_ret2
           exact ⟨BX, BB⟩
          ·
           rw [if_neg c41] at H
           have c41b0 : decide (0 ≤ x7_2) = false := decide_eq_false c41
           clear c41
           simp only [Option.some.injEq, Prod.mk.injEq] at H
           obtain ⟨rfl, rfl⟩ := H
           go_wp2
           go_ret2
           exact ⟨BX, BB⟩
      ·
       rw [if_neg c9] at H
       exact absurd H (by simp)
     ·
      rw [if_neg c8] at H
      exact absurd H (by simp)

end Go.Proofs.YtkanmafjjejpmaaDoor.P
