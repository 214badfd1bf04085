-- Written by a program of this session (wip/doprint.sh) out of the translation; Lean checks it.
import Derived.Test.YtkanmafjjejpmaaPx0
import Derived.Test.YtkanmafjjejpmaaPx2
import Derived.Test.YtkanmafjjejpmaaPx9
import Derived.Test.YtkanmafjjejpmaaPx16
namespace Go.Proofs.Ytkanmafjjejpmaa.P
open Go.Proofs.Ytkanmafjjejpmaa.S
open Go.Proofs.Ytkanmafjjejpmaa.X
open Go.RowKit Go.Proofs.YtkanmafjjejpmaaW.PrintWords Go.Proofs.YtkanmafjjejpmaaW.PrintLast Go.Proofs.YtkanmafjjejpmaaW.PrintMore
attribute [local go_sem] max2_int min2_int max_two min_two max_three min_three max_four min_four   -- for this text's walks alone
set_option linter.unusedVariables false
set_option linter.unusedSimpArgs false

/-! ### corporalaw09_DependCrosses: function 8 -/
mutual
def corporalaw09_DependCrosses.j0 : Nat → List Int → Int → Bool → Option (Bool)
  | 0, _, _, _ => none
  | k + 1, x0, x3, x26 => if x26 = true then (some true) else (if 0 ≤ x3 then (if (x3 : Int).toNat ≤ 35184372088832 then (corporalaw09_DependCrosses.l0 k x0 x3 (List.replicate (x3 : Int).toNat 0) x0 (x0.length : Int) 0) else (none)) else (none))
def corporalaw09_DependCrosses.l0 : Nat → List Int → Int → List Int → List Int → Int → Int → Option (Bool)
  | 0, _, _, _, _, _, _ => none
  | k + 1, x0, x3, x6, x29, x30, x31 => if x31 < x30 then (if 0 ≤ x31 then (if x31 < (x29.length : Int) then (if 0 ≤ (wrap64 ((wrap64 (x3 - 1)) - x31)) then (if (wrap64 ((wrap64 (x3 - 1)) - x31)) < (x6.length : Int) then ((some (x6.set ((wrap64 ((wrap64 (x3 - 1)) - x31)) : Int).toNat (-1) : List Int)).bind fun y366 => (if (rd x29 x31) ≥ 0 then (corporalaw09_DependCrosses.l0 k x0 x3 (y366.set ((wrap64 ((wrap64 (x3 - 1)) - x31)) : Int).toNat (wrap64 ((wrap64 (x3 - 1)) - (rd x29 x31)))) x29 x30 (wrap64 (x31 + 1))) else (corporalaw09_DependCrosses.l0 k x0 x3 y366 x29 x30 (wrap64 (x31 + 1))))) else (none)) else (none)) else (none)) else (none)) else ((depend_Projective.f k x0).bind fun t368 => ((depend_Projective.f k x6).bind fun t369 => (if (t369 != t368) = true then (some false) else (corporalaw09_DependCrosses.l1 k x0 t368 x0 (x0.length : Int) 0))))
def corporalaw09_DependCrosses.l1 : Nat → List Int → Bool → List Int → Int → Int → Option (Bool)
  | 0, _, _, _, _, _ => none
  | k + 1, x0, x9, x61, x62, x63 => if x63 < x62 then (if 0 ≤ x63 then (if x63 < (x61.length : Int) then (corporalaw09_DependCrosses.l2 k x0 x9 x63 (rd x61 x63) x61 x62 x63 x0 (x0.length : Int) 0) else (none)) else (none)) else ((corporalaw09_awake.f k).bind fun t370 => (some t370))
def corporalaw09_DependCrosses.l2 : Nat → List Int → Bool → Int → Int → List Int → Int → Int → List Int → Int → Int → Option (Bool)
  | 0, _, _, _, _, _, _, _, _, _, _ => none
  | k + 1, x0, x9, x10, x11, x61, x62, x63, x68, x69, x70 => if x70 < x69 then (if 0 ≤ x70 then (if x70 < (x68.length : Int) then (if x9 = true then (if x11 ≥ 0 then (if (rd x68 x70) ≥ 0 then (if (mn x10 x11) < (mn x70 (rd x68 x70)) then (if (mn x70 (rd x68 x70)) < (mx x10 x11) then (if (mx x10 x11) < (mx x70 (rd x68 x70)) then (some false) else (corporalaw09_DependCrosses.l2 k x0 x9 x10 x11 x61 x62 x63 x68 x69 (wrap64 (x70 + 1)))) else (corporalaw09_DependCrosses.l2 k x0 x9 x10 x11 x61 x62 x63 x68 x69 (wrap64 (x70 + 1)))) else (corporalaw09_DependCrosses.l2 k x0 x9 x10 x11 x61 x62 x63 x68 x69 (wrap64 (x70 + 1)))) else (corporalaw09_DependCrosses.l2 k x0 x9 x10 x11 x61 x62 x63 x68 x69 (wrap64 (x70 + 1)))) else (corporalaw09_DependCrosses.l2 k x0 x9 x10 x11 x61 x62 x63 x68 x69 (wrap64 (x70 + 1)))) else (corporalaw09_DependCrosses.l2 k x0 x9 x10 x11 x61 x62 x63 x68 x69 (wrap64 (x70 + 1)))) else (none)) else (none)) else (corporalaw09_DependCrosses.l1 k x0 x9 x61 x62 (wrap64 (x63 + 1)))
end
def corporalaw09_DependCrosses.f (k : Nat) (l0 : List Int) : Option (Bool) := (depend_Check.f k l0).bind fun bt360 => (if (l0.length : Int) > 30 then (corporalaw09_DependCrosses.j0 k l0 (l0.length : Int) true) else (corporalaw09_DependCrosses.j0 k l0 (l0.length : Int) (bt360.2 != 0)))
theorem corporalaw09_DependCrosses.mono_l : ∀ k, (∀ y0 y1 y2, LeO (corporalaw09_DependCrosses.j0 k y0 y1 y2) (corporalaw09_DependCrosses.j0 (k + 1) y0 y1 y2)) ∧ (∀ y0 y1 y2 y3 y4 y5, LeO (corporalaw09_DependCrosses.l0 k y0 y1 y2 y3 y4 y5) (corporalaw09_DependCrosses.l0 (k + 1) y0 y1 y2 y3 y4 y5)) ∧ (∀ y0 y1 y2 y3 y4, LeO (corporalaw09_DependCrosses.l1 k y0 y1 y2 y3 y4) (corporalaw09_DependCrosses.l1 (k + 1) y0 y1 y2 y3 y4)) ∧ (∀ y0 y1 y2 y3 y4 y5 y6 y7 y8 y9, LeO (corporalaw09_DependCrosses.l2 k y0 y1 y2 y3 y4 y5 y6 y7 y8 y9) (corporalaw09_DependCrosses.l2 (k + 1) y0 y1 y2 y3 y4 y5 y6 y7 y8 y9))
 | 0 => ⟨fun _ _ _ r h => by simp [corporalaw09_DependCrosses.j0] at h, fun _ _ _ _ _ _ r h => by simp [corporalaw09_DependCrosses.l0] at h, fun _ _ _ _ _ r h => by simp [corporalaw09_DependCrosses.l1] at h, fun _ _ _ _ _ _ _ _ _ _ r h => by simp [corporalaw09_DependCrosses.l2] at h⟩
 | k + 1 => by
  obtain ⟨ih0, ih1, ih2, ih3⟩ := corporalaw09_DependCrosses.mono_l k
  refine ⟨?_, ?_, ?_, ?_⟩
  ·
   intro y0 y1 y2
   unfold corporalaw09_DependCrosses.j0
   with_reducible repeat' first | exact ih0 _ _ _ | exact ih1 _ _ _ _ _ _ | exact ih2 _ _ _ _ _ | exact ih3 _ _ _ _ _ _ _ _ _ _ | exact corporalaw09_awake.mono _ | exact depend_Check.mono _ _ | exact depend_Projective.mono _ _ | exact LeO.refl _ | exact LeO.none _ | refine LeO.ite ?_ ?_ | refine LeO.bind ?_ (fun _ => ?_)
  ·
   intro y0 y1 y2 y3 y4 y5
   unfold corporalaw09_DependCrosses.l0
   with_reducible repeat' first | exact ih0 _ _ _ | exact ih1 _ _ _ _ _ _ | exact ih2 _ _ _ _ _ | exact ih3 _ _ _ _ _ _ _ _ _ _ | exact corporalaw09_awake.mono _ | exact depend_Check.mono _ _ | exact depend_Projective.mono _ _ | exact LeO.refl _ | exact LeO.none _ | refine LeO.ite ?_ ?_ | refine LeO.bind ?_ (fun _ => ?_)
  ·
   intro y0 y1 y2 y3 y4
   unfold corporalaw09_DependCrosses.l1
   with_reducible repeat' first | exact ih0 _ _ _ | exact ih1 _ _ _ _ _ _ | exact ih2 _ _ _ _ _ | exact ih3 _ _ _ _ _ _ _ _ _ _ | exact corporalaw09_awake.mono _ | exact depend_Check.mono _ _ | exact depend_Projective.mono _ _ | exact LeO.refl _ | exact LeO.none _ | refine LeO.ite ?_ ?_ | refine LeO.bind ?_ (fun _ => ?_)
  ·
   intro y0 y1 y2 y3 y4 y5 y6 y7 y8 y9
   unfold corporalaw09_DependCrosses.l2
   with_reducible repeat' first | exact ih0 _ _ _ | exact ih1 _ _ _ _ _ _ | exact ih2 _ _ _ _ _ | exact ih3 _ _ _ _ _ _ _ _ _ _ | exact corporalaw09_awake.mono _ | exact depend_Check.mono _ _ | exact depend_Projective.mono _ _ | exact LeO.refl _ | exact LeO.none _ | refine LeO.ite ?_ ?_ | refine LeO.bind ?_ (fun _ => ?_)
theorem corporalaw09_DependCrosses.mono : ∀ a0 k, LeO (corporalaw09_DependCrosses.f k a0) (corporalaw09_DependCrosses.f (k + 1) a0) := by
 intro a0 k
 obtain ⟨ih0, ih1, ih2, ih3⟩ := corporalaw09_DependCrosses.mono_l k
 unfold corporalaw09_DependCrosses.f
 with_reducible repeat' first | exact ih0 _ _ _ | exact ih1 _ _ _ _ _ _ | exact ih2 _ _ _ _ _ | exact ih3 _ _ _ _ _ _ _ _ _ _ | exact corporalaw09_awake.mono _ | exact depend_Check.mono _ _ | exact depend_Projective.mono _ _ | exact LeO.refl _ | exact LeO.none _ | refine LeO.ite ?_ ?_ | refine LeO.bind ?_ (fun _ => ?_)
set_option maxHeartbeats 8000000 in
set_option maxRecDepth 100000 in
theorem corporalaw09_DependCrosses.calls (k : Nat) (A0 : Option Addr) (c0 : Nat) (l0 : List Int) (r : Bool) (w : World) (hr0 : Kd.C (Kd.int .i64) w A0 l0.length l0) (hc0 : l0.length ≤ c0) (h : corporalaw09_DependCrosses.f k l0 = some r) :
 Calls Try.prog 8 #[.slice A0 l0.length c0] w fun e w' => e = .returned (.bool r) ∧ Below w.heap.size w w' := by
 have HR0 := Aside0.mk hr0
 have HC0 := Aside0.mk hc0
 clear hr0 hc0
 have HB := Aside0.mk (Below.refl w.heap.size w)
 have H : ((depend_Check.f k l0).bind fun bt360 => (if (l0.length : Int) > 30 then (corporalaw09_DependCrosses.j0 k l0 (l0.length : Int) true) else (corporalaw09_DependCrosses.j0 k l0 (l0.length : Int) (bt360.2 != 0)))) = some r := h
 clear h
 replace H := Option.bind_eq_some_iff.mp H
 obtain ⟨⟨t360, t361⟩, A20, H⟩ := H
 replace H : (if (l0.length : Int) > 30 then (corporalaw09_DependCrosses.j0 k l0 (l0.length : Int) true) else (corporalaw09_DependCrosses.j0 k l0 (l0.length : Int) (t361 != 0))) = some r := H
 have A2 := Aside0.mk A20
 clear A20
 have HC3 := Aside0.mk H
 clear H
 go_enter Try.func8, Try.ntmps8
 go_upto_region 3 with (first | ((with_reducible refine gate_callee (f := 11) rfl ?_); refine goesL_ (some 18) rfl rfl Try.func11 (by kernel_rfl) rfl #[.slice A0 l0.length c0] rfl BM ?_; (with_reducible refine (depend_Check.calls k _ _ l0 t360 t361 _ ?side1 ?side2 A2.out).mono ?_); (case side1 => exact BK HR0.out); (case side2 => exact HC0.out); rintro e w4 ⟨rfl, hb⟩; refine ⟨_, rfl, ?_⟩; have n0_ := Aside0.mk (below_step (BB) hb); clear HB; have HB := n0_; clear n0_; (try clear hb); (try clear hb2); (try clear hk); (try clear hi)))
 (try simp only [Act.put, List.setIfInBounds_toArray, List.set_cons_zero, List.set_cons_succ])
 go_cut [26] (fun v26 wc => ∃ (kq : Nat) (x26_2 : Bool), v26 = .bool x26_2 ∧ Aside0 (corporalaw09_DependCrosses.j0 kq l0 (l0.length : Int) x26_2 = some r) ∧ Aside0 (kq ≤ k) ∧ Aside0 (Below w.heap.size w wc))
 case first =>
  have H := HC3.out
  clear HC3
  by_cases c5 : (l0.length : Int) > 30
  ·
   rw [if_pos c5] at H
   have c5b0 : decide (30 < (l0.length : Int)) = true := decide_eq_true c5
   have c5b1 : decide (30 < l0.length) = true := decide_eq_true (by omega)
   clear c5
   (first | rw [c5b0] | rw [c5b1] | (simp only [i64_w, i32_w]; rw [c5b0]) | skip)
   have H' := Aside0.mk H
   clear H
   go_wp2
   go_meet
   case rel => exact ⟨_, (true), (BE), H', ⟨by first | omega | exact Nat.le_refl _⟩, ⟨BB⟩⟩
  ·
   rw [if_neg c5] at H
   have c5b0 : decide (30 < (l0.length : Int)) = false := decide_eq_false c5
   have c5b1 : decide (30 < l0.length) = false := decide_eq_false (by omega)
   clear c5
   (first | rw [c5b0] | rw [c5b1] | (simp only [i64_w, i32_w]; rw [c5b0]) | skip)
   have H' := Aside0.mk H
   clear H
   go_wp2
   go_meet
   case rel => exact ⟨_, ((t361 != 0)), (BE), H', ⟨by first | omega | exact Nat.le_refl _⟩, ⟨BB⟩⟩
 case rest =>
  clear HC3
  (try clear c1); (try clear p2); (try clear c5); (try clear c5b0); (try clear c5b1)
  obtain ⟨kq, x26_2, rfl, HA, HJ2, HB⟩ := hcut
  cases kq with
  | zero => exact absurd HA.out (by simp [corporalaw09_DependCrosses.j0])
  | succ kj2 =>
   have H := HA.out
   clear HA
   simp only [corporalaw09_DependCrosses.j0] at H
   by_cases c6 : x26_2 = true
   ·
    subst c6
    have H1 : (some true) = some r := by rw [if_pos rfl] at H; exact H
    clear H
    have H := H1
    clear H1
    obtain rfl := Option.some.inj H
    go_wp2
    go_ret
    exact ⟨BX, BB⟩
   ·
    replace c6 := Bool.eq_false_iff.mpr c6
    subst c6
    have H1 : (if 0 ≤ (l0.length : Int) then (if ((l0.length : Int) : Int).toNat ≤ 35184372088832 then (corporalaw09_DependCrosses.l0 kj2 l0 (l0.length : Int) (List.replicate ((l0.length : Int) : Int).toNat 0) l0 (l0.length : Int) 0) else (none)) else (none)) = some r := by rw [if_neg (show ¬ (false = true) by decide)] at H; exact H
    clear H
    have H := H1
    clear H1
    by_cases c7 : 0 ≤ (l0.length : Int)
    ·
     rw [if_pos c7] at H
     have c7b0 := eq_true c7
     have c7b1 : decide (0 ≤ (l0.length : Int)) = true := decide_eq_true c7
     clear c7
     by_cases c8 : ((l0.length : Int) : Int).toNat ≤ 35184372088832
     ·
      rw [if_pos c8] at H
      have c8b0 := eq_true c8
      have c8b1 : decide (((l0.length : Int) : Int).toNat ≤ 35184372088832) = true := decide_eq_true c8
      clear c8
      obtain ⟨y362, hy362⟩ : ∃ y_ : List Int, y_ = (List.replicate ((l0.length : Int) : Int).toNat 0) := ⟨_, rfl⟩
      replace H : (corporalaw09_DependCrosses.l0 kj2 l0 (l0.length : Int) y362 l0 (l0.length : Int) 0) = some r := by first | (rw [hy362]; with_reducible exact H) | (have H2_ := (Option.bind_some _ _).symm.trans H; rw [hy362]; with_reducible exact H2_) | (have H2_ := (Option.bind_some _ _).symm.trans H; with_reducible exact H2_) | with_reducible exact H | (rw [hy362]; exact H) | exact H
      have Ny362 := Aside0.mk hy362
      clear hy362
      have H' := Aside0.mk H
      clear H
      go_wp2_with (first | ((with_reducible refine gate_dst (N := 28) rfl ?_); (try (refine gate_guard (by rfl) ?_; dsimp only)); refine Kd.R_make (Kd.int .i64) _ 3 rfl (N := 28) rfl 22 _ _ rfl (l0.length : Int) rfl rfl Try.underlying22 (.int .i64 0) 8 info3 rfl (by decide) (by omega) 0 (ok := fun _ => True) (okp := fun _ => True) rfl (fun _ hk => hk) trivial (OD) (Nat.le_trans (Nat.mul_le_mul_right _ (OD : (l0.length : Int).toNat ≤ 35184372088832)) (by omega)) (Below.refl _ _) (Nat.le_refl _) ?_; intro v363 w9 ho10 hb hg_ hnew_; clear hg_ hnew_; (first | rw [← Ny362.out] at ho10 | (simp only [Int.reduceToNat] at ho10; rw [← Ny362.out] at ho10)); have n0_ := Aside0.mk (Kd.R_lower ho10 (below_size (BB))); have n1_ := Aside0.mk (below_step (BB) hb); clear HB; have HO364 := n0_; have HB := n1_; clear n0_ n1_; clear hb ho10))
      go_loopg [31] kj2 (fun kq v31 w' => ∃ (x6_2 : List Int) (x31_2 : Int), v31 = .int .i64 x31_2 ∧ Aside0 (corporalaw09_DependCrosses.l0 kq l0 (l0.length : Int) x6_2 l0 (l0.length : Int) x31_2 = some r) ∧ Aside0 (kq ≤ kj2) ∧ Aside0 (Kd.R (Kd.int .i64) 3 w' w.heap.size (fun _ => True) v363 x6_2) ∧ Aside0 (Below w.heap.size w w'))
      case atStart => exact ⟨(y362), (0), (BE), H', ⟨Nat.le_refl _⟩, ⟨BR HO364.out⟩, ⟨BB⟩⟩
      case round =>
       clear H'
       (try clear c1); (try clear p2); (try clear c5); (try clear c5b0); (try clear c5b1); (try clear c6); (try clear c7); (try clear c7b0); (try clear c7b1); (try clear c8); (try clear c8b0); (try clear c8b1); (try clear p2)
       obtain ⟨x6_2, x31_2, rfl, HA, HK2, HO_6, HB⟩ := hrel
       cases gk with
       | zero => exact absurd HA.out (by simp [corporalaw09_DependCrosses.l0])
       | succ k2 =>
        have H := HA.out
        clear HA
        simp only [corporalaw09_DependCrosses.l0] at H
        by_cases c11 : x31_2 < (l0.length : Int)
        ·
         rw [if_pos c11] at H
         have c11b0 : decide (x31_2 < (l0.length : Int)) = true := decide_eq_true c11
         clear c11
         by_cases c12 : 0 ≤ x31_2
         ·
          rw [if_pos c12] at H
          have c12b0 : decide (0 ≤ x31_2) = true := decide_eq_true c12
          clear c12
          by_cases c13 : x31_2 < (l0.length : Int)
          ·
           rw [if_pos c13] at H
           have c13b0 : decide (x31_2 < (l0.length : Int)) = true := decide_eq_true c13
           clear c13
           obtain ⟨ji14, hji14⟩ : ∃ j_ : Int, (wrap64 ((wrap64 ((l0.length : Int) - 1)) - x31_2)) = j_ := ⟨_, rfl⟩
           replace H : (if 0 ≤ (ji14) then (if (ji14) < (x6_2.length : Int) then ((some (x6_2.set ((ji14) : Int).toNat (-1) : List Int)).bind fun y366 => (if (rd l0 x31_2) ≥ 0 then (corporalaw09_DependCrosses.l0 k2 l0 (l0.length : Int) (y366.set ((ji14) : Int).toNat (wrap64 ((wrap64 ((l0.length : Int) - 1)) - (rd l0 x31_2)))) l0 (l0.length : Int) (wrap64 (x31_2 + 1))) else (corporalaw09_DependCrosses.l0 k2 l0 (l0.length : Int) y366 l0 (l0.length : Int) (wrap64 (x31_2 + 1))))) else (none)) else (none)) = some r := by first | (rw [hji14] at H; exact H) | (simp only [hji14] at H ⊢; exact H)
           have hji14w : (IntKind.i64.wrap ((wrap64 ((l0.length : Int) - 1)) - x31_2)) = ji14 := (i64_w _).trans hji14
           by_cases c15 : 0 ≤ (ji14)
           ·
            rw [if_pos c15] at H
            have c15b0 : decide (0 ≤ (ji14)) = true := decide_eq_true c15
            clear c15
            by_cases c16 : (ji14) < (x6_2.length : Int)
            ·
             rw [if_pos c16] at H
             have c16b0 : decide ((ji14) < (x6_2.length : Int)) = true := decide_eq_true c16
             clear c16
             obtain ⟨y366, hy366⟩ : ∃ y_ : List Int, y_ = (x6_2.set ((ji14) : Int).toNat (-1)) := ⟨_, rfl⟩
             replace H : (if (rd l0 x31_2) ≥ 0 then (corporalaw09_DependCrosses.l0 k2 l0 (l0.length : Int) (y366.set ((ji14) : Int).toNat (wrap64 ((wrap64 ((l0.length : Int) - 1)) - (rd l0 x31_2)))) l0 (l0.length : Int) (wrap64 (x31_2 + 1))) else (corporalaw09_DependCrosses.l0 k2 l0 (l0.length : Int) y366 l0 (l0.length : Int) (wrap64 (x31_2 + 1)))) = some r := by first | (rw [hy366]; with_reducible exact H) | (have H2_ := (Option.bind_some _ _).symm.trans H; rw [hy366]; with_reducible exact H2_) | (have H2_ := (Option.bind_some _ _).symm.trans H; with_reducible exact H2_) | with_reducible exact H | (rw [hy366]; exact H) | exact H
             have Ny366 := Aside0.mk hy366
             clear hy366
             by_cases c18 : (rd l0 x31_2) ≥ 0
             ·
              rw [if_pos c18] at H
              have c18b0 : decide (0 ≤ (rd l0 x31_2)) = true := decide_eq_true c18
              clear c18
              obtain ⟨y367, hy367⟩ : ∃ y_ : List Int, y_ = (y366.set ((ji14) : Int).toNat (wrap64 ((wrap64 ((l0.length : Int) - 1)) - (rd l0 x31_2)))) := ⟨_, rfl⟩
              replace H : (corporalaw09_DependCrosses.l0 k2 l0 (l0.length : Int) y367 l0 (l0.length : Int) (wrap64 (x31_2 + 1))) = some r := by first | (rw [hy367]; with_reducible exact H) | (have H2_ := (Option.bind_some _ _).symm.trans H; rw [hy367]; with_reducible exact H2_) | (have H2_ := (Option.bind_some _ _).symm.trans H; with_reducible exact H2_) | with_reducible exact H | (rw [hy367]; exact H) | exact H
              have Ny367 := Aside0.mk hy367
              clear hy367
              have H' := Aside0.mk H
              clear H
              have p365 : 0 ≤ (x31_2 : Int) := OD
              have q365 : x31_2 < (l0.length : Int) := OD
              obtain ⟨ad365, e365, hx365_0⟩ := Kd.at_int HR0.out x31_2 p365 q365
              cases e365
              replace hx365_0 := (HB.out.cell (World.block_lt_of_cell? w _ hx365_0)).trans hx365_0
              replace p365 := eq_true p365
              replace q365 := eq_true q365
              have p17 : 0 ≤ ((ji14) : Int) := OD
              have q17 : ((ji14) : Int) < ((x6_2.length : Int) : Int) := OD
              obtain ⟨go17, co17, eo17, gb17, gl17, cl17, HG17⟩ := Kd.R_form HO_6.out (by omega)
              (first | cases eo17 | (injection eo17 with ea_ en_ ec_; (first | subst ea_ | (injection ea_ with ea_; subst ea_)); subst ec_; clear en_))
              have GB17 := Aside0.mk gb17
              have GG17 := Aside0.mk HG17
              clear gb17 gl17 HG17
              obtain ⟨hx17_0, hf17_0⟩ := Kd.R_celln 0 HO_6.out ((ji14) : Int) p17 q17
              replace p17 := eq_true p17
              replace q17 := eq_true q17
              have HP20 := Kd.R_putg HO_6.out ((ji14) : Int) (-1)
              go_wp2_with (first | ((with_reducible refine gate_store (t := 3) (p := 41) rfl ?_); refine store_event (t := 3) (p := 41) (v := ?vo_w21) (w1 := (wr.setCell ⟨go17, ((ji14) : Int).toNat, none⟩ (.int .i64 (-1)))) ?hg ?ho ?hn ?hr ?_; (case ho => rfl); (case hg => rfl); (case hn => rfl); (case hr => first | (go_simp; done) | (go_simp; rfl)); intro w21 hw; have hg : wr.grownBy w21 (some go17) := (by rw [hw]; exact HP20.2); have hp_ : Kd.R (Kd.int .i64) 3 w21 w.heap.size (fun _ => True) (.slice (some ⟨go17, 0, none⟩) x6_2.length co17) y366 := (by rw [hw, Ny366.out]; exact HP20.1); clear HP20; have n0_ := Aside0.mk (hp_); have n1_ := Aside0.mk ((by rw [hw]; exact below_set (HB.out) GB17.out : Below w.heap.size w w21)); clear HO_6; clear HB; have HO_6 := n0_; have HB := n1_; clear n0_ n1_; clear hg hw hp_; have p19 : 0 ≤ ((ji14) : Int) := OD; have q19 : ((ji14) : Int) < ((x6_2.length : Int) : Int) := OD; obtain ⟨hx19_0, hf19_0⟩ := Kd.R_celln 0 HO_6.out ((ji14) : Int) p19 q19; replace p19 := eq_true p19; replace q19 := eq_true q19; obtain ⟨hy22_, hz22_⟩ := Kd.R_celln 0 HO_6.out ((ji14) : Int) (OD) (OD); have HP22 := Kd.R_putg HO_6.out ((ji14) : Int) (wrap64 ((wrap64 ((l0.length : Int) - 1)) - (rd l0 x31_2)))) | ((with_reducible refine gate_store (t := 3) (p := 53) rfl ?_); refine store_event (t := 3) (p := 53) (v := ?vo_w23) (w1 := (w21.setCell ⟨go17, ((ji14) : Int).toNat, none⟩ (.int .i64 (wrap64 ((wrap64 ((l0.length : Int) - 1)) - (rd l0 x31_2)))))) ?hg ?ho ?hn ?hr ?_; (case ho => rfl); (case hg => rfl); (case hn => rfl); (case hr => first | (go_simp; done) | (go_simp; rfl)); intro w23 hw; have hg : w21.grownBy w23 (some go17) := (by rw [hw]; exact HP22.2); have hp_ : Kd.R (Kd.int .i64) 3 w23 w.heap.size (fun _ => True) (.slice (some ⟨go17, 0, none⟩) x6_2.length co17) y367 := (by rw [hw, Ny367.out]; exact HP22.1); clear HP22; have n0_ := Aside0.mk (hp_); have n1_ := Aside0.mk ((by rw [hw]; exact below_set (HB.out) GB17.out : Below w.heap.size w w23)); clear HO_6; clear HB; have HO_6 := n0_; have HB := n1_; clear n0_ n1_; clear hg hw hp_))
              go_roundg k2
              case measure => have := HJ2.out; have := HK2.out; omega
              case rel => exact ⟨(y367), (wrap64 (x31_2 + 1)), (BE), H', ⟨by have := HJ2.out; have := HK2.out; omega⟩, ⟨BR HO_6.out⟩, ⟨BB⟩⟩
             ·
              rw [if_neg c18] at H
              have c18b0 : decide (0 ≤ (rd l0 x31_2)) = false := decide_eq_false c18
              clear c18
              have H' := Aside0.mk H
              clear H
              have p365 : 0 ≤ (x31_2 : Int) := OD
              have q365 : x31_2 < (l0.length : Int) := OD
              obtain ⟨ad365, e365, hx365_0⟩ := Kd.at_int HR0.out x31_2 p365 q365
              cases e365
              replace hx365_0 := (HB.out.cell (World.block_lt_of_cell? w _ hx365_0)).trans hx365_0
              replace p365 := eq_true p365
              replace q365 := eq_true q365
              have p17 : 0 ≤ ((ji14) : Int) := OD
              have q17 : ((ji14) : Int) < ((x6_2.length : Int) : Int) := OD
              obtain ⟨go17, co17, eo17, gb17, gl17, cl17, HG17⟩ := Kd.R_form HO_6.out (by omega)
              (first | cases eo17 | (injection eo17 with ea_ en_ ec_; (first | subst ea_ | (injection ea_ with ea_; subst ea_)); subst ec_; clear en_))
              have GB17 := Aside0.mk gb17
              have GG17 := Aside0.mk HG17
              clear gb17 gl17 HG17
              obtain ⟨hx17_0, hf17_0⟩ := Kd.R_celln 0 HO_6.out ((ji14) : Int) p17 q17
              replace p17 := eq_true p17
              replace q17 := eq_true q17
              have HP24 := Kd.R_putg HO_6.out ((ji14) : Int) (-1)
              go_wp2_with (first | ((with_reducible refine gate_store (t := 3) (p := 41) rfl ?_); refine store_event (t := 3) (p := 41) (v := ?vo_w25) (w1 := (wr.setCell ⟨go17, ((ji14) : Int).toNat, none⟩ (.int .i64 (-1)))) ?hg ?ho ?hn ?hr ?_; (case ho => rfl); (case hg => rfl); (case hn => rfl); (case hr => first | (go_simp; done) | (go_simp; rfl)); intro w25 hw; have hg : wr.grownBy w25 (some go17) := (by rw [hw]; exact HP24.2); have hp_ : Kd.R (Kd.int .i64) 3 w25 w.heap.size (fun _ => True) (.slice (some ⟨go17, 0, none⟩) x6_2.length co17) y366 := (by rw [hw, Ny366.out]; exact HP24.1); clear HP24; have n0_ := Aside0.mk (hp_); have n1_ := Aside0.mk ((by rw [hw]; exact below_set (HB.out) GB17.out : Below w.heap.size w w25)); clear HO_6; clear HB; have HO_6 := n0_; have HB := n1_; clear n0_ n1_; clear hg hw hp_))
              go_roundg k2
              case measure => have := HJ2.out; have := HK2.out; omega
              case rel => exact ⟨(y366), (wrap64 (x31_2 + 1)), (BE), H', ⟨by have := HJ2.out; have := HK2.out; omega⟩, ⟨BR HO_6.out⟩, ⟨BB⟩⟩
            ·
             rw [if_neg c16] at H
             exact absurd H (by simp)
           ·
            rw [if_neg c15] at H
            exact absurd H (by simp)
          ·
           rw [if_neg c13] at H
           exact absurd H (by simp)
         ·
          rw [if_neg c12] at H
          exact absurd H (by simp)
        ·
         rw [if_neg c11] at H
         have c11b0 : decide (x31_2 < (l0.length : Int)) = false := decide_eq_false c11
         clear c11
         replace H := Option.bind_eq_some_iff.mp H
         obtain ⟨t368, A260, H⟩ := H
         replace H : ((depend_Projective.f k2 x6_2).bind fun t369 => (if (t369 != t368) = true then (some false) else (corporalaw09_DependCrosses.l1 k2 l0 t368 l0 (l0.length : Int) 0))) = some r := H
         have A26 := Aside0.mk A260
         clear A260
         replace H := Option.bind_eq_some_iff.mp H
         obtain ⟨t369, A270, H⟩ := H
         replace H : (if (t369 != t368) = true then (some false) else (corporalaw09_DependCrosses.l1 k2 l0 t368 l0 (l0.length : Int) 0)) = some r := H
         have A27 := Aside0.mk A270
         clear A270
         by_cases c28 : (t369 != t368) = true
         ·
          rw [if_pos c28] at H
          have c28b0 : (t369 != t368) = true := c28
          (try (have c28b1 : decide (t369 = t368) = false := by simpa using c28))
          (try (have c28b2 : (t369 == t368) = false := by simpa using c28))
          (try (have c28b3 : ¬ (t369 = t368) := by simpa using c28))
          clear c28
          obtain rfl := Option.some.inj H
          go_wp2_with (first | ((with_reducible refine gate_callee (f := 19) rfl ?_); refine goesL_ (some 56) rfl rfl Try.func19 (by kernel_rfl) rfl #[.slice A0 l0.length c0] rfl BM ?_; (with_reducible refine (depend_Projective.calls k2 _ _ l0 t368 _ ?side1 ?side2 A26.out).mono ?_); (case side1 => exact BC HR0.out); (case side2 => exact HC0.out); rintro e w29 ⟨rfl, hb⟩; refine ⟨_, rfl, ?_⟩; have n0_ := Aside0.mk (Kd.R_below (BR HO_6.out) hb); have n1_ := Aside0.mk (below_step (BB) hb); clear HO_6; clear HB; have HO_6 := n0_; have HB := n1_; clear n0_ n1_; (try clear hb); (try clear hb2); (try clear hk); (try clear hi); obtain ⟨Ao30, co30, eo30⟩ := Kd.R_slice HO_6.out; subst eo30) | ((with_reducible refine gate_callee (f := 19) rfl ?_); refine goesL_ (some 58) rfl rfl Try.func19 (by kernel_rfl) rfl #[.slice Ao30 x6_2.length co30] rfl BM ?_; (with_reducible refine (depend_Projective.calls k2 _ _ x6_2 t369 _ ?side1 ?side2 A27.out).mono ?_); (case side1 => repeat (first | exact (Kd.R_reads' HO_6.out).2.2 | (with_reducible refine Kd.C_alloc ?_ _) | (with_reducible refine Kd.C_drewN ?_ _) | (with_reducible refine Kd.C_drew ?_))); (case side2 => exact (Kd.R_reads' HO_6.out).2.1); rintro e w31 ⟨rfl, hb⟩; refine ⟨_, rfl, ?_⟩; have n0_ := Aside0.mk (Kd.R_below (BR HO_6.out) hb); have n1_ := Aside0.mk (below_step (BB) hb); clear HO_6; clear HB; have HO_6 := n0_; have HB := n1_; clear n0_ n1_; (try clear hb); (try clear hb2); (try clear hk); (try clear hi)))
          go_ret
          exact ⟨BX, BB⟩
         ·
          rw [if_neg c28] at H
          have c28b0 : (t369 != t368) = false := by simpa using c28
          (try (have c28b1 : decide (t369 = t368) = true := by simpa using c28))
          (try (have c28b2 : (t369 == t368) = true := by simpa using c28))
          clear c28
          have H' := Aside0.mk H
          clear H
          go_wp2_with (first | ((with_reducible refine gate_callee (f := 19) rfl ?_); refine goesL_ (some 56) rfl rfl Try.func19 (by kernel_rfl) rfl #[.slice A0 l0.length c0] rfl BM ?_; (with_reducible refine (depend_Projective.calls k2 _ _ l0 t368 _ ?side1 ?side2 A26.out).mono ?_); (case side1 => exact BC HR0.out); (case side2 => exact HC0.out); rintro e w32 ⟨rfl, hb⟩; refine ⟨_, rfl, ?_⟩; have n0_ := Aside0.mk (Kd.R_below (BR HO_6.out) hb); have n1_ := Aside0.mk (below_step (BB) hb); clear HO_6; clear HB; have HO_6 := n0_; have HB := n1_; clear n0_ n1_; (try clear hb); (try clear hb2); (try clear hk); (try clear hi); obtain ⟨Ao33, co33, eo33⟩ := Kd.R_slice HO_6.out; subst eo33) | ((with_reducible refine gate_callee (f := 19) rfl ?_); refine goesL_ (some 58) rfl rfl Try.func19 (by kernel_rfl) rfl #[.slice Ao33 x6_2.length co33] rfl BM ?_; (with_reducible refine (depend_Projective.calls k2 _ _ x6_2 t369 _ ?side1 ?side2 A27.out).mono ?_); (case side1 => repeat (first | exact (Kd.R_reads' HO_6.out).2.2 | (with_reducible refine Kd.C_alloc ?_ _) | (with_reducible refine Kd.C_drewN ?_ _) | (with_reducible refine Kd.C_drew ?_))); (case side2 => exact (Kd.R_reads' HO_6.out).2.1); rintro e w34 ⟨rfl, hb⟩; refine ⟨_, rfl, ?_⟩; have n0_ := Aside0.mk (Kd.R_below (BR HO_6.out) hb); have n1_ := Aside0.mk (below_step (BB) hb); clear HO_6; clear HB; have HO_6 := n0_; have HB := n1_; clear n0_ n1_; (try clear hb); (try clear hb2); (try clear hk); (try clear hi)))
          go_loopg [63] k2 (fun kq v63 w' => ∃ (x63_3 : Int), v63 = .int .i64 x63_3 ∧ Aside0 (corporalaw09_DependCrosses.l1 kq l0 t368 l0 (l0.length : Int) x63_3 = some r) ∧ Aside0 (kq ≤ k2) ∧ Aside0 (Below w.heap.size w w'))
          case atStart => exact ⟨(0), (BE), H', ⟨Nat.le_refl _⟩, ⟨BB⟩⟩
          case round =>
           clear H'
           (try clear c1); (try clear p1); (try clear q1); (try clear hx1); (try clear hf1); (try clear c2); (try clear p2); (try clear p3); (try clear q3); (try clear hx3); (try clear c5); (try clear c5b0); (try clear c5b1)
           (try clear c6); (try clear p6); (try clear c7); (try clear c7b0); (try clear c7b1); (try clear c8); (try clear c8b0); (try clear c8b1); (try clear c11); (try clear c11b0); (try clear c12); (try clear c12b0)
           (try clear c13); (try clear c13b0); (try clear c15); (try clear c15b0); (try clear c16); (try clear c16b0); (try clear p17); (try clear q17); (try clear hx17); (try clear hf17); (try clear c18); (try clear c18b0)
           (try clear c19); (try clear p19); (try clear q19); (try clear hx19); (try clear hf19); (try clear c28); (try clear c28b0); (try clear c28b1); (try clear c28b2); (try clear hx17_0); (try clear hx19_0)
           (try clear hx365_0); (try clear p17); (try clear p19); (try clear p2); (try clear p365); (try clear q17); (try clear q19); (try clear q365)
           obtain ⟨x63_3, rfl, HA, HK3, HB⟩ := hrel
           cases gk with
           | zero => exact absurd HA.out (by simp [corporalaw09_DependCrosses.l1])
           | succ k3 =>
            have H := HA.out
            clear HA
            simp only [corporalaw09_DependCrosses.l1] at H
            by_cases c35 : x63_3 < (l0.length : Int)
            ·
             rw [if_pos c35] at H
             have c35b0 : decide (x63_3 < (l0.length : Int)) = true := decide_eq_true c35
             clear c35
             by_cases c36 : 0 ≤ x63_3
             ·
              rw [if_pos c36] at H
              have c36b0 : decide (0 ≤ x63_3) = true := decide_eq_true c36
              clear c36
              by_cases c37 : x63_3 < (l0.length : Int)
              ·
               rw [if_pos c37] at H
               have c37b0 : decide (x63_3 < (l0.length : Int)) = true := decide_eq_true c37
               clear c37
               have H' := Aside0.mk H
               clear H
               have p371 : 0 ≤ (x63_3 : Int) := OD
               have q371 : x63_3 < (l0.length : Int) := OD
               obtain ⟨ad371, e371, hx371_0⟩ := Kd.at_int HR0.out x63_3 p371 q371
               cases e371
               replace hx371_0 := (HB.out.cell (World.block_lt_of_cell? w _ hx371_0)).trans hx371_0
               replace p371 := eq_true p371
               replace q371 := eq_true q371
               go_wp2
               go_loopg [70] k3 (fun kq v70 w' => ∃ (x70_4 : Int), v70 = .int .i64 x70_4 ∧ Aside0 (corporalaw09_DependCrosses.l2 kq l0 t368 x63_3 (rd l0 x63_3) l0 (l0.length : Int) x63_3 l0 (l0.length : Int) x70_4 = some r) ∧ Aside0 (kq ≤ k3) ∧ Aside0 (Below w.heap.size w w'))
               case atStart => exact ⟨(0), (BE), H', ⟨Nat.le_refl _⟩, ⟨BB⟩⟩
               case round =>
                clear H'
                (try clear c1); (try clear p1); (try clear q1); (try clear hx1); (try clear hf1); (try clear c2); (try clear p2); (try clear c3); (try clear p3); (try clear q3); (try clear hx3); (try clear c5)
                (try clear c5b0); (try clear c5b1); (try clear c6); (try clear p6); (try clear c7); (try clear c7b0); (try clear c7b1); (try clear c8); (try clear c8b0); (try clear c8b1); (try clear c11); (try clear c11b0)
                (try clear c12); (try clear c12b0); (try clear c13); (try clear c13b0); (try clear c15); (try clear c15b0); (try clear c16); (try clear c16b0); (try clear p17); (try clear q17); (try clear hx17)
                (try clear hf17); (try clear c18); (try clear c18b0); (try clear c19); (try clear p19); (try clear q19); (try clear hx19); (try clear hf19); (try clear c28); (try clear c28b0); (try clear c28b1)
                (try clear c28b2); (try clear c35); (try clear c35b0); (try clear c36); (try clear c36b0); (try clear p36); (try clear q36); (try clear hx36); (try clear c37); (try clear c37b0); (try clear p37)
                (try clear q37); (try clear hx37); (try clear hx17_0); (try clear hx19_0); (try clear hx365_0); (try clear hx371_0); (try clear p1); (try clear p17); (try clear p19); (try clear p2); (try clear p3)
                (try clear p365); (try clear p371); (try clear p6); (try clear q1); (try clear q17); (try clear q19); (try clear q3); (try clear q365); (try clear q371)
                obtain ⟨x70_4, rfl, HA, HK4, HB⟩ := hrel
                cases gk with
                | zero => exact absurd HA.out (by simp [corporalaw09_DependCrosses.l2])
                | succ k4 =>
                 have H := HA.out
                 clear HA
                 simp only [corporalaw09_DependCrosses.l2] at H
                 by_cases c38 : x70_4 < (l0.length : Int)
                 ·
                  rw [if_pos c38] at H
                  have c38b0 : decide (x70_4 < (l0.length : Int)) = true := decide_eq_true c38
                  clear c38
                  by_cases c39 : 0 ≤ x70_4
                  ·
                   rw [if_pos c39] at H
                   have c39b0 : decide (0 ≤ x70_4) = true := decide_eq_true c39
                   clear c39
                   by_cases c40 : x70_4 < (l0.length : Int)
                   ·
                    rw [if_pos c40] at H
                    have c40b0 : decide (x70_4 < (l0.length : Int)) = true := decide_eq_true c40
                    clear c40
                    by_cases c41 : t368 = true
                    ·
                     subst c41
                     have H1 : (if (rd l0 x63_3) ≥ 0 then (if (rd l0 x70_4) ≥ 0 then (if (mn x63_3 (rd l0 x63_3)) < (mn x70_4 (rd l0 x70_4)) then (if (mn x70_4 (rd l0 x70_4)) < (mx x63_3 (rd l0 x63_3)) then (if (mx x63_3 (rd l0 x63_3)) < (mx x70_4 (rd l0 x70_4)) then (some false) else (corporalaw09_DependCrosses.l2 k4 l0 true x63_3 (rd l0 x63_3) l0 (l0.length : Int) x63_3 l0 (l0.length : Int) (wrap64 (x70_4 + 1)))) else (corporalaw09_DependCrosses.l2 k4 l0 true x63_3 (rd l0 x63_3) l0 (l0.length : Int) x63_3 l0 (l0.length : Int) (wrap64 (x70_4 + 1)))) else (corporalaw09_DependCrosses.l2 k4 l0 true x63_3 (rd l0 x63_3) l0 (l0.length : Int) x63_3 l0 (l0.length : Int) (wrap64 (x70_4 + 1)))) else (corporalaw09_DependCrosses.l2 k4 l0 true x63_3 (rd l0 x63_3) l0 (l0.length : Int) x63_3 l0 (l0.length : Int) (wrap64 (x70_4 + 1)))) else (corporalaw09_DependCrosses.l2 k4 l0 true x63_3 (rd l0 x63_3) l0 (l0.length : Int) x63_3 l0 (l0.length : Int) (wrap64 (x70_4 + 1)))) = some r := by rw [if_pos rfl] at H; exact H
                     clear H
                     have H := H1
                     clear H1
                     by_cases c42 : (rd l0 x63_3) ≥ 0
                     ·
                      rw [if_pos c42] at H
                      have c42b0 : decide (0 ≤ (rd l0 x63_3)) = true := decide_eq_true c42
                      clear c42
                      by_cases c43 : (rd l0 x70_4) ≥ 0
                      ·
                       rw [if_pos c43] at H
                       have c43b0 : decide (0 ≤ (rd l0 x70_4)) = true := decide_eq_true c43
                       clear c43
                       obtain ⟨ji44, hji44⟩ : ∃ j_ : Int, (mn x63_3 (rd l0 x63_3)) = j_ := ⟨_, rfl⟩
                       replace H : (if (ji44) < (mn x70_4 (rd l0 x70_4)) then (if (mn x70_4 (rd l0 x70_4)) < (mx x63_3 (rd l0 x63_3)) then (if (mx x63_3 (rd l0 x63_3)) < (mx x70_4 (rd l0 x70_4)) then (some false) else (corporalaw09_DependCrosses.l2 k4 l0 true x63_3 (rd l0 x63_3) l0 (l0.length : Int) x63_3 l0 (l0.length : Int) (wrap64 (x70_4 + 1)))) else (corporalaw09_DependCrosses.l2 k4 l0 true x63_3 (rd l0 x63_3) l0 (l0.length : Int) x63_3 l0 (l0.length : Int) (wrap64 (x70_4 + 1)))) else (corporalaw09_DependCrosses.l2 k4 l0 true x63_3 (rd l0 x63_3) l0 (l0.length : Int) x63_3 l0 (l0.length : Int) (wrap64 (x70_4 + 1)))) = some r := by first | (rw [hji44] at H; exact H) | (simp only [hji44] at H ⊢; exact H)
                       have hji44_ : (if (rd l0 x63_3) < x63_3 then (rd l0 x63_3) else x63_3) = ji44 := hji44
                       obtain ⟨ji45, hji45⟩ : ∃ j_ : Int, (mn x70_4 (rd l0 x70_4)) = j_ := ⟨_, rfl⟩
                       replace H : (if (ji44) < (ji45) then (if (ji45) < (mx x63_3 (rd l0 x63_3)) then (if (mx x63_3 (rd l0 x63_3)) < (mx x70_4 (rd l0 x70_4)) then (some false) else (corporalaw09_DependCrosses.l2 k4 l0 true x63_3 (rd l0 x63_3) l0 (l0.length : Int) x63_3 l0 (l0.length : Int) (wrap64 (x70_4 + 1)))) else (corporalaw09_DependCrosses.l2 k4 l0 true x63_3 (rd l0 x63_3) l0 (l0.length : Int) x63_3 l0 (l0.length : Int) (wrap64 (x70_4 + 1)))) else (corporalaw09_DependCrosses.l2 k4 l0 true x63_3 (rd l0 x63_3) l0 (l0.length : Int) x63_3 l0 (l0.length : Int) (wrap64 (x70_4 + 1)))) = some r := by first | (rw [hji45] at H; exact H) | (simp only [hji45] at H ⊢; exact H)
                       have hji45_ : (if (rd l0 x70_4) < x70_4 then (rd l0 x70_4) else x70_4) = ji45 := hji45
                       by_cases c46 : (ji44) < (ji45)
                       ·
                        rw [if_pos c46] at H
                        have c46b0 : decide ((ji44) < (ji45)) = true := decide_eq_true c46
                        clear c46
                        obtain ⟨ji48, hji48⟩ : ∃ j_ : Int, (mx x63_3 (rd l0 x63_3)) = j_ := ⟨_, rfl⟩
                        replace H : (if (ji45) < (ji48) then (if (ji48) < (mx x70_4 (rd l0 x70_4)) then (some false) else (corporalaw09_DependCrosses.l2 k4 l0 true x63_3 (rd l0 x63_3) l0 (l0.length : Int) x63_3 l0 (l0.length : Int) (wrap64 (x70_4 + 1)))) else (corporalaw09_DependCrosses.l2 k4 l0 true x63_3 (rd l0 x63_3) l0 (l0.length : Int) x63_3 l0 (l0.length : Int) (wrap64 (x70_4 + 1)))) = some r := by first | (rw [hji48] at H; exact H) | (simp only [hji48] at H ⊢; exact H)
                        have hji48_ : (if x63_3 < (rd l0 x63_3) then (rd l0 x63_3) else x63_3) = ji48 := hji48
                        by_cases c49 : (ji45) < (ji48)
                        ·
                         rw [if_pos c49] at H
                         have c49b0 : decide ((ji45) < (ji48)) = true := decide_eq_true c49
                         clear c49
                         obtain ⟨ji51, hji51⟩ : ∃ j_ : Int, (mx x70_4 (rd l0 x70_4)) = j_ := ⟨_, rfl⟩
                         replace H : (if (ji48) < (ji51) then (some false) else (corporalaw09_DependCrosses.l2 k4 l0 true x63_3 (rd l0 x63_3) l0 (l0.length : Int) x63_3 l0 (l0.length : Int) (wrap64 (x70_4 + 1)))) = some r := by first | (rw [hji51] at H; exact H) | (simp only [hji51] at H ⊢; exact H)
                         have hji51_ : (if x70_4 < (rd l0 x70_4) then (rd l0 x70_4) else x70_4) = ji51 := hji51
                         by_cases c52 : (ji48) < (ji51)
                         ·
                          rw [if_pos c52] at H
                          have c52b0 : decide ((ji48) < (ji51)) = true := decide_eq_true c52
                          clear c52
                          obtain rfl := Option.some.inj H
                          have p372 : 0 ≤ (x70_4 : Int) := OD
                          have q372 : x70_4 < (l0.length : Int) := OD
                          obtain ⟨ad372, e372, hx372_0⟩ := Kd.at_int HR0.out x70_4 p372 q372
                          obtain rfl : ad371 = ad372 := (by injection e372)
                          replace hx372_0 := (HB.out.cell (World.block_lt_of_cell? w _ hx372_0)).trans hx372_0
                          replace p372 := eq_true p372
                          replace q372 := eq_true q372
                          go_wp2
                          go_ret
                          exact ⟨by first | rfl | (simp [errW_none, errW_some] <;> rfl) | (simp only [← hji44, ← hji45, ← hji48, ← hji51]; first | rfl | (simp [errW_none, errW_some] <;> rfl)) | (simp [*, errW_none, errW_some] <;> rfl), BB⟩
                         ·
                          rw [if_neg c52] at H
                          have c52b0 : decide ((ji48) < (ji51)) = false := decide_eq_false c52
                          clear c52
                          have H' := Aside0.mk H
                          clear H
                          have p372 : 0 ≤ (x70_4 : Int) := OD
                          have q372 : x70_4 < (l0.length : Int) := OD
                          obtain ⟨ad372, e372, hx372_0⟩ := Kd.at_int HR0.out x70_4 p372 q372
                          obtain rfl : ad371 = ad372 := (by injection e372)
                          replace hx372_0 := (HB.out.cell (World.block_lt_of_cell? w _ hx372_0)).trans hx372_0
                          replace p372 := eq_true p372
                          replace q372 := eq_true q372
                          go_wp2
                          go_roundg k4
                          case measure => have := HJ2.out; have := HK2.out; have := HK3.out; have := HK4.out; omega
                          case rel => exact ⟨(wrap64 (x70_4 + 1)), (BE), H', ⟨by have := HJ2.out; have := HK2.out; have := HK3.out; have := HK4.out; omega⟩, ⟨BB⟩⟩
                        ·
                         rw [if_neg c49] at H
                         have c49b0 : decide ((ji45) < (ji48)) = false := decide_eq_false c49
                         clear c49
                         have H' := Aside0.mk H
                         clear H
                         have p372 : 0 ≤ (x70_4 : Int) := OD
                         have q372 : x70_4 < (l0.length : Int) := OD
                         obtain ⟨ad372, e372, hx372_0⟩ := Kd.at_int HR0.out x70_4 p372 q372
                         obtain rfl : ad371 = ad372 := (by injection e372)
                         replace hx372_0 := (HB.out.cell (World.block_lt_of_cell? w _ hx372_0)).trans hx372_0
                         replace p372 := eq_true p372
                         replace q372 := eq_true q372
                         go_wp2
                         go_roundg k4
                         case measure => have := HJ2.out; have := HK2.out; have := HK3.out; have := HK4.out; omega
                         case rel => exact ⟨(wrap64 (x70_4 + 1)), (BE), H', ⟨by have := HJ2.out; have := HK2.out; have := HK3.out; have := HK4.out; omega⟩, ⟨BB⟩⟩
                       ·
                        rw [if_neg c46] at H
                        have c46b0 : decide ((ji44) < (ji45)) = false := decide_eq_false c46
                        clear c46
                        have H' := Aside0.mk H
                        clear H
                        have p372 : 0 ≤ (x70_4 : Int) := OD
                        have q372 : x70_4 < (l0.length : Int) := OD
                        obtain ⟨ad372, e372, hx372_0⟩ := Kd.at_int HR0.out x70_4 p372 q372
                        obtain rfl : ad371 = ad372 := (by injection e372)
                        replace hx372_0 := (HB.out.cell (World.block_lt_of_cell? w _ hx372_0)).trans hx372_0
                        replace p372 := eq_true p372
                        replace q372 := eq_true q372
                        go_wp2
                        go_roundg k4
                        case measure => have := HJ2.out; have := HK2.out; have := HK3.out; have := HK4.out; omega
                        case rel => exact ⟨(wrap64 (x70_4 + 1)), (BE), H', ⟨by have := HJ2.out; have := HK2.out; have := HK3.out; have := HK4.out; omega⟩, ⟨BB⟩⟩
                      ·
                       rw [if_neg c43] at H
                       have c43b0 : decide (0 ≤ (rd l0 x70_4)) = false := decide_eq_false c43
                       clear c43
                       have H' := Aside0.mk H
                       clear H
                       have p372 : 0 ≤ (x70_4 : Int) := OD
                       have q372 : x70_4 < (l0.length : Int) := OD
                       obtain ⟨ad372, e372, hx372_0⟩ := Kd.at_int HR0.out x70_4 p372 q372
                       obtain rfl : ad371 = ad372 := (by injection e372)
                       replace hx372_0 := (HB.out.cell (World.block_lt_of_cell? w _ hx372_0)).trans hx372_0
                       replace p372 := eq_true p372
                       replace q372 := eq_true q372
                       go_wp2
                       go_roundg k4
                       case measure => have := HJ2.out; have := HK2.out; have := HK3.out; have := HK4.out; omega
                       case rel => exact ⟨(wrap64 (x70_4 + 1)), (BE), H', ⟨by have := HJ2.out; have := HK2.out; have := HK3.out; have := HK4.out; omega⟩, ⟨BB⟩⟩
                     ·
                      rw [if_neg c42] at H
                      have c42b0 : decide (0 ≤ (rd l0 x63_3)) = false := decide_eq_false c42
                      clear c42
                      have H' := Aside0.mk H
                      clear H
                      have p372 : 0 ≤ (x70_4 : Int) := OD
                      have q372 : x70_4 < (l0.length : Int) := OD
                      obtain ⟨ad372, e372, hx372_0⟩ := Kd.at_int HR0.out x70_4 p372 q372
                      obtain rfl : ad371 = ad372 := (by injection e372)
                      replace hx372_0 := (HB.out.cell (World.block_lt_of_cell? w _ hx372_0)).trans hx372_0
                      replace p372 := eq_true p372
                      replace q372 := eq_true q372
                      go_wp2
                      go_roundg k4
                      case measure => have := HJ2.out; have := HK2.out; have := HK3.out; have := HK4.out; omega
                      case rel => exact ⟨(wrap64 (x70_4 + 1)), (BE), H', ⟨by have := HJ2.out; have := HK2.out; have := HK3.out; have := HK4.out; omega⟩, ⟨BB⟩⟩
                    ·
                     replace c41 := Bool.eq_false_iff.mpr c41
                     subst c41
                     have H1 : (corporalaw09_DependCrosses.l2 k4 l0 false x63_3 (rd l0 x63_3) l0 (l0.length : Int) x63_3 l0 (l0.length : Int) (wrap64 (x70_4 + 1))) = some r := by rw [if_neg (show ¬ (false = true) by decide)] at H; exact H
                     clear H
                     have H := H1
                     clear H1
                     have H' := Aside0.mk H
                     clear H
                     have p372 : 0 ≤ (x70_4 : Int) := OD
                     have q372 : x70_4 < (l0.length : Int) := OD
                     obtain ⟨ad372, e372, hx372_0⟩ := Kd.at_int HR0.out x70_4 p372 q372
                     obtain rfl : ad371 = ad372 := (by injection e372)
                     replace hx372_0 := (HB.out.cell (World.block_lt_of_cell? w _ hx372_0)).trans hx372_0
                     replace p372 := eq_true p372
                     replace q372 := eq_true q372
                     go_wp2
                     go_roundg k4
                     case measure => have := HJ2.out; have := HK2.out; have := HK3.out; have := HK4.out; omega
                     case rel => exact ⟨(wrap64 (x70_4 + 1)), (BE), H', ⟨by have := HJ2.out; have := HK2.out; have := HK3.out; have := HK4.out; omega⟩, ⟨BB⟩⟩
                   ·
                    rw [if_neg c40] at H
                    exact absurd H (by simp)
                  ·
                   rw [if_neg c39] at H
                   exact absurd H (by simp)
                 ·
                  rw [if_neg c38] at H
                  have c38b0 : decide (x70_4 < (l0.length : Int)) = false := decide_eq_false c38
                  clear c38
                  have H' := Aside0.mk H
                  clear H
                  go_wp2
                  go_roundg k4
                  case measure => have := HJ2.out; have := HK2.out; have := HK3.out; have := HK4.out; omega
                  case rel => exact ⟨(wrap64 (x63_3 + 1)), (BE), H', ⟨by have := HJ2.out; have := HK2.out; have := HK3.out; have := HK4.out; omega⟩, ⟨BB⟩⟩
              ·
               rw [if_neg c37] at H
               exact absurd H (by simp)
             ·
              rw [if_neg c36] at H
              exact absurd H (by simp)
            ·
             rw [if_neg c35] at H
             have c35b0 : decide (x63_3 < (l0.length : Int)) = false := decide_eq_false c35
             clear c35
             replace H := Option.bind_eq_some_iff.mp H
             obtain ⟨t370, A530, H⟩ := H
             replace H : (some t370) = some r := H
             have A53 := Aside0.mk A530
             clear A530
             obtain rfl := Option.some.inj H
             go_wp2_with (first | ((with_reducible refine gate_callee (f := 13) rfl ?_); refine goesL_ (some 113) rfl rfl Try.func13 (by kernel_rfl) rfl #[] rfl BM ?_; (with_reducible refine (corporalaw09_awake.calls k3  t370 _ A53.out).mono ?_); rintro e w54 ⟨rfl, hb⟩; refine ⟨_, rfl, ?_⟩; have n0_ := Aside0.mk (below_step (BB) hb); clear HB; have HB := n0_; clear n0_; (try clear hb); (try clear hb2); (try clear hk); (try clear hi)))
             go_ret
             exact ⟨BX, BB⟩
     ·
      rw [if_neg c8] at H
      exact absurd H (by simp)
    ·
     rw [if_neg c7] at H
     exact absurd H (by simp)

/-- THE ONE PURE STATEMENT of corporalaw09_DependCrosses: yours. -/
def corporalaw09_DependCrosses.Pure : Prop := ∀ (l0 : List Int), l0.length ≤ maxLen → l0.length * 8 ≤ 140737488351232 → (∀ x ∈ l0, (Lit.int .i64 x).wf = true) → ∃ k, corporalaw09_DependCrosses.f k l0 = some true
theorem corporalaw09_DependCrosses.walk (P : corporalaw09_DependCrosses.Pure) (a0 : Option Addr) (len0 cap0 : Nat) (z0 : List Int) (w : World) (w0 : (a0 = none ∧ len0 = 0 ∧ cap0 = 0 ∧ z0 = []) ∨ ∃ x, a0 = some x ∧ len0 ≤ cap0 ∧ cap0 ≤ maxLen ∧ z0.length = cap0 ∧ (∀ i, i < z0.length → w.cell? (x.add i) = some (.int .i64 (z0.getD i 0))) ∧ ∀ n ∈ z0, (Lit.int .i64 n).wf = true) (y0 : len0 * 8 ≤ 140737488351232) :
 Calls Try.prog 8 #[.slice a0 len0 cap0] w fun e w' => e = .returned (.bool true) ∧ Below w.heap.size w w' := by
 obtain ⟨l0, rfl, hr0, hm0, hw0, hc0⟩ := ReadsInt.ofRowC w0
 obtain ⟨k, h⟩ := P l0 hm0 y0 hw0
 refine (corporalaw09_DependCrosses.calls k _ _ l0 true w (Kd.C_of_reads (d := (0 : Int)) (h1 := fun _ => rfl) hr0) hc0 h).mono ?_
 rintro e w' ⟨rfl, hd⟩
 exact ⟨rfl, hd⟩

end Go.Proofs.Ytkanmafjjejpmaa.P
