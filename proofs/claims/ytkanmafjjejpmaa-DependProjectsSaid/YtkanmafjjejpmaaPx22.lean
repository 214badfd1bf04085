-- Written by a program of this session (wip/doprint.sh) out of the translation; Lean checks it.
import Derived.Test.YtkanmafjjejpmaaPx0
import Derived.Test.YtkanmafjjejpmaaPx17
namespace Go.Proofs.Ytkanmafjjejpmaa.P
open Go.Proofs.Ytkanmafjjejpmaa.S
open Go.Proofs.Ytkanmafjjejpmaa.X
open Go.RowKit Go.Proofs.YtkanmafjjejpmaaW.PrintWords Go.Proofs.YtkanmafjjejpmaaW.PrintLast Go.Proofs.YtkanmafjjejpmaaW.PrintMore
attribute [local go_sem] max2_int min2_int max_two min_two max_three min_three max_four min_four   -- for this text's walks alone
set_option linter.unusedVariables false
set_option linter.unusedSimpArgs false

/-! ### corporaref09_Projective: function 20 -/
mutual
def corporaref09_Projective.l0 : Nat → List Int → List Int → Int → Int → Option (Bool)
  | 0, _, _, _, _ => none
  | k + 1, x0, x12, x13, x14 => if x14 < x13 then (if 0 ≤ x14 then (if x14 < (x12.length : Int) then (if (rd x12 x14) < 0 then (corporaref09_Projective.l0 k x0 x12 x13 (wrap64 (x14 + 1))) else (corporaref09_Projective.l1 k x0 x14 (rd x12 x14) (wrap64 ((mn x14 (rd x12 x14)) + 1)) x12 x13 x14)) else (none)) else (none)) else (some true)
def corporaref09_Projective.l1 : Nat → List Int → Int → Int → Int → List Int → Int → Int → Option (Bool)
  | 0, _, _, _, _, _, _, _ => none
  | k + 1, x0, x3, x4, x5, x12, x13, x14 => if x5 < (mx x3 x4) then ((corporaref09_Way.f k x0 x5).bind fun t349 => (if 1 ≤ (t349.length : Int) then ((some (t349.drop 1 : List Int)).bind fun y352 => (corporaref09_Projective.l2 k x0 x3 x4 x5 false x12 x13 x14 y352 (y352.length : Int) 0)) else (none))) else (corporaref09_Projective.l0 k x0 x12 x13 (wrap64 (x14 + 1)))
def corporaref09_Projective.l2 : Nat → List Int → Int → Int → Int → Bool → List Int → Int → Int → List Int → Int → Int → Option (Bool)
  | 0, _, _, _, _, _, _, _, _, _, _, _ => none
  | k + 1, x0, x3, x4, x5, x6, x12, x13, x14, x35, x36, x37 => if x37 < x36 then (if 0 ≤ x37 then (if x37 < (x35.length : Int) then (if x6 = true then (corporaref09_Projective.l2 k x0 x3 x4 x5 true x12 x13 x14 x35 x36 (wrap64 (x37 + 1))) else (corporaref09_Projective.l2 k x0 x3 x4 x5 ((rd x35 x37) == x4) x12 x13 x14 x35 x36 (wrap64 (x37 + 1)))) else (none)) else (none)) else (if x6 = true then (corporaref09_Projective.l1 k x0 x3 x4 (wrap64 (x5 + 1)) x12 x13 x14) else (some false))
end
def corporaref09_Projective.f (k : Nat) (l0 : List Int) : Option (Bool) := (corporaref09_Valid.f k l0).bind fun t347 => (if t347 = true then (corporaref09_Projective.l0 k l0 l0 (l0.length : Int) 0) else (some false))
theorem corporaref09_Projective.mono_l : ∀ k, (∀ y0 y1 y2 y3, LeO (corporaref09_Projective.l0 k y0 y1 y2 y3) (corporaref09_Projective.l0 (k + 1) y0 y1 y2 y3)) ∧ (∀ y0 y1 y2 y3 y4 y5 y6, LeO (corporaref09_Projective.l1 k y0 y1 y2 y3 y4 y5 y6) (corporaref09_Projective.l1 (k + 1) y0 y1 y2 y3 y4 y5 y6)) ∧ (∀ y0 y1 y2 y3 y4 y5 y6 y7 y8 y9 y10, LeO (corporaref09_Projective.l2 k y0 y1 y2 y3 y4 y5 y6 y7 y8 y9 y10) (corporaref09_Projective.l2 (k + 1) y0 y1 y2 y3 y4 y5 y6 y7 y8 y9 y10))
 | 0 => ⟨fun _ _ _ _ r h => by simp [corporaref09_Projective.l0] at h, fun _ _ _ _ _ _ _ r h => by simp [corporaref09_Projective.l1] at h, fun _ _ _ _ _ _ _ _ _ _ _ r h => by simp [corporaref09_Projective.l2] at h⟩
 | k + 1 => by
  obtain ⟨ih0, ih1, ih2⟩ := corporaref09_Projective.mono_l k
  refine ⟨?_, ?_, ?_⟩
  ·
   intro y0 y1 y2 y3
   unfold corporaref09_Projective.l0
   with_reducible repeat' first | exact ih0 _ _ _ _ | exact ih1 _ _ _ _ _ _ _ | exact ih2 _ _ _ _ _ _ _ _ _ _ _ | exact corporaref09_Valid.mono _ _ | exact corporaref09_Way.mono _ _ _ | exact LeO.refl _ | exact LeO.none _ | refine LeO.ite ?_ ?_ | refine LeO.bind ?_ (fun _ => ?_)
  ·
   intro y0 y1 y2 y3 y4 y5 y6
   unfold corporaref09_Projective.l1
   with_reducible repeat' first | exact ih0 _ _ _ _ | exact ih1 _ _ _ _ _ _ _ | exact ih2 _ _ _ _ _ _ _ _ _ _ _ | exact corporaref09_Valid.mono _ _ | exact corporaref09_Way.mono _ _ _ | exact LeO.refl _ | exact LeO.none _ | refine LeO.ite ?_ ?_ | refine LeO.bind ?_ (fun _ => ?_)
  ·
   intro y0 y1 y2 y3 y4 y5 y6 y7 y8 y9 y10
   unfold corporaref09_Projective.l2
   with_reducible repeat' first | exact ih0 _ _ _ _ | exact ih1 _ _ _ _ _ _ _ | exact ih2 _ _ _ _ _ _ _ _ _ _ _ | exact corporaref09_Valid.mono _ _ | exact corporaref09_Way.mono _ _ _ | exact LeO.refl _ | exact LeO.none _ | refine LeO.ite ?_ ?_ | refine LeO.bind ?_ (fun _ => ?_)
theorem corporaref09_Projective.mono : ∀ a0 k, LeO (corporaref09_Projective.f k a0) (corporaref09_Projective.f (k + 1) a0) := by
 intro a0 k
 obtain ⟨ih0, ih1, ih2⟩ := corporaref09_Projective.mono_l k
 unfold corporaref09_Projective.f
 with_reducible repeat' first | exact ih0 _ _ _ _ | exact ih1 _ _ _ _ _ _ _ | exact ih2 _ _ _ _ _ _ _ _ _ _ _ | exact corporaref09_Valid.mono _ _ | exact corporaref09_Way.mono _ _ _ | exact LeO.refl _ | exact LeO.none _ | refine LeO.ite ?_ ?_ | refine LeO.bind ?_ (fun _ => ?_)
set_option maxHeartbeats 8000000 in
set_option maxRecDepth 100000 in
theorem corporaref09_Projective.calls (k : Nat) (A0 : Option Addr) (c0 : Nat) (l0 : List Int) (r : Bool) (w : World) (hr0 : Kd.C (Kd.int .i64) w A0 l0.length l0) (hc0 : l0.length ≤ c0) (h : corporaref09_Projective.f k l0 = some r) :
 Calls Try.prog 20 #[.slice A0 l0.length c0] w fun e w' => e = .returned (.bool r) ∧ Below w.heap.size w w' := by
 have HR0 := Aside0.mk hr0
 have HC0 := Aside0.mk hc0
 clear hr0 hc0
 have HB := Aside0.mk (Below.refl w.heap.size w)
 have H : ((corporaref09_Valid.f k l0).bind fun t347 => (if t347 = true then (corporaref09_Projective.l0 k l0 l0 (l0.length : Int) 0) else (some false))) = some r := h
 clear h
 replace H := Option.bind_eq_some_iff.mp H
 obtain ⟨t347, A20, H⟩ := H
 replace H : (if t347 = true then (corporaref09_Projective.l0 k l0 l0 (l0.length : Int) 0) else (some false)) = some r := H
 have A2 := Aside0.mk A20
 clear A20
 by_cases c3 : t347 = true
 ·
  subst c3
  have H1 : (corporaref09_Projective.l0 k l0 l0 (l0.length : Int) 0) = some r := by rw [if_pos rfl] at H; exact H
  clear H
  have H := H1
  clear H1
  have H' := Aside0.mk H
  clear H
  go_enter Try.func20, Try.ntmps20
  go_wp2_with (first | ((with_reducible refine gate_callee (f := 28) rfl ?_); refine goesL_ (some 10) rfl rfl Try.func28 (by kernel_rfl) rfl #[.slice A0 l0.length c0] rfl BM ?_; (with_reducible refine (corporaref09_Valid.calls k _ _ l0 true _ ?side1 ?side2 A2.out).mono ?_); (case side1 => exact BK HR0.out); (case side2 => exact HC0.out); rintro e w' ⟨rfl, ⟨nd, rfl⟩⟩; refine ⟨_, rfl, ?_⟩))
  go_loopg [14] k (fun kq v14 w' => ∃ (x14_1 : Int), v14 = .int .i64 x14_1 ∧ Aside0 (corporaref09_Projective.l0 kq l0 l0 (l0.length : Int) x14_1 = some r) ∧ Aside0 (kq ≤ k) ∧ Aside0 (Below w.heap.size w w'))
  case atStart => exact ⟨(0), (BE), H', ⟨Nat.le_refl _⟩, ⟨BB⟩⟩
  case round =>
   clear H'
   (try clear c2); (try clear p2); (try clear c3)
   obtain ⟨x14_1, rfl, HA, HK1, HB⟩ := hrel
   cases gk with
   | zero => exact absurd HA.out (by simp [corporaref09_Projective.l0])
   | succ k1 =>
    have H := HA.out
    clear HA
    simp only [corporaref09_Projective.l0] at H
    by_cases c4 : x14_1 < (l0.length : Int)
    ·
     rw [if_pos c4] at H
     have c4b0 : decide (x14_1 < (l0.length : Int)) = true := decide_eq_true c4
     clear c4
     by_cases c5 : 0 ≤ x14_1
     ·
      rw [if_pos c5] at H
      have c5b0 : decide (0 ≤ x14_1) = true := decide_eq_true c5
      clear c5
      by_cases c6 : x14_1 < (l0.length : Int)
      ·
       rw [if_pos c6] at H
       have c6b0 : decide (x14_1 < (l0.length : Int)) = true := decide_eq_true c6
       clear c6
       by_cases c7 : (rd l0 x14_1) < 0
       ·
        rw [if_pos c7] at H
        have c7b0 : decide ((rd l0 x14_1) < 0) = true := decide_eq_true c7
        clear c7
        have H' := Aside0.mk H
        clear H
        have p348 : 0 ≤ (x14_1 : Int) := OD
        have q348 : x14_1 < (l0.length : Int) := OD
        obtain ⟨ad348, e348, hx348_0⟩ := Kd.at_int HR0.out x14_1 p348 q348
        cases e348
        replace hx348_0 := (HB.out.cell (World.block_lt_of_cell? w _ hx348_0)).trans hx348_0
        replace p348 := eq_true p348
        replace q348 := eq_true q348
        go_wp2
        go_roundg k1
        case measure => have := HK1.out; omega
        case rel => exact ⟨(wrap64 (x14_1 + 1)), (BE), H', ⟨by have := HK1.out; omega⟩, ⟨BB⟩⟩
       ·
        rw [if_neg c7] at H
        have c7b0 : decide ((rd l0 x14_1) < 0) = false := decide_eq_false c7
        clear c7
        obtain ⟨ji8, hji8⟩ : ∃ j_ : Int, (mn x14_1 (rd l0 x14_1)) = j_ := ⟨_, rfl⟩
        replace H : (corporaref09_Projective.l1 k1 l0 x14_1 (rd l0 x14_1) (wrap64 ((ji8) + 1)) l0 (l0.length : Int) x14_1) = some r := by first | (rw [hji8] at H; exact H) | (simp only [hji8] at H ⊢; exact H)
        have hji8_ : (if (rd l0 x14_1) < x14_1 then (rd l0 x14_1) else x14_1) = ji8 := hji8
        have H' := Aside0.mk H
        clear H
        have p348 : 0 ≤ (x14_1 : Int) := OD
        have q348 : x14_1 < (l0.length : Int) := OD
        obtain ⟨ad348, e348, hx348_0⟩ := Kd.at_int HR0.out x14_1 p348 q348
        cases e348
        replace hx348_0 := (HB.out.cell (World.block_lt_of_cell? w _ hx348_0)).trans hx348_0
        replace p348 := eq_true p348
        replace q348 := eq_true q348
        go_wp2
        go_loopg [5] k1 (fun kq v5 w' => ∃ (x5_2 : Int), v5 = .int .i64 x5_2 ∧ Aside0 (corporaref09_Projective.l1 kq l0 x14_1 (rd l0 x14_1) x5_2 l0 (l0.length : Int) x14_1 = some r) ∧ Aside0 (kq ≤ k1) ∧ Aside0 (Below w.heap.size w w'))
        case atStart => exact ⟨(wrap64 ((ji8) + 1)), (by first | rfl | (simp; done) | (simp only [← hji8] <;> (first | rfl | simp)) | (simp [*]; done)), H', ⟨Nat.le_refl _⟩, ⟨BB⟩⟩
        case round =>
         clear H'
         (try clear c2); (try clear p2); (try clear c3); (try clear p3); (try clear q3); (try clear hx3); (try clear c4); (try clear c4b0); (try clear c5); (try clear c5b0); (try clear c6); (try clear c6b0); (try clear p6)
         (try clear c7); (try clear c7b0); (try clear hx348_0); (try clear p2); (try clear p348); (try clear q348)
         obtain ⟨x5_2, rfl, HA, HK2, HB⟩ := hrel
         cases gk with
         | zero => exact absurd HA.out (by simp [corporaref09_Projective.l1])
         | succ k2 =>
          have H := HA.out
          clear HA
          simp only [corporaref09_Projective.l1] at H
          obtain ⟨ji9, hji9⟩ : ∃ j_ : Int, (mx x14_1 (rd l0 x14_1)) = j_ := ⟨_, rfl⟩
          replace H : (if x5_2 < (ji9) then ((corporaref09_Way.f k2 l0 x5_2).bind fun t349 => (if 1 ≤ (t349.length : Int) then ((some (t349.drop 1 : List Int)).bind fun y352 => (corporaref09_Projective.l2 k2 l0 x14_1 (rd l0 x14_1) x5_2 false l0 (l0.length : Int) x14_1 y352 (y352.length : Int) 0)) else (none))) else (corporaref09_Projective.l0 k2 l0 l0 (l0.length : Int) (wrap64 (x14_1 + 1)))) = some r := by first | (rw [hji9] at H; exact H) | (simp only [hji9] at H ⊢; exact H)
          have hji9_ : (if x14_1 < (rd l0 x14_1) then (rd l0 x14_1) else x14_1) = ji9 := hji9
          by_cases c10 : x5_2 < (ji9)
          ·
           rw [if_pos c10] at H
           have c10b0 : decide (x5_2 < (ji9)) = true := decide_eq_true c10
           clear c10
           replace H := Option.bind_eq_some_iff.mp H
           obtain ⟨t349, A110, H⟩ := H
           replace H : (if 1 ≤ (t349.length : Int) then ((some (t349.drop 1 : List Int)).bind fun y352 => (corporaref09_Projective.l2 k2 l0 x14_1 (rd l0 x14_1) x5_2 false l0 (l0.length : Int) x14_1 y352 (y352.length : Int) 0)) else (none)) = some r := H
           have A11 := Aside0.mk A110
           clear A110
           by_cases c12 : 1 ≤ (t349.length : Int)
           ·
            rw [if_pos c12] at H
            have c12b0 := eq_true c12
            have c12b1 : decide (1 ≤ (t349.length : Int)) = true := decide_eq_true c12
            clear c12
            obtain ⟨y352, hy352⟩ : ∃ y_ : List Int, y_ = (t349.drop 1) := ⟨_, rfl⟩
            replace H : (corporaref09_Projective.l2 k2 l0 x14_1 (rd l0 x14_1) x5_2 false l0 (l0.length : Int) x14_1 y352 (y352.length : Int) 0) = some r := by first | (rw [hy352]; with_reducible exact H) | (have H2_ := (Option.bind_some _ _).symm.trans H; rw [hy352]; with_reducible exact H2_) | (have H2_ := (Option.bind_some _ _).symm.trans H; with_reducible exact H2_) | with_reducible exact H | (rw [hy352]; exact H) | exact H
            have Ny352 := Aside0.mk hy352
            clear hy352
            have H' := Aside0.mk H
            clear H
            go_wp2_with (first | ((with_reducible refine gate_callee (f := 29) rfl ?_); refine goesL_ (some 34) rfl rfl Try.func29 (by kernel_rfl) rfl #[.slice (some ad348) l0.length c0, .int .i64 x5_2] rfl BM ?_; (with_reducible refine (corporaref09_Way.calls k2 _ _ l0 x5_2 t349 _ ?side1 ?side2 A11.out).mono ?_); (case side1 => exact BC HR0.out); (case side2 => exact HC0.out); rintro e w13 ⟨v350, rfl, ho0, hb⟩; refine ⟨_, rfl, ?_⟩; have n0_ := Aside0.mk (Kd.R_lower ho0 (below_size (BB))); have n1_ := Aside0.mk (below_step (BB) hb); clear HB; have HO351 := n0_; have HB := n1_; clear n0_ n1_; (try clear hb); (try clear hb2); (try clear hk); (try clear hi); (try clear ho0); obtain ⟨Ao15, co15, eo15⟩ := Kd.R_slice HO351.out; subst eo15; have q14 : (1 : Int) ≤ ((t349.length : Int) : Int) := OD; obtain ⟨i014, hi014, _, hsz14, _⟩ := info_parts info3; have hroom14 : t349.length ≤ co15 := (Kd.R_reads' HO351.out).2.1; have hC14 : Kd.C (Kd.int .i64) _ Ao15 t349.length t349 := (Kd.R_reads' HO351.out).2.2; have hcut14 := cut_from (P := Try.prog) 22 3 .i64 Try.underlying22 hi014 1 hsz14 Ao15 t349.length co15 1 (by omega) q14; have hr14 := Kd.C_drop (m := (1 : Int).toNat) (c := co15) hC14 (by omega) hroom14; obtain ⟨A14, hA14⟩ : ∃ A1, A1 = (if co15 = (1 : Int).toNat then Ao15 else (Ao15 : Option Addr).map (·.add ((1 : Int).toNat * 1))) := ⟨_, rfl⟩; obtain ⟨c14, hc14⟩ : ∃ c1, c1 = co15 - (1 : Int).toNat := ⟨_, rfl⟩; have hy14 : y352.length = t349.length - (1 : Int).toNat := (by rw [Ny352.out, List.length_drop] <;> omega); rw [show (t349).drop (1 : Int).toNat = y352 from Ny352.out.symm] at hr14; replace hr14 : Kd.C (Kd.int .i64) _ A14 y352.length y352 := (by rw [hA14]; exact hr14); rw [← hy14, ← hA14, ← hc14] at hcut14; have HR355 := Aside0.mk hr14; have HC355 := Aside0.mk (show y352.length ≤ c14 from by rw [hy14, hc14]; exact Nat.sub_le_sub_right hroom14 _); clear hr14 hC14 hroom14 hi014 hsz14 hc14; have KY14 := Aside0.mk hy14; have KA14 := Aside0.mk hA14; clear hy14 hA14; have KL14 := Aside0.mk (show 1 ≤ t349.length from by omega); replace q14 := eq_true q14))
            go_loopg [6, 37] k2 (fun kq v6 v37 w' => ∃ (x6_3 : Bool) (x37_3 : Int), v6 = .bool x6_3 ∧ v37 = .int .i64 x37_3 ∧ Aside0 (corporaref09_Projective.l2 kq l0 x14_1 (rd l0 x14_1) x5_2 x6_3 l0 (l0.length : Int) x14_1 y352 (y352.length : Int) x37_3 = some r) ∧ Aside0 (kq ≤ k2) ∧ Aside0 (Kd.C (Kd.int .i64) w' A14 y352.length y352) ∧ Aside0 (Below w.heap.size w w'))
            case atStart => exact ⟨(false), (0), (BE), (BE), H', ⟨Nat.le_refl _⟩, ⟨by repeat (first | (with_reducible exact HR355.out) | (with_reducible refine Kd.C_alloc ?_ _) | (with_reducible refine Kd.C_drewN ?_ _) | (with_reducible refine Kd.C_drew ?_) | exact HR355.out)⟩, ⟨BB⟩⟩
            case round =>
             clear H'
             (try clear c1); (try clear q1); (try clear c2); (try clear p2); (try clear c3); (try clear p3); (try clear q3); (try clear hx3); (try clear c4); (try clear c4b0); (try clear c5); (try clear c5b0)
             (try clear c6); (try clear c6b0); (try clear p6); (try clear c7); (try clear c7b0); (try clear c10); (try clear c10b0); (try clear c12); (try clear c12b0); (try clear c12b1); (try clear c14); (try clear q14)
             (try clear hx348_0); (try clear p2); (try clear p3); (try clear p348); (try clear p6); (try clear q14); (try clear q3); (try clear q348)
             obtain ⟨x6_3, x37_3, rfl, rfl, HA, HK3, HR355, HB⟩ := hrel
             cases gk with
             | zero => exact absurd HA.out (by simp [corporaref09_Projective.l2])
             | succ k3 =>
              have H := HA.out
              clear HA
              simp only [corporaref09_Projective.l2] at H
              by_cases c16 : x37_3 < (y352.length : Int)
              ·
               rw [if_pos c16] at H
               have c16b0 : decide (x37_3 < (y352.length : Int)) = true := decide_eq_true c16
               clear c16
               by_cases c17 : 0 ≤ x37_3
               ·
                rw [if_pos c17] at H
                have c17b0 : decide (0 ≤ x37_3) = true := decide_eq_true c17
                clear c17
                by_cases c18 : x37_3 < (y352.length : Int)
                ·
                 rw [if_pos c18] at H
                 have c18b0 : decide (x37_3 < (y352.length : Int)) = true := decide_eq_true c18
                 clear c18
                 by_cases c19 : x6_3 = true
                 ·
                  subst c19
                  have H1 : (corporaref09_Projective.l2 k3 l0 x14_1 (rd l0 x14_1) x5_2 true l0 (l0.length : Int) x14_1 y352 (y352.length : Int) (wrap64 (x37_3 + 1))) = some r := by rw [if_pos rfl] at H; exact H
                  clear H
                  have H := H1
                  clear H1
                  have H' := Aside0.mk H
                  clear H
                  have p356 : 0 ≤ (x37_3 : Int) := OD
                  have q356 : x37_3 < (y352.length : Int) := OD
                  obtain ⟨ad356, e356, hx356_0⟩ := Kd.at_int (by repeat (first | (with_reducible exact HR355.out) | (with_reducible refine Kd.C_alloc ?_ _) | (with_reducible refine Kd.C_drewN ?_ _) | (with_reducible refine Kd.C_drew ?_) | exact HR355.out)) x37_3 p356 q356
                  cases e356
                  replace p356 := eq_true p356
                  replace q356 := eq_true q356
                  go_wp2
                  go_roundg k3
                  case measure => have := HK1.out; have := HK2.out; have := HK3.out; omega
                  case rel => exact ⟨(true), (wrap64 (x37_3 + 1)), (BE), (BE), H', ⟨by have := HK1.out; have := HK2.out; have := HK3.out; omega⟩, ⟨by repeat (first | (with_reducible exact HR355.out) | (with_reducible refine Kd.C_alloc ?_ _) | (with_reducible refine Kd.C_drewN ?_ _) | (with_reducible refine Kd.C_drew ?_) | exact HR355.out)⟩, ⟨BB⟩⟩
                 ·
                  replace c19 := Bool.eq_false_iff.mpr c19
                  subst c19
                  have H1 : (corporaref09_Projective.l2 k3 l0 x14_1 (rd l0 x14_1) x5_2 ((rd y352 x37_3) == (rd l0 x14_1)) l0 (l0.length : Int) x14_1 y352 (y352.length : Int) (wrap64 (x37_3 + 1))) = some r := by rw [if_neg (show ¬ (false = true) by decide)] at H; exact H
                  clear H
                  have H := H1
                  clear H1
                  have H' := Aside0.mk H
                  clear H
                  have p356 : 0 ≤ (x37_3 : Int) := OD
                  have q356 : x37_3 < (y352.length : Int) := OD
                  obtain ⟨ad356, e356, hx356_0⟩ := Kd.at_int (by repeat (first | (with_reducible exact HR355.out) | (with_reducible refine Kd.C_alloc ?_ _) | (with_reducible refine Kd.C_drewN ?_ _) | (with_reducible refine Kd.C_drew ?_) | exact HR355.out)) x37_3 p356 q356
                  cases e356
                  replace p356 := eq_true p356
                  replace q356 := eq_true q356
                  go_wp2
                  go_roundg k3
                  case measure => have := HK1.out; have := HK2.out; have := HK3.out; omega
                  case rel => exact ⟨(((rd y352 x37_3) == (rd l0 x14_1))), (wrap64 (x37_3 + 1)), (BE), (BE), H', ⟨by have := HK1.out; have := HK2.out; have := HK3.out; omega⟩, ⟨by repeat (first | (with_reducible exact HR355.out) | (with_reducible refine Kd.C_alloc ?_ _) | (with_reducible refine Kd.C_drewN ?_ _) | (with_reducible refine Kd.C_drew ?_) | exact HR355.out)⟩, ⟨BB⟩⟩
                ·
                 rw [if_neg c18] at H
                 exact absurd H (by simp)
               ·
                rw [if_neg c17] at H
                exact absurd H (by simp)
              ·
               rw [if_neg c16] at H
               have c16b0 : decide (x37_3 < (y352.length : Int)) = false := decide_eq_false c16
               clear c16
               by_cases c20 : x6_3 = true
               ·
                subst c20
                have H1 : (corporaref09_Projective.l1 k3 l0 x14_1 (rd l0 x14_1) (wrap64 (x5_2 + 1)) l0 (l0.length : Int) x14_1) = some r := by rw [if_pos rfl] at H; exact H
                clear H
                have H := H1
                clear H1
                have H' := Aside0.mk H
                clear H
                go_wp2
                go_roundg k3
                case measure => have := HK1.out; have := HK2.out; have := HK3.out; omega
                case rel => exact ⟨(wrap64 (x5_2 + 1)), (BE), H', ⟨by have := HK1.out; have := HK2.out; have := HK3.out; omega⟩, ⟨BB⟩⟩
               ·
                replace c20 := Bool.eq_false_iff.mpr c20
                subst c20
                have H1 : (some false) = some r := by rw [if_neg (show ¬ (false = true) by decide)] at H; exact H
                clear H
                have H := H1
                clear H1
                obtain rfl := Option.some.inj H
                go_wp2
                go_ret
                exact ⟨by first | rfl | (simp [errW_none, errW_some] <;> rfl) | (simp only [← hji8, ← hji9]; first | rfl | (simp [errW_none, errW_some] <;> rfl)) | (simp [*, errW_none, errW_some] <;> rfl), BB⟩
           ·
            rw [if_neg c12] at H
            exact absurd H (by simp)
          ·
           rw [if_neg c10] at H
           have c10b0 : decide (x5_2 < (ji9)) = false := decide_eq_false c10
           clear c10
           have H' := Aside0.mk H
           clear H
           go_wp2
           go_roundg k2
           case measure => have := HK1.out; have := HK2.out; omega
           case rel => exact ⟨(wrap64 (x14_1 + 1)), (BE), H', ⟨by have := HK1.out; have := HK2.out; omega⟩, ⟨BB⟩⟩
      ·
       rw [if_neg c6] at H
       exact absurd H (by simp)
     ·
      rw [if_neg c5] at H
      exact absurd H (by simp)
    ·
     rw [if_neg c4] at H
     have c4b0 : decide (x14_1 < (l0.length : Int)) = false := decide_eq_false c4
     clear c4
     obtain rfl := Option.some.inj H
     go_wp2
     go_ret
     exact ⟨BX, BB⟩
 ·
  replace c3 := Bool.eq_false_iff.mpr c3
  subst c3
  have H1 : (some false) = some r := by rw [if_neg (show ¬ (false = true) by decide)] at H; exact H
  clear H
  have H := H1
  clear H1
  obtain rfl := Option.some.inj H
  go_enter Try.func20, Try.ntmps20
  go_wp2_with (first | ((with_reducible refine gate_callee (f := 28) rfl ?_); refine goesL_ (some 10) rfl rfl Try.func28 (by kernel_rfl) rfl #[.slice A0 l0.length c0] rfl BM ?_; (with_reducible refine (corporaref09_Valid.calls k _ _ l0 false _ ?side1 ?side2 A2.out).mono ?_); (case side1 => exact BK HR0.out); (case side2 => exact HC0.out); rintro e w' ⟨rfl, ⟨nd, rfl⟩⟩; refine ⟨_, rfl, ?_⟩))
  go_ret
  exact ⟨BX, BB⟩

end Go.Proofs.Ytkanmafjjejpmaa.P
