-- Written by a program of this session (wip/doprint.sh) out of the translation; Lean checks it.
import Derived.Test.YtkanmafjjejpmaaDoorPx0
import Derived.Test.YtkanmafjjejpmaaDoorPx2
import Derived.Test.YtkanmafjjejpmaaDoorPx22
namespace Go.Proofs.YtkanmafjjejpmaaDoor.P
open Go.Proofs.YtkanmafjjejpmaaDoor.S
open Go.Proofs.YtkanmafjjejpmaaDoor.X
open Go.RowKit Go.Proofs.YtkanmafjjejpmaaDoorW.PrintWords Go.Proofs.YtkanmafjjejpmaaDoorW.PrintLast Go.Proofs.YtkanmafjjejpmaaDoorW.PrintMore
attribute [local go_sem] max2_int min2_int max_two min_two max_three min_three max_four min_four   -- for this text's walks alone
set_option linter.unusedVariables false
set_option linter.unusedSimpArgs false

/-! ### depend_Projective: function 21 -/
mutual
def depend_Projective.l0 : Nat → List Int → List Int → List Int → Int → Int → Option (Bool)
  | 0, _, _, _, _, _ => none
  | k + 1, x5, x6, x22, x23, x24 => if x24 < x23 then (if 0 ≤ x24 then (if x24 < (x22.length : Int) then (if (rd x22 x24) < 0 then (depend_Projective.l0 k x5 x6 x22 x23 (wrap64 (x24 + 1))) else (depend_Projective.l1 k x5 x6 x24 (rd x22 x24) (wrap64 ((mn x24 (rd x22 x24)) + 1)) x22 x23 x24)) else (none)) else (none)) else (some true)
def depend_Projective.l1 : Nat → List Int → List Int → Int → Int → Int → List Int → Int → Int → Option (Bool)
  | 0, _, _, _, _, _, _, _, _ => none
  | k + 1, x5, x6, x7, x8, x9, x22, x23, x24 => if x9 < (mx x7 x8) then (if 0 ≤ x9 then (if x9 < (x5.length : Int) then (if 0 ≤ x8 then (if x8 < (x5.length : Int) then (if (rd x5 x9) ≤ (rd x5 x8) then (some false) else (if x8 < (x6.length : Int) then (if (rd x5 x9) > (rd x6 x8) then (some false) else (depend_Projective.l1 k x5 x6 x7 x8 (wrap64 (x9 + 1)) x22 x23 x24)) else (none))) else (none)) else (none)) else (none)) else (none)) else (depend_Projective.l0 k x5 x6 x22 x23 (wrap64 (x24 + 1)))
end
def depend_Projective.f (k : Nat) (l0 : List Int) : Option (Bool) := (depend_Check.f k l0).bind fun bt294 => (if bt294.2 = 0 then ((depend_numbers.f k l0).bind fun bt296 => (depend_Projective.l0 k bt296.1 bt296.2 l0 (l0.length : Int) 0)) else (some false))
theorem depend_Projective.mono_l : ∀ k, (∀ y0 y1 y2 y3 y4, LeO (depend_Projective.l0 k y0 y1 y2 y3 y4) (depend_Projective.l0 (k + 1) y0 y1 y2 y3 y4)) ∧ (∀ y0 y1 y2 y3 y4 y5 y6 y7, LeO (depend_Projective.l1 k y0 y1 y2 y3 y4 y5 y6 y7) (depend_Projective.l1 (k + 1) y0 y1 y2 y3 y4 y5 y6 y7))
 | 0 => ⟨fun _ _ _ _ _ r h => by simp [depend_Projective.l0] at h, fun _ _ _ _ _ _ _ _ r h => by simp [depend_Projective.l1] at h⟩
 | k + 1 => by
  obtain ⟨ih0, ih1⟩ := depend_Projective.mono_l k
  refine ⟨?_, ?_⟩
  ·
   intro y0 y1 y2 y3 y4
   unfold depend_Projective.l0
   with_reducible repeat' first | exact ih0 _ _ _ _ _ | exact ih1 _ _ _ _ _ _ _ _ | exact depend_Check.mono _ _ | exact depend_numbers.mono _ _ | exact LeO.refl _ | exact LeO.none _ | refine LeO.ite ?_ ?_ | refine LeO.bind ?_ (fun _ => ?_)
  ·
   intro y0 y1 y2 y3 y4 y5 y6 y7
   unfold depend_Projective.l1
   with_reducible repeat' first | exact ih0 _ _ _ _ _ | exact ih1 _ _ _ _ _ _ _ _ | exact depend_Check.mono _ _ | exact depend_numbers.mono _ _ | exact LeO.refl _ | exact LeO.none _ | refine LeO.ite ?_ ?_ | refine LeO.bind ?_ (fun _ => ?_)
theorem depend_Projective.mono : ∀ a0 k, LeO (depend_Projective.f k a0) (depend_Projective.f (k + 1) a0) := by
 intro a0 k
 obtain ⟨ih0, ih1⟩ := depend_Projective.mono_l k
 unfold depend_Projective.f
 with_reducible repeat' first | exact ih0 _ _ _ _ _ | exact ih1 _ _ _ _ _ _ _ _ | exact depend_Check.mono _ _ | exact depend_numbers.mono _ _ | exact LeO.refl _ | exact LeO.none _ | refine LeO.ite ?_ ?_ | refine LeO.bind ?_ (fun _ => ?_)
set_option maxHeartbeats 8000000 in
set_option maxRecDepth 100000 in
theorem depend_Projective.calls (k : Nat) (A0 : Option Addr) (c0 : Nat) (l0 : List Int) (r : Bool) (w : World) (hr0 : Kd.C (Kd.int .i64) w A0 l0.length l0) (hc0 : l0.length ≤ c0) (h : depend_Projective.f k l0 = some r) :
 Calls Tryd.prog 21 #[.slice A0 l0.length c0] w fun e w' => e = .returned (.bool r) ∧ Below w.heap.size w w' := by
 have HR0 := Aside0.mk hr0
 have HC0 := Aside0.mk hc0
 clear hr0 hc0
 have HB := Aside0.mk (Below.refl w.heap.size w)
 have H : ((depend_Check.f k l0).bind fun bt294 => (if bt294.2 = 0 then ((depend_numbers.f k l0).bind fun bt296 => (depend_Projective.l0 k bt296.1 bt296.2 l0 (l0.length : Int) 0)) else (some false))) = some r := h
 clear h
 replace H := Option.bind_eq_some_iff.mp H
 obtain ⟨⟨t294, t295⟩, A20, H⟩ := H
 replace H : (if t295 = 0 then ((depend_numbers.f k l0).bind fun bt296 => (depend_Projective.l0 k bt296.1 bt296.2 l0 (l0.length : Int) 0)) else (some false)) = some r := H
 have A2 := Aside0.mk A20
 clear A20
 by_cases c3 : t295 = 0
 ·
  rw [if_pos c3] at H
  have c3b0 : (t295 == 0) = true := beq_iff_eq.mpr c3
  have c3b1 : (t295 != 0) = false := bne_eq_false_iff_eq.mpr c3
  clear c3
  replace H := Option.bind_eq_some_iff.mp H
  obtain ⟨⟨t296, t297⟩, A40, H⟩ := H
  replace H : (depend_Projective.l0 k t296 t297 l0 (l0.length : Int) 0) = some r := H
  have A4 := Aside0.mk A40
  clear A40
  have H' := Aside0.mk H
  clear H
  go_enter Tryd.func21, Tryd.ntmps21
  go_wp2_with (first | (go_at_call 13; (with_reducible refine (depend_Check.calls k _ _ l0 t294 t295 _ ?side1 ?side2 A2.out).mono ?_); (case side1 => exact BK HR0.out); (case side2 => exact HC0.out); rintro e w5 ⟨rfl, hb⟩; have n0_ := Aside0.mk (below_step (BB) hb); clear HB; have HB := n0_; clear n0_; (try clear hb); (try clear hb2); (try clear hk); (try clear hi)) | (go_at_call 39; (with_reducible refine (depend_numbers.calls k _ _ l0 t296 t297 _ ?side1 ?side2 A4.out).mono ?_); (case side1 => exact BC HR0.out); (case side2 => exact HC0.out); rintro e w6 ⟨v298, v300, rfl, ho0, ho1, hb⟩; have n0_ := Aside0.mk (Kd.R_lower ho0 (below_size (BB))); have n1_ := Aside0.mk (Kd.R_lower ho1 (below_size (BB))); have n2_ := Aside0.mk (below_step (BB) hb); clear HB; have HO299 := n0_; have HO301 := n1_; have HB := n2_; clear n0_ n1_ n2_; (try clear hb); (try clear hb2); (try clear hk); (try clear hi); (try clear ho0); (try clear ho1)))
  repeat (go_quiet (first | (go_at_call 13; (try simp only [i64_w, i32_w]); (with_reducible refine (depend_Check.calls k _ _ l0 t294 t295 _ ?side1 ?side2 A2.out).mono ?_); (case side1 => exact BK HR0.out); (case side2 => exact HC0.out); rintro e w5 ⟨rfl, hb⟩; have n0_ := Aside0.mk (below_step (BB) hb); clear HB; have HB := n0_; clear n0_; (try clear hb); (try clear hb2); (try clear hk); (try clear hi)) | (go_at_call 39; (with_reducible refine (depend_numbers.calls k _ _ l0 t296 t297 _ ?side1 ?side2 A4.out).mono ?_); (case side1 => exact BC HR0.out); (case side2 => exact HC0.out); rintro e w6 ⟨v298, v300, rfl, ho0, ho1, hb⟩; have n0_ := Aside0.mk (Kd.R_lower ho0 (below_size (BB))); have n1_ := Aside0.mk (Kd.R_lower ho1 (below_size (BB))); have n2_ := Aside0.mk (below_step (BB) hb); clear HB; have HO299 := n0_; have HO301 := n1_; have HB := n2_; clear n0_ n1_ n2_; (try clear hb); (try clear hb2); (try clear hk); (try clear hi); (try clear ho0); (try clear ho1))); try go_wp2_with (first | (go_at_call 13; (with_reducible refine (depend_Check.calls k _ _ l0 t294 t295 _ ?side1 ?side2 A2.out).mono ?_); (case side1 => exact BK HR0.out); (case side2 => exact HC0.out); rintro e w5 ⟨rfl, hb⟩; have n0_ := Aside0.mk (below_step (BB) hb); clear HB; have HB := n0_; clear n0_; (try clear hb); (try clear hb2); (try clear hk); (try clear hi)) | (go_at_call 39; (with_reducible refine (depend_numbers.calls k _ _ l0 t296 t297 _ ?side1 ?side2 A4.out).mono ?_); (case side1 => exact BC HR0.out); (case side2 => exact HC0.out); rintro e w6 ⟨v298, v300, rfl, ho0, ho1, hb⟩; have n0_ := Aside0.mk (Kd.R_lower ho0 (below_size (BB))); have n1_ := Aside0.mk (Kd.R_lower ho1 (below_size (BB))); have n2_ := Aside0.mk (below_step (BB) hb); clear HB; have HO299 := n0_; have HO301 := n1_; have HB := n2_; clear n0_ n1_ n2_; (try clear hb); (try clear hb2); (try clear hk); (try clear hi); (try clear ho0); (try clear ho1))))
  go_loopg [24] k (fun kq v24 w' => ∃ (x24_1 : Int), v24 = .int .i64 x24_1 ∧ Aside0 (depend_Projective.l0 kq t296 t297 l0 (l0.length : Int) x24_1 = some r) ∧ Aside0 (kq ≤ k) ∧ Aside0 (Kd.R (Kd.int .i64) 3 w' w.heap.size (fun k_ => some k_ ≠ (v300 : Value).ownBlock) v298 t296) ∧ Aside0 (Kd.R (Kd.int .i64) 3 w' w.heap.size (fun k_ => some k_ ≠ (v298 : Value).ownBlock) v300 t297) ∧ Aside0 (Below w.heap.size w w'))
  case atStart => exact ⟨(0), (BE), H', ⟨Nat.le_refl _⟩, ⟨BR HO299.out⟩, ⟨BR HO301.out⟩, ⟨BB⟩⟩
  case round =>
   clear H'
   (try clear c2); (try clear p2); (try clear c3); (try clear c3b0); (try clear c3b1)
   obtain ⟨x24_1, rfl, HA, HK1, HO_5, HO_6, HB⟩ := hrel
   cases gk with
   | zero => exact absurd HA.out (by simp [depend_Projective.l0])
   | succ k1 =>
    have H := HA.out
    clear HA
    simp only [depend_Projective.l0] at H
    by_cases c7 : x24_1 < (l0.length : Int)
    ·
     rw [if_pos c7] at H
     have c7b0 : decide (x24_1 < (l0.length : Int)) = true := decide_eq_true c7
     clear c7
     by_cases c8 : 0 ≤ x24_1
     ·
      rw [if_pos c8] at H
      have c8b0 : decide (0 ≤ x24_1) = true := decide_eq_true c8
      clear c8
      by_cases c9 : x24_1 < (l0.length : Int)
      ·
       rw [if_pos c9] at H
       have c9b0 : decide (x24_1 < (l0.length : Int)) = true := decide_eq_true c9
       clear c9
       by_cases c10 : (rd l0 x24_1) < 0
       ·
        rw [if_pos c10] at H
        have c10b0 : decide ((rd l0 x24_1) < 0) = true := decide_eq_true c10
        clear c10
        have H' := Aside0.mk H
        clear H
        have p302 : 0 ≤ (x24_1 : Int) := OD
        have q302 : x24_1 < (l0.length : Int) := OD
        obtain ⟨ad302, e302, hx302_0⟩ := Kd.at_int HR0.out x24_1 p302 q302
        cases e302
        replace hx302_0 := (HB.out.cell (World.block_lt_of_cell? w _ hx302_0)).trans hx302_0
        replace p302 := eq_true p302
        replace q302 := eq_true q302
        go_wp2
        repeat (go_quiet (fail); try go_wp2)
        go_roundg k1
        case measure => have := HK1.out; omega
        case rel => exact ⟨(wrap64 (x24_1 + 1)), (BE), H', ⟨by have := HK1.out; omega⟩, ⟨BR HO_5.out⟩, ⟨BR HO_6.out⟩, ⟨BB⟩⟩
       ·
        rw [if_neg c10] at H
        have c10b0 : decide ((rd l0 x24_1) < 0) = false := decide_eq_false c10
        clear c10
        obtain ⟨ji11, hji11⟩ : ∃ j_ : Int, (mn x24_1 (rd l0 x24_1)) = j_ := ⟨_, rfl⟩
        replace H : (depend_Projective.l1 k1 t296 t297 x24_1 (rd l0 x24_1) (wrap64 ((ji11) + 1)) l0 (l0.length : Int) x24_1) = some r := by first | (rw [hji11] at H; exact H) | (simp only [hji11] at H ⊢; exact H)
        have hji11_ : (if (rd l0 x24_1) < x24_1 then (rd l0 x24_1) else x24_1) = ji11 := hji11
        have H' := Aside0.mk H
        clear H
        have p302 : 0 ≤ (x24_1 : Int) := OD
        have q302 : x24_1 < (l0.length : Int) := OD
        obtain ⟨ad302, e302, hx302_0⟩ := Kd.at_int HR0.out x24_1 p302 q302
        cases e302
        replace hx302_0 := (HB.out.cell (World.block_lt_of_cell? w _ hx302_0)).trans hx302_0
        replace p302 := eq_true p302
        replace q302 := eq_true q302
        go_wp2
        repeat (go_quiet (fail); try go_wp2)
        go_loopg [9] k1 (fun kq v9 w' => ∃ (x9_2 : Int), v9 = .int .i64 x9_2 ∧ Aside0 (depend_Projective.l1 kq t296 t297 x24_1 (rd l0 x24_1) x9_2 l0 (l0.length : Int) x24_1 = some r) ∧ Aside0 (kq ≤ k1) ∧ Aside0 (Kd.R (Kd.int .i64) 3 w' w.heap.size (fun k_ => some k_ ≠ (v300 : Value).ownBlock) v298 t296) ∧ Aside0 (Kd.R (Kd.int .i64) 3 w' w.heap.size (fun k_ => some k_ ≠ (v298 : Value).ownBlock) v300 t297) ∧ Aside0 (Below w.heap.size w w'))
        case atStart => exact ⟨(wrap64 ((ji11) + 1)), (by first | rfl | (simp; done) | (simp only [← hji11] <;> (first | rfl | simp)) | (simp [*]; done)), H', ⟨Nat.le_refl _⟩, ⟨BR HO_5.out⟩, ⟨BR HO_6.out⟩, ⟨BB⟩⟩
        case round =>
         clear H'
         (try clear c1); (try clear c2); (try clear p2); (try clear c3); (try clear c3b0); (try clear c3b1); (try clear p3); (try clear q3); (try clear hx3); (try clear p6); (try clear c7); (try clear c7b0); (try clear c8)
         (try clear c8b0); (try clear c9); (try clear c9b0); (try clear c10); (try clear c10b0); (try clear hx302_0); (try clear p2); (try clear p302); (try clear q302)
         obtain ⟨x9_2, rfl, HA, HK2, HO_5, HO_6, HB⟩ := hrel
         cases gk with
         | zero => exact absurd HA.out (by simp [depend_Projective.l1])
         | succ k2 =>
          have H := HA.out
          clear HA
          simp only [depend_Projective.l1] at H
          obtain ⟨ji12, hji12⟩ : ∃ j_ : Int, (mx x24_1 (rd l0 x24_1)) = j_ := ⟨_, rfl⟩
          replace H : (if x9_2 < (ji12) then (if 0 ≤ x9_2 then (if x9_2 < (t296.length : Int) then (if 0 ≤ (rd l0 x24_1) then (if (rd l0 x24_1) < (t296.length : Int) then (if (rd t296 x9_2) ≤ (rd t296 (rd l0 x24_1)) then (some false) else (if (rd l0 x24_1) < (t297.length : Int) then (if (rd t296 x9_2) > (rd t297 (rd l0 x24_1)) then (some false) else (depend_Projective.l1 k2 t296 t297 x24_1 (rd l0 x24_1) (wrap64 (x9_2 + 1)) l0 (l0.length : Int) x24_1)) else (none))) else (none)) else (none)) else (none)) else (none)) else (depend_Projective.l0 k2 t296 t297 l0 (l0.length : Int) (wrap64 (x24_1 + 1)))) = some r := by first | (rw [hji12] at H; exact H) | (simp only [hji12] at H ⊢; exact H)
          have hji12_ : (if x24_1 < (rd l0 x24_1) then (rd l0 x24_1) else x24_1) = ji12 := hji12
          by_cases c13 : x9_2 < (ji12)
          ·
           rw [if_pos c13] at H
           have c13b0 : decide (x9_2 < (ji12)) = true := decide_eq_true c13
           clear c13
           by_cases c14 : 0 ≤ x9_2
           ·
            rw [if_pos c14] at H
            have c14b0 : decide (0 ≤ x9_2) = true := decide_eq_true c14
            clear c14
            by_cases c15 : x9_2 < (t296.length : Int)
            ·
             rw [if_pos c15] at H
             have c15b0 : decide (x9_2 < (t296.length : Int)) = true := decide_eq_true c15
             clear c15
             by_cases c16 : 0 ≤ (rd l0 x24_1)
             ·
              rw [if_pos c16] at H
              have c16b0 : decide (0 ≤ (rd l0 x24_1)) = true := decide_eq_true c16
              clear c16
              by_cases c17 : (rd l0 x24_1) < (t296.length : Int)
              ·
               rw [if_pos c17] at H
               have c17b0 : decide ((rd l0 x24_1) < (t296.length : Int)) = true := decide_eq_true c17
               clear c17
               by_cases c18 : (rd t296 x9_2) ≤ (rd t296 (rd l0 x24_1))
               ·
                rw [if_pos c18] at H
                have c18b0 : decide ((rd t296 x9_2) ≤ (rd t296 (rd l0 x24_1))) = true := decide_eq_true c18
                clear c18
                obtain rfl := Option.some.inj H
                obtain ⟨Ao19, co19, eo19⟩ := Kd.R_slice HO_5.out
                subst eo19
                have p303 : 0 ≤ (x9_2 : Int) := OD
                have q303 : x9_2 < (t296.length : Int) := OD
                obtain ⟨ad303, e303, hx303_0⟩ := Kd.at_int (Kd.R_reads' HO_5.out).2.2 x9_2 p303 q303
                cases e303
                replace p303 := eq_true p303
                replace q303 := eq_true q303
                have p304 : 0 ≤ ((rd l0 x24_1) : Int) := OD
                have q304 : (rd l0 x24_1) < (t296.length : Int) := OD
                obtain ⟨ad304, e304, hx304_0⟩ := Kd.at_int (Kd.R_reads' HO_5.out).2.2 (rd l0 x24_1) p304 q304
                obtain rfl : ad303 = ad304 := (by injection e304)
                replace p304 := eq_true p304
                replace q304 := eq_true q304
                go_wp2
                repeat (go_quiet (fail); try go_wp2)
                go_ret
                exact ⟨by first | rfl | (simp [errW_none, errW_some] <;> rfl) | (simp only [← hji11, ← hji12]; first | rfl | (simp [errW_none, errW_some] <;> rfl)) | (simp [*, errW_none, errW_some] <;> rfl), BB⟩
               ·
                rw [if_neg c18] at H
                have c18b0 : decide ((rd t296 x9_2) ≤ (rd t296 (rd l0 x24_1))) = false := decide_eq_false c18
                clear c18
                by_cases c20 : (rd l0 x24_1) < (t297.length : Int)
                ·
                 rw [if_pos c20] at H
                 have c20b0 : decide ((rd l0 x24_1) < (t297.length : Int)) = true := decide_eq_true c20
                 clear c20
                 by_cases c21 : (rd t296 x9_2) > (rd t297 (rd l0 x24_1))
                 ·
                  rw [if_pos c21] at H
                  have c21b0 : decide ((rd t297 (rd l0 x24_1)) < (rd t296 x9_2)) = true := decide_eq_true c21
                  clear c21
                  obtain rfl := Option.some.inj H
                  obtain ⟨Ao22, co22, eo22⟩ := Kd.R_slice HO_5.out
                  subst eo22
                  have p303 : 0 ≤ (x9_2 : Int) := OD
                  have q303 : x9_2 < (t296.length : Int) := OD
                  obtain ⟨ad303, e303, hx303_0⟩ := Kd.at_int (Kd.R_reads' HO_5.out).2.2 x9_2 p303 q303
                  cases e303
                  replace p303 := eq_true p303
                  replace q303 := eq_true q303
                  have p304 : 0 ≤ ((rd l0 x24_1) : Int) := OD
                  have q304 : (rd l0 x24_1) < (t296.length : Int) := OD
                  obtain ⟨ad304, e304, hx304_0⟩ := Kd.at_int (Kd.R_reads' HO_5.out).2.2 (rd l0 x24_1) p304 q304
                  obtain rfl : ad303 = ad304 := (by injection e304)
                  replace p304 := eq_true p304
                  replace q304 := eq_true q304
                  have p305 : 0 ≤ (x9_2 : Int) := OD
                  have q305 : x9_2 < (t296.length : Int) := OD
                  obtain ⟨ad305, e305, hx305_0⟩ := Kd.at_int (Kd.R_reads' HO_5.out).2.2 x9_2 p305 q305
                  obtain rfl : ad303 = ad305 := (by injection e305)
                  replace p305 := eq_true p305
                  replace q305 := eq_true q305
                  obtain ⟨Ao23, co23, eo23⟩ := Kd.R_slice HO_6.out
                  subst eo23
                  have p306 : 0 ≤ ((rd l0 x24_1) : Int) := OD
                  have q306 : (rd l0 x24_1) < (t297.length : Int) := OD
                  obtain ⟨ad306, e306, hx306_0⟩ := Kd.at_int (Kd.R_reads' HO_6.out).2.2 (rd l0 x24_1) p306 q306
                  cases e306
                  replace p306 := eq_true p306
                  replace q306 := eq_true q306
                  go_wp2
                  repeat (go_quiet (fail); try go_wp2)
                  go_ret
                  exact ⟨by first | rfl | (simp [errW_none, errW_some] <;> rfl) | (simp only [← hji11, ← hji12]; first | rfl | (simp [errW_none, errW_some] <;> rfl)) | (simp [*, errW_none, errW_some] <;> rfl), BB⟩
                 ·
                  rw [if_neg c21] at H
                  have c21b0 : decide ((rd t297 (rd l0 x24_1)) < (rd t296 x9_2)) = false := decide_eq_false c21
                  clear c21
                  have H' := Aside0.mk H
                  clear H
                  obtain ⟨Ao24, co24, eo24⟩ := Kd.R_slice HO_5.out
                  subst eo24
                  have p303 : 0 ≤ (x9_2 : Int) := OD
                  have q303 : x9_2 < (t296.length : Int) := OD
                  obtain ⟨ad303, e303, hx303_0⟩ := Kd.at_int (Kd.R_reads' HO_5.out).2.2 x9_2 p303 q303
                  cases e303
                  replace p303 := eq_true p303
                  replace q303 := eq_true q303
                  have p304 : 0 ≤ ((rd l0 x24_1) : Int) := OD
                  have q304 : (rd l0 x24_1) < (t296.length : Int) := OD
                  obtain ⟨ad304, e304, hx304_0⟩ := Kd.at_int (Kd.R_reads' HO_5.out).2.2 (rd l0 x24_1) p304 q304
                  obtain rfl : ad303 = ad304 := (by injection e304)
                  replace p304 := eq_true p304
                  replace q304 := eq_true q304
                  have p305 : 0 ≤ (x9_2 : Int) := OD
                  have q305 : x9_2 < (t296.length : Int) := OD
                  obtain ⟨ad305, e305, hx305_0⟩ := Kd.at_int (Kd.R_reads' HO_5.out).2.2 x9_2 p305 q305
                  obtain rfl : ad303 = ad305 := (by injection e305)
                  replace p305 := eq_true p305
                  replace q305 := eq_true q305
                  obtain ⟨Ao25, co25, eo25⟩ := Kd.R_slice HO_6.out
                  subst eo25
                  have p306 : 0 ≤ ((rd l0 x24_1) : Int) := OD
                  have q306 : (rd l0 x24_1) < (t297.length : Int) := OD
                  obtain ⟨ad306, e306, hx306_0⟩ := Kd.at_int (Kd.R_reads' HO_6.out).2.2 (rd l0 x24_1) p306 q306
                  cases e306
                  replace p306 := eq_true p306
                  replace q306 := eq_true q306
                  go_wp2
                  repeat (go_quiet (fail); try go_wp2)
                  go_roundg k2
                  case measure => have := HK1.out; have := HK2.out; omega
                  case rel => exact ⟨(wrap64 (x9_2 + 1)), (BE), H', ⟨by have := HK1.out; have := HK2.out; omega⟩, ⟨BR HO_5.out⟩, ⟨BR HO_6.out⟩, ⟨BB⟩⟩
                ·
                 rw [if_neg c20] at H
                 exact absurd H (by simp)
              ·
               rw [if_neg c17] at H
               exact absurd H (by simp)
             ·
              rw [if_neg c16] at H
              exact absurd H (by simp)
            ·
             rw [if_neg c15] at H
             exact absurd H (by simp)
           ·
            rw [if_neg c14] at H
            exact absurd H (by simp)
          ·
           rw [if_neg c13] at H
           have c13b0 : decide (x9_2 < (ji12)) = false := decide_eq_false c13
           clear c13
           have H' := Aside0.mk H
           clear H
           go_wp2
           repeat (go_quiet (fail); try go_wp2)
           go_roundg k2
           case measure => have := HK1.out; have := HK2.out; omega
           case rel => exact ⟨(wrap64 (x24_1 + 1)), (BE), H', ⟨by have := HK1.out; have := HK2.out; omega⟩, ⟨BR HO_5.out⟩, ⟨BR HO_6.out⟩, ⟨BB⟩⟩
      ·
       rw [if_neg c9] at H
       exact absurd H (by simp)
     ·
      rw [if_neg c8] at H
      exact absurd H (by simp)
    ·
     rw [if_neg c7] at H
     have c7b0 : decide (x24_1 < (l0.length : Int)) = false := decide_eq_false c7
     clear c7
     obtain rfl := Option.some.inj H
     go_wp2
     repeat (go_quiet (fail); try go_wp2)
     go_ret
     exact ⟨BX, BB⟩
 ·
  rw [if_neg c3] at H
  have c3b0 : (t295 == 0) = false := beq_eq_false_iff_ne.mpr c3
  have c3b1 : (t295 != 0) = true := bne_iff_ne.mpr c3
  obtain rfl := Option.some.inj H
  go_enter Tryd.func21, Tryd.ntmps21
  go_wp2_with (first | (go_at_call 13; (with_reducible refine (depend_Check.calls k _ _ l0 t294 t295 _ ?side1 ?side2 A2.out).mono ?_); (case side1 => exact BK HR0.out); (case side2 => exact HC0.out); rintro e w26 ⟨rfl, hb⟩; have n0_ := Aside0.mk (below_step (BB) hb); clear HB; have HB := n0_; clear n0_; (try clear hb); (try clear hb2); (try clear hk); (try clear hi)))
  repeat (go_quiet (first | (go_at_call 13; (try simp only [i64_w, i32_w]); (with_reducible refine (depend_Check.calls k _ _ l0 t294 t295 _ ?side1 ?side2 A2.out).mono ?_); (case side1 => exact BK HR0.out); (case side2 => exact HC0.out); rintro e w26 ⟨rfl, hb⟩; have n0_ := Aside0.mk (below_step (BB) hb); clear HB; have HB := n0_; clear n0_; (try clear hb); (try clear hb2); (try clear hk); (try clear hi))); try go_wp2_with (first | (go_at_call 13; (with_reducible refine (depend_Check.calls k _ _ l0 t294 t295 _ ?side1 ?side2 A2.out).mono ?_); (case side1 => exact BK HR0.out); (case side2 => exact HC0.out); rintro e w26 ⟨rfl, hb⟩; have n0_ := Aside0.mk (below_step (BB) hb); clear HB; have HB := n0_; clear n0_; (try clear hb); (try clear hb2); (try clear hk); (try clear hi))))
  go_ret
  exact ⟨BX, BB⟩

end Go.Proofs.YtkanmafjjejpmaaDoor.P
