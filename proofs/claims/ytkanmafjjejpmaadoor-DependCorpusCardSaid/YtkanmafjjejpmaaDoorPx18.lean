-- Written by a program of this session (wip/doprint.sh) out of the translation; Lean checks it.
import Derived.Test.YtkanmafjjejpmaaDoorPx0
import Derived.Test.YtkanmafjjejpmaaDoorPx2
import Derived.Test.YtkanmafjjejpmaaDoorPx17
namespace Go.Proofs.YtkanmafjjejpmaaDoor.P
open Go.Proofs.YtkanmafjjejpmaaDoor.S
open Go.Proofs.YtkanmafjjejpmaaDoor.X
open Go.RowKit Go.Proofs.YtkanmafjjejpmaaDoorW.PrintWords Go.Proofs.YtkanmafjjejpmaaDoorW.PrintLast Go.Proofs.YtkanmafjjejpmaaDoorW.PrintMore
attribute [local go_sem] max2_int min2_int max_two min_two max_three min_three max_four min_four   -- for this text's walks alone
set_option linter.unusedVariables false
set_option linter.unusedSimpArgs false

/-! ### depend_Projective: function 21 -/
mutual
def depend_Projective.l0 : Nat → List Int → List Int → List Int → Int → Int → Option (Bool)
  | 0, _, _, _, _, _ => none
  | k + 1, x5, x6, x22, x23, x24 => if x24 < x23 then (if 0 ≤ x24 then (if x24 < (x22.length : Int) then (if (rd x22 x24) < 0 then (depend_Projective.l0 k x5 x6 x22 x23 (wrap64 (x24 + 1))) else (depend_Projective.l1 k x5 x6 x24 (rd x22 x24) (wrap64 ((mn x24 (rd x22 x24)) + 1)) x22 x23 x24)) else (none)) else (none)) else (some true)
def depend_Projective.l1 : Nat → List Int → List Int → Int → Int → Int → List Int → Int → Int → Option (Bool)
  | 0, _, _, _, _, _, _, _, _ => none
  | k + 1, x5, x6, x7, x8, x9, x22, x23, x24 => if x9 < (mx x7 x8) then (if 0 ≤ x9 then (if x9 < (x5.length : Int) then (if 0 ≤ x8 then (if x8 < (x5.length : Int) then (if (rd x5 x9) ≤ (rd x5 x8) then (some false) else (if x8 < (x6.length : Int) then (if (rd x5 x9) > (rd x6 x8) then (some false) else (depend_Projective.l1 k x5 x6 x7 x8 (wrap64 (x9 + 1)) x22 x23 x24)) else (none))) else (none)) else (none)) else (none)) else (none)) else (depend_Projective.l0 k x5 x6 x22 x23 (wrap64 (x24 + 1)))
end
def depend_Projective.f (k : Nat) (l0 : List Int) : Option (Bool) := (depend_Check.f k l0).bind fun bt278 => (if bt278.2 = 0 then ((depend_numbers.f k l0).bind fun bt280 => (depend_Projective.l0 k bt280.1 bt280.2 l0 (l0.length : Int) 0)) else (some false))
theorem depend_Projective.mono_l : ∀ k, (∀ y0 y1 y2 y3 y4, LeO (depend_Projective.l0 k y0 y1 y2 y3 y4) (depend_Projective.l0 (k + 1) y0 y1 y2 y3 y4)) ∧ (∀ y0 y1 y2 y3 y4 y5 y6 y7, LeO (depend_Projective.l1 k y0 y1 y2 y3 y4 y5 y6 y7) (depend_Projective.l1 (k + 1) y0 y1 y2 y3 y4 y5 y6 y7))
 | 0 => ⟨fun _ _ _ _ _ r h => by simp [depend_Projective.l0] at h, fun _ _ _ _ _ _ _ _ r h => by simp [depend_Projective.l1] at h⟩
 | k + 1 => by
  obtain ⟨ih0, ih1⟩ := depend_Projective.mono_l k
  refine ⟨?_, ?_⟩
  ·
   intro y0 y1 y2 y3 y4
   unfold depend_Projective.l0
   with_reducible repeat' first | exact ih0 _ _ _ _ _ | exact ih1 _ _ _ _ _ _ _ _ | exact depend_Check.mono _ _ | exact depend_numbers.mono _ _ | exact LeO.refl _ | exact LeO.none _ | refine LeO.ite ?_ ?_ | refine LeO.bind ?_ (fun _ => ?_)
  ·
   intro y0 y1 y2 y3 y4 y5 y6 y7
   unfold depend_Projective.l1
   with_reducible repeat' first | exact ih0 _ _ _ _ _ | exact ih1 _ _ _ _ _ _ _ _ | exact depend_Check.mono _ _ | exact depend_numbers.mono _ _ | exact LeO.refl _ | exact LeO.none _ | refine LeO.ite ?_ ?_ | refine LeO.bind ?_ (fun _ => ?_)
theorem depend_Projective.mono : ∀ a0 k, LeO (depend_Projective.f k a0) (depend_Projective.f (k + 1) a0) := by
 intro a0 k
 obtain ⟨ih0, ih1⟩ := depend_Projective.mono_l k
 unfold depend_Projective.f
 with_reducible repeat' first | exact ih0 _ _ _ _ _ | exact ih1 _ _ _ _ _ _ _ _ | exact depend_Check.mono _ _ | exact depend_numbers.mono _ _ | exact LeO.refl _ | exact LeO.none _ | refine LeO.ite ?_ ?_ | refine LeO.bind ?_ (fun _ => ?_)
set_option maxHeartbeats 8000000 in
set_option maxRecDepth 100000 in
theorem depend_Projective.calls (k : Nat) (A0 : Option Addr) (c0 : Nat) (l0 : List Int) (r : Bool) (w : World) (hr0 : Kd.C (Kd.int .i64) w A0 l0.length l0) (hc0 : l0.length ≤ c0) (h : depend_Projective.f k l0 = some r) :
 Calls Tryd.prog 21 #[.slice A0 l0.length c0] w fun e w' => e = .returned (.bool r) ∧ Below w.heap.size w w' := by
 have HR0 := Aside0.mk hr0
 have HC0 := Aside0.mk hc0
 clear hr0 hc0
 have HB := Aside0.mk (Below.refl w.heap.size w)
 have H : ((depend_Check.f k l0).bind fun bt278 => (if bt278.2 = 0 then ((depend_numbers.f k l0).bind fun bt280 => (depend_Projective.l0 k bt280.1 bt280.2 l0 (l0.length : Int) 0)) else (some false))) = some r := h
 clear h
 replace H := Option.bind_eq_some_iff.mp H
 obtain ⟨⟨t278, t279⟩, A20, H⟩ := H
 replace H : (if t279 = 0 then ((depend_numbers.f k l0).bind fun bt280 => (depend_Projective.l0 k bt280.1 bt280.2 l0 (l0.length : Int) 0)) else (some false)) = some r := H
 have A2 := Aside0.mk A20
 clear A20
 by_cases c3 : t279 = 0
 ·
  rw [if_pos c3] at H
  have c3b0 : (t279 == 0) = true := beq_iff_eq.mpr c3
  have c3b1 : (t279 != 0) = false := bne_eq_false_iff_eq.mpr c3
  clear c3
  replace H := Option.bind_eq_some_iff.mp H
  obtain ⟨⟨t280, t281⟩, A40, H⟩ := H
  replace H : (depend_Projective.l0 k t280 t281 l0 (l0.length : Int) 0) = some r := H
  have A4 := Aside0.mk A40
  clear A40
  have H' := Aside0.mk H
  clear H
  go_enter Tryd.func21, Tryd.ntmps21
  go_wp2_with (first | (go_at_call 13; (with_reducible refine (depend_Check.calls k _ _ l0 t278 t279 _ ?side1 ?side2 A2.out).mono ?_); (case side1 => exact BK HR0.out); (case side2 => exact HC0.out); rintro e w5 ⟨rfl, hb⟩; have n0_ := Aside0.mk (below_step (BB) hb); clear HB; have HB := n0_; clear n0_; (try clear hb); (try clear hb2); (try clear hk); (try clear hi)) | (go_at_call 39; (with_reducible refine (depend_numbers.calls k _ _ l0 t280 t281 _ ?side1 ?side2 A4.out).mono ?_); (case side1 => exact BC HR0.out); (case side2 => exact HC0.out); rintro e w6 ⟨v282, v284, rfl, ho0, ho1, hb⟩; have n0_ := Aside0.mk (Kd.R_lower ho0 (below_size (BB))); have n1_ := Aside0.mk (Kd.R_lower ho1 (below_size (BB))); have n2_ := Aside0.mk (below_step (BB) hb); clear HB; have HO283 := n0_; have HO285 := n1_; have HB := n2_; clear n0_ n1_ n2_; (try clear hb); (try clear hb2); (try clear hk); (try clear hi); (try clear ho0); (try clear ho1)))
  repeat (go_quiet (first | (go_at_call 13; (try simp only [i64_w, i32_w]); (with_reducible refine (depend_Check.calls k _ _ l0 t278 t279 _ ?side1 ?side2 A2.out).mono ?_); (case side1 => exact BK HR0.out); (case side2 => exact HC0.out); rintro e w5 ⟨rfl, hb⟩; have n0_ := Aside0.mk (below_step (BB) hb); clear HB; have HB := n0_; clear n0_; (try clear hb); (try clear hb2); (try clear hk); (try clear hi)) | (go_at_call 39; (with_reducible refine (depend_numbers.calls k _ _ l0 t280 t281 _ ?side1 ?side2 A4.out).mono ?_); (case side1 => exact BC HR0.out); (case side2 => exact HC0.out); rintro e w6 ⟨v282, v284, rfl, ho0, ho1, hb⟩; have n0_ := Aside0.mk (Kd.R_lower ho0 (below_size (BB))); have n1_ := Aside0.mk (Kd.R_lower ho1 (below_size (BB))); have n2_ := Aside0.mk (below_step (BB) hb); clear HB; have HO283 := n0_; have HO285 := n1_; have HB := n2_; clear n0_ n1_ n2_; (try clear hb); (try clear hb2); (try clear hk); (try clear hi); (try clear ho0); (try clear ho1))); try go_wp2_with (first | (go_at_call 13; (with_reducible refine (depend_Check.calls k _ _ l0 t278 t279 _ ?side1 ?side2 A2.out).mono ?_); (case side1 => exact BK HR0.out); (case side2 => exact HC0.out); rintro e w5 ⟨rfl, hb⟩; have n0_ := Aside0.mk (below_step (BB) hb); clear HB; have HB := n0_; clear n0_; (try clear hb); (try clear hb2); (try clear hk); (try clear hi)) | (go_at_call 39; (with_reducible refine (depend_numbers.calls k _ _ l0 t280 t281 _ ?side1 ?side2 A4.out).mono ?_); (case side1 => exact BC HR0.out); (case side2 => exact HC0.out); rintro e w6 ⟨v282, v284, rfl, ho0, ho1, hb⟩; have n0_ := Aside0.mk (Kd.R_lower ho0 (below_size (BB))); have n1_ := Aside0.mk (Kd.R_lower ho1 (below_size (BB))); have n2_ := Aside0.mk (below_step (BB) hb); clear HB; have HO283 := n0_; have HO285 := n1_; have HB := n2_; clear n0_ n1_ n2_; (try clear hb); (try clear hb2); (try clear hk); (try clear hi); (try clear ho0); (try clear ho1))))
  go_loopg [24] k (fun kq v24 w' => ∃ (x24_1 : Int), v24 = .int .i64 x24_1 ∧ Aside0 (depend_Projective.l0 kq t280 t281 l0 (l0.length : Int) x24_1 = some r) ∧ Aside0 (kq ≤ k) ∧ Aside0 (Kd.R (Kd.int .i64) 3 w' w.heap.size (fun k_ => some k_ ≠ (v284 : Value).ownBlock) v282 t280) ∧ Aside0 (Kd.R (Kd.int .i64) 3 w' w.heap.size (fun k_ => some k_ ≠ (v282 : Value).ownBlock) v284 t281) ∧ Aside0 (Below w.heap.size w w'))
  case atStart => exact ⟨(0), (BE), H', ⟨Nat.le_refl _⟩, ⟨BR HO283.out⟩, ⟨BR HO285.out⟩, ⟨BB⟩⟩
  case round =>
   clear H'
   (try clear c2); (try clear p2); (try clear c3); (try clear c3b0); (try clear c3b1)
   obtain ⟨x24_1, rfl, HA, HK1, HO_5, HO_6, HB⟩ := hrel
   cases gk with
   | zero => exact absurd HA.out (by simp [depend_Projective.l0])
   | succ k1 =>
    have H := HA.out
    clear HA
    simp only [depend_Projective.l0] at H
    by_cases c7 : x24_1 < (l0.length : Int)
    ·
     rw [if_pos c7] at H
     have c7b0 : decide (x24_1 < (l0.length : Int)) = true := decide_eq_true c7
     clear c7
     by_cases c8 : 0 ≤ x24_1
     ·
      rw [if_pos c8] at H
      have c8b0 : decide (0 ≤ x24_1) = true := decide_eq_true c8
      clear c8
      by_cases c9 : x24_1 < (l0.length : Int)
      ·
       rw [if_pos c9] at H
       have c9b0 : decide (x24_1 < (l0.length : Int)) = true := decide_eq_true c9
       clear c9
       by_cases c10 : (rd l0 x24_1) < 0
       ·
        rw [if_pos c10] at H
        have c10b0 : decide ((rd l0 x24_1) < 0) = true := decide_eq_true c10
        clear c10
        have H' := Aside0.mk H
        clear H
        have p286 : 0 ≤ (x24_1 : Int) := OD
        have q286 : x24_1 < (l0.length : Int) := OD
        obtain ⟨ad286, e286, hx286_0⟩ := Kd.at_int HR0.out x24_1 p286 q286
        cases e286
        replace hx286_0 := (HB.out.cell (World.block_lt_of_cell? w _ hx286_0)).trans hx286_0
        replace p286 := eq_true p286
        replace q286 := eq_true q286
        go_wp2
        repeat (go_quiet (fail); try go_wp2)
        go_roundg k1
        case measure => have := HK1.out; omega
        case rel => exact ⟨(wrap64 (x24_1 + 1)), (BE), H', ⟨by have := HK1.out; omega⟩, ⟨BR HO_5.out⟩, ⟨BR HO_6.out⟩, ⟨BB⟩⟩
       ·
        rw [if_neg c10] at H
        have c10b0 : decide ((rd l0 x24_1) < 0) = false := decide_eq_false c10
        clear c10
        obtain ⟨ji11, hji11⟩ : ∃ j_ : Int, (mn x24_1 (rd l0 x24_1)) = j_ := ⟨_, rfl⟩
        replace H : (depend_Projective.l1 k1 t280 t281 x24_1 (rd l0 x24_1) (wrap64 ((ji11) + 1)) l0 (l0.length : Int) x24_1) = some r := by first | (rw [hji11] at H; exact H) | (simp only [hji11] at H ⊢; exact H)
        have hji11_ : (if (rd l0 x24_1) < x24_1 then (rd l0 x24_1) else x24_1) = ji11 := hji11
        have H' := Aside0.mk H
        clear H
        have p286 : 0 ≤ (x24_1 : Int) := OD
        have q286 : x24_1 < (l0.length : Int) := OD
        obtain ⟨ad286, e286, hx286_0⟩ := Kd.at_int HR0.out x24_1 p286 q286
        cases e286
        replace hx286_0 := (HB.out.cell (World.block_lt_of_cell? w _ hx286_0)).trans hx286_0
        replace p286 := eq_true p286
        replace q286 := eq_true q286
        go_wp2
        repeat (go_quiet (fail); try go_wp2)
        go_loopg [9] k1 (fun kq v9 w' => ∃ (x9_2 : Int), v9 = .int .i64 x9_2 ∧ Aside0 (depend_Projective.l1 kq t280 t281 x24_1 (rd l0 x24_1) x9_2 l0 (l0.length : Int) x24_1 = some r) ∧ Aside0 (kq ≤ k1) ∧ Aside0 (Kd.R (Kd.int .i64) 3 w' w.heap.size (fun k_ => some k_ ≠ (v284 : Value).ownBlock) v282 t280) ∧ Aside0 (Kd.R (Kd.int .i64) 3 w' w.heap.size (fun k_ => some k_ ≠ (v282 : Value).ownBlock) v284 t281) ∧ Aside0 (Below w.heap.size w w'))
        case atStart => exact ⟨(wrap64 ((ji11) + 1)), (by first | rfl | (simp; done) | (simp only [← hji11] <;> (first | rfl | simp)) | (simp [*]; done)), H', ⟨Nat.le_refl _⟩, ⟨BR HO_5.out⟩, ⟨BR HO_6.out⟩, ⟨BB⟩⟩
        case round =>
         clear H'
         (try clear c1); (try clear c2); (try clear p2); (try clear q2); (try clear hx2); (try clear c3); (try clear c3b0); (try clear c3b1); (try clear p6); (try clear c7); (try clear c7b0); (try clear c8); (try clear c8b0)
         (try clear c9); (try clear c9b0); (try clear c10); (try clear c10b0); (try clear hx286_0); (try clear p2); (try clear p286); (try clear q286)
         obtain ⟨x9_2, rfl, HA, HK2, HO_5, HO_6, HB⟩ := hrel
         cases gk with
         | zero => exact absurd HA.out (by simp [depend_Projective.l1])
         | succ k2 =>
          have H := HA.out
          clear HA
          simp only [depend_Projective.l1] at H
          obtain ⟨ji12, hji12⟩ : ∃ j_ : Int, (mx x24_1 (rd l0 x24_1)) = j_ := ⟨_, rfl⟩
          replace H : (if x9_2 < (ji12) then (if 0 ≤ x9_2 then (if x9_2 < (t280.length : Int) then (if 0 ≤ (rd l0 x24_1) then (if (rd l0 x24_1) < (t280.length : Int) then (if (rd t280 x9_2) ≤ (rd t280 (rd l0 x24_1)) then (some false) else (if (rd l0 x24_1) < (t281.length : Int) then (if (rd t280 x9_2) > (rd t281 (rd l0 x24_1)) then (some false) else (depend_Projective.l1 k2 t280 t281 x24_1 (rd l0 x24_1) (wrap64 (x9_2 + 1)) l0 (l0.length : Int) x24_1)) else (none))) else (none)) else (none)) else (none)) else (none)) else (depend_Projective.l0 k2 t280 t281 l0 (l0.length : Int) (wrap64 (x24_1 + 1)))) = some r := by first | (rw [hji12] at H; exact H) | (simp only [hji12] at H ⊢; exact H)
          have hji12_ : (if x24_1 < (rd l0 x24_1) then (rd l0 x24_1) else x24_1) = ji12 := hji12
          by_cases c13 : x9_2 < (ji12)
          ·
           rw [if_pos c13] at H
           have c13b0 : decide (x9_2 < (ji12)) = true := decide_eq_true c13
           clear c13
           by_cases c14 : 0 ≤ x9_2
           ·
            rw [if_pos c14] at H
            have c14b0 : decide (0 ≤ x9_2) = true := decide_eq_true c14
            clear c14
            by_cases c15 : x9_2 < (t280.length : Int)
            ·
             rw [if_pos c15] at H
             have c15b0 : decide (x9_2 < (t280.length : Int)) = true := decide_eq_true c15
             clear c15
             by_cases c16 : 0 ≤ (rd l0 x24_1)
             ·
              rw [if_pos c16] at H
              have c16b0 : decide (0 ≤ (rd l0 x24_1)) = true := decide_eq_true c16
              clear c16
              by_cases c17 : (rd l0 x24_1) < (t280.length : Int)
              ·
               rw [if_pos c17] at H
               have c17b0 : decide ((rd l0 x24_1) < (t280.length : Int)) = true := decide_eq_true c17
               clear c17
               by_cases c18 : (rd t280 x9_2) ≤ (rd t280 (rd l0 x24_1))
               ·
                rw [if_pos c18] at H
                have c18b0 : decide ((rd t280 x9_2) ≤ (rd t280 (rd l0 x24_1))) = true := decide_eq_true c18
                clear c18
                obtain rfl := Option.some.inj H
                obtain ⟨Ao19, co19, eo19⟩ := Kd.R_slice HO_5.out
                subst eo19
                have p287 : 0 ≤ (x9_2 : Int) := OD
                have q287 : x9_2 < (t280.length : Int) := OD
                obtain ⟨ad287, e287, hx287_0⟩ := Kd.at_int (Kd.R_reads' HO_5.out).2.2 x9_2 p287 q287
                cases e287
                replace p287 := eq_true p287
                replace q287 := eq_true q287
                have p288 : 0 ≤ ((rd l0 x24_1) : Int) := OD
                have q288 : (rd l0 x24_1) < (t280.length : Int) := OD
                obtain ⟨ad288, e288, hx288_0⟩ := Kd.at_int (Kd.R_reads' HO_5.out).2.2 (rd l0 x24_1) p288 q288
                obtain rfl : ad287 = ad288 := (by injection e288)
                replace p288 := eq_true p288
                replace q288 := eq_true q288
                go_wp2
                repeat (go_quiet (fail); try go_wp2)
                go_ret
                exact ⟨by first | rfl | (simp [errW_none, errW_some] <;> rfl) | (simp only [← hji11, ← hji12]; first | rfl | (simp [errW_none, errW_some] <;> rfl)) | (simp [*, errW_none, errW_some] <;> rfl), BB⟩
               ·
                rw [if_neg c18] at H
                have c18b0 : decide ((rd t280 x9_2) ≤ (rd t280 (rd l0 x24_1))) = false := decide_eq_false c18
                clear c18
                by_cases c20 : (rd l0 x24_1) < (t281.length : Int)
                ·
                 rw [if_pos c20] at H
                 have c20b0 : decide ((rd l0 x24_1) < (t281.length : Int)) = true := decide_eq_true c20
                 clear c20
                 by_cases c21 : (rd t280 x9_2) > (rd t281 (rd l0 x24_1))
                 ·
                  rw [if_pos c21] at H
                  have c21b0 : decide ((rd t281 (rd l0 x24_1)) < (rd t280 x9_2)) = true := decide_eq_true c21
                  clear c21
                  obtain rfl := Option.some.inj H
                  obtain ⟨Ao22, co22, eo22⟩ := Kd.R_slice HO_5.out
                  subst eo22
                  have p287 : 0 ≤ (x9_2 : Int) := OD
                  have q287 : x9_2 < (t280.length : Int) := OD
                  obtain ⟨ad287, e287, hx287_0⟩ := Kd.at_int (Kd.R_reads' HO_5.out).2.2 x9_2 p287 q287
                  cases e287
                  replace p287 := eq_true p287
                  replace q287 := eq_true q287
                  have p288 : 0 ≤ ((rd l0 x24_1) : Int) := OD
                  have q288 : (rd l0 x24_1) < (t280.length : Int) := OD
                  obtain ⟨ad288, e288, hx288_0⟩ := Kd.at_int (Kd.R_reads' HO_5.out).2.2 (rd l0 x24_1) p288 q288
                  obtain rfl : ad287 = ad288 := (by injection e288)
                  replace p288 := eq_true p288
                  replace q288 := eq_true q288
                  have p289 : 0 ≤ (x9_2 : Int) := OD
                  have q289 : x9_2 < (t280.length : Int) := OD
                  obtain ⟨ad289, e289, hx289_0⟩ := Kd.at_int (Kd.R_reads' HO_5.out).2.2 x9_2 p289 q289
                  obtain rfl : ad287 = ad289 := (by injection e289)
                  replace p289 := eq_true p289
                  replace q289 := eq_true q289
                  obtain ⟨Ao23, co23, eo23⟩ := Kd.R_slice HO_6.out
                  subst eo23
                  have p290 : 0 ≤ ((rd l0 x24_1) : Int) := OD
                  have q290 : (rd l0 x24_1) < (t281.length : Int) := OD
                  obtain ⟨ad290, e290, hx290_0⟩ := Kd.at_int (Kd.R_reads' HO_6.out).2.2 (rd l0 x24_1) p290 q290
                  cases e290
                  replace p290 := eq_true p290
                  replace q290 := eq_true q290
                  go_wp2
                  repeat (go_quiet (fail); try go_wp2)
                  go_ret
                  exact ⟨by first | rfl | (simp [errW_none, errW_some] <;> rfl) | (simp only [← hji11, ← hji12]; first | rfl | (simp [errW_none, errW_some] <;> rfl)) | (simp [*, errW_none, errW_some] <;> rfl), BB⟩
                 ·
                  rw [if_neg c21] at H
                  have c21b0 : decide ((rd t281 (rd l0 x24_1)) < (rd t280 x9_2)) = false := decide_eq_false c21
                  clear c21
                  have H' := Aside0.mk H
                  clear H
                  obtain ⟨Ao24, co24, eo24⟩ := Kd.R_slice HO_5.out
                  subst eo24
                  have p287 : 0 ≤ (x9_2 : Int) := OD
                  have q287 : x9_2 < (t280.length : Int) := OD
                  obtain ⟨ad287, e287, hx287_0⟩ := Kd.at_int (Kd.R_reads' HO_5.out).2.2 x9_2 p287 q287
                  cases e287
                  replace p287 := eq_true p287
                  replace q287 := eq_true q287
                  have p288 : 0 ≤ ((rd l0 x24_1) : Int) := OD
                  have q288 : (rd l0 x24_1) < (t280.length : Int) := OD
                  obtain ⟨ad288, e288, hx288_0⟩ := Kd.at_int (Kd.R_reads' HO_5.out).2.2 (rd l0 x24_1) p288 q288
                  obtain rfl : ad287 = ad288 := (by injection e288)
                  replace p288 := eq_true p288
                  replace q288 := eq_true q288
                  have p289 : 0 ≤ (x9_2 : Int) := OD
                  have q289 : x9_2 < (t280.length : Int) := OD
                  obtain ⟨ad289, e289, hx289_0⟩ := Kd.at_int (Kd.R_reads' HO_5.out).2.2 x9_2 p289 q289
                  obtain rfl : ad287 = ad289 := (by injection e289)
                  replace p289 := eq_true p289
                  replace q289 := eq_true q289
                  obtain ⟨Ao25, co25, eo25⟩ := Kd.R_slice HO_6.out
                  subst eo25
                  have p290 : 0 ≤ ((rd l0 x24_1) : Int) := OD
                  have q290 : (rd l0 x24_1) < (t281.length : Int) := OD
                  obtain ⟨ad290, e290, hx290_0⟩ := Kd.at_int (Kd.R_reads' HO_6.out).2.2 (rd l0 x24_1) p290 q290
                  cases e290
                  replace p290 := eq_true p290
                  replace q290 := eq_true q290
                  go_wp2
                  repeat (go_quiet (fail); try go_wp2)
                  go_roundg k2
                  case measure => have := HK1.out; have := HK2.out; omega
                  case rel => exact ⟨(wrap64 (x9_2 + 1)), (BE), H', ⟨by have := HK1.out; have := HK2.out; omega⟩, ⟨BR HO_5.out⟩, ⟨BR HO_6.out⟩, ⟨BB⟩⟩
                ·
                 rw [if_neg c20] at H
                 exact absurd H (by simp)
              ·
               rw [if_neg c17] at H
               exact absurd H (by simp)
             ·
              rw [if_neg c16] at H
              exact absurd H (by simp)
            ·
             rw [if_neg c15] at H
             exact absurd H (by simp)
           ·
            rw [if_neg c14] at H
            exact absurd H (by simp)
          ·
           rw [if_neg c13] at H
           have c13b0 : decide (x9_2 < (ji12)) = false := decide_eq_false c13
           clear c13
           have H' := Aside0.mk H
           clear H
           go_wp2
           repeat (go_quiet (fail); try go_wp2)
           go_roundg k2
           case measure => have := HK1.out; have := HK2.out; omega
           case rel => exact ⟨(wrap64 (x24_1 + 1)), (BE), H', ⟨by have := HK1.out; have := HK2.out; omega⟩, ⟨BR HO_5.out⟩, ⟨BR HO_6.out⟩, ⟨BB⟩⟩
      ·
       rw [if_neg c9] at H
       exact absurd H (by simp)
     ·
      rw [if_neg c8] at H
      exact absurd H (by simp)
    ·
     rw [if_neg c7] at H
     have c7b0 : decide (x24_1 < (l0.length : Int)) = false := decide_eq_false c7
     clear c7
     obtain rfl := Option.some.inj H
     go_wp2
     repeat (go_quiet (fail); try go_wp2)
     go_ret
     exact ⟨BX, BB⟩
 ·
  rw [if_neg c3] at H
  have c3b0 : (t279 == 0) = false := beq_eq_false_iff_ne.mpr c3
  have c3b1 : (t279 != 0) = true := bne_iff_ne.mpr c3
  obtain rfl := Option.some.inj H
  go_enter Tryd.func21, Tryd.ntmps21
  go_wp2_with (first | (go_at_call 13; (with_reducible refine (depend_Check.calls k _ _ l0 t278 t279 _ ?side1 ?side2 A2.out).mono ?_); (case side1 => exact BK HR0.out); (case side2 => exact HC0.out); rintro e w26 ⟨rfl, hb⟩; have n0_ := Aside0.mk (below_step (BB) hb); clear HB; have HB := n0_; clear n0_; (try clear hb); (try clear hb2); (try clear hk); (try clear hi)))
  repeat (go_quiet (first | (go_at_call 13; (try simp only [i64_w, i32_w]); (with_reducible refine (depend_Check.calls k _ _ l0 t278 t279 _ ?side1 ?side2 A2.out).mono ?_); (case side1 => exact BK HR0.out); (case side2 => exact HC0.out); rintro e w26 ⟨rfl, hb⟩; have n0_ := Aside0.mk (below_step (BB) hb); clear HB; have HB := n0_; clear n0_; (try clear hb); (try clear hb2); (try clear hk); (try clear hi))); try go_wp2_with (first | (go_at_call 13; (with_reducible refine (depend_Check.calls k _ _ l0 t278 t279 _ ?side1 ?side2 A2.out).mono ?_); (case side1 => exact BK HR0.out); (case side2 => exact HC0.out); rintro e w26 ⟨rfl, hb⟩; have n0_ := Aside0.mk (below_step (BB) hb); clear HB; have HB := n0_; clear n0_; (try clear hb); (try clear hb2); (try clear hk); (try clear hi))))
  go_ret
  exact ⟨BX, BB⟩

end Go.Proofs.YtkanmafjjejpmaaDoor.P
