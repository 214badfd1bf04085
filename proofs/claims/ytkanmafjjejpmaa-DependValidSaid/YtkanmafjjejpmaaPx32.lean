-- Written by a program of this session (wip/doprint.sh) out of the translation; Lean checks it.
import Derived.Test.YtkanmafjjejpmaaPx0
import Derived.Test.YtkanmafjjejpmaaPx1
import Derived.Test.YtkanmafjjejpmaaPx2
import Derived.Test.YtkanmafjjejpmaaPx15
import Derived.Test.YtkanmafjjejpmaaPx16
namespace Go.Proofs.Ytkanmafjjejpmaa.P
open Go.Proofs.Ytkanmafjjejpmaa.S
open Go.Proofs.Ytkanmafjjejpmaa.X
open Go.RowKit Go.Proofs.YtkanmafjjejpmaaW.PrintWords Go.Proofs.YtkanmafjjejpmaaW.PrintLast Go.Proofs.YtkanmafjjejpmaaW.PrintMore
attribute [local go_sem] max2_int min2_int max_two min_two max_three min_three max_four min_four   -- for this text's walks alone
set_option linter.unusedVariables false
set_option linter.unusedSimpArgs false

attribute [local go_sem high] eqA36
/-! ### corporalaw09_DependValid: function 10 -/
mutual
def corporalaw09_DependValid.j0 : Nat → ByteArray → Int → Bool → Option (Bool)
  | 0, _, _, _ => none
  | k + 1, x0, x1, x22 => if x22 = true then (some true) else ((depend_Parse.f k x0 x1).bind fun bt441 => (if bt441.2.2.2.2 = 0 then ((depend_Check.f k bt441.1).bind fun bt451 => (if bt451.2 = 0 then (if (bt441.1.length : Int) = x1 then (if (bt441.2.1.length : Int) = x1 then (if (bt441.2.2.1 == 0 && (bt441.2.2.2.1 == 0)) = true then ((corporalaw09_awake.f k).bind fun t453 => (some t453)) else (some false)) else (some false)) else (some false)) else (some false))) else (corporalaw09_DependValid.l0 k x0 bt441.1 bt441.2.1 0 bt441.2.2.1 bt441.2.2.2.1)))
def corporalaw09_DependValid.l0 : Nat → ByteArray → List Int → List ByteArray → Int → Int → Int → Option (Bool)
  | 0, _, _, _, _, _, _ => none
  | k + 1, x0, x5, x6, x11, x451000, x451001 => if x11 ≤ (x0.size : Int) then ((codepoint_Position.f x0 x11).bind fun bt454 => (if (bt454.1 == x451000 && (bt454.2 == x451001)) = true then (if (x5.length : Int) = 0 then (if (x6.length : Int) = 0 then ((corporalaw09_awake.f k).bind fun t456 => (some t456)) else (some false)) else (some false)) else (corporalaw09_DependValid.l0 k x0 x5 x6 (wrap64 (x11 + 1)) x451000 x451001))) else (some false)
end
def corporalaw09_DependValid.f (k : Nat) (a0 : ByteArray) (a1 : Int) : Option (Bool) := if (a0.size : Int) > 1500 then (corporalaw09_DependValid.j0 k a0 a1 true) else (if a1 < 0 then (corporalaw09_DependValid.j0 k a0 a1 true) else (corporalaw09_DependValid.j0 k a0 a1 (decide (a1 > 300))))
theorem corporalaw09_DependValid.mono_l : ∀ k, (∀ y0 y1 y2, LeO (corporalaw09_DependValid.j0 k y0 y1 y2) (corporalaw09_DependValid.j0 (k + 1) y0 y1 y2)) ∧ (∀ y0 y1 y2 y3 y4 y5, LeO (corporalaw09_DependValid.l0 k y0 y1 y2 y3 y4 y5) (corporalaw09_DependValid.l0 (k + 1) y0 y1 y2 y3 y4 y5))
 | 0 => ⟨fun _ _ _ r h => by simp [corporalaw09_DependValid.j0] at h, fun _ _ _ _ _ _ r h => by simp [corporalaw09_DependValid.l0] at h⟩
 | k + 1 => by
  obtain ⟨ih0, ih1⟩ := corporalaw09_DependValid.mono_l k
  refine ⟨?_, ?_⟩
  ·
   intro y0 y1 y2
   unfold corporalaw09_DependValid.j0
   with_reducible repeat' first | exact ih0 _ _ _ | exact ih1 _ _ _ _ _ _ | exact corporalaw09_awake.mono _ | exact depend_Check.mono _ _ | exact depend_Parse.mono _ _ _ | exact LeO.refl _ | exact LeO.none _ | refine LeO.ite ?_ ?_ | refine LeO.bind ?_ (fun _ => ?_)
  ·
   intro y0 y1 y2 y3 y4 y5
   unfold corporalaw09_DependValid.l0
   with_reducible repeat' first | exact ih0 _ _ _ | exact ih1 _ _ _ _ _ _ | exact corporalaw09_awake.mono _ | exact depend_Check.mono _ _ | exact depend_Parse.mono _ _ _ | exact LeO.refl _ | exact LeO.none _ | refine LeO.ite ?_ ?_ | refine LeO.bind ?_ (fun _ => ?_)
theorem corporalaw09_DependValid.mono : ∀ a0 a1 k, LeO (corporalaw09_DependValid.f k a0 a1) (corporalaw09_DependValid.f (k + 1) a0 a1) := by
 intro a0 a1 k
 obtain ⟨ih0, ih1⟩ := corporalaw09_DependValid.mono_l k
 unfold corporalaw09_DependValid.f
 with_reducible repeat' first | exact ih0 _ _ _ | exact ih1 _ _ _ _ _ _ | exact corporalaw09_awake.mono _ | exact depend_Check.mono _ _ | exact depend_Parse.mono _ _ _ | exact LeO.refl _ | exact LeO.none _ | refine LeO.ite ?_ ?_ | refine LeO.bind ?_ (fun _ => ?_)
set_option maxHeartbeats 8000000 in
set_option maxRecDepth 100000 in
theorem corporalaw09_DependValid.calls (k : Nat) (a0 : ByteArray) (a1 : Int) (r : Bool) (w : World) (h : corporalaw09_DependValid.f k a0 a1 = some r) :
 Calls Try.prog 10 #[.string a0, .int .i64 a1] w fun e w' => e = .returned (.bool r) ∧ Below w.heap.size w w' := by
 have hu36 := Try.underlying36
 have HB := Aside0.mk (Below.refl w.heap.size w)
 have H : (if (a0.size : Int) > 1500 then (corporalaw09_DependValid.j0 k a0 a1 true) else (if a1 < 0 then (corporalaw09_DependValid.j0 k a0 a1 true) else (corporalaw09_DependValid.j0 k a0 a1 (decide (a1 > 300))))) = some r := h
 clear h
 have HC3 := Aside0.mk H
 clear H
 go_enter Try.func10, Try.ntmps10
 go_upto_region 1 with (fail)
 go_cut [22] (fun v22 wc => ∃ (kq : Nat) (x22_2 : Bool), v22 = .bool x22_2 ∧ Aside0 (corporalaw09_DependValid.j0 kq a0 a1 x22_2 = some r) ∧ Aside0 (kq ≤ k) ∧ Aside0 (Below w.heap.size w wc))
 case first =>
  have H := HC3.out
  clear HC3
  by_cases c4 : (a0.size : Int) > 1500
  ·
   rw [if_pos c4] at H
   have c4b0 : decide (1500 < (a0.size : Int)) = true := decide_eq_true c4
   have c4b1 : decide (1500 < a0.size) = true := decide_eq_true (by omega)
   clear c4
   (first | rw [c4b0] | rw [c4b1] | (simp only [i64_w, i32_w]; rw [c4b0]) | skip)
   have H' := Aside0.mk H
   clear H
   go_wp2
   go_meet
   case rel => exact ⟨_, (true), (BE), H', ⟨by first | omega | exact Nat.le_refl _⟩, ⟨BB⟩⟩
  ·
   rw [if_neg c4] at H
   have c4b0 : decide (1500 < (a0.size : Int)) = false := decide_eq_false c4
   have c4b1 : decide (1500 < a0.size) = false := decide_eq_false (by omega)
   clear c4
   (first | rw [c4b0] | rw [c4b1] | (simp only [i64_w, i32_w]; rw [c4b0]) | skip)
   by_cases c5 : a1 < 0
   ·
    rw [if_pos c5] at H
    have c5b0 : decide (a1 < 0) = true := decide_eq_true c5
    clear c5
    have H' := Aside0.mk H
    clear H
    go_wp2
    go_meet
    case rel => exact ⟨_, (true), (BE), H', ⟨by first | omega | exact Nat.le_refl _⟩, ⟨BB⟩⟩
   ·
    rw [if_neg c5] at H
    have c5b0 : decide (a1 < 0) = false := decide_eq_false c5
    clear c5
    have H' := Aside0.mk H
    clear H
    go_wp2
    go_meet
    case rel => exact ⟨_, (decide (a1 > 300)), (BE), H', ⟨by first | omega | exact Nat.le_refl _⟩, ⟨BB⟩⟩
 case rest =>
  clear HC3
  (try clear c1); (try clear p2); (try clear c4); (try clear c4b0); (try clear c4b1); (try clear c5); (try clear c5b0)
  obtain ⟨kq, x22_2, rfl, HA, HJ2, HB⟩ := hcut
  cases kq with
  | zero => exact absurd HA.out (by simp [corporalaw09_DependValid.j0])
  | succ kj2 =>
   have H := HA.out
   clear HA
   simp only [corporalaw09_DependValid.j0] at H
   by_cases c6 : x22_2 = true
   ·
    subst c6
    have H1 : (some true) = some r := by rw [if_pos rfl] at H; exact H
    clear H
    have H := H1
    clear H1
    obtain rfl := Option.some.inj H
    go_wp2
    go_ret
    exact ⟨BX, BB⟩
   ·
    replace c6 := Bool.eq_false_iff.mpr c6
    subst c6
    have H1 : ((depend_Parse.f kj2 a0 a1).bind fun bt441 => (if bt441.2.2.2.2 = 0 then ((depend_Check.f kj2 bt441.1).bind fun bt451 => (if bt451.2 = 0 then (if (bt441.1.length : Int) = a1 then (if (bt441.2.1.length : Int) = a1 then (if (bt441.2.2.1 == 0 && (bt441.2.2.2.1 == 0)) = true then ((corporalaw09_awake.f kj2).bind fun t453 => (some t453)) else (some false)) else (some false)) else (some false)) else (some false))) else (corporalaw09_DependValid.l0 kj2 a0 bt441.1 bt441.2.1 0 bt441.2.2.1 bt441.2.2.2.1))) = some r := by rw [if_neg (show ¬ (false = true) by decide)] at H; exact H
    clear H
    have H := H1
    clear H1
    replace H := Option.bind_eq_some_iff.mp H
    obtain ⟨⟨t441, t444, t447, t448, t449⟩, A70, H⟩ := H
    replace H : (if t449 = 0 then ((depend_Check.f kj2 t441).bind fun bt451 => (if bt451.2 = 0 then (if (t441.length : Int) = a1 then (if (t444.length : Int) = a1 then (if (t447 == 0 && (t448 == 0)) = true then ((corporalaw09_awake.f kj2).bind fun t453 => (some t453)) else (some false)) else (some false)) else (some false)) else (some false))) else (corporalaw09_DependValid.l0 kj2 a0 t441 t444 0 t447 t448)) = some r := H
    have A7 := Aside0.mk A70
    clear A70
    by_cases c8 : t449 = 0
    ·
     rw [if_pos c8] at H
     have c8b0 : (t449 == 0) = true := beq_iff_eq.mpr c8
     have c8b1 : (t449 != 0) = false := bne_eq_false_iff_eq.mpr c8
     clear c8
     replace H := Option.bind_eq_some_iff.mp H
     obtain ⟨⟨t451, t452⟩, A90, H⟩ := H
     replace H : (if t452 = 0 then (if (t441.length : Int) = a1 then (if (t444.length : Int) = a1 then (if (t447 == 0 && (t448 == 0)) = true then ((corporalaw09_awake.f kj2).bind fun t453 => (some t453)) else (some false)) else (some false)) else (some false)) else (some false)) = some r := H
     have A9 := Aside0.mk A90
     clear A90
     by_cases c10 : t452 = 0
     ·
      rw [if_pos c10] at H
      have c10b0 : (t452 == 0) = true := beq_iff_eq.mpr c10
      have c10b1 : (t452 != 0) = false := bne_eq_false_iff_eq.mpr c10
      clear c10
      by_cases c11 : (t441.length : Int) = a1
      ·
       rw [if_pos c11] at H
       have c11b0 : ((t441.length : Int) == a1) = true := beq_iff_eq.mpr c11
       have c11b1 : ((t441.length : Int) != a1) = false := bne_eq_false_iff_eq.mpr c11
       clear c11
       by_cases c12 : (t444.length : Int) = a1
       ·
        rw [if_pos c12] at H
        have c12b0 : ((t444.length : Int) == a1) = true := beq_iff_eq.mpr c12
        have c12b1 : ((t444.length : Int) != a1) = false := bne_eq_false_iff_eq.mpr c12
        clear c12
        by_cases c13 : (t447 == 0 && (t448 == 0)) = true
        ·
         rw [if_pos c13] at H
         have c13b0 : (t447 == 0 && (t448 == 0)) = true := c13
         (try (have c13b1 : decide (t447 = 0 && (t448 == 0)) = true := by simpa using c13))
         (try (have c13b2 : (t447 == 0 && (t448 == 0)) = true := by simpa using c13))
         clear c13
         replace H := Option.bind_eq_some_iff.mp H
         obtain ⟨t453, A140, H⟩ := H
         replace H : (some t453) = some r := H
         have A14 := Aside0.mk A140
         clear A140
         obtain rfl := Option.some.inj H
         go_wp2_with (first | ((with_reducible refine gate_callee (f := 21) rfl ?_); refine goesL_ (some 26) rfl rfl Try.func21 (by kernel_rfl) rfl #[.string a0, .int .i64 a1] rfl BM ?_; (with_reducible refine (depend_Parse.calls kj2 a0 a1 t441 t444 t447 t448 t449 _ A7.out).mono ?_); rintro e w15 ⟨v442, v445, rfl, ho0, ho1, hb⟩; refine ⟨_, rfl, ?_⟩; have n0_ := Aside0.mk (Kd.R_lower ho0 (below_size (BB))); have n1_ := Aside0.mk (Kd.R_lower ho1 (below_size (BB))); have n2_ := Aside0.mk (below_step (BB) hb); clear HB; have HO443 := n0_; have HO446 := n1_; have HB := n2_; clear n0_ n1_ n2_; (try clear hb); (try clear hb2); (try clear hk); (try clear hi); (try clear ho0); (try clear ho1)) | ((with_reducible refine gate_dst (N := 7) rfl ?_); (try (refine gate_guard (by rfl) ?_; dsimp only)); refine box_event ?hg (N := 7) ?hd (cs := #[.int .i64 0, .int .i64 0]) (t := 36) ?hr ?_; (case hd => rfl); (case hg => rfl); (case hr => first | (go_simp; done) | (go_simp; rfl)); intro gb450 hg w16 hbox hb; have n0_ := Aside0.mk (Kd.R_below (BR HO443.out) hb); have n1_ := Aside0.mk (Kd.R_below (BR HO446.out) hb); have n2_ := Aside0.mk (below_step (BB) hb); have n3_ := Aside0.mk (hbox); have n4_ := Aside0.mk ((by rw [hg]; exact (below_size (BB)) : w.heap.size ≤ gb450)); have n5_ := Aside0.mk ((by rw [hg]; exact (below_size (BB)) : w.heap.size ≤ gb450)); clear HO443; clear HO446; clear HB; have HO443 := n0_; have HO446 := n1_; have HB := n2_; have BK450 := n3_; have GW450 := n4_; have GE450 := n5_; clear n0_ n1_ n2_ n3_ n4_ n5_; clear hb hbox hg; have hcz17_0 : w16.cell? ⟨gb450, 0, none⟩ = some (.int .i64 0) := (blk_cell BK450.out 0).trans rfl; have hcz17_1 : w16.cell? ⟨gb450, 1, none⟩ = some (.int .i64 0) := (blk_cell BK450.out 1).trans rfl; have hfz17_0 := blk_frozen BK450.out 0; have hfz17_1 := blk_frozen BK450.out 1; obtain ⟨Ao18, co18, eo18⟩ := Kd.R_slice HO443.out; subst eo18) | ((with_reducible refine gate_callee (f := 11) rfl ?_); refine goesL_ (some 35) rfl rfl Try.func11 (by kernel_rfl) rfl #[.slice Ao18 t441.length co18] rfl BM ?_; (with_reducible refine (depend_Check.calls kj2 _ _ t441 t451 t452 _ ?side1 ?side2 A9.out).mono ?_); (case side1 => refine (Kd.R_reads' (e := 3) (base := w.heap.size) (ok := fun k_ => True) (n := t441.length) (c := co18) ?_).2.2; exact (by (with_reducible repeat (first | apply Kd.R_alloc | apply Kd.R_drewN | apply Kd.R_drew)); exact (Kd.R_mono (Kd.R_far (p := ⟨gb450, 1, none⟩) (Kd.R_far (p := ⟨gb450, 0, none⟩) (Kd.R_types HO443.out BK450.out (by decide)) (fun _ hk => hk.2) (.int .i64 t447)) (fun _ hk => hk.2) (.int .i64 t448)) (fun _ h_ => h_.1)))); (case side2 => exact (Kd.R_reads' HO443.out).2.1); rintro e w19 ⟨rfl, hb⟩; refine ⟨_, rfl, ?_⟩; have n0_ := Aside0.mk (Kd.R_below (by (with_reducible repeat (first | apply Kd.R_alloc | apply Kd.R_drewN | apply Kd.R_drew)); exact (Kd.R_mono (Kd.R_far (p := ⟨gb450, 1, none⟩) (Kd.R_far (p := ⟨gb450, 0, none⟩) (Kd.R_types HO443.out BK450.out (by decide)) (fun _ hk => hk.2) (.int .i64 t447)) (fun _ hk => hk.2) (.int .i64 t448)) (fun _ h_ => h_.1))) hb); have n1_ := Aside0.mk (Kd.R_below (by (with_reducible repeat (first | apply Kd.R_alloc | apply Kd.R_drewN | apply Kd.R_drew)); exact (Kd.R_mono (Kd.R_far (p := ⟨gb450, 1, none⟩) (Kd.R_far (p := ⟨gb450, 0, none⟩) (Kd.R_types HO446.out BK450.out (by decide)) (fun _ hk => hk.2) (.int .i64 t447)) (fun _ hk => hk.2) (.int .i64 t448)) (fun _ h_ => h_.1))) hb); have n2_ := Aside0.mk (blk_below (g := gb450) (o := .cells #[.int .i64 t447, .int .i64 t448] 36 (0, 0)) (by (with_reducible repeat (first | refine blk_drewN ?_ _ | refine blk_drew ?_ | refine blk_alloc ?_ _)); refine blk_put (cs := #[.int .i64 t447, .int .i64 0]) ?_ 1 _ rfl; (with_reducible repeat (first | refine blk_drewN ?_ _ | refine blk_drew ?_ | refine blk_alloc ?_ _)); refine blk_put (cs := #[.int .i64 0, .int .i64 0]) ?_ 0 _ rfl; (with_reducible repeat (first | refine blk_drewN ?_ _ | refine blk_drew ?_ | refine blk_alloc ?_ _)); exact BK450.out) hb); have n3_ := Aside0.mk (below_step (BS GE450.out) hb); clear HO443; clear HO446; clear BK450; clear HB; have HO443 := n0_; have HO446 := n1_; have BK450 := n2_; have HB := n3_; clear n0_ n1_ n2_ n3_; (try clear hb); (try clear hb2); (try clear hk); (try clear hi); obtain ⟨Ao20, co20, eo20⟩ := Kd.R_slice HO446.out; subst eo20; have hcz21_0 : w19.cell? ⟨gb450, 0, none⟩ = some (.int .i64 t447) := (blk_cell BK450.out 0).trans rfl; have hcz21_1 : w19.cell? ⟨gb450, 1, none⟩ = some (.int .i64 t448) := (blk_cell BK450.out 1).trans rfl; have hfz21_0 := blk_frozen BK450.out 0; have hfz21_1 := blk_frozen BK450.out 1) | (go_at_call 13; (with_reducible refine (corporalaw09_awake.calls kj2  t453 _ A14.out).mono ?_); rintro e w22 ⟨rfl, hb⟩; have n0_ := Aside0.mk (Kd.R_below (BR HO443.out) hb); have n1_ := Aside0.mk (Kd.R_below (BR HO446.out) hb); have n2_ := Aside0.mk (blk_below (g := gb450) (o := .cells #[.int .i64 t447, .int .i64 t448] 36 (0, 0)) (by (with_reducible repeat (first | refine blk_drewN ?_ _ | refine blk_drew ?_ | refine blk_alloc ?_ _)); exact BK450.out) hb); have n3_ := Aside0.mk (below_step (BS GE450.out) hb); clear HO443; clear HO446; clear BK450; clear HB; have HO443 := n0_; have HO446 := n1_; have BK450 := n2_; have HB := n3_; clear n0_ n1_ n2_ n3_; (try clear hb); (try clear hb2); (try clear hk); (try clear hi)))
         go_ret
         exact ⟨BX, BS GE450.out⟩
        ·
         rw [if_neg c13] at H
         have c13b0 : (t447 == 0 && (t448 == 0)) = false := by simpa using c13
         (try (have c13b1 : decide (t447 = 0 && (t448 == 0)) = false := by simpa using c13))
         (try (have c13b2 : (t447 == 0 && (t448 == 0)) = false := by simpa using c13))
         (try (have c13b3 : ¬ (t447 = 0 && (t448 == 0)) := by simpa using c13))
         clear c13
         obtain rfl := Option.some.inj H
         go_wp2_with (first | ((with_reducible refine gate_callee (f := 21) rfl ?_); refine goesL_ (some 26) rfl rfl Try.func21 (by kernel_rfl) rfl #[.string a0, .int .i64 a1] rfl BM ?_; (with_reducible refine (depend_Parse.calls kj2 a0 a1 t441 t444 t447 t448 t449 _ A7.out).mono ?_); rintro e w23 ⟨v442, v445, rfl, ho0, ho1, hb⟩; refine ⟨_, rfl, ?_⟩; have n0_ := Aside0.mk (Kd.R_lower ho0 (below_size (BB))); have n1_ := Aside0.mk (Kd.R_lower ho1 (below_size (BB))); have n2_ := Aside0.mk (below_step (BB) hb); clear HB; have HO443 := n0_; have HO446 := n1_; have HB := n2_; clear n0_ n1_ n2_; (try clear hb); (try clear hb2); (try clear hk); (try clear hi); (try clear ho0); (try clear ho1)) | ((with_reducible refine gate_dst (N := 7) rfl ?_); (try (refine gate_guard (by rfl) ?_; dsimp only)); refine box_event ?hg (N := 7) ?hd (cs := #[.int .i64 0, .int .i64 0]) (t := 36) ?hr ?_; (case hd => rfl); (case hg => rfl); (case hr => first | (go_simp; done) | (go_simp; rfl)); intro gb450 hg w24 hbox hb; have n0_ := Aside0.mk (Kd.R_below (BR HO443.out) hb); have n1_ := Aside0.mk (Kd.R_below (BR HO446.out) hb); have n2_ := Aside0.mk (below_step (BB) hb); have n3_ := Aside0.mk (hbox); have n4_ := Aside0.mk ((by rw [hg]; exact (below_size (BB)) : w.heap.size ≤ gb450)); have n5_ := Aside0.mk ((by rw [hg]; exact (below_size (BB)) : w.heap.size ≤ gb450)); clear HO443; clear HO446; clear HB; have HO443 := n0_; have HO446 := n1_; have HB := n2_; have BK450 := n3_; have GW450 := n4_; have GE450 := n5_; clear n0_ n1_ n2_ n3_ n4_ n5_; clear hb hbox hg; have hcz25_0 : w24.cell? ⟨gb450, 0, none⟩ = some (.int .i64 0) := (blk_cell BK450.out 0).trans rfl; have hcz25_1 : w24.cell? ⟨gb450, 1, none⟩ = some (.int .i64 0) := (blk_cell BK450.out 1).trans rfl; have hfz25_0 := blk_frozen BK450.out 0; have hfz25_1 := blk_frozen BK450.out 1; obtain ⟨Ao26, co26, eo26⟩ := Kd.R_slice HO443.out; subst eo26) | ((with_reducible refine gate_callee (f := 11) rfl ?_); refine goesL_ (some 35) rfl rfl Try.func11 (by kernel_rfl) rfl #[.slice Ao26 t441.length co26] rfl BM ?_; (with_reducible refine (depend_Check.calls kj2 _ _ t441 t451 t452 _ ?side1 ?side2 A9.out).mono ?_); (case side1 => refine (Kd.R_reads' (e := 3) (base := w.heap.size) (ok := fun k_ => True) (n := t441.length) (c := co26) ?_).2.2; exact (by (with_reducible repeat (first | apply Kd.R_alloc | apply Kd.R_drewN | apply Kd.R_drew)); exact (Kd.R_mono (Kd.R_far (p := ⟨gb450, 1, none⟩) (Kd.R_far (p := ⟨gb450, 0, none⟩) (Kd.R_types HO443.out BK450.out (by decide)) (fun _ hk => hk.2) (.int .i64 t447)) (fun _ hk => hk.2) (.int .i64 t448)) (fun _ h_ => h_.1)))); (case side2 => exact (Kd.R_reads' HO443.out).2.1); rintro e w27 ⟨rfl, hb⟩; refine ⟨_, rfl, ?_⟩; have n0_ := Aside0.mk (Kd.R_below (by (with_reducible repeat (first | apply Kd.R_alloc | apply Kd.R_drewN | apply Kd.R_drew)); exact (Kd.R_mono (Kd.R_far (p := ⟨gb450, 1, none⟩) (Kd.R_far (p := ⟨gb450, 0, none⟩) (Kd.R_types HO443.out BK450.out (by decide)) (fun _ hk => hk.2) (.int .i64 t447)) (fun _ hk => hk.2) (.int .i64 t448)) (fun _ h_ => h_.1))) hb); have n1_ := Aside0.mk (Kd.R_below (by (with_reducible repeat (first | apply Kd.R_alloc | apply Kd.R_drewN | apply Kd.R_drew)); exact (Kd.R_mono (Kd.R_far (p := ⟨gb450, 1, none⟩) (Kd.R_far (p := ⟨gb450, 0, none⟩) (Kd.R_types HO446.out BK450.out (by decide)) (fun _ hk => hk.2) (.int .i64 t447)) (fun _ hk => hk.2) (.int .i64 t448)) (fun _ h_ => h_.1))) hb); have n2_ := Aside0.mk (blk_below (g := gb450) (o := .cells #[.int .i64 t447, .int .i64 t448] 36 (0, 0)) (by (with_reducible repeat (first | refine blk_drewN ?_ _ | refine blk_drew ?_ | refine blk_alloc ?_ _)); refine blk_put (cs := #[.int .i64 t447, .int .i64 0]) ?_ 1 _ rfl; (with_reducible repeat (first | refine blk_drewN ?_ _ | refine blk_drew ?_ | refine blk_alloc ?_ _)); refine blk_put (cs := #[.int .i64 0, .int .i64 0]) ?_ 0 _ rfl; (with_reducible repeat (first | refine blk_drewN ?_ _ | refine blk_drew ?_ | refine blk_alloc ?_ _)); exact BK450.out) hb); have n3_ := Aside0.mk (below_step (BS GE450.out) hb); clear HO443; clear HO446; clear BK450; clear HB; have HO443 := n0_; have HO446 := n1_; have BK450 := n2_; have HB := n3_; clear n0_ n1_ n2_ n3_; (try clear hb); (try clear hb2); (try clear hk); (try clear hi); obtain ⟨Ao28, co28, eo28⟩ := Kd.R_slice HO446.out; subst eo28; have hcz29_0 : w27.cell? ⟨gb450, 0, none⟩ = some (.int .i64 t447) := (blk_cell BK450.out 0).trans rfl; have hcz29_1 : w27.cell? ⟨gb450, 1, none⟩ = some (.int .i64 t448) := (blk_cell BK450.out 1).trans rfl; have hfz29_0 := blk_frozen BK450.out 0; have hfz29_1 := blk_frozen BK450.out 1))
         go_ret
         exact ⟨BX, BS GE450.out⟩
       ·
        rw [if_neg c12] at H
        have c12b0 : ((t444.length : Int) == a1) = false := beq_eq_false_iff_ne.mpr c12
        have c12b1 : ((t444.length : Int) != a1) = true := bne_iff_ne.mpr c12
        obtain rfl := Option.some.inj H
        go_wp2_with (first | ((with_reducible refine gate_callee (f := 21) rfl ?_); refine goesL_ (some 26) rfl rfl Try.func21 (by kernel_rfl) rfl #[.string a0, .int .i64 a1] rfl BM ?_; (with_reducible refine (depend_Parse.calls kj2 a0 a1 t441 t444 t447 t448 t449 _ A7.out).mono ?_); rintro e w30 ⟨v442, v445, rfl, ho0, ho1, hb⟩; refine ⟨_, rfl, ?_⟩; have n0_ := Aside0.mk (Kd.R_lower ho0 (below_size (BB))); have n1_ := Aside0.mk (Kd.R_lower ho1 (below_size (BB))); have n2_ := Aside0.mk (below_step (BB) hb); clear HB; have HO443 := n0_; have HO446 := n1_; have HB := n2_; clear n0_ n1_ n2_; (try clear hb); (try clear hb2); (try clear hk); (try clear hi); (try clear ho0); (try clear ho1)) | ((with_reducible refine gate_dst (N := 7) rfl ?_); (try (refine gate_guard (by rfl) ?_; dsimp only)); refine box_event ?hg (N := 7) ?hd (cs := #[.int .i64 0, .int .i64 0]) (t := 36) ?hr ?_; (case hd => rfl); (case hg => rfl); (case hr => first | (go_simp; done) | (go_simp; rfl)); intro gb450 hg w31 hbox hb; have n0_ := Aside0.mk (Kd.R_below (BR HO443.out) hb); have n1_ := Aside0.mk (Kd.R_below (BR HO446.out) hb); have n2_ := Aside0.mk (below_step (BB) hb); have n3_ := Aside0.mk (hbox); have n4_ := Aside0.mk ((by rw [hg]; exact (below_size (BB)) : w.heap.size ≤ gb450)); have n5_ := Aside0.mk ((by rw [hg]; exact (below_size (BB)) : w.heap.size ≤ gb450)); clear HO443; clear HO446; clear HB; have HO443 := n0_; have HO446 := n1_; have HB := n2_; have BK450 := n3_; have GW450 := n4_; have GE450 := n5_; clear n0_ n1_ n2_ n3_ n4_ n5_; clear hb hbox hg; have hcz32_0 : w31.cell? ⟨gb450, 0, none⟩ = some (.int .i64 0) := (blk_cell BK450.out 0).trans rfl; have hcz32_1 : w31.cell? ⟨gb450, 1, none⟩ = some (.int .i64 0) := (blk_cell BK450.out 1).trans rfl; have hfz32_0 := blk_frozen BK450.out 0; have hfz32_1 := blk_frozen BK450.out 1; obtain ⟨Ao33, co33, eo33⟩ := Kd.R_slice HO443.out; subst eo33) | ((with_reducible refine gate_callee (f := 11) rfl ?_); refine goesL_ (some 35) rfl rfl Try.func11 (by kernel_rfl) rfl #[.slice Ao33 t441.length co33] rfl BM ?_; (with_reducible refine (depend_Check.calls kj2 _ _ t441 t451 t452 _ ?side1 ?side2 A9.out).mono ?_); (case side1 => refine (Kd.R_reads' (e := 3) (base := w.heap.size) (ok := fun k_ => True) (n := t441.length) (c := co33) ?_).2.2; exact (by (with_reducible repeat (first | apply Kd.R_alloc | apply Kd.R_drewN | apply Kd.R_drew)); exact (Kd.R_mono (Kd.R_far (p := ⟨gb450, 1, none⟩) (Kd.R_far (p := ⟨gb450, 0, none⟩) (Kd.R_types HO443.out BK450.out (by decide)) (fun _ hk => hk.2) (.int .i64 t447)) (fun _ hk => hk.2) (.int .i64 t448)) (fun _ h_ => h_.1)))); (case side2 => exact (Kd.R_reads' HO443.out).2.1); rintro e w34 ⟨rfl, hb⟩; refine ⟨_, rfl, ?_⟩; have n0_ := Aside0.mk (Kd.R_below (by (with_reducible repeat (first | apply Kd.R_alloc | apply Kd.R_drewN | apply Kd.R_drew)); exact (Kd.R_mono (Kd.R_far (p := ⟨gb450, 1, none⟩) (Kd.R_far (p := ⟨gb450, 0, none⟩) (Kd.R_types HO443.out BK450.out (by decide)) (fun _ hk => hk.2) (.int .i64 t447)) (fun _ hk => hk.2) (.int .i64 t448)) (fun _ h_ => h_.1))) hb); have n1_ := Aside0.mk (Kd.R_below (by (with_reducible repeat (first | apply Kd.R_alloc | apply Kd.R_drewN | apply Kd.R_drew)); exact (Kd.R_mono (Kd.R_far (p := ⟨gb450, 1, none⟩) (Kd.R_far (p := ⟨gb450, 0, none⟩) (Kd.R_types HO446.out BK450.out (by decide)) (fun _ hk => hk.2) (.int .i64 t447)) (fun _ hk => hk.2) (.int .i64 t448)) (fun _ h_ => h_.1))) hb); have n2_ := Aside0.mk (blk_below (g := gb450) (o := .cells #[.int .i64 t447, .int .i64 t448] 36 (0, 0)) (by (with_reducible repeat (first | refine blk_drewN ?_ _ | refine blk_drew ?_ | refine blk_alloc ?_ _)); refine blk_put (cs := #[.int .i64 t447, .int .i64 0]) ?_ 1 _ rfl; (with_reducible repeat (first | refine blk_drewN ?_ _ | refine blk_drew ?_ | refine blk_alloc ?_ _)); refine blk_put (cs := #[.int .i64 0, .int .i64 0]) ?_ 0 _ rfl; (with_reducible repeat (first | refine blk_drewN ?_ _ | refine blk_drew ?_ | refine blk_alloc ?_ _)); exact BK450.out) hb); have n3_ := Aside0.mk (below_step (BS GE450.out) hb); clear HO443; clear HO446; clear BK450; clear HB; have HO443 := n0_; have HO446 := n1_; have BK450 := n2_; have HB := n3_; clear n0_ n1_ n2_ n3_; (try clear hb); (try clear hb2); (try clear hk); (try clear hi); obtain ⟨Ao35, co35, eo35⟩ := Kd.R_slice HO446.out; subst eo35))
        go_ret
        exact ⟨BX, BS GE450.out⟩
      ·
       rw [if_neg c11] at H
       have c11b0 : ((t441.length : Int) == a1) = false := beq_eq_false_iff_ne.mpr c11
       have c11b1 : ((t441.length : Int) != a1) = true := bne_iff_ne.mpr c11
       obtain rfl := Option.some.inj H
       go_wp2_with (first | ((with_reducible refine gate_callee (f := 21) rfl ?_); refine goesL_ (some 26) rfl rfl Try.func21 (by kernel_rfl) rfl #[.string a0, .int .i64 a1] rfl BM ?_; (with_reducible refine (depend_Parse.calls kj2 a0 a1 t441 t444 t447 t448 t449 _ A7.out).mono ?_); rintro e w36 ⟨v442, v445, rfl, ho0, ho1, hb⟩; refine ⟨_, rfl, ?_⟩; have n0_ := Aside0.mk (Kd.R_lower ho0 (below_size (BB))); have n1_ := Aside0.mk (Kd.R_lower ho1 (below_size (BB))); have n2_ := Aside0.mk (below_step (BB) hb); clear HB; have HO443 := n0_; have HO446 := n1_; have HB := n2_; clear n0_ n1_ n2_; (try clear hb); (try clear hb2); (try clear hk); (try clear hi); (try clear ho0); (try clear ho1)) | ((with_reducible refine gate_dst (N := 7) rfl ?_); (try (refine gate_guard (by rfl) ?_; dsimp only)); refine box_event ?hg (N := 7) ?hd (cs := #[.int .i64 0, .int .i64 0]) (t := 36) ?hr ?_; (case hd => rfl); (case hg => rfl); (case hr => first | (go_simp; done) | (go_simp; rfl)); intro gb450 hg w37 hbox hb; have n0_ := Aside0.mk (Kd.R_below (BR HO443.out) hb); have n1_ := Aside0.mk (Kd.R_below (BR HO446.out) hb); have n2_ := Aside0.mk (below_step (BB) hb); have n3_ := Aside0.mk (hbox); have n4_ := Aside0.mk ((by rw [hg]; exact (below_size (BB)) : w.heap.size ≤ gb450)); have n5_ := Aside0.mk ((by rw [hg]; exact (below_size (BB)) : w.heap.size ≤ gb450)); clear HO443; clear HO446; clear HB; have HO443 := n0_; have HO446 := n1_; have HB := n2_; have BK450 := n3_; have GW450 := n4_; have GE450 := n5_; clear n0_ n1_ n2_ n3_ n4_ n5_; clear hb hbox hg; have hcz38_0 : w37.cell? ⟨gb450, 0, none⟩ = some (.int .i64 0) := (blk_cell BK450.out 0).trans rfl; have hcz38_1 : w37.cell? ⟨gb450, 1, none⟩ = some (.int .i64 0) := (blk_cell BK450.out 1).trans rfl; have hfz38_0 := blk_frozen BK450.out 0; have hfz38_1 := blk_frozen BK450.out 1; obtain ⟨Ao39, co39, eo39⟩ := Kd.R_slice HO443.out; subst eo39) | ((with_reducible refine gate_callee (f := 11) rfl ?_); refine goesL_ (some 35) rfl rfl Try.func11 (by kernel_rfl) rfl #[.slice Ao39 t441.length co39] rfl BM ?_; (with_reducible refine (depend_Check.calls kj2 _ _ t441 t451 t452 _ ?side1 ?side2 A9.out).mono ?_); (case side1 => refine (Kd.R_reads' (e := 3) (base := w.heap.size) (ok := fun k_ => True) (n := t441.length) (c := co39) ?_).2.2; exact (by (with_reducible repeat (first | apply Kd.R_alloc | apply Kd.R_drewN | apply Kd.R_drew)); exact (Kd.R_mono (Kd.R_far (p := ⟨gb450, 1, none⟩) (Kd.R_far (p := ⟨gb450, 0, none⟩) (Kd.R_types HO443.out BK450.out (by decide)) (fun _ hk => hk.2) (.int .i64 t447)) (fun _ hk => hk.2) (.int .i64 t448)) (fun _ h_ => h_.1)))); (case side2 => exact (Kd.R_reads' HO443.out).2.1); rintro e w40 ⟨rfl, hb⟩; refine ⟨_, rfl, ?_⟩; have n0_ := Aside0.mk (Kd.R_below (by (with_reducible repeat (first | apply Kd.R_alloc | apply Kd.R_drewN | apply Kd.R_drew)); exact (Kd.R_mono (Kd.R_far (p := ⟨gb450, 1, none⟩) (Kd.R_far (p := ⟨gb450, 0, none⟩) (Kd.R_types HO443.out BK450.out (by decide)) (fun _ hk => hk.2) (.int .i64 t447)) (fun _ hk => hk.2) (.int .i64 t448)) (fun _ h_ => h_.1))) hb); have n1_ := Aside0.mk (Kd.R_below (by (with_reducible repeat (first | apply Kd.R_alloc | apply Kd.R_drewN | apply Kd.R_drew)); exact (Kd.R_mono (Kd.R_far (p := ⟨gb450, 1, none⟩) (Kd.R_far (p := ⟨gb450, 0, none⟩) (Kd.R_types HO446.out BK450.out (by decide)) (fun _ hk => hk.2) (.int .i64 t447)) (fun _ hk => hk.2) (.int .i64 t448)) (fun _ h_ => h_.1))) hb); have n2_ := Aside0.mk (blk_below (g := gb450) (o := .cells #[.int .i64 t447, .int .i64 t448] 36 (0, 0)) (by (with_reducible repeat (first | refine blk_drewN ?_ _ | refine blk_drew ?_ | refine blk_alloc ?_ _)); refine blk_put (cs := #[.int .i64 t447, .int .i64 0]) ?_ 1 _ rfl; (with_reducible repeat (first | refine blk_drewN ?_ _ | refine blk_drew ?_ | refine blk_alloc ?_ _)); refine blk_put (cs := #[.int .i64 0, .int .i64 0]) ?_ 0 _ rfl; (with_reducible repeat (first | refine blk_drewN ?_ _ | refine blk_drew ?_ | refine blk_alloc ?_ _)); exact BK450.out) hb); have n3_ := Aside0.mk (below_step (BS GE450.out) hb); clear HO443; clear HO446; clear BK450; clear HB; have HO443 := n0_; have HO446 := n1_; have BK450 := n2_; have HB := n3_; clear n0_ n1_ n2_ n3_; (try clear hb); (try clear hb2); (try clear hk); (try clear hi)))
       go_ret
       exact ⟨BX, BS GE450.out⟩
     ·
      rw [if_neg c10] at H
      have c10b0 : (t452 == 0) = false := beq_eq_false_iff_ne.mpr c10
      have c10b1 : (t452 != 0) = true := bne_iff_ne.mpr c10
      obtain rfl := Option.some.inj H
      go_wp2_with (first | ((with_reducible refine gate_callee (f := 21) rfl ?_); refine goesL_ (some 26) rfl rfl Try.func21 (by kernel_rfl) rfl #[.string a0, .int .i64 a1] rfl BM ?_; (with_reducible refine (depend_Parse.calls kj2 a0 a1 t441 t444 t447 t448 t449 _ A7.out).mono ?_); rintro e w41 ⟨v442, v445, rfl, ho0, ho1, hb⟩; refine ⟨_, rfl, ?_⟩; have n0_ := Aside0.mk (Kd.R_lower ho0 (below_size (BB))); have n1_ := Aside0.mk (Kd.R_lower ho1 (below_size (BB))); have n2_ := Aside0.mk (below_step (BB) hb); clear HB; have HO443 := n0_; have HO446 := n1_; have HB := n2_; clear n0_ n1_ n2_; (try clear hb); (try clear hb2); (try clear hk); (try clear hi); (try clear ho0); (try clear ho1)) | ((with_reducible refine gate_dst (N := 7) rfl ?_); (try (refine gate_guard (by rfl) ?_; dsimp only)); refine box_event ?hg (N := 7) ?hd (cs := #[.int .i64 0, .int .i64 0]) (t := 36) ?hr ?_; (case hd => rfl); (case hg => rfl); (case hr => first | (go_simp; done) | (go_simp; rfl)); intro gb450 hg w42 hbox hb; have n0_ := Aside0.mk (Kd.R_below (BR HO443.out) hb); have n1_ := Aside0.mk (Kd.R_below (BR HO446.out) hb); have n2_ := Aside0.mk (below_step (BB) hb); have n3_ := Aside0.mk (hbox); have n4_ := Aside0.mk ((by rw [hg]; exact (below_size (BB)) : w.heap.size ≤ gb450)); have n5_ := Aside0.mk ((by rw [hg]; exact (below_size (BB)) : w.heap.size ≤ gb450)); clear HO443; clear HO446; clear HB; have HO443 := n0_; have HO446 := n1_; have HB := n2_; have BK450 := n3_; have GW450 := n4_; have GE450 := n5_; clear n0_ n1_ n2_ n3_ n4_ n5_; clear hb hbox hg; have hcz43_0 : w42.cell? ⟨gb450, 0, none⟩ = some (.int .i64 0) := (blk_cell BK450.out 0).trans rfl; have hcz43_1 : w42.cell? ⟨gb450, 1, none⟩ = some (.int .i64 0) := (blk_cell BK450.out 1).trans rfl; have hfz43_0 := blk_frozen BK450.out 0; have hfz43_1 := blk_frozen BK450.out 1; obtain ⟨Ao44, co44, eo44⟩ := Kd.R_slice HO443.out; subst eo44) | ((with_reducible refine gate_callee (f := 11) rfl ?_); refine goesL_ (some 35) rfl rfl Try.func11 (by kernel_rfl) rfl #[.slice Ao44 t441.length co44] rfl BM ?_; (with_reducible refine (depend_Check.calls kj2 _ _ t441 t451 t452 _ ?side1 ?side2 A9.out).mono ?_); (case side1 => refine (Kd.R_reads' (e := 3) (base := w.heap.size) (ok := fun k_ => True) (n := t441.length) (c := co44) ?_).2.2; exact (by (with_reducible repeat (first | apply Kd.R_alloc | apply Kd.R_drewN | apply Kd.R_drew)); exact (Kd.R_mono (Kd.R_far (p := ⟨gb450, 1, none⟩) (Kd.R_far (p := ⟨gb450, 0, none⟩) (Kd.R_types HO443.out BK450.out (by decide)) (fun _ hk => hk.2) (.int .i64 t447)) (fun _ hk => hk.2) (.int .i64 t448)) (fun _ h_ => h_.1)))); (case side2 => exact (Kd.R_reads' HO443.out).2.1); rintro e w45 ⟨rfl, hb⟩; refine ⟨_, rfl, ?_⟩; have n0_ := Aside0.mk (Kd.R_below (by (with_reducible repeat (first | apply Kd.R_alloc | apply Kd.R_drewN | apply Kd.R_drew)); exact (Kd.R_mono (Kd.R_far (p := ⟨gb450, 1, none⟩) (Kd.R_far (p := ⟨gb450, 0, none⟩) (Kd.R_types HO443.out BK450.out (by decide)) (fun _ hk => hk.2) (.int .i64 t447)) (fun _ hk => hk.2) (.int .i64 t448)) (fun _ h_ => h_.1))) hb); have n1_ := Aside0.mk (Kd.R_below (by (with_reducible repeat (first | apply Kd.R_alloc | apply Kd.R_drewN | apply Kd.R_drew)); exact (Kd.R_mono (Kd.R_far (p := ⟨gb450, 1, none⟩) (Kd.R_far (p := ⟨gb450, 0, none⟩) (Kd.R_types HO446.out BK450.out (by decide)) (fun _ hk => hk.2) (.int .i64 t447)) (fun _ hk => hk.2) (.int .i64 t448)) (fun _ h_ => h_.1))) hb); have n2_ := Aside0.mk (blk_below (g := gb450) (o := .cells #[.int .i64 t447, .int .i64 t448] 36 (0, 0)) (by (with_reducible repeat (first | refine blk_drewN ?_ _ | refine blk_drew ?_ | refine blk_alloc ?_ _)); refine blk_put (cs := #[.int .i64 t447, .int .i64 0]) ?_ 1 _ rfl; (with_reducible repeat (first | refine blk_drewN ?_ _ | refine blk_drew ?_ | refine blk_alloc ?_ _)); refine blk_put (cs := #[.int .i64 0, .int .i64 0]) ?_ 0 _ rfl; (with_reducible repeat (first | refine blk_drewN ?_ _ | refine blk_drew ?_ | refine blk_alloc ?_ _)); exact BK450.out) hb); have n3_ := Aside0.mk (below_step (BS GE450.out) hb); clear HO443; clear HO446; clear BK450; clear HB; have HO443 := n0_; have HO446 := n1_; have BK450 := n2_; have HB := n3_; clear n0_ n1_ n2_ n3_; (try clear hb); (try clear hb2); (try clear hk); (try clear hi)))
      go_ret
      exact ⟨BX, BS GE450.out⟩
    ·
     rw [if_neg c8] at H
     have c8b0 : (t449 == 0) = false := beq_eq_false_iff_ne.mpr c8
     have c8b1 : (t449 != 0) = true := bne_iff_ne.mpr c8
     have H' := Aside0.mk H
     clear H
     go_wp2_with (first | ((with_reducible refine gate_callee (f := 21) rfl ?_); refine goesL_ (some 26) rfl rfl Try.func21 (by kernel_rfl) rfl #[.string a0, .int .i64 a1] rfl BM ?_; (with_reducible refine (depend_Parse.calls kj2 a0 a1 t441 t444 t447 t448 t449 _ A7.out).mono ?_); rintro e w46 ⟨v442, v445, rfl, ho0, ho1, hb⟩; refine ⟨_, rfl, ?_⟩; have n0_ := Aside0.mk (Kd.R_lower ho0 (below_size (BB))); have n1_ := Aside0.mk (Kd.R_lower ho1 (below_size (BB))); have n2_ := Aside0.mk (below_step (BB) hb); clear HB; have HO443 := n0_; have HO446 := n1_; have HB := n2_; clear n0_ n1_ n2_; (try clear hb); (try clear hb2); (try clear hk); (try clear hi); (try clear ho0); (try clear ho1)) | ((with_reducible refine gate_dst (N := 7) rfl ?_); (try (refine gate_guard (by rfl) ?_; dsimp only)); refine box_event ?hg (N := 7) ?hd (cs := #[.int .i64 0, .int .i64 0]) (t := 36) ?hr ?_; (case hd => rfl); (case hg => rfl); (case hr => first | (go_simp; done) | (go_simp; rfl)); intro gb450 hg w47 hbox hb; have n0_ := Aside0.mk (Kd.R_below (BR HO443.out) hb); have n1_ := Aside0.mk (Kd.R_below (BR HO446.out) hb); have n2_ := Aside0.mk (below_step (BB) hb); have n3_ := Aside0.mk (hbox); have n4_ := Aside0.mk ((by rw [hg]; exact (below_size (BB)) : w.heap.size ≤ gb450)); have n5_ := Aside0.mk ((by rw [hg]; exact (below_size (BB)) : w.heap.size ≤ gb450)); clear HO443; clear HO446; clear HB; have HO443 := n0_; have HO446 := n1_; have HB := n2_; have BK450 := n3_; have GW450 := n4_; have GE450 := n5_; clear n0_ n1_ n2_ n3_ n4_ n5_; clear hb hbox hg; have hcz48_0 : w47.cell? ⟨gb450, 0, none⟩ = some (.int .i64 0) := (blk_cell BK450.out 0).trans rfl; have hcz48_1 : w47.cell? ⟨gb450, 1, none⟩ = some (.int .i64 0) := (blk_cell BK450.out 1).trans rfl; have hfz48_0 := blk_frozen BK450.out 0; have hfz48_1 := blk_frozen BK450.out 1))
     go_loopg [11] kj2 (fun kq v11 w' => ∃ (x11_2 : Int), v11 = .int .i64 x11_2 ∧ Aside0 (corporalaw09_DependValid.l0 kq a0 t441 t444 x11_2 t447 t448 = some r) ∧ Aside0 (kq ≤ kj2) ∧ Aside0 (Kd.R (Kd.int .i64) 3 w' w.heap.size (fun _ => True) v442 t441) ∧ Aside0 (Kd.R Kd.string 9 w' w.heap.size (fun _ => True) v445 t444) ∧ Aside0 (w'.heap[gb450]? = some (.cells #[.int .i64 t447, .int .i64 t448] 36 (0, 0))) ∧ Aside0 (Below w.heap.size w w'))
     case atStart => exact ⟨(0), (BE), H', ⟨Nat.le_refl _⟩, ⟨by (with_reducible repeat (first | apply Kd.R_alloc | apply Kd.R_drewN | apply Kd.R_drew)); exact Kd.R_mono (Kd.R_far (p := ⟨gb450, 1, none⟩) (Kd.R_far (p := ⟨gb450, 0, none⟩) (Kd.R_types HO443.out BK450.out (by decide)) (fun _ hk => hk.2) (.int .i64 t447)) (fun _ hk => hk.2) (.int .i64 t448)) (fun _ hk => trivial)⟩, ⟨by (with_reducible repeat (first | apply Kd.R_alloc | apply Kd.R_drewN | apply Kd.R_drew)); exact Kd.R_mono (Kd.R_far (p := ⟨gb450, 1, none⟩) (Kd.R_far (p := ⟨gb450, 0, none⟩) (Kd.R_types HO446.out BK450.out (by decide)) (fun _ hk => hk.2) (.int .i64 t447)) (fun _ hk => hk.2) (.int .i64 t448)) (fun _ hk => trivial)⟩, ⟨by (with_reducible repeat (first | refine blk_drewN ?_ _ | refine blk_drew ?_ | refine blk_alloc ?_ _)); refine blk_put (cs := #[.int .i64 t447, .int .i64 0]) ?_ 1 _ rfl; (with_reducible repeat (first | refine blk_drewN ?_ _ | refine blk_drew ?_ | refine blk_alloc ?_ _)); refine blk_put (cs := #[.int .i64 0, .int .i64 0]) ?_ 0 _ rfl; (with_reducible repeat (first | refine blk_drewN ?_ _ | refine blk_drew ?_ | refine blk_alloc ?_ _)); exact BK450.out⟩, ⟨BS GE450.out⟩⟩
     case round =>
      clear H'
      (try clear c1); (try clear c2); (try clear p2); (try clear c4); (try clear c4b0); (try clear c4b1); (try clear c5); (try clear c5b0); (try clear c6); (try clear c8); (try clear c8b0); (try clear c8b1); (try clear c10)
      (try clear c10b0); (try clear c10b1); (try clear c11); (try clear c11b0); (try clear c11b1); (try clear c12); (try clear c12b0); (try clear c12b1); (try clear c13); (try clear c13b0); (try clear c13b1); (try clear c13b2)
      (try clear c21); (try clear hcz17_0); (try clear hcz17_1); (try clear hcz21_0); (try clear hcz21_1); (try clear hcz25_0); (try clear hcz25_1); (try clear hcz29_0); (try clear hcz29_1); (try clear hcz32_0); (try clear hcz32_1)
      (try clear hcz38_0); (try clear hcz38_1); (try clear hcz43_0); (try clear hcz43_1); (try clear hcz48_0); (try clear hcz48_1); (try clear hfz17_0); (try clear hfz17_1); (try clear hfz21_0); (try clear hfz21_1)
      (try clear hfz25_0); (try clear hfz25_1); (try clear hfz29_0); (try clear hfz29_1); (try clear hfz32_0); (try clear hfz32_1); (try clear hfz38_0); (try clear hfz38_1); (try clear hfz43_0); (try clear hfz43_1)
      (try clear hfz48_0); (try clear hfz48_1); (try clear p2)
      obtain ⟨x11_2, rfl, HA, HK2, HO_5, HO_6, BK450, HB⟩ := hrel
      cases gk with
      | zero => exact absurd HA.out (by simp [corporalaw09_DependValid.l0])
      | succ k2 =>
       have H := HA.out
       clear HA
       simp only [corporalaw09_DependValid.l0] at H
       by_cases c49 : x11_2 ≤ (a0.size : Int)
       ·
        rw [if_pos c49] at H
        have c49b0 : decide (x11_2 ≤ (a0.size : Int)) = true := decide_eq_true c49
        clear c49
        replace H := Option.bind_eq_some_iff.mp H
        obtain ⟨⟨t454, t455⟩, A500, H⟩ := H
        replace H : (if (t454 == t447 && (t455 == t448)) = true then (if (t441.length : Int) = 0 then (if (t444.length : Int) = 0 then ((corporalaw09_awake.f k2).bind fun t456 => (some t456)) else (some false)) else (some false)) else (corporalaw09_DependValid.l0 k2 a0 t441 t444 (wrap64 (x11_2 + 1)) t447 t448)) = some r := H
        have A50 := Aside0.mk A500
        clear A500
        by_cases c51 : (t454 == t447 && (t455 == t448)) = true
        ·
         rw [if_pos c51] at H
         have c51b0 : (t454 == t447 && (t455 == t448)) = true := c51
         (try (have c51b1 : decide (t454 = t447 && (t455 == t448)) = true := by simpa using c51))
         (try (have c51b2 : (t454 == t447 && (t455 == t448)) = true := by simpa using c51))
         clear c51
         by_cases c52 : (t441.length : Int) = 0
         ·
          rw [if_pos c52] at H
          have c52b0 : ((t441.length : Int) == 0) = true := beq_iff_eq.mpr c52
          have c52b1 : ((t441.length : Int) != 0) = false := bne_eq_false_iff_eq.mpr c52
          clear c52
          by_cases c53 : (t444.length : Int) = 0
          ·
           rw [if_pos c53] at H
           have c53b0 : ((t444.length : Int) == 0) = true := beq_iff_eq.mpr c53
           have c53b1 : ((t444.length : Int) != 0) = false := bne_eq_false_iff_eq.mpr c53
           clear c53
           replace H := Option.bind_eq_some_iff.mp H
           obtain ⟨t456, A540, H⟩ := H
           replace H : (some t456) = some r := H
           have A54 := Aside0.mk A540
           clear A540
           obtain rfl := Option.some.inj H
           try go_wp2
           have n0_ := Aside0.mk (Kd.R_drew HO_5.out)
           have n1_ := Aside0.mk (Kd.R_drew HO_6.out)
           have n2_ := Aside0.mk (blk_drew BK450.out)
           have n3_ := Aside0.mk (below_drew1 HB.out)
           clear HO_5
           clear HO_6
           clear BK450
           clear HB
           have HO_5 := n0_
           have HO_6 := n1_
           have BK450 := n2_
           have HB := n3_
           clear n0_ n1_ n2_ n3_
           refine start_ (n := 5) (S := fun w' => w'.cell? ⟨gb450, 0, none⟩ = some (.int .i64 t447) ∧ w'.cell? ⟨gb450, 1, none⟩ = some (.int .i64 t448)) (ds := []) #[false, false, false, false, false] (by kernel_rfl) rfl rfl ⟨(blk_cell BK450.out 0).trans rfl, (blk_cell BK450.out 1).trans rfl⟩ (fun hHeld => ?_)
           generalize wr.drew = w55 at HO_5 HO_6 BK450 HB hHeld ⊢
           refine pure_ (i := 0) (N := some 66) (v := ?_) (a' := ?_) #[true, false, false, false, false] rfl rfl (by kernel_rfl) (fun _ _ _ h => h) (Or.inl ⟨by rfl, ?_⟩) ?_ ?_
           rotate_left
           ·
            intro w'
            go_simp
            with_reducible rfl
           rotate_left
           ·
            simp only [Act.put, List.setIfInBounds_toArray, List.set_cons_zero, List.set_cons_succ, i64_w, i32_w]
            rfl
           refine pure_ (i := 1) (N := some 67) (v := ?_) (a' := ?_) #[true, true, false, false, false] rfl rfl (by kernel_rfl) (fun _ _ _ h => h) (Or.inl ⟨by rfl, ?_⟩) ?_ ?_
           rotate_left
           ·
            intro w'
            go_simp
            with_reducible rfl
           rotate_left
           ·
            simp only [Act.put, List.setIfInBounds_toArray, List.set_cons_zero, List.set_cons_succ, i64_w, i32_w]
            rfl
           refine take_ (i := 3) (N := some 69) (v := ?_) (a' := ?_) #[true, true, false, true, false] rfl rfl (by kernel_rfl) (fun _ _ _ h => h) (Or.inl ⟨by rfl, ?_⟩) hHeld ?_ ?_
           rotate_left
           ·
            rintro w' ⟨s0, s1⟩
            go_simp
            with_reducible rfl
           rotate_left
           ·
            simp only [Act.put, List.setIfInBounds_toArray, List.set_cons_zero, List.set_cons_succ, i64_w, i32_w]
            rfl
           refine one_ (i := 2) (N := some 68) #[true, true, true, true, false] rfl rfl (by kernel_rfl) (by decide) (fun K hK => ?_)
           refine goes_ Try.func24 (by kernel_rfl) rfl #[.string a0, .int .i64 x11_2] (by rfl) rfl rfl BM ?_
           with_reducible refine (codepoint_Position.calls a0 x11_2 t454 t455 _ A50.out).mono ?_
           rintro e w56 ⟨rfl, hb⟩
           refine ⟨_, rfl, ?_⟩
           have n0_ := Aside0.mk (Kd.R_below (BR HO_5.out) hb)
           have n1_ := Aside0.mk (Kd.R_below (BR HO_6.out) hb)
           have n2_ := Aside0.mk (blk_below (g := gb450) (o := .cells #[.int .i64 t447, .int .i64 t448] 36 (0, 0)) (by (with_reducible repeat (first | refine blk_drewN ?_ _ | refine blk_drew ?_ | refine blk_alloc ?_ _)); exact BK450.out) hb)
           have n3_ := Aside0.mk (below_step (BS GE450.out) hb)
           clear HO_5
           clear HO_6
           clear BK450
           clear HB
           have HO_5 := n0_
           have HO_6 := n1_
           have BK450 := n2_
           have HB := n3_
           clear n0_ n1_ n2_ n3_
           (try clear hb)
           (try clear hb2)
           (try clear hk)
           (try clear hi)
           refine hK.out _ _ ⟨(blk_cell BK450.out 0).trans rfl, (blk_cell BK450.out 1).trans rfl⟩ (fun hHeld => ?_)
           clear hK K
           refine norm_ (a' := ?_) ?_ ?_
           rotate_left
           ·
            show Act.put _ (some 68) _ = _
            simp only [Act.put, List.setIfInBounds_toArray, List.set_cons_zero, List.set_cons_succ, i64_w, i32_w]
            rfl
           refine pure_ (i := 4) (N := some 70) (v := ?_) (a' := ?_) #[true, true, true, true, true] rfl rfl (by kernel_rfl) (fun _ _ _ h => h) (Or.inl ⟨by rfl, ?_⟩) ?_ ?_
           rotate_left
           ·
            intro w'
            go_simp
            with_reducible rfl
           rotate_left
           ·
            simp only [Act.put, List.setIfInBounds_toArray, List.set_cons_zero, List.set_cons_succ, i64_w, i32_w]
            rfl
           refine done_ (by kernel_rfl) ?_
           obtain ⟨Ao57, co57, eo57⟩ := Kd.R_slice HO_5.out
           subst eo57
           obtain ⟨Ao58, co58, eo58⟩ := Kd.R_slice HO_6.out
           subst eo58
           try go_wp2_with (first | (go_at_call 13; (with_reducible refine (corporalaw09_awake.calls k2  t456 _ A54.out).mono ?_); rintro e w59 ⟨rfl, hb⟩; have n0_ := Aside0.mk (Kd.R_below (BR HO_5.out) hb); have n1_ := Aside0.mk (Kd.R_below (BR HO_6.out) hb); have n2_ := Aside0.mk (blk_below (g := gb450) (o := .cells #[.int .i64 t447, .int .i64 t448] 36 (0, 0)) (by (with_reducible repeat (first | refine blk_drewN ?_ _ | refine blk_drew ?_ | refine blk_alloc ?_ _)); exact BK450.out) hb); have n3_ := Aside0.mk (below_step (BS GE450.out) hb); clear HO_5; clear HO_6; clear BK450; clear HB; have HO_5 := n0_; have HO_6 := n1_; have BK450 := n2_; have HB := n3_; clear n0_ n1_ n2_ n3_; (try clear hb); (try clear hb2); (try clear hk); (try clear hi)))
           go_ret
           exact ⟨BX, BS GE450.out⟩
          ·
           rw [if_neg c53] at H
           have c53b0 : ((t444.length : Int) == 0) = false := beq_eq_false_iff_ne.mpr c53
           have c53b1 : ((t444.length : Int) != 0) = true := bne_iff_ne.mpr c53
           have c53b2 : ¬ (t444 = []) := fun h_ => c53 (by rw [h_]; rfl)
           obtain rfl := Option.some.inj H
           try go_wp2
           have n0_ := Aside0.mk (Kd.R_drew HO_5.out)
           have n1_ := Aside0.mk (Kd.R_drew HO_6.out)
           have n2_ := Aside0.mk (blk_drew BK450.out)
           have n3_ := Aside0.mk (below_drew1 HB.out)
           clear HO_5
           clear HO_6
           clear BK450
           clear HB
           have HO_5 := n0_
           have HO_6 := n1_
           have BK450 := n2_
           have HB := n3_
           clear n0_ n1_ n2_ n3_
           refine start_ (n := 5) (S := fun w' => w'.cell? ⟨gb450, 0, none⟩ = some (.int .i64 t447) ∧ w'.cell? ⟨gb450, 1, none⟩ = some (.int .i64 t448)) (ds := []) #[false, false, false, false, false] (by kernel_rfl) rfl rfl ⟨(blk_cell BK450.out 0).trans rfl, (blk_cell BK450.out 1).trans rfl⟩ (fun hHeld => ?_)
           generalize wr.drew = w60 at HO_5 HO_6 BK450 HB hHeld ⊢
           refine pure_ (i := 0) (N := some 66) (v := ?_) (a' := ?_) #[true, false, false, false, false] rfl rfl (by kernel_rfl) (fun _ _ _ h => h) (Or.inl ⟨by rfl, ?_⟩) ?_ ?_
           rotate_left
           ·
            intro w'
            go_simp
            with_reducible rfl
           rotate_left
           ·
            simp only [Act.put, List.setIfInBounds_toArray, List.set_cons_zero, List.set_cons_succ, i64_w, i32_w]
            rfl
           refine pure_ (i := 1) (N := some 67) (v := ?_) (a' := ?_) #[true, true, false, false, false] rfl rfl (by kernel_rfl) (fun _ _ _ h => h) (Or.inl ⟨by rfl, ?_⟩) ?_ ?_
           rotate_left
           ·
            intro w'
            go_simp
            with_reducible rfl
           rotate_left
           ·
            simp only [Act.put, List.setIfInBounds_toArray, List.set_cons_zero, List.set_cons_succ, i64_w, i32_w]
            rfl
           refine take_ (i := 3) (N := some 69) (v := ?_) (a' := ?_) #[true, true, false, true, false] rfl rfl (by kernel_rfl) (fun _ _ _ h => h) (Or.inl ⟨by rfl, ?_⟩) hHeld ?_ ?_
           rotate_left
           ·
            rintro w' ⟨s0, s1⟩
            go_simp
            with_reducible rfl
           rotate_left
           ·
            simp only [Act.put, List.setIfInBounds_toArray, List.set_cons_zero, List.set_cons_succ, i64_w, i32_w]
            rfl
           refine one_ (i := 2) (N := some 68) #[true, true, true, true, false] rfl rfl (by kernel_rfl) (by decide) (fun K hK => ?_)
           refine goes_ Try.func24 (by kernel_rfl) rfl #[.string a0, .int .i64 x11_2] (by rfl) rfl rfl BM ?_
           with_reducible refine (codepoint_Position.calls a0 x11_2 t454 t455 _ A50.out).mono ?_
           rintro e w61 ⟨rfl, hb⟩
           refine ⟨_, rfl, ?_⟩
           have n0_ := Aside0.mk (Kd.R_below (BR HO_5.out) hb)
           have n1_ := Aside0.mk (Kd.R_below (BR HO_6.out) hb)
           have n2_ := Aside0.mk (blk_below (g := gb450) (o := .cells #[.int .i64 t447, .int .i64 t448] 36 (0, 0)) (by (with_reducible repeat (first | refine blk_drewN ?_ _ | refine blk_drew ?_ | refine blk_alloc ?_ _)); exact BK450.out) hb)
           have n3_ := Aside0.mk (below_step (BS GE450.out) hb)
           clear HO_5
           clear HO_6
           clear BK450
           clear HB
           have HO_5 := n0_
           have HO_6 := n1_
           have BK450 := n2_
           have HB := n3_
           clear n0_ n1_ n2_ n3_
           (try clear hb)
           (try clear hb2)
           (try clear hk)
           (try clear hi)
           refine hK.out _ _ ⟨(blk_cell BK450.out 0).trans rfl, (blk_cell BK450.out 1).trans rfl⟩ (fun hHeld => ?_)
           clear hK K
           refine norm_ (a' := ?_) ?_ ?_
           rotate_left
           ·
            show Act.put _ (some 68) _ = _
            simp only [Act.put, List.setIfInBounds_toArray, List.set_cons_zero, List.set_cons_succ, i64_w, i32_w]
            rfl
           refine pure_ (i := 4) (N := some 70) (v := ?_) (a' := ?_) #[true, true, true, true, true] rfl rfl (by kernel_rfl) (fun _ _ _ h => h) (Or.inl ⟨by rfl, ?_⟩) ?_ ?_
           rotate_left
           ·
            intro w'
            go_simp
            with_reducible rfl
           rotate_left
           ·
            simp only [Act.put, List.setIfInBounds_toArray, List.set_cons_zero, List.set_cons_succ, i64_w, i32_w]
            rfl
           refine done_ (by kernel_rfl) ?_
           obtain ⟨Ao62, co62, eo62⟩ := Kd.R_slice HO_5.out
           subst eo62
           obtain ⟨Ao63, co63, eo63⟩ := Kd.R_slice HO_6.out
           subst eo63
           try go_wp2
           go_ret
           exact ⟨BX, BS GE450.out⟩
         ·
          rw [if_neg c52] at H
          have c52b0 : ((t441.length : Int) == 0) = false := beq_eq_false_iff_ne.mpr c52
          have c52b1 : ((t441.length : Int) != 0) = true := bne_iff_ne.mpr c52
          have c52b2 : ¬ (t441 = []) := fun h_ => c52 (by rw [h_]; rfl)
          obtain rfl := Option.some.inj H
          try go_wp2
          have n0_ := Aside0.mk (Kd.R_drew HO_5.out)
          have n1_ := Aside0.mk (Kd.R_drew HO_6.out)
          have n2_ := Aside0.mk (blk_drew BK450.out)
          have n3_ := Aside0.mk (below_drew1 HB.out)
          clear HO_5
          clear HO_6
          clear BK450
          clear HB
          have HO_5 := n0_
          have HO_6 := n1_
          have BK450 := n2_
          have HB := n3_
          clear n0_ n1_ n2_ n3_
          refine start_ (n := 5) (S := fun w' => w'.cell? ⟨gb450, 0, none⟩ = some (.int .i64 t447) ∧ w'.cell? ⟨gb450, 1, none⟩ = some (.int .i64 t448)) (ds := []) #[false, false, false, false, false] (by kernel_rfl) rfl rfl ⟨(blk_cell BK450.out 0).trans rfl, (blk_cell BK450.out 1).trans rfl⟩ (fun hHeld => ?_)
          generalize wr.drew = w64 at HO_5 HO_6 BK450 HB hHeld ⊢
          refine pure_ (i := 0) (N := some 66) (v := ?_) (a' := ?_) #[true, false, false, false, false] rfl rfl (by kernel_rfl) (fun _ _ _ h => h) (Or.inl ⟨by rfl, ?_⟩) ?_ ?_
          rotate_left
          ·
           intro w'
           go_simp
           with_reducible rfl
          rotate_left
          ·
           simp only [Act.put, List.setIfInBounds_toArray, List.set_cons_zero, List.set_cons_succ, i64_w, i32_w]
           rfl
          refine pure_ (i := 1) (N := some 67) (v := ?_) (a' := ?_) #[true, true, false, false, false] rfl rfl (by kernel_rfl) (fun _ _ _ h => h) (Or.inl ⟨by rfl, ?_⟩) ?_ ?_
          rotate_left
          ·
           intro w'
           go_simp
           with_reducible rfl
          rotate_left
          ·
           simp only [Act.put, List.setIfInBounds_toArray, List.set_cons_zero, List.set_cons_succ, i64_w, i32_w]
           rfl
          refine take_ (i := 3) (N := some 69) (v := ?_) (a' := ?_) #[true, true, false, true, false] rfl rfl (by kernel_rfl) (fun _ _ _ h => h) (Or.inl ⟨by rfl, ?_⟩) hHeld ?_ ?_
          rotate_left
          ·
           rintro w' ⟨s0, s1⟩
           go_simp
           with_reducible rfl
          rotate_left
          ·
           simp only [Act.put, List.setIfInBounds_toArray, List.set_cons_zero, List.set_cons_succ, i64_w, i32_w]
           rfl
          refine one_ (i := 2) (N := some 68) #[true, true, true, true, false] rfl rfl (by kernel_rfl) (by decide) (fun K hK => ?_)
          refine goes_ Try.func24 (by kernel_rfl) rfl #[.string a0, .int .i64 x11_2] (by rfl) rfl rfl BM ?_
          with_reducible refine (codepoint_Position.calls a0 x11_2 t454 t455 _ A50.out).mono ?_
          rintro e w65 ⟨rfl, hb⟩
          refine ⟨_, rfl, ?_⟩
          have n0_ := Aside0.mk (Kd.R_below (BR HO_5.out) hb)
          have n1_ := Aside0.mk (Kd.R_below (BR HO_6.out) hb)
          have n2_ := Aside0.mk (blk_below (g := gb450) (o := .cells #[.int .i64 t447, .int .i64 t448] 36 (0, 0)) (by (with_reducible repeat (first | refine blk_drewN ?_ _ | refine blk_drew ?_ | refine blk_alloc ?_ _)); exact BK450.out) hb)
          have n3_ := Aside0.mk (below_step (BS GE450.out) hb)
          clear HO_5
          clear HO_6
          clear BK450
          clear HB
          have HO_5 := n0_
          have HO_6 := n1_
          have BK450 := n2_
          have HB := n3_
          clear n0_ n1_ n2_ n3_
          (try clear hb)
          (try clear hb2)
          (try clear hk)
          (try clear hi)
          refine hK.out _ _ ⟨(blk_cell BK450.out 0).trans rfl, (blk_cell BK450.out 1).trans rfl⟩ (fun hHeld => ?_)
          clear hK K
          refine norm_ (a' := ?_) ?_ ?_
          rotate_left
          ·
           show Act.put _ (some 68) _ = _
           simp only [Act.put, List.setIfInBounds_toArray, List.set_cons_zero, List.set_cons_succ, i64_w, i32_w]
           rfl
          refine pure_ (i := 4) (N := some 70) (v := ?_) (a' := ?_) #[true, true, true, true, true] rfl rfl (by kernel_rfl) (fun _ _ _ h => h) (Or.inl ⟨by rfl, ?_⟩) ?_ ?_
          rotate_left
          ·
           intro w'
           go_simp
           with_reducible rfl
          rotate_left
          ·
           simp only [Act.put, List.setIfInBounds_toArray, List.set_cons_zero, List.set_cons_succ, i64_w, i32_w]
           rfl
          refine done_ (by kernel_rfl) ?_
          obtain ⟨Ao66, co66, eo66⟩ := Kd.R_slice HO_5.out
          subst eo66
          try go_wp2
          go_ret
          exact ⟨BX, BS GE450.out⟩
        ·
         rw [if_neg c51] at H
         have c51b0 : (t454 == t447 && (t455 == t448)) = false := by simpa using c51
         (try (have c51b1 : decide (t454 = t447 && (t455 == t448)) = false := by simpa using c51))
         (try (have c51b2 : (t454 == t447 && (t455 == t448)) = false := by simpa using c51))
         (try (have c51b3 : ¬ (t454 = t447 && (t455 == t448)) := by simpa using c51))
         clear c51
         have H' := Aside0.mk H
         clear H
         try go_wp2
         have n0_ := Aside0.mk (Kd.R_drew HO_5.out)
         have n1_ := Aside0.mk (Kd.R_drew HO_6.out)
         have n2_ := Aside0.mk (blk_drew BK450.out)
         have n3_ := Aside0.mk (below_drew1 HB.out)
         clear HO_5
         clear HO_6
         clear BK450
         clear HB
         have HO_5 := n0_
         have HO_6 := n1_
         have BK450 := n2_
         have HB := n3_
         clear n0_ n1_ n2_ n3_
         refine start_ (n := 5) (S := fun w' => w'.cell? ⟨gb450, 0, none⟩ = some (.int .i64 t447) ∧ w'.cell? ⟨gb450, 1, none⟩ = some (.int .i64 t448)) (ds := []) #[false, false, false, false, false] (by kernel_rfl) rfl rfl ⟨(blk_cell BK450.out 0).trans rfl, (blk_cell BK450.out 1).trans rfl⟩ (fun hHeld => ?_)
         generalize wr.drew = w67 at HO_5 HO_6 BK450 HB hHeld ⊢
         refine pure_ (i := 0) (N := some 66) (v := ?_) (a' := ?_) #[true, false, false, false, false] rfl rfl (by kernel_rfl) (fun _ _ _ h => h) (Or.inl ⟨by rfl, ?_⟩) ?_ ?_
         rotate_left
         ·
          intro w'
          go_simp
          with_reducible rfl
         rotate_left
         ·
          simp only [Act.put, List.setIfInBounds_toArray, List.set_cons_zero, List.set_cons_succ, i64_w, i32_w]
          rfl
         refine pure_ (i := 1) (N := some 67) (v := ?_) (a' := ?_) #[true, true, false, false, false] rfl rfl (by kernel_rfl) (fun _ _ _ h => h) (Or.inl ⟨by rfl, ?_⟩) ?_ ?_
         rotate_left
         ·
          intro w'
          go_simp
          with_reducible rfl
         rotate_left
         ·
          simp only [Act.put, List.setIfInBounds_toArray, List.set_cons_zero, List.set_cons_succ, i64_w, i32_w]
          rfl
         refine take_ (i := 3) (N := some 69) (v := ?_) (a' := ?_) #[true, true, false, true, false] rfl rfl (by kernel_rfl) (fun _ _ _ h => h) (Or.inl ⟨by rfl, ?_⟩) hHeld ?_ ?_
         rotate_left
         ·
          rintro w' ⟨s0, s1⟩
          go_simp
          with_reducible rfl
         rotate_left
         ·
          simp only [Act.put, List.setIfInBounds_toArray, List.set_cons_zero, List.set_cons_succ, i64_w, i32_w]
          rfl
         refine one_ (i := 2) (N := some 68) #[true, true, true, true, false] rfl rfl (by kernel_rfl) (by decide) (fun K hK => ?_)
         refine goes_ Try.func24 (by kernel_rfl) rfl #[.string a0, .int .i64 x11_2] (by rfl) rfl rfl BM ?_
         with_reducible refine (codepoint_Position.calls a0 x11_2 t454 t455 _ A50.out).mono ?_
         rintro e w68 ⟨rfl, hb⟩
         refine ⟨_, rfl, ?_⟩
         have n0_ := Aside0.mk (Kd.R_below (BR HO_5.out) hb)
         have n1_ := Aside0.mk (Kd.R_below (BR HO_6.out) hb)
         have n2_ := Aside0.mk (blk_below (g := gb450) (o := .cells #[.int .i64 t447, .int .i64 t448] 36 (0, 0)) (by (with_reducible repeat (first | refine blk_drewN ?_ _ | refine blk_drew ?_ | refine blk_alloc ?_ _)); exact BK450.out) hb)
         have n3_ := Aside0.mk (below_step (BS GE450.out) hb)
         clear HO_5
         clear HO_6
         clear BK450
         clear HB
         have HO_5 := n0_
         have HO_6 := n1_
         have BK450 := n2_
         have HB := n3_
         clear n0_ n1_ n2_ n3_
         (try clear hb)
         (try clear hb2)
         (try clear hk)
         (try clear hi)
         refine hK.out _ _ ⟨(blk_cell BK450.out 0).trans rfl, (blk_cell BK450.out 1).trans rfl⟩ (fun hHeld => ?_)
         clear hK K
         refine norm_ (a' := ?_) ?_ ?_
         rotate_left
         ·
          show Act.put _ (some 68) _ = _
          simp only [Act.put, List.setIfInBounds_toArray, List.set_cons_zero, List.set_cons_succ, i64_w, i32_w]
          rfl
         refine pure_ (i := 4) (N := some 70) (v := ?_) (a' := ?_) #[true, true, true, true, true] rfl rfl (by kernel_rfl) (fun _ _ _ h => h) (Or.inl ⟨by rfl, ?_⟩) ?_ ?_
         rotate_left
         ·
          intro w'
          go_simp
          with_reducible rfl
         rotate_left
         ·
          simp only [Act.put, List.setIfInBounds_toArray, List.set_cons_zero, List.set_cons_succ, i64_w, i32_w]
          rfl
         refine done_ (by kernel_rfl) ?_
         try go_wp2
         go_roundg k2
         case measure => have := HJ2.out; have := HK2.out; omega
         case rel => exact ⟨(wrap64 (x11_2 + 1)), (BE), H', ⟨by have := HJ2.out; have := HK2.out; omega⟩, ⟨BR HO_5.out⟩, ⟨BR HO_6.out⟩, ⟨by (with_reducible repeat (first | refine blk_drewN ?_ _ | refine blk_drew ?_ | refine blk_alloc ?_ _)); exact BK450.out⟩, ⟨BS GE450.out⟩⟩
       ·
        rw [if_neg c49] at H
        have c49b0 : decide (x11_2 ≤ (a0.size : Int)) = false := decide_eq_false c49
        clear c49
        obtain rfl := Option.some.inj H
        go_wp2
        go_ret
        exact ⟨BX, BS GE450.out⟩

/-- THE ONE PURE STATEMENT of corporalaw09_DependValid: yours. -/
def corporalaw09_DependValid.Pure : Prop := ∀ (a0 : ByteArray) (a1 : Int), a0.size ≤ 140737488351232 → (Lit.int .i64 a1).wf = true → ∃ k, corporalaw09_DependValid.f k a0 a1 = some true
theorem corporalaw09_DependValid.walk (P : corporalaw09_DependValid.Pure) (a0 : ByteArray) (a1 : Int) (w : World) (w0 : a0.size ≤ 140737488351232) (w1 : (Lit.int .i64 a1).wf = true) :
 Calls Try.prog 10 #[.string a0, .int .i64 a1] w fun e w' => e = .returned (.bool true) ∧ Below w.heap.size w w' := by
 obtain ⟨k, h⟩ := P a0 a1 w0 w1
 refine (corporalaw09_DependValid.calls k a0 a1 true w h).mono ?_
 rintro e w' ⟨rfl, hd⟩
 exact ⟨rfl, hd⟩

end Go.Proofs.Ytkanmafjjejpmaa.P
