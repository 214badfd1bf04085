-- Written by a program of this session (wip/doprint.sh) out of the translation; Lean checks it.
import Derived.Test.YtkanmafjjejpmaaPx0
import Derived.Test.YtkanmafjjejpmaaPx6
import Derived.Test.YtkanmafjjejpmaaPx16
namespace Go.Proofs.Ytkanmafjjejpmaa.P
open Go.Proofs.Ytkanmafjjejpmaa.S
open Go.Proofs.Ytkanmafjjejpmaa.X
open Go.RowKit Go.Proofs.YtkanmafjjejpmaaW.PrintWords Go.Proofs.YtkanmafjjejpmaaW.PrintLast Go.Proofs.YtkanmafjjejpmaaW.PrintMore
attribute [local go_sem] max2_int min2_int max_two min_two max_three min_three max_four min_four   -- for this text's walks alone
set_option linter.unusedVariables false
set_option linter.unusedSimpArgs false

/-! ### corporalaw09_DependConnects: function 6 -/
mutual
def corporalaw09_DependConnects.j0 : Nat → List Int → Int → Int → List Int → Int → List Int → Bool → Option (Bool)
  | 0, _, _, _, _, _, _, _ => none
  | k + 1, x0, x1, x2, x7, x8, x9, x39 => if x39 = true then (some false) else (if x8 = 0 then (if (x7.length : Int) = 0 then (corporalaw09_DependConnects.j1 k x0 x7 x9 true) else (if 0 < (x7.length : Int) then (if (rd x7 0) = x1 then (if 0 ≤ (wrap64 ((x7.length : Int) - 1)) then (if (wrap64 ((x7.length : Int) - 1)) < (x7.length : Int) then (corporalaw09_DependConnects.j1 k x0 x7 x9 ((rd x7 (wrap64 ((x7.length : Int) - 1))) != x2)) else (none)) else (none)) else (corporalaw09_DependConnects.j1 k x0 x7 x9 true)) else (none))) else (if (x7.length : Int) = 0 then ((corporalaw09_awake.f k).bind fun t331 => (some t331)) else (some false)))
def corporalaw09_DependConnects.j1 : Nat → List Int → List Int → List Int → Bool → Option (Bool)
  | 0, _, _, _, _ => none
  | k + 1, x0, x7, x9, x67 => if x67 = true then (some false) else (corporalaw09_DependConnects.l0 k x0 x7 x9 (x7.length : Int) 0)
def corporalaw09_DependConnects.l0 : Nat → List Int → List Int → List Int → Int → Int → Option (Bool)
  | 0, _, _, _, _, _ => none
  | k + 1, x0, x7, x9, x69, x70 => if x70 < x69 then (if 0 ≤ x70 then (if x70 < (x7.length : Int) then (if (rd x7 x70) < 0 then (corporalaw09_DependConnects.j3 k x0 x7 x9 x70 x69 x70 true) else (if (rd x7 x70) ≥ (x0.length : Int) then (corporalaw09_DependConnects.j3 k x0 x7 x9 x70 x69 x70 true) else (if 0 ≤ (wrap64 ((wrap64 ((x9.length : Int) - 1)) - x70)) then (if (wrap64 ((wrap64 ((x9.length : Int) - 1)) - x70)) < (x9.length : Int) then (if (rd x9 (wrap64 ((wrap64 ((x9.length : Int) - 1)) - x70))) = (rd x7 x70) then (if x70 > 0 then (if 0 ≤ (rd x7 x70) then (if (rd x7 x70) < (x0.length : Int) then (if 0 ≤ (wrap64 (x70 - 1)) then (if (wrap64 (x70 - 1)) < (x7.length : Int) then (if (rd x0 (rd x7 x70)) = (rd x7 (wrap64 (x70 - 1))) then (corporalaw09_DependConnects.j3 k x0 x7 x9 x70 x69 x70 false) else (if 0 ≤ (rd x7 (wrap64 (x70 - 1))) then (if (rd x7 (wrap64 (x70 - 1))) < (x0.length : Int) then (corporalaw09_DependConnects.j3 k x0 x7 x9 x70 x69 x70 ((rd x0 (rd x7 (wrap64 (x70 - 1)))) != (rd x7 x70))) else (none)) else (none))) else (none)) else (none)) else (none)) else (none)) else (corporalaw09_DependConnects.j3 k x0 x7 x9 x70 x69 x70 false)) else (corporalaw09_DependConnects.j3 k x0 x7 x9 x70 x69 x70 true)) else (none)) else (none)))) else (none)) else (none)) else ((corporalaw09_awake.f k).bind fun t334 => (some t334))
def corporalaw09_DependConnects.j3 : Nat → List Int → List Int → List Int → Int → Int → Int → Bool → Option (Bool)
  | 0, _, _, _, _, _, _, _ => none
  | k + 1, x0, x7, x9, x11, x69, x70, x135 => if x135 = true then (some false) else (corporalaw09_DependConnects.l1 k x0 x7 x9 x11 0 x69 x70)
def corporalaw09_DependConnects.l1 : Nat → List Int → List Int → List Int → Int → Int → Int → Int → Option (Bool)
  | 0, _, _, _, _, _, _, _ => none
  | k + 1, x0, x7, x9, x11, x12, x69, x70 => if x12 < x11 then (if 0 ≤ x12 then (if x12 < (x7.length : Int) then (if 0 ≤ x11 then (if x11 < (x7.length : Int) then (if (rd x7 x12) = (rd x7 x11) then (some false) else (corporalaw09_DependConnects.l1 k x0 x7 x9 x11 (wrap64 (x12 + 1)) x69 x70)) else (none)) else (none)) else (none)) else (none)) else (corporalaw09_DependConnects.l0 k x0 x7 x9 x69 (wrap64 (x70 + 1)))
end
def corporalaw09_DependConnects.f (k : Nat) (l0 : List Int) (a1 : Int) (a2 : Int) : Option (Bool) := if (l0.length : Int) > 60 then (some true) else ((depend_Path.f k l0 a1 a2).bind fun bt323 => ((depend_Path.f k l0 a2 a1).bind fun bt327 => (if bt323.2 = bt327.2 then (corporalaw09_DependConnects.j0 k l0 a1 a2 bt323.1 bt323.2 bt327.1 ((bt323.1.length : Int) != (bt327.1.length : Int))) else (corporalaw09_DependConnects.j0 k l0 a1 a2 bt323.1 bt323.2 bt327.1 true))))
theorem corporalaw09_DependConnects.mono_l : ∀ k, (∀ y0 y1 y2 y3 y4 y5 y6, LeO (corporalaw09_DependConnects.j0 k y0 y1 y2 y3 y4 y5 y6) (corporalaw09_DependConnects.j0 (k + 1) y0 y1 y2 y3 y4 y5 y6)) ∧ (∀ y0 y1 y2 y3, LeO (corporalaw09_DependConnects.j1 k y0 y1 y2 y3) (corporalaw09_DependConnects.j1 (k + 1) y0 y1 y2 y3)) ∧ (∀ y0 y1 y2 y3 y4, LeO (corporalaw09_DependConnects.l0 k y0 y1 y2 y3 y4) (corporalaw09_DependConnects.l0 (k + 1) y0 y1 y2 y3 y4)) ∧ (∀ y0 y1 y2 y3 y4 y5 y6, LeO (corporalaw09_DependConnects.j3 k y0 y1 y2 y3 y4 y5 y6) (corporalaw09_DependConnects.j3 (k + 1) y0 y1 y2 y3 y4 y5 y6)) ∧ (∀ y0 y1 y2 y3 y4 y5 y6, LeO (corporalaw09_DependConnects.l1 k y0 y1 y2 y3 y4 y5 y6) (corporalaw09_DependConnects.l1 (k + 1) y0 y1 y2 y3 y4 y5 y6))
 | 0 => ⟨fun _ _ _ _ _ _ _ r h => by simp [corporalaw09_DependConnects.j0] at h, fun _ _ _ _ r h => by simp [corporalaw09_DependConnects.j1] at h, fun _ _ _ _ _ r h => by simp [corporalaw09_DependConnects.l0] at h, fun _ _ _ _ _ _ _ r h => by simp [corporalaw09_DependConnects.j3] at h, fun _ _ _ _ _ _ _ r h => by simp [corporalaw09_DependConnects.l1] at h⟩
 | k + 1 => by
  obtain ⟨ih0, ih1, ih2, ih3, ih4⟩ := corporalaw09_DependConnects.mono_l k
  refine ⟨?_, ?_, ?_, ?_, ?_⟩
  ·
   intro y0 y1 y2 y3 y4 y5 y6
   unfold corporalaw09_DependConnects.j0
   with_reducible repeat' first | exact ih0 _ _ _ _ _ _ _ | exact ih1 _ _ _ _ | exact ih2 _ _ _ _ _ | exact ih3 _ _ _ _ _ _ _ | exact ih4 _ _ _ _ _ _ _ | exact corporalaw09_awake.mono _ | exact depend_Path.mono _ _ _ _ | exact LeO.refl _ | exact LeO.none _ | refine LeO.ite ?_ ?_ | refine LeO.bind ?_ (fun _ => ?_)
  ·
   intro y0 y1 y2 y3
   unfold corporalaw09_DependConnects.j1
   with_reducible repeat' first | exact ih0 _ _ _ _ _ _ _ | exact ih1 _ _ _ _ | exact ih2 _ _ _ _ _ | exact ih3 _ _ _ _ _ _ _ | exact ih4 _ _ _ _ _ _ _ | exact corporalaw09_awake.mono _ | exact depend_Path.mono _ _ _ _ | exact LeO.refl _ | exact LeO.none _ | refine LeO.ite ?_ ?_ | refine LeO.bind ?_ (fun _ => ?_)
  ·
   intro y0 y1 y2 y3 y4
   unfold corporalaw09_DependConnects.l0
   with_reducible repeat' first | exact ih0 _ _ _ _ _ _ _ | exact ih1 _ _ _ _ | exact ih2 _ _ _ _ _ | exact ih3 _ _ _ _ _ _ _ | exact ih4 _ _ _ _ _ _ _ | exact corporalaw09_awake.mono _ | exact depend_Path.mono _ _ _ _ | exact LeO.refl _ | exact LeO.none _ | refine LeO.ite ?_ ?_ | refine LeO.bind ?_ (fun _ => ?_)
  ·
   intro y0 y1 y2 y3 y4 y5 y6
   unfold corporalaw09_DependConnects.j3
   with_reducible repeat' first | exact ih0 _ _ _ _ _ _ _ | exact ih1 _ _ _ _ | exact ih2 _ _ _ _ _ | exact ih3 _ _ _ _ _ _ _ | exact ih4 _ _ _ _ _ _ _ | exact corporalaw09_awake.mono _ | exact depend_Path.mono _ _ _ _ | exact LeO.refl _ | exact LeO.none _ | refine LeO.ite ?_ ?_ | refine LeO.bind ?_ (fun _ => ?_)
  ·
   intro y0 y1 y2 y3 y4 y5 y6
   unfold corporalaw09_DependConnects.l1
   with_reducible repeat' first | exact ih0 _ _ _ _ _ _ _ | exact ih1 _ _ _ _ | exact ih2 _ _ _ _ _ | exact ih3 _ _ _ _ _ _ _ | exact ih4 _ _ _ _ _ _ _ | exact corporalaw09_awake.mono _ | exact depend_Path.mono _ _ _ _ | exact LeO.refl _ | exact LeO.none _ | refine LeO.ite ?_ ?_ | refine LeO.bind ?_ (fun _ => ?_)
theorem corporalaw09_DependConnects.mono : ∀ a0 a1 a2 k, LeO (corporalaw09_DependConnects.f k a0 a1 a2) (corporalaw09_DependConnects.f (k + 1) a0 a1 a2) := by
 intro a0 a1 a2 k
 obtain ⟨ih0, ih1, ih2, ih3, ih4⟩ := corporalaw09_DependConnects.mono_l k
 unfold corporalaw09_DependConnects.f
 with_reducible repeat' first | exact ih0 _ _ _ _ _ _ _ | exact ih1 _ _ _ _ | exact ih2 _ _ _ _ _ | exact ih3 _ _ _ _ _ _ _ | exact ih4 _ _ _ _ _ _ _ | exact corporalaw09_awake.mono _ | exact depend_Path.mono _ _ _ _ | exact LeO.refl _ | exact LeO.none _ | refine LeO.ite ?_ ?_ | refine LeO.bind ?_ (fun _ => ?_)
set_option maxHeartbeats 8000000 in
set_option maxRecDepth 100000 in
theorem corporalaw09_DependConnects.calls (k : Nat) (A0 : Option Addr) (c0 : Nat) (l0 : List Int) (a1 : Int) (a2 : Int) (r : Bool) (w : World) (hr0 : Kd.C (Kd.int .i64) w A0 l0.length l0) (hc0 : l0.length ≤ c0) (h : corporalaw09_DependConnects.f k l0 a1 a2 = some r) :
 Calls Try.prog 6 #[.slice A0 l0.length c0, .int .i64 a1, .int .i64 a2] w fun e w' => e = .returned (.bool r) ∧ Below w.heap.size w w' := by
 have HR0 := Aside0.mk hr0
 have HC0 := Aside0.mk hc0
 clear hr0 hc0
 have HB := Aside0.mk (Below.refl w.heap.size w)
 have H : (if (l0.length : Int) > 60 then (some true) else ((depend_Path.f k l0 a1 a2).bind fun bt323 => ((depend_Path.f k l0 a2 a1).bind fun bt327 => (if bt323.2 = bt327.2 then (corporalaw09_DependConnects.j0 k l0 a1 a2 bt323.1 bt323.2 bt327.1 ((bt323.1.length : Int) != (bt327.1.length : Int))) else (corporalaw09_DependConnects.j0 k l0 a1 a2 bt323.1 bt323.2 bt327.1 true))))) = some r := h
 clear h
 by_cases c4 : (l0.length : Int) > 60
 ·
  rw [if_pos c4] at H
  have c4b0 : decide (60 < (l0.length : Int)) = true := decide_eq_true c4
  have c4b1 : decide (60 < l0.length) = true := decide_eq_true (by omega)
  clear c4
  obtain rfl := Option.some.inj H
  go_enter Try.func6, Try.ntmps6
  go_wp2
  repeat (go_quiet (fail); try go_wp2)
  go_ret
  exact ⟨BX, BB⟩
 ·
  rw [if_neg c4] at H
  have c4b0 : decide (60 < (l0.length : Int)) = false := decide_eq_false c4
  have c4b1 : decide (60 < l0.length) = false := decide_eq_false (by omega)
  clear c4
  replace H := Option.bind_eq_some_iff.mp H
  obtain ⟨⟨t323, t324⟩, A50, H⟩ := H
  replace H : ((depend_Path.f k l0 a2 a1).bind fun bt327 => (if t324 = bt327.2 then (corporalaw09_DependConnects.j0 k l0 a1 a2 t323 t324 bt327.1 ((t323.length : Int) != (bt327.1.length : Int))) else (corporalaw09_DependConnects.j0 k l0 a1 a2 t323 t324 bt327.1 true))) = some r := H
  have A5 := Aside0.mk A50
  clear A50
  replace H := Option.bind_eq_some_iff.mp H
  obtain ⟨⟨t327, t328⟩, A60, H⟩ := H
  replace H : (if t324 = t328 then (corporalaw09_DependConnects.j0 k l0 a1 a2 t323 t324 t327 ((t323.length : Int) != (t327.length : Int))) else (corporalaw09_DependConnects.j0 k l0 a1 a2 t323 t324 t327 true)) = some r := H
  have A6 := Aside0.mk A60
  clear A60
  have HC7 := Aside0.mk H
  clear H
  go_enter Try.func6, Try.ntmps6
  go_upto_region 5 with (first | (go_at_call 16; (with_reducible refine (depend_Path.calls k _ _ l0 a1 a2 t323 t324 _ ?side1 ?side2 A5.out).mono ?_); (case side1 => exact BK HR0.out); (case side2 => exact HC0.out); rintro e w8 ⟨v325, rfl, ho0, hb⟩; have n0_ := Aside0.mk (Kd.R_lower ho0 (below_size (BB))); have n1_ := Aside0.mk (below_step (BB) hb); clear HB; have HO326 := n0_; have HB := n1_; clear n0_ n1_; (try clear hb); (try clear hb2); (try clear hk); (try clear hi); (try clear ho0)) | (go_at_call 16; (with_reducible refine (depend_Path.calls k _ _ l0 a2 a1 t327 t328 _ ?side1 ?side2 A6.out).mono ?_); (case side1 => exact BC HR0.out); (case side2 => exact HC0.out); rintro e w9 ⟨v329, rfl, ho0, hb⟩; have n0_ := Aside0.mk (Kd.R_elder' (BR HO326.out) (Kd.R_base ho0) hb); have n1_ := Aside0.mk (Kd.R_lower (Kd.R_new' ho0 (Kd.R_lt (BR HO326.out))) (below_size (BB))); have n2_ := Aside0.mk (below_step (BB) hb); clear HO326; clear HB; have HO326 := n0_; have HO330 := n1_; have HB := n2_; clear n0_ n1_ n2_; (try clear hb); (try clear hb2); (try clear hk); (try clear hi); (try clear ho0)))
  repeat (go_quiet (first | (go_at_call 16; (with_reducible refine (depend_Path.calls k _ _ l0 a1 a2 t323 t324 _ ?side1 ?side2 A5.out).mono ?_); (case side1 => exact BK HR0.out); (case side2 => exact HC0.out); rintro e w8 ⟨v325, rfl, ho0, hb⟩; have n0_ := Aside0.mk (Kd.R_lower ho0 (below_size (BB))); have n1_ := Aside0.mk (below_step (BB) hb); clear HB; have HO326 := n0_; have HB := n1_; clear n0_ n1_; (try clear hb); (try clear hb2); (try clear hk); (try clear hi); (try clear ho0)) | (go_at_call 16; (with_reducible refine (depend_Path.calls k _ _ l0 a2 a1 t327 t328 _ ?side1 ?side2 A6.out).mono ?_); (case side1 => exact BC HR0.out); (case side2 => exact HC0.out); rintro e w9 ⟨v329, rfl, ho0, hb⟩; have n0_ := Aside0.mk (Kd.R_elder' (BR HO326.out) (Kd.R_base ho0) hb); have n1_ := Aside0.mk (Kd.R_lower (Kd.R_new' ho0 (Kd.R_lt (BR HO326.out))) (below_size (BB))); have n2_ := Aside0.mk (below_step (BB) hb); clear HO326; clear HB; have HO326 := n0_; have HO330 := n1_; have HB := n2_; clear n0_ n1_ n2_; (try clear hb); (try clear hb2); (try clear hk); (try clear hi); (try clear ho0))); go_upto_region 5 with (first | (go_at_call 16; (with_reducible refine (depend_Path.calls k _ _ l0 a1 a2 t323 t324 _ ?side1 ?side2 A5.out).mono ?_); (case side1 => exact BK HR0.out); (case side2 => exact HC0.out); rintro e w8 ⟨v325, rfl, ho0, hb⟩; have n0_ := Aside0.mk (Kd.R_lower ho0 (below_size (BB))); have n1_ := Aside0.mk (below_step (BB) hb); clear HB; have HO326 := n0_; have HB := n1_; clear n0_ n1_; (try clear hb); (try clear hb2); (try clear hk); (try clear hi); (try clear ho0)) | (go_at_call 16; (with_reducible refine (depend_Path.calls k _ _ l0 a2 a1 t327 t328 _ ?side1 ?side2 A6.out).mono ?_); (case side1 => exact BC HR0.out); (case side2 => exact HC0.out); rintro e w9 ⟨v329, rfl, ho0, hb⟩; have n0_ := Aside0.mk (Kd.R_elder' (BR HO326.out) (Kd.R_base ho0) hb); have n1_ := Aside0.mk (Kd.R_lower (Kd.R_new' ho0 (Kd.R_lt (BR HO326.out))) (below_size (BB))); have n2_ := Aside0.mk (below_step (BB) hb); clear HO326; clear HB; have HO326 := n0_; have HO330 := n1_; have HB := n2_; clear n0_ n1_ n2_; (try clear hb); (try clear hb2); (try clear hk); (try clear hi); (try clear ho0))))
  (try simp only [Act.put, List.setIfInBounds_toArray, List.set_cons_zero, List.set_cons_succ])
  go_cut [39] (fun v39 wc => ∃ (kq : Nat) (x39_6 : Bool), v39 = .bool x39_6 ∧ Aside0 (corporalaw09_DependConnects.j0 kq l0 a1 a2 t323 t324 t327 x39_6 = some r) ∧ Aside0 (kq ≤ k) ∧ Aside0 (Kd.R (Kd.int .i64) 3 wc w.heap.size (fun k_ => some k_ ≠ (v329 : Value).ownBlock) v325 t323) ∧ Aside0 (Kd.R (Kd.int .i64) 3 wc w.heap.size (fun k_ => some k_ ≠ (v325 : Value).ownBlock) v329 t327) ∧ Aside0 (Below w.heap.size w wc))
  case first =>
   have H := HC7.out
   clear HC7
   by_cases c10 : t324 = t328
   ·
    rw [if_pos c10] at H
    have c10b0 : (t324 == t328) = true := beq_iff_eq.mpr c10
    have c10b1 : (t324 != t328) = false := bne_eq_false_iff_eq.mpr c10
    clear c10
    (first | rw [c10b0] | rw [c10b1] | (simp only [i64_w, i32_w]; rw [c10b0]) | skip)
    have H' := Aside0.mk H
    clear H
    obtain ⟨Ao11, co11, eo11⟩ := Kd.R_slice HO326.out
    subst eo11
    obtain ⟨Ao12, co12, eo12⟩ := Kd.R_slice HO330.out
    subst eo12
    go_wp2
    repeat (go_quiet (fail); try go_wp2)
    go_meet
    case rel => exact ⟨_, (((t323.length : Int) != (t327.length : Int))), (BE), H', ⟨by first | omega | exact Nat.le_refl _⟩, ⟨by (with_reducible repeat (first | apply Kd.R_alloc | apply Kd.R_drewN | apply Kd.R_drew)); exact Kd.R_mono HO326.out (fun _ hk => hk.2)⟩, ⟨by (with_reducible repeat (first | apply Kd.R_alloc | apply Kd.R_drewN | apply Kd.R_drew)); exact Kd.R_mono HO330.out (fun _ hk => hk.2)⟩, ⟨BB⟩⟩
   ·
    rw [if_neg c10] at H
    have c10b0 : (t324 == t328) = false := beq_eq_false_iff_ne.mpr c10
    have c10b1 : (t324 != t328) = true := bne_iff_ne.mpr c10
    (first | rw [c10b0] | rw [c10b1] | (simp only [i64_w, i32_w]; rw [c10b0]) | skip)
    have H' := Aside0.mk H
    clear H
    go_wp2
    repeat (go_quiet (fail); try go_wp2)
    go_meet
    case rel => exact ⟨_, (true), (BE), H', ⟨by first | omega | exact Nat.le_refl _⟩, ⟨by (with_reducible repeat (first | apply Kd.R_alloc | apply Kd.R_drewN | apply Kd.R_drew)); exact Kd.R_mono HO326.out (fun _ hk => hk.2)⟩, ⟨by (with_reducible repeat (first | apply Kd.R_alloc | apply Kd.R_drewN | apply Kd.R_drew)); exact Kd.R_mono HO330.out (fun _ hk => hk.2)⟩, ⟨BB⟩⟩
  case rest =>
   clear HC7
   (try clear c1); (try clear p2); (try clear c4); (try clear c4b0); (try clear c4b1); (try clear c6); (try clear c10); (try clear c10b0); (try clear c10b1)
   obtain ⟨kq, x39_6, rfl, HA, HJ6, HO_7, HO_9, HB⟩ := hcut
   cases kq with
   | zero => exact absurd HA.out (by simp [corporalaw09_DependConnects.j0])
   | succ kj6 =>
    have H := HA.out
    clear HA
    simp only [corporalaw09_DependConnects.j0] at H
    by_cases c13 : x39_6 = true
    ·
     subst c13
     have H1 : (some false) = some r := by rw [if_pos rfl] at H; exact H
     clear H
     have H := H1
     clear H1
     obtain rfl := Option.some.inj H
     go_wp2
     repeat (go_quiet (fail); try go_wp2)
     go_ret
     exact ⟨BX, BB⟩
    ·
     replace c13 := Bool.eq_false_iff.mpr c13
     subst c13
     have H1 : (if t324 = 0 then (if (t323.length : Int) = 0 then (corporalaw09_DependConnects.j1 kj6 l0 t323 t327 true) else (if 0 < (t323.length : Int) then (if (rd t323 0) = a1 then (if 0 ≤ (wrap64 ((t323.length : Int) - 1)) then (if (wrap64 ((t323.length : Int) - 1)) < (t323.length : Int) then (corporalaw09_DependConnects.j1 kj6 l0 t323 t327 ((rd t323 (wrap64 ((t323.length : Int) - 1))) != a2)) else (none)) else (none)) else (corporalaw09_DependConnects.j1 kj6 l0 t323 t327 true)) else (none))) else (if (t323.length : Int) = 0 then ((corporalaw09_awake.f kj6).bind fun t331 => (some t331)) else (some false))) = some r := by rw [if_neg (show ¬ (false = true) by decide)] at H; exact H
     clear H
     have H := H1
     clear H1
     by_cases c14 : t324 = 0
     ·
      rw [if_pos c14] at H
      have c14b0 : (t324 == 0) = true := beq_iff_eq.mpr c14
      have c14b1 : (t324 != 0) = false := bne_eq_false_iff_eq.mpr c14
      clear c14
      have HC15 := Aside0.mk H
      clear H
      go_upto_region 9 with (fail)
      repeat (go_quiet (fail); go_upto_region 9 with (fail))
      go_cut [67] (fun v67 wc => ∃ (kq : Nat) (x67_14 : Bool), v67 = .bool x67_14 ∧ Aside0 (corporalaw09_DependConnects.j1 kq l0 t323 t327 x67_14 = some r) ∧ Aside0 (kq ≤ kj6) ∧ Aside0 (Kd.R (Kd.int .i64) 3 wc w.heap.size (fun k_ => some k_ ≠ (v329 : Value).ownBlock) v325 t323) ∧ Aside0 (Kd.R (Kd.int .i64) 3 wc w.heap.size (fun k_ => some k_ ≠ (v325 : Value).ownBlock) v329 t327) ∧ Aside0 (Below w.heap.size w wc))
      case first =>
       have H := HC15.out
       clear HC15
       by_cases c16 : (t323.length : Int) = 0
       ·
        rw [if_pos c16] at H
        have c16b0 : ((t323.length : Int) == 0) = true := beq_iff_eq.mpr c16
        have c16b1 : ((t323.length : Int) != 0) = false := bne_eq_false_iff_eq.mpr c16
        clear c16
        (first | rw [c16b0] | rw [c16b1] | (simp only [i64_w, i32_w]; rw [c16b0]) | skip)
        have H' := Aside0.mk H
        clear H
        obtain ⟨Ao17, co17, eo17⟩ := Kd.R_slice HO_7.out
        subst eo17
        go_wp2
        repeat (go_quiet (fail); try go_wp2)
        go_meet
        case rel => exact ⟨_, (true), (BE), H', ⟨by have := HJ6.out; first | omega | exact Nat.le_refl _⟩, ⟨BR HO_7.out⟩, ⟨BR HO_9.out⟩, ⟨BB⟩⟩
       ·
        rw [if_neg c16] at H
        have c16b0 : ((t323.length : Int) == 0) = false := beq_eq_false_iff_ne.mpr c16
        have c16b1 : ((t323.length : Int) != 0) = true := bne_iff_ne.mpr c16
        have c16b2 : ¬ (t323 = []) := fun h_ => c16 (by rw [h_]; rfl)
        (first | rw [c16b0] | rw [c16b1] | (simp only [i64_w, i32_w]; rw [c16b0]) | skip)
        by_cases c18 : 0 < (t323.length : Int)
        ·
         rw [if_pos c18] at H
         have c18b0 : decide (0 < (t323.length : Int)) = true := decide_eq_true c18
         have c18b1 : decide (0 < t323.length) = true := decide_eq_true (by omega)
         clear c18
         by_cases c19 : (rd t323 0) = a1
         ·
          rw [if_pos c19] at H
          have c19b0 : ((rd t323 0) == a1) = true := beq_iff_eq.mpr c19
          have c19b1 : ((rd t323 0) != a1) = false := bne_eq_false_iff_eq.mpr c19
          clear c19
          obtain ⟨ji20, hji20⟩ : ∃ j_ : Int, (wrap64 ((t323.length : Int) - 1)) = j_ := ⟨_, rfl⟩
          replace H : (if 0 ≤ (ji20) then (if (ji20) < (t323.length : Int) then (corporalaw09_DependConnects.j1 kj6 l0 t323 t327 ((rd t323 (ji20)) != a2)) else (none)) else (none)) = some r := by first | (rw [hji20] at H; exact H) | (simp only [hji20] at H ⊢; exact H)
          have hji20w : (IntKind.i64.wrap ((t323.length : Int) - 1)) = ji20 := (i64_w _).trans hji20
          by_cases c21 : 0 ≤ (ji20)
          ·
           rw [if_pos c21] at H
           have c21b0 : decide (0 ≤ (ji20)) = true := decide_eq_true c21
           clear c21
           by_cases c22 : (ji20) < (t323.length : Int)
           ·
            rw [if_pos c22] at H
            have c22b0 : decide ((ji20) < (t323.length : Int)) = true := decide_eq_true c22
            clear c22
            have H' := Aside0.mk H
            clear H
            obtain ⟨Ao23, co23, eo23⟩ := Kd.R_slice HO_7.out
            subst eo23
            have p332 : 0 ≤ (0 : Int) := (by omega)
            have q332 : 0 < (t323.length : Int) := OD
            obtain ⟨ad332, e332, hx332_0⟩ := Kd.at_int (Kd.R_reads' HO_7.out).2.2 0 p332 q332
            cases e332
            have qi332 : (0 < t323.length) = True := eq_true (by omega)
            (try rw [show ((0 : Int)).toNat = 0 from rfl] at hx332_0)
            (try rw [Addr.add_zero'] at hx332_0)
            replace p332 := eq_true p332
            replace q332 := eq_true q332
            have p333 : 0 ≤ ((ji20) : Int) := OD
            have q333 : (ji20) < (t323.length : Int) := OD
            obtain ⟨ad333, e333, hx333_0⟩ := Kd.at_int (Kd.R_reads' HO_7.out).2.2 (ji20) p333 q333
            obtain rfl : ad332 = ad333 := (by injection e333)
            replace p333 := eq_true p333
            replace q333 := eq_true q333
            go_wp2
            repeat (go_quiet (fail); try go_wp2)
            go_meet
            case rel => exact ⟨_, (((rd t323 (ji20)) != a2)), (by first | rfl | (simp; done) | (simp only [← hji20] <;> (first | rfl | simp)) | (simp [*]; done)), H', ⟨by have := HJ6.out; first | omega | exact Nat.le_refl _⟩, ⟨BR HO_7.out⟩, ⟨BR HO_9.out⟩, ⟨BB⟩⟩
           ·
            rw [if_neg c22] at H
            exact absurd H (by simp)
          ·
           rw [if_neg c21] at H
           exact absurd H (by simp)
         ·
          rw [if_neg c19] at H
          have c19b0 : ((rd t323 0) == a1) = false := beq_eq_false_iff_ne.mpr c19
          have c19b1 : ((rd t323 0) != a1) = true := bne_iff_ne.mpr c19
          have H' := Aside0.mk H
          clear H
          obtain ⟨Ao24, co24, eo24⟩ := Kd.R_slice HO_7.out
          subst eo24
          have p332 : 0 ≤ (0 : Int) := (by omega)
          have q332 : 0 < (t323.length : Int) := OD
          obtain ⟨ad332, e332, hx332_0⟩ := Kd.at_int (Kd.R_reads' HO_7.out).2.2 0 p332 q332
          cases e332
          have qi332 : (0 < t323.length) = True := eq_true (by omega)
          (try rw [show ((0 : Int)).toNat = 0 from rfl] at hx332_0)
          (try rw [Addr.add_zero'] at hx332_0)
          replace p332 := eq_true p332
          replace q332 := eq_true q332
          go_wp2
          repeat (go_quiet (fail); try go_wp2)
          go_meet
          case rel => exact ⟨_, (true), (BE), H', ⟨by have := HJ6.out; first | omega | exact Nat.le_refl _⟩, ⟨BR HO_7.out⟩, ⟨BR HO_9.out⟩, ⟨BB⟩⟩
        ·
         rw [if_neg c18] at H
         exact absurd H (by simp)
      case rest =>
       clear HC15
       (try clear c1); (try clear c2); (try clear p2); (try clear p3); (try clear q3); (try clear hx3); (try clear qi3); (try clear c4); (try clear c4b0); (try clear c4b1); (try clear c6); (try clear p6); (try clear c10)
       (try clear c10b0); (try clear c10b1); (try clear c13); (try clear c14); (try clear c14b0); (try clear c14b1); (try clear c16); (try clear c16b0); (try clear c16b1); (try clear c16b2); (try clear c18); (try clear c18b0)
       (try clear c18b1); (try clear c19); (try clear c19b0); (try clear c19b1); (try clear c21); (try clear c21b0); (try clear c22); (try clear c22b0); (try clear hx332_0); (try clear hx333_0); (try clear p2); (try clear p332)
       (try clear p333); (try clear q332); (try clear q333)
       obtain ⟨kq, x67_14, rfl, HA, HJ14, HO_7, HO_9, HB⟩ := hcut
       cases kq with
       | zero => exact absurd HA.out (by simp [corporalaw09_DependConnects.j1])
       | succ kj14 =>
        have H := HA.out
        clear HA
        simp only [corporalaw09_DependConnects.j1] at H
        by_cases c25 : x67_14 = true
        ·
         subst c25
         have H1 : (some false) = some r := by rw [if_pos rfl] at H; exact H
         clear H
         have H := H1
         clear H1
         obtain rfl := Option.some.inj H
         go_wp2
         repeat (go_quiet (fail); try go_wp2)
         go_ret
         exact ⟨BX, BB⟩
        ·
         replace c25 := Bool.eq_false_iff.mpr c25
         subst c25
         have H1 : (corporalaw09_DependConnects.l0 kj14 l0 t323 t327 (t323.length : Int) 0) = some r := by rw [if_neg (show ¬ (false = true) by decide)] at H; exact H
         clear H
         have H := H1
         clear H1
         have H' := Aside0.mk H
         clear H
         obtain ⟨Ao26, co26, eo26⟩ := Kd.R_slice HO_7.out
         subst eo26
         go_wp2
         repeat (go_quiet (fail); try go_wp2)
         go_loopg [70] kj14 (fun kq v70 w' => ∃ (x70_3 : Int), v70 = .int .i64 x70_3 ∧ Aside0 (corporalaw09_DependConnects.l0 kq l0 t323 t327 (t323.length : Int) x70_3 = some r) ∧ Aside0 (kq ≤ kj14) ∧ Aside0 (Kd.R (Kd.int .i64) 3 w' w.heap.size (fun k_ => some k_ ≠ (v329 : Value).ownBlock) (.slice Ao26 t323.length co26) t323) ∧ Aside0 (Kd.R (Kd.int .i64) 3 w' w.heap.size (fun k_ => some k_ ≠ ((.slice Ao26 t323.length co26) : Value).ownBlock) v329 t327) ∧ Aside0 (Below w.heap.size w w'))
         case atStart => exact ⟨(0), (BE), H', ⟨Nat.le_refl _⟩, ⟨BR HO_7.out⟩, ⟨BR HO_9.out⟩, ⟨BB⟩⟩
         case round =>
          clear H'
          (try clear c1); (try clear c2); (try clear p2); (try clear p3); (try clear q3); (try clear hx3); (try clear qi3); (try clear c4); (try clear c4b0); (try clear c4b1); (try clear c6); (try clear p6); (try clear c10)
          (try clear c10b0); (try clear c10b1); (try clear c13); (try clear c14); (try clear c14b0); (try clear c14b1); (try clear c16); (try clear c16b0); (try clear c16b1); (try clear c16b2); (try clear c18); (try clear c18b0)
          (try clear c18b1); (try clear c19); (try clear c19b0); (try clear c19b1); (try clear c21); (try clear c21b0); (try clear c22); (try clear c22b0); (try clear c25); (try clear hx332_0); (try clear hx333_0)
          (try clear p2); (try clear p3); (try clear p332); (try clear p333); (try clear p6); (try clear q3); (try clear q332); (try clear q333)
          obtain ⟨x70_3, rfl, HA, HK3, HO_7, HO_9, HB⟩ := hrel
          cases gk with
          | zero => exact absurd HA.out (by simp [corporalaw09_DependConnects.l0])
          | succ k3 =>
           have H := HA.out
           clear HA
           simp only [corporalaw09_DependConnects.l0] at H
           by_cases c27 : x70_3 < (t323.length : Int)
           ·
            rw [if_pos c27] at H
            have c27b0 : decide (x70_3 < (t323.length : Int)) = true := decide_eq_true c27
            clear c27
            have HC28 := Aside0.mk H
            clear H
            go_upto_region 14 with (fail)
            repeat (go_quiet (fail); go_upto_region 14 with (fail))
            go_cut [135] (fun v135 wc => ∃ (kq : Nat) (x135_27 : Bool), v135 = .bool x135_27 ∧ Aside0 (corporalaw09_DependConnects.j3 kq l0 t323 t327 x70_3 (t323.length : Int) x70_3 x135_27 = some r) ∧ Aside0 (kq ≤ k3) ∧ Aside0 (Kd.R (Kd.int .i64) 3 wc w.heap.size (fun k_ => some k_ ≠ (v329 : Value).ownBlock) (.slice Ao26 t323.length co26) t323) ∧ Aside0 (Kd.R (Kd.int .i64) 3 wc w.heap.size (fun k_ => some k_ ≠ ((.slice Ao26 t323.length co26) : Value).ownBlock) v329 t327) ∧ Aside0 (Below w.heap.size w wc))
            case first =>
             have H := HC28.out
             clear HC28
             by_cases c29 : 0 ≤ x70_3
             ·
              rw [if_pos c29] at H
              have c29b0 : decide (0 ≤ x70_3) = true := decide_eq_true c29
              clear c29
              (first | rw [c29b0] | (simp only [i64_w, i32_w]; rw [c29b0]) | skip)
              by_cases c30 : x70_3 < (t323.length : Int)
              ·
               rw [if_pos c30] at H
               have c30b0 : decide (x70_3 < (t323.length : Int)) = true := decide_eq_true c30
               clear c30
               by_cases c31 : (rd t323 x70_3) < 0
               ·
                rw [if_pos c31] at H
                have c31b0 : decide ((rd t323 x70_3) < 0) = true := decide_eq_true c31
                clear c31
                have H' := Aside0.mk H
                clear H
                have p335 : 0 ≤ (x70_3 : Int) := OD
                have q335 : x70_3 < (t323.length : Int) := OD
                obtain ⟨ad335, e335, hx335_0⟩ := Kd.at_int (Kd.R_reads' HO_7.out).2.2 x70_3 p335 q335
                cases e335
                replace p335 := eq_true p335
                replace q335 := eq_true q335
                go_wp2
                repeat (go_quiet (fail); try go_wp2)
                go_meet
                case rel => exact ⟨_, (true), (BE), H', ⟨by have := HJ6.out; have := HJ14.out; have := HK3.out; first | omega | exact Nat.le_refl _⟩, ⟨BR HO_7.out⟩, ⟨BR HO_9.out⟩, ⟨BB⟩⟩
               ·
                rw [if_neg c31] at H
                have c31b0 : decide ((rd t323 x70_3) < 0) = false := decide_eq_false c31
                clear c31
                by_cases c32 : (rd t323 x70_3) ≥ (l0.length : Int)
                ·
                 rw [if_pos c32] at H
                 have c32b0 : decide ((l0.length : Int) ≤ (rd t323 x70_3)) = true := decide_eq_true c32
                 clear c32
                 have H' := Aside0.mk H
                 clear H
                 have p335 : 0 ≤ (x70_3 : Int) := OD
                 have q335 : x70_3 < (t323.length : Int) := OD
                 obtain ⟨ad335, e335, hx335_0⟩ := Kd.at_int (Kd.R_reads' HO_7.out).2.2 x70_3 p335 q335
                 cases e335
                 replace p335 := eq_true p335
                 replace q335 := eq_true q335
                 have p336 : 0 ≤ (x70_3 : Int) := OD
                 have q336 : x70_3 < (t323.length : Int) := OD
                 obtain ⟨ad336, e336, hx336_0⟩ := Kd.at_int (Kd.R_reads' HO_7.out).2.2 x70_3 p336 q336
                 obtain rfl : ad335 = ad336 := (by injection e336)
                 replace p336 := eq_true p336
                 replace q336 := eq_true q336
                 go_wp2
                 repeat (go_quiet (fail); try go_wp2)
                 go_meet
                 case rel => exact ⟨_, (true), (BE), H', ⟨by have := HJ6.out; have := HJ14.out; have := HK3.out; first | omega | exact Nat.le_refl _⟩, ⟨BR HO_7.out⟩, ⟨BR HO_9.out⟩, ⟨BB⟩⟩
                ·
                 rw [if_neg c32] at H
                 have c32b0 : decide ((l0.length : Int) ≤ (rd t323 x70_3)) = false := decide_eq_false c32
                 clear c32
                 obtain ⟨ji33, hji33⟩ : ∃ j_ : Int, (wrap64 ((wrap64 ((t327.length : Int) - 1)) - x70_3)) = j_ := ⟨_, rfl⟩
                 replace H : (if 0 ≤ (ji33) then (if (ji33) < (t327.length : Int) then (if (rd t327 (ji33)) = (rd t323 x70_3) then (if x70_3 > 0 then (if 0 ≤ (rd t323 x70_3) then (if (rd t323 x70_3) < (l0.length : Int) then (if 0 ≤ (wrap64 (x70_3 - 1)) then (if (wrap64 (x70_3 - 1)) < (t323.length : Int) then (if (rd l0 (rd t323 x70_3)) = (rd t323 (wrap64 (x70_3 - 1))) then (corporalaw09_DependConnects.j3 k3 l0 t323 t327 x70_3 (t323.length : Int) x70_3 false) else (if 0 ≤ (rd t323 (wrap64 (x70_3 - 1))) then (if (rd t323 (wrap64 (x70_3 - 1))) < (l0.length : Int) then (corporalaw09_DependConnects.j3 k3 l0 t323 t327 x70_3 (t323.length : Int) x70_3 ((rd l0 (rd t323 (wrap64 (x70_3 - 1)))) != (rd t323 x70_3))) else (none)) else (none))) else (none)) else (none)) else (none)) else (none)) else (corporalaw09_DependConnects.j3 k3 l0 t323 t327 x70_3 (t323.length : Int) x70_3 false)) else (corporalaw09_DependConnects.j3 k3 l0 t323 t327 x70_3 (t323.length : Int) x70_3 true)) else (none)) else (none)) = some r := by first | (rw [hji33] at H; exact H) | (simp only [hji33] at H ⊢; exact H)
                 have hji33w : (IntKind.i64.wrap ((wrap64 ((t327.length : Int) - 1)) - x70_3)) = ji33 := (i64_w _).trans hji33
                 by_cases c34 : 0 ≤ (ji33)
                 ·
                  rw [if_pos c34] at H
                  have c34b0 : decide (0 ≤ (ji33)) = true := decide_eq_true c34
                  clear c34
                  by_cases c35 : (ji33) < (t327.length : Int)
                  ·
                   rw [if_pos c35] at H
                   have c35b0 : decide ((ji33) < (t327.length : Int)) = true := decide_eq_true c35
                   clear c35
                   by_cases c36 : (rd t327 (ji33)) = (rd t323 x70_3)
                   ·
                    rw [if_pos c36] at H
                    have c36b0 : ((rd t327 (ji33)) == (rd t323 x70_3)) = true := beq_iff_eq.mpr c36
                    have c36b1 : ((rd t327 (ji33)) != (rd t323 x70_3)) = false := bne_eq_false_iff_eq.mpr c36
                    clear c36
                    by_cases c37 : x70_3 > 0
                    ·
                     rw [if_pos c37] at H
                     have c37b0 : decide (0 < x70_3) = true := decide_eq_true c37
                     clear c37
                     by_cases c38 : 0 ≤ (rd t323 x70_3)
                     ·
                      rw [if_pos c38] at H
                      have c38b0 : decide (0 ≤ (rd t323 x70_3)) = true := decide_eq_true c38
                      clear c38
                      by_cases c39 : (rd t323 x70_3) < (l0.length : Int)
                      ·
                       rw [if_pos c39] at H
                       have c39b0 : decide ((rd t323 x70_3) < (l0.length : Int)) = true := decide_eq_true c39
                       clear c39
                       obtain ⟨ji40, hji40⟩ : ∃ j_ : Int, (wrap64 (x70_3 - 1)) = j_ := ⟨_, rfl⟩
                       replace H : (if 0 ≤ (ji40) then (if (ji40) < (t323.length : Int) then (if (rd l0 (rd t323 x70_3)) = (rd t323 (ji40)) then (corporalaw09_DependConnects.j3 k3 l0 t323 t327 x70_3 (t323.length : Int) x70_3 false) else (if 0 ≤ (rd t323 (ji40)) then (if (rd t323 (ji40)) < (l0.length : Int) then (corporalaw09_DependConnects.j3 k3 l0 t323 t327 x70_3 (t323.length : Int) x70_3 ((rd l0 (rd t323 (ji40))) != (rd t323 x70_3))) else (none)) else (none))) else (none)) else (none)) = some r := by first | (rw [hji40] at H; exact H) | (simp only [hji40] at H ⊢; exact H)
                       have hji40w : (IntKind.i64.wrap (x70_3 - 1)) = ji40 := (i64_w _).trans hji40
                       by_cases c41 : 0 ≤ (ji40)
                       ·
                        rw [if_pos c41] at H
                        have c41b0 : decide (0 ≤ (ji40)) = true := decide_eq_true c41
                        clear c41
                        by_cases c42 : (ji40) < (t323.length : Int)
                        ·
                         rw [if_pos c42] at H
                         have c42b0 : decide ((ji40) < (t323.length : Int)) = true := decide_eq_true c42
                         clear c42
                         by_cases c43 : (rd l0 (rd t323 x70_3)) = (rd t323 (ji40))
                         ·
                          rw [if_pos c43] at H
                          have c43b0 : ((rd l0 (rd t323 x70_3)) == (rd t323 (ji40))) = true := beq_iff_eq.mpr c43
                          have c43b1 : ((rd l0 (rd t323 x70_3)) != (rd t323 (ji40))) = false := bne_eq_false_iff_eq.mpr c43
                          clear c43
                          have H' := Aside0.mk H
                          clear H
                          have p335 : 0 ≤ (x70_3 : Int) := OD
                          have q335 : x70_3 < (t323.length : Int) := OD
                          obtain ⟨ad335, e335, hx335_0⟩ := Kd.at_int (Kd.R_reads' HO_7.out).2.2 x70_3 p335 q335
                          cases e335
                          replace p335 := eq_true p335
                          replace q335 := eq_true q335
                          have p336 : 0 ≤ (x70_3 : Int) := OD
                          have q336 : x70_3 < (t323.length : Int) := OD
                          obtain ⟨ad336, e336, hx336_0⟩ := Kd.at_int (Kd.R_reads' HO_7.out).2.2 x70_3 p336 q336
                          obtain rfl : ad335 = ad336 := (by injection e336)
                          replace p336 := eq_true p336
                          replace q336 := eq_true q336
                          obtain ⟨Ao44, co44, eo44⟩ := Kd.R_slice HO_9.out
                          subst eo44
                          have p337 : 0 ≤ ((ji33) : Int) := OD
                          have q337 : (ji33) < (t327.length : Int) := OD
                          obtain ⟨ad337, e337, hx337_0⟩ := Kd.at_int (Kd.R_reads' HO_9.out).2.2 (ji33) p337 q337
                          cases e337
                          replace p337 := eq_true p337
                          replace q337 := eq_true q337
                          have p338 : 0 ≤ (x70_3 : Int) := OD
                          have q338 : x70_3 < (t323.length : Int) := OD
                          obtain ⟨ad338, e338, hx338_0⟩ := Kd.at_int (Kd.R_reads' HO_7.out).2.2 x70_3 p338 q338
                          obtain rfl : ad335 = ad338 := (by injection e338)
                          replace p338 := eq_true p338
                          replace q338 := eq_true q338
                          have p339 : 0 ≤ (x70_3 : Int) := OD
                          have q339 : x70_3 < (t323.length : Int) := OD
                          obtain ⟨ad339, e339, hx339_0⟩ := Kd.at_int (Kd.R_reads' HO_7.out).2.2 x70_3 p339 q339
                          obtain rfl : ad335 = ad339 := (by injection e339)
                          replace p339 := eq_true p339
                          replace q339 := eq_true q339
                          have p340 : 0 ≤ ((rd t323 x70_3) : Int) := OD
                          have q340 : (rd t323 x70_3) < (l0.length : Int) := OD
                          obtain ⟨ad340, e340, hx340_0⟩ := Kd.at_int HR0.out (rd t323 x70_3) p340 q340
                          cases e340
                          replace hx340_0 := (HB.out.cell (World.block_lt_of_cell? w _ hx340_0)).trans hx340_0
                          replace p340 := eq_true p340
                          replace q340 := eq_true q340
                          have p341 : 0 ≤ ((ji40) : Int) := OD
                          have q341 : (ji40) < (t323.length : Int) := OD
                          obtain ⟨ad341, e341, hx341_0⟩ := Kd.at_int (Kd.R_reads' HO_7.out).2.2 (ji40) p341 q341
                          obtain rfl : ad335 = ad341 := (by injection e341)
                          replace p341 := eq_true p341
                          replace q341 := eq_true q341
                          go_wp2
                          repeat (go_quiet (fail); try go_wp2)
                          go_meet
                          case rel => exact ⟨_, (false), (BE), H', ⟨by have := HJ6.out; have := HJ14.out; have := HK3.out; first | omega | exact Nat.le_refl _⟩, ⟨BR HO_7.out⟩, ⟨BR HO_9.out⟩, ⟨BB⟩⟩
                         ·
                          rw [if_neg c43] at H
                          have c43b0 : ((rd l0 (rd t323 x70_3)) == (rd t323 (ji40))) = false := beq_eq_false_iff_ne.mpr c43
                          have c43b1 : ((rd l0 (rd t323 x70_3)) != (rd t323 (ji40))) = true := bne_iff_ne.mpr c43
                          by_cases c45 : 0 ≤ (rd t323 (ji40))
                          ·
                           rw [if_pos c45] at H
                           have c45b0 : decide (0 ≤ (rd t323 (ji40))) = true := decide_eq_true c45
                           clear c45
                           by_cases c46 : (rd t323 (ji40)) < (l0.length : Int)
                           ·
                            rw [if_pos c46] at H
                            have c46b0 : decide ((rd t323 (ji40)) < (l0.length : Int)) = true := decide_eq_true c46
                            clear c46
                            have H' := Aside0.mk H
                            clear H
                            have p335 : 0 ≤ (x70_3 : Int) := OD
                            have q335 : x70_3 < (t323.length : Int) := OD
                            obtain ⟨ad335, e335, hx335_0⟩ := Kd.at_int (Kd.R_reads' HO_7.out).2.2 x70_3 p335 q335
                            cases e335
                            replace p335 := eq_true p335
                            replace q335 := eq_true q335
                            have p336 : 0 ≤ (x70_3 : Int) := OD
                            have q336 : x70_3 < (t323.length : Int) := OD
                            obtain ⟨ad336, e336, hx336_0⟩ := Kd.at_int (Kd.R_reads' HO_7.out).2.2 x70_3 p336 q336
                            obtain rfl : ad335 = ad336 := (by injection e336)
                            replace p336 := eq_true p336
                            replace q336 := eq_true q336
                            obtain ⟨Ao47, co47, eo47⟩ := Kd.R_slice HO_9.out
                            subst eo47
                            have p337 : 0 ≤ ((ji33) : Int) := OD
                            have q337 : (ji33) < (t327.length : Int) := OD
                            obtain ⟨ad337, e337, hx337_0⟩ := Kd.at_int (Kd.R_reads' HO_9.out).2.2 (ji33) p337 q337
                            cases e337
                            replace p337 := eq_true p337
                            replace q337 := eq_true q337
                            have p338 : 0 ≤ (x70_3 : Int) := OD
                            have q338 : x70_3 < (t323.length : Int) := OD
                            obtain ⟨ad338, e338, hx338_0⟩ := Kd.at_int (Kd.R_reads' HO_7.out).2.2 x70_3 p338 q338
                            obtain rfl : ad335 = ad338 := (by injection e338)
                            replace p338 := eq_true p338
                            replace q338 := eq_true q338
                            have p339 : 0 ≤ (x70_3 : Int) := OD
                            have q339 : x70_3 < (t323.length : Int) := OD
                            obtain ⟨ad339, e339, hx339_0⟩ := Kd.at_int (Kd.R_reads' HO_7.out).2.2 x70_3 p339 q339
                            obtain rfl : ad335 = ad339 := (by injection e339)
                            replace p339 := eq_true p339
                            replace q339 := eq_true q339
                            have p340 : 0 ≤ ((rd t323 x70_3) : Int) := OD
                            have q340 : (rd t323 x70_3) < (l0.length : Int) := OD
                            obtain ⟨ad340, e340, hx340_0⟩ := Kd.at_int HR0.out (rd t323 x70_3) p340 q340
                            cases e340
                            replace hx340_0 := (HB.out.cell (World.block_lt_of_cell? w _ hx340_0)).trans hx340_0
                            replace p340 := eq_true p340
                            replace q340 := eq_true q340
                            have p341 : 0 ≤ ((ji40) : Int) := OD
                            have q341 : (ji40) < (t323.length : Int) := OD
                            obtain ⟨ad341, e341, hx341_0⟩ := Kd.at_int (Kd.R_reads' HO_7.out).2.2 (ji40) p341 q341
                            obtain rfl : ad335 = ad341 := (by injection e341)
                            replace p341 := eq_true p341
                            replace q341 := eq_true q341
                            have p342 : 0 ≤ ((ji40) : Int) := OD
                            have q342 : (ji40) < (t323.length : Int) := OD
                            obtain ⟨ad342, e342, hx342_0⟩ := Kd.at_int (Kd.R_reads' HO_7.out).2.2 (ji40) p342 q342
                            obtain rfl : ad335 = ad342 := (by injection e342)
                            replace p342 := eq_true p342
                            replace q342 := eq_true q342
                            have p343 : 0 ≤ ((rd t323 (ji40)) : Int) := OD
                            have q343 : (rd t323 (ji40)) < (l0.length : Int) := OD
                            obtain ⟨ad343, e343, hx343_0⟩ := Kd.at_int HR0.out (rd t323 (ji40)) p343 q343
                            obtain rfl : ad340 = ad343 := (by injection e343)
                            replace hx343_0 := (HB.out.cell (World.block_lt_of_cell? w _ hx343_0)).trans hx343_0
                            replace p343 := eq_true p343
                            replace q343 := eq_true q343
                            have p344 : 0 ≤ (x70_3 : Int) := OD
                            have q344 : x70_3 < (t323.length : Int) := OD
                            obtain ⟨ad344, e344, hx344_0⟩ := Kd.at_int (Kd.R_reads' HO_7.out).2.2 x70_3 p344 q344
                            obtain rfl : ad335 = ad344 := (by injection e344)
                            replace p344 := eq_true p344
                            replace q344 := eq_true q344
                            go_wp2
                            repeat (go_quiet (fail); try go_wp2)
                            go_meet
                            case rel => exact ⟨_, (((rd l0 (rd t323 (ji40))) != (rd t323 x70_3))), (by first | rfl | (simp; done) | (simp only [← hji40] <;> (first | rfl | simp)) | (simp [*]; done)), H', ⟨by have := HJ6.out; have := HJ14.out; have := HK3.out; first | omega | exact Nat.le_refl _⟩, ⟨BR HO_7.out⟩, ⟨BR HO_9.out⟩, ⟨BB⟩⟩
                           ·
                            rw [if_neg c46] at H
                            exact absurd H (by simp)
                          ·
                           rw [if_neg c45] at H
                           exact absurd H (by simp)
                        ·
                         rw [if_neg c42] at H
                         exact absurd H (by simp)
                       ·
                        rw [if_neg c41] at H
                        exact absurd H (by simp)
                      ·
                       rw [if_neg c39] at H
                       exact absurd H (by simp)
                     ·
                      rw [if_neg c38] at H
                      exact absurd H (by simp)
                    ·
                     rw [if_neg c37] at H
                     have c37b0 : decide (0 < x70_3) = false := decide_eq_false c37
                     clear c37
                     have H' := Aside0.mk H
                     clear H
                     have p335 : 0 ≤ (x70_3 : Int) := OD
                     have q335 : x70_3 < (t323.length : Int) := OD
                     obtain ⟨ad335, e335, hx335_0⟩ := Kd.at_int (Kd.R_reads' HO_7.out).2.2 x70_3 p335 q335
                     cases e335
                     replace p335 := eq_true p335
                     replace q335 := eq_true q335
                     have p336 : 0 ≤ (x70_3 : Int) := OD
                     have q336 : x70_3 < (t323.length : Int) := OD
                     obtain ⟨ad336, e336, hx336_0⟩ := Kd.at_int (Kd.R_reads' HO_7.out).2.2 x70_3 p336 q336
                     obtain rfl : ad335 = ad336 := (by injection e336)
                     replace p336 := eq_true p336
                     replace q336 := eq_true q336
                     obtain ⟨Ao48, co48, eo48⟩ := Kd.R_slice HO_9.out
                     subst eo48
                     have p337 : 0 ≤ ((ji33) : Int) := OD
                     have q337 : (ji33) < (t327.length : Int) := OD
                     obtain ⟨ad337, e337, hx337_0⟩ := Kd.at_int (Kd.R_reads' HO_9.out).2.2 (ji33) p337 q337
                     cases e337
                     replace p337 := eq_true p337
                     replace q337 := eq_true q337
                     have p338 : 0 ≤ (x70_3 : Int) := OD
                     have q338 : x70_3 < (t323.length : Int) := OD
                     obtain ⟨ad338, e338, hx338_0⟩ := Kd.at_int (Kd.R_reads' HO_7.out).2.2 x70_3 p338 q338
                     obtain rfl : ad335 = ad338 := (by injection e338)
                     replace p338 := eq_true p338
                     replace q338 := eq_true q338
                     go_wp2
                     repeat (go_quiet (fail); try go_wp2)
                     go_meet
                     case rel => exact ⟨_, (false), (BE), H', ⟨by have := HJ6.out; have := HJ14.out; have := HK3.out; first | omega | exact Nat.le_refl _⟩, ⟨BR HO_7.out⟩, ⟨BR HO_9.out⟩, ⟨BB⟩⟩
                   ·
                    rw [if_neg c36] at H
                    have c36b0 : ((rd t327 (ji33)) == (rd t323 x70_3)) = false := beq_eq_false_iff_ne.mpr c36
                    have c36b1 : ((rd t327 (ji33)) != (rd t323 x70_3)) = true := bne_iff_ne.mpr c36
                    have H' := Aside0.mk H
                    clear H
                    have p335 : 0 ≤ (x70_3 : Int) := OD
                    have q335 : x70_3 < (t323.length : Int) := OD
                    obtain ⟨ad335, e335, hx335_0⟩ := Kd.at_int (Kd.R_reads' HO_7.out).2.2 x70_3 p335 q335
                    cases e335
                    replace p335 := eq_true p335
                    replace q335 := eq_true q335
                    have p336 : 0 ≤ (x70_3 : Int) := OD
                    have q336 : x70_3 < (t323.length : Int) := OD
                    obtain ⟨ad336, e336, hx336_0⟩ := Kd.at_int (Kd.R_reads' HO_7.out).2.2 x70_3 p336 q336
                    obtain rfl : ad335 = ad336 := (by injection e336)
                    replace p336 := eq_true p336
                    replace q336 := eq_true q336
                    obtain ⟨Ao49, co49, eo49⟩ := Kd.R_slice HO_9.out
                    subst eo49
                    have p337 : 0 ≤ ((ji33) : Int) := OD
                    have q337 : (ji33) < (t327.length : Int) := OD
                    obtain ⟨ad337, e337, hx337_0⟩ := Kd.at_int (Kd.R_reads' HO_9.out).2.2 (ji33) p337 q337
                    cases e337
                    replace p337 := eq_true p337
                    replace q337 := eq_true q337
                    have p338 : 0 ≤ (x70_3 : Int) := OD
                    have q338 : x70_3 < (t323.length : Int) := OD
                    obtain ⟨ad338, e338, hx338_0⟩ := Kd.at_int (Kd.R_reads' HO_7.out).2.2 x70_3 p338 q338
                    obtain rfl : ad335 = ad338 := (by injection e338)
                    replace p338 := eq_true p338
                    replace q338 := eq_true q338
                    go_wp2
                    repeat (go_quiet (fail); try go_wp2)
                    go_meet
                    case rel => exact ⟨_, (true), (BE), H', ⟨by have := HJ6.out; have := HJ14.out; have := HK3.out; first | omega | exact Nat.le_refl _⟩, ⟨BR HO_7.out⟩, ⟨BR HO_9.out⟩, ⟨BB⟩⟩
                  ·
                   rw [if_neg c35] at H
                   exact absurd H (by simp)
                 ·
                  rw [if_neg c34] at H
                  exact absurd H (by simp)
              ·
               rw [if_neg c30] at H
               exact absurd H (by simp)
             ·
              rw [if_neg c29] at H
              exact absurd H (by simp)
            case rest =>
             clear HC28
             (try clear c1); (try clear c2); (try clear p2); (try clear c3); (try clear p3); (try clear q3); (try clear hx3); (try clear qi3); (try clear c4); (try clear c4b0); (try clear c4b1); (try clear c6)
             (try clear p6); (try clear c10); (try clear c10b0); (try clear c10b1); (try clear c13); (try clear c14); (try clear c14b0); (try clear c14b1); (try clear c16); (try clear c16b0); (try clear c16b1)
             (try clear c16b2); (try clear c18); (try clear c18b0); (try clear c18b1); (try clear c19); (try clear c19b0); (try clear c19b1); (try clear c21); (try clear c21b0); (try clear c22); (try clear c22b0)
             (try clear c25); (try clear c27); (try clear c27b0); (try clear c29); (try clear c29b0); (try clear c30); (try clear c30b0); (try clear c31); (try clear c31b0); (try clear c32); (try clear c32b0)
             (try clear p33); (try clear q33); (try clear hx33); (try clear qi33); (try clear c34); (try clear c34b0); (try clear p34); (try clear q34); (try clear hx34); (try clear c35); (try clear c35b0); (try clear c36)
             (try clear c36b0); (try clear c36b1); (try clear c37); (try clear c37b0); (try clear c38); (try clear c38b0); (try clear c39); (try clear c39b0); (try clear c41); (try clear c41b0); (try clear c42)
             (try clear c42b0); (try clear c43); (try clear c43b0); (try clear c43b1); (try clear c45); (try clear c45b0); (try clear c46); (try clear c46b0); (try clear hx332_0); (try clear hx333_0); (try clear hx335_0)
             (try clear hx336_0); (try clear hx337_0); (try clear hx338_0); (try clear hx339_0); (try clear hx340_0); (try clear hx341_0); (try clear hx342_0); (try clear hx343_0); (try clear hx344_0); (try clear p2)
             (try clear p3); (try clear p332); (try clear p333); (try clear p335); (try clear p336); (try clear p337); (try clear p338); (try clear p339); (try clear p340); (try clear p341); (try clear p342)
             (try clear p343); (try clear p344); (try clear p6); (try clear q3); (try clear q332); (try clear q333); (try clear q335); (try clear q336); (try clear q337); (try clear q338); (try clear q339); (try clear q340)
             (try clear q341); (try clear q342); (try clear q343); (try clear q344)
             obtain ⟨kq, x135_27, rfl, HA, HJ27, HO_7, HO_9, HB⟩ := hcut
             cases kq with
             | zero => exact absurd HA.out (by simp [corporalaw09_DependConnects.j3])
             | succ kj27 =>
              have H := HA.out
              clear HA
              simp only [corporalaw09_DependConnects.j3] at H
              by_cases c50 : x135_27 = true
              ·
               subst c50
               have H1 : (some false) = some r := by rw [if_pos rfl] at H; exact H
               clear H
               have H := H1
               clear H1
               obtain rfl := Option.some.inj H
               go_wp2
               repeat (go_quiet (fail); try go_wp2)
               go_ret
               exact ⟨BX, BB⟩
              ·
               replace c50 := Bool.eq_false_iff.mpr c50
               subst c50
               have H1 : (corporalaw09_DependConnects.l1 kj27 l0 t323 t327 x70_3 0 (t323.length : Int) x70_3) = some r := by rw [if_neg (show ¬ (false = true) by decide)] at H; exact H
               clear H
               have H := H1
               clear H1
               have H' := Aside0.mk H
               clear H
               go_wp2
               repeat (go_quiet (fail); try go_wp2)
               go_loopg [12] kj27 (fun kq v12 w' => ∃ (x12_5 : Int), v12 = .int .i64 x12_5 ∧ Aside0 (corporalaw09_DependConnects.l1 kq l0 t323 t327 x70_3 x12_5 (t323.length : Int) x70_3 = some r) ∧ Aside0 (kq ≤ kj27) ∧ Aside0 (Kd.R (Kd.int .i64) 3 w' w.heap.size (fun k_ => some k_ ≠ (v329 : Value).ownBlock) (.slice Ao26 t323.length co26) t323) ∧ Aside0 (Kd.R (Kd.int .i64) 3 w' w.heap.size (fun k_ => some k_ ≠ ((.slice Ao26 t323.length co26) : Value).ownBlock) v329 t327) ∧ Aside0 (Below w.heap.size w w'))
               case atStart => exact ⟨(0), (BE), H', ⟨Nat.le_refl _⟩, ⟨BR HO_7.out⟩, ⟨BR HO_9.out⟩, ⟨BB⟩⟩
               case round =>
                clear H'
                (try clear c1); (try clear c2); (try clear p2); (try clear c3); (try clear p3); (try clear q3); (try clear hx3); (try clear qi3); (try clear c4); (try clear c4b0); (try clear c4b1); (try clear c5)
                (try clear c6); (try clear p6); (try clear c10); (try clear c10b0); (try clear c10b1); (try clear c13); (try clear c14); (try clear c14b0); (try clear c14b1); (try clear c16); (try clear c16b0)
                (try clear c16b1); (try clear c16b2); (try clear c18); (try clear c18b0); (try clear c18b1); (try clear c19); (try clear c19b0); (try clear c19b1); (try clear c21); (try clear c21b0); (try clear c22)
                (try clear c22b0); (try clear c25); (try clear c27); (try clear c27b0); (try clear c29); (try clear c29b0); (try clear c30); (try clear c30b0); (try clear c31); (try clear c31b0); (try clear c32)
                (try clear c32b0); (try clear p33); (try clear q33); (try clear hx33); (try clear qi33); (try clear c34); (try clear c34b0); (try clear p34); (try clear q34); (try clear hx34); (try clear c35)
                (try clear c35b0); (try clear c36); (try clear c36b0); (try clear c36b1); (try clear c37); (try clear c37b0); (try clear c38); (try clear c38b0); (try clear c39); (try clear c39b0); (try clear c41)
                (try clear c41b0); (try clear c42); (try clear c42b0); (try clear c43); (try clear c43b0); (try clear c43b1); (try clear c45); (try clear c45b0); (try clear c46); (try clear c46b0); (try clear c50)
                (try clear hx332_0); (try clear hx333_0); (try clear hx335_0); (try clear hx336_0); (try clear hx337_0); (try clear hx338_0); (try clear hx339_0); (try clear hx340_0); (try clear hx341_0); (try clear hx342_0)
                (try clear hx343_0); (try clear hx344_0); (try clear p2); (try clear p3); (try clear p33); (try clear p332); (try clear p333); (try clear p335); (try clear p336); (try clear p337); (try clear p338)
                (try clear p339); (try clear p34); (try clear p340); (try clear p341); (try clear p342); (try clear p343); (try clear p344); (try clear p6); (try clear q3); (try clear q33); (try clear q332)
                (try clear q333); (try clear q335); (try clear q336); (try clear q337); (try clear q338); (try clear q339); (try clear q34); (try clear q340); (try clear q341); (try clear q342); (try clear q343)
                (try clear q344)
                obtain ⟨x12_5, rfl, HA, HK5, HO_7, HO_9, HB⟩ := hrel
                cases gk with
                | zero => exact absurd HA.out (by simp [corporalaw09_DependConnects.l1])
                | succ k5 =>
                 have H := HA.out
                 clear HA
                 simp only [corporalaw09_DependConnects.l1] at H
                 by_cases c51 : x12_5 < x70_3
                 ·
                  rw [if_pos c51] at H
                  have c51b0 : decide (x12_5 < x70_3) = true := decide_eq_true c51
                  clear c51
                  by_cases c52 : 0 ≤ x12_5
                  ·
                   rw [if_pos c52] at H
                   have c52b0 : decide (0 ≤ x12_5) = true := decide_eq_true c52
                   clear c52
                   by_cases c53 : x12_5 < (t323.length : Int)
                   ·
                    rw [if_pos c53] at H
                    have c53b0 : decide (x12_5 < (t323.length : Int)) = true := decide_eq_true c53
                    clear c53
                    by_cases c54 : 0 ≤ x70_3
                    ·
                     rw [if_pos c54] at H
                     have c54b0 : decide (0 ≤ x70_3) = true := decide_eq_true c54
                     clear c54
                     by_cases c55 : x70_3 < (t323.length : Int)
                     ·
                      rw [if_pos c55] at H
                      have c55b0 : decide (x70_3 < (t323.length : Int)) = true := decide_eq_true c55
                      clear c55
                      by_cases c56 : (rd t323 x12_5) = (rd t323 x70_3)
                      ·
                       rw [if_pos c56] at H
                       have c56b0 : ((rd t323 x12_5) == (rd t323 x70_3)) = true := beq_iff_eq.mpr c56
                       have c56b1 : ((rd t323 x12_5) != (rd t323 x70_3)) = false := bne_eq_false_iff_eq.mpr c56
                       clear c56
                       obtain rfl := Option.some.inj H
                       have p345 : 0 ≤ (x12_5 : Int) := OD
                       have q345 : x12_5 < (t323.length : Int) := OD
                       obtain ⟨ad345, e345, hx345_0⟩ := Kd.at_int (Kd.R_reads' HO_7.out).2.2 x12_5 p345 q345
                       cases e345
                       replace p345 := eq_true p345
                       replace q345 := eq_true q345
                       have p346 : 0 ≤ (x70_3 : Int) := OD
                       have q346 : x70_3 < (t323.length : Int) := OD
                       obtain ⟨ad346, e346, hx346_0⟩ := Kd.at_int (Kd.R_reads' HO_7.out).2.2 x70_3 p346 q346
                       obtain rfl : ad345 = ad346 := (by injection e346)
                       replace p346 := eq_true p346
                       replace q346 := eq_true q346
                       go_wp2
                       repeat (go_quiet (fail); try go_wp2)
                       go_ret
                       exact ⟨BX, BB⟩
                      ·
                       rw [if_neg c56] at H
                       have c56b0 : ((rd t323 x12_5) == (rd t323 x70_3)) = false := beq_eq_false_iff_ne.mpr c56
                       have c56b1 : ((rd t323 x12_5) != (rd t323 x70_3)) = true := bne_iff_ne.mpr c56
                       have H' := Aside0.mk H
                       clear H
                       have p345 : 0 ≤ (x12_5 : Int) := OD
                       have q345 : x12_5 < (t323.length : Int) := OD
                       obtain ⟨ad345, e345, hx345_0⟩ := Kd.at_int (Kd.R_reads' HO_7.out).2.2 x12_5 p345 q345
                       cases e345
                       replace p345 := eq_true p345
                       replace q345 := eq_true q345
                       have p346 : 0 ≤ (x70_3 : Int) := OD
                       have q346 : x70_3 < (t323.length : Int) := OD
                       obtain ⟨ad346, e346, hx346_0⟩ := Kd.at_int (Kd.R_reads' HO_7.out).2.2 x70_3 p346 q346
                       obtain rfl : ad345 = ad346 := (by injection e346)
                       replace p346 := eq_true p346
                       replace q346 := eq_true q346
                       go_wp2
                       repeat (go_quiet (fail); try go_wp2)
                       go_roundg k5
                       case measure => have := HJ6.out; have := HJ14.out; have := HK3.out; have := HJ27.out; have := HK5.out; omega
                       case rel => exact ⟨(wrap64 (x12_5 + 1)), (BE), H', ⟨by have := HJ6.out; have := HJ14.out; have := HK3.out; have := HJ27.out; have := HK5.out; omega⟩, ⟨BR HO_7.out⟩, ⟨BR HO_9.out⟩, ⟨BB⟩⟩
                     ·
                      rw [if_neg c55] at H
                      exact absurd H (by simp)
                    ·
                     rw [if_neg c54] at H
                     exact absurd H (by simp)
                   ·
                    rw [if_neg c53] at H
                    exact absurd H (by simp)
                  ·
                   rw [if_neg c52] at H
                   exact absurd H (by simp)
                 ·
                  rw [if_neg c51] at H
                  have c51b0 : decide (x12_5 < x70_3) = false := decide_eq_false c51
                  clear c51
                  have H' := Aside0.mk H
                  clear H
                  go_wp2
                  repeat (go_quiet (fail); try go_wp2)
                  go_roundg k5
                  case measure => have := HJ6.out; have := HJ14.out; have := HK3.out; have := HJ27.out; have := HK5.out; omega
                  case rel => exact ⟨(wrap64 (x70_3 + 1)), (BE), H', ⟨by have := HJ6.out; have := HJ14.out; have := HK3.out; have := HJ27.out; have := HK5.out; omega⟩, ⟨BR HO_7.out⟩, ⟨BR HO_9.out⟩, ⟨BB⟩⟩
           ·
            rw [if_neg c27] at H
            have c27b0 : decide (x70_3 < (t323.length : Int)) = false := decide_eq_false c27
            clear c27
            replace H := Option.bind_eq_some_iff.mp H
            obtain ⟨t334, A570, H⟩ := H
            replace H : (some t334) = some r := H
            have A57 := Aside0.mk A570
            clear A570
            obtain rfl := Option.some.inj H
            go_wp2_with (first | (go_at_call 13; (with_reducible refine (corporalaw09_awake.calls k3  t334 _ A57.out).mono ?_); rintro e w58 ⟨rfl, hb⟩; have n0_ := Aside0.mk (Kd.R_below (BR HO_7.out) hb); have n1_ := Aside0.mk (Kd.R_below (BR HO_9.out) hb); have n2_ := Aside0.mk (below_step (BB) hb); clear HO_7; clear HO_9; clear HB; have HO_7 := n0_; have HO_9 := n1_; have HB := n2_; clear n0_ n1_ n2_; (try clear hb); (try clear hb2); (try clear hk); (try clear hi)))
            repeat (go_quiet (first | (go_at_call 13; (with_reducible refine (corporalaw09_awake.calls k3  t334 _ A57.out).mono ?_); rintro e w58 ⟨rfl, hb⟩; have n0_ := Aside0.mk (Kd.R_below (BR HO_7.out) hb); have n1_ := Aside0.mk (Kd.R_below (BR HO_9.out) hb); have n2_ := Aside0.mk (below_step (BB) hb); clear HO_7; clear HO_9; clear HB; have HO_7 := n0_; have HO_9 := n1_; have HB := n2_; clear n0_ n1_ n2_; (try clear hb); (try clear hb2); (try clear hk); (try clear hi))); try go_wp2_with (first | (go_at_call 13; (with_reducible refine (corporalaw09_awake.calls k3  t334 _ A57.out).mono ?_); rintro e w58 ⟨rfl, hb⟩; have n0_ := Aside0.mk (Kd.R_below (BR HO_7.out) hb); have n1_ := Aside0.mk (Kd.R_below (BR HO_9.out) hb); have n2_ := Aside0.mk (below_step (BB) hb); clear HO_7; clear HO_9; clear HB; have HO_7 := n0_; have HO_9 := n1_; have HB := n2_; clear n0_ n1_ n2_; (try clear hb); (try clear hb2); (try clear hk); (try clear hi))))
            go_ret
            exact ⟨BX, BB⟩
     ·
      rw [if_neg c14] at H
      have c14b0 : (t324 == 0) = false := beq_eq_false_iff_ne.mpr c14
      have c14b1 : (t324 != 0) = true := bne_iff_ne.mpr c14
      by_cases c59 : (t323.length : Int) = 0
      ·
       rw [if_pos c59] at H
       have c59b0 : ((t323.length : Int) == 0) = true := beq_iff_eq.mpr c59
       have c59b1 : ((t323.length : Int) != 0) = false := bne_eq_false_iff_eq.mpr c59
       clear c59
       replace H := Option.bind_eq_some_iff.mp H
       obtain ⟨t331, A600, H⟩ := H
       replace H : (some t331) = some r := H
       have A60 := Aside0.mk A600
       clear A600
       obtain rfl := Option.some.inj H
       obtain ⟨Ao61, co61, eo61⟩ := Kd.R_slice HO_7.out
       subst eo61
       go_wp2_with (first | (go_at_call 13; (with_reducible refine (corporalaw09_awake.calls kj6  t331 _ A60.out).mono ?_); rintro e w62 ⟨rfl, hb⟩; have n0_ := Aside0.mk (Kd.R_below (BR HO_7.out) hb); have n1_ := Aside0.mk (Kd.R_below (BR HO_9.out) hb); have n2_ := Aside0.mk (below_step (BB) hb); clear HO_7; clear HO_9; clear HB; have HO_7 := n0_; have HO_9 := n1_; have HB := n2_; clear n0_ n1_ n2_; (try clear hb); (try clear hb2); (try clear hk); (try clear hi)))
       repeat (go_quiet (first | (go_at_call 13; (with_reducible refine (corporalaw09_awake.calls kj6  t331 _ A60.out).mono ?_); rintro e w62 ⟨rfl, hb⟩; have n0_ := Aside0.mk (Kd.R_below (BR HO_7.out) hb); have n1_ := Aside0.mk (Kd.R_below (BR HO_9.out) hb); have n2_ := Aside0.mk (below_step (BB) hb); clear HO_7; clear HO_9; clear HB; have HO_7 := n0_; have HO_9 := n1_; have HB := n2_; clear n0_ n1_ n2_; (try clear hb); (try clear hb2); (try clear hk); (try clear hi))); try go_wp2_with (first | (go_at_call 13; (with_reducible refine (corporalaw09_awake.calls kj6  t331 _ A60.out).mono ?_); rintro e w62 ⟨rfl, hb⟩; have n0_ := Aside0.mk (Kd.R_below (BR HO_7.out) hb); have n1_ := Aside0.mk (Kd.R_below (BR HO_9.out) hb); have n2_ := Aside0.mk (below_step (BB) hb); clear HO_7; clear HO_9; clear HB; have HO_7 := n0_; have HO_9 := n1_; have HB := n2_; clear n0_ n1_ n2_; (try clear hb); (try clear hb2); (try clear hk); (try clear hi))))
       go_ret
       exact ⟨BX, BB⟩
      ·
       rw [if_neg c59] at H
       have c59b0 : ((t323.length : Int) == 0) = false := beq_eq_false_iff_ne.mpr c59
       have c59b1 : ((t323.length : Int) != 0) = true := bne_iff_ne.mpr c59
       have c59b2 : ¬ (t323 = []) := fun h_ => c59 (by rw [h_]; rfl)
       obtain rfl := Option.some.inj H
       obtain ⟨Ao63, co63, eo63⟩ := Kd.R_slice HO_7.out
       subst eo63
       go_wp2
       repeat (go_quiet (fail); try go_wp2)
       go_ret
       exact ⟨BX, BB⟩

/-- THE ONE PURE STATEMENT of corporalaw09_DependConnects: yours. -/
def corporalaw09_DependConnects.Pure : Prop := ∀ (l0 : List Int) (a1 : Int) (a2 : Int), l0.length ≤ maxLen → l0.length * 8 ≤ 140737488351232 → (∀ x ∈ l0, (Lit.int .i64 x).wf = true) → (Lit.int .i64 a1).wf = true → (Lit.int .i64 a2).wf = true → ∃ k, corporalaw09_DependConnects.f k l0 a1 a2 = some true
theorem corporalaw09_DependConnects.walk (P : corporalaw09_DependConnects.Pure) (a0 : Option Addr) (len0 cap0 : Nat) (z0 : List Int) (a1 : Int) (a2 : Int) (w : World) (w0 : (a0 = none ∧ len0 = 0 ∧ cap0 = 0 ∧ z0 = []) ∨ ∃ x, a0 = some x ∧ len0 ≤ cap0 ∧ cap0 ≤ maxLen ∧ z0.length = cap0 ∧ (∀ i, i < z0.length → w.cell? (x.add i) = some (.int .i64 (z0.getD i 0))) ∧ ∀ n ∈ z0, (Lit.int .i64 n).wf = true) (y0 : len0 * 8 ≤ 140737488351232) (w1 : (Lit.int .i64 a1).wf = true) (w2 : (Lit.int .i64 a2).wf = true) :
 Calls Try.prog 6 #[.slice a0 len0 cap0, .int .i64 a1, .int .i64 a2] w fun e w' => e = .returned (.bool true) ∧ Below w.heap.size w w' := by
 obtain ⟨l0, rfl, hr0, hm0, hw0, hc0⟩ := ReadsInt.ofRowC w0
 obtain ⟨k, h⟩ := P l0 a1 a2 hm0 y0 hw0 w1 w2
 refine (corporalaw09_DependConnects.calls k _ _ l0 a1 a2 true w (Kd.C_of_reads (d := (0 : Int)) (h1 := fun _ => rfl) hr0) hc0 h).mono ?_
 rintro e w' ⟨rfl, hd⟩
 exact ⟨rfl, hd⟩

end Go.Proofs.Ytkanmafjjejpmaa.P
