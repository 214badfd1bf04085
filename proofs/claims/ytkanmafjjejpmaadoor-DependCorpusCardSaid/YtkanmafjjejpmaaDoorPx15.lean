-- Written by a program of this session (wip/doprint.sh) out of the translation; Lean checks it.
import Derived.Test.YtkanmafjjejpmaaDoorPx0
import Derived.Test.YtkanmafjjejpmaaDoorPx13
import Derived.Test.YtkanmafjjejpmaaDoorPx14
namespace Go.Proofs.YtkanmafjjejpmaaDoor.P
open Go.Proofs.YtkanmafjjejpmaaDoor.S
open Go.Proofs.YtkanmafjjejpmaaDoor.X
open Go.RowKit Go.Proofs.YtkanmafjjejpmaaDoorW.PrintWords Go.Proofs.YtkanmafjjejpmaaDoorW.PrintLast Go.Proofs.YtkanmafjjejpmaaDoorW.PrintMore
attribute [local go_sem] max2_int min2_int max_two min_two max_three min_three max_four min_four   -- for this text's walks alone
set_option linter.unusedVariables false
set_option linter.unusedSimpArgs false

/-! ### depend_Path: function 19 -/
mutual
def depend_Path.j0 : Nat → List Int → Int → Int → Bool → Option (List Int × Int)
  | 0, _, _, _, _ => none
  | k + 1, x0, x1, x2, x28 => if x28 = true then (some (([] : List Int), 1)) else ((depend_way.f k x0 x1).bind fun t216 => ((depend_way.f k x0 x2).bind fun t219 => (depend_Path.l0 k x0 t216 t219 t216 (t216.length : Int) 0)))
def depend_Path.j3 : Nat → List Int → List Int → List Int → Option (List Int × Int)
  | 0, _, _, _ => none
  | k + 1, x0, x8, x9 => if (x9.length : Int) > 0 then (if 0 ≤ (wrap64 ((x9.length : Int) - 1)) then (if (wrap64 ((x9.length : Int) - 1)) < (x9.length : Int) then (if 0 ≤ (rd x9 (wrap64 ((x9.length : Int) - 1))) then (if (rd x9 (wrap64 ((x9.length : Int) - 1))) < (x0.length : Int) then (if 0 ≤ (wrap64 ((x8.length : Int) - 1)) then (if (wrap64 ((x8.length : Int) - 1)) < (x8.length : Int) then (depend_Path.j4 k x8 x9 ((rd x0 (rd x9 (wrap64 ((x9.length : Int) - 1)))) != (rd x8 (wrap64 ((x8.length : Int) - 1))))) else (none)) else (none)) else (none)) else (none)) else (none)) else (none)) else (depend_Path.j4 k x8 x9 false)
def depend_Path.j4 : Nat → List Int → List Int → Bool → Option (List Int × Int)
  | 0, _, _, _ => none
  | k + 1, x8, x9, x81 => if x81 = true then (some (([] : List Int), 11)) else (depend_Path.l2 k x8 x9 (wrap64 ((x9.length : Int) - 1)))
def depend_Path.l2 : Nat → List Int → List Int → Int → Option (List Int × Int)
  | 0, _, _, _ => none
  | k + 1, x8, x9, x14 => if x14 ≥ 0 then (if 0 ≤ x14 then (if x14 < (x9.length : Int) then (if x8.length < 17592186044416 then (depend_Path.l2 k (x8 ++ [rd x9 x14]) x9 (wrap64 (x14 - 1))) else (none)) else (none)) else (none)) else (some (x8, 0))
def depend_Path.l0 : Nat → List Int → List Int → List Int → List Int → Int → Int → Option (List Int × Int)
  | 0, _, _, _, _, _, _ => none
  | k + 1, x0, x8, x9, x35, x36, x37 => if x37 < x36 then (if 0 ≤ x37 then (if x37 < (x35.length : Int) then (depend_Path.l1 k x0 x8 x9 x37 (rd x35 x37) x35 x36 x37 x9 (x9.length : Int) 0) else (none)) else (none)) else (depend_Path.j3 k x0 x8 x9)
def depend_Path.l1 : Nat → List Int → List Int → List Int → Int → Int → List Int → Int → Int → List Int → Int → Int → Option (List Int × Int)
  | 0, _, _, _, _, _, _, _, _, _, _, _ => none
  | k + 1, x0, x8, x9, x10, x11, x35, x36, x37, x42, x43, x44 => if x44 < x43 then (if 0 ≤ x44 then (if x44 < (x42.length : Int) then (if x11 = (rd x42 x44) then (if 0 ≤ (wrap64 (x10 + 1)) then (if (wrap64 (x10 + 1)) ≤ (x8.length : Int) then (if x44 ≤ (x9.length : Int) then (depend_Path.j3 k x0 (x8.take ((wrap64 (x10 + 1)) : Int).toNat) (x9.take (x44 : Int).toNat)) else (none)) else (none)) else (none)) else (depend_Path.l1 k x0 x8 x9 x10 x11 x35 x36 x37 x42 x43 (wrap64 (x44 + 1)))) else (none)) else (none)) else (depend_Path.l0 k x0 x8 x9 x35 x36 (wrap64 (x37 + 1)))
end
def depend_Path.f (k : Nat) (l0 : List Int) (a1 : Int) (a2 : Int) : Option (List Int × Int) := (depend_usable.f k l0 a1).bind fun t215 => (if t215 = true then (if a2 < 0 then (depend_Path.j0 k l0 a1 a2 true) else (depend_Path.j0 k l0 a1 a2 (decide (a2 ≥ (l0.length : Int))))) else (depend_Path.j0 k l0 a1 a2 true))
theorem depend_Path.mono_l : ∀ k, (∀ y0 y1 y2 y3, LeO (depend_Path.j0 k y0 y1 y2 y3) (depend_Path.j0 (k + 1) y0 y1 y2 y3)) ∧ (∀ y0 y1 y2, LeO (depend_Path.j3 k y0 y1 y2) (depend_Path.j3 (k + 1) y0 y1 y2)) ∧ (∀ y0 y1 y2, LeO (depend_Path.j4 k y0 y1 y2) (depend_Path.j4 (k + 1) y0 y1 y2)) ∧ (∀ y0 y1 y2, LeO (depend_Path.l2 k y0 y1 y2) (depend_Path.l2 (k + 1) y0 y1 y2)) ∧ (∀ y0 y1 y2 y3 y4 y5, LeO (depend_Path.l0 k y0 y1 y2 y3 y4 y5) (depend_Path.l0 (k + 1) y0 y1 y2 y3 y4 y5)) ∧ (∀ y0 y1 y2 y3 y4 y5 y6 y7 y8 y9 y10, LeO (depend_Path.l1 k y0 y1 y2 y3 y4 y5 y6 y7 y8 y9 y10) (depend_Path.l1 (k + 1) y0 y1 y2 y3 y4 y5 y6 y7 y8 y9 y10))
 | 0 => ⟨fun _ _ _ _ r h => by simp [depend_Path.j0] at h, fun _ _ _ r h => by simp [depend_Path.j3] at h, fun _ _ _ r h => by simp [depend_Path.j4] at h, fun _ _ _ r h => by simp [depend_Path.l2] at h, fun _ _ _ _ _ _ r h => by simp [depend_Path.l0] at h, fun _ _ _ _ _ _ _ _ _ _ _ r h => by simp [depend_Path.l1] at h⟩
 | k + 1 => by
  obtain ⟨ih0, ih1, ih2, ih3, ih4, ih5⟩ := depend_Path.mono_l k
  refine ⟨?_, ?_, ?_, ?_, ?_, ?_⟩
  ·
   intro y0 y1 y2 y3
   unfold depend_Path.j0
   with_reducible repeat' first | exact ih0 _ _ _ _ | exact ih1 _ _ _ | exact ih2 _ _ _ | exact ih3 _ _ _ | exact ih4 _ _ _ _ _ _ | exact ih5 _ _ _ _ _ _ _ _ _ _ _ | exact depend_usable.mono _ _ _ | exact depend_way.mono _ _ _ | exact LeO.refl _ | exact LeO.none _ | refine LeO.ite ?_ ?_ | refine LeO.bind ?_ (fun _ => ?_)
  ·
   intro y0 y1 y2
   unfold depend_Path.j3
   with_reducible repeat' first | exact ih0 _ _ _ _ | exact ih1 _ _ _ | exact ih2 _ _ _ | exact ih3 _ _ _ | exact ih4 _ _ _ _ _ _ | exact ih5 _ _ _ _ _ _ _ _ _ _ _ | exact depend_usable.mono _ _ _ | exact depend_way.mono _ _ _ | exact LeO.refl _ | exact LeO.none _ | refine LeO.ite ?_ ?_ | refine LeO.bind ?_ (fun _ => ?_)
  ·
   intro y0 y1 y2
   unfold depend_Path.j4
   with_reducible repeat' first | exact ih0 _ _ _ _ | exact ih1 _ _ _ | exact ih2 _ _ _ | exact ih3 _ _ _ | exact ih4 _ _ _ _ _ _ | exact ih5 _ _ _ _ _ _ _ _ _ _ _ | exact depend_usable.mono _ _ _ | exact depend_way.mono _ _ _ | exact LeO.refl _ | exact LeO.none _ | refine LeO.ite ?_ ?_ | refine LeO.bind ?_ (fun _ => ?_)
  ·
   intro y0 y1 y2
   unfold depend_Path.l2
   with_reducible repeat' first | exact ih0 _ _ _ _ | exact ih1 _ _ _ | exact ih2 _ _ _ | exact ih3 _ _ _ | exact ih4 _ _ _ _ _ _ | exact ih5 _ _ _ _ _ _ _ _ _ _ _ | exact depend_usable.mono _ _ _ | exact depend_way.mono _ _ _ | exact LeO.refl _ | exact LeO.none _ | refine LeO.ite ?_ ?_ | refine LeO.bind ?_ (fun _ => ?_)
  ·
   intro y0 y1 y2 y3 y4 y5
   unfold depend_Path.l0
   with_reducible repeat' first | exact ih0 _ _ _ _ | exact ih1 _ _ _ | exact ih2 _ _ _ | exact ih3 _ _ _ | exact ih4 _ _ _ _ _ _ | exact ih5 _ _ _ _ _ _ _ _ _ _ _ | exact depend_usable.mono _ _ _ | exact depend_way.mono _ _ _ | exact LeO.refl _ | exact LeO.none _ | refine LeO.ite ?_ ?_ | refine LeO.bind ?_ (fun _ => ?_)
  ·
   intro y0 y1 y2 y3 y4 y5 y6 y7 y8 y9 y10
   unfold depend_Path.l1
   with_reducible repeat' first | exact ih0 _ _ _ _ | exact ih1 _ _ _ | exact ih2 _ _ _ | exact ih3 _ _ _ | exact ih4 _ _ _ _ _ _ | exact ih5 _ _ _ _ _ _ _ _ _ _ _ | exact depend_usable.mono _ _ _ | exact depend_way.mono _ _ _ | exact LeO.refl _ | exact LeO.none _ | refine LeO.ite ?_ ?_ | refine LeO.bind ?_ (fun _ => ?_)
theorem depend_Path.mono : ∀ a0 a1 a2 k, LeO (depend_Path.f k a0 a1 a2) (depend_Path.f (k + 1) a0 a1 a2) := by
 intro a0 a1 a2 k
 obtain ⟨ih0, ih1, ih2, ih3, ih4, ih5⟩ := depend_Path.mono_l k
 unfold depend_Path.f
 with_reducible repeat' first | exact ih0 _ _ _ _ | exact ih1 _ _ _ | exact ih2 _ _ _ | exact ih3 _ _ _ | exact ih4 _ _ _ _ _ _ | exact ih5 _ _ _ _ _ _ _ _ _ _ _ | exact depend_usable.mono _ _ _ | exact depend_way.mono _ _ _ | exact LeO.refl _ | exact LeO.none _ | refine LeO.ite ?_ ?_ | refine LeO.bind ?_ (fun _ => ?_)
set_option maxHeartbeats 8000000 in
set_option maxRecDepth 100000 in
theorem depend_Path.calls (k : Nat) (A0 : Option Addr) (c0 : Nat) (l0 : List Int) (a1 : Int) (a2 : Int) (r1 : List Int) (r2 : Int) (w : World) (hr0 : Kd.C (Kd.int .i64) w A0 l0.length l0) (hc0 : l0.length ≤ c0) (h : depend_Path.f k l0 a1 a2 = some (r1, r2)) :
 Calls Tryd.prog 19 #[.slice A0 l0.length c0, .int .i64 a1, .int .i64 a2] w fun e w' => ∃ v0_ : Value, e = .returned (.tuple #[v0_, .int .i64 r2]) ∧ Kd.R (Kd.int .i64) 3 w' w.heap.size (fun _ => True) v0_ r1 ∧ Below w.heap.size w w' := by
 have HR0 := Aside0.mk hr0
 have HC0 := Aside0.mk hc0
 clear hr0 hc0
 have HB := Aside0.mk (Below.refl w.heap.size w)
 have H : ((depend_usable.f k l0 a1).bind fun t215 => (if t215 = true then (if a2 < 0 then (depend_Path.j0 k l0 a1 a2 true) else (depend_Path.j0 k l0 a1 a2 (decide (a2 ≥ (l0.length : Int))))) else (depend_Path.j0 k l0 a1 a2 true))) = some (r1, r2) := h
 clear h
 have HC4 := Aside0.mk H
 clear H
 go_enter Tryd.func19, Tryd.ntmps19
 (try go_wp2)
 go_step3
 go_upto_region 1 with (fail)
 (try (go_step3; go_upto_region 1 with (fail)))
 repeat (go_quiet (fail); go_upto_region 1 with (fail))
 go_cut [28] (fun v28 wc => ∃ (kq : Nat) (x28_3 : Bool), v28 = .bool x28_3 ∧ Aside0 (depend_Path.j0 kq l0 a1 a2 x28_3 = some (r1, r2)) ∧ Aside0 (kq ≤ k) ∧ Aside0 (Below w.heap.size w wc))
 case first =>
  have H := HC4.out
  clear HC4
  replace H := Option.bind_eq_some_iff.mp H
  obtain ⟨t215, A50, H⟩ := H
  replace H : (if t215 = true then (if a2 < 0 then (depend_Path.j0 k l0 a1 a2 true) else (depend_Path.j0 k l0 a1 a2 (decide (a2 ≥ (l0.length : Int))))) else (depend_Path.j0 k l0 a1 a2 true)) = some (r1, r2) := H
  have A5 := Aside0.mk A50
  clear A50
  by_cases c6 : t215 = true
  ·
   subst c6
   have H1 : (if a2 < 0 then (depend_Path.j0 k l0 a1 a2 true) else (depend_Path.j0 k l0 a1 a2 (decide (a2 ≥ (l0.length : Int))))) = some (r1, r2) := by rw [if_pos rfl] at H; exact H
   clear H
   have H := H1
   clear H1
   by_cases c7 : a2 < 0
   ·
    rw [if_pos c7] at H
    have c7b0 : decide (a2 < 0) = true := decide_eq_true c7
    clear c7
    (first | rw [c7b0] | (simp only [i64_w, i32_w]; rw [c7b0]) | skip)
    have H' := Aside0.mk H
    clear H
    go_wp2_with (first | (go_at_call 37; (with_reducible refine (depend_usable.calls k _ _ l0 a1 true _ ?side1 ?side2 A5.out).mono ?_); (case side1 => exact BC HR0.out); (case side2 => exact HC0.out); rintro e w8 ⟨rfl, hb⟩; have n0_ := Aside0.mk (below_step (BB) hb); clear HB; have HB := n0_; clear n0_; (try clear hb); (try clear hb2); (try clear hk); (try clear hi)))
    repeat (go_quiet (first | (go_at_call 37; (try simp only [i64_w, i32_w]); (with_reducible refine (depend_usable.calls k _ _ l0 a1 true _ ?side1 ?side2 A5.out).mono ?_); (case side1 => exact BC HR0.out); (case side2 => exact HC0.out); rintro e w8 ⟨rfl, hb⟩; have n0_ := Aside0.mk (below_step (BB) hb); clear HB; have HB := n0_; clear n0_; (try clear hb); (try clear hb2); (try clear hk); (try clear hi))); try go_wp2_with (first | (go_at_call 37; (with_reducible refine (depend_usable.calls k _ _ l0 a1 true _ ?side1 ?side2 A5.out).mono ?_); (case side1 => exact BC HR0.out); (case side2 => exact HC0.out); rintro e w8 ⟨rfl, hb⟩; have n0_ := Aside0.mk (below_step (BB) hb); clear HB; have HB := n0_; clear n0_; (try clear hb); (try clear hb2); (try clear hk); (try clear hi))))
    go_meet
    case rel => exact ⟨_, (true), (BE), H', ⟨by first | omega | exact Nat.le_refl _⟩, ⟨BB⟩⟩
   ·
    rw [if_neg c7] at H
    have c7b0 : decide (a2 < 0) = false := decide_eq_false c7
    clear c7
    (first | rw [c7b0] | (simp only [i64_w, i32_w]; rw [c7b0]) | skip)
    have H' := Aside0.mk H
    clear H
    go_wp2_with (first | (go_at_call 37; (with_reducible refine (depend_usable.calls k _ _ l0 a1 true _ ?side1 ?side2 A5.out).mono ?_); (case side1 => exact BC HR0.out); (case side2 => exact HC0.out); rintro e w9 ⟨rfl, hb⟩; have n0_ := Aside0.mk (below_step (BB) hb); clear HB; have HB := n0_; clear n0_; (try clear hb); (try clear hb2); (try clear hk); (try clear hi)))
    repeat (go_quiet (first | (go_at_call 37; (try simp only [i64_w, i32_w]); (with_reducible refine (depend_usable.calls k _ _ l0 a1 true _ ?side1 ?side2 A5.out).mono ?_); (case side1 => exact BC HR0.out); (case side2 => exact HC0.out); rintro e w9 ⟨rfl, hb⟩; have n0_ := Aside0.mk (below_step (BB) hb); clear HB; have HB := n0_; clear n0_; (try clear hb); (try clear hb2); (try clear hk); (try clear hi))); try go_wp2_with (first | (go_at_call 37; (with_reducible refine (depend_usable.calls k _ _ l0 a1 true _ ?side1 ?side2 A5.out).mono ?_); (case side1 => exact BC HR0.out); (case side2 => exact HC0.out); rintro e w9 ⟨rfl, hb⟩; have n0_ := Aside0.mk (below_step (BB) hb); clear HB; have HB := n0_; clear n0_; (try clear hb); (try clear hb2); (try clear hk); (try clear hi))))
    go_meet
    case rel => exact ⟨_, (decide (a2 ≥ (l0.length : Int))), (BE), H', ⟨by first | omega | exact Nat.le_refl _⟩, ⟨BB⟩⟩
  ·
   replace c6 := Bool.eq_false_iff.mpr c6
   subst c6
   have H1 : (depend_Path.j0 k l0 a1 a2 true) = some (r1, r2) := by rw [if_neg (show ¬ (false = true) by decide)] at H; exact H
   clear H
   have H := H1
   clear H1
   have H' := Aside0.mk H
   clear H
   go_wp2_with (first | (go_at_call 37; (with_reducible refine (depend_usable.calls k _ _ l0 a1 false _ ?side1 ?side2 A5.out).mono ?_); (case side1 => exact BC HR0.out); (case side2 => exact HC0.out); rintro e w10 ⟨rfl, hb⟩; have n0_ := Aside0.mk (below_step (BB) hb); clear HB; have HB := n0_; clear n0_; (try clear hb); (try clear hb2); (try clear hk); (try clear hi)))
   repeat (go_quiet (first | (go_at_call 37; (try simp only [i64_w, i32_w]); (with_reducible refine (depend_usable.calls k _ _ l0 a1 false _ ?side1 ?side2 A5.out).mono ?_); (case side1 => exact BC HR0.out); (case side2 => exact HC0.out); rintro e w10 ⟨rfl, hb⟩; have n0_ := Aside0.mk (below_step (BB) hb); clear HB; have HB := n0_; clear n0_; (try clear hb); (try clear hb2); (try clear hk); (try clear hi))); try go_wp2_with (first | (go_at_call 37; (with_reducible refine (depend_usable.calls k _ _ l0 a1 false _ ?side1 ?side2 A5.out).mono ?_); (case side1 => exact BC HR0.out); (case side2 => exact HC0.out); rintro e w10 ⟨rfl, hb⟩; have n0_ := Aside0.mk (below_step (BB) hb); clear HB; have HB := n0_; clear n0_; (try clear hb); (try clear hb2); (try clear hk); (try clear hi))))
   go_meet
   case rel => exact ⟨_, (true), (BE), H', ⟨by first | omega | exact Nat.le_refl _⟩, ⟨BB⟩⟩
 case rest =>
  clear HC4
  (try clear c1); (try clear p2); (try clear c6); (try clear c7); (try clear c7b0)
  obtain ⟨kq, x28_3, rfl, HA, HJ3, HB⟩ := hcut
  cases kq with
  | zero => exact absurd HA.out (by simp [depend_Path.j0])
  | succ kj3 =>
   have H := HA.out
   clear HA
   simp only [depend_Path.j0] at H
   by_cases c11 : x28_3 = true
   ·
    subst c11
    have H1 : (some (([] : List Int), 1)) = some (r1, r2) := by rw [if_pos rfl] at H; exact H
    clear H
    have H := H1
    clear H1
    simp only [Option.some.injEq, Prod.mk.injEq] at H
    obtain ⟨rfl, rfl⟩ := H
    go_wp2
    (try (go_step3; go_wp2))
    repeat (go_quiet (fail); try go_wp2)
    rw [Exit.noGoto_ret]
    go_ret2
    exact ⟨_, BX, by first | exact Kd.R_nil _ _ _ _ _ | exact Kd.N_nil _ _ _ _ _ | exact Kd.V_nil _ _ _ _ _ | exact Kd.Q_nil _ _ _ _ _ | exact Kd.S_nil _ _ _ _ _, BB⟩
   ·
    replace c11 := Bool.eq_false_iff.mpr c11
    subst c11
    have H1 : ((depend_way.f kj3 l0 a1).bind fun t216 => ((depend_way.f kj3 l0 a2).bind fun t219 => (depend_Path.l0 kj3 l0 t216 t219 t216 (t216.length : Int) 0))) = some (r1, r2) := by rw [if_neg (show ¬ (false = true) by decide)] at H; exact H
    clear H
    have H := H1
    clear H1
    replace H := Option.bind_eq_some_iff.mp H
    obtain ⟨t216, A120, H⟩ := H
    replace H : ((depend_way.f kj3 l0 a2).bind fun t219 => (depend_Path.l0 kj3 l0 t216 t219 t216 (t216.length : Int) 0)) = some (r1, r2) := H
    have A12 := Aside0.mk A120
    clear A120
    replace H := Option.bind_eq_some_iff.mp H
    obtain ⟨t219, A130, H⟩ := H
    replace H : (depend_Path.l0 kj3 l0 t216 t219 t216 (t216.length : Int) 0) = some (r1, r2) := H
    have A13 := Aside0.mk A130
    clear A130
    have HC14 := Aside0.mk H
    clear H
    go_upto_block 0 with (first | (go_at_call 38; (with_reducible refine (depend_way.calls kj3 _ _ l0 a1 t216 _ ?side1 ?side2 A12.out).mono ?_); (case side1 => exact BC HR0.out); (case side2 => exact HC0.out); rintro e w15 ⟨v217, rfl, ho0, hb⟩; have n0_ := Aside0.mk (Kd.R_lower ho0 (below_size (BB))); have n1_ := Aside0.mk (below_step (BB) hb); clear HB; have HO218 := n0_; have HB := n1_; clear n0_ n1_; (try clear hb); (try clear hb2); (try clear hk); (try clear hi); (try clear ho0)) | (go_at_call 38; (with_reducible refine (depend_way.calls kj3 _ _ l0 a2 t219 _ ?side1 ?side2 A13.out).mono ?_); (case side1 => exact BC HR0.out); (case side2 => exact HC0.out); rintro e w16 ⟨v220, rfl, ho0, hb⟩; have n0_ := Aside0.mk (Kd.R_elder' (BR HO218.out) (Kd.R_base ho0) hb); have n1_ := Aside0.mk (Kd.R_lower (Kd.R_new' ho0 (Kd.R_lt (BR HO218.out))) (below_size (BB))); have n2_ := Aside0.mk (below_step (BB) hb); clear HO218; clear HB; have HO218 := n0_; have HO221 := n1_; have HB := n2_; clear n0_ n1_ n2_; (try clear hb); (try clear hb2); (try clear hk); (try clear hi); (try clear ho0); obtain ⟨Ao17, co17, eo17⟩ := Kd.R_slice HO218.out; subst eo17))
    (try (go_step3; go_upto_block 0 with (first | (go_at_call 38; (with_reducible refine (depend_way.calls kj3 _ _ l0 a1 t216 _ ?side1 ?side2 A12.out).mono ?_); (case side1 => exact BC HR0.out); (case side2 => exact HC0.out); rintro e w15 ⟨v217, rfl, ho0, hb⟩; have n0_ := Aside0.mk (Kd.R_lower ho0 (below_size (BB))); have n1_ := Aside0.mk (below_step (BB) hb); clear HB; have HO218 := n0_; have HB := n1_; clear n0_ n1_; (try clear hb); (try clear hb2); (try clear hk); (try clear hi); (try clear ho0)) | (go_at_call 38; (with_reducible refine (depend_way.calls kj3 _ _ l0 a2 t219 _ ?side1 ?side2 A13.out).mono ?_); (case side1 => exact BC HR0.out); (case side2 => exact HC0.out); rintro e w16 ⟨v220, rfl, ho0, hb⟩; have n0_ := Aside0.mk (Kd.R_elder' (BR HO218.out) (Kd.R_base ho0) hb); have n1_ := Aside0.mk (Kd.R_lower (Kd.R_new' ho0 (Kd.R_lt (BR HO218.out))) (below_size (BB))); have n2_ := Aside0.mk (below_step (BB) hb); clear HO218; clear HB; have HO218 := n0_; have HO221 := n1_; have HB := n2_; clear n0_ n1_ n2_; (try clear hb); (try clear hb2); (try clear hk); (try clear hi); (try clear ho0); obtain ⟨Ao17, co17, eo17⟩ := Kd.R_slice HO218.out; subst eo17))))
    repeat (go_quiet (first | (go_at_call 38; (try simp only [i64_w, i32_w]); (with_reducible refine (depend_way.calls kj3 _ _ l0 a1 t216 _ ?side1 ?side2 A12.out).mono ?_); (case side1 => exact BC HR0.out); (case side2 => exact HC0.out); rintro e w15 ⟨v217, rfl, ho0, hb⟩; have n0_ := Aside0.mk (Kd.R_lower ho0 (below_size (BB))); have n1_ := Aside0.mk (below_step (BB) hb); clear HB; have HO218 := n0_; have HB := n1_; clear n0_ n1_; (try clear hb); (try clear hb2); (try clear hk); (try clear hi); (try clear ho0)) | (go_at_call 38; (with_reducible refine (depend_way.calls kj3 _ _ l0 a2 t219 _ ?side1 ?side2 A13.out).mono ?_); (case side1 => exact BC HR0.out); (case side2 => exact HC0.out); rintro e w16 ⟨v220, rfl, ho0, hb⟩; have n0_ := Aside0.mk (Kd.R_elder' (BR HO218.out) (Kd.R_base ho0) hb); have n1_ := Aside0.mk (Kd.R_lower (Kd.R_new' ho0 (Kd.R_lt (BR HO218.out))) (below_size (BB))); have n2_ := Aside0.mk (below_step (BB) hb); clear HO218; clear HB; have HO218 := n0_; have HO221 := n1_; have HB := n2_; clear n0_ n1_ n2_; (try clear hb); (try clear hb2); (try clear hk); (try clear hi); (try clear ho0); obtain ⟨Ao17, co17, eo17⟩ := Kd.R_slice HO218.out; subst eo17)); go_upto_block 0 with (first | (go_at_call 38; (with_reducible refine (depend_way.calls kj3 _ _ l0 a1 t216 _ ?side1 ?side2 A12.out).mono ?_); (case side1 => exact BC HR0.out); (case side2 => exact HC0.out); rintro e w15 ⟨v217, rfl, ho0, hb⟩; have n0_ := Aside0.mk (Kd.R_lower ho0 (below_size (BB))); have n1_ := Aside0.mk (below_step (BB) hb); clear HB; have HO218 := n0_; have HB := n1_; clear n0_ n1_; (try clear hb); (try clear hb2); (try clear hk); (try clear hi); (try clear ho0)) | (go_at_call 38; (with_reducible refine (depend_way.calls kj3 _ _ l0 a2 t219 _ ?side1 ?side2 A13.out).mono ?_); (case side1 => exact BC HR0.out); (case side2 => exact HC0.out); rintro e w16 ⟨v220, rfl, ho0, hb⟩; have n0_ := Aside0.mk (Kd.R_elder' (BR HO218.out) (Kd.R_base ho0) hb); have n1_ := Aside0.mk (Kd.R_lower (Kd.R_new' ho0 (Kd.R_lt (BR HO218.out))) (below_size (BB))); have n2_ := Aside0.mk (below_step (BB) hb); clear HO218; clear HB; have HO218 := n0_; have HO221 := n1_; have HB := n2_; clear n0_ n1_ n2_; (try clear hb); (try clear hb2); (try clear hk); (try clear hi); (try clear ho0); obtain ⟨Ao17, co17, eo17⟩ := Kd.R_slice HO218.out; subst eo17)))
    (try simp only [Act.put, List.setIfInBounds_toArray, List.set_cons_zero, List.set_cons_succ])
    go_cut [8, 9] (fun v8 v9 wc => ∃ (kq : Nat) (x8_13 : List Int) (x9_13 : List Int), Aside0 (depend_Path.j3 kq l0 x8_13 x9_13 = some (r1, r2)) ∧ Aside0 (kq ≤ kj3) ∧ Aside0 (Kd.R (Kd.int .i64) 3 wc w.heap.size (fun k_ => some k_ ≠ (v9 : Value).ownBlock) v8 x8_13) ∧ Aside0 (Kd.R (Kd.int .i64) 3 wc w.heap.size (fun k_ => some k_ ≠ (v8 : Value).ownBlock) v9 x9_13) ∧ Aside0 (Below w.heap.size w wc))
    case first =>
     have H := HC14.out
     clear HC14
     have H' := Aside0.mk H
     clear H
     go_wp2
     (try (go_step3; go_wp2))
     repeat (go_quiet (fail); try go_wp2)
     go_loopg [37, 8, 9] kj3 (fun kq v37 v8 v9 w' => ∃ (x37_2 : Int), v37 = .int .i64 x37_2 ∧ .slice Ao17 t216.length co17 = v8 ∧ v220 = v9 ∧ Aside0 (depend_Path.l0 kq l0 t216 t219 t216 (t216.length : Int) x37_2 = some (r1, r2)) ∧ Aside0 (kq ≤ kj3) ∧ Aside0 (Kd.R (Kd.int .i64) 3 w' w.heap.size (fun k_ => some k_ ≠ (v220 : Value).ownBlock) (.slice Ao17 t216.length co17) t216) ∧ Aside0 (Kd.R (Kd.int .i64) 3 w' w.heap.size (fun k_ => some k_ ≠ ((.slice Ao17 t216.length co17) : Value).ownBlock ∧ some k_ ≠ ((.slice Ao17 t216.length co17) : Value).ownBlock) v220 t219) ∧ Aside0 (Kd.R (Kd.int .i64) 3 w' w.heap.size (fun k_ => some k_ ≠ (v220 : Value).ownBlock) (.slice Ao17 t216.length co17) t216) ∧ Aside0 (Below w.heap.size w w'))
     case atStart => exact ⟨(0), (BE), (BE), (BE), H', ⟨Nat.le_refl _⟩, ⟨by (with_reducible repeat (first | apply Kd.R_alloc | apply Kd.R_drewN | apply Kd.R_drew)); exact Kd.R_mono HO218.out (fun _ hk => hk.2)⟩, ⟨by (with_reducible repeat (first | apply Kd.R_alloc | apply Kd.R_drewN | apply Kd.R_drew)); exact Kd.R_mono HO221.out (fun _ hk => ⟨hk.2, hk.2⟩)⟩, ⟨by (with_reducible repeat (first | apply Kd.R_alloc | apply Kd.R_drewN | apply Kd.R_drew)); exact Kd.R_mono HO218.out (fun _ hk => hk.2)⟩, ⟨BB⟩⟩
     case round =>
      clear H'
      (try clear c1); (try clear p2); (try clear c6); (try clear c7); (try clear c7b0); (try clear c11); (try clear p2)
      obtain ⟨x37_2, rfl, rfl, rfl, HA, HK2, HO_8, HO_9, HO_35, HB⟩ := hrel
      cases gk with
      | zero => exact absurd HA.out (by simp [depend_Path.l0])
      | succ k2 =>
       have H := HA.out
       clear HA
       simp only [depend_Path.l0] at H
       by_cases c18 : x37_2 < (t216.length : Int)
       ·
        rw [if_pos c18] at H
        have c18b0 : decide (x37_2 < (t216.length : Int)) = true := decide_eq_true c18
        clear c18
        (first | rw [c18b0] | (simp only [i64_w, i32_w]; rw [c18b0]) | skip)
        by_cases c19 : 0 ≤ x37_2
        ·
         rw [if_pos c19] at H
         have c19b0 : decide (0 ≤ x37_2) = true := decide_eq_true c19
         clear c19
         by_cases c20 : x37_2 < (t216.length : Int)
         ·
          rw [if_pos c20] at H
          have c20b0 : decide (x37_2 < (t216.length : Int)) = true := decide_eq_true c20
          clear c20
          have H' := Aside0.mk H
          clear H
          have p222 : 0 ≤ (x37_2 : Int) := OD
          have q222 : x37_2 < (t216.length : Int) := OD
          obtain ⟨ad222, e222, hx222_0⟩ := Kd.at_int (Kd.R_reads' HO_35.out).2.2 x37_2 p222 q222
          cases e222
          replace p222 := eq_true p222
          replace q222 := eq_true q222
          obtain ⟨Ao21, co21, eo21⟩ := Kd.R_slice HO_9.out
          subst eo21
          go_wp2
          (try (go_step3; go_wp2))
          repeat (go_quiet (fail); try go_wp2)
          go_loopg [44, 8, 9] k2 (fun kq v44 v8 v9 w' => ∃ (x44_3 : Int), v44 = .int .i64 x44_3 ∧ .slice (some ad222) t216.length co17 = v8 ∧ .slice Ao21 t219.length co21 = v9 ∧ Aside0 (depend_Path.l1 kq l0 t216 t219 x37_2 (rd t216 x37_2) t216 (t216.length : Int) x37_2 t219 (t219.length : Int) x44_3 = some (r1, r2)) ∧ Aside0 (kq ≤ k2) ∧ Aside0 (Kd.R (Kd.int .i64) 3 w' w.heap.size (fun k_ => some k_ ≠ ((.slice Ao21 t219.length co21) : Value).ownBlock ∧ some k_ ≠ ((.slice Ao21 t219.length co21) : Value).ownBlock) (.slice (some ad222) t216.length co17) t216) ∧ Aside0 (Kd.R (Kd.int .i64) 3 w' w.heap.size (fun k_ => some k_ ≠ ((.slice (some ad222) t216.length co17) : Value).ownBlock ∧ some k_ ≠ ((.slice (some ad222) t216.length co17) : Value).ownBlock) (.slice Ao21 t219.length co21) t219) ∧ Aside0 (Kd.R (Kd.int .i64) 3 w' w.heap.size (fun k_ => some k_ ≠ ((.slice Ao21 t219.length co21) : Value).ownBlock ∧ some k_ ≠ ((.slice Ao21 t219.length co21) : Value).ownBlock) (.slice (some ad222) t216.length co17) t216) ∧ Aside0 (Kd.R (Kd.int .i64) 3 w' w.heap.size (fun k_ => some k_ ≠ ((.slice (some ad222) t216.length co17) : Value).ownBlock ∧ some k_ ≠ ((.slice (some ad222) t216.length co17) : Value).ownBlock) (.slice Ao21 t219.length co21) t219) ∧ Aside0 (Below w.heap.size w w'))
          case atStart => exact ⟨(0), (BE), (BE), (BE), H', ⟨Nat.le_refl _⟩, ⟨by (with_reducible repeat (first | apply Kd.R_alloc | apply Kd.R_drewN | apply Kd.R_drew)); exact Kd.R_mono HO_8.out (fun _ hk => ⟨hk, hk⟩)⟩, ⟨BR HO_9.out⟩, ⟨by (with_reducible repeat (first | apply Kd.R_alloc | apply Kd.R_drewN | apply Kd.R_drew)); exact Kd.R_mono HO_35.out (fun _ hk => ⟨hk, hk⟩)⟩, ⟨BR HO_9.out⟩, ⟨BB⟩⟩
          case round =>
           clear H'
           (try clear c1); (try clear c2); (try clear p2); (try clear q2); (try clear hx2); (try clear c6); (try clear c7); (try clear c7b0); (try clear c11); (try clear c18); (try clear c18b0); (try clear c19)
           (try clear c19b0); (try clear c20); (try clear c20b0); (try clear hx222_0); (try clear p2); (try clear p222); (try clear q222)
           obtain ⟨x44_3, rfl, rfl, rfl, HA, HK3, HO_8, HO_9, HO_35, HO_42, HB⟩ := hrel
           cases gk with
           | zero => exact absurd HA.out (by simp [depend_Path.l1])
           | succ k3 =>
            have H := HA.out
            clear HA
            simp only [depend_Path.l1] at H
            by_cases c22 : x44_3 < (t219.length : Int)
            ·
             rw [if_pos c22] at H
             have c22b0 : decide (x44_3 < (t219.length : Int)) = true := decide_eq_true c22
             clear c22
             by_cases c23 : 0 ≤ x44_3
             ·
              rw [if_pos c23] at H
              have c23b0 : decide (0 ≤ x44_3) = true := decide_eq_true c23
              clear c23
              by_cases c24 : x44_3 < (t219.length : Int)
              ·
               rw [if_pos c24] at H
               have c24b0 : decide (x44_3 < (t219.length : Int)) = true := decide_eq_true c24
               clear c24
               by_cases c25 : (rd t216 x37_2) = (rd t219 x44_3)
               ·
                rw [if_pos c25] at H
                have c25b0 : ((rd t216 x37_2) == (rd t219 x44_3)) = true := beq_iff_eq.mpr c25
                have c25b1 : ((rd t216 x37_2) != (rd t219 x44_3)) = false := bne_eq_false_iff_eq.mpr c25
                clear c25
                obtain ⟨ji26, hji26⟩ : ∃ j_ : Int, (wrap64 (x37_2 + 1)) = j_ := ⟨_, rfl⟩
                replace H : (if 0 ≤ (ji26) then (if (ji26) ≤ (t216.length : Int) then (if x44_3 ≤ (t219.length : Int) then (depend_Path.j3 k3 l0 (t216.take ((ji26) : Int).toNat) (t219.take (x44_3 : Int).toNat)) else (none)) else (none)) else (none)) = some (r1, r2) := by first | (rw [hji26] at H; exact H) | (simp only [hji26] at H ⊢; exact H)
                have hji26w : (IntKind.i64.wrap (x37_2 + 1)) = ji26 := (i64_w _).trans hji26
                by_cases c27 : 0 ≤ (ji26)
                ·
                 rw [if_pos c27] at H
                 have c27b0 := eq_true c27
                 have c27b1 : decide (0 ≤ (ji26)) = true := decide_eq_true c27
                 clear c27
                 by_cases c28 : (ji26) ≤ (t216.length : Int)
                 ·
                  rw [if_pos c28] at H
                  have c28b0 := eq_true c28
                  have c28b1 : decide ((ji26) ≤ (t216.length : Int)) = true := decide_eq_true c28
                  clear c28
                  obtain ⟨y224, hy224⟩ : ∃ y_ : List Int, y_ = (t216.take ((ji26) : Int).toNat) := ⟨_, rfl⟩
                  replace H : (if x44_3 ≤ (t219.length : Int) then (depend_Path.j3 k3 l0 y224 (t219.take (x44_3 : Int).toNat)) else (none)) = some (r1, r2) := by first | (rw [hy224]; with_reducible exact H) | (have H2_ := (Option.bind_some _ _).symm.trans H; rw [hy224]; with_reducible exact H2_) | (have H2_ := (Option.bind_some _ _).symm.trans H; with_reducible exact H2_) | with_reducible exact H | (rw [hy224]; exact H) | exact H
                  have Ny224 := Aside0.mk hy224
                  clear hy224
                  by_cases c29 : x44_3 ≤ (t219.length : Int)
                  ·
                   rw [if_pos c29] at H
                   have c29b0 := eq_true c29
                   have c29b1 : decide (x44_3 ≤ (t219.length : Int)) = true := decide_eq_true c29
                   clear c29
                   obtain ⟨y227, hy227⟩ : ∃ y_ : List Int, y_ = (t219.take (x44_3 : Int).toNat) := ⟨_, rfl⟩
                   replace H : (depend_Path.j3 k3 l0 y224 y227) = some (r1, r2) := by first | (rw [hy227]; with_reducible exact H) | (have H2_ := (Option.bind_some _ _).symm.trans H; rw [hy227]; with_reducible exact H2_) | (have H2_ := (Option.bind_some _ _).symm.trans H; with_reducible exact H2_) | with_reducible exact H | (rw [hy227]; exact H) | exact H
                   have Ny227 := Aside0.mk hy227
                   clear hy227
                   have H' := Aside0.mk H
                   clear H
                   have p223 : 0 ≤ (x44_3 : Int) := OD
                   have q223 : x44_3 < (t219.length : Int) := OD
                   obtain ⟨ad223, e223, hx223_0⟩ := Kd.at_int (Kd.R_reads' HO_42.out).2.2 x44_3 p223 q223
                   cases e223
                   replace p223 := eq_true p223
                   replace q223 := eq_true q223
                   have q30 : ((ji26) : Int) ≤ ((t216.length : Int) : Int) := OD
                   obtain ⟨i030, hi030, _, hsz30, _⟩ := info_parts info3
                   have hcut30 := cut_to (P := Tryd.prog) 22 3 .i64 Tryd.underlying22 hi030 (some ad222) t216.length co17 (ji26) (OD) q30 (Kd.R_reads' HO_8.out).2.1
                   have hr30 := Kd.R_take (m := ((ji26) : Int).toNat) HO_8.out (by omega)
                   have hy30 : y224.length = ((ji26) : Int).toNat := (by rw [Ny224.out, List.length_take]; omega)
                   rw [← Ny224.out] at hr30
                   rw [← hy30] at hr30 hcut30
                   clear hy30 hi030 hsz30 HO_8
                   have HO226 := Aside0.mk hr30
                   clear hr30
                   replace q30 := eq_true q30
                   have q31 : (x44_3 : Int) ≤ ((t219.length : Int) : Int) := OD
                   obtain ⟨i031, hi031, _, hsz31, _⟩ := info_parts info3
                   have hcut31 := cut_to (P := Tryd.prog) 22 3 .i64 Tryd.underlying22 hi031 (some ad223) t219.length co21 x44_3 (OD) q31 (Kd.R_reads' HO_9.out).2.1
                   have hr31 := Kd.R_take (m := (x44_3 : Int).toNat) HO_9.out (by omega)
                   have hy31 : y227.length = (x44_3 : Int).toNat := (by rw [Ny227.out, List.length_take]; omega)
                   rw [← Ny227.out] at hr31
                   rw [← hy31] at hr31 hcut31
                   clear hy31 hi031 hsz31 HO_9
                   have HO229 := Aside0.mk hr31
                   clear hr31
                   replace q31 := eq_true q31
                   go_wp2
                   (try (go_step3; go_wp2))
                   repeat (go_quiet (fail); try go_wp2)
                   go_meet
                   case rel => exact ⟨_, (y224), (y227), H', ⟨by have := HJ3.out; have := HK2.out; have := HK3.out; first | omega | exact Nat.le_refl _⟩, ⟨by (with_reducible repeat (first | apply Kd.R_alloc | apply Kd.R_drewN | apply Kd.R_drew)); exact Kd.R_mono HO226.out (fun _ hk => hk.1)⟩, ⟨by (with_reducible repeat (first | apply Kd.R_alloc | apply Kd.R_drewN | apply Kd.R_drew)); exact Kd.R_mono HO229.out (fun _ hk => hk.1)⟩, ⟨BB⟩⟩
                  ·
                   rw [if_neg c29] at H
                   exact absurd H (by simp)
                 ·
                  rw [if_neg c28] at H
                  exact absurd H (by simp)
                ·
                 rw [if_neg c27] at H
                 exact absurd H (by simp)
               ·
                rw [if_neg c25] at H
                have c25b0 : ((rd t216 x37_2) == (rd t219 x44_3)) = false := beq_eq_false_iff_ne.mpr c25
                have c25b1 : ((rd t216 x37_2) != (rd t219 x44_3)) = true := bne_iff_ne.mpr c25
                have H' := Aside0.mk H
                clear H
                have p223 : 0 ≤ (x44_3 : Int) := OD
                have q223 : x44_3 < (t219.length : Int) := OD
                obtain ⟨ad223, e223, hx223_0⟩ := Kd.at_int (Kd.R_reads' HO_42.out).2.2 x44_3 p223 q223
                cases e223
                replace p223 := eq_true p223
                replace q223 := eq_true q223
                go_wp2
                (try (go_step3; go_wp2))
                repeat (go_quiet (fail); try go_wp2)
                go_roundg k3
                case measure => have := HJ3.out; have := HK2.out; have := HK3.out; omega
                case rel => exact ⟨(wrap64 (x44_3 + 1)), (BE), (BE), (BE), H', ⟨by have := HJ3.out; have := HK2.out; have := HK3.out; omega⟩, ⟨BR HO_8.out⟩, ⟨BR HO_9.out⟩, ⟨BR HO_35.out⟩, ⟨BR HO_42.out⟩, ⟨BB⟩⟩
              ·
               rw [if_neg c24] at H
               exact absurd H (by simp)
             ·
              rw [if_neg c23] at H
              exact absurd H (by simp)
            ·
             rw [if_neg c22] at H
             have c22b0 : decide (x44_3 < (t219.length : Int)) = false := decide_eq_false c22
             clear c22
             have H' := Aside0.mk H
             clear H
             go_wp2
             (try (go_step3; go_wp2))
             repeat (go_quiet (fail); try go_wp2)
             go_roundg k3
             case measure => have := HJ3.out; have := HK2.out; have := HK3.out; omega
             case rel => exact ⟨(wrap64 (x37_2 + 1)), (BE), (BE), (BE), H', ⟨by have := HJ3.out; have := HK2.out; have := HK3.out; omega⟩, ⟨by (with_reducible repeat (first | apply Kd.R_alloc | apply Kd.R_drewN | apply Kd.R_drew)); exact Kd.R_mono HO_8.out (fun _ hk => hk.1)⟩, ⟨BR HO_9.out⟩, ⟨by (with_reducible repeat (first | apply Kd.R_alloc | apply Kd.R_drewN | apply Kd.R_drew)); exact Kd.R_mono HO_35.out (fun _ hk => hk.1)⟩, ⟨BB⟩⟩
         ·
          rw [if_neg c20] at H
          exact absurd H (by simp)
        ·
         rw [if_neg c19] at H
         exact absurd H (by simp)
       ·
        rw [if_neg c18] at H
        have c18b0 : decide (x37_2 < (t216.length : Int)) = false := decide_eq_false c18
        clear c18
        (first | rw [c18b0] | (simp only [i64_w, i32_w]; rw [c18b0]) | skip)
        have H' := Aside0.mk H
        clear H
        go_wp2
        (try (go_step3; go_wp2))
        repeat (go_quiet (fail); try go_wp2)
        go_meet
        case rel => exact ⟨_, (t216), (t219), H', ⟨by have := HJ3.out; have := HK2.out; first | omega | exact Nat.le_refl _⟩, ⟨BR HO_8.out⟩, ⟨by (with_reducible repeat (first | apply Kd.R_alloc | apply Kd.R_drewN | apply Kd.R_drew)); exact Kd.R_mono HO_9.out (fun _ hk => hk.1)⟩, ⟨BB⟩⟩
    case rest =>
     clear HC14
     (try clear c1); (try clear c2); (try clear p2); (try clear q2); (try clear hx2); (try clear q3); (try clear c6); (try clear p6); (try clear c7); (try clear c7b0); (try clear c11); (try clear c18); (try clear c18b0)
     (try clear c19); (try clear c19b0); (try clear c20); (try clear c20b0); (try clear c22); (try clear c22b0); (try clear p22); (try clear q22); (try clear hx22); (try clear c23); (try clear c23b0); (try clear c24)
     (try clear c24b0); (try clear c25); (try clear c25b0); (try clear c25b1); (try clear c27); (try clear c27b0); (try clear c27b1); (try clear c28); (try clear c28b0); (try clear c28b1); (try clear c29); (try clear c29b0)
     (try clear c29b1); (try clear q30); (try clear q31); (try clear hx222_0); (try clear hx223_0); (try clear p2); (try clear p222); (try clear p223); (try clear q2); (try clear q222); (try clear q223); (try clear q30)
     (try clear q31)
     obtain ⟨kq, x8_13, x9_13, HA, HJ13, HO_8, HO_9, HB⟩ := hcut
     cases kq with
     | zero => exact absurd HA.out (by simp [depend_Path.j3])
     | succ kj13 =>
      have H := HA.out
      clear HA
      simp only [depend_Path.j3] at H
      have HC32 := Aside0.mk H
      clear H
      go_upto_region 14 with (fail)
      (try (go_step3; go_upto_region 14 with (fail)))
      repeat (go_quiet (fail); go_upto_region 14 with (fail))
      go_cut [81] (fun v81 wc => ∃ (kq : Nat) (x81_31 : Bool), v81 = .bool x81_31 ∧ Aside0 (depend_Path.j4 kq x8_13 x9_13 x81_31 = some (r1, r2)) ∧ Aside0 (kq ≤ kj13) ∧ Aside0 (Kd.R (Kd.int .i64) 3 wc w.heap.size (fun k_ => some k_ ≠ (u9 : Value).ownBlock) u8 x8_13) ∧ Aside0 (Kd.R (Kd.int .i64) 3 wc w.heap.size (fun k_ => some k_ ≠ (u8 : Value).ownBlock) u9 x9_13) ∧ Aside0 (Below w.heap.size w wc))
      case first =>
       have H := HC32.out
       clear HC32
       by_cases c33 : (x9_13.length : Int) > 0
       ·
        rw [if_pos c33] at H
        have c33b0 : decide (0 < (x9_13.length : Int)) = true := decide_eq_true c33
        have c33b1 : decide (0 < x9_13.length) = true := decide_eq_true (by omega)
        clear c33
        (first | rw [c33b0] | rw [c33b1] | (simp only [i64_w, i32_w]; rw [c33b0]) | skip)
        obtain ⟨ji34, hji34⟩ : ∃ j_ : Int, (wrap64 ((x9_13.length : Int) - 1)) = j_ := ⟨_, rfl⟩
        replace H : (if 0 ≤ (ji34) then (if (ji34) < (x9_13.length : Int) then (if 0 ≤ (rd x9_13 (ji34)) then (if (rd x9_13 (ji34)) < (l0.length : Int) then (if 0 ≤ (wrap64 ((x8_13.length : Int) - 1)) then (if (wrap64 ((x8_13.length : Int) - 1)) < (x8_13.length : Int) then (depend_Path.j4 kj13 x8_13 x9_13 ((rd l0 (rd x9_13 (ji34))) != (rd x8_13 (wrap64 ((x8_13.length : Int) - 1))))) else (none)) else (none)) else (none)) else (none)) else (none)) else (none)) = some (r1, r2) := by first | (rw [hji34] at H; exact H) | (simp only [hji34] at H ⊢; exact H)
        have hji34w : (IntKind.i64.wrap ((x9_13.length : Int) - 1)) = ji34 := (i64_w _).trans hji34
        by_cases c35 : 0 ≤ (ji34)
        ·
         rw [if_pos c35] at H
         have c35b0 : decide (0 ≤ (ji34)) = true := decide_eq_true c35
         clear c35
         by_cases c36 : (ji34) < (x9_13.length : Int)
         ·
          rw [if_pos c36] at H
          have c36b0 : decide ((ji34) < (x9_13.length : Int)) = true := decide_eq_true c36
          clear c36
          by_cases c37 : 0 ≤ (rd x9_13 (ji34))
          ·
           rw [if_pos c37] at H
           have c37b0 : decide (0 ≤ (rd x9_13 (ji34))) = true := decide_eq_true c37
           clear c37
           by_cases c38 : (rd x9_13 (ji34)) < (l0.length : Int)
           ·
            rw [if_pos c38] at H
            have c38b0 : decide ((rd x9_13 (ji34)) < (l0.length : Int)) = true := decide_eq_true c38
            clear c38
            obtain ⟨ji39, hji39⟩ : ∃ j_ : Int, (wrap64 ((x8_13.length : Int) - 1)) = j_ := ⟨_, rfl⟩
            replace H : (if 0 ≤ (ji39) then (if (ji39) < (x8_13.length : Int) then (depend_Path.j4 kj13 x8_13 x9_13 ((rd l0 (rd x9_13 (ji34))) != (rd x8_13 (ji39)))) else (none)) else (none)) = some (r1, r2) := by first | (rw [hji39] at H; exact H) | (simp only [hji39] at H ⊢; exact H)
            have hji39w : (IntKind.i64.wrap ((x8_13.length : Int) - 1)) = ji39 := (i64_w _).trans hji39
            by_cases c40 : 0 ≤ (ji39)
            ·
             rw [if_pos c40] at H
             have c40b0 : decide (0 ≤ (ji39)) = true := decide_eq_true c40
             clear c40
             by_cases c41 : (ji39) < (x8_13.length : Int)
             ·
              rw [if_pos c41] at H
              have c41b0 : decide ((ji39) < (x8_13.length : Int)) = true := decide_eq_true c41
              clear c41
              have H' := Aside0.mk H
              clear H
              obtain ⟨Ao42, co42, eo42⟩ := Kd.R_slice HO_9.out
              subst eo42
              have p230 : 0 ≤ ((ji34) : Int) := OD
              have q230 : (ji34) < (x9_13.length : Int) := OD
              obtain ⟨ad230, e230, hx230_0⟩ := Kd.at_int (Kd.R_reads' HO_9.out).2.2 (ji34) p230 q230
              cases e230
              replace p230 := eq_true p230
              replace q230 := eq_true q230
              have p231 : 0 ≤ ((rd x9_13 (ji34)) : Int) := OD
              have q231 : (rd x9_13 (ji34)) < (l0.length : Int) := OD
              obtain ⟨ad231, e231, hx231_0⟩ := Kd.at_int HR0.out (rd x9_13 (ji34)) p231 q231
              cases e231
              replace hx231_0 := (HB.out.cell (World.block_lt_of_cell? w _ hx231_0)).trans hx231_0
              replace p231 := eq_true p231
              replace q231 := eq_true q231
              obtain ⟨Ao43, co43, eo43⟩ := Kd.R_slice HO_8.out
              subst eo43
              have p232 : 0 ≤ ((ji39) : Int) := OD
              have q232 : (ji39) < (x8_13.length : Int) := OD
              obtain ⟨ad232, e232, hx232_0⟩ := Kd.at_int (Kd.R_reads' HO_8.out).2.2 (ji39) p232 q232
              cases e232
              replace p232 := eq_true p232
              replace q232 := eq_true q232
              go_wp2
              (try (go_step3; go_wp2))
              repeat (go_quiet (fail); try go_wp2)
              go_meet
              case rel => exact ⟨_, (((rd l0 (rd x9_13 (ji34))) != (rd x8_13 (ji39)))), (by first | rfl | (simp; done) | (simp only [← hji34, ← hji39] <;> (first | rfl | simp)) | (simp [*]; done)), H', ⟨by have := HJ3.out; have := HJ13.out; first | omega | exact Nat.le_refl _⟩, ⟨BR HO_8.out⟩, ⟨BR HO_9.out⟩, ⟨BB⟩⟩
             ·
              rw [if_neg c41] at H
              exact absurd H (by simp)
            ·
             rw [if_neg c40] at H
             exact absurd H (by simp)
           ·
            rw [if_neg c38] at H
            exact absurd H (by simp)
          ·
           rw [if_neg c37] at H
           exact absurd H (by simp)
         ·
          rw [if_neg c36] at H
          exact absurd H (by simp)
        ·
         rw [if_neg c35] at H
         exact absurd H (by simp)
       ·
        rw [if_neg c33] at H
        have c33b0 : decide (0 < (x9_13.length : Int)) = false := decide_eq_false c33
        have c33b1 : decide (0 < x9_13.length) = false := decide_eq_false (by omega)
        clear c33
        (first | rw [c33b0] | rw [c33b1] | (simp only [i64_w, i32_w]; rw [c33b0]) | skip)
        have H' := Aside0.mk H
        clear H
        obtain ⟨Ao44, co44, eo44⟩ := Kd.R_slice HO_9.out
        subst eo44
        go_wp2
        (try (go_step3; go_wp2))
        repeat (go_quiet (fail); try go_wp2)
        go_meet
        case rel => exact ⟨_, (false), (BE), H', ⟨by have := HJ3.out; have := HJ13.out; first | omega | exact Nat.le_refl _⟩, ⟨BR HO_8.out⟩, ⟨BR HO_9.out⟩, ⟨BB⟩⟩
      case rest =>
       clear HC32
       (try clear c1); (try clear c2); (try clear p2); (try clear q2); (try clear hx2); (try clear c3); (try clear q3); (try clear c4); (try clear c6); (try clear p6); (try clear c7); (try clear c7b0); (try clear c11)
       (try clear c18); (try clear c18b0); (try clear c19); (try clear c19b0); (try clear c20); (try clear c20b0); (try clear c22); (try clear c22b0); (try clear p22); (try clear q22); (try clear hx22); (try clear c23)
       (try clear c23b0); (try clear p23); (try clear q23); (try clear hx23); (try clear c24); (try clear c24b0); (try clear c25); (try clear c25b0); (try clear c25b1); (try clear c27); (try clear c27b0); (try clear c27b1)
       (try clear c28); (try clear c28b0); (try clear c28b1); (try clear c29); (try clear c29b0); (try clear c29b1); (try clear q30); (try clear q31); (try clear c33); (try clear c33b0); (try clear c33b1); (try clear c35)
       (try clear c35b0); (try clear c36); (try clear c36b0); (try clear c37); (try clear c37b0); (try clear c38); (try clear c38b0); (try clear c40); (try clear c40b0); (try clear c41); (try clear c41b0); (try clear hx222_0)
       (try clear hx223_0); (try clear hx230_0); (try clear hx231_0); (try clear hx232_0); (try clear p2); (try clear p22); (try clear p222); (try clear p223); (try clear p230); (try clear p231); (try clear p232); (try clear p6)
       (try clear q2); (try clear q22); (try clear q222); (try clear q223); (try clear q230); (try clear q231); (try clear q232); (try clear q3); (try clear q30); (try clear q31)
       obtain ⟨kq, x81_31, rfl, HA, HJ31, HO_8, HO_9, HB⟩ := hcut
       cases kq with
       | zero => exact absurd HA.out (by simp [depend_Path.j4])
       | succ kj31 =>
        have H := HA.out
        clear HA
        simp only [depend_Path.j4] at H
        by_cases c45 : x81_31 = true
        ·
         subst c45
         have H1 : (some (([] : List Int), 11)) = some (r1, r2) := by rw [if_pos rfl] at H; exact H
         clear H
         have H := H1
         clear H1
         simp only [Option.some.injEq, Prod.mk.injEq] at H
         obtain ⟨rfl, rfl⟩ := H
         go_wp2
         (try (go_step3; go_wp2))
         repeat (go_quiet (fail); try go_wp2)
         rw [Exit.noGoto_ret]
         go_ret2
         exact ⟨_, BX, by first | exact Kd.R_nil _ _ _ _ _ | exact Kd.N_nil _ _ _ _ _ | exact Kd.V_nil _ _ _ _ _ | exact Kd.Q_nil _ _ _ _ _ | exact Kd.S_nil _ _ _ _ _, BB⟩
        ·
         replace c45 := Bool.eq_false_iff.mpr c45
         subst c45
         have H1 : (depend_Path.l2 kj31 x8_13 x9_13 (wrap64 ((x9_13.length : Int) - 1))) = some (r1, r2) := by rw [if_neg (show ¬ (false = true) by decide)] at H; exact H
         clear H
         have H := H1
         clear H1
         have H' := Aside0.mk H
         clear H
         obtain ⟨Ao46, co46, eo46⟩ := Kd.R_slice HO_9.out
         subst eo46
         go_wp2
         (try (go_step3; go_wp2))
         repeat (go_quiet (fail); try go_wp2)
         go_loopg [8, 14] kj31 (fun kq v8 v14 w' => ∃ (x8_4 : List Int) (x14_4 : Int), v14 = .int .i64 x14_4 ∧ Aside0 (depend_Path.l2 kq x8_4 x9_13 x14_4 = some (r1, r2)) ∧ Aside0 (kq ≤ kj31) ∧ Aside0 (Kd.R (Kd.int .i64) 3 w' w.heap.size (fun k_ => some k_ ≠ ((.slice Ao46 x9_13.length co46) : Value).ownBlock) v8 x8_4) ∧ Aside0 (Kd.R (Kd.int .i64) 3 w' w.heap.size (fun k_ => some k_ ≠ (v8 : Value).ownBlock) (.slice Ao46 x9_13.length co46) x9_13) ∧ Aside0 (Below w.heap.size w w'))
         case atStart => exact ⟨(x8_13), (wrap64 ((x9_13.length : Int) - 1)), (BE), H', ⟨Nat.le_refl _⟩, ⟨BR HO_8.out⟩, ⟨BR HO_9.out⟩, ⟨BB⟩⟩
         case round =>
          clear H'
          (try clear c1); (try clear c2); (try clear p2); (try clear q2); (try clear hx2); (try clear c3); (try clear q3); (try clear c4); (try clear c6); (try clear p6); (try clear c7); (try clear c7b0); (try clear c11)
          (try clear c18); (try clear c18b0); (try clear c19); (try clear c19b0); (try clear c20); (try clear c20b0); (try clear c22); (try clear c22b0); (try clear p22); (try clear q22); (try clear hx22); (try clear c23)
          (try clear c23b0); (try clear p23); (try clear q23); (try clear hx23); (try clear c24); (try clear c24b0); (try clear c25); (try clear c25b0); (try clear c25b1); (try clear c27); (try clear c27b0); (try clear c27b1)
          (try clear c28); (try clear c28b0); (try clear c28b1); (try clear c29); (try clear c29b0); (try clear c29b1); (try clear q30); (try clear q31); (try clear c33); (try clear c33b0); (try clear c33b1); (try clear c35)
          (try clear c35b0); (try clear c36); (try clear c36b0); (try clear c37); (try clear c37b0); (try clear c38); (try clear c38b0); (try clear c40); (try clear c40b0); (try clear c41); (try clear c41b0); (try clear c45)
          (try clear hx222_0); (try clear hx223_0); (try clear hx230_0); (try clear hx231_0); (try clear hx232_0); (try clear p2); (try clear p22); (try clear p222); (try clear p223); (try clear p23); (try clear p230)
          (try clear p231); (try clear p232); (try clear p6); (try clear q2); (try clear q22); (try clear q222); (try clear q223); (try clear q23); (try clear q230); (try clear q231); (try clear q232); (try clear q3)
          (try clear q30); (try clear q31)
          obtain ⟨x8_4, x14_4, rfl, HA, HK4, HO_8, HO_9, HB⟩ := hrel
          cases gk with
          | zero => exact absurd HA.out (by simp [depend_Path.l2])
          | succ k4 =>
           have H := HA.out
           clear HA
           simp only [depend_Path.l2] at H
           by_cases c47 : x14_4 ≥ 0
           ·
            rw [if_pos c47] at H
            have c47b0 : decide (0 ≤ x14_4) = true := decide_eq_true c47
            clear c47
            by_cases c48 : 0 ≤ x14_4
            ·
             rw [if_pos c48] at H
             have c48b0 : decide (0 ≤ x14_4) = true := decide_eq_true c48
             clear c48
             by_cases c49 : x14_4 < (x9_13.length : Int)
             ·
              rw [if_pos c49] at H
              have c49b0 : decide (x14_4 < (x9_13.length : Int)) = true := decide_eq_true c49
              clear c49
              by_cases c50 : x8_4.length < 17592186044416
              ·
               rw [if_pos c50] at H
               have LMc50 := Aside0.mk c50
               clear c50
               obtain ⟨y234, hy234⟩ : ∃ y_ : List Int, y_ = (x8_4 ++ [rd x9_13 x14_4]) := ⟨_, rfl⟩
               replace H : (depend_Path.l2 k4 y234 x9_13 (wrap64 (x14_4 - 1))) = some (r1, r2) := by first | (rw [hy234]; with_reducible exact H) | (have H2_ := (Option.bind_some _ _).symm.trans H; rw [hy234]; with_reducible exact H2_) | (have H2_ := (Option.bind_some _ _).symm.trans H; with_reducible exact H2_) | with_reducible exact H | (rw [hy234]; exact H) | exact H
               have Ny234 := Aside0.mk hy234
               clear hy234
               have H' := Aside0.mk H
               clear H
               have p233 : 0 ≤ (x14_4 : Int) := OD
               have q233 : x14_4 < (x9_13.length : Int) := OD
               obtain ⟨ad233, e233, hx233_0⟩ := Kd.at_int (Kd.R_reads' HO_9.out).2.2 x14_4 p233 q233
               cases e233
               replace p233 := eq_true p233
               replace q233 := eq_true q233
               go_wp2_with (first | ((with_reducible refine gate_builtin (b := .append) (xs := #[.tmp 89, .tmp 94]) rfl ?_); (try (refine gate_guard (by rfl) ?_; dsimp only)); at_builtin; refine Kd.R_append (Kd.int .i64) (w0 := w) w.heap.size rfl (.tmp 89) (.tmp 94) 22 3 (.int .i64 0) 8 rfl Tryd.underlying22 info3 rfl (by decide) (by omega) u8 x8_4 (rd x9_13 x14_4) [.int .i64 (rd x9_13 x14_4)] (fun k_ => some k_ ≠ (.slice (some ad233) x9_13.length co46 : Value).ownBlock) (fun _ => False) rfl rfl ?aP (fun _ hk => hk.elim) ?aF ?aO ?aB ?aS ?aL ?_; (case aP => exact rfl); (case aB => exact (BB)); (case aF => exact (fun k_ hk => Kd.fresh' (Kd.R_lt (BR HO_9.out)) k_ hk)); (case aO => exact (BR HO_8.out)); (case aS => exact (below_size (BB))); (case aL => have := LMc50.out; omega); intro v235 w51 ho hb hg hat; rw [← Ny234.out] at ho; have n0_ := Aside0.mk (Kd.R_after (ok := (fun _ => True)) (by (with_reducible repeat (first | apply Kd.R_alloc | apply Kd.R_drewN | apply Kd.R_drew)); exact Kd.R_mono HO_9.out (fun _ hk => ⟨trivial, hk⟩)) hg hat); have n1_ := Aside0.mk (hb); have n2_ := Aside0.mk (ho); clear HO_9; clear HB; clear HO_8; have HO_9 := n0_; have HB := n1_; have HO236 := n2_; clear n0_ n1_ n2_; clear ho hb hg hat))
               repeat (go_quiet (first | ((with_reducible refine gate_builtin (b := .append) (xs := #[.tmp 89, .tmp 94]) rfl ?_); (try (refine gate_guard (by rfl) ?_; dsimp only)); at_builtin; refine Kd.R_append (Kd.int .i64) (w0 := w) w.heap.size rfl (.tmp 89) (.tmp 94) 22 3 (.int .i64 0) 8 rfl Tryd.underlying22 info3 rfl (by decide) (by omega) u8 x8_4 (rd x9_13 x14_4) [.int .i64 (rd x9_13 x14_4)] (fun k_ => some k_ ≠ (.slice (some ad233) x9_13.length co46 : Value).ownBlock) (fun _ => False) rfl rfl ?aP (fun _ hk => hk.elim) ?aF ?aO ?aB ?aS ?aL ?_; (case aP => exact rfl); (case aB => exact (BB)); (case aF => exact (fun k_ hk => Kd.fresh' (Kd.R_lt (BR HO_9.out)) k_ hk)); (case aO => exact (BR HO_8.out)); (case aS => exact (below_size (BB))); (case aL => have := LMc50.out; omega); intro v235 w51 ho hb hg hat; rw [← Ny234.out] at ho; have n0_ := Aside0.mk (Kd.R_after (ok := (fun _ => True)) (by (with_reducible repeat (first | apply Kd.R_alloc | apply Kd.R_drewN | apply Kd.R_drew)); exact Kd.R_mono HO_9.out (fun _ hk => ⟨trivial, hk⟩)) hg hat); have n1_ := Aside0.mk (hb); have n2_ := Aside0.mk (ho); clear HO_9; clear HB; clear HO_8; have HO_9 := n0_; have HB := n1_; have HO236 := n2_; clear n0_ n1_ n2_; clear ho hb hg hat)); try go_wp2_with (first | ((with_reducible refine gate_builtin (b := .append) (xs := #[.tmp 89, .tmp 94]) rfl ?_); (try (refine gate_guard (by rfl) ?_; dsimp only)); at_builtin; refine Kd.R_append (Kd.int .i64) (w0 := w) w.heap.size rfl (.tmp 89) (.tmp 94) 22 3 (.int .i64 0) 8 rfl Tryd.underlying22 info3 rfl (by decide) (by omega) u8 x8_4 (rd x9_13 x14_4) [.int .i64 (rd x9_13 x14_4)] (fun k_ => some k_ ≠ (.slice (some ad233) x9_13.length co46 : Value).ownBlock) (fun _ => False) rfl rfl ?aP (fun _ hk => hk.elim) ?aF ?aO ?aB ?aS ?aL ?_; (case aP => exact rfl); (case aB => exact (BB)); (case aF => exact (fun k_ hk => Kd.fresh' (Kd.R_lt (BR HO_9.out)) k_ hk)); (case aO => exact (BR HO_8.out)); (case aS => exact (below_size (BB))); (case aL => have := LMc50.out; omega); intro v235 w51 ho hb hg hat; rw [← Ny234.out] at ho; have n0_ := Aside0.mk (Kd.R_after (ok := (fun _ => True)) (by (with_reducible repeat (first | apply Kd.R_alloc | apply Kd.R_drewN | apply Kd.R_drew)); exact Kd.R_mono HO_9.out (fun _ hk => ⟨trivial, hk⟩)) hg hat); have n1_ := Aside0.mk (hb); have n2_ := Aside0.mk (ho); clear HO_9; clear HB; clear HO_8; have HO_9 := n0_; have HB := n1_; have HO236 := n2_; clear n0_ n1_ n2_; clear ho hb hg hat)))
               go_roundg k4
               case measure => have := HJ3.out; have := HJ13.out; have := HJ31.out; have := HK4.out; omega
               case rel => exact ⟨(y234), (wrap64 (x14_4 - 1)), (BE), H', ⟨by have := HJ3.out; have := HJ13.out; have := HJ31.out; have := HK4.out; omega⟩, ⟨BR HO236.out⟩, ⟨by (with_reducible repeat (first | apply Kd.R_alloc | apply Kd.R_drewN | apply Kd.R_drew)); exact Kd.R_mono HO_9.out (fun _ hk => hk.2)⟩, ⟨BB⟩⟩
              ·
               rw [if_neg c50] at H
               exact absurd H (by simp)
             ·
              rw [if_neg c49] at H
              exact absurd H (by simp)
            ·
             rw [if_neg c48] at H
             exact absurd H (by simp)
           ·
            rw [if_neg c47] at H
            have c47b0 : decide (0 ≤ x14_4) = false := decide_eq_false c47
            clear c47
            simp only [Option.some.injEq, Prod.mk.injEq] at H
            obtain ⟨rfl, rfl⟩ := H
            go_wp2
            (try (go_step3; go_wp2))
            repeat (go_quiet (fail); try go_wp2)
            rw [Exit.noGoto_ret]
            go_ret2
            exact ⟨_, BX, by (with_reducible repeat (first | apply Kd.R_alloc | apply Kd.R_drewN | apply Kd.R_drew)); exact Kd.R_mono HO_8.out (fun _ hk => trivial), BB⟩

end Go.Proofs.YtkanmafjjejpmaaDoor.P
