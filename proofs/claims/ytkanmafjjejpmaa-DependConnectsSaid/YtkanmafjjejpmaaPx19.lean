-- Written by a program of this session (wip/doprint.sh) out of the translation; Lean checks it.
import Derived.Test.YtkanmafjjejpmaaPx0
import Derived.Test.YtkanmafjjejpmaaPx17
namespace Go.Proofs.Ytkanmafjjejpmaa.P
open Go.Proofs.Ytkanmafjjejpmaa.S
open Go.Proofs.Ytkanmafjjejpmaa.X
open Go.RowKit Go.Proofs.YtkanmafjjejpmaaW.PrintWords Go.Proofs.YtkanmafjjejpmaaW.PrintLast Go.Proofs.YtkanmafjjejpmaaW.PrintMore
attribute [local go_sem] max2_int min2_int max_two min_two max_three min_three max_four min_four   -- for this text's walks alone
set_option linter.unusedVariables false
set_option linter.unusedSimpArgs false

/-! ### corporaref09_Path: function 17 -/
mutual
def corporaref09_Path.j0 : Nat → List Int → Int → Int → Bool → Option (List Int × Int)
  | 0, _, _, _, _ => none
  | k + 1, x0, x1, x2, x36 => if x36 = true then (some (([] : List Int), 1)) else ((corporaref09_Way.f k x0 x1).bind fun t294 => ((corporaref09_Way.f k x0 x2).bind fun t297 => (corporaref09_Path.l0 k t294 t297 (t294.length : Int) 0)))
def corporaref09_Path.l0 : Nat → List Int → List Int → Int → Int → Option (List Int × Int)
  | 0, _, _, _, _ => none
  | k + 1, x8, x9, x44, x45 => if x45 < x44 then (corporaref09_Path.l1 k x8 x9 x45 x44 x45 (x9.length : Int) 0) else (some (([] : List Int), 11))
def corporaref09_Path.l1 : Nat → List Int → List Int → Int → Int → Int → Int → Int → Option (List Int × Int)
  | 0, _, _, _, _, _, _, _ => none
  | k + 1, x8, x9, x10, x44, x45, x49, x50 => if x50 < x49 then (if 0 ≤ x10 then (if x10 < (x8.length : Int) then (if 0 ≤ x50 then (if x50 < (x9.length : Int) then (if (rd x8 x10) = (rd x9 x50) then (if 0 ≤ (wrap64 (x10 + 1)) then (if (wrap64 (x10 + 1)) ≤ (x8.length : Int) then ((some (x8.take ((wrap64 (x10 + 1)) : Int).toNat : List Int)).bind fun y302 => (if ([] : List Int).length + y302.length < 17592186044416 then (corporaref09_Path.l2 k x9 (([] : List Int) ++ y302) (wrap64 (x50 - 1))) else (none))) else (none)) else (none)) else (corporaref09_Path.l1 k x8 x9 x10 x44 x45 x49 (wrap64 (x50 + 1)))) else (none)) else (none)) else (none)) else (none)) else (corporaref09_Path.l0 k x8 x9 x44 (wrap64 (x45 + 1)))
def corporaref09_Path.l2 : Nat → List Int → List Int → Int → Option (List Int × Int)
  | 0, _, _, _ => none
  | k + 1, x9, x12, x13 => if x13 ≥ 0 then (if 0 ≤ x13 then (if x13 < (x9.length : Int) then (if x12.length < 17592186044416 then (corporaref09_Path.l2 k x9 (x12 ++ [rd x9 x13]) (wrap64 (x13 - 1))) else (none)) else (none)) else (none)) else (some (x12, 0))
end
def corporaref09_Path.f (k : Nat) (l0 : List Int) (a1 : Int) (a2 : Int) : Option (List Int × Int) := (corporaref09_Valid.f k l0).bind fun t293 => (if t293 = true then (if a1 < 0 then (corporaref09_Path.j0 k l0 a1 a2 true) else (if a1 ≥ (l0.length : Int) then (corporaref09_Path.j0 k l0 a1 a2 true) else (if a2 < 0 then (corporaref09_Path.j0 k l0 a1 a2 true) else (corporaref09_Path.j0 k l0 a1 a2 (decide (a2 ≥ (l0.length : Int))))))) else (corporaref09_Path.j0 k l0 a1 a2 true))
theorem corporaref09_Path.mono_l : ∀ k, (∀ y0 y1 y2 y3, LeO (corporaref09_Path.j0 k y0 y1 y2 y3) (corporaref09_Path.j0 (k + 1) y0 y1 y2 y3)) ∧ (∀ y0 y1 y2 y3, LeO (corporaref09_Path.l0 k y0 y1 y2 y3) (corporaref09_Path.l0 (k + 1) y0 y1 y2 y3)) ∧ (∀ y0 y1 y2 y3 y4 y5 y6, LeO (corporaref09_Path.l1 k y0 y1 y2 y3 y4 y5 y6) (corporaref09_Path.l1 (k + 1) y0 y1 y2 y3 y4 y5 y6)) ∧ (∀ y0 y1 y2, LeO (corporaref09_Path.l2 k y0 y1 y2) (corporaref09_Path.l2 (k + 1) y0 y1 y2))
 | 0 => ⟨fun _ _ _ _ r h => by simp [corporaref09_Path.j0] at h, fun _ _ _ _ r h => by simp [corporaref09_Path.l0] at h, fun _ _ _ _ _ _ _ r h => by simp [corporaref09_Path.l1] at h, fun _ _ _ r h => by simp [corporaref09_Path.l2] at h⟩
 | k + 1 => by
  obtain ⟨ih0, ih1, ih2, ih3⟩ := corporaref09_Path.mono_l k
  refine ⟨?_, ?_, ?_, ?_⟩
  ·
   intro y0 y1 y2 y3
   unfold corporaref09_Path.j0
   with_reducible repeat' first | exact ih0 _ _ _ _ | exact ih1 _ _ _ _ | exact ih2 _ _ _ _ _ _ _ | exact ih3 _ _ _ | exact corporaref09_Valid.mono _ _ | exact corporaref09_Way.mono _ _ _ | exact LeO.refl _ | exact LeO.none _ | refine LeO.ite ?_ ?_ | refine LeO.bind ?_ (fun _ => ?_)
  ·
   intro y0 y1 y2 y3
   unfold corporaref09_Path.l0
   with_reducible repeat' first | exact ih0 _ _ _ _ | exact ih1 _ _ _ _ | exact ih2 _ _ _ _ _ _ _ | exact ih3 _ _ _ | exact corporaref09_Valid.mono _ _ | exact corporaref09_Way.mono _ _ _ | exact LeO.refl _ | exact LeO.none _ | refine LeO.ite ?_ ?_ | refine LeO.bind ?_ (fun _ => ?_)
  ·
   intro y0 y1 y2 y3 y4 y5 y6
   unfold corporaref09_Path.l1
   with_reducible repeat' first | exact ih0 _ _ _ _ | exact ih1 _ _ _ _ | exact ih2 _ _ _ _ _ _ _ | exact ih3 _ _ _ | exact corporaref09_Valid.mono _ _ | exact corporaref09_Way.mono _ _ _ | exact LeO.refl _ | exact LeO.none _ | refine LeO.ite ?_ ?_ | refine LeO.bind ?_ (fun _ => ?_)
  ·
   intro y0 y1 y2
   unfold corporaref09_Path.l2
   with_reducible repeat' first | exact ih0 _ _ _ _ | exact ih1 _ _ _ _ | exact ih2 _ _ _ _ _ _ _ | exact ih3 _ _ _ | exact corporaref09_Valid.mono _ _ | exact corporaref09_Way.mono _ _ _ | exact LeO.refl _ | exact LeO.none _ | refine LeO.ite ?_ ?_ | refine LeO.bind ?_ (fun _ => ?_)
theorem corporaref09_Path.mono : ∀ a0 a1 a2 k, LeO (corporaref09_Path.f k a0 a1 a2) (corporaref09_Path.f (k + 1) a0 a1 a2) := by
 intro a0 a1 a2 k
 obtain ⟨ih0, ih1, ih2, ih3⟩ := corporaref09_Path.mono_l k
 unfold corporaref09_Path.f
 with_reducible repeat' first | exact ih0 _ _ _ _ | exact ih1 _ _ _ _ | exact ih2 _ _ _ _ _ _ _ | exact ih3 _ _ _ | exact corporaref09_Valid.mono _ _ | exact corporaref09_Way.mono _ _ _ | exact LeO.refl _ | exact LeO.none _ | refine LeO.ite ?_ ?_ | refine LeO.bind ?_ (fun _ => ?_)
set_option maxHeartbeats 8000000 in
set_option maxRecDepth 100000 in
theorem corporaref09_Path.calls (k : Nat) (A0 : Option Addr) (c0 : Nat) (l0 : List Int) (a1 : Int) (a2 : Int) (r1 : List Int) (r2 : Int) (w : World) (hr0 : Kd.C (Kd.int .i64) w A0 l0.length l0) (hc0 : l0.length ≤ c0) (h : corporaref09_Path.f k l0 a1 a2 = some (r1, r2)) :
 Calls Try.prog 17 #[.slice A0 l0.length c0, .int .i64 a1, .int .i64 a2] w fun e w' => ∃ v0_ : Value, e = .returned (.tuple #[v0_, .int .i64 r2]) ∧ Kd.R (Kd.int .i64) 3 w' w.heap.size (fun _ => True) v0_ r1 ∧ Below w.heap.size w w' := by
 have HR0 := Aside0.mk hr0
 have HC0 := Aside0.mk hc0
 clear hr0 hc0
 have HB := Aside0.mk (Below.refl w.heap.size w)
 have H : ((corporaref09_Valid.f k l0).bind fun t293 => (if t293 = true then (if a1 < 0 then (corporaref09_Path.j0 k l0 a1 a2 true) else (if a1 ≥ (l0.length : Int) then (corporaref09_Path.j0 k l0 a1 a2 true) else (if a2 < 0 then (corporaref09_Path.j0 k l0 a1 a2 true) else (corporaref09_Path.j0 k l0 a1 a2 (decide (a2 ≥ (l0.length : Int))))))) else (corporaref09_Path.j0 k l0 a1 a2 true))) = some (r1, r2) := h
 clear h
 have HC4 := Aside0.mk H
 clear H
 go_enter Try.func17, Try.ntmps17
 go_upto_region 1 with (fail)
 repeat (go_quiet (fail); go_upto_region 1 with (fail))
 go_cut [36] (fun v36 wc => ∃ (kq : Nat) (x36_3 : Bool), v36 = .bool x36_3 ∧ Aside0 (corporaref09_Path.j0 kq l0 a1 a2 x36_3 = some (r1, r2)) ∧ Aside0 (kq ≤ k) ∧ Aside0 (Below w.heap.size w wc))
 case first =>
  have H := HC4.out
  clear HC4
  replace H := Option.bind_eq_some_iff.mp H
  obtain ⟨t293, A50, H⟩ := H
  replace H : (if t293 = true then (if a1 < 0 then (corporaref09_Path.j0 k l0 a1 a2 true) else (if a1 ≥ (l0.length : Int) then (corporaref09_Path.j0 k l0 a1 a2 true) else (if a2 < 0 then (corporaref09_Path.j0 k l0 a1 a2 true) else (corporaref09_Path.j0 k l0 a1 a2 (decide (a2 ≥ (l0.length : Int))))))) else (corporaref09_Path.j0 k l0 a1 a2 true)) = some (r1, r2) := H
  have A5 := Aside0.mk A50
  clear A50
  by_cases c6 : t293 = true
  ·
   subst c6
   have H1 : (if a1 < 0 then (corporaref09_Path.j0 k l0 a1 a2 true) else (if a1 ≥ (l0.length : Int) then (corporaref09_Path.j0 k l0 a1 a2 true) else (if a2 < 0 then (corporaref09_Path.j0 k l0 a1 a2 true) else (corporaref09_Path.j0 k l0 a1 a2 (decide (a2 ≥ (l0.length : Int))))))) = some (r1, r2) := by rw [if_pos rfl] at H; exact H
   clear H
   have H := H1
   clear H1
   by_cases c7 : a1 < 0
   ·
    rw [if_pos c7] at H
    have c7b0 : decide (a1 < 0) = true := decide_eq_true c7
    clear c7
    (first | rw [c7b0] | (simp only [i64_w, i32_w]; rw [c7b0]) | skip)
    have H' := Aside0.mk H
    clear H
    go_wp2_with (first | (go_at_call 28; (with_reducible refine (corporaref09_Valid.calls k _ _ l0 true _ ?side1 ?side2 A5.out).mono ?_); (case side1 => exact BC HR0.out); (case side2 => exact HC0.out); rintro e w' ⟨rfl, ⟨nd, rfl⟩⟩; (try first | exact ⟨rfl, _, World.drewN_drewN _ _ _⟩ | exact ⟨rfl, _, Eq.trans (World.drewN_drewN _ _ _) (congrArg (World.drewN _) (Nat.add_assoc _ _ _))⟩)))
    repeat (go_quiet (first | (go_at_call 28; (with_reducible refine (corporaref09_Valid.calls k _ _ l0 true _ ?side1 ?side2 A5.out).mono ?_); (case side1 => exact BC HR0.out); (case side2 => exact HC0.out); rintro e w' ⟨rfl, ⟨nd, rfl⟩⟩; (try first | exact ⟨rfl, _, World.drewN_drewN _ _ _⟩ | exact ⟨rfl, _, Eq.trans (World.drewN_drewN _ _ _) (congrArg (World.drewN _) (Nat.add_assoc _ _ _))⟩))); try go_wp2_with (first | (go_at_call 28; (with_reducible refine (corporaref09_Valid.calls k _ _ l0 true _ ?side1 ?side2 A5.out).mono ?_); (case side1 => exact BC HR0.out); (case side2 => exact HC0.out); rintro e w' ⟨rfl, ⟨nd, rfl⟩⟩; (try first | exact ⟨rfl, _, World.drewN_drewN _ _ _⟩ | exact ⟨rfl, _, Eq.trans (World.drewN_drewN _ _ _) (congrArg (World.drewN _) (Nat.add_assoc _ _ _))⟩))))
    go_meet
    case rel => exact ⟨_, (true), (BE), H', ⟨by first | omega | exact Nat.le_refl _⟩, ⟨BB⟩⟩
   ·
    rw [if_neg c7] at H
    have c7b0 : decide (a1 < 0) = false := decide_eq_false c7
    clear c7
    (first | rw [c7b0] | (simp only [i64_w, i32_w]; rw [c7b0]) | skip)
    by_cases c8 : a1 ≥ (l0.length : Int)
    ·
     rw [if_pos c8] at H
     have c8b0 : decide ((l0.length : Int) ≤ a1) = true := decide_eq_true c8
     clear c8
     have H' := Aside0.mk H
     clear H
     go_wp2_with (first | (go_at_call 28; (with_reducible refine (corporaref09_Valid.calls k _ _ l0 true _ ?side1 ?side2 A5.out).mono ?_); (case side1 => exact BC HR0.out); (case side2 => exact HC0.out); rintro e w' ⟨rfl, ⟨nd, rfl⟩⟩; (try first | exact ⟨rfl, _, World.drewN_drewN _ _ _⟩ | exact ⟨rfl, _, Eq.trans (World.drewN_drewN _ _ _) (congrArg (World.drewN _) (Nat.add_assoc _ _ _))⟩)))
     repeat (go_quiet (first | (go_at_call 28; (with_reducible refine (corporaref09_Valid.calls k _ _ l0 true _ ?side1 ?side2 A5.out).mono ?_); (case side1 => exact BC HR0.out); (case side2 => exact HC0.out); rintro e w' ⟨rfl, ⟨nd, rfl⟩⟩; (try first | exact ⟨rfl, _, World.drewN_drewN _ _ _⟩ | exact ⟨rfl, _, Eq.trans (World.drewN_drewN _ _ _) (congrArg (World.drewN _) (Nat.add_assoc _ _ _))⟩))); try go_wp2_with (first | (go_at_call 28; (with_reducible refine (corporaref09_Valid.calls k _ _ l0 true _ ?side1 ?side2 A5.out).mono ?_); (case side1 => exact BC HR0.out); (case side2 => exact HC0.out); rintro e w' ⟨rfl, ⟨nd, rfl⟩⟩; (try first | exact ⟨rfl, _, World.drewN_drewN _ _ _⟩ | exact ⟨rfl, _, Eq.trans (World.drewN_drewN _ _ _) (congrArg (World.drewN _) (Nat.add_assoc _ _ _))⟩))))
     go_meet
     case rel => exact ⟨_, (true), (BE), H', ⟨by first | omega | exact Nat.le_refl _⟩, ⟨BB⟩⟩
    ·
     rw [if_neg c8] at H
     have c8b0 : decide ((l0.length : Int) ≤ a1) = false := decide_eq_false c8
     clear c8
     by_cases c9 : a2 < 0
     ·
      rw [if_pos c9] at H
      have c9b0 : decide (a2 < 0) = true := decide_eq_true c9
      clear c9
      have H' := Aside0.mk H
      clear H
      go_wp2_with (first | (go_at_call 28; (with_reducible refine (corporaref09_Valid.calls k _ _ l0 true _ ?side1 ?side2 A5.out).mono ?_); (case side1 => exact BC HR0.out); (case side2 => exact HC0.out); rintro e w' ⟨rfl, ⟨nd, rfl⟩⟩; (try first | exact ⟨rfl, _, World.drewN_drewN _ _ _⟩ | exact ⟨rfl, _, Eq.trans (World.drewN_drewN _ _ _) (congrArg (World.drewN _) (Nat.add_assoc _ _ _))⟩)))
      repeat (go_quiet (first | (go_at_call 28; (with_reducible refine (corporaref09_Valid.calls k _ _ l0 true _ ?side1 ?side2 A5.out).mono ?_); (case side1 => exact BC HR0.out); (case side2 => exact HC0.out); rintro e w' ⟨rfl, ⟨nd, rfl⟩⟩; (try first | exact ⟨rfl, _, World.drewN_drewN _ _ _⟩ | exact ⟨rfl, _, Eq.trans (World.drewN_drewN _ _ _) (congrArg (World.drewN _) (Nat.add_assoc _ _ _))⟩))); try go_wp2_with (first | (go_at_call 28; (with_reducible refine (corporaref09_Valid.calls k _ _ l0 true _ ?side1 ?side2 A5.out).mono ?_); (case side1 => exact BC HR0.out); (case side2 => exact HC0.out); rintro e w' ⟨rfl, ⟨nd, rfl⟩⟩; (try first | exact ⟨rfl, _, World.drewN_drewN _ _ _⟩ | exact ⟨rfl, _, Eq.trans (World.drewN_drewN _ _ _) (congrArg (World.drewN _) (Nat.add_assoc _ _ _))⟩))))
      go_meet
      case rel => exact ⟨_, (true), (BE), H', ⟨by first | omega | exact Nat.le_refl _⟩, ⟨BB⟩⟩
     ·
      rw [if_neg c9] at H
      have c9b0 : decide (a2 < 0) = false := decide_eq_false c9
      clear c9
      have H' := Aside0.mk H
      clear H
      go_wp2_with (first | (go_at_call 28; (with_reducible refine (corporaref09_Valid.calls k _ _ l0 true _ ?side1 ?side2 A5.out).mono ?_); (case side1 => exact BC HR0.out); (case side2 => exact HC0.out); rintro e w' ⟨rfl, ⟨nd, rfl⟩⟩; (try first | exact ⟨rfl, _, World.drewN_drewN _ _ _⟩ | exact ⟨rfl, _, Eq.trans (World.drewN_drewN _ _ _) (congrArg (World.drewN _) (Nat.add_assoc _ _ _))⟩)))
      repeat (go_quiet (first | (go_at_call 28; (with_reducible refine (corporaref09_Valid.calls k _ _ l0 true _ ?side1 ?side2 A5.out).mono ?_); (case side1 => exact BC HR0.out); (case side2 => exact HC0.out); rintro e w' ⟨rfl, ⟨nd, rfl⟩⟩; (try first | exact ⟨rfl, _, World.drewN_drewN _ _ _⟩ | exact ⟨rfl, _, Eq.trans (World.drewN_drewN _ _ _) (congrArg (World.drewN _) (Nat.add_assoc _ _ _))⟩))); try go_wp2_with (first | (go_at_call 28; (with_reducible refine (corporaref09_Valid.calls k _ _ l0 true _ ?side1 ?side2 A5.out).mono ?_); (case side1 => exact BC HR0.out); (case side2 => exact HC0.out); rintro e w' ⟨rfl, ⟨nd, rfl⟩⟩; (try first | exact ⟨rfl, _, World.drewN_drewN _ _ _⟩ | exact ⟨rfl, _, Eq.trans (World.drewN_drewN _ _ _) (congrArg (World.drewN _) (Nat.add_assoc _ _ _))⟩))))
      go_meet
      case rel => exact ⟨_, (decide (a2 ≥ (l0.length : Int))), (BE), H', ⟨by first | omega | exact Nat.le_refl _⟩, ⟨BB⟩⟩
  ·
   replace c6 := Bool.eq_false_iff.mpr c6
   subst c6
   have H1 : (corporaref09_Path.j0 k l0 a1 a2 true) = some (r1, r2) := by rw [if_neg (show ¬ (false = true) by decide)] at H; exact H
   clear H
   have H := H1
   clear H1
   have H' := Aside0.mk H
   clear H
   go_wp2_with (first | (go_at_call 28; (with_reducible refine (corporaref09_Valid.calls k _ _ l0 false _ ?side1 ?side2 A5.out).mono ?_); (case side1 => exact BC HR0.out); (case side2 => exact HC0.out); rintro e w' ⟨rfl, ⟨nd, rfl⟩⟩; (try first | exact ⟨rfl, _, World.drewN_drewN _ _ _⟩ | exact ⟨rfl, _, Eq.trans (World.drewN_drewN _ _ _) (congrArg (World.drewN _) (Nat.add_assoc _ _ _))⟩)))
   repeat (go_quiet (first | (go_at_call 28; (with_reducible refine (corporaref09_Valid.calls k _ _ l0 false _ ?side1 ?side2 A5.out).mono ?_); (case side1 => exact BC HR0.out); (case side2 => exact HC0.out); rintro e w' ⟨rfl, ⟨nd, rfl⟩⟩; (try first | exact ⟨rfl, _, World.drewN_drewN _ _ _⟩ | exact ⟨rfl, _, Eq.trans (World.drewN_drewN _ _ _) (congrArg (World.drewN _) (Nat.add_assoc _ _ _))⟩))); try go_wp2_with (first | (go_at_call 28; (with_reducible refine (corporaref09_Valid.calls k _ _ l0 false _ ?side1 ?side2 A5.out).mono ?_); (case side1 => exact BC HR0.out); (case side2 => exact HC0.out); rintro e w' ⟨rfl, ⟨nd, rfl⟩⟩; (try first | exact ⟨rfl, _, World.drewN_drewN _ _ _⟩ | exact ⟨rfl, _, Eq.trans (World.drewN_drewN _ _ _) (congrArg (World.drewN _) (Nat.add_assoc _ _ _))⟩))))
   go_meet
   case rel => exact ⟨_, (true), (BE), H', ⟨by first | omega | exact Nat.le_refl _⟩, ⟨BB⟩⟩
 case rest =>
  clear HC4
  (try clear c1); (try clear p2); (try clear c6); (try clear c7); (try clear c7b0); (try clear c8); (try clear c8b0); (try clear c9); (try clear c9b0)
  obtain ⟨kq, x36_3, rfl, HA, HJ3, HB⟩ := hcut
  cases kq with
  | zero => exact absurd HA.out (by simp [corporaref09_Path.j0])
  | succ kj3 =>
   have H := HA.out
   clear HA
   simp only [corporaref09_Path.j0] at H
   by_cases c10 : x36_3 = true
   ·
    subst c10
    have H1 : (some (([] : List Int), 1)) = some (r1, r2) := by rw [if_pos rfl] at H; exact H
    clear H
    have H := H1
    clear H1
    simp only [Option.some.injEq, Prod.mk.injEq] at H
    obtain ⟨rfl, rfl⟩ := H
    go_wp2
    repeat (go_quiet (fail); try go_wp2)
    go_ret2
    exact ⟨_, BX, by first | exact Kd.R_nil _ _ _ _ _ | exact Kd.N_nil _ _ _ _ _ | exact Kd.V_nil _ _ _ _ _ | exact Kd.Q_nil _ _ _ _ _ | exact Kd.S_nil _ _ _ _ _, BB⟩
   ·
    replace c10 := Bool.eq_false_iff.mpr c10
    subst c10
    have H1 : ((corporaref09_Way.f kj3 l0 a1).bind fun t294 => ((corporaref09_Way.f kj3 l0 a2).bind fun t297 => (corporaref09_Path.l0 kj3 t294 t297 (t294.length : Int) 0))) = some (r1, r2) := by rw [if_neg (show ¬ (false = true) by decide)] at H; exact H
    clear H
    have H := H1
    clear H1
    replace H := Option.bind_eq_some_iff.mp H
    obtain ⟨t294, A110, H⟩ := H
    replace H : ((corporaref09_Way.f kj3 l0 a2).bind fun t297 => (corporaref09_Path.l0 kj3 t294 t297 (t294.length : Int) 0)) = some (r1, r2) := H
    have A11 := Aside0.mk A110
    clear A110
    replace H := Option.bind_eq_some_iff.mp H
    obtain ⟨t297, A120, H⟩ := H
    replace H : (corporaref09_Path.l0 kj3 t294 t297 (t294.length : Int) 0) = some (r1, r2) := H
    have A12 := Aside0.mk A120
    clear A120
    have H' := Aside0.mk H
    clear H
    go_wp2_with (first | (go_at_call 29; (with_reducible refine (corporaref09_Way.calls kj3 _ _ l0 a1 t294 _ ?side1 ?side2 A11.out).mono ?_); (case side1 => exact BC HR0.out); (case side2 => exact HC0.out); rintro e w13 ⟨v295, rfl, ho0, hb⟩; have n0_ := Aside0.mk (Kd.R_lower ho0 (below_size (BB))); have n1_ := Aside0.mk (below_step (BB) hb); clear HB; have HO296 := n0_; have HB := n1_; clear n0_ n1_; (try clear hb); (try clear hb2); (try clear hk); (try clear hi); (try clear ho0)) | (go_at_call 29; (with_reducible refine (corporaref09_Way.calls kj3 _ _ l0 a2 t297 _ ?side1 ?side2 A12.out).mono ?_); (case side1 => exact BC HR0.out); (case side2 => exact HC0.out); rintro e w14 ⟨v298, rfl, ho0, hb⟩; have n0_ := Aside0.mk (Kd.R_elder' (BR HO296.out) (Kd.R_base ho0) hb); have n1_ := Aside0.mk (Kd.R_lower (Kd.R_new' ho0 (Kd.R_lt (BR HO296.out))) (below_size (BB))); have n2_ := Aside0.mk (below_step (BB) hb); clear HO296; clear HB; have HO296 := n0_; have HO299 := n1_; have HB := n2_; clear n0_ n1_ n2_; (try clear hb); (try clear hb2); (try clear hk); (try clear hi); (try clear ho0); obtain ⟨Ao15, co15, eo15⟩ := Kd.R_slice HO296.out; subst eo15))
    repeat (go_quiet (first | (go_at_call 29; (with_reducible refine (corporaref09_Way.calls kj3 _ _ l0 a1 t294 _ ?side1 ?side2 A11.out).mono ?_); (case side1 => exact BC HR0.out); (case side2 => exact HC0.out); rintro e w13 ⟨v295, rfl, ho0, hb⟩; have n0_ := Aside0.mk (Kd.R_lower ho0 (below_size (BB))); have n1_ := Aside0.mk (below_step (BB) hb); clear HB; have HO296 := n0_; have HB := n1_; clear n0_ n1_; (try clear hb); (try clear hb2); (try clear hk); (try clear hi); (try clear ho0)) | (go_at_call 29; (with_reducible refine (corporaref09_Way.calls kj3 _ _ l0 a2 t297 _ ?side1 ?side2 A12.out).mono ?_); (case side1 => exact BC HR0.out); (case side2 => exact HC0.out); rintro e w14 ⟨v298, rfl, ho0, hb⟩; have n0_ := Aside0.mk (Kd.R_elder' (BR HO296.out) (Kd.R_base ho0) hb); have n1_ := Aside0.mk (Kd.R_lower (Kd.R_new' ho0 (Kd.R_lt (BR HO296.out))) (below_size (BB))); have n2_ := Aside0.mk (below_step (BB) hb); clear HO296; clear HB; have HO296 := n0_; have HO299 := n1_; have HB := n2_; clear n0_ n1_ n2_; (try clear hb); (try clear hb2); (try clear hk); (try clear hi); (try clear ho0); obtain ⟨Ao15, co15, eo15⟩ := Kd.R_slice HO296.out; subst eo15)); try go_wp2_with (first | (go_at_call 29; (with_reducible refine (corporaref09_Way.calls kj3 _ _ l0 a1 t294 _ ?side1 ?side2 A11.out).mono ?_); (case side1 => exact BC HR0.out); (case side2 => exact HC0.out); rintro e w13 ⟨v295, rfl, ho0, hb⟩; have n0_ := Aside0.mk (Kd.R_lower ho0 (below_size (BB))); have n1_ := Aside0.mk (below_step (BB) hb); clear HB; have HO296 := n0_; have HB := n1_; clear n0_ n1_; (try clear hb); (try clear hb2); (try clear hk); (try clear hi); (try clear ho0)) | (go_at_call 29; (with_reducible refine (corporaref09_Way.calls kj3 _ _ l0 a2 t297 _ ?side1 ?side2 A12.out).mono ?_); (case side1 => exact BC HR0.out); (case side2 => exact HC0.out); rintro e w14 ⟨v298, rfl, ho0, hb⟩; have n0_ := Aside0.mk (Kd.R_elder' (BR HO296.out) (Kd.R_base ho0) hb); have n1_ := Aside0.mk (Kd.R_lower (Kd.R_new' ho0 (Kd.R_lt (BR HO296.out))) (below_size (BB))); have n2_ := Aside0.mk (below_step (BB) hb); clear HO296; clear HB; have HO296 := n0_; have HO299 := n1_; have HB := n2_; clear n0_ n1_ n2_; (try clear hb); (try clear hb2); (try clear hk); (try clear hi); (try clear ho0); obtain ⟨Ao15, co15, eo15⟩ := Kd.R_slice HO296.out; subst eo15)))
    go_loopg [45] kj3 (fun kq v45 w' => ∃ (x45_2 : Int), v45 = .int .i64 x45_2 ∧ Aside0 (corporaref09_Path.l0 kq t294 t297 (t294.length : Int) x45_2 = some (r1, r2)) ∧ Aside0 (kq ≤ kj3) ∧ Aside0 (Kd.R (Kd.int .i64) 3 w' w.heap.size (fun k_ => some k_ ≠ (v298 : Value).ownBlock) (.slice Ao15 t294.length co15) t294) ∧ Aside0 (Kd.R (Kd.int .i64) 3 w' w.heap.size (fun k_ => some k_ ≠ ((.slice Ao15 t294.length co15) : Value).ownBlock) v298 t297) ∧ Aside0 (Below w.heap.size w w'))
    case atStart => exact ⟨(0), (BE), H', ⟨Nat.le_refl _⟩, ⟨by (with_reducible repeat (first | apply Kd.R_alloc | apply Kd.R_drewN | apply Kd.R_drew)); exact Kd.R_mono HO296.out (fun _ hk => hk.2)⟩, ⟨by (with_reducible repeat (first | apply Kd.R_alloc | apply Kd.R_drewN | apply Kd.R_drew)); exact Kd.R_mono HO299.out (fun _ hk => hk.2)⟩, ⟨BB⟩⟩
    case round =>
     clear H'
     (try clear c1); (try clear p2); (try clear c6); (try clear c7); (try clear c7b0); (try clear c8); (try clear c8b0); (try clear c9); (try clear c9b0); (try clear c10); (try clear p2)
     obtain ⟨x45_2, rfl, HA, HK2, HO_8, HO_9, HB⟩ := hrel
     cases gk with
     | zero => exact absurd HA.out (by simp [corporaref09_Path.l0])
     | succ k2 =>
      have H := HA.out
      clear HA
      simp only [corporaref09_Path.l0] at H
      by_cases c16 : x45_2 < (t294.length : Int)
      ·
       rw [if_pos c16] at H
       have c16b0 : decide (x45_2 < (t294.length : Int)) = true := decide_eq_true c16
       clear c16
       have H' := Aside0.mk H
       clear H
       obtain ⟨Ao17, co17, eo17⟩ := Kd.R_slice HO_9.out
       subst eo17
       go_wp2
       repeat (go_quiet (fail); try go_wp2)
       go_loopg [50] k2 (fun kq v50 w' => ∃ (x50_3 : Int), v50 = .int .i64 x50_3 ∧ Aside0 (corporaref09_Path.l1 kq t294 t297 x45_2 (t294.length : Int) x45_2 (t297.length : Int) x50_3 = some (r1, r2)) ∧ Aside0 (kq ≤ k2) ∧ Aside0 (Kd.R (Kd.int .i64) 3 w' w.heap.size (fun k_ => some k_ ≠ ((.slice Ao17 t297.length co17) : Value).ownBlock) (.slice Ao15 t294.length co15) t294) ∧ Aside0 (Kd.R (Kd.int .i64) 3 w' w.heap.size (fun k_ => some k_ ≠ ((.slice Ao15 t294.length co15) : Value).ownBlock) (.slice Ao17 t297.length co17) t297) ∧ Aside0 (Below w.heap.size w w'))
       case atStart => exact ⟨(0), (BE), H', ⟨Nat.le_refl _⟩, ⟨BR HO_8.out⟩, ⟨BR HO_9.out⟩, ⟨BB⟩⟩
       case round =>
        clear H'
        (try clear c1); (try clear p2); (try clear c6); (try clear c7); (try clear c7b0); (try clear c8); (try clear c8b0); (try clear c9); (try clear c9b0); (try clear c10); (try clear c16); (try clear c16b0); (try clear c17)
        (try clear p2)
        obtain ⟨x50_3, rfl, HA, HK3, HO_8, HO_9, HB⟩ := hrel
        cases gk with
        | zero => exact absurd HA.out (by simp [corporaref09_Path.l1])
        | succ k3 =>
         have H := HA.out
         clear HA
         simp only [corporaref09_Path.l1] at H
         by_cases c18 : x50_3 < (t297.length : Int)
         ·
          rw [if_pos c18] at H
          have c18b0 : decide (x50_3 < (t297.length : Int)) = true := decide_eq_true c18
          clear c18
          by_cases c19 : 0 ≤ x45_2
          ·
           rw [if_pos c19] at H
           have c19b0 : decide (0 ≤ x45_2) = true := decide_eq_true c19
           clear c19
           by_cases c20 : x45_2 < (t294.length : Int)
           ·
            rw [if_pos c20] at H
            have c20b0 : decide (x45_2 < (t294.length : Int)) = true := decide_eq_true c20
            clear c20
            by_cases c21 : 0 ≤ x50_3
            ·
             rw [if_pos c21] at H
             have c21b0 : decide (0 ≤ x50_3) = true := decide_eq_true c21
             clear c21
             by_cases c22 : x50_3 < (t297.length : Int)
             ·
              rw [if_pos c22] at H
              have c22b0 : decide (x50_3 < (t297.length : Int)) = true := decide_eq_true c22
              clear c22
              by_cases c23 : (rd t294 x45_2) = (rd t297 x50_3)
              ·
               rw [if_pos c23] at H
               have c23b0 : ((rd t294 x45_2) == (rd t297 x50_3)) = true := beq_iff_eq.mpr c23
               have c23b1 : ((rd t294 x45_2) != (rd t297 x50_3)) = false := bne_eq_false_iff_eq.mpr c23
               clear c23
               obtain ⟨ji24, hji24⟩ : ∃ j_ : Int, (wrap64 (x45_2 + 1)) = j_ := ⟨_, rfl⟩
               replace H : (if 0 ≤ (ji24) then (if (ji24) ≤ (t294.length : Int) then ((some (t294.take ((ji24) : Int).toNat : List Int)).bind fun y302 => (if ([] : List Int).length + y302.length < 17592186044416 then (corporaref09_Path.l2 k3 t297 (([] : List Int) ++ y302) (wrap64 (x50_3 - 1))) else (none))) else (none)) else (none)) = some (r1, r2) := by first | (rw [hji24] at H; exact H) | (simp only [hji24] at H ⊢; exact H)
               have hji24w : (IntKind.i64.wrap (x45_2 + 1)) = ji24 := (i64_w _).trans hji24
               by_cases c25 : 0 ≤ (ji24)
               ·
                rw [if_pos c25] at H
                have c25b0 := eq_true c25
                have c25b1 : decide (0 ≤ (ji24)) = true := decide_eq_true c25
                clear c25
                by_cases c26 : (ji24) ≤ (t294.length : Int)
                ·
                 rw [if_pos c26] at H
                 have c26b0 := eq_true c26
                 have c26b1 : decide ((ji24) ≤ (t294.length : Int)) = true := decide_eq_true c26
                 clear c26
                 obtain ⟨y302, hy302⟩ : ∃ y_ : List Int, y_ = (t294.take ((ji24) : Int).toNat) := ⟨_, rfl⟩
                 replace H : (if ([] : List Int).length + y302.length < 17592186044416 then (corporaref09_Path.l2 k3 t297 (([] : List Int) ++ y302) (wrap64 (x50_3 - 1))) else (none)) = some (r1, r2) := by first | (rw [hy302]; with_reducible exact H) | (have H2_ := (Option.bind_some _ _).symm.trans H; rw [hy302]; with_reducible exact H2_) | (have H2_ := (Option.bind_some _ _).symm.trans H; with_reducible exact H2_) | with_reducible exact H | (rw [hy302]; exact H) | exact H
                 have Ny302 := Aside0.mk hy302
                 clear hy302
                 by_cases c27 : ([] : List Int).length + y302.length < 17592186044416
                 ·
                  rw [if_pos c27] at H
                  have LMc27 := Aside0.mk c27
                  clear c27
                  obtain ⟨y306, hy306⟩ : ∃ y_ : List Int, y_ = (([] : List Int) ++ y302) := ⟨_, rfl⟩
                  replace H : (corporaref09_Path.l2 k3 t297 y306 (wrap64 (x50_3 - 1))) = some (r1, r2) := by first | (rw [hy306]; with_reducible exact H) | (have H2_ := (Option.bind_some _ _).symm.trans H; rw [hy306]; with_reducible exact H2_) | (have H2_ := (Option.bind_some _ _).symm.trans H; with_reducible exact H2_) | with_reducible exact H | (rw [hy306]; exact H) | exact H
                  have Ny306 := Aside0.mk hy306
                  clear hy306
                  have H' := Aside0.mk H
                  clear H
                  have p300 : 0 ≤ (x45_2 : Int) := OD
                  have q300 : x45_2 < (t294.length : Int) := OD
                  obtain ⟨ad300, e300, hx300_0⟩ := Kd.at_int (Kd.R_reads' HO_8.out).2.2 x45_2 p300 q300
                  cases e300
                  replace p300 := eq_true p300
                  replace q300 := eq_true q300
                  have p301 : 0 ≤ (x50_3 : Int) := OD
                  have q301 : x50_3 < (t297.length : Int) := OD
                  obtain ⟨ad301, e301, hx301_0⟩ := Kd.at_int (Kd.R_reads' HO_9.out).2.2 x50_3 p301 q301
                  cases e301
                  replace p301 := eq_true p301
                  replace q301 := eq_true q301
                  have q28 : ((ji24) : Int) ≤ ((t294.length : Int) : Int) := OD
                  obtain ⟨i028, hi028, _, hsz28, _⟩ := info_parts info3
                  have hroom28 : t294.length ≤ co15 := (Kd.R_reads' HO_8.out).2.1
                  have hC28 : Kd.C (Kd.int .i64) _ (some ad300) t294.length t294 := (Kd.R_reads' HO_8.out).2.2
                  have hcut28 := cut_to (P := Try.prog) 22 3 .i64 Try.underlying22 hi028 (some ad300) t294.length co15 (ji24) (OD) q28 hroom28
                  have hr28 := Kd.C_take (m := ((ji24) : Int).toNat) hC28 (by omega)
                  have hy28 : y302.length = ((ji24) : Int).toNat := (by rw [Ny302.out, List.length_take]; omega)
                  rw [← Ny302.out] at hr28
                  rw [← hy28] at hcut28
                  have HR305 := Aside0.mk hr28
                  have HC305 := Aside0.mk (show y302.length ≤ co15 from by omega)
                  clear hr28 hC28 hroom28 hi028 hsz28
                  have KY28 := Aside0.mk hy28
                  clear hy28
                  have KL28 := Aside0.mk (show ((ji24) : Int).toNat ≤ t294.length from by omega)
                  replace q28 := eq_true q28
                  go_wp2_with (first | ((with_reducible refine gate_builtin (b := .append) (xs := #[.const (.slice none 0 0), .tmp 65]) rfl ?_); (try (refine gate_guard (by rfl) ?_; dsimp only)); at_builtin; refine Kd.R_append_rows (Kd.int .i64) (w0 := w) w.heap.size rfl (.const (.slice none 0 0)) (.tmp 65) 22 3 (.int .i64 0) 8 rfl Try.underlying22 info3 rfl (by decide) (by omega) (.slice none 0 0) ([] : List Int) y302 _ _ _ (fun k_ => some k_ ≠ (.slice (some ad300) t294.length co15 : Value).ownBlock ∧ some k_ ≠ (.slice (some ad301) t297.length co17 : Value).ownBlock) (fun _ => False) rfl rfl ?aO ?aR (fun _ _ h => h) (fun _ h => h.elim) ?aF ?aB ?aS ?aL ?_; (case aR => repeat (first | exact (by repeat (first | (with_reducible exact HR305.out) | (with_reducible refine Kd.C_alloc ?_ _) | (with_reducible refine Kd.C_drewN ?_ _) | (with_reducible refine Kd.C_drew ?_) | exact HR305.out)) | (with_reducible refine Kd.C_alloc ?_ _) | (with_reducible refine Kd.C_drewN ?_ _) | (with_reducible refine Kd.C_drew ?_))); (case aB => exact (BB)); (case aF => exact (fun k_ hk => ⟨Kd.fresh' (Kd.R_lt (BR HO_8.out)) k_ hk, Kd.fresh' (Kd.R_lt (BR HO_9.out)) k_ hk⟩)); (case aO => exact ((Kd.R_nil _ _ _ _ (fun k_ => some k_ ≠ (.slice (some ad300) t294.length co15 : Value).ownBlock ∧ some k_ ≠ (.slice (some ad301) t297.length co17 : Value).ownBlock)))); (case aS => exact (below_size (BB))); (case aL => have := LMc27.out; omega); intro v307 w29 ho hb hg hat; rw [← Ny306.out] at ho; have n0_ := Aside0.mk (Kd.R_after (Kd.R_apart_nil (BR HO_8.out)) hg hat); have n1_ := Aside0.mk (Kd.R_after (Kd.R_apart_nil (BR HO_9.out)) hg hat); have n2_ := Aside0.mk (hb); have n3_ := Aside0.mk ((show Kd.C (Kd.int .i64) w29 (some ad300) y302.length y302 from by rw [Ny302.out]; exact Kd.C_take (m := ((ji24) : Int).toNat) ((Kd.R_reads' (Kd.R_after (Kd.R_apart_nil (BR HO_8.out)) hg hat)).2.2) KL28.out)); have n4_ := Aside0.mk (ho); clear HO_8; clear HO_9; clear HB; clear HR305; have HO_8 := n0_; have HO_9 := n1_; have HB := n2_; have HR305 := n3_; have HO308 := n4_; clear n0_ n1_ n2_ n3_ n4_; clear ho hb hg hat))
                  repeat (go_quiet (first | ((with_reducible refine gate_builtin (b := .append) (xs := #[.const (.slice none 0 0), .tmp 65]) rfl ?_); (try (refine gate_guard (by rfl) ?_; dsimp only)); at_builtin; refine Kd.R_append_rows (Kd.int .i64) (w0 := w) w.heap.size rfl (.const (.slice none 0 0)) (.tmp 65) 22 3 (.int .i64 0) 8 rfl Try.underlying22 info3 rfl (by decide) (by omega) (.slice none 0 0) ([] : List Int) y302 _ _ _ (fun k_ => some k_ ≠ (.slice (some ad300) t294.length co15 : Value).ownBlock ∧ some k_ ≠ (.slice (some ad301) t297.length co17 : Value).ownBlock) (fun _ => False) rfl rfl ?aO ?aR (fun _ _ h => h) (fun _ h => h.elim) ?aF ?aB ?aS ?aL ?_; (case aR => repeat (first | exact (by repeat (first | (with_reducible exact HR305.out) | (with_reducible refine Kd.C_alloc ?_ _) | (with_reducible refine Kd.C_drewN ?_ _) | (with_reducible refine Kd.C_drew ?_) | exact HR305.out)) | (with_reducible refine Kd.C_alloc ?_ _) | (with_reducible refine Kd.C_drewN ?_ _) | (with_reducible refine Kd.C_drew ?_))); (case aB => exact (BB)); (case aF => exact (fun k_ hk => ⟨Kd.fresh' (Kd.R_lt (BR HO_8.out)) k_ hk, Kd.fresh' (Kd.R_lt (BR HO_9.out)) k_ hk⟩)); (case aO => exact ((Kd.R_nil _ _ _ _ (fun k_ => some k_ ≠ (.slice (some ad300) t294.length co15 : Value).ownBlock ∧ some k_ ≠ (.slice (some ad301) t297.length co17 : Value).ownBlock)))); (case aS => exact (below_size (BB))); (case aL => have := LMc27.out; omega); intro v307 w29 ho hb hg hat; rw [← Ny306.out] at ho; have n0_ := Aside0.mk (Kd.R_after (Kd.R_apart_nil (BR HO_8.out)) hg hat); have n1_ := Aside0.mk (Kd.R_after (Kd.R_apart_nil (BR HO_9.out)) hg hat); have n2_ := Aside0.mk (hb); have n3_ := Aside0.mk ((show Kd.C (Kd.int .i64) w29 (some ad300) y302.length y302 from by rw [Ny302.out]; exact Kd.C_take (m := ((ji24) : Int).toNat) ((Kd.R_reads' (Kd.R_after (Kd.R_apart_nil (BR HO_8.out)) hg hat)).2.2) KL28.out)); have n4_ := Aside0.mk (ho); clear HO_8; clear HO_9; clear HB; clear HR305; have HO_8 := n0_; have HO_9 := n1_; have HB := n2_; have HR305 := n3_; have HO308 := n4_; clear n0_ n1_ n2_ n3_ n4_; clear ho hb hg hat)); try go_wp2_with (first | ((with_reducible refine gate_builtin (b := .append) (xs := #[.const (.slice none 0 0), .tmp 65]) rfl ?_); (try (refine gate_guard (by rfl) ?_; dsimp only)); at_builtin; refine Kd.R_append_rows (Kd.int .i64) (w0 := w) w.heap.size rfl (.const (.slice none 0 0)) (.tmp 65) 22 3 (.int .i64 0) 8 rfl Try.underlying22 info3 rfl (by decide) (by omega) (.slice none 0 0) ([] : List Int) y302 _ _ _ (fun k_ => some k_ ≠ (.slice (some ad300) t294.length co15 : Value).ownBlock ∧ some k_ ≠ (.slice (some ad301) t297.length co17 : Value).ownBlock) (fun _ => False) rfl rfl ?aO ?aR (fun _ _ h => h) (fun _ h => h.elim) ?aF ?aB ?aS ?aL ?_; (case aR => repeat (first | exact (by repeat (first | (with_reducible exact HR305.out) | (with_reducible refine Kd.C_alloc ?_ _) | (with_reducible refine Kd.C_drewN ?_ _) | (with_reducible refine Kd.C_drew ?_) | exact HR305.out)) | (with_reducible refine Kd.C_alloc ?_ _) | (with_reducible refine Kd.C_drewN ?_ _) | (with_reducible refine Kd.C_drew ?_))); (case aB => exact (BB)); (case aF => exact (fun k_ hk => ⟨Kd.fresh' (Kd.R_lt (BR HO_8.out)) k_ hk, Kd.fresh' (Kd.R_lt (BR HO_9.out)) k_ hk⟩)); (case aO => exact ((Kd.R_nil _ _ _ _ (fun k_ => some k_ ≠ (.slice (some ad300) t294.length co15 : Value).ownBlock ∧ some k_ ≠ (.slice (some ad301) t297.length co17 : Value).ownBlock)))); (case aS => exact (below_size (BB))); (case aL => have := LMc27.out; omega); intro v307 w29 ho hb hg hat; rw [← Ny306.out] at ho; have n0_ := Aside0.mk (Kd.R_after (Kd.R_apart_nil (BR HO_8.out)) hg hat); have n1_ := Aside0.mk (Kd.R_after (Kd.R_apart_nil (BR HO_9.out)) hg hat); have n2_ := Aside0.mk (hb); have n3_ := Aside0.mk ((show Kd.C (Kd.int .i64) w29 (some ad300) y302.length y302 from by rw [Ny302.out]; exact Kd.C_take (m := ((ji24) : Int).toNat) ((Kd.R_reads' (Kd.R_after (Kd.R_apart_nil (BR HO_8.out)) hg hat)).2.2) KL28.out)); have n4_ := Aside0.mk (ho); clear HO_8; clear HO_9; clear HB; clear HR305; have HO_8 := n0_; have HO_9 := n1_; have HB := n2_; have HR305 := n3_; have HO308 := n4_; clear n0_ n1_ n2_ n3_ n4_; clear ho hb hg hat)))
                  go_loopg [12, 13] k3 (fun kq v12 v13 w' => ∃ (x12_4 : List Int) (x13_4 : Int), v13 = .int .i64 x13_4 ∧ Aside0 (corporaref09_Path.l2 kq t297 x12_4 x13_4 = some (r1, r2)) ∧ Aside0 (kq ≤ k3) ∧ Aside0 (Kd.R (Kd.int .i64) 3 w' w.heap.size (fun k_ => some k_ ≠ (v12 : Value).ownBlock) (.slice (some ad301) t297.length co17) t297) ∧ Aside0 (Kd.R (Kd.int .i64) 3 w' w.heap.size (fun k_ => some k_ ≠ ((.slice (some ad301) t297.length co17) : Value).ownBlock) v12 x12_4) ∧ Aside0 (Below w.heap.size w w'))
                  case atStart => exact ⟨(y306), (wrap64 (x50_3 - 1)), (BE), H', ⟨Nat.le_refl _⟩, ⟨by (with_reducible repeat (first | apply Kd.R_alloc | apply Kd.R_drewN | apply Kd.R_drew)); exact Kd.R_mono HO_9.out (fun _ hk => hk.2)⟩, ⟨by (with_reducible repeat (first | apply Kd.R_alloc | apply Kd.R_drewN | apply Kd.R_drew)); exact Kd.R_mono HO308.out (fun _ hk => hk.2)⟩, ⟨BB⟩⟩
                  case round =>
                   clear H'
                   (try clear c1); (try clear c2); (try clear p2); (try clear q2); (try clear p3); (try clear q3); (try clear hx3); (try clear c6); (try clear p6); (try clear c7); (try clear c7b0); (try clear c8)
                   (try clear c8b0); (try clear c9); (try clear c9b0); (try clear c10); (try clear c16); (try clear c16b0); (try clear c17); (try clear c18); (try clear c18b0); (try clear c19); (try clear c19b0)
                   (try clear c20); (try clear c20b0); (try clear c21); (try clear c21b0); (try clear c22); (try clear c22b0); (try clear c23); (try clear c23b0); (try clear c23b1); (try clear c25); (try clear c25b0)
                   (try clear c25b1); (try clear c26); (try clear c26b0); (try clear c26b1); (try clear c27); (try clear q28); (try clear hx300_0); (try clear hx301_0); (try clear p2); (try clear p300)
                   (try clear p301); (try clear q28); (try clear q300); (try clear q301)
                   obtain ⟨x12_4, x13_4, rfl, HA, HK4, HO_9, HO_12, HB⟩ := hrel
                   cases gk with
                   | zero => exact absurd HA.out (by simp [corporaref09_Path.l2])
                   | succ k4 =>
                    have H := HA.out
                    clear HA
                    simp only [corporaref09_Path.l2] at H
                    by_cases c30 : x13_4 ≥ 0
                    ·
                     rw [if_pos c30] at H
                     have c30b0 : decide (0 ≤ x13_4) = true := decide_eq_true c30
                     clear c30
                     by_cases c31 : 0 ≤ x13_4
                     ·
                      rw [if_pos c31] at H
                      have c31b0 : decide (0 ≤ x13_4) = true := decide_eq_true c31
                      clear c31
                      by_cases c32 : x13_4 < (t297.length : Int)
                      ·
                       rw [if_pos c32] at H
                       have c32b0 : decide (x13_4 < (t297.length : Int)) = true := decide_eq_true c32
                       clear c32
                       by_cases c33 : x12_4.length < 17592186044416
                       ·
                        rw [if_pos c33] at H
                        have LMc33 := Aside0.mk c33
                        clear c33
                        obtain ⟨y310, hy310⟩ : ∃ y_ : List Int, y_ = (x12_4 ++ [rd t297 x13_4]) := ⟨_, rfl⟩
                        replace H : (corporaref09_Path.l2 k4 t297 y310 (wrap64 (x13_4 - 1))) = some (r1, r2) := by first | (rw [hy310]; with_reducible exact H) | (have H2_ := (Option.bind_some _ _).symm.trans H; rw [hy310]; with_reducible exact H2_) | (have H2_ := (Option.bind_some _ _).symm.trans H; with_reducible exact H2_) | with_reducible exact H | (rw [hy310]; exact H) | exact H
                        have Ny310 := Aside0.mk hy310
                        clear hy310
                        have H' := Aside0.mk H
                        clear H
                        have p309 : 0 ≤ (x13_4 : Int) := OD
                        have q309 : x13_4 < (t297.length : Int) := OD
                        obtain ⟨ad309, e309, hx309_0⟩ := Kd.at_int (Kd.R_reads' HO_9.out).2.2 x13_4 p309 q309
                        obtain rfl : ad301 = ad309 := (by injection e309)
                        replace p309 := eq_true p309
                        replace q309 := eq_true q309
                        go_wp2_with (first | ((with_reducible refine gate_builtin (b := .append) (xs := #[.tmp 73, .tmp 78]) rfl ?_); (try (refine gate_guard (by rfl) ?_; dsimp only)); at_builtin; refine Kd.R_append (Kd.int .i64) (w0 := w) w.heap.size rfl (.tmp 73) (.tmp 78) 22 3 (.int .i64 0) 8 rfl Try.underlying22 info3 rfl (by decide) (by omega) u12 x12_4 (rd t297 x13_4) [.int .i64 (rd t297 x13_4)] (fun k_ => some k_ ≠ (.slice (some ad301) t297.length co17 : Value).ownBlock) (fun _ => False) rfl rfl ?aP (fun _ hk => hk.elim) ?aF ?aO ?aB ?aS ?aL ?_; (case aP => exact rfl); (case aB => exact (BB)); (case aF => exact (fun k_ hk => Kd.fresh' (Kd.R_lt (BR HO_9.out)) k_ hk)); (case aO => exact (BR HO_12.out)); (case aS => exact (below_size (BB))); (case aL => have := LMc33.out; omega); intro v311 w34 ho hb hg hat; rw [← Ny310.out] at ho; have n0_ := Aside0.mk (Kd.R_after (ok := (fun _ => True)) (by (with_reducible repeat (first | apply Kd.R_alloc | apply Kd.R_drewN | apply Kd.R_drew)); exact Kd.R_mono HO_9.out (fun _ hk => ⟨trivial, hk⟩)) hg hat); have n1_ := Aside0.mk (hb); have n2_ := Aside0.mk (ho); clear HO_9; clear HB; clear HO_12; have HO_9 := n0_; have HB := n1_; have HO312 := n2_; clear n0_ n1_ n2_; clear ho hb hg hat))
                        repeat (go_quiet (first | ((with_reducible refine gate_builtin (b := .append) (xs := #[.tmp 73, .tmp 78]) rfl ?_); (try (refine gate_guard (by rfl) ?_; dsimp only)); at_builtin; refine Kd.R_append (Kd.int .i64) (w0 := w) w.heap.size rfl (.tmp 73) (.tmp 78) 22 3 (.int .i64 0) 8 rfl Try.underlying22 info3 rfl (by decide) (by omega) u12 x12_4 (rd t297 x13_4) [.int .i64 (rd t297 x13_4)] (fun k_ => some k_ ≠ (.slice (some ad301) t297.length co17 : Value).ownBlock) (fun _ => False) rfl rfl ?aP (fun _ hk => hk.elim) ?aF ?aO ?aB ?aS ?aL ?_; (case aP => exact rfl); (case aB => exact (BB)); (case aF => exact (fun k_ hk => Kd.fresh' (Kd.R_lt (BR HO_9.out)) k_ hk)); (case aO => exact (BR HO_12.out)); (case aS => exact (below_size (BB))); (case aL => have := LMc33.out; omega); intro v311 w34 ho hb hg hat; rw [← Ny310.out] at ho; have n0_ := Aside0.mk (Kd.R_after (ok := (fun _ => True)) (by (with_reducible repeat (first | apply Kd.R_alloc | apply Kd.R_drewN | apply Kd.R_drew)); exact Kd.R_mono HO_9.out (fun _ hk => ⟨trivial, hk⟩)) hg hat); have n1_ := Aside0.mk (hb); have n2_ := Aside0.mk (ho); clear HO_9; clear HB; clear HO_12; have HO_9 := n0_; have HB := n1_; have HO312 := n2_; clear n0_ n1_ n2_; clear ho hb hg hat)); try go_wp2_with (first | ((with_reducible refine gate_builtin (b := .append) (xs := #[.tmp 73, .tmp 78]) rfl ?_); (try (refine gate_guard (by rfl) ?_; dsimp only)); at_builtin; refine Kd.R_append (Kd.int .i64) (w0 := w) w.heap.size rfl (.tmp 73) (.tmp 78) 22 3 (.int .i64 0) 8 rfl Try.underlying22 info3 rfl (by decide) (by omega) u12 x12_4 (rd t297 x13_4) [.int .i64 (rd t297 x13_4)] (fun k_ => some k_ ≠ (.slice (some ad301) t297.length co17 : Value).ownBlock) (fun _ => False) rfl rfl ?aP (fun _ hk => hk.elim) ?aF ?aO ?aB ?aS ?aL ?_; (case aP => exact rfl); (case aB => exact (BB)); (case aF => exact (fun k_ hk => Kd.fresh' (Kd.R_lt (BR HO_9.out)) k_ hk)); (case aO => exact (BR HO_12.out)); (case aS => exact (below_size (BB))); (case aL => have := LMc33.out; omega); intro v311 w34 ho hb hg hat; rw [← Ny310.out] at ho; have n0_ := Aside0.mk (Kd.R_after (ok := (fun _ => True)) (by (with_reducible repeat (first | apply Kd.R_alloc | apply Kd.R_drewN | apply Kd.R_drew)); exact Kd.R_mono HO_9.out (fun _ hk => ⟨trivial, hk⟩)) hg hat); have n1_ := Aside0.mk (hb); have n2_ := Aside0.mk (ho); clear HO_9; clear HB; clear HO_12; have HO_9 := n0_; have HB := n1_; have HO312 := n2_; clear n0_ n1_ n2_; clear ho hb hg hat)))
                        go_roundg k4
                        case measure => have := HJ3.out; have := HK2.out; have := HK3.out; have := HK4.out; omega
                        case rel => exact ⟨(y310), (wrap64 (x13_4 - 1)), (BE), H', ⟨by have := HJ3.out; have := HK2.out; have := HK3.out; have := HK4.out; omega⟩, ⟨by (with_reducible repeat (first | apply Kd.R_alloc | apply Kd.R_drewN | apply Kd.R_drew)); exact Kd.R_mono HO_9.out (fun _ hk => hk.2)⟩, ⟨BR HO312.out⟩, ⟨BB⟩⟩
                       ·
                        rw [if_neg c33] at H
                        exact absurd H (by simp)
                      ·
                       rw [if_neg c32] at H
                       exact absurd H (by simp)
                     ·
                      rw [if_neg c31] at H
                      exact absurd H (by simp)
                    ·
                     rw [if_neg c30] at H
                     have c30b0 : decide (0 ≤ x13_4) = false := decide_eq_false c30
                     clear c30
                     simp only [Option.some.injEq, Prod.mk.injEq] at H
                     obtain ⟨rfl, rfl⟩ := H
                     go_wp2
                     repeat (go_quiet (fail); try go_wp2)
                     go_ret2
                     exact ⟨_, by first | rfl | (simp [errW_none, errW_some] <;> rfl) | (simp only [← hji24]; first | rfl | (simp [errW_none, errW_some] <;> rfl)) | (simp [*, errW_none, errW_some] <;> rfl), by (with_reducible repeat (first | apply Kd.R_alloc | apply Kd.R_drewN | apply Kd.R_drew)); exact Kd.R_mono HO_12.out (fun _ hk => trivial), BB⟩
                 ·
                  rw [if_neg c27] at H
                  exact absurd H (by simp)
                ·
                 rw [if_neg c26] at H
                 exact absurd H (by simp)
               ·
                rw [if_neg c25] at H
                exact absurd H (by simp)
              ·
               rw [if_neg c23] at H
               have c23b0 : ((rd t294 x45_2) == (rd t297 x50_3)) = false := beq_eq_false_iff_ne.mpr c23
               have c23b1 : ((rd t294 x45_2) != (rd t297 x50_3)) = true := bne_iff_ne.mpr c23
               have H' := Aside0.mk H
               clear H
               have p300 : 0 ≤ (x45_2 : Int) := OD
               have q300 : x45_2 < (t294.length : Int) := OD
               obtain ⟨ad300, e300, hx300_0⟩ := Kd.at_int (Kd.R_reads' HO_8.out).2.2 x45_2 p300 q300
               cases e300
               replace p300 := eq_true p300
               replace q300 := eq_true q300
               have p301 : 0 ≤ (x50_3 : Int) := OD
               have q301 : x50_3 < (t297.length : Int) := OD
               obtain ⟨ad301, e301, hx301_0⟩ := Kd.at_int (Kd.R_reads' HO_9.out).2.2 x50_3 p301 q301
               cases e301
               replace p301 := eq_true p301
               replace q301 := eq_true q301
               go_wp2
               repeat (go_quiet (fail); try go_wp2)
               go_roundg k3
               case measure => have := HJ3.out; have := HK2.out; have := HK3.out; omega
               case rel => exact ⟨(wrap64 (x50_3 + 1)), (BE), H', ⟨by have := HJ3.out; have := HK2.out; have := HK3.out; omega⟩, ⟨BR HO_8.out⟩, ⟨BR HO_9.out⟩, ⟨BB⟩⟩
             ·
              rw [if_neg c22] at H
              exact absurd H (by simp)
            ·
             rw [if_neg c21] at H
             exact absurd H (by simp)
           ·
            rw [if_neg c20] at H
            exact absurd H (by simp)
          ·
           rw [if_neg c19] at H
           exact absurd H (by simp)
         ·
          rw [if_neg c18] at H
          have c18b0 : decide (x50_3 < (t297.length : Int)) = false := decide_eq_false c18
          clear c18
          have H' := Aside0.mk H
          clear H
          go_wp2
          repeat (go_quiet (fail); try go_wp2)
          go_roundg k3
          case measure => have := HJ3.out; have := HK2.out; have := HK3.out; omega
          case rel => exact ⟨(wrap64 (x45_2 + 1)), (BE), H', ⟨by have := HJ3.out; have := HK2.out; have := HK3.out; omega⟩, ⟨BR HO_8.out⟩, ⟨BR HO_9.out⟩, ⟨BB⟩⟩
      ·
       rw [if_neg c16] at H
       have c16b0 : decide (x45_2 < (t294.length : Int)) = false := decide_eq_false c16
       clear c16
       simp only [Option.some.injEq, Prod.mk.injEq] at H
       obtain ⟨rfl, rfl⟩ := H
       go_wp2
       repeat (go_quiet (fail); try go_wp2)
       go_ret2
       exact ⟨_, BX, by first | exact Kd.R_nil _ _ _ _ _ | exact Kd.N_nil _ _ _ _ _ | exact Kd.V_nil _ _ _ _ _ | exact Kd.Q_nil _ _ _ _ _ | exact Kd.S_nil _ _ _ _ _, BB⟩

end Go.Proofs.Ytkanmafjjejpmaa.P
