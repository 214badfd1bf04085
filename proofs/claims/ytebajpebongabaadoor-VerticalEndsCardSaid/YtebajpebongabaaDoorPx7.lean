-- Written by a program of this session (wip/doprint.sh) out of the translation; Lean checks it.
import Derived.WalkLawsBesides
import Derived.Test.YtebajpebongabaaDoorPx0
import Derived.Test.YtebajpebongabaaDoorVal
namespace Go.Proofs.YtebajpebongabaaDoor.P
open Go.Proofs.YtebajpebongabaaDoor.X
open Go.RowKit Go.Proofs.YtebajpebongabaaDoorW.PrintWords Go.Proofs.YtebajpebongabaaDoorW.PrintLast Go.Proofs.YtebajpebongabaaDoorW.PrintMore
attribute [local go_sem] max2_int min2_int max_two min_two max_three min_three max_four min_four   -- for this text's walks alone
set_option linter.unusedVariables false
set_option linter.unusedSimpArgs false

/-! ### feature_Parse: function 56 -/
mutual
def feature_Parse.j0 : Nat → ByteArray → Bool → Option (List ByteArray × Int)
  | 0, _, _ => none
  | k + 1, x0, x31 => if x31 = true then (some (([] : List ByteArray), 3)) else (feature_Parse.l0 k x0 ([] : List ByteArray) 1 1)
def feature_Parse.l0 : Nat → ByteArray → List ByteArray → Int → Int → Option (List ByteArray × Int)
  | 0, _, _, _, _ => none
  | k + 1, x0, x5, x6, x7 => if x7 < (x0.size : Int) then (if 0 ≤ x7 then (if (bt x0 x7) = 124 then (if x7 = x6 then (some (([] : List ByteArray), 3)) else (if 0 ≤ x6 then (if x6 ≤ x7 then (if x7 ≤ (x0.size : Int) then (if x5.length < 8796093022208 then (feature_Parse.l0 k x0 (x5 ++ [x0.extract (x6 : Int).toNat (x7 : Int).toNat]) (wrap64 (x7 + 1)) (wrap64 (x7 + 1))) else (none)) else (none)) else (none)) else (none))) else (feature_Parse.l0 k x0 x5 x6 (wrap64 (x7 + 1)))) else (none)) else (feature_Parse.l1 k x5 1)
def feature_Parse.l1 : Nat → List ByteArray → Int → Option (List ByteArray × Int)
  | 0, _, _ => none
  | k + 1, x5, x8 => if x8 < (x5.length : Int) then (if 0 ≤ (wrap64 (x8 - 1)) then (if (wrap64 (x8 - 1)) < (x5.length : Int) then (if 0 ≤ x8 then (if ((Op.bytesLess ((rdOf ByteArray.empty x5 (wrap64 (x8 - 1))).toList) ((rdOf ByteArray.empty x5 x8).toList)) = true) then (feature_Parse.l1 k x5 (wrap64 (x8 + 1))) else (some (([] : List ByteArray), 6))) else (none)) else (none)) else (none)) else (some (x5, 0))
end
def feature_Parse.f (k : Nat) (a0 : ByteArray) : Option (List ByteArray × Int) := (markup_ValidValue.f a0).bind fun t115 => (if t115 = 0 then (if a0.toList = ([124] : List UInt8) then (some (([] : List ByteArray), 0)) else (if (a0.size : Int) < 2 then (feature_Parse.j0 k a0 true) else (if 0 < (a0.size : Int) then (if (bt a0 0) = 124 then (if 0 ≤ (wrap64 ((a0.size : Int) - 1)) then (if (wrap64 ((a0.size : Int) - 1)) < (a0.size : Int) then (feature_Parse.j0 k a0 ((bt a0 (wrap64 ((a0.size : Int) - 1))) != 124)) else (none)) else (none)) else (feature_Parse.j0 k a0 true)) else (none)))) else (some (([] : List ByteArray), t115)))
theorem feature_Parse.mono_l : ∀ k, (∀ y0 y1, LeO (feature_Parse.j0 k y0 y1) (feature_Parse.j0 (k + 1) y0 y1)) ∧ (∀ y0 y1 y2 y3, LeO (feature_Parse.l0 k y0 y1 y2 y3) (feature_Parse.l0 (k + 1) y0 y1 y2 y3)) ∧ (∀ y0 y1, LeO (feature_Parse.l1 k y0 y1) (feature_Parse.l1 (k + 1) y0 y1))
  | 0 => ⟨fun _ _ r h => by simp [feature_Parse.j0] at h, fun _ _ _ _ r h => by simp [feature_Parse.l0] at h, fun _ _ r h => by simp [feature_Parse.l1] at h⟩
  | k + 1 => by
    obtain ⟨ih0, ih1, ih2⟩ := feature_Parse.mono_l k
    refine ⟨?_, ?_, ?_⟩
    · intro y0 y1
      unfold feature_Parse.j0
      repeat' first
      | (with_reducible exact ih0 _ _)
      | (with_reducible exact ih1 _ _ _ _)
      | (with_reducible exact ih2 _ _)
      | (with_reducible exact LeO.refl _)
      | (with_reducible exact LeO.none _)
      | (with_reducible refine LeO.ite ?_ ?_)
      | (with_reducible refine LeO.bind ?_ (fun _ => ?_))
      | exact ih0 _ _
      | exact ih1 _ _ _ _
      | exact ih2 _ _
      | exact LeO.none _
      | refine LeO.ite ?_ ?_
      | refine LeO.bind ?_ (fun _ => ?_)
    · intro y0 y1 y2 y3
      unfold feature_Parse.l0
      repeat' first
      | (with_reducible exact ih0 _ _)
      | (with_reducible exact ih1 _ _ _ _)
      | (with_reducible exact ih2 _ _)
      | (with_reducible exact LeO.refl _)
      | (with_reducible exact LeO.none _)
      | (with_reducible refine LeO.ite ?_ ?_)
      | (with_reducible refine LeO.bind ?_ (fun _ => ?_))
      | exact ih0 _ _
      | exact ih1 _ _ _ _
      | exact ih2 _ _
      | exact LeO.none _
      | refine LeO.ite ?_ ?_
      | refine LeO.bind ?_ (fun _ => ?_)
    · intro y0 y1
      unfold feature_Parse.l1
      repeat' first
      | (with_reducible exact ih0 _ _)
      | (with_reducible exact ih1 _ _ _ _)
      | (with_reducible exact ih2 _ _)
      | (with_reducible exact LeO.refl _)
      | (with_reducible exact LeO.none _)
      | (with_reducible refine LeO.ite ?_ ?_)
      | (with_reducible refine LeO.bind ?_ (fun _ => ?_))
      | exact ih0 _ _
      | exact ih1 _ _ _ _
      | exact ih2 _ _
      | exact LeO.none _
      | refine LeO.ite ?_ ?_
      | refine LeO.bind ?_ (fun _ => ?_)
theorem feature_Parse.mono : ∀ a0 k, LeO (feature_Parse.f k a0) (feature_Parse.f (k + 1) a0) := by
  intro a0 k
  obtain ⟨ih0, ih1, ih2⟩ := feature_Parse.mono_l k
  unfold feature_Parse.f
  repeat' first
      | (with_reducible exact ih0 _ _)
      | (with_reducible exact ih1 _ _ _ _)
      | (with_reducible exact ih2 _ _)
      | (with_reducible exact LeO.refl _)
      | (with_reducible exact LeO.none _)
      | (with_reducible refine LeO.ite ?_ ?_)
      | (with_reducible refine LeO.bind ?_ (fun _ => ?_))
      | exact ih0 _ _
      | exact ih1 _ _ _ _
      | exact ih2 _ _
      | exact LeO.none _
      | refine LeO.ite ?_ ?_
      | refine LeO.bind ?_ (fun _ => ?_)
set_option maxHeartbeats 8000000 in
set_option maxRecDepth 100000 in
theorem feature_Parse.calls (k : Nat) (a0 : ByteArray) (r1 : List ByteArray) (r2 : Int) (w : World) (h : feature_Parse.f k a0 = some (r1, r2)) :
    Calls Tryd.prog 56 #[.string a0] w fun e w' => ∃ v0_ : Value, e = .returned (.tuple #[v0_, .int .i64 r2]) ∧ Kd.R Kd.string 9 w' w.heap.size (fun _ => True) v0_ r1 ∧ Below w.heap.size w w' := by
  have HB := Aside0.mk (Below.refl w.heap.size w)
  have H : ((markup_ValidValue.f a0).bind fun t115 => (if t115 = 0 then (if a0.toList = ([124] : List UInt8) then (some (([] : List ByteArray), 0)) else (if (a0.size : Int) < 2 then (feature_Parse.j0 k a0 true) else (if 0 < (a0.size : Int) then (if (bt a0 0) = 124 then (if 0 ≤ (wrap64 ((a0.size : Int) - 1)) then (if (wrap64 ((a0.size : Int) - 1)) < (a0.size : Int) then (feature_Parse.j0 k a0 ((bt a0 (wrap64 ((a0.size : Int) - 1))) != 124)) else (none)) else (none)) else (feature_Parse.j0 k a0 true)) else (none)))) else (some (([] : List ByteArray), t115)))) = some (r1, r2) := h
  clear h
  replace H := Option.bind_eq_some_iff.mp H
  obtain ⟨t115, A20, H⟩ := H
  replace H : (if t115 = 0 then (if a0.toList = ([124] : List UInt8) then (some (([] : List ByteArray), 0)) else (if (a0.size : Int) < 2 then (feature_Parse.j0 k a0 true) else (if 0 < (a0.size : Int) then (if (bt a0 0) = 124 then (if 0 ≤ (wrap64 ((a0.size : Int) - 1)) then (if (wrap64 ((a0.size : Int) - 1)) < (a0.size : Int) then (feature_Parse.j0 k a0 ((bt a0 (wrap64 ((a0.size : Int) - 1))) != 124)) else (none)) else (none)) else (feature_Parse.j0 k a0 true)) else (none)))) else (some (([] : List ByteArray), t115))) = some (r1, r2) := H
  have A2 := Aside0.mk A20
  clear A20
  by_cases c3 : t115 = 0
  · rw [if_pos c3] at H
    have c3b0 : (t115 == 0) = true := beq_iff_eq.mpr c3
    have c3b1 : (t115 != 0) = false := bne_eq_false_iff_eq.mpr c3
    clear c3
    by_cases c4 : a0.toList = ([124] : List UInt8)
    · rw [if_pos c4] at H
      have c4b0 : (a0.toList == ([124] : List UInt8)) = true := beq_iff_eq.mpr c4
      have c4b1 : (a0.toList != ([124] : List UInt8)) = false := bne_eq_false_iff_eq.mpr c4
      clear c4
      simp only [Option.some.injEq, Prod.mk.injEq] at H
      obtain ⟨rfl, rfl⟩ := H
      go_enter Tryd.func56, Tryd.ntmps56
      go_wp2_with (first | (go_at_call 55; (with_reducible refine (markup_ValidValue.calls a0 t115 _ A2.out).mono ?_); rintro e w5 ⟨rfl, hb⟩; have n0_ := Aside0.mk (below_step (by repeat (first | (with_reducible first | exact HB.out | apply below_alloc | apply pw_below_drewN | apply below_drew1) | exact HB.out)) hb); clear HB; have HB := n0_; clear n0_; (try clear hb); (try clear hb2); (try clear hk); (try clear hi)))
      repeat (go_quiet (first | (go_at_call 55; (with_reducible refine (markup_ValidValue.calls a0 t115 _ A2.out).mono ?_); rintro e w5 ⟨rfl, hb⟩; have n0_ := Aside0.mk (below_step (by repeat (first | (with_reducible first | exact HB.out | apply below_alloc | apply pw_below_drewN | apply below_drew1) | exact HB.out)) hb); clear HB; have HB := n0_; clear n0_; (try clear hb); (try clear hb2); (try clear hk); (try clear hi))); try go_wp2_with (first | (go_at_call 55; (with_reducible refine (markup_ValidValue.calls a0 t115 _ A2.out).mono ?_); rintro e w5 ⟨rfl, hb⟩; have n0_ := Aside0.mk (below_step (by repeat (first | (with_reducible first | exact HB.out | apply below_alloc | apply pw_below_drewN | apply below_drew1) | exact HB.out)) hb); clear HB; have HB := n0_; clear n0_; (try clear hb); (try clear hb2); (try clear hk); (try clear hi))))
      go_ret2
      exact ⟨_, by first | rfl | (simp [errW_none, errW_some] <;> rfl) | (simp [*, errW_none, errW_some] <;> rfl), by first | exact Kd.R_nil _ _ _ _ _ | exact Kd.N_nil _ _ _ _ _ | exact Kd.V_nil _ _ _ _ _ | exact Kd.Q_nil _ _ _ _ _ | exact Kd.S_nil _ _ _ _ _, by repeat (first | (with_reducible first | exact HB.out | apply below_alloc | apply pw_below_drewN | apply below_drew1) | exact HB.out)⟩
    · rw [if_neg c4] at H
      have c4b0 : (a0.toList == ([124] : List UInt8)) = false := beq_eq_false_iff_ne.mpr c4
      have c4b1 : (a0.toList != ([124] : List UInt8)) = true := bne_iff_ne.mpr c4
      have HC6 := Aside0.mk H
      clear H
      go_enter Tryd.func56, Tryd.ntmps56
      go_upto_region 6 with (first | (go_at_call 55; (with_reducible refine (markup_ValidValue.calls a0 t115 _ A2.out).mono ?_); rintro e w7 ⟨rfl, hb⟩; have n0_ := Aside0.mk (below_step (by repeat (first | (with_reducible first | exact HB.out | apply below_alloc | apply pw_below_drewN | apply below_drew1) | exact HB.out)) hb); clear HB; have HB := n0_; clear n0_; (try clear hb); (try clear hb2); (try clear hk); (try clear hi)))
      repeat (go_quiet (first | (go_at_call 55; (with_reducible refine (markup_ValidValue.calls a0 t115 _ A2.out).mono ?_); rintro e w7 ⟨rfl, hb⟩; have n0_ := Aside0.mk (below_step (by repeat (first | (with_reducible first | exact HB.out | apply below_alloc | apply pw_below_drewN | apply below_drew1) | exact HB.out)) hb); clear HB; have HB := n0_; clear n0_; (try clear hb); (try clear hb2); (try clear hk); (try clear hi))); go_upto_region 6 with (first | (go_at_call 55; (with_reducible refine (markup_ValidValue.calls a0 t115 _ A2.out).mono ?_); rintro e w7 ⟨rfl, hb⟩; have n0_ := Aside0.mk (below_step (by repeat (first | (with_reducible first | exact HB.out | apply below_alloc | apply pw_below_drewN | apply below_drew1) | exact HB.out)) hb); clear HB; have HB := n0_; clear n0_; (try clear hb); (try clear hb2); (try clear hk); (try clear hi))))
      (try simp only [Act.put, List.setIfInBounds_toArray, List.set_cons_zero, List.set_cons_succ])
      go_cut [31] (fun v31 wc => ∃ (kq : Nat) (x31_5 : Bool), v31 = .bool x31_5 ∧ Aside0 (feature_Parse.j0 kq a0 x31_5 = some (r1, r2)) ∧ Aside0 (kq ≤ k) ∧ Aside0 (Below w.heap.size w wc))
      case first =>
        have H := HC6.out
        clear HC6
        by_cases c8 : (a0.size : Int) < 2
        · rw [if_pos c8] at H
          have c8b0 : decide ((a0.size : Int) < 2) = true := decide_eq_true c8
          have c8b1 : decide (a0.size < 2) = true := decide_eq_true (by omega)
          clear c8
          (first | rw [c8b0] | rw [c8b1] | (simp only [i64_w, i32_w]; rw [c8b0]) | skip)
          have H' := Aside0.mk H
          clear H
          go_wp2
          repeat (go_quiet (fail); try go_wp2)
          go_meet
          case rel => exact ⟨_, (true), (by first | rfl | (simp; done) | (simp [*]; done)), H', ⟨by first | omega | exact Nat.le_refl _⟩, ⟨by repeat (first | (with_reducible first | exact HB.out | apply below_alloc | apply pw_below_drewN | apply below_drew1) | exact HB.out)⟩⟩
        · rw [if_neg c8] at H
          have c8b0 : decide ((a0.size : Int) < 2) = false := decide_eq_false c8
          have c8b1 : decide (a0.size < 2) = false := decide_eq_false (by omega)
          clear c8
          (first | rw [c8b0] | rw [c8b1] | (simp only [i64_w, i32_w]; rw [c8b0]) | skip)
          by_cases c9 : 0 < (a0.size : Int)
          · rw [if_pos c9] at H
            have c9b0 : decide (0 < (a0.size : Int)) = true := decide_eq_true c9
            have c9b1 : decide (0 < a0.size) = true := decide_eq_true (by omega)
            clear c9
            by_cases c11 : (bt a0 0) = 124
            · rw [if_pos c11] at H
              have c11b0 : ((bt a0 0) == 124) = true := beq_iff_eq.mpr c11
              have c11b1 : ((bt a0 0) != 124) = false := bne_eq_false_iff_eq.mpr c11
              clear c11
              obtain ⟨ji12, hji12⟩ : ∃ j_ : Int, (wrap64 ((a0.size : Int) - 1)) = j_ := ⟨_, rfl⟩
              replace H : (if 0 ≤ (ji12) then (if (ji12) < (a0.size : Int) then (feature_Parse.j0 k a0 ((bt a0 (ji12)) != 124)) else (none)) else (none)) = some (r1, r2) := by first | (rw [hji12] at H; exact H) | (simp only [hji12] at H ⊢; exact H)
              have hji12w : (IntKind.i64.wrap ((a0.size : Int) - 1)) = ji12 := (i64_w _).trans hji12
              by_cases c13 : 0 ≤ (ji12)
              · rw [if_pos c13] at H
                have c13b0 : decide (0 ≤ (ji12)) = true := decide_eq_true c13
                clear c13
                by_cases c14 : (ji12) < (a0.size : Int)
                · rw [if_pos c14] at H
                  have c14b0 : decide ((ji12) < (a0.size : Int)) = true := decide_eq_true c14
                  clear c14
                  have H' := Aside0.mk H
                  clear H
                  have p10 : 0 ≤ (0 : Int) := (by omega)
                  have q10 : 0 < a0.size := (by have : (0 : Int) < (a0.size : Int) := of_decide_eq_true (by first | (with_reducible assumption) | assumption); omega)
                  have hx10 : ∀ h : 0 < a0.size, ((a0[0]'h).toNat : Int) = bt a0 0 := bt_at a0 0
                  clear p10
                  have qi10 : (0 < (a0.size : Int)) = True := eq_true (of_decide_eq_true (by first | (with_reducible assumption) | assumption))
                  replace q10 := eq_true q10
                  have p15 : 0 ≤ ((ji12) : Int) := of_decide_eq_true (by first | (with_reducible assumption) | assumption)
                  have q15 : (ji12) < (a0.size : Int) := of_decide_eq_true (by first | (with_reducible assumption) | assumption)
                  have hx15 := bt_at a0 (ji12)
                  replace p15 := eq_true p15
                  replace q15 := eq_true q15
                  go_wp2
                  repeat (go_quiet (fail); try go_wp2)
                  go_meet
                  case rel => exact ⟨_, (((bt a0 (ji12)) != 124)), (by first | rfl | (simp; done) | (simp only [← hji12] <;> (first | rfl | simp)) | (simp [*]; done)), H', ⟨by first | omega | exact Nat.le_refl _⟩, ⟨by repeat (first | (with_reducible first | exact HB.out | apply below_alloc | apply pw_below_drewN | apply below_drew1) | exact HB.out)⟩⟩
                · rw [if_neg c14] at H
                  exact absurd H (by simp)
              · rw [if_neg c13] at H
                exact absurd H (by simp)
            · rw [if_neg c11] at H
              have c11b0 : ((bt a0 0) == 124) = false := beq_eq_false_iff_ne.mpr c11
              have c11b1 : ((bt a0 0) != 124) = true := bne_iff_ne.mpr c11
              have H' := Aside0.mk H
              clear H
              have p10 : 0 ≤ (0 : Int) := (by omega)
              have q10 : 0 < a0.size := (by have : (0 : Int) < (a0.size : Int) := of_decide_eq_true (by first | (with_reducible assumption) | assumption); omega)
              have hx10 : ∀ h : 0 < a0.size, ((a0[0]'h).toNat : Int) = bt a0 0 := bt_at a0 0
              clear p10
              have qi10 : (0 < (a0.size : Int)) = True := eq_true (of_decide_eq_true (by first | (with_reducible assumption) | assumption))
              replace q10 := eq_true q10
              go_wp2
              repeat (go_quiet (fail); try go_wp2)
              go_meet
              case rel => exact ⟨_, (true), (by first | rfl | (simp; done) | (simp [*]; done)), H', ⟨by first | omega | exact Nat.le_refl _⟩, ⟨by repeat (first | (with_reducible first | exact HB.out | apply below_alloc | apply pw_below_drewN | apply below_drew1) | exact HB.out)⟩⟩
          · rw [if_neg c9] at H
            exact absurd H (by simp)
      case rest =>
        clear HC6
        try clear c1
        try clear p1
        try clear q1
        try clear hx1
        try clear qi1
        try clear p2
        try clear c3
        try clear c3b0
        try clear c3b1
        try clear c4
        try clear c4b0
        try clear c4b1
        try clear c5
        try clear p6
        try clear c8
        try clear c8b0
        try clear c8b1
        try clear c9
        try clear c9b0
        try clear c9b1
        try clear p10
        try clear q10
        try clear hx10
        try clear qi10
        try clear c11
        try clear c11b0
        try clear c11b1
        try clear c13
        try clear c13b0
        try clear c14
        try clear c14b0
        try clear p15
        try clear q15
        try clear hx15
        try clear p10
        try clear p15
        try clear q10
        try clear q15
        obtain ⟨kq, x31_5, rfl, HA, HJ5, HB⟩ := hcut
        cases kq with
        | zero => exact absurd HA.out (by simp [feature_Parse.j0])
        | succ kj5 =>
          have H := HA.out
          clear HA
          simp only [feature_Parse.j0] at H
          by_cases c16 : x31_5 = true
          · subst c16
            have H1 : (some (([] : List ByteArray), 3)) = some (r1, r2) := by rw [if_pos rfl] at H; exact H
            clear H
            have H := H1
            clear H1
            simp only [Option.some.injEq, Prod.mk.injEq] at H
            obtain ⟨rfl, rfl⟩ := H
            go_wp2
            repeat (go_quiet (fail); try go_wp2)
            go_ret2
            exact ⟨_, by first | rfl | (simp [errW_none, errW_some] <;> rfl) | (simp [*, errW_none, errW_some] <;> rfl), by first | exact Kd.R_nil _ _ _ _ _ | exact Kd.N_nil _ _ _ _ _ | exact Kd.V_nil _ _ _ _ _ | exact Kd.Q_nil _ _ _ _ _ | exact Kd.S_nil _ _ _ _ _, by repeat (first | (with_reducible first | exact HB.out | apply below_alloc | apply pw_below_drewN | apply below_drew1) | exact HB.out)⟩
          · replace c16 := Bool.eq_false_iff.mpr c16
            subst c16
            have H1 : (feature_Parse.l0 kj5 a0 ([] : List ByteArray) 1 1) = some (r1, r2) := by rw [if_neg (show ¬ (false = true) by decide)] at H; exact H
            clear H
            have H := H1
            clear H1
            have H' := Aside0.mk H
            clear H
            go_wp2
            repeat (go_quiet (fail); try go_wp2)
            go_loopg [5, 6, 7] kj5 (fun kq v5 v6 v7 w' => ∃ (x5_2 : List ByteArray) (x6_2 : Int) (x7_2 : Int), v6 = .int .i64 x6_2 ∧ v7 = .int .i64 x7_2 ∧ Aside0 (feature_Parse.l0 kq a0 x5_2 x6_2 x7_2 = some (r1, r2)) ∧ Aside0 (kq ≤ kj5) ∧ Aside0 (Kd.R Kd.string 9 w' w.heap.size (fun _ => True) v5 x5_2) ∧ Aside0 (Below w.heap.size w w'))
            case atStart => exact ⟨(([] : List ByteArray)), (1), (1), (by first | rfl | (simp; done) | (simp [*]; done)), (by first | rfl | (simp; done) | (simp [*]; done)), H', ⟨Nat.le_refl _⟩, ⟨by first | exact Kd.R_nil _ _ _ _ _ | exact Kd.N_nil _ _ _ _ _ | exact Kd.V_nil _ _ _ _ _ | exact Kd.Q_nil _ _ _ _ _ | exact Kd.S_nil _ _ _ _ _⟩, ⟨by repeat (first | (with_reducible first | exact HB.out | apply below_alloc | apply pw_below_drewN | apply below_drew1) | exact HB.out)⟩⟩
            case round =>
              clear H'
              try clear c1
              try clear p1
              try clear q1
              try clear hx1
              try clear qi1
              try clear p2
              try clear c3
              try clear c3b0
              try clear c3b1
              try clear c4
              try clear c4b0
              try clear c4b1
              try clear c5
              try clear p6
              try clear c8
              try clear c8b0
              try clear c8b1
              try clear c9
              try clear c9b0
              try clear c9b1
              try clear p10
              try clear q10
              try clear hx10
              try clear qi10
              try clear c11
              try clear c11b0
              try clear c11b1
              try clear c13
              try clear c13b0
              try clear c14
              try clear c14b0
              try clear p15
              try clear q15
              try clear hx15
              try clear c16
              try clear p1
              try clear p10
              try clear p15
              try clear p2
              try clear p6
              try clear q1
              try clear q10
              try clear q15
              obtain ⟨x5_2, x6_2, x7_2, rfl, rfl, HA, HK2, HO_5, HB⟩ := hrel
              cases gk with
              | zero => exact absurd HA.out (by simp [feature_Parse.l0])
              | succ k2 =>
                have H := HA.out
                clear HA
                simp only [feature_Parse.l0] at H
                by_cases c17 : x7_2 < (a0.size : Int)
                · rw [if_pos c17] at H
                  have c17b0 : decide (x7_2 < (a0.size : Int)) = true := decide_eq_true c17
                  clear c17
                  by_cases c18 : 0 ≤ x7_2
                  · rw [if_pos c18] at H
                    have c18b0 : decide (0 ≤ x7_2) = true := decide_eq_true c18
                    clear c18
                    by_cases c20 : (bt a0 x7_2) = 124
                    · rw [if_pos c20] at H
                      have c20b0 : ((bt a0 x7_2) == 124) = true := beq_iff_eq.mpr c20
                      have c20b1 : ((bt a0 x7_2) != 124) = false := bne_eq_false_iff_eq.mpr c20
                      clear c20
                      by_cases c21 : x7_2 = x6_2
                      · rw [if_pos c21] at H
                        have c21b0 : (x7_2 == x6_2) = true := beq_iff_eq.mpr c21
                        have c21b1 : (x7_2 != x6_2) = false := bne_eq_false_iff_eq.mpr c21
                        clear c21
                        simp only [Option.some.injEq, Prod.mk.injEq] at H
                        obtain ⟨rfl, rfl⟩ := H
                        have p19 : 0 ≤ (x7_2 : Int) := of_decide_eq_true (by first | (with_reducible assumption) | assumption)
                        have q19 : x7_2 < (a0.size : Int) := of_decide_eq_true (by first | (with_reducible assumption) | assumption)
                        have hx19 := bt_at a0 x7_2
                        replace p19 := eq_true p19
                        replace q19 := eq_true q19
                        go_wp2
                        repeat (go_quiet (fail); try go_wp2)
                        go_ret2
                        exact ⟨_, by first | rfl | (simp [errW_none, errW_some] <;> rfl) | (simp [*, errW_none, errW_some] <;> rfl), by first | exact Kd.R_nil _ _ _ _ _ | exact Kd.N_nil _ _ _ _ _ | exact Kd.V_nil _ _ _ _ _ | exact Kd.Q_nil _ _ _ _ _ | exact Kd.S_nil _ _ _ _ _, by repeat (first | (with_reducible first | exact HB.out | apply below_alloc | apply pw_below_drewN | apply below_drew1) | exact HB.out)⟩
                      · rw [if_neg c21] at H
                        have c21b0 : (x7_2 == x6_2) = false := beq_eq_false_iff_ne.mpr c21
                        have c21b1 : (x7_2 != x6_2) = true := bne_iff_ne.mpr c21
                        by_cases c22 : 0 ≤ x6_2
                        · rw [if_pos c22] at H
                          have c22b0 := eq_true c22
                          have c22b1 : decide (0 ≤ x6_2) = true := decide_eq_true c22
                          clear c22
                          by_cases c23 : x6_2 ≤ x7_2
                          · rw [if_pos c23] at H
                            have c23b0 := eq_true c23
                            have c23b1 : decide (x6_2 ≤ x7_2) = true := decide_eq_true c23
                            clear c23
                            by_cases c24 : x7_2 ≤ (a0.size : Int)
                            · rw [if_pos c24] at H
                              have c24b0 := eq_true c24
                              have c24b1 : decide (x7_2 ≤ (a0.size : Int)) = true := decide_eq_true c24
                              clear c24
                              by_cases c25 : x5_2.length < 8796093022208
                              · rw [if_pos c25] at H
                                have LMc25 := Aside0.mk c25
                                clear c25
                                obtain ⟨y116, hy116⟩ : ∃ y_ : List ByteArray, y_ = (x5_2 ++ [a0.extract (x6_2 : Int).toNat (x7_2 : Int).toNat]) := ⟨_, rfl⟩
                                replace H : (feature_Parse.l0 k2 a0 y116 (wrap64 (x7_2 + 1)) (wrap64 (x7_2 + 1))) = some (r1, r2) := by first | (rw [hy116]; with_reducible exact H) | (have H2_ := (Option.bind_some _ _).symm.trans H; rw [hy116]; with_reducible exact H2_) | (have H2_ := (Option.bind_some _ _).symm.trans H; with_reducible exact H2_) | with_reducible exact H | (rw [hy116]; exact H) | exact H
                                have Ny116 := Aside0.mk hy116
                                clear hy116
                                have H' := Aside0.mk H
                                clear H
                                have p19 : 0 ≤ (x7_2 : Int) := of_decide_eq_true (by first | (with_reducible assumption) | assumption)
                                have q19 : x7_2 < (a0.size : Int) := of_decide_eq_true (by first | (with_reducible assumption) | assumption)
                                have hx19 := bt_at a0 x7_2
                                replace p19 := eq_true p19
                                replace q19 := eq_true q19
                                go_wp2_with (first | ((with_reducible refine gate_builtin (b := .append) (xs := #[.tmp 45, .tmp 50]) rfl ?_); (try (refine gate_guard (by rfl) ?_; dsimp only)); at_builtin; refine Kd.R_append Kd.string (w0 := w) w.heap.size rfl (.tmp 45) (.tmp 50) 28 9 (.string ⟨#[]⟩) 16 rfl Tryd.underlying28 info9 rfl (by decide) (by omega) u5 x5_2 (a0.extract (x6_2 : Int).toNat (x7_2 : Int).toNat) [.string (a0.extract (x6_2 : Int).toNat (x7_2 : Int).toNat)] (fun _ => True) (fun _ => False) rfl rfl ?aP (fun _ hk => hk.elim) ?aF ?aO ?aB ?aS ?aL ?_; (case aP => exact rfl); (case aB => exact (by repeat (first | (with_reducible first | exact HB.out | apply below_alloc | apply pw_below_drewN | apply below_drew1) | exact HB.out))); (case aF => exact (fun _ _ => trivial)); (case aO => exact (by (with_reducible repeat (first | apply Kd.R_alloc | apply Kd.R_drewN | apply Kd.R_drew)); exact HO_5.out)); (case aS => exact (below_size (by repeat (first | (with_reducible first | exact HB.out | apply below_alloc | apply pw_below_drewN | apply below_drew1) | exact HB.out)))); (case aL => have := LMc25.out; omega); intro v117 w26 ho hb hg hat; rw [← Ny116.out] at ho; have n0_ := Aside0.mk (hb); have n1_ := Aside0.mk (ho); clear HB; clear HO_5; have HB := n0_; have HO118 := n1_; clear n0_ n1_; clear ho hb hg hat))
                                repeat (go_quiet (first | ((with_reducible refine gate_builtin (b := .append) (xs := #[.tmp 45, .tmp 50]) rfl ?_); (try (refine gate_guard (by rfl) ?_; dsimp only)); at_builtin; refine Kd.R_append Kd.string (w0 := w) w.heap.size rfl (.tmp 45) (.tmp 50) 28 9 (.string ⟨#[]⟩) 16 rfl Tryd.underlying28 info9 rfl (by decide) (by omega) u5 x5_2 (a0.extract (x6_2 : Int).toNat (x7_2 : Int).toNat) [.string (a0.extract (x6_2 : Int).toNat (x7_2 : Int).toNat)] (fun _ => True) (fun _ => False) rfl rfl ?aP (fun _ hk => hk.elim) ?aF ?aO ?aB ?aS ?aL ?_; (case aP => exact rfl); (case aB => exact (by repeat (first | (with_reducible first | exact HB.out | apply below_alloc | apply pw_below_drewN | apply below_drew1) | exact HB.out))); (case aF => exact (fun _ _ => trivial)); (case aO => exact (by (with_reducible repeat (first | apply Kd.R_alloc | apply Kd.R_drewN | apply Kd.R_drew)); exact HO_5.out)); (case aS => exact (below_size (by repeat (first | (with_reducible first | exact HB.out | apply below_alloc | apply pw_below_drewN | apply below_drew1) | exact HB.out)))); (case aL => have := LMc25.out; omega); intro v117 w26 ho hb hg hat; rw [← Ny116.out] at ho; have n0_ := Aside0.mk (hb); have n1_ := Aside0.mk (ho); clear HB; clear HO_5; have HB := n0_; have HO118 := n1_; clear n0_ n1_; clear ho hb hg hat)); try go_wp2_with (first | ((with_reducible refine gate_builtin (b := .append) (xs := #[.tmp 45, .tmp 50]) rfl ?_); (try (refine gate_guard (by rfl) ?_; dsimp only)); at_builtin; refine Kd.R_append Kd.string (w0 := w) w.heap.size rfl (.tmp 45) (.tmp 50) 28 9 (.string ⟨#[]⟩) 16 rfl Tryd.underlying28 info9 rfl (by decide) (by omega) u5 x5_2 (a0.extract (x6_2 : Int).toNat (x7_2 : Int).toNat) [.string (a0.extract (x6_2 : Int).toNat (x7_2 : Int).toNat)] (fun _ => True) (fun _ => False) rfl rfl ?aP (fun _ hk => hk.elim) ?aF ?aO ?aB ?aS ?aL ?_; (case aP => exact rfl); (case aB => exact (by repeat (first | (with_reducible first | exact HB.out | apply below_alloc | apply pw_below_drewN | apply below_drew1) | exact HB.out))); (case aF => exact (fun _ _ => trivial)); (case aO => exact (by (with_reducible repeat (first | apply Kd.R_alloc | apply Kd.R_drewN | apply Kd.R_drew)); exact HO_5.out)); (case aS => exact (below_size (by repeat (first | (with_reducible first | exact HB.out | apply below_alloc | apply pw_below_drewN | apply below_drew1) | exact HB.out)))); (case aL => have := LMc25.out; omega); intro v117 w26 ho hb hg hat; rw [← Ny116.out] at ho; have n0_ := Aside0.mk (hb); have n1_ := Aside0.mk (ho); clear HB; clear HO_5; have HB := n0_; have HO118 := n1_; clear n0_ n1_; clear ho hb hg hat)))
                                go_roundg k2
                                case measure => have := HJ5.out; have := HK2.out; omega
                                case rel => exact ⟨(y116), (wrap64 (x7_2 + 1)), (wrap64 (x7_2 + 1)), (by first | rfl | (simp; done) | (simp [*]; done)), (by first | rfl | (simp; done) | (simp [*]; done)), H', ⟨by have := HJ5.out; have := HK2.out; omega⟩, ⟨by (with_reducible repeat (first | apply Kd.R_alloc | apply Kd.R_drewN | apply Kd.R_drew)); exact HO118.out⟩, ⟨by repeat (first | (with_reducible first | exact HB.out | apply below_alloc | apply pw_below_drewN | apply below_drew1) | exact HB.out)⟩⟩
                              · rw [if_neg c25] at H
                                exact absurd H (by simp)
                            · rw [if_neg c24] at H
                              exact absurd H (by simp)
                          · rw [if_neg c23] at H
                            exact absurd H (by simp)
                        · rw [if_neg c22] at H
                          exact absurd H (by simp)
                    · rw [if_neg c20] at H
                      have c20b0 : ((bt a0 x7_2) == 124) = false := beq_eq_false_iff_ne.mpr c20
                      have c20b1 : ((bt a0 x7_2) != 124) = true := bne_iff_ne.mpr c20
                      have H' := Aside0.mk H
                      clear H
                      have p19 : 0 ≤ (x7_2 : Int) := of_decide_eq_true (by first | (with_reducible assumption) | assumption)
                      have q19 : x7_2 < (a0.size : Int) := of_decide_eq_true (by first | (with_reducible assumption) | assumption)
                      have hx19 := bt_at a0 x7_2
                      replace p19 := eq_true p19
                      replace q19 := eq_true q19
                      go_wp2
                      repeat (go_quiet (fail); try go_wp2)
                      go_roundg k2
                      case measure => have := HJ5.out; have := HK2.out; omega
                      case rel => exact ⟨(x5_2), (x6_2), (wrap64 (x7_2 + 1)), (by first | rfl | (simp; done) | (simp [*]; done)), (by first | rfl | (simp; done) | (simp [*]; done)), H', ⟨by have := HJ5.out; have := HK2.out; omega⟩, ⟨by (with_reducible repeat (first | apply Kd.R_alloc | apply Kd.R_drewN | apply Kd.R_drew)); exact HO_5.out⟩, ⟨by repeat (first | (with_reducible first | exact HB.out | apply below_alloc | apply pw_below_drewN | apply below_drew1) | exact HB.out)⟩⟩
                  · rw [if_neg c18] at H
                    exact absurd H (by simp)
                · rw [if_neg c17] at H
                  have c17b0 : decide (x7_2 < (a0.size : Int)) = false := decide_eq_false c17
                  clear c17
                  have H' := Aside0.mk H
                  clear H
                  go_wp2
                  repeat (go_quiet (fail); try go_wp2)
                  go_loopg [8] k2 (fun kq v8 w' => ∃ (x8_3 : Int), v8 = .int .i64 x8_3 ∧ Aside0 (feature_Parse.l1 kq x5_2 x8_3 = some (r1, r2)) ∧ Aside0 (kq ≤ k2) ∧ Aside0 (Kd.R Kd.string 9 w' w.heap.size (fun _ => True) u5 x5_2) ∧ Aside0 (Below w.heap.size w w'))
                  case atStart => exact ⟨(1), (by first | rfl | (simp; done) | (simp [*]; done)), H', ⟨Nat.le_refl _⟩, ⟨by (with_reducible repeat (first | apply Kd.R_alloc | apply Kd.R_drewN | apply Kd.R_drew)); exact HO_5.out⟩, ⟨by repeat (first | (with_reducible first | exact HB.out | apply below_alloc | apply pw_below_drewN | apply below_drew1) | exact HB.out)⟩⟩
                  case round =>
                    clear H'
                    try clear c1
                    try clear p1
                    try clear q1
                    try clear hx1
                    try clear qi1
                    try clear c2
                    try clear p2
                    try clear c3
                    try clear c3b0
                    try clear c3b1
                    try clear c4
                    try clear c4b0
                    try clear c4b1
                    try clear c5
                    try clear p6
                    try clear c8
                    try clear c8b0
                    try clear c8b1
                    try clear c9
                    try clear c9b0
                    try clear c9b1
                    try clear p10
                    try clear q10
                    try clear hx10
                    try clear qi10
                    try clear c11
                    try clear c11b0
                    try clear c11b1
                    try clear c13
                    try clear c13b0
                    try clear c14
                    try clear c14b0
                    try clear p15
                    try clear q15
                    try clear hx15
                    try clear c16
                    try clear c17
                    try clear c17b0
                    try clear c18
                    try clear c18b0
                    try clear p19
                    try clear q19
                    try clear hx19
                    try clear c20
                    try clear c20b0
                    try clear c20b1
                    try clear c21
                    try clear c21b0
                    try clear c21b1
                    try clear c22
                    try clear c22b0
                    try clear c22b1
                    try clear c23
                    try clear c23b0
                    try clear c23b1
                    try clear c24
                    try clear c24b0
                    try clear c24b1
                    try clear c25
                    try clear p1
                    try clear p10
                    try clear p15
                    try clear p19
                    try clear p2
                    try clear p6
                    try clear q1
                    try clear q10
                    try clear q15
                    try clear q19
                    obtain ⟨x8_3, rfl, HA, HK3, HO_5, HB⟩ := hrel
                    cases gk with
                    | zero => exact absurd HA.out (by simp [feature_Parse.l1])
                    | succ k3 =>
                      have H := HA.out
                      clear HA
                      simp only [feature_Parse.l1] at H
                      by_cases c27 : x8_3 < (x5_2.length : Int)
                      · rw [if_pos c27] at H
                        have c27b0 : decide (x8_3 < (x5_2.length : Int)) = true := decide_eq_true c27
                        clear c27
                        obtain ⟨ji28, hji28⟩ : ∃ j_ : Int, (wrap64 (x8_3 - 1)) = j_ := ⟨_, rfl⟩
                        replace H : (if 0 ≤ (ji28) then (if (ji28) < (x5_2.length : Int) then (if 0 ≤ x8_3 then (if ((Op.bytesLess ((rdOf ByteArray.empty x5_2 (ji28)).toList) ((rdOf ByteArray.empty x5_2 x8_3).toList)) = true) then (feature_Parse.l1 k3 x5_2 (wrap64 (x8_3 + 1))) else (some (([] : List ByteArray), 6))) else (none)) else (none)) else (none)) = some (r1, r2) := by first | (rw [hji28] at H; exact H) | (simp only [hji28] at H ⊢; exact H)
                        have hji28w : (IntKind.i64.wrap (x8_3 - 1)) = ji28 := (i64_w _).trans hji28
                        by_cases c29 : 0 ≤ (ji28)
                        · rw [if_pos c29] at H
                          have c29b0 : decide (0 ≤ (ji28)) = true := decide_eq_true c29
                          clear c29
                          by_cases c30 : (ji28) < (x5_2.length : Int)
                          · rw [if_pos c30] at H
                            have c30b0 : decide ((ji28) < (x5_2.length : Int)) = true := decide_eq_true c30
                            clear c30
                            by_cases c31 : 0 ≤ x8_3
                            · rw [if_pos c31] at H
                              have c31b0 : decide (0 ≤ x8_3) = true := decide_eq_true c31
                              clear c31
                              by_cases c32 : ((Op.bytesLess ((rdOf ByteArray.empty x5_2 (ji28)).toList) ((rdOf ByteArray.empty x5_2 x8_3).toList)) = true)
                              · rw [if_pos c32] at H
                                have c32b0 : (Op.bytesLess ((rdOf ByteArray.empty x5_2 (ji28)).toList) ((rdOf ByteArray.empty x5_2 x8_3).toList)) = true := c32
                                clear c32
                                have H' := Aside0.mk H
                                clear H
                                obtain ⟨Ao33, co33, eo33⟩ := Kd.R_slice HO_5.out
                                subst eo33
                                have p119 : 0 ≤ ((ji28) : Int) := of_decide_eq_true (by first | (with_reducible assumption) | assumption)
                                have q119 : (ji28) < (x5_2.length : Int) := of_decide_eq_true (by first | (with_reducible assumption) | assumption)
                                obtain ⟨ad119, e119, hx119_0⟩ := Kd.at_string (Kd.R_reads' HO_5.out).2.2 (ji28) p119 q119
                                cases e119
                                replace p119 := eq_true p119
                                replace q119 := eq_true q119
                                have p120 : 0 ≤ (x8_3 : Int) := of_decide_eq_true (by first | (with_reducible assumption) | assumption)
                                have q120 : x8_3 < (x5_2.length : Int) := of_decide_eq_true (by first | (with_reducible assumption) | assumption)
                                obtain ⟨ad120, e120, hx120_0⟩ := Kd.at_string (Kd.R_reads' HO_5.out).2.2 x8_3 p120 q120
                                obtain rfl : ad119 = ad120 := (by injection e120)
                                replace p120 := eq_true p120
                                replace q120 := eq_true q120
                                go_wp2
                                repeat (go_quiet (fail); try go_wp2)
                                go_roundg k3
                                case measure => have := HJ5.out; have := HK2.out; have := HK3.out; omega
                                case rel => exact ⟨(wrap64 (x8_3 + 1)), (by first | rfl | (simp; done) | (simp [*]; done)), H', ⟨by have := HJ5.out; have := HK2.out; have := HK3.out; omega⟩, ⟨by (with_reducible repeat (first | apply Kd.R_alloc | apply Kd.R_drewN | apply Kd.R_drew)); exact HO_5.out⟩, ⟨by repeat (first | (with_reducible first | exact HB.out | apply below_alloc | apply pw_below_drewN | apply below_drew1) | exact HB.out)⟩⟩
                              · rw [if_neg c32] at H
                                have c32b0 : (Op.bytesLess ((rdOf ByteArray.empty x5_2 (ji28)).toList) ((rdOf ByteArray.empty x5_2 x8_3).toList)) = false := by simpa using c32
                                clear c32
                                simp only [Option.some.injEq, Prod.mk.injEq] at H
                                obtain ⟨rfl, rfl⟩ := H
                                obtain ⟨Ao34, co34, eo34⟩ := Kd.R_slice HO_5.out
                                subst eo34
                                have p119 : 0 ≤ ((ji28) : Int) := of_decide_eq_true (by first | (with_reducible assumption) | assumption)
                                have q119 : (ji28) < (x5_2.length : Int) := of_decide_eq_true (by first | (with_reducible assumption) | assumption)
                                obtain ⟨ad119, e119, hx119_0⟩ := Kd.at_string (Kd.R_reads' HO_5.out).2.2 (ji28) p119 q119
                                cases e119
                                replace p119 := eq_true p119
                                replace q119 := eq_true q119
                                have p120 : 0 ≤ (x8_3 : Int) := of_decide_eq_true (by first | (with_reducible assumption) | assumption)
                                have q120 : x8_3 < (x5_2.length : Int) := of_decide_eq_true (by first | (with_reducible assumption) | assumption)
                                obtain ⟨ad120, e120, hx120_0⟩ := Kd.at_string (Kd.R_reads' HO_5.out).2.2 x8_3 p120 q120
                                obtain rfl : ad119 = ad120 := (by injection e120)
                                replace p120 := eq_true p120
                                replace q120 := eq_true q120
                                go_wp2
                                repeat (go_quiet (fail); try go_wp2)
                                go_ret2
                                exact ⟨_, by first | rfl | (simp [errW_none, errW_some] <;> rfl) | (simp only [← hji28]; first | rfl | (simp [errW_none, errW_some] <;> rfl)) | (simp [*, errW_none, errW_some] <;> rfl), by first | exact Kd.R_nil _ _ _ _ _ | exact Kd.N_nil _ _ _ _ _ | exact Kd.V_nil _ _ _ _ _ | exact Kd.Q_nil _ _ _ _ _ | exact Kd.S_nil _ _ _ _ _, by repeat (first | (with_reducible first | exact HB.out | apply below_alloc | apply pw_below_drewN | apply below_drew1) | exact HB.out)⟩
                            · rw [if_neg c31] at H
                              exact absurd H (by simp)
                          · rw [if_neg c30] at H
                            exact absurd H (by simp)
                        · rw [if_neg c29] at H
                          exact absurd H (by simp)
                      · rw [if_neg c27] at H
                        have c27b0 : decide (x8_3 < (x5_2.length : Int)) = false := decide_eq_false c27
                        clear c27
                        simp only [Option.some.injEq, Prod.mk.injEq] at H
                        obtain ⟨rfl, rfl⟩ := H
                        obtain ⟨Ao35, co35, eo35⟩ := Kd.R_slice HO_5.out
                        subst eo35
                        go_wp2
                        repeat (go_quiet (fail); try go_wp2)
                        go_ret2
                        exact ⟨_, by first | rfl | (simp [errW_none, errW_some] <;> rfl) | (simp [*, errW_none, errW_some] <;> rfl), by (with_reducible repeat (first | apply Kd.R_alloc | apply Kd.R_drewN | apply Kd.R_drew)); exact HO_5.out, by repeat (first | (with_reducible first | exact HB.out | apply below_alloc | apply pw_below_drewN | apply below_drew1) | exact HB.out)⟩
  · rw [if_neg c3] at H
    have c3b0 : (t115 == 0) = false := beq_eq_false_iff_ne.mpr c3
    have c3b1 : (t115 != 0) = true := bne_iff_ne.mpr c3
    simp only [Option.some.injEq, Prod.mk.injEq] at H
    obtain ⟨rfl, rfl⟩ := H
    go_enter Tryd.func56, Tryd.ntmps56
    go_wp2_with (first | (go_at_call 55; (with_reducible refine (markup_ValidValue.calls a0 t115 _ A2.out).mono ?_); rintro e w36 ⟨rfl, hb⟩; have n0_ := Aside0.mk (below_step (by repeat (first | (with_reducible first | exact HB.out | apply below_alloc | apply pw_below_drewN | apply below_drew1) | exact HB.out)) hb); clear HB; have HB := n0_; clear n0_; (try clear hb); (try clear hb2); (try clear hk); (try clear hi)))
    repeat (go_quiet (first | (go_at_call 55; (with_reducible refine (markup_ValidValue.calls a0 t115 _ A2.out).mono ?_); rintro e w36 ⟨rfl, hb⟩; have n0_ := Aside0.mk (below_step (by repeat (first | (with_reducible first | exact HB.out | apply below_alloc | apply pw_below_drewN | apply below_drew1) | exact HB.out)) hb); clear HB; have HB := n0_; clear n0_; (try clear hb); (try clear hb2); (try clear hk); (try clear hi))); try go_wp2_with (first | (go_at_call 55; (with_reducible refine (markup_ValidValue.calls a0 t115 _ A2.out).mono ?_); rintro e w36 ⟨rfl, hb⟩; have n0_ := Aside0.mk (below_step (by repeat (first | (with_reducible first | exact HB.out | apply below_alloc | apply pw_below_drewN | apply below_drew1) | exact HB.out)) hb); clear HB; have HB := n0_; clear n0_; (try clear hb); (try clear hb2); (try clear hk); (try clear hi))))
    go_ret2
    exact ⟨_, by first | rfl | (simp [errW_none, errW_some] <;> rfl) | (simp [*, errW_none, errW_some] <;> rfl), by first | exact Kd.R_nil _ _ _ _ _ | exact Kd.N_nil _ _ _ _ _ | exact Kd.V_nil _ _ _ _ _ | exact Kd.Q_nil _ _ _ _ _ | exact Kd.S_nil _ _ _ _ _, by repeat (first | (with_reducible first | exact HB.out | apply below_alloc | apply pw_below_drewN | apply below_drew1) | exact HB.out)⟩

end Go.Proofs.YtebajpebongabaaDoor.P
