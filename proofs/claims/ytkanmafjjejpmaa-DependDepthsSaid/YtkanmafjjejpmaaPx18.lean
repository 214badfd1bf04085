-- Written by a program of this session (wip/doprint.sh) out of the translation; Lean checks it.
import Derived.Test.YtkanmafjjejpmaaPx0
import Derived.Test.YtkanmafjjejpmaaPx2
import Derived.Test.YtkanmafjjejpmaaPx5
import Derived.Test.YtkanmafjjejpmaaPx16
import Derived.Test.YtkanmafjjejpmaaPx17
namespace Go.Proofs.Ytkanmafjjejpmaa.P
open Go.Proofs.Ytkanmafjjejpmaa.S
open Go.Proofs.Ytkanmafjjejpmaa.X
open Go.RowKit Go.Proofs.YtkanmafjjejpmaaW.PrintWords Go.Proofs.YtkanmafjjejpmaaW.PrintLast Go.Proofs.YtkanmafjjejpmaaW.PrintMore
attribute [local go_sem] max2_int min2_int max_two min_two max_three min_three max_four min_four   -- for this text's walks alone
set_option linter.unusedVariables false
set_option linter.unusedSimpArgs false

/-! ### corporalaw09_DependDepths: function 4 -/
def corporalaw09_DependDepths.j0 : Nat → List Int → Int → Int → Bool → Option (Bool)
  | 0, _, _, _, _ => none
  | k + 1, x0, x1, x5, x48 => if x48 = true then (some false) else ((corporaref09_Depth.f k x0 x1).bind fun t291 => (if x5 = t291 then ((corporalaw09_awake.f k).bind fun t292 => (some t292)) else (some false)))
def corporalaw09_DependDepths.f (k : Nat) (l0 : List Int) (a1 : Int) : Option (Bool) := if (l0.length : Int) > 100 then (some true) else ((depend_Depth.f k l0 a1).bind fun t285 => ((depend_Check.f k l0).bind fun bt286 => (if bt286.2 = 0 then (if a1 ≥ 0 then (if a1 < (l0.length : Int) then (if 0 ≤ a1 then (if (rd l0 a1) ≥ 0 then ((depend_Depth.f k l0 (rd l0 a1)).bind fun t290 => (corporalaw09_DependDepths.j0 k l0 a1 t285 (t290 != (wrap64 (t285 - 1))))) else (corporalaw09_DependDepths.j0 k l0 a1 t285 false)) else (none)) else (corporalaw09_DependDepths.j0 k l0 a1 t285 false)) else (corporalaw09_DependDepths.j0 k l0 a1 t285 false)) else (corporalaw09_DependDepths.j0 k l0 a1 t285 false))))
theorem corporalaw09_DependDepths.mono_l : ∀ k, (∀ y0 y1 y2 y3, LeO (corporalaw09_DependDepths.j0 k y0 y1 y2 y3) (corporalaw09_DependDepths.j0 (k + 1) y0 y1 y2 y3))
 | 0 => fun _ _ _ _ r h => by simp [corporalaw09_DependDepths.j0] at h
 | k + 1 => by
  have ih0 := corporalaw09_DependDepths.mono_l k
  ·
   intro y0 y1 y2 y3
   unfold corporalaw09_DependDepths.j0
   with_reducible repeat' first | exact ih0 _ _ _ _ | exact corporalaw09_awake.mono _ | exact corporaref09_Depth.mono _ _ _ | exact depend_Check.mono _ _ | exact depend_Depth.mono _ _ _ | exact LeO.refl _ | exact LeO.none _ | refine LeO.ite ?_ ?_ | refine LeO.bind ?_ (fun _ => ?_)
theorem corporalaw09_DependDepths.mono : ∀ a0 a1 k, LeO (corporalaw09_DependDepths.f k a0 a1) (corporalaw09_DependDepths.f (k + 1) a0 a1) := by
 intro a0 a1 k
 have ih0 := corporalaw09_DependDepths.mono_l k
 unfold corporalaw09_DependDepths.f
 with_reducible repeat' first | exact ih0 _ _ _ _ | exact corporalaw09_awake.mono _ | exact corporaref09_Depth.mono _ _ _ | exact depend_Check.mono _ _ | exact depend_Depth.mono _ _ _ | exact LeO.refl _ | exact LeO.none _ | refine LeO.ite ?_ ?_ | refine LeO.bind ?_ (fun _ => ?_)
set_option maxHeartbeats 8000000 in
set_option maxRecDepth 100000 in
theorem corporalaw09_DependDepths.calls (k : Nat) (A0 : Option Addr) (c0 : Nat) (l0 : List Int) (a1 : Int) (r : Bool) (w : World) (hr0 : Kd.C (Kd.int .i64) w A0 l0.length l0) (hc0 : l0.length ≤ c0) (h : corporalaw09_DependDepths.f k l0 a1 = some r) :
 Calls Try.prog 4 #[.slice A0 l0.length c0, .int .i64 a1] w fun e w' => e = .returned (.bool r) ∧ Below w.heap.size w w' := by
 have HR0 := Aside0.mk hr0
 have HC0 := Aside0.mk hc0
 clear hr0 hc0
 have HB := Aside0.mk (Below.refl w.heap.size w)
 have H : (if (l0.length : Int) > 100 then (some true) else ((depend_Depth.f k l0 a1).bind fun t285 => ((depend_Check.f k l0).bind fun bt286 => (if bt286.2 = 0 then (if a1 ≥ 0 then (if a1 < (l0.length : Int) then (if 0 ≤ a1 then (if (rd l0 a1) ≥ 0 then ((depend_Depth.f k l0 (rd l0 a1)).bind fun t290 => (corporalaw09_DependDepths.j0 k l0 a1 t285 (t290 != (wrap64 (t285 - 1))))) else (corporalaw09_DependDepths.j0 k l0 a1 t285 false)) else (none)) else (corporalaw09_DependDepths.j0 k l0 a1 t285 false)) else (corporalaw09_DependDepths.j0 k l0 a1 t285 false)) else (corporalaw09_DependDepths.j0 k l0 a1 t285 false))))) = some r := h
 clear h
 by_cases c3 : (l0.length : Int) > 100
 ·
  rw [if_pos c3] at H
  have c3b0 : decide (100 < (l0.length : Int)) = true := decide_eq_true c3
  have c3b1 : decide (100 < l0.length) = true := decide_eq_true (by omega)
  clear c3
  obtain rfl := Option.some.inj H
  go_enter Try.func4, Try.ntmps4
  go_wp2
  go_ret
  exact ⟨BX, BB⟩
 ·
  rw [if_neg c3] at H
  have c3b0 : decide (100 < (l0.length : Int)) = false := decide_eq_false c3
  have c3b1 : decide (100 < l0.length) = false := decide_eq_false (by omega)
  clear c3
  replace H := Option.bind_eq_some_iff.mp H
  obtain ⟨t285, A40, H⟩ := H
  replace H : ((depend_Check.f k l0).bind fun bt286 => (if bt286.2 = 0 then (if a1 ≥ 0 then (if a1 < (l0.length : Int) then (if 0 ≤ a1 then (if (rd l0 a1) ≥ 0 then ((depend_Depth.f k l0 (rd l0 a1)).bind fun t290 => (corporalaw09_DependDepths.j0 k l0 a1 t285 (t290 != (wrap64 (t285 - 1))))) else (corporalaw09_DependDepths.j0 k l0 a1 t285 false)) else (none)) else (corporalaw09_DependDepths.j0 k l0 a1 t285 false)) else (corporalaw09_DependDepths.j0 k l0 a1 t285 false)) else (corporalaw09_DependDepths.j0 k l0 a1 t285 false))) = some r := H
  have A4 := Aside0.mk A40
  clear A40
  replace H := Option.bind_eq_some_iff.mp H
  obtain ⟨⟨t286, t287⟩, A50, H⟩ := H
  replace H : (if t287 = 0 then (if a1 ≥ 0 then (if a1 < (l0.length : Int) then (if 0 ≤ a1 then (if (rd l0 a1) ≥ 0 then ((depend_Depth.f k l0 (rd l0 a1)).bind fun t290 => (corporalaw09_DependDepths.j0 k l0 a1 t285 (t290 != (wrap64 (t285 - 1))))) else (corporalaw09_DependDepths.j0 k l0 a1 t285 false)) else (none)) else (corporalaw09_DependDepths.j0 k l0 a1 t285 false)) else (corporalaw09_DependDepths.j0 k l0 a1 t285 false)) else (corporalaw09_DependDepths.j0 k l0 a1 t285 false)) = some r := H
  have A5 := Aside0.mk A50
  clear A50
  have HC6 := Aside0.mk H
  clear H
  go_enter Try.func4, Try.ntmps4
  go_upto_region 5 with (first | ((with_reducible refine gate_callee (f := 14) rfl ?_); refine goesL_ (some 13) rfl rfl Try.func14 (by kernel_rfl) rfl #[.slice A0 l0.length c0, .int .i64 a1] rfl BM ?_; (with_reducible refine (depend_Depth.calls k _ _ l0 a1 t285 _ ?side1 ?side2 A4.out).mono ?_); (case side1 => exact BK HR0.out); (case side2 => exact HC0.out); rintro e w7 ⟨rfl, hb⟩; refine ⟨_, rfl, ?_⟩; have n0_ := Aside0.mk (below_step (BB) hb); clear HB; have HB := n0_; clear n0_; (try clear hb); (try clear hb2); (try clear hk); (try clear hi)) | ((with_reducible refine gate_callee (f := 11) rfl ?_); refine goesL_ (some 16) rfl rfl Try.func11 (by kernel_rfl) rfl #[.slice A0 l0.length c0] rfl BM ?_; (with_reducible refine (depend_Check.calls k _ _ l0 t286 t287 _ ?side1 ?side2 A5.out).mono ?_); (case side1 => exact BC HR0.out); (case side2 => exact HC0.out); rintro e w8 ⟨rfl, hb⟩; refine ⟨_, rfl, ?_⟩; have n0_ := Aside0.mk (below_step (BB) hb); clear HB; have HB := n0_; clear n0_; (try clear hb); (try clear hb2); (try clear hk); (try clear hi)))
  (try simp only [Act.put, List.setIfInBounds_toArray, List.set_cons_zero, List.set_cons_succ])
  go_cut [48] (fun v48 wc => ∃ (kq : Nat) (x48_5 : Bool), v48 = .bool x48_5 ∧ Aside0 (corporalaw09_DependDepths.j0 kq l0 a1 t285 x48_5 = some r) ∧ Aside0 (kq ≤ k) ∧ Aside0 (Below w.heap.size w wc))
  case first =>
   have H := HC6.out
   clear HC6
   by_cases c9 : t287 = 0
   ·
    rw [if_pos c9] at H
    have c9b0 : (t287 == 0) = true := beq_iff_eq.mpr c9
    have c9b1 : (t287 != 0) = false := bne_eq_false_iff_eq.mpr c9
    clear c9
    (first | rw [c9b0] | rw [c9b1] | (simp only [i64_w, i32_w]; rw [c9b0]) | skip)
    by_cases c10 : a1 ≥ 0
    ·
     rw [if_pos c10] at H
     have c10b0 : decide (0 ≤ a1) = true := decide_eq_true c10
     clear c10
     by_cases c11 : a1 < (l0.length : Int)
     ·
      rw [if_pos c11] at H
      have c11b0 : decide (a1 < (l0.length : Int)) = true := decide_eq_true c11
      clear c11
      by_cases c12 : 0 ≤ a1
      ·
       rw [if_pos c12] at H
       have c12b0 : decide (0 ≤ a1) = true := decide_eq_true c12
       clear c12
       by_cases c13 : (rd l0 a1) ≥ 0
       ·
        rw [if_pos c13] at H
        have c13b0 : decide (0 ≤ (rd l0 a1)) = true := decide_eq_true c13
        clear c13
        replace H := Option.bind_eq_some_iff.mp H
        obtain ⟨t290, A140, H⟩ := H
        replace H : (corporalaw09_DependDepths.j0 k l0 a1 t285 (t290 != (wrap64 (t285 - 1)))) = some r := H
        have A14 := Aside0.mk A140
        clear A140
        have H' := Aside0.mk H
        clear H
        have p288 : 0 ≤ (a1 : Int) := OD
        have q288 : a1 < (l0.length : Int) := OD
        obtain ⟨ad288, e288, hx288_0⟩ := Kd.at_int HR0.out a1 p288 q288
        cases e288
        replace hx288_0 := (HB.out.cell (World.block_lt_of_cell? w _ hx288_0)).trans hx288_0
        replace p288 := eq_true p288
        replace q288 := eq_true q288
        have p289 : 0 ≤ (a1 : Int) := OD
        have q289 : a1 < (l0.length : Int) := OD
        obtain ⟨ad289, e289, hx289_0⟩ := Kd.at_int HR0.out a1 p289 q289
        obtain rfl : ad288 = ad289 := (by injection e289)
        replace hx289_0 := (HB.out.cell (World.block_lt_of_cell? w _ hx289_0)).trans hx289_0
        replace p289 := eq_true p289
        replace q289 := eq_true q289
        go_wp2_with (first | (go_at_call 14; (with_reducible refine (depend_Depth.calls k _ _ l0 (rd l0 a1) t290 _ ?side1 ?side2 A14.out).mono ?_); (case side1 => exact BC HR0.out); (case side2 => exact HC0.out); rintro e w15 ⟨rfl, hb⟩; have n0_ := Aside0.mk (below_step (BB) hb); clear HB; have HB := n0_; clear n0_; (try clear hb); (try clear hb2); (try clear hk); (try clear hi)))
        go_meet
        case rel => exact ⟨_, ((t290 != (wrap64 (t285 - 1)))), (BE), H', ⟨by first | omega | exact Nat.le_refl _⟩, ⟨BB⟩⟩
       ·
        rw [if_neg c13] at H
        have c13b0 : decide (0 ≤ (rd l0 a1)) = false := decide_eq_false c13
        clear c13
        have H' := Aside0.mk H
        clear H
        have p288 : 0 ≤ (a1 : Int) := OD
        have q288 : a1 < (l0.length : Int) := OD
        obtain ⟨ad288, e288, hx288_0⟩ := Kd.at_int HR0.out a1 p288 q288
        cases e288
        replace hx288_0 := (HB.out.cell (World.block_lt_of_cell? w _ hx288_0)).trans hx288_0
        replace p288 := eq_true p288
        replace q288 := eq_true q288
        go_wp2
        go_meet
        case rel => exact ⟨_, (false), (BE), H', ⟨by first | omega | exact Nat.le_refl _⟩, ⟨BB⟩⟩
      ·
       rw [if_neg c12] at H
       exact absurd H (by simp)
     ·
      rw [if_neg c11] at H
      have c11b0 : decide (a1 < (l0.length : Int)) = false := decide_eq_false c11
      clear c11
      have H' := Aside0.mk H
      clear H
      go_wp2
      go_meet
      case rel => exact ⟨_, (false), (BE), H', ⟨by first | omega | exact Nat.le_refl _⟩, ⟨BB⟩⟩
    ·
     rw [if_neg c10] at H
     have c10b0 : decide (0 ≤ a1) = false := decide_eq_false c10
     clear c10
     have H' := Aside0.mk H
     clear H
     go_wp2
     go_meet
     case rel => exact ⟨_, (false), (BE), H', ⟨by first | omega | exact Nat.le_refl _⟩, ⟨BB⟩⟩
   ·
    rw [if_neg c9] at H
    have c9b0 : (t287 == 0) = false := beq_eq_false_iff_ne.mpr c9
    have c9b1 : (t287 != 0) = true := bne_iff_ne.mpr c9
    (first | rw [c9b0] | rw [c9b1] | (simp only [i64_w, i32_w]; rw [c9b0]) | skip)
    have H' := Aside0.mk H
    clear H
    go_wp2
    go_meet
    case rel => exact ⟨_, (false), (BE), H', ⟨by first | omega | exact Nat.le_refl _⟩, ⟨BB⟩⟩
  case rest =>
   clear HC6
   (try clear c1); (try clear p2); (try clear q2); (try clear hx2); (try clear c3); (try clear c3b0); (try clear c3b1); (try clear c4); (try clear p6); (try clear c9); (try clear c9b0); (try clear c9b1); (try clear c10)
   (try clear c10b0); (try clear c11); (try clear c11b0); (try clear c12); (try clear c12b0); (try clear c13); (try clear c13b0); (try clear c14); (try clear hx288_0); (try clear hx289_0); (try clear p288); (try clear p289)
   (try clear q288); (try clear q289)
   obtain ⟨kq, x48_5, rfl, HA, HJ5, HB⟩ := hcut
   cases kq with
   | zero => exact absurd HA.out (by simp [corporalaw09_DependDepths.j0])
   | succ kj5 =>
    have H := HA.out
    clear HA
    simp only [corporalaw09_DependDepths.j0] at H
    by_cases c16 : x48_5 = true
    ·
     subst c16
     have H1 : (some false) = some r := by rw [if_pos rfl] at H; exact H
     clear H
     have H := H1
     clear H1
     obtain rfl := Option.some.inj H
     go_wp2
     go_ret
     exact ⟨BX, BB⟩
    ·
     replace c16 := Bool.eq_false_iff.mpr c16
     subst c16
     have H1 : ((corporaref09_Depth.f kj5 l0 a1).bind fun t291 => (if t285 = t291 then ((corporalaw09_awake.f kj5).bind fun t292 => (some t292)) else (some false))) = some r := by rw [if_neg (show ¬ (false = true) by decide)] at H; exact H
     clear H
     have H := H1
     clear H1
     replace H := Option.bind_eq_some_iff.mp H
     obtain ⟨t291, A170, H⟩ := H
     replace H : (if t285 = t291 then ((corporalaw09_awake.f kj5).bind fun t292 => (some t292)) else (some false)) = some r := H
     have A17 := Aside0.mk A170
     clear A170
     by_cases c18 : t285 = t291
     ·
      rw [if_pos c18] at H
      have c18b0 : (t285 == t291) = true := beq_iff_eq.mpr c18
      have c18b1 : (t285 != t291) = false := bne_eq_false_iff_eq.mpr c18
      clear c18
      replace H := Option.bind_eq_some_iff.mp H
      obtain ⟨t292, A190, H⟩ := H
      replace H : (some t292) = some r := H
      have A19 := Aside0.mk A190
      clear A190
      obtain rfl := Option.some.inj H
      go_wp2_with (first | ((with_reducible refine gate_callee (f := 15) rfl ?_); refine goesL_ (some 52) rfl rfl Try.func15 (by kernel_rfl) rfl #[.slice A0 l0.length c0, .int .i64 a1] rfl BM ?_; (with_reducible refine (corporaref09_Depth.calls kj5 _ _ l0 a1 t291 _ ?side1 ?side2 A17.out).mono ?_); (case side1 => exact BC HR0.out); (case side2 => exact HC0.out); rintro e w20 ⟨rfl, hb⟩; refine ⟨_, rfl, ?_⟩; have n0_ := Aside0.mk (below_step (BB) hb); clear HB; have HB := n0_; clear n0_; (try clear hb); (try clear hb2); (try clear hk); (try clear hi)) | (go_at_call 13; (with_reducible refine (corporalaw09_awake.calls kj5  t292 _ A19.out).mono ?_); rintro e w21 ⟨rfl, hb⟩; have n0_ := Aside0.mk (below_step (BB) hb); clear HB; have HB := n0_; clear n0_; (try clear hb); (try clear hb2); (try clear hk); (try clear hi)))
      go_ret
      exact ⟨BX, BB⟩
     ·
      rw [if_neg c18] at H
      have c18b0 : (t285 == t291) = false := beq_eq_false_iff_ne.mpr c18
      have c18b1 : (t285 != t291) = true := bne_iff_ne.mpr c18
      obtain rfl := Option.some.inj H
      go_wp2_with (first | ((with_reducible refine gate_callee (f := 15) rfl ?_); refine goesL_ (some 52) rfl rfl Try.func15 (by kernel_rfl) rfl #[.slice A0 l0.length c0, .int .i64 a1] rfl BM ?_; (with_reducible refine (corporaref09_Depth.calls kj5 _ _ l0 a1 t291 _ ?side1 ?side2 A17.out).mono ?_); (case side1 => exact BC HR0.out); (case side2 => exact HC0.out); rintro e w22 ⟨rfl, hb⟩; refine ⟨_, rfl, ?_⟩; have n0_ := Aside0.mk (below_step (BB) hb); clear HB; have HB := n0_; clear n0_; (try clear hb); (try clear hb2); (try clear hk); (try clear hi)))
      go_ret
      exact ⟨BX, BB⟩

/-- THE ONE PURE STATEMENT of corporalaw09_DependDepths: yours. -/
def corporalaw09_DependDepths.Pure : Prop := ∀ (l0 : List Int) (a1 : Int), l0.length ≤ maxLen → l0.length * 8 ≤ 140737488351232 → (∀ x ∈ l0, (Lit.int .i64 x).wf = true) → (Lit.int .i64 a1).wf = true → ∃ k, corporalaw09_DependDepths.f k l0 a1 = some true
theorem corporalaw09_DependDepths.walk (P : corporalaw09_DependDepths.Pure) (a0 : Option Addr) (len0 cap0 : Nat) (z0 : List Int) (a1 : Int) (w : World) (w0 : (a0 = none ∧ len0 = 0 ∧ cap0 = 0 ∧ z0 = []) ∨ ∃ x, a0 = some x ∧ len0 ≤ cap0 ∧ cap0 ≤ maxLen ∧ z0.length = cap0 ∧ (∀ i, i < z0.length → w.cell? (x.add i) = some (.int .i64 (z0.getD i 0))) ∧ ∀ n ∈ z0, (Lit.int .i64 n).wf = true) (y0 : len0 * 8 ≤ 140737488351232) (w1 : (Lit.int .i64 a1).wf = true) :
 Calls Try.prog 4 #[.slice a0 len0 cap0, .int .i64 a1] w fun e w' => e = .returned (.bool true) ∧ Below w.heap.size w w' := by
 obtain ⟨l0, rfl, hr0, hm0, hw0, hc0⟩ := ReadsInt.ofRowC w0
 obtain ⟨k, h⟩ := P l0 a1 hm0 y0 hw0 w1
 refine (corporalaw09_DependDepths.calls k _ _ l0 a1 true w (Kd.C_of_reads (d := (0 : Int)) (h1 := fun _ => rfl) hr0) hc0 h).mono ?_
 rintro e w' ⟨rfl, hd⟩
 exact ⟨rfl, hd⟩

end Go.Proofs.Ytkanmafjjejpmaa.P
