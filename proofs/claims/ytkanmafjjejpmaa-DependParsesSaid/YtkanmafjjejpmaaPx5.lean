-- Written by a program of this session (wip/doprint.sh) out of the translation; Lean checks it.
import Derived.Test.YtkanmafjjejpmaaPx0
import Derived.Test.YtkanmafjjejpmaaPx2
namespace Go.Proofs.Ytkanmafjjejpmaa.P
open Go.Proofs.Ytkanmafjjejpmaa.S
open Go.Proofs.Ytkanmafjjejpmaa.X
open Go.RowKit Go.Proofs.YtkanmafjjejpmaaW.PrintWords Go.Proofs.YtkanmafjjejpmaaW.PrintLast Go.Proofs.YtkanmafjjejpmaaW.PrintMore
attribute [local go_sem] max2_int min2_int max_two min_two max_three min_three max_four min_four   -- for this text's walks alone
set_option linter.unusedVariables false
set_option linter.unusedSimpArgs false

/-! ### depend_usable: function 26 -/
def depend_usable.f (k : Nat) (l0 : List Int) (a1 : Int) : Option (Bool) := (depend_Check.f k l0).bind fun bt115 => (if bt115.2 = 0 then (if a1 ≥ 0 then (some (decide (a1 < (l0.length : Int)))) else (some false)) else (some false))
theorem depend_usable.mono : ∀ a0 a1 k, LeO (depend_usable.f k a0 a1) (depend_usable.f (k + 1) a0 a1) := by
 intro a0 a1 k
 unfold depend_usable.f
 with_reducible repeat' first | exact depend_Check.mono _ _ | exact LeO.refl _ | exact LeO.none _ | refine LeO.ite ?_ ?_ | refine LeO.bind ?_ (fun _ => ?_)
set_option maxHeartbeats 8000000 in
set_option maxRecDepth 100000 in
theorem depend_usable.calls (k : Nat) (A0 : Option Addr) (c0 : Nat) (l0 : List Int) (a1 : Int) (r : Bool) (w : World) (hr0 : Kd.C (Kd.int .i64) w A0 l0.length l0) (hc0 : l0.length ≤ c0) (h : depend_usable.f k l0 a1 = some r) :
 Calls Try.prog 26 #[.slice A0 l0.length c0, .int .i64 a1] w fun e w' => e = .returned (.bool r) ∧ Below w.heap.size w w' := by
 have HR0 := Aside0.mk hr0
 have HC0 := Aside0.mk hc0
 clear hr0 hc0
 have HB := Aside0.mk (Below.refl w.heap.size w)
 have H : ((depend_Check.f k l0).bind fun bt115 => (if bt115.2 = 0 then (if a1 ≥ 0 then (some (decide (a1 < (l0.length : Int)))) else (some false)) else (some false))) = some r := h
 clear h
 replace H := Option.bind_eq_some_iff.mp H
 obtain ⟨⟨t115, t116⟩, A30, H⟩ := H
 replace H : (if t116 = 0 then (if a1 ≥ 0 then (some (decide (a1 < (l0.length : Int)))) else (some false)) else (some false)) = some r := H
 have A3 := Aside0.mk A30
 clear A30
 by_cases c4 : t116 = 0
 ·
  rw [if_pos c4] at H
  have c4b0 : (t116 == 0) = true := beq_iff_eq.mpr c4
  have c4b1 : (t116 != 0) = false := bne_eq_false_iff_eq.mpr c4
  clear c4
  by_cases c5 : a1 ≥ 0
  ·
   rw [if_pos c5] at H
   have c5b0 : decide (0 ≤ a1) = true := decide_eq_true c5
   clear c5
   obtain rfl := Option.some.inj H
   go_enter Try.func26, Try.ntmps26
   go_wp2_with (first | ((with_reducible refine gate_callee (f := 11) rfl ?_); refine goesL_ (some 9) rfl rfl Try.func11 (by kernel_rfl) rfl #[.slice A0 l0.length c0] rfl BM ?_; (with_reducible refine (depend_Check.calls k _ _ l0 t115 t116 _ ?side1 ?side2 A3.out).mono ?_); (case side1 => exact BK HR0.out); (case side2 => exact HC0.out); rintro e w6 ⟨rfl, hb⟩; refine ⟨_, rfl, ?_⟩; have n0_ := Aside0.mk (below_step (BB) hb); clear HB; have HB := n0_; clear n0_; (try clear hb); (try clear hb2); (try clear hk); (try clear hi)))
   go_ret
   exact ⟨BX, BB⟩
  ·
   rw [if_neg c5] at H
   have c5b0 : decide (0 ≤ a1) = false := decide_eq_false c5
   clear c5
   obtain rfl := Option.some.inj H
   go_enter Try.func26, Try.ntmps26
   go_wp2_with (first | ((with_reducible refine gate_callee (f := 11) rfl ?_); refine goesL_ (some 9) rfl rfl Try.func11 (by kernel_rfl) rfl #[.slice A0 l0.length c0] rfl BM ?_; (with_reducible refine (depend_Check.calls k _ _ l0 t115 t116 _ ?side1 ?side2 A3.out).mono ?_); (case side1 => exact BK HR0.out); (case side2 => exact HC0.out); rintro e w7 ⟨rfl, hb⟩; refine ⟨_, rfl, ?_⟩; have n0_ := Aside0.mk (below_step (BB) hb); clear HB; have HB := n0_; clear n0_; (try clear hb); (try clear hb2); (try clear hk); (try clear hi)))
   go_ret
   exact ⟨BX, BB⟩
 ·
  rw [if_neg c4] at H
  have c4b0 : (t116 == 0) = false := beq_eq_false_iff_ne.mpr c4
  have c4b1 : (t116 != 0) = true := bne_iff_ne.mpr c4
  obtain rfl := Option.some.inj H
  go_enter Try.func26, Try.ntmps26
  go_wp2_with (first | ((with_reducible refine gate_callee (f := 11) rfl ?_); refine goesL_ (some 9) rfl rfl Try.func11 (by kernel_rfl) rfl #[.slice A0 l0.length c0] rfl BM ?_; (with_reducible refine (depend_Check.calls k _ _ l0 t115 t116 _ ?side1 ?side2 A3.out).mono ?_); (case side1 => exact BK HR0.out); (case side2 => exact HC0.out); rintro e w8 ⟨rfl, hb⟩; refine ⟨_, rfl, ?_⟩; have n0_ := Aside0.mk (below_step (BB) hb); clear HB; have HB := n0_; clear n0_; (try clear hb); (try clear hb2); (try clear hk); (try clear hi)))
  go_ret
  exact ⟨BX, BB⟩

/-! ### depend_way: function 27 -/
def depend_way.l0 : Nat → List Int → Int → List Int → Option (List Int)
  | 0, _, _, _ => none
  | k + 1, x0, x1, x5 => if x1 ≥ 0 then (if x5.length < 17592186044416 then (if 0 ≤ x1 then (if x1 < (x0.length : Int) then (depend_way.l0 k x0 (rd x0 x1) (x5 ++ [x1])) else (none)) else (none)) else (none)) else (some x5)
def depend_way.f (k : Nat) (l0 : List Int) (a1 : Int) : Option (List Int) := depend_way.l0 k l0 a1 ([] : List Int)
theorem depend_way.mono_l : ∀ k, (∀ y0 y1 y2, LeO (depend_way.l0 k y0 y1 y2) (depend_way.l0 (k + 1) y0 y1 y2))
 | 0 => fun _ _ _ r h => by simp [depend_way.l0] at h
 | k + 1 => by
  have ih0 := depend_way.mono_l k
  ·
   intro y0 y1 y2
   unfold depend_way.l0
   with_reducible repeat' first | exact ih0 _ _ _ | exact LeO.refl _ | exact LeO.none _ | refine LeO.ite ?_ ?_ | refine LeO.bind ?_ (fun _ => ?_)
theorem depend_way.mono : ∀ a0 a1 k, LeO (depend_way.f k a0 a1) (depend_way.f (k + 1) a0 a1) := by
 intro a0 a1 k
 have ih0 := depend_way.mono_l k
 unfold depend_way.f
 with_reducible repeat' first | exact ih0 _ _ _ | exact LeO.refl _ | exact LeO.none _ | refine LeO.ite ?_ ?_ | refine LeO.bind ?_ (fun _ => ?_)
set_option maxHeartbeats 8000000 in
set_option maxRecDepth 100000 in
theorem depend_way.calls (k : Nat) (A0 : Option Addr) (c0 : Nat) (l0 : List Int) (a1 : Int) (r : List Int) (w : World) (hr0 : Kd.C (Kd.int .i64) w A0 l0.length l0) (hc0 : l0.length ≤ c0) (h : depend_way.f k l0 a1 = some r) :
 Calls Try.prog 27 #[.slice A0 l0.length c0, .int .i64 a1] w fun e w' => ∃ v0_ : Value, e = .returned (v0_) ∧ Kd.R (Kd.int .i64) 3 w' w.heap.size (fun _ => True) v0_ r ∧ Below w.heap.size w w' := by
 have HR0 := Aside0.mk hr0
 have HC0 := Aside0.mk hc0
 clear hr0 hc0
 have HB := Aside0.mk (Below.refl w.heap.size w)
 have H : (depend_way.l0 k l0 a1 ([] : List Int)) = some r := h
 clear h
 have H' := Aside0.mk H
 clear H
 go_enter Try.func27, Try.ntmps27
 go_wp2
 go_loopg [1, 5] k (fun kq v1 v5 w' => ∃ (x1_1 : Int) (x5_1 : List Int), v1 = .int .i64 x1_1 ∧ Aside0 (depend_way.l0 kq l0 x1_1 x5_1 = some r) ∧ Aside0 (kq ≤ k) ∧ Aside0 (Kd.R (Kd.int .i64) 3 w' w.heap.size (fun _ => True) v5 x5_1) ∧ Aside0 (Below w.heap.size w w'))
 case atStart => exact ⟨(a1), (([] : List Int)), (BE), H', ⟨Nat.le_refl _⟩, ⟨by first | exact Kd.R_nil _ _ _ _ _ | exact Kd.N_nil _ _ _ _ _ | exact Kd.V_nil _ _ _ _ _ | exact Kd.Q_nil _ _ _ _ _ | exact Kd.S_nil _ _ _ _ _⟩, ⟨BB⟩⟩
 case round =>
  clear H'
  (try clear c2); (try clear p2)
  obtain ⟨x1_1, x5_1, rfl, HA, HK1, HO_5, HB⟩ := hrel
  cases gk with
  | zero => exact absurd HA.out (by simp [depend_way.l0])
  | succ k1 =>
   have H := HA.out
   clear HA
   simp only [depend_way.l0] at H
   by_cases c3 : x1_1 ≥ 0
   ·
    rw [if_pos c3] at H
    have c3b0 : decide (0 ≤ x1_1) = true := decide_eq_true c3
    clear c3
    by_cases c4 : x5_1.length < 17592186044416
    ·
     rw [if_pos c4] at H
     have LMc4 := Aside0.mk c4
     clear c4
     obtain ⟨y117, hy117⟩ : ∃ y_ : List Int, y_ = (x5_1 ++ [x1_1]) := ⟨_, rfl⟩
     replace H : (if 0 ≤ x1_1 then (if x1_1 < (l0.length : Int) then (depend_way.l0 k1 l0 (rd l0 x1_1) y117) else (none)) else (none)) = some r := by first | (rw [hy117]; with_reducible exact H) | (have H2_ := (Option.bind_some _ _).symm.trans H; rw [hy117]; with_reducible exact H2_) | (have H2_ := (Option.bind_some _ _).symm.trans H; with_reducible exact H2_) | with_reducible exact H | (rw [hy117]; exact H) | exact H
     have Ny117 := Aside0.mk hy117
     clear hy117
     by_cases c5 : 0 ≤ x1_1
     ·
      rw [if_pos c5] at H
      have c5b0 : decide (0 ≤ x1_1) = true := decide_eq_true c5
      clear c5
      by_cases c6 : x1_1 < (l0.length : Int)
      ·
       rw [if_pos c6] at H
       have c6b0 : decide (x1_1 < (l0.length : Int)) = true := decide_eq_true c6
       clear c6
       have H' := Aside0.mk H
       clear H
       go_wp2_with (first | ((with_reducible refine gate_builtin (b := .append) (xs := #[.tmp 12, .tmp 14]) rfl ?_); at_builtin; refine Kd.R_append (Kd.int .i64) (w0 := w) w.heap.size rfl (.tmp 12) (.tmp 14) 22 3 (.int .i64 0) 8 rfl Try.underlying22 info3 rfl (by decide) (by omega) u5 x5_1 x1_1 [.int .i64 x1_1] (fun _ => True) (fun _ => False) rfl rfl ?aP (fun _ hk => hk.elim) ?aF ?aO ?aB ?aS ?aL ?_; (case aP => exact rfl); (case aB => exact (BB)); (case aF => exact (fun _ _ => trivial)); (case aO => exact (BR HO_5.out)); (case aS => exact (below_size (BB))); (case aL => have := LMc4.out; omega); intro v118 w7 ho hb hg hat; rw [← Ny117.out] at ho; have n0_ := Aside0.mk (hb); have n1_ := Aside0.mk (ho); clear HB; clear HO_5; have HB := n0_; have HO119 := n1_; clear n0_ n1_; clear ho hb hg hat; have p120 : 0 ≤ (x1_1 : Int) := OD; have q120 : x1_1 < (l0.length : Int) := OD; obtain ⟨ad120, e120, hx120_0⟩ := Kd.at_int HR0.out x1_1 p120 q120; cases e120; replace hx120_0 := (HB.out.cell (World.block_lt_of_cell? w _ hx120_0)).trans hx120_0; replace p120 := eq_true p120; replace q120 := eq_true q120))
       go_roundg k1
       case measure => have := HK1.out; omega
       case rel => exact ⟨(rd l0 x1_1), (y117), (BE), H', ⟨by have := HK1.out; omega⟩, ⟨BR HO119.out⟩, ⟨BB⟩⟩
      ·
       rw [if_neg c6] at H
       exact absurd H (by simp)
     ·
      rw [if_neg c5] at H
      exact absurd H (by simp)
    ·
     rw [if_neg c4] at H
     exact absurd H (by simp)
   ·
    rw [if_neg c3] at H
    have c3b0 : decide (0 ≤ x1_1) = false := decide_eq_false c3
    clear c3
    obtain rfl := Option.some.inj H
    go_wp2
    go_ret
    exact ⟨_, BX, by (with_reducible repeat (first | apply Kd.R_alloc | apply Kd.R_drewN | apply Kd.R_drew)); exact HO_5.out, BB⟩

/-! ### depend_Depth: function 14 -/
def depend_Depth.f (k : Nat) (l0 : List Int) (a1 : Int) : Option (Int) := (depend_usable.f k l0 a1).bind fun t121 => (if t121 = true then ((depend_way.f k l0 a1).bind fun t122 => (some (wrap64 ((t122.length : Int) - 1)))) else (some (-1)))
theorem depend_Depth.mono : ∀ a0 a1 k, LeO (depend_Depth.f k a0 a1) (depend_Depth.f (k + 1) a0 a1) := by
 intro a0 a1 k
 unfold depend_Depth.f
 with_reducible repeat' first | exact depend_usable.mono _ _ _ | exact depend_way.mono _ _ _ | exact LeO.refl _ | exact LeO.none _ | refine LeO.ite ?_ ?_ | refine LeO.bind ?_ (fun _ => ?_)
set_option maxHeartbeats 8000000 in
set_option maxRecDepth 100000 in
theorem depend_Depth.calls (k : Nat) (A0 : Option Addr) (c0 : Nat) (l0 : List Int) (a1 : Int) (r : Int) (w : World) (hr0 : Kd.C (Kd.int .i64) w A0 l0.length l0) (hc0 : l0.length ≤ c0) (h : depend_Depth.f k l0 a1 = some r) :
 Calls Try.prog 14 #[.slice A0 l0.length c0, .int .i64 a1] w fun e w' => e = .returned (.int .i64 r) ∧ Below w.heap.size w w' := by
 have HR0 := Aside0.mk hr0
 have HC0 := Aside0.mk hc0
 clear hr0 hc0
 have HB := Aside0.mk (Below.refl w.heap.size w)
 have H : ((depend_usable.f k l0 a1).bind fun t121 => (if t121 = true then ((depend_way.f k l0 a1).bind fun t122 => (some (wrap64 ((t122.length : Int) - 1)))) else (some (-1)))) = some r := h
 clear h
 replace H := Option.bind_eq_some_iff.mp H
 obtain ⟨t121, A30, H⟩ := H
 replace H : (if t121 = true then ((depend_way.f k l0 a1).bind fun t122 => (some (wrap64 ((t122.length : Int) - 1)))) else (some (-1))) = some r := H
 have A3 := Aside0.mk A30
 clear A30
 by_cases c4 : t121 = true
 ·
  subst c4
  have H1 : ((depend_way.f k l0 a1).bind fun t122 => (some (wrap64 ((t122.length : Int) - 1)))) = some r := by rw [if_pos rfl] at H; exact H
  clear H
  have H := H1
  clear H1
  replace H := Option.bind_eq_some_iff.mp H
  obtain ⟨t122, A50, H⟩ := H
  replace H : (some (wrap64 ((t122.length : Int) - 1))) = some r := H
  have A5 := Aside0.mk A50
  clear A50
  obtain rfl := Option.some.inj H
  go_enter Try.func14, Try.ntmps14
  go_wp2_with (first | ((with_reducible refine gate_callee (f := 26) rfl ?_); refine goesL_ (some 7) rfl rfl Try.func26 (by kernel_rfl) rfl #[.slice A0 l0.length c0, .int .i64 a1] rfl BM ?_; (with_reducible refine (depend_usable.calls k _ _ l0 a1 true _ ?side1 ?side2 A3.out).mono ?_); (case side1 => exact BK HR0.out); (case side2 => exact HC0.out); rintro e w6 ⟨rfl, hb⟩; refine ⟨_, rfl, ?_⟩; have n0_ := Aside0.mk (below_step (BB) hb); clear HB; have HB := n0_; clear n0_; (try clear hb); (try clear hb2); (try clear hk); (try clear hi)) | ((with_reducible refine gate_callee (f := 27) rfl ?_); refine goesL_ (some 11) rfl rfl Try.func27 (by kernel_rfl) rfl #[.slice A0 l0.length c0, .int .i64 a1] rfl BM ?_; (with_reducible refine (depend_way.calls k _ _ l0 a1 t122 _ ?side1 ?side2 A5.out).mono ?_); (case side1 => exact BC HR0.out); (case side2 => exact HC0.out); rintro e w7 ⟨v123, rfl, ho0, hb⟩; refine ⟨_, rfl, ?_⟩; have n0_ := Aside0.mk (Kd.R_lower ho0 (below_size (BB))); have n1_ := Aside0.mk (below_step (BB) hb); clear HB; have HO124 := n0_; have HB := n1_; clear n0_ n1_; (try clear hb); (try clear hb2); (try clear hk); (try clear hi); (try clear ho0); obtain ⟨Ao8, co8, eo8⟩ := Kd.R_slice HO124.out; subst eo8))
  go_ret
  exact ⟨BX, BB⟩
 ·
  replace c4 := Bool.eq_false_iff.mpr c4
  subst c4
  have H1 : (some (-1)) = some r := by rw [if_neg (show ¬ (false = true) by decide)] at H; exact H
  clear H
  have H := H1
  clear H1
  obtain rfl := Option.some.inj H
  go_enter Try.func14, Try.ntmps14
  go_wp2_with (first | ((with_reducible refine gate_callee (f := 26) rfl ?_); refine goesL_ (some 7) rfl rfl Try.func26 (by kernel_rfl) rfl #[.slice A0 l0.length c0, .int .i64 a1] rfl BM ?_; (with_reducible refine (depend_usable.calls k _ _ l0 a1 false _ ?side1 ?side2 A3.out).mono ?_); (case side1 => exact BK HR0.out); (case side2 => exact HC0.out); rintro e w9 ⟨rfl, hb⟩; refine ⟨_, rfl, ?_⟩; have n0_ := Aside0.mk (below_step (BB) hb); clear HB; have HB := n0_; clear n0_; (try clear hb); (try clear hb2); (try clear hk); (try clear hi)))
  go_ret
  exact ⟨BX, BB⟩

end Go.Proofs.Ytkanmafjjejpmaa.P
