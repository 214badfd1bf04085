-- Written by a program of this session (wip/doprint.sh) out of the translation; Lean checks it.
import Derived.Test.YtkanmafjjejpmaaPx0
import Derived.Test.YtkanmafjjejpmaaPx4
namespace Go.Proofs.Ytkanmafjjejpmaa.P
open Go.Proofs.Ytkanmafjjejpmaa.S
open Go.Proofs.Ytkanmafjjejpmaa.X
open Go.RowKit Go.Proofs.YtkanmafjjejpmaaW.PrintWords Go.Proofs.YtkanmafjjejpmaaW.PrintLast Go.Proofs.YtkanmafjjejpmaaW.PrintMore
attribute [local go_sem] max2_int min2_int max_two min_two max_three min_three max_four min_four   -- for this text's walks alone
set_option linter.unusedVariables false
set_option linter.unusedSimpArgs false

/-! ### corporaref09_Valid: function 28 -/
def corporaref09_Valid.f (k : Nat) (l0 : List Int) : Option (Bool) := (corporaref09_Check.f k l0).bind fun bt271 => (some (bt271.2 == 0))
theorem corporaref09_Valid.mono : ∀ a0 k, LeO (corporaref09_Valid.f k a0) (corporaref09_Valid.f (k + 1) a0) := by
 intro a0 k
 unfold corporaref09_Valid.f
 with_reducible repeat' first | exact corporaref09_Check.mono _ _ | exact LeO.refl _ | exact LeO.none _ | refine LeO.ite ?_ ?_ | refine LeO.bind ?_ (fun _ => ?_)
set_option maxHeartbeats 8000000 in
set_option maxRecDepth 100000 in
theorem corporaref09_Valid.calls (k : Nat) (A0 : Option Addr) (c0 : Nat) (l0 : List Int) (r : Bool) (w : World) (hr0 : Kd.C (Kd.int .i64) w A0 l0.length l0) (hc0 : l0.length ≤ c0) (h : corporaref09_Valid.f k l0 = some r) :
 Calls Try.prog 28 #[.slice A0 l0.length c0] w fun e w' => e = .returned (.bool r) ∧ Drawn0 w w' := by
 have HR0 := Aside0.mk hr0
 have HC0 := Aside0.mk hc0
 clear hr0 hc0
 have H : ((corporaref09_Check.f k l0).bind fun bt271 => (some (bt271.2 == 0))) = some r := h
 clear h
 replace H := Option.bind_eq_some_iff.mp H
 obtain ⟨⟨t271, t272⟩, A20, H⟩ := H
 replace H : (some (t272 == 0)) = some r := H
 have A2 := Aside0.mk A20
 clear A20
 obtain rfl := Option.some.inj H
 go_enter Try.func28, Try.ntmps28
 go_wp2_with (first | ((with_reducible refine gate_callee (f := 12) rfl ?_); refine goesL_ (some 7) rfl rfl Try.func12 (by kernel_rfl) rfl #[.slice A0 l0.length c0] rfl BM ?_; (with_reducible refine (corporaref09_Check.calls k _ _ l0 t271 t272 _ ?side1 ?side2 A2.out).mono ?_); (case side1 => exact BK HR0.out); (case side2 => exact HC0.out); rintro e w' ⟨rfl, ⟨nd, rfl⟩⟩; refine ⟨_, rfl, ?_⟩))
 go_ret
 exact ⟨BE, BD⟩

/-! ### corporaref09_Way: function 29 -/
def corporaref09_Way.l0 : Nat → List Int → Int → List Int → Option (List Int)
  | 0, _, _, _ => none
  | k + 1, x0, x1, x5 => if 0 ≤ x1 then (if x1 < (x0.length : Int) then (if (rd x0 x1) ≥ 0 then (if x5.length < 17592186044416 then (corporaref09_Way.l0 k x0 (rd x0 x1) (x5 ++ [rd x0 x1])) else (none)) else (some x5)) else (none)) else (none)
def corporaref09_Way.f (k : Nat) (l0 : List Int) (a1 : Int) : Option (List Int) := corporaref09_Way.l0 k l0 a1 (([a1] : List Int))
theorem corporaref09_Way.mono_l : ∀ k, (∀ y0 y1 y2, LeO (corporaref09_Way.l0 k y0 y1 y2) (corporaref09_Way.l0 (k + 1) y0 y1 y2))
 | 0 => fun _ _ _ r h => by simp [corporaref09_Way.l0] at h
 | k + 1 => by
  have ih0 := corporaref09_Way.mono_l k
  ·
   intro y0 y1 y2
   unfold corporaref09_Way.l0
   with_reducible repeat' first | exact ih0 _ _ _ | exact LeO.refl _ | exact LeO.none _ | refine LeO.ite ?_ ?_ | refine LeO.bind ?_ (fun _ => ?_)
theorem corporaref09_Way.mono : ∀ a0 a1 k, LeO (corporaref09_Way.f k a0 a1) (corporaref09_Way.f (k + 1) a0 a1) := by
 intro a0 a1 k
 have ih0 := corporaref09_Way.mono_l k
 unfold corporaref09_Way.f
 with_reducible repeat' first | exact ih0 _ _ _ | exact LeO.refl _ | exact LeO.none _ | refine LeO.ite ?_ ?_ | refine LeO.bind ?_ (fun _ => ?_)
set_option maxHeartbeats 8000000 in
set_option maxRecDepth 100000 in
theorem corporaref09_Way.calls (k : Nat) (A0 : Option Addr) (c0 : Nat) (l0 : List Int) (a1 : Int) (r : List Int) (w : World) (hr0 : Kd.C (Kd.int .i64) w A0 l0.length l0) (hc0 : l0.length ≤ c0) (h : corporaref09_Way.f k l0 a1 = some r) :
 Calls Try.prog 29 #[.slice A0 l0.length c0, .int .i64 a1] w fun e w' => ∃ v0_ : Value, e = .returned (v0_) ∧ Kd.R (Kd.int .i64) 3 w' w.heap.size (fun _ => True) v0_ r ∧ Below w.heap.size w w' := by
 have HR0 := Aside0.mk hr0
 have HC0 := Aside0.mk hc0
 clear hr0 hc0
 have HB := Aside0.mk (Below.refl w.heap.size w)
 have H : (corporaref09_Way.l0 k l0 a1 (([a1] : List Int))) = some r := h
 clear h
 obtain ⟨y273, hy273⟩ : ∃ y_ : List Int, y_ = (([a1] : List Int)) := ⟨_, rfl⟩
 replace H : (corporaref09_Way.l0 k l0 a1 y273) = some r := by first | (rw [hy273]; with_reducible exact H) | (have H2_ := (Option.bind_some _ _).symm.trans H; rw [hy273]; with_reducible exact H2_) | (have H2_ := (Option.bind_some _ _).symm.trans H; with_reducible exact H2_) | with_reducible exact H | (rw [hy273]; exact H) | exact H
 have Ny273 := Aside0.mk hy273
 clear hy273
 have H' := Aside0.mk H
 clear H
 go_enter Try.func29, Try.ntmps29
 go_wp2_with (first | ((with_reducible refine gate_dst (N := 7) rfl ?_); refine Kd.R_lit (Kd.int .i64) _ 3 ?hg (N := 7) ?hd (xs := ([a1] : List Int)) (inner := [.int .i64 a1]) (ok := fun _ => True) (okp := fun _ => True) ?hr ?hp (fun _ hk => hk) trivial (Below.refl _ _) (Nat.le_refl _) (by simp) ?_; (case hd => rfl); (case hg => rfl); (case hr => first | (go_simp; done) | (go_simp; rfl)); (case hp => exact (Reps.one (show Kd.M (Kd.int .i64) _ _ _ a1 [.int .i64 a1] from rfl) (Reps.none _ _))); intro v274 w3 ho4 hb hg_ hnew_; clear hg_ hnew_; (first | rw [← Ny273.out] at ho4 | (simp only [Int.reduceToNat] at ho4; rw [← Ny273.out] at ho4)); have n0_ := Aside0.mk (Kd.R_lower ho4 (below_size (BB))); have n1_ := Aside0.mk (below_step (BB) hb); clear HB; have HO275 := n0_; have HB := n1_; clear n0_ n1_; clear hb ho4))
 go_loopg [1, 5] k (fun kq v1 v5 w' => ∃ (x1_1 : Int) (x5_1 : List Int), v1 = .int .i64 x1_1 ∧ Aside0 (corporaref09_Way.l0 kq l0 x1_1 x5_1 = some r) ∧ Aside0 (kq ≤ k) ∧ Aside0 (Kd.R (Kd.int .i64) 3 w' w.heap.size (fun _ => True) v5 x5_1) ∧ Aside0 (Below w.heap.size w w'))
 case atStart => exact ⟨(a1), (y273), (BE), H', ⟨Nat.le_refl _⟩, ⟨BR HO275.out⟩, ⟨BB⟩⟩
 case round =>
  clear H'
  (try clear c2); (try clear p2)
  obtain ⟨x1_1, x5_1, rfl, HA, HK1, HO_5, HB⟩ := hrel
  cases gk with
  | zero => exact absurd HA.out (by simp [corporaref09_Way.l0])
  | succ k1 =>
   have H := HA.out
   clear HA
   simp only [corporaref09_Way.l0] at H
   by_cases c5 : 0 ≤ x1_1
   ·
    rw [if_pos c5] at H
    have c5b0 : decide (0 ≤ x1_1) = true := decide_eq_true c5
    clear c5
    by_cases c6 : x1_1 < (l0.length : Int)
    ·
     rw [if_pos c6] at H
     have c6b0 : decide (x1_1 < (l0.length : Int)) = true := decide_eq_true c6
     clear c6
     by_cases c7 : (rd l0 x1_1) ≥ 0
     ·
      rw [if_pos c7] at H
      have c7b0 : decide (0 ≤ (rd l0 x1_1)) = true := decide_eq_true c7
      clear c7
      by_cases c8 : x5_1.length < 17592186044416
      ·
       rw [if_pos c8] at H
       have LMc8 := Aside0.mk c8
       clear c8
       obtain ⟨y278, hy278⟩ : ∃ y_ : List Int, y_ = (x5_1 ++ [rd l0 x1_1]) := ⟨_, rfl⟩
       replace H : (corporaref09_Way.l0 k1 l0 (rd l0 x1_1) y278) = some r := by first | (rw [hy278]; with_reducible exact H) | (have H2_ := (Option.bind_some _ _).symm.trans H; rw [hy278]; with_reducible exact H2_) | (have H2_ := (Option.bind_some _ _).symm.trans H; with_reducible exact H2_) | with_reducible exact H | (rw [hy278]; exact H) | exact H
       have Ny278 := Aside0.mk hy278
       clear hy278
       have H' := Aside0.mk H
       clear H
       have p276 : 0 ≤ (x1_1 : Int) := OD
       have q276 : x1_1 < (l0.length : Int) := OD
       obtain ⟨ad276, e276, hx276_0⟩ := Kd.at_int HR0.out x1_1 p276 q276
       cases e276
       replace hx276_0 := (HB.out.cell (World.block_lt_of_cell? w _ hx276_0)).trans hx276_0
       replace p276 := eq_true p276
       replace q276 := eq_true q276
       have p277 : 0 ≤ (x1_1 : Int) := OD
       have q277 : x1_1 < (l0.length : Int) := OD
       obtain ⟨ad277, e277, hx277_0⟩ := Kd.at_int HR0.out x1_1 p277 q277
       obtain rfl : ad276 = ad277 := (by injection e277)
       replace hx277_0 := (HB.out.cell (World.block_lt_of_cell? w _ hx277_0)).trans hx277_0
       replace p277 := eq_true p277
       replace q277 := eq_true q277
       go_wp2_with (first | ((with_reducible refine gate_builtin (b := .append) (xs := #[.tmp 17, .tmp 19]) rfl ?_); at_builtin; refine Kd.R_append (Kd.int .i64) (w0 := w) w.heap.size rfl (.tmp 17) (.tmp 19) 22 3 (.int .i64 0) 8 rfl Try.underlying22 info3 rfl (by decide) (by omega) u5 x5_1 (rd l0 x1_1) [.int .i64 (rd l0 x1_1)] (fun _ => True) (fun _ => False) rfl rfl ?aP (fun _ hk => hk.elim) ?aF ?aO ?aB ?aS ?aL ?_; (case aP => exact rfl); (case aB => exact (BB)); (case aF => exact (fun _ _ => trivial)); (case aO => exact (BR HO_5.out)); (case aS => exact (below_size (BB))); (case aL => have := LMc8.out; omega); intro v279 w9 ho hb hg hat; rw [← Ny278.out] at ho; have n0_ := Aside0.mk (hb); have n1_ := Aside0.mk (ho); clear HB; clear HO_5; have HB := n0_; have HO280 := n1_; clear n0_ n1_; clear ho hb hg hat))
       go_roundg k1
       case measure => have := HK1.out; omega
       case rel => exact ⟨(rd l0 x1_1), (y278), (BE), H', ⟨by have := HK1.out; omega⟩, ⟨BR HO280.out⟩, ⟨BB⟩⟩
      ·
       rw [if_neg c8] at H
       exact absurd H (by simp)
     ·
      rw [if_neg c7] at H
      have c7b0 : decide (0 ≤ (rd l0 x1_1)) = false := decide_eq_false c7
      clear c7
      obtain rfl := Option.some.inj H
      have p276 : 0 ≤ (x1_1 : Int) := OD
      have q276 : x1_1 < (l0.length : Int) := OD
      obtain ⟨ad276, e276, hx276_0⟩ := Kd.at_int HR0.out x1_1 p276 q276
      cases e276
      replace hx276_0 := (HB.out.cell (World.block_lt_of_cell? w _ hx276_0)).trans hx276_0
      replace p276 := eq_true p276
      replace q276 := eq_true q276
      go_wp2
      go_ret
      exact ⟨_, BX, by (with_reducible repeat (first | apply Kd.R_alloc | apply Kd.R_drewN | apply Kd.R_drew)); exact HO_5.out, BB⟩
    ·
     rw [if_neg c6] at H
     exact absurd H (by simp)
   ·
    rw [if_neg c5] at H
    exact absurd H (by simp)

/-! ### corporaref09_Depth: function 15 -/
def corporaref09_Depth.f (k : Nat) (l0 : List Int) (a1 : Int) : Option (Int) := (corporaref09_Valid.f k l0).bind fun t281 => (if t281 = true then (if a1 < 0 then (some (-1)) else (if a1 ≥ (l0.length : Int) then (some (-1)) else ((corporaref09_Way.f k l0 a1).bind fun t282 => (some (wrap64 ((t282.length : Int) - 1)))))) else (some (-1)))
theorem corporaref09_Depth.mono : ∀ a0 a1 k, LeO (corporaref09_Depth.f k a0 a1) (corporaref09_Depth.f (k + 1) a0 a1) := by
 intro a0 a1 k
 unfold corporaref09_Depth.f
 with_reducible repeat' first | exact corporaref09_Valid.mono _ _ | exact corporaref09_Way.mono _ _ _ | exact LeO.refl _ | exact LeO.none _ | refine LeO.ite ?_ ?_ | refine LeO.bind ?_ (fun _ => ?_)
set_option maxHeartbeats 8000000 in
set_option maxRecDepth 100000 in
theorem corporaref09_Depth.calls (k : Nat) (A0 : Option Addr) (c0 : Nat) (l0 : List Int) (a1 : Int) (r : Int) (w : World) (hr0 : Kd.C (Kd.int .i64) w A0 l0.length l0) (hc0 : l0.length ≤ c0) (h : corporaref09_Depth.f k l0 a1 = some r) :
 Calls Try.prog 15 #[.slice A0 l0.length c0, .int .i64 a1] w fun e w' => e = .returned (.int .i64 r) ∧ Below w.heap.size w w' := by
 have HR0 := Aside0.mk hr0
 have HC0 := Aside0.mk hc0
 clear hr0 hc0
 have HB := Aside0.mk (Below.refl w.heap.size w)
 have H : ((corporaref09_Valid.f k l0).bind fun t281 => (if t281 = true then (if a1 < 0 then (some (-1)) else (if a1 ≥ (l0.length : Int) then (some (-1)) else ((corporaref09_Way.f k l0 a1).bind fun t282 => (some (wrap64 ((t282.length : Int) - 1)))))) else (some (-1)))) = some r := h
 clear h
 replace H := Option.bind_eq_some_iff.mp H
 obtain ⟨t281, A30, H⟩ := H
 replace H : (if t281 = true then (if a1 < 0 then (some (-1)) else (if a1 ≥ (l0.length : Int) then (some (-1)) else ((corporaref09_Way.f k l0 a1).bind fun t282 => (some (wrap64 ((t282.length : Int) - 1)))))) else (some (-1))) = some r := H
 have A3 := Aside0.mk A30
 clear A30
 by_cases c4 : t281 = true
 ·
  subst c4
  have H1 : (if a1 < 0 then (some (-1)) else (if a1 ≥ (l0.length : Int) then (some (-1)) else ((corporaref09_Way.f k l0 a1).bind fun t282 => (some (wrap64 ((t282.length : Int) - 1)))))) = some r := by rw [if_pos rfl] at H; exact H
  clear H
  have H := H1
  clear H1
  by_cases c5 : a1 < 0
  ·
   rw [if_pos c5] at H
   have c5b0 : decide (a1 < 0) = true := decide_eq_true c5
   clear c5
   obtain rfl := Option.some.inj H
   go_enter Try.func15, Try.ntmps15
   go_wp2_with (first | ((with_reducible refine gate_callee (f := 28) rfl ?_); refine goesL_ (some 6) rfl rfl Try.func28 (by kernel_rfl) rfl #[.slice A0 l0.length c0] rfl BM ?_; (with_reducible refine (corporaref09_Valid.calls k _ _ l0 true _ ?side1 ?side2 A3.out).mono ?_); (case side1 => exact BK HR0.out); (case side2 => exact HC0.out); rintro e w' ⟨rfl, ⟨nd, rfl⟩⟩; refine ⟨_, rfl, ?_⟩))
   go_ret
   exact ⟨BX, BB⟩
  ·
   rw [if_neg c5] at H
   have c5b0 : decide (a1 < 0) = false := decide_eq_false c5
   clear c5
   by_cases c6 : a1 ≥ (l0.length : Int)
   ·
    rw [if_pos c6] at H
    have c6b0 : decide ((l0.length : Int) ≤ a1) = true := decide_eq_true c6
    clear c6
    obtain rfl := Option.some.inj H
    go_enter Try.func15, Try.ntmps15
    go_wp2_with (first | ((with_reducible refine gate_callee (f := 28) rfl ?_); refine goesL_ (some 6) rfl rfl Try.func28 (by kernel_rfl) rfl #[.slice A0 l0.length c0] rfl BM ?_; (with_reducible refine (corporaref09_Valid.calls k _ _ l0 true _ ?side1 ?side2 A3.out).mono ?_); (case side1 => exact BK HR0.out); (case side2 => exact HC0.out); rintro e w' ⟨rfl, ⟨nd, rfl⟩⟩; refine ⟨_, rfl, ?_⟩))
    go_ret
    exact ⟨BX, BB⟩
   ·
    rw [if_neg c6] at H
    have c6b0 : decide ((l0.length : Int) ≤ a1) = false := decide_eq_false c6
    clear c6
    replace H := Option.bind_eq_some_iff.mp H
    obtain ⟨t282, A70, H⟩ := H
    replace H : (some (wrap64 ((t282.length : Int) - 1))) = some r := H
    have A7 := Aside0.mk A70
    clear A70
    obtain rfl := Option.some.inj H
    go_enter Try.func15, Try.ntmps15
    go_wp2_with (first | ((with_reducible refine gate_callee (f := 28) rfl ?_); refine goesL_ (some 6) rfl rfl Try.func28 (by kernel_rfl) rfl #[.slice A0 l0.length c0] rfl BM ?_; (with_reducible refine (corporaref09_Valid.calls k _ _ l0 true _ ?side1 ?side2 A3.out).mono ?_); (case side1 => exact BK HR0.out); (case side2 => exact HC0.out); rintro e w' ⟨rfl, ⟨nd, rfl⟩⟩; refine ⟨_, rfl, ?_⟩) | ((with_reducible refine gate_callee (f := 29) rfl ?_); refine goesL_ (some 20) rfl rfl Try.func29 (by kernel_rfl) rfl #[.slice A0 l0.length c0, .int .i64 a1] rfl BM ?_; (with_reducible refine (corporaref09_Way.calls k _ _ l0 a1 t282 _ ?side1 ?side2 A7.out).mono ?_); (case side1 => exact BK HR0.out); (case side2 => exact HC0.out); rintro e w8 ⟨v283, rfl, ho0, hb⟩; refine ⟨_, rfl, ?_⟩; have n0_ := Aside0.mk (Kd.R_lower ho0 (below_size (BB))); have n1_ := Aside0.mk (below_step (BB) hb); clear HB; have HO284 := n0_; have HB := n1_; clear n0_ n1_; (try clear hb); (try clear hb2); (try clear hk); (try clear hi); (try clear ho0); obtain ⟨Ao9, co9, eo9⟩ := Kd.R_slice HO284.out; subst eo9))
    go_ret
    exact ⟨BX, BB⟩
 ·
  replace c4 := Bool.eq_false_iff.mpr c4
  subst c4
  have H1 : (some (-1)) = some r := by rw [if_neg (show ¬ (false = true) by decide)] at H; exact H
  clear H
  have H := H1
  clear H1
  obtain rfl := Option.some.inj H
  go_enter Try.func15, Try.ntmps15
  go_wp2_with (first | ((with_reducible refine gate_callee (f := 28) rfl ?_); refine goesL_ (some 6) rfl rfl Try.func28 (by kernel_rfl) rfl #[.slice A0 l0.length c0] rfl BM ?_; (with_reducible refine (corporaref09_Valid.calls k _ _ l0 false _ ?side1 ?side2 A3.out).mono ?_); (case side1 => exact BK HR0.out); (case side2 => exact HC0.out); rintro e w' ⟨rfl, ⟨nd, rfl⟩⟩; refine ⟨_, rfl, ?_⟩))
  go_ret
  exact ⟨BX, BB⟩

end Go.Proofs.Ytkanmafjjejpmaa.P
