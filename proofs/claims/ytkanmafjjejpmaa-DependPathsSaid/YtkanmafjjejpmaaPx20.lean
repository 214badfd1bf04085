-- Written by a program of this session (wip/doprint.sh) out of the translation; Lean checks it.
import Derived.Test.YtkanmafjjejpmaaPx0
import Derived.Test.YtkanmafjjejpmaaPx6
import Derived.Test.YtkanmafjjejpmaaPx7
import Derived.Test.YtkanmafjjejpmaaPx16
import Derived.Test.YtkanmafjjejpmaaPx19
namespace Go.Proofs.Ytkanmafjjejpmaa.P
open Go.Proofs.Ytkanmafjjejpmaa.S
open Go.Proofs.Ytkanmafjjejpmaa.X
open Go.RowKit Go.Proofs.YtkanmafjjejpmaaW.PrintWords Go.Proofs.YtkanmafjjejpmaaW.PrintLast Go.Proofs.YtkanmafjjejpmaaW.PrintMore
attribute [local go_sem] max2_int min2_int max_two min_two max_three min_three max_four min_four   -- for this text's walks alone
set_option linter.unusedVariables false
set_option linter.unusedSimpArgs false

/-! ### corporalaw09_DependPaths: function 5 -/
def corporalaw09_DependPaths.f (k : Nat) (l0 : List Int) (a1 : Int) (a2 : Int) : Option (Bool) := if (l0.length : Int) > 100 then (some true) else ((depend_Path.f k l0 a1 a2).bind fun bt313 => ((corporaref09_Path.f k l0 a1 a2).bind fun bt317 => ((corporaref09_SameInts.f k bt313.1 bt317.1).bind fun t321 => (if t321 = true then (if bt313.2 = bt317.2 then ((corporalaw09_awake.f k).bind fun t322 => (some t322)) else (some false)) else (some false)))))
theorem corporalaw09_DependPaths.mono : ∀ a0 a1 a2 k, LeO (corporalaw09_DependPaths.f k a0 a1 a2) (corporalaw09_DependPaths.f (k + 1) a0 a1 a2) := by
 intro a0 a1 a2 k
 unfold corporalaw09_DependPaths.f
 with_reducible repeat' first | exact corporalaw09_awake.mono _ | exact corporaref09_Path.mono _ _ _ _ | exact corporaref09_SameInts.mono _ _ _ | exact depend_Path.mono _ _ _ _ | exact LeO.refl _ | exact LeO.none _ | refine LeO.ite ?_ ?_ | refine LeO.bind ?_ (fun _ => ?_)
set_option maxHeartbeats 8000000 in
set_option maxRecDepth 100000 in
theorem corporalaw09_DependPaths.calls (k : Nat) (A0 : Option Addr) (c0 : Nat) (l0 : List Int) (a1 : Int) (a2 : Int) (r : Bool) (w : World) (hr0 : Kd.C (Kd.int .i64) w A0 l0.length l0) (hc0 : l0.length ≤ c0) (h : corporalaw09_DependPaths.f k l0 a1 a2 = some r) :
 Calls Try.prog 5 #[.slice A0 l0.length c0, .int .i64 a1, .int .i64 a2] w fun e w' => e = .returned (.bool r) ∧ Below w.heap.size w w' := by
 have HR0 := Aside0.mk hr0
 have HC0 := Aside0.mk hc0
 clear hr0 hc0
 have HB := Aside0.mk (Below.refl w.heap.size w)
 have H : (if (l0.length : Int) > 100 then (some true) else ((depend_Path.f k l0 a1 a2).bind fun bt313 => ((corporaref09_Path.f k l0 a1 a2).bind fun bt317 => ((corporaref09_SameInts.f k bt313.1 bt317.1).bind fun t321 => (if t321 = true then (if bt313.2 = bt317.2 then ((corporalaw09_awake.f k).bind fun t322 => (some t322)) else (some false)) else (some false)))))) = some r := h
 clear h
 by_cases c4 : (l0.length : Int) > 100
 ·
  rw [if_pos c4] at H
  have c4b0 : decide (100 < (l0.length : Int)) = true := decide_eq_true c4
  have c4b1 : decide (100 < l0.length) = true := decide_eq_true (by omega)
  clear c4
  obtain rfl := Option.some.inj H
  go_enter Try.func5, Try.ntmps5
  go_wp2
  go_ret
  exact ⟨BX, BB⟩
 ·
  rw [if_neg c4] at H
  have c4b0 : decide (100 < (l0.length : Int)) = false := decide_eq_false c4
  have c4b1 : decide (100 < l0.length) = false := decide_eq_false (by omega)
  clear c4
  replace H := Option.bind_eq_some_iff.mp H
  obtain ⟨⟨t313, t314⟩, A50, H⟩ := H
  replace H : ((corporaref09_Path.f k l0 a1 a2).bind fun bt317 => ((corporaref09_SameInts.f k t313 bt317.1).bind fun t321 => (if t321 = true then (if t314 = bt317.2 then ((corporalaw09_awake.f k).bind fun t322 => (some t322)) else (some false)) else (some false)))) = some r := H
  have A5 := Aside0.mk A50
  clear A50
  replace H := Option.bind_eq_some_iff.mp H
  obtain ⟨⟨t317, t318⟩, A60, H⟩ := H
  replace H : ((corporaref09_SameInts.f k t313 t317).bind fun t321 => (if t321 = true then (if t314 = t318 then ((corporalaw09_awake.f k).bind fun t322 => (some t322)) else (some false)) else (some false))) = some r := H
  have A6 := Aside0.mk A60
  clear A60
  replace H := Option.bind_eq_some_iff.mp H
  obtain ⟨t321, A70, H⟩ := H
  replace H : (if t321 = true then (if t314 = t318 then ((corporalaw09_awake.f k).bind fun t322 => (some t322)) else (some false)) else (some false)) = some r := H
  have A7 := Aside0.mk A70
  clear A70
  by_cases c8 : t321 = true
  ·
   subst c8
   have H1 : (if t314 = t318 then ((corporalaw09_awake.f k).bind fun t322 => (some t322)) else (some false)) = some r := by rw [if_pos rfl] at H; exact H
   clear H
   have H := H1
   clear H1
   by_cases c9 : t314 = t318
   ·
    rw [if_pos c9] at H
    have c9b0 : (t314 == t318) = true := beq_iff_eq.mpr c9
    have c9b1 : (t314 != t318) = false := bne_eq_false_iff_eq.mpr c9
    clear c9
    replace H := Option.bind_eq_some_iff.mp H
    obtain ⟨t322, A100, H⟩ := H
    replace H : (some t322) = some r := H
    have A10 := Aside0.mk A100
    clear A100
    obtain rfl := Option.some.inj H
    go_enter Try.func5, Try.ntmps5
    go_wp2_with (first | ((with_reducible refine gate_callee (f := 16) rfl ?_); refine goesL_ (some 18) rfl rfl Try.func16 (by kernel_rfl) rfl #[.slice A0 l0.length c0, .int .i64 a1, .int .i64 a2] rfl BM ?_; (with_reducible refine (depend_Path.calls k _ _ l0 a1 a2 t313 t314 _ ?side1 ?side2 A5.out).mono ?_); (case side1 => exact BK HR0.out); (case side2 => exact HC0.out); rintro e w11 ⟨v315, rfl, ho0, hb⟩; refine ⟨_, rfl, ?_⟩; have n0_ := Aside0.mk (Kd.R_lower ho0 (below_size (BB))); have n1_ := Aside0.mk (below_step (BB) hb); clear HB; have HO316 := n0_; have HB := n1_; clear n0_ n1_; (try clear hb); (try clear hb2); (try clear hk); (try clear hi); (try clear ho0)) | ((with_reducible refine gate_callee (f := 17) rfl ?_); refine goesL_ (some 25) rfl rfl Try.func17 (by kernel_rfl) rfl #[.slice A0 l0.length c0, .int .i64 a1, .int .i64 a2] rfl BM ?_; (with_reducible refine (corporaref09_Path.calls k _ _ l0 a1 a2 t317 t318 _ ?side1 ?side2 A6.out).mono ?_); (case side1 => exact BC HR0.out); (case side2 => exact HC0.out); rintro e w12 ⟨v319, rfl, ho0, hb⟩; refine ⟨_, rfl, ?_⟩; have n0_ := Aside0.mk (Kd.R_elder' (BR HO316.out) (Kd.R_base ho0) hb); have n1_ := Aside0.mk (Kd.R_lower (Kd.R_new' ho0 (Kd.R_lt (BR HO316.out))) (below_size (BB))); have n2_ := Aside0.mk (below_step (BB) hb); clear HO316; clear HB; have HO316 := n0_; have HO320 := n1_; have HB := n2_; clear n0_ n1_ n2_; (try clear hb); (try clear hb2); (try clear hk); (try clear hi); (try clear ho0); obtain ⟨Ao13, co13, eo13⟩ := Kd.R_slice HO316.out; subst eo13; obtain ⟨Ao14, co14, eo14⟩ := Kd.R_slice HO320.out; subst eo14) | ((with_reducible refine gate_callee (f := 18) rfl ?_); refine goesL_ (some 30) rfl rfl Try.func18 (by kernel_rfl) rfl #[.slice Ao13 t313.length co13, .slice Ao14 t317.length co14] rfl BM ?_; (with_reducible refine (corporaref09_SameInts.calls k _ _ t313 _ _ t317 true _ ?side1 ?side2 ?side3 ?side4 A7.out).mono ?_); (case side1 => repeat (first | exact (Kd.R_reads' HO316.out).2.2 | (with_reducible refine Kd.C_alloc ?_ _) | (with_reducible refine Kd.C_drewN ?_ _) | (with_reducible refine Kd.C_drew ?_))); (case side2 => exact (Kd.R_reads' HO316.out).2.1); (case side3 => repeat (first | exact (Kd.R_reads' HO320.out).2.2 | (with_reducible refine Kd.C_alloc ?_ _) | (with_reducible refine Kd.C_drewN ?_ _) | (with_reducible refine Kd.C_drew ?_))); (case side4 => exact (Kd.R_reads' HO320.out).2.1); rintro e w' ⟨rfl, ⟨nd, rfl⟩⟩; refine ⟨_, rfl, ?_⟩) | (go_at_call 13; (with_reducible refine (corporalaw09_awake.calls k  t322 _ A10.out).mono ?_); rintro e w15 ⟨rfl, hb⟩; have n0_ := Aside0.mk (Kd.R_below (BR HO316.out) hb); have n1_ := Aside0.mk (Kd.R_below (BR HO320.out) hb); have n2_ := Aside0.mk (below_step (BB) hb); clear HO316; clear HO320; clear HB; have HO316 := n0_; have HO320 := n1_; have HB := n2_; clear n0_ n1_ n2_; (try clear hb); (try clear hb2); (try clear hk); (try clear hi)))
    go_ret
    exact ⟨BX, BB⟩
   ·
    rw [if_neg c9] at H
    have c9b0 : (t314 == t318) = false := beq_eq_false_iff_ne.mpr c9
    have c9b1 : (t314 != t318) = true := bne_iff_ne.mpr c9
    obtain rfl := Option.some.inj H
    go_enter Try.func5, Try.ntmps5
    go_wp2_with (first | ((with_reducible refine gate_callee (f := 16) rfl ?_); refine goesL_ (some 18) rfl rfl Try.func16 (by kernel_rfl) rfl #[.slice A0 l0.length c0, .int .i64 a1, .int .i64 a2] rfl BM ?_; (with_reducible refine (depend_Path.calls k _ _ l0 a1 a2 t313 t314 _ ?side1 ?side2 A5.out).mono ?_); (case side1 => exact BK HR0.out); (case side2 => exact HC0.out); rintro e w16 ⟨v315, rfl, ho0, hb⟩; refine ⟨_, rfl, ?_⟩; have n0_ := Aside0.mk (Kd.R_lower ho0 (below_size (BB))); have n1_ := Aside0.mk (below_step (BB) hb); clear HB; have HO316 := n0_; have HB := n1_; clear n0_ n1_; (try clear hb); (try clear hb2); (try clear hk); (try clear hi); (try clear ho0)) | ((with_reducible refine gate_callee (f := 17) rfl ?_); refine goesL_ (some 25) rfl rfl Try.func17 (by kernel_rfl) rfl #[.slice A0 l0.length c0, .int .i64 a1, .int .i64 a2] rfl BM ?_; (with_reducible refine (corporaref09_Path.calls k _ _ l0 a1 a2 t317 t318 _ ?side1 ?side2 A6.out).mono ?_); (case side1 => exact BC HR0.out); (case side2 => exact HC0.out); rintro e w17 ⟨v319, rfl, ho0, hb⟩; refine ⟨_, rfl, ?_⟩; have n0_ := Aside0.mk (Kd.R_elder' (BR HO316.out) (Kd.R_base ho0) hb); have n1_ := Aside0.mk (Kd.R_lower (Kd.R_new' ho0 (Kd.R_lt (BR HO316.out))) (below_size (BB))); have n2_ := Aside0.mk (below_step (BB) hb); clear HO316; clear HB; have HO316 := n0_; have HO320 := n1_; have HB := n2_; clear n0_ n1_ n2_; (try clear hb); (try clear hb2); (try clear hk); (try clear hi); (try clear ho0); obtain ⟨Ao18, co18, eo18⟩ := Kd.R_slice HO316.out; subst eo18; obtain ⟨Ao19, co19, eo19⟩ := Kd.R_slice HO320.out; subst eo19) | ((with_reducible refine gate_callee (f := 18) rfl ?_); refine goesL_ (some 30) rfl rfl Try.func18 (by kernel_rfl) rfl #[.slice Ao18 t313.length co18, .slice Ao19 t317.length co19] rfl BM ?_; (with_reducible refine (corporaref09_SameInts.calls k _ _ t313 _ _ t317 true _ ?side1 ?side2 ?side3 ?side4 A7.out).mono ?_); (case side1 => repeat (first | exact (Kd.R_reads' HO316.out).2.2 | (with_reducible refine Kd.C_alloc ?_ _) | (with_reducible refine Kd.C_drewN ?_ _) | (with_reducible refine Kd.C_drew ?_))); (case side2 => exact (Kd.R_reads' HO316.out).2.1); (case side3 => repeat (first | exact (Kd.R_reads' HO320.out).2.2 | (with_reducible refine Kd.C_alloc ?_ _) | (with_reducible refine Kd.C_drewN ?_ _) | (with_reducible refine Kd.C_drew ?_))); (case side4 => exact (Kd.R_reads' HO320.out).2.1); rintro e w' ⟨rfl, ⟨nd, rfl⟩⟩; refine ⟨_, rfl, ?_⟩))
    go_ret
    exact ⟨BX, BB⟩
  ·
   replace c8 := Bool.eq_false_iff.mpr c8
   subst c8
   have H1 : (some false) = some r := by rw [if_neg (show ¬ (false = true) by decide)] at H; exact H
   clear H
   have H := H1
   clear H1
   obtain rfl := Option.some.inj H
   go_enter Try.func5, Try.ntmps5
   go_wp2_with (first | ((with_reducible refine gate_callee (f := 16) rfl ?_); refine goesL_ (some 18) rfl rfl Try.func16 (by kernel_rfl) rfl #[.slice A0 l0.length c0, .int .i64 a1, .int .i64 a2] rfl BM ?_; (with_reducible refine (depend_Path.calls k _ _ l0 a1 a2 t313 t314 _ ?side1 ?side2 A5.out).mono ?_); (case side1 => exact BK HR0.out); (case side2 => exact HC0.out); rintro e w20 ⟨v315, rfl, ho0, hb⟩; refine ⟨_, rfl, ?_⟩; have n0_ := Aside0.mk (Kd.R_lower ho0 (below_size (BB))); have n1_ := Aside0.mk (below_step (BB) hb); clear HB; have HO316 := n0_; have HB := n1_; clear n0_ n1_; (try clear hb); (try clear hb2); (try clear hk); (try clear hi); (try clear ho0)) | ((with_reducible refine gate_callee (f := 17) rfl ?_); refine goesL_ (some 25) rfl rfl Try.func17 (by kernel_rfl) rfl #[.slice A0 l0.length c0, .int .i64 a1, .int .i64 a2] rfl BM ?_; (with_reducible refine (corporaref09_Path.calls k _ _ l0 a1 a2 t317 t318 _ ?side1 ?side2 A6.out).mono ?_); (case side1 => exact BC HR0.out); (case side2 => exact HC0.out); rintro e w21 ⟨v319, rfl, ho0, hb⟩; refine ⟨_, rfl, ?_⟩; have n0_ := Aside0.mk (Kd.R_elder' (BR HO316.out) (Kd.R_base ho0) hb); have n1_ := Aside0.mk (Kd.R_lower (Kd.R_new' ho0 (Kd.R_lt (BR HO316.out))) (below_size (BB))); have n2_ := Aside0.mk (below_step (BB) hb); clear HO316; clear HB; have HO316 := n0_; have HO320 := n1_; have HB := n2_; clear n0_ n1_ n2_; (try clear hb); (try clear hb2); (try clear hk); (try clear hi); (try clear ho0); obtain ⟨Ao22, co22, eo22⟩ := Kd.R_slice HO316.out; subst eo22; obtain ⟨Ao23, co23, eo23⟩ := Kd.R_slice HO320.out; subst eo23) | ((with_reducible refine gate_callee (f := 18) rfl ?_); refine goesL_ (some 30) rfl rfl Try.func18 (by kernel_rfl) rfl #[.slice Ao22 t313.length co22, .slice Ao23 t317.length co23] rfl BM ?_; (with_reducible refine (corporaref09_SameInts.calls k _ _ t313 _ _ t317 false _ ?side1 ?side2 ?side3 ?side4 A7.out).mono ?_); (case side1 => repeat (first | exact (Kd.R_reads' HO316.out).2.2 | (with_reducible refine Kd.C_alloc ?_ _) | (with_reducible refine Kd.C_drewN ?_ _) | (with_reducible refine Kd.C_drew ?_))); (case side2 => exact (Kd.R_reads' HO316.out).2.1); (case side3 => repeat (first | exact (Kd.R_reads' HO320.out).2.2 | (with_reducible refine Kd.C_alloc ?_ _) | (with_reducible refine Kd.C_drewN ?_ _) | (with_reducible refine Kd.C_drew ?_))); (case side4 => exact (Kd.R_reads' HO320.out).2.1); rintro e w' ⟨rfl, ⟨nd, rfl⟩⟩; refine ⟨_, rfl, ?_⟩))
   go_ret
   exact ⟨BX, BB⟩

/-- THE ONE PURE STATEMENT of corporalaw09_DependPaths: yours. -/
def corporalaw09_DependPaths.Pure : Prop := ∀ (l0 : List Int) (a1 : Int) (a2 : Int), l0.length ≤ maxLen → l0.length * 8 ≤ 140737488351232 → (∀ x ∈ l0, (Lit.int .i64 x).wf = true) → (Lit.int .i64 a1).wf = true → (Lit.int .i64 a2).wf = true → ∃ k, corporalaw09_DependPaths.f k l0 a1 a2 = some true
theorem corporalaw09_DependPaths.walk (P : corporalaw09_DependPaths.Pure) (a0 : Option Addr) (len0 cap0 : Nat) (z0 : List Int) (a1 : Int) (a2 : Int) (w : World) (w0 : (a0 = none ∧ len0 = 0 ∧ cap0 = 0 ∧ z0 = []) ∨ ∃ x, a0 = some x ∧ len0 ≤ cap0 ∧ cap0 ≤ maxLen ∧ z0.length = cap0 ∧ (∀ i, i < z0.length → w.cell? (x.add i) = some (.int .i64 (z0.getD i 0))) ∧ ∀ n ∈ z0, (Lit.int .i64 n).wf = true) (y0 : len0 * 8 ≤ 140737488351232) (w1 : (Lit.int .i64 a1).wf = true) (w2 : (Lit.int .i64 a2).wf = true) :
 Calls Try.prog 5 #[.slice a0 len0 cap0, .int .i64 a1, .int .i64 a2] w fun e w' => e = .returned (.bool true) ∧ Below w.heap.size w w' := by
 obtain ⟨l0, rfl, hr0, hm0, hw0, hc0⟩ := ReadsInt.ofRowC w0
 obtain ⟨k, h⟩ := P l0 a1 a2 hm0 y0 hw0 w1 w2
 refine (corporalaw09_DependPaths.calls k _ _ l0 a1 a2 true w (Kd.C_of_reads (d := (0 : Int)) (h1 := fun _ => rfl) hr0) hc0 h).mono ?_
 rintro e w' ⟨rfl, hd⟩
 exact ⟨rfl, hd⟩

end Go.Proofs.Ytkanmafjjejpmaa.P
