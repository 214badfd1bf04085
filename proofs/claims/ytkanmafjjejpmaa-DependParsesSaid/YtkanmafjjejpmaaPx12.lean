-- Written by a program of this session (wip/doprint.sh) out of the translation; Lean checks it.
import Derived.Test.YtkanmafjjejpmaaPx0
namespace Go.Proofs.Ytkanmafjjejpmaa.P
open Go.Proofs.Ytkanmafjjejpmaa.S
open Go.Proofs.Ytkanmafjjejpmaa.X
open Go.RowKit Go.Proofs.YtkanmafjjejpmaaW.PrintWords Go.Proofs.YtkanmafjjejpmaaW.PrintLast Go.Proofs.YtkanmafjjejpmaaW.PrintMore
attribute [local go_sem] max2_int min2_int max_two min_two max_three min_three max_four min_four   -- for this text's walks alone
set_option linter.unusedVariables false
set_option linter.unusedSimpArgs false

/-! ### stringslite_Cut: function 35 -/
def stringslite_Cut.f (a0 : ByteArray) (a1 : ByteArray) : Option (ByteArray × ByteArray × Bool) := (stringslite_Index.f a0 a1).bind fun t201 => (if t201 ≥ 0 then (if 0 ≤ t201 then (if t201 ≤ (a0.size : Int) then (if 0 ≤ (wrap64 (t201 + (a1.size : Int))) then (if (wrap64 (t201 + (a1.size : Int))) ≤ (a0.size : Int) then (some (a0.extract 0 (t201 : Int).toNat, a0.extract ((wrap64 (t201 + (a1.size : Int))) : Int).toNat a0.size, true)) else (none)) else (none)) else (none)) else (none)) else (some (a0, (⟨#[]⟩ : ByteArray), false)))
set_option maxHeartbeats 8000000 in
set_option maxRecDepth 100000 in
theorem stringslite_Cut.calls (a0 : ByteArray) (a1 : ByteArray) (r1 : ByteArray) (r2 : ByteArray) (r3 : Bool) (w : World) (h : stringslite_Cut.f a0 a1 = some (r1, r2, r3)) :
 Calls Try.prog 35 #[.string a0, .string a1] w fun e w' => e = .returned (.tuple #[.string r1, .string r2, .bool r3]) ∧ Drawn0 w w' := by
 have H : ((stringslite_Index.f a0 a1).bind fun t201 => (if t201 ≥ 0 then (if 0 ≤ t201 then (if t201 ≤ (a0.size : Int) then (if 0 ≤ (wrap64 (t201 + (a1.size : Int))) then (if (wrap64 (t201 + (a1.size : Int))) ≤ (a0.size : Int) then (some (a0.extract 0 (t201 : Int).toNat, a0.extract ((wrap64 (t201 + (a1.size : Int))) : Int).toNat a0.size, true)) else (none)) else (none)) else (none)) else (none)) else (some (a0, (⟨#[]⟩ : ByteArray), false)))) = some (r1, r2, r3) := h
 clear h
 replace H := Option.bind_eq_some_iff.mp H
 obtain ⟨t201, A30, H⟩ := H
 replace H : (if t201 ≥ 0 then (if 0 ≤ t201 then (if t201 ≤ (a0.size : Int) then (if 0 ≤ (wrap64 (t201 + (a1.size : Int))) then (if (wrap64 (t201 + (a1.size : Int))) ≤ (a0.size : Int) then (some (a0.extract 0 (t201 : Int).toNat, a0.extract ((wrap64 (t201 + (a1.size : Int))) : Int).toNat a0.size, true)) else (none)) else (none)) else (none)) else (none)) else (some (a0, (⟨#[]⟩ : ByteArray), false))) = some (r1, r2, r3) := H
 have A3 := Aside0.mk A30
 clear A30
 by_cases c4 : t201 ≥ 0
 ·
  rw [if_pos c4] at H
  have c4b0 : decide (0 ≤ t201) = true := decide_eq_true c4
  clear c4
  by_cases c5 : 0 ≤ t201
  ·
   rw [if_pos c5] at H
   have c5b0 := eq_true c5
   have c5b1 : decide (0 ≤ t201) = true := decide_eq_true c5
   clear c5
   by_cases c6 : t201 ≤ (a0.size : Int)
   ·
    rw [if_pos c6] at H
    have c6b0 := eq_true c6
    have c6b1 : decide (t201 ≤ (a0.size : Int)) = true := decide_eq_true c6
    clear c6
    obtain ⟨ji7, hji7⟩ : ∃ j_ : Int, (wrap64 (t201 + (a1.size : Int))) = j_ := ⟨_, rfl⟩
    replace H : (if 0 ≤ (ji7) then (if (ji7) ≤ (a0.size : Int) then (some (a0.extract 0 (t201 : Int).toNat, a0.extract ((ji7) : Int).toNat a0.size, true)) else (none)) else (none)) = some (r1, r2, r3) := by first | (rw [hji7] at H; exact H) | (simp only [hji7] at H ⊢; exact H)
    (try rw [hji7] at A3)
    have hji7w : (IntKind.i64.wrap (t201 + (a1.size : Int))) = ji7 := (i64_w _).trans hji7
    by_cases c8 : 0 ≤ (ji7)
    ·
     rw [if_pos c8] at H
     have c8b0 := eq_true c8
     have c8b1 : decide (0 ≤ (ji7)) = true := decide_eq_true c8
     clear c8
     by_cases c9 : (ji7) ≤ (a0.size : Int)
     ·
      rw [if_pos c9] at H
      have c9b0 := eq_true c9
      have c9b1 : decide ((ji7) ≤ (a0.size : Int)) = true := decide_eq_true c9
      clear c9
      simp only [Option.some.injEq, Prod.mk.injEq] at H
      obtain ⟨rfl, rfl, rfl⟩ := H
      go_enter Try.func35, Try.ntmps35
      go_wp2_with (first | (go_at_call 39; (with_reducible refine (stringslite_Index.calls a0 a1 t201 _ A3.out).mono ?_); rintro e w' ⟨rfl, ⟨nd, rfl⟩⟩; (try first | exact ⟨rfl, _, World.drewN_drewN _ _ _⟩ | exact ⟨rfl, _, Eq.trans (World.drewN_drewN _ _ _) (congrArg (World.drewN _) (Nat.add_assoc _ _ _))⟩)))
      repeat (go_quiet (first | (go_at_call 39; (with_reducible refine (stringslite_Index.calls a0 a1 t201 _ A3.out).mono ?_); rintro e w' ⟨rfl, ⟨nd, rfl⟩⟩; (try first | exact ⟨rfl, _, World.drewN_drewN _ _ _⟩ | exact ⟨rfl, _, Eq.trans (World.drewN_drewN _ _ _) (congrArg (World.drewN _) (Nat.add_assoc _ _ _))⟩))); try go_wp2_with (first | (go_at_call 39; (with_reducible refine (stringslite_Index.calls a0 a1 t201 _ A3.out).mono ?_); rintro e w' ⟨rfl, ⟨nd, rfl⟩⟩; (try first | exact ⟨rfl, _, World.drewN_drewN _ _ _⟩ | exact ⟨rfl, _, Eq.trans (World.drewN_drewN _ _ _) (congrArg (World.drewN _) (Nat.add_assoc _ _ _))⟩))))
      go_ret3
      exact ⟨by first | rfl | (simp; done) | (simp only [← hji7] <;> (first | rfl | simp)) | (simp [*]; done), BD⟩
     ·
      rw [if_neg c9] at H
      exact absurd H (by simp)
    ·
     rw [if_neg c8] at H
     exact absurd H (by simp)
   ·
    rw [if_neg c6] at H
    exact absurd H (by simp)
  ·
   rw [if_neg c5] at H
   exact absurd H (by simp)
 ·
  rw [if_neg c4] at H
  have c4b0 : decide (0 ≤ t201) = false := decide_eq_false c4
  clear c4
  simp only [Option.some.injEq, Prod.mk.injEq] at H
  obtain ⟨rfl, rfl, rfl⟩ := H
  go_enter Try.func35, Try.ntmps35
  go_wp2_with (first | (go_at_call 39; (with_reducible refine (stringslite_Index.calls a0 a1 t201 _ A3.out).mono ?_); rintro e w' ⟨rfl, ⟨nd, rfl⟩⟩; (try first | exact ⟨rfl, _, World.drewN_drewN _ _ _⟩ | exact ⟨rfl, _, Eq.trans (World.drewN_drewN _ _ _) (congrArg (World.drewN _) (Nat.add_assoc _ _ _))⟩)))
  repeat (go_quiet (first | (go_at_call 39; (with_reducible refine (stringslite_Index.calls a0 a1 t201 _ A3.out).mono ?_); rintro e w' ⟨rfl, ⟨nd, rfl⟩⟩; (try first | exact ⟨rfl, _, World.drewN_drewN _ _ _⟩ | exact ⟨rfl, _, Eq.trans (World.drewN_drewN _ _ _) (congrArg (World.drewN _) (Nat.add_assoc _ _ _))⟩))); try go_wp2_with (first | (go_at_call 39; (with_reducible refine (stringslite_Index.calls a0 a1 t201 _ A3.out).mono ?_); rintro e w' ⟨rfl, ⟨nd, rfl⟩⟩; (try first | exact ⟨rfl, _, World.drewN_drewN _ _ _⟩ | exact ⟨rfl, _, Eq.trans (World.drewN_drewN _ _ _) (congrArg (World.drewN _) (Nat.add_assoc _ _ _))⟩))))
  go_ret3
  exact ⟨BE, BD⟩

/-! ### strings_Cut: function 31 -/
def strings_Cut.f (a0 : ByteArray) (a1 : ByteArray) : Option (ByteArray × ByteArray × Bool) := (stringslite_Cut.f a0 a1).bind fun bt202 => (some (bt202.1, bt202.2.1, bt202.2.2))
set_option maxHeartbeats 8000000 in
set_option maxRecDepth 100000 in
theorem strings_Cut.calls (a0 : ByteArray) (a1 : ByteArray) (r1 : ByteArray) (r2 : ByteArray) (r3 : Bool) (w : World) (h : strings_Cut.f a0 a1 = some (r1, r2, r3)) :
 Calls Try.prog 31 #[.string a0, .string a1] w fun e w' => e = .returned (.tuple #[.string r1, .string r2, .bool r3]) ∧ Drawn0 w w' := by
 have H : ((stringslite_Cut.f a0 a1).bind fun bt202 => (some (bt202.1, bt202.2.1, bt202.2.2))) = some (r1, r2, r3) := h
 clear h
 replace H := Option.bind_eq_some_iff.mp H
 obtain ⟨⟨t202, t203, t204⟩, A30, H⟩ := H
 replace H : (some (t202, t203, t204)) = some (r1, r2, r3) := H
 have A3 := Aside0.mk A30
 clear A30
 simp only [Option.some.injEq, Prod.mk.injEq] at H
 obtain ⟨rfl, rfl, rfl⟩ := H
 go_enter Try.func31, Try.ntmps31
 go_wp2_with (first | ((with_reducible refine gate_callee (f := 35) rfl ?_); refine goesL_ (some 9) rfl rfl Try.func35 (by kernel_rfl) rfl #[.string a0, .string a1] rfl BM ?_; (with_reducible refine (stringslite_Cut.calls a0 a1 t202 t203 t204 _ A3.out).mono ?_); rintro e w' ⟨rfl, ⟨nd, rfl⟩⟩; refine ⟨_, rfl, ?_⟩))
 go_ret3
 exact ⟨BE, BD⟩

/-! ### markup_begins: function 40 -/
def markup_begins.f (a0 : Int) : Option (Bool) := if a0 ≥ 65 then (if a0 ≤ 90 then (some true) else (if a0 ≥ 97 then (if a0 ≤ 122 then (some true) else (some (a0 == 95))) else (some (a0 == 95)))) else (if a0 ≥ 97 then (if a0 ≤ 122 then (some true) else (some (a0 == 95))) else (some (a0 == 95)))
set_option maxHeartbeats 8000000 in
set_option maxRecDepth 100000 in
theorem markup_begins.calls (a0 : Int) (r : Bool) (w : World) (h : markup_begins.f a0 = some r) :
 Calls Try.prog 40 #[.int .u8 a0] w fun e w' => e = .returned (.bool r) ∧ Drawn0 w w' := by
 have H : (if a0 ≥ 65 then (if a0 ≤ 90 then (some true) else (if a0 ≥ 97 then (if a0 ≤ 122 then (some true) else (some (a0 == 95))) else (some (a0 == 95)))) else (if a0 ≥ 97 then (if a0 ≤ 122 then (some true) else (some (a0 == 95))) else (some (a0 == 95)))) = some r := h
 clear h
 by_cases c2 : a0 ≥ 65
 ·
  rw [if_pos c2] at H
  have c2b0 : decide (65 ≤ a0) = true := decide_eq_true c2
  clear c2
  by_cases c3 : a0 ≤ 90
  ·
   rw [if_pos c3] at H
   have c3b0 : decide (a0 ≤ 90) = true := decide_eq_true c3
   clear c3
   obtain rfl := Option.some.inj H
   go_enter Try.func40, Try.ntmps40
   go_wp2
   go_ret
   exact ⟨BE, BD⟩
  ·
   rw [if_neg c3] at H
   have c3b0 : decide (a0 ≤ 90) = false := decide_eq_false c3
   clear c3
   by_cases c4 : a0 ≥ 97
   ·
    rw [if_pos c4] at H
    have c4b0 : decide (97 ≤ a0) = true := decide_eq_true c4
    clear c4
    by_cases c5 : a0 ≤ 122
    ·
     rw [if_pos c5] at H
     have c5b0 : decide (a0 ≤ 122) = true := decide_eq_true c5
     clear c5
     obtain rfl := Option.some.inj H
     go_enter Try.func40, Try.ntmps40
     go_wp2
     go_ret
     exact ⟨BE, BD⟩
    ·
     rw [if_neg c5] at H
     have c5b0 : decide (a0 ≤ 122) = false := decide_eq_false c5
     clear c5
     obtain rfl := Option.some.inj H
     go_enter Try.func40, Try.ntmps40
     go_wp2
     go_ret
     exact ⟨BE, BD⟩
   ·
    rw [if_neg c4] at H
    have c4b0 : decide (97 ≤ a0) = false := decide_eq_false c4
    clear c4
    obtain rfl := Option.some.inj H
    go_enter Try.func40, Try.ntmps40
    go_wp2
    go_ret
    exact ⟨BE, BD⟩
 ·
  rw [if_neg c2] at H
  have c2b0 : decide (65 ≤ a0) = false := decide_eq_false c2
  clear c2
  by_cases c6 : a0 ≥ 97
  ·
   rw [if_pos c6] at H
   have c6b0 : decide (97 ≤ a0) = true := decide_eq_true c6
   clear c6
   by_cases c7 : a0 ≤ 122
   ·
    rw [if_pos c7] at H
    have c7b0 : decide (a0 ≤ 122) = true := decide_eq_true c7
    clear c7
    obtain rfl := Option.some.inj H
    go_enter Try.func40, Try.ntmps40
    go_wp2
    go_ret
    exact ⟨BE, BD⟩
   ·
    rw [if_neg c7] at H
    have c7b0 : decide (a0 ≤ 122) = false := decide_eq_false c7
    clear c7
    obtain rfl := Option.some.inj H
    go_enter Try.func40, Try.ntmps40
    go_wp2
    go_ret
    exact ⟨BE, BD⟩
  ·
   rw [if_neg c6] at H
   have c6b0 : decide (97 ≤ a0) = false := decide_eq_false c6
   clear c6
   obtain rfl := Option.some.inj H
   go_enter Try.func40, Try.ntmps40
   go_wp2
   go_ret
   exact ⟨BE, BD⟩

/-! ### markup_goesOn: function 41 -/
def markup_goesOn.f (a0 : Int) : Option (Bool) := (markup_begins.f a0).bind fun t205 => (if t205 = true then (some true) else (if a0 ≥ 48 then (if a0 ≤ 57 then (some true) else (some (a0 == 45))) else (some (a0 == 45))))
set_option maxHeartbeats 8000000 in
set_option maxRecDepth 100000 in
theorem markup_goesOn.calls (a0 : Int) (r : Bool) (w : World) (h : markup_goesOn.f a0 = some r) :
 Calls Try.prog 41 #[.int .u8 a0] w fun e w' => e = .returned (.bool r) ∧ Drawn0 w w' := by
 have H : ((markup_begins.f a0).bind fun t205 => (if t205 = true then (some true) else (if a0 ≥ 48 then (if a0 ≤ 57 then (some true) else (some (a0 == 45))) else (some (a0 == 45))))) = some r := h
 clear h
 replace H := Option.bind_eq_some_iff.mp H
 obtain ⟨t205, A20, H⟩ := H
 replace H : (if t205 = true then (some true) else (if a0 ≥ 48 then (if a0 ≤ 57 then (some true) else (some (a0 == 45))) else (some (a0 == 45)))) = some r := H
 have A2 := Aside0.mk A20
 clear A20
 by_cases c3 : t205 = true
 ·
  subst c3
  have H1 : (some true) = some r := by rw [if_pos rfl] at H; exact H
  clear H
  have H := H1
  clear H1
  obtain rfl := Option.some.inj H
  go_enter Try.func41, Try.ntmps41
  go_wp2_with (first | ((with_reducible refine gate_callee (f := 40) rfl ?_); refine goesL_ (some 4) rfl rfl Try.func40 (by kernel_rfl) rfl #[.int .u8 a0] rfl BM ?_; (with_reducible refine (markup_begins.calls a0 true _ A2.out).mono ?_); rintro e w' ⟨rfl, ⟨nd, rfl⟩⟩; refine ⟨_, rfl, ?_⟩))
  go_ret
  exact ⟨BE, BD⟩
 ·
  replace c3 := Bool.eq_false_iff.mpr c3
  subst c3
  have H1 : (if a0 ≥ 48 then (if a0 ≤ 57 then (some true) else (some (a0 == 45))) else (some (a0 == 45))) = some r := by rw [if_neg (show ¬ (false = true) by decide)] at H; exact H
  clear H
  have H := H1
  clear H1
  by_cases c4 : a0 ≥ 48
  ·
   rw [if_pos c4] at H
   have c4b0 : decide (48 ≤ a0) = true := decide_eq_true c4
   clear c4
   by_cases c5 : a0 ≤ 57
   ·
    rw [if_pos c5] at H
    have c5b0 : decide (a0 ≤ 57) = true := decide_eq_true c5
    clear c5
    obtain rfl := Option.some.inj H
    go_enter Try.func41, Try.ntmps41
    go_wp2_with (first | ((with_reducible refine gate_callee (f := 40) rfl ?_); refine goesL_ (some 4) rfl rfl Try.func40 (by kernel_rfl) rfl #[.int .u8 a0] rfl BM ?_; (with_reducible refine (markup_begins.calls a0 false _ A2.out).mono ?_); rintro e w' ⟨rfl, ⟨nd, rfl⟩⟩; refine ⟨_, rfl, ?_⟩))
    go_ret
    exact ⟨BE, BD⟩
   ·
    rw [if_neg c5] at H
    have c5b0 : decide (a0 ≤ 57) = false := decide_eq_false c5
    clear c5
    obtain rfl := Option.some.inj H
    go_enter Try.func41, Try.ntmps41
    go_wp2_with (first | ((with_reducible refine gate_callee (f := 40) rfl ?_); refine goesL_ (some 4) rfl rfl Try.func40 (by kernel_rfl) rfl #[.int .u8 a0] rfl BM ?_; (with_reducible refine (markup_begins.calls a0 false _ A2.out).mono ?_); rintro e w' ⟨rfl, ⟨nd, rfl⟩⟩; refine ⟨_, rfl, ?_⟩))
    go_ret
    exact ⟨BE, BD⟩
  ·
   rw [if_neg c4] at H
   have c4b0 : decide (48 ≤ a0) = false := decide_eq_false c4
   clear c4
   obtain rfl := Option.some.inj H
   go_enter Try.func41, Try.ntmps41
   go_wp2_with (first | ((with_reducible refine gate_callee (f := 40) rfl ?_); refine goesL_ (some 4) rfl rfl Try.func40 (by kernel_rfl) rfl #[.int .u8 a0] rfl BM ?_; (with_reducible refine (markup_begins.calls a0 false _ A2.out).mono ?_); rintro e w' ⟨rfl, ⟨nd, rfl⟩⟩; refine ⟨_, rfl, ?_⟩))
   go_ret
   exact ⟨BE, BD⟩

end Go.Proofs.Ytkanmafjjejpmaa.P
