-- Written by a program of this session (wip/doprint.sh) out of the translation; Lean checks it.
import Derived.Test.YtebajpebongabaaDoorPx0
import Derived.Test.YtebajpebongabaaDoorPx22
namespace Go.Proofs.YtebajpebongabaaDoor.P
open Go.Proofs.YtebajpebongabaaDoor.X
open Go.RowKit Go.Proofs.YtebajpebongabaaDoorW.PrintWords Go.Proofs.YtebajpebongabaaDoorW.PrintLast Go.Proofs.YtebajpebongabaaDoorW.PrintMore
attribute [local go_sem] max2_int min2_int max_two min_two max_three min_three max_four min_four   -- for this text's walks alone
set_option linter.unusedVariables false
set_option linter.unusedSimpArgs false

/-! ### markup_escape: function 62 -/
mutual
def markup_escape.j1 : Nat → ByteArray → Int → Int → Option (Int × Int)
  | 0, _, _, _ => none
  | k + 1, x0, x4, x5 => if x5 = 2 then (markup_escape.j2 k x0 x4 x5 (x5 == 2)) else (if x5 = (x0.size : Int) then (markup_escape.j2 k x0 x4 x5 (x5 == (x0.size : Int))) else (if 0 ≤ x5 then (if x5 < (x0.size : Int) then (markup_escape.j2 k x0 x4 x5 ((bt x0 x5) != 59)) else (none)) else (none)))
def markup_escape.j2 : Nat → ByteArray → Int → Int → Bool → Option (Int × Int)
  | 0, _, _, _, _ => none
  | k + 1, x0, x4, x5, x52 => if x52 = true then (some (0, 0)) else (if 2 < (x0.size : Int) then (if (bt x0 2) = 48 then (markup_escape.j3 k x4 x5 (decide (x5 > 3))) else (markup_escape.j3 k x4 x5 false)) else (none))
def markup_escape.j3 : Nat → Int → Int → Bool → Option (Int × Int)
  | 0, _, _, _ => none
  | k + 1, x4, x5, x63 => if x63 = true then (some (0, 0)) else (if x4 ≥ 55296 then (markup_escape.j4 k x4 x5 (decide (x4 ≤ 57343))) else (markup_escape.j4 k x4 x5 false))
def markup_escape.j4 : Nat → Int → Int → Bool → Option (Int × Int)
  | 0, _, _, _ => none
  | k + 1, x4, x5, x71 => if x71 = true then (some (0, 0)) else (if x4 > 1114111 then (some (0, 0)) else (some (wrap32 (x4), wrap64 (x5 + 1))))
def markup_escape.l0 : Nat → ByteArray → Int → Int → Option (Int × Int)
  | 0, _, _, _ => none
  | k + 1, x0, x4, x5 => if x5 < (x0.size : Int) then (if x5 < 9 then (if 0 ≤ x5 then (if (bt x0 x5) ≥ 48 then (if (bt x0 x5) ≤ 57 then (markup_escape.l0 k x0 (wrap64 ((wrap64 (10 * x4)) + (((bt x0 x5) - 48) % 256))) (wrap64 (x5 + 1))) else (markup_escape.j1 k x0 x4 x5)) else (markup_escape.j1 k x0 x4 x5)) else (none)) else (markup_escape.j1 k x0 x4 x5)) else (markup_escape.j1 k x0 x4 x5)
end
def markup_escape.f (k : Nat) (a0 : ByteArray) : Option (Int × Int) := (strings_HasPrefix.f a0 (⟨#[38, 97, 109, 112, 59]⟩ : ByteArray)).bind fun t240 => (if t240 = true then (some (38, 5)) else ((strings_HasPrefix.f a0 (⟨#[38, 108, 116, 59]⟩ : ByteArray)).bind fun t241 => (if t241 = true then (some (60, 4)) else ((strings_HasPrefix.f a0 (⟨#[38, 103, 116, 59]⟩ : ByteArray)).bind fun t242 => (if t242 = true then (some (62, 4)) else ((strings_HasPrefix.f a0 (⟨#[38, 113, 117, 111, 116, 59]⟩ : ByteArray)).bind fun t243 => (if t243 = true then (some (34, 6)) else ((strings_HasPrefix.f a0 (⟨#[38, 35]⟩ : ByteArray)).bind fun t244 => (if t244 = true then (markup_escape.l0 k a0 0 2) else (some (0, 0)))))))))))
theorem markup_escape.mono_l : ∀ k, (∀ y0 y1 y2, LeO (markup_escape.j1 k y0 y1 y2) (markup_escape.j1 (k + 1) y0 y1 y2)) ∧ (∀ y0 y1 y2 y3, LeO (markup_escape.j2 k y0 y1 y2 y3) (markup_escape.j2 (k + 1) y0 y1 y2 y3)) ∧ (∀ y0 y1 y2, LeO (markup_escape.j3 k y0 y1 y2) (markup_escape.j3 (k + 1) y0 y1 y2)) ∧ (∀ y0 y1 y2, LeO (markup_escape.j4 k y0 y1 y2) (markup_escape.j4 (k + 1) y0 y1 y2)) ∧ (∀ y0 y1 y2, LeO (markup_escape.l0 k y0 y1 y2) (markup_escape.l0 (k + 1) y0 y1 y2))
  | 0 => ⟨fun _ _ _ r h => by simp [markup_escape.j1] at h, fun _ _ _ _ r h => by simp [markup_escape.j2] at h, fun _ _ _ r h => by simp [markup_escape.j3] at h, fun _ _ _ r h => by simp [markup_escape.j4] at h, fun _ _ _ r h => by simp [markup_escape.l0] at h⟩
  | k + 1 => by
    obtain ⟨ih0, ih1, ih2, ih3, ih4⟩ := markup_escape.mono_l k
    refine ⟨?_, ?_, ?_, ?_, ?_⟩
    · intro y0 y1 y2
      unfold markup_escape.j1
      repeat' first
      | (with_reducible exact ih0 _ _ _)
      | (with_reducible exact ih1 _ _ _ _)
      | (with_reducible exact ih2 _ _ _)
      | (with_reducible exact ih3 _ _ _)
      | (with_reducible exact ih4 _ _ _)
      | (with_reducible exact LeO.refl _)
      | (with_reducible exact LeO.none _)
      | (with_reducible refine LeO.ite ?_ ?_)
      | (with_reducible refine LeO.bind ?_ (fun _ => ?_))
      | exact ih0 _ _ _
      | exact ih1 _ _ _ _
      | exact ih2 _ _ _
      | exact ih3 _ _ _
      | exact ih4 _ _ _
      | exact LeO.none _
      | refine LeO.ite ?_ ?_
      | refine LeO.bind ?_ (fun _ => ?_)
    · intro y0 y1 y2 y3
      unfold markup_escape.j2
      repeat' first
      | (with_reducible exact ih0 _ _ _)
      | (with_reducible exact ih1 _ _ _ _)
      | (with_reducible exact ih2 _ _ _)
      | (with_reducible exact ih3 _ _ _)
      | (with_reducible exact ih4 _ _ _)
      | (with_reducible exact LeO.refl _)
      | (with_reducible exact LeO.none _)
      | (with_reducible refine LeO.ite ?_ ?_)
      | (with_reducible refine LeO.bind ?_ (fun _ => ?_))
      | exact ih0 _ _ _
      | exact ih1 _ _ _ _
      | exact ih2 _ _ _
      | exact ih3 _ _ _
      | exact ih4 _ _ _
      | exact LeO.none _
      | refine LeO.ite ?_ ?_
      | refine LeO.bind ?_ (fun _ => ?_)
    · intro y0 y1 y2
      unfold markup_escape.j3
      repeat' first
      | (with_reducible exact ih0 _ _ _)
      | (with_reducible exact ih1 _ _ _ _)
      | (with_reducible exact ih2 _ _ _)
      | (with_reducible exact ih3 _ _ _)
      | (with_reducible exact ih4 _ _ _)
      | (with_reducible exact LeO.refl _)
      | (with_reducible exact LeO.none _)
      | (with_reducible refine LeO.ite ?_ ?_)
      | (with_reducible refine LeO.bind ?_ (fun _ => ?_))
      | exact ih0 _ _ _
      | exact ih1 _ _ _ _
      | exact ih2 _ _ _
      | exact ih3 _ _ _
      | exact ih4 _ _ _
      | exact LeO.none _
      | refine LeO.ite ?_ ?_
      | refine LeO.bind ?_ (fun _ => ?_)
    · intro y0 y1 y2
      unfold markup_escape.j4
      repeat' first
      | (with_reducible exact ih0 _ _ _)
      | (with_reducible exact ih1 _ _ _ _)
      | (with_reducible exact ih2 _ _ _)
      | (with_reducible exact ih3 _ _ _)
      | (with_reducible exact ih4 _ _ _)
      | (with_reducible exact LeO.refl _)
      | (with_reducible exact LeO.none _)
      | (with_reducible refine LeO.ite ?_ ?_)
      | (with_reducible refine LeO.bind ?_ (fun _ => ?_))
      | exact ih0 _ _ _
      | exact ih1 _ _ _ _
      | exact ih2 _ _ _
      | exact ih3 _ _ _
      | exact ih4 _ _ _
      | exact LeO.none _
      | refine LeO.ite ?_ ?_
      | refine LeO.bind ?_ (fun _ => ?_)
    · intro y0 y1 y2
      unfold markup_escape.l0
      repeat' first
      | (with_reducible exact ih0 _ _ _)
      | (with_reducible exact ih1 _ _ _ _)
      | (with_reducible exact ih2 _ _ _)
      | (with_reducible exact ih3 _ _ _)
      | (with_reducible exact ih4 _ _ _)
      | (with_reducible exact LeO.refl _)
      | (with_reducible exact LeO.none _)
      | (with_reducible refine LeO.ite ?_ ?_)
      | (with_reducible refine LeO.bind ?_ (fun _ => ?_))
      | exact ih0 _ _ _
      | exact ih1 _ _ _ _
      | exact ih2 _ _ _
      | exact ih3 _ _ _
      | exact ih4 _ _ _
      | exact LeO.none _
      | refine LeO.ite ?_ ?_
      | refine LeO.bind ?_ (fun _ => ?_)
theorem markup_escape.mono : ∀ a0 k, LeO (markup_escape.f k a0) (markup_escape.f (k + 1) a0) := by
  intro a0 k
  obtain ⟨ih0, ih1, ih2, ih3, ih4⟩ := markup_escape.mono_l k
  unfold markup_escape.f
  repeat' first
      | (with_reducible exact ih0 _ _ _)
      | (with_reducible exact ih1 _ _ _ _)
      | (with_reducible exact ih2 _ _ _)
      | (with_reducible exact ih3 _ _ _)
      | (with_reducible exact ih4 _ _ _)
      | (with_reducible exact LeO.refl _)
      | (with_reducible exact LeO.none _)
      | (with_reducible refine LeO.ite ?_ ?_)
      | (with_reducible refine LeO.bind ?_ (fun _ => ?_))
      | exact ih0 _ _ _
      | exact ih1 _ _ _ _
      | exact ih2 _ _ _
      | exact ih3 _ _ _
      | exact ih4 _ _ _
      | exact LeO.none _
      | refine LeO.ite ?_ ?_
      | refine LeO.bind ?_ (fun _ => ?_)
set_option maxHeartbeats 8000000 in
set_option maxRecDepth 100000 in
theorem markup_escape.calls (k : Nat) (a0 : ByteArray) (r1 : Int) (r2 : Int) (w : World) (h : markup_escape.f k a0 = some (r1, r2)) :
    Calls Tryd.prog 62 #[.string a0] w fun e w' => e = .returned (.tuple #[.int .i32 r1, .int .i64 r2]) ∧ Drawn0 w w' := by
  have H : ((strings_HasPrefix.f a0 (⟨#[38, 97, 109, 112, 59]⟩ : ByteArray)).bind fun t240 => (if t240 = true then (some (38, 5)) else ((strings_HasPrefix.f a0 (⟨#[38, 108, 116, 59]⟩ : ByteArray)).bind fun t241 => (if t241 = true then (some (60, 4)) else ((strings_HasPrefix.f a0 (⟨#[38, 103, 116, 59]⟩ : ByteArray)).bind fun t242 => (if t242 = true then (some (62, 4)) else ((strings_HasPrefix.f a0 (⟨#[38, 113, 117, 111, 116, 59]⟩ : ByteArray)).bind fun t243 => (if t243 = true then (some (34, 6)) else ((strings_HasPrefix.f a0 (⟨#[38, 35]⟩ : ByteArray)).bind fun t244 => (if t244 = true then (markup_escape.l0 k a0 0 2) else (some (0, 0)))))))))))) = some (r1, r2) := h
  clear h
  replace H := Option.bind_eq_some_iff.mp H
  obtain ⟨t240, A20, H⟩ := H
  replace H : (if t240 = true then (some (38, 5)) else ((strings_HasPrefix.f a0 (⟨#[38, 108, 116, 59]⟩ : ByteArray)).bind fun t241 => (if t241 = true then (some (60, 4)) else ((strings_HasPrefix.f a0 (⟨#[38, 103, 116, 59]⟩ : ByteArray)).bind fun t242 => (if t242 = true then (some (62, 4)) else ((strings_HasPrefix.f a0 (⟨#[38, 113, 117, 111, 116, 59]⟩ : ByteArray)).bind fun t243 => (if t243 = true then (some (34, 6)) else ((strings_HasPrefix.f a0 (⟨#[38, 35]⟩ : ByteArray)).bind fun t244 => (if t244 = true then (markup_escape.l0 k a0 0 2) else (some (0, 0))))))))))) = some (r1, r2) := H
  have A2 := Aside0.mk A20
  clear A20
  by_cases c3 : t240 = true
  · subst c3
    have H1 : (some (38, 5)) = some (r1, r2) := by rw [if_pos rfl] at H; exact H
    clear H
    have H := H1
    clear H1
    simp only [Option.some.injEq, Prod.mk.injEq] at H
    obtain ⟨rfl, rfl⟩ := H
    go_enter Tryd.func62, Tryd.ntmps62
    go_wp2_with (first | ((with_reducible refine gate_callee (f := 23) rfl ?_); refine goesL_ (some 8) rfl rfl Tryd.func23 (by kernel_rfl) rfl #[.string a0, .string (⟨#[38, 97, 109, 112, 59]⟩ : ByteArray)] rfl (by (try simp only [List.map_toArray, List.map_cons, List.map_nil]); first | done | rfl | (simp only [List.length_drop, List.length_take]; rfl)) ?_; (with_reducible refine (strings_HasPrefix.calls a0 (⟨#[38, 97, 109, 112, 59]⟩ : ByteArray) true _ A2.out).mono ?_); rintro e w' ⟨rfl, ⟨nd, rfl⟩⟩; refine ⟨_, rfl, ?_⟩))
    go_ret2
    exact ⟨by first | rfl | (simp; done) | (simp [*]; done), by repeat (first | exact Drawn0.refl _ | apply Drawn0.step)⟩
  · replace c3 := Bool.eq_false_iff.mpr c3
    subst c3
    have H1 : ((strings_HasPrefix.f a0 (⟨#[38, 108, 116, 59]⟩ : ByteArray)).bind fun t241 => (if t241 = true then (some (60, 4)) else ((strings_HasPrefix.f a0 (⟨#[38, 103, 116, 59]⟩ : ByteArray)).bind fun t242 => (if t242 = true then (some (62, 4)) else ((strings_HasPrefix.f a0 (⟨#[38, 113, 117, 111, 116, 59]⟩ : ByteArray)).bind fun t243 => (if t243 = true then (some (34, 6)) else ((strings_HasPrefix.f a0 (⟨#[38, 35]⟩ : ByteArray)).bind fun t244 => (if t244 = true then (markup_escape.l0 k a0 0 2) else (some (0, 0)))))))))) = some (r1, r2) := by rw [if_neg (show ¬ (false = true) by decide)] at H; exact H
    clear H
    have H := H1
    clear H1
    replace H := Option.bind_eq_some_iff.mp H
    obtain ⟨t241, A40, H⟩ := H
    replace H : (if t241 = true then (some (60, 4)) else ((strings_HasPrefix.f a0 (⟨#[38, 103, 116, 59]⟩ : ByteArray)).bind fun t242 => (if t242 = true then (some (62, 4)) else ((strings_HasPrefix.f a0 (⟨#[38, 113, 117, 111, 116, 59]⟩ : ByteArray)).bind fun t243 => (if t243 = true then (some (34, 6)) else ((strings_HasPrefix.f a0 (⟨#[38, 35]⟩ : ByteArray)).bind fun t244 => (if t244 = true then (markup_escape.l0 k a0 0 2) else (some (0, 0))))))))) = some (r1, r2) := H
    have A4 := Aside0.mk A40
    clear A40
    by_cases c5 : t241 = true
    · subst c5
      have H1 : (some (60, 4)) = some (r1, r2) := by rw [if_pos rfl] at H; exact H
      clear H
      have H := H1
      clear H1
      simp only [Option.some.injEq, Prod.mk.injEq] at H
      obtain ⟨rfl, rfl⟩ := H
      go_enter Tryd.func62, Tryd.ntmps62
      go_wp2_with (first | ((with_reducible refine gate_callee (f := 23) rfl ?_); refine goesL_ (some 8) rfl rfl Tryd.func23 (by kernel_rfl) rfl #[.string a0, .string (⟨#[38, 97, 109, 112, 59]⟩ : ByteArray)] rfl (by (try simp only [List.map_toArray, List.map_cons, List.map_nil]); first | done | rfl | (simp only [List.length_drop, List.length_take]; rfl)) ?_; (with_reducible refine (strings_HasPrefix.calls a0 (⟨#[38, 97, 109, 112, 59]⟩ : ByteArray) false _ A2.out).mono ?_); rintro e w' ⟨rfl, ⟨nd, rfl⟩⟩; refine ⟨_, rfl, ?_⟩) | ((with_reducible refine gate_callee (f := 23) rfl ?_); refine goesL_ (some 11) rfl rfl Tryd.func23 (by kernel_rfl) rfl #[.string a0, .string (⟨#[38, 108, 116, 59]⟩ : ByteArray)] rfl (by (try simp only [List.map_toArray, List.map_cons, List.map_nil]); first | done | rfl | (simp only [List.length_drop, List.length_take]; rfl)) ?_; (with_reducible refine (strings_HasPrefix.calls a0 (⟨#[38, 108, 116, 59]⟩ : ByteArray) true _ A4.out).mono ?_); rintro e w' ⟨rfl, ⟨nd, rfl⟩⟩; refine ⟨_, rfl, ?_⟩))
      go_ret2
      exact ⟨by first | rfl | (simp; done) | (simp [*]; done), by repeat (first | exact Drawn0.refl _ | apply Drawn0.step)⟩
    · replace c5 := Bool.eq_false_iff.mpr c5
      subst c5
      have H1 : ((strings_HasPrefix.f a0 (⟨#[38, 103, 116, 59]⟩ : ByteArray)).bind fun t242 => (if t242 = true then (some (62, 4)) else ((strings_HasPrefix.f a0 (⟨#[38, 113, 117, 111, 116, 59]⟩ : ByteArray)).bind fun t243 => (if t243 = true then (some (34, 6)) else ((strings_HasPrefix.f a0 (⟨#[38, 35]⟩ : ByteArray)).bind fun t244 => (if t244 = true then (markup_escape.l0 k a0 0 2) else (some (0, 0)))))))) = some (r1, r2) := by rw [if_neg (show ¬ (false = true) by decide)] at H; exact H
      clear H
      have H := H1
      clear H1
      replace H := Option.bind_eq_some_iff.mp H
      obtain ⟨t242, A60, H⟩ := H
      replace H : (if t242 = true then (some (62, 4)) else ((strings_HasPrefix.f a0 (⟨#[38, 113, 117, 111, 116, 59]⟩ : ByteArray)).bind fun t243 => (if t243 = true then (some (34, 6)) else ((strings_HasPrefix.f a0 (⟨#[38, 35]⟩ : ByteArray)).bind fun t244 => (if t244 = true then (markup_escape.l0 k a0 0 2) else (some (0, 0))))))) = some (r1, r2) := H
      have A6 := Aside0.mk A60
      clear A60
      by_cases c7 : t242 = true
      · subst c7
        have H1 : (some (62, 4)) = some (r1, r2) := by rw [if_pos rfl] at H; exact H
        clear H
        have H := H1
        clear H1
        simp only [Option.some.injEq, Prod.mk.injEq] at H
        obtain ⟨rfl, rfl⟩ := H
        go_enter Tryd.func62, Tryd.ntmps62
        go_wp2_with (first | ((with_reducible refine gate_callee (f := 23) rfl ?_); refine goesL_ (some 8) rfl rfl Tryd.func23 (by kernel_rfl) rfl #[.string a0, .string (⟨#[38, 97, 109, 112, 59]⟩ : ByteArray)] rfl (by (try simp only [List.map_toArray, List.map_cons, List.map_nil]); first | done | rfl | (simp only [List.length_drop, List.length_take]; rfl)) ?_; (with_reducible refine (strings_HasPrefix.calls a0 (⟨#[38, 97, 109, 112, 59]⟩ : ByteArray) false _ A2.out).mono ?_); rintro e w' ⟨rfl, ⟨nd, rfl⟩⟩; refine ⟨_, rfl, ?_⟩) | ((with_reducible refine gate_callee (f := 23) rfl ?_); refine goesL_ (some 11) rfl rfl Tryd.func23 (by kernel_rfl) rfl #[.string a0, .string (⟨#[38, 108, 116, 59]⟩ : ByteArray)] rfl (by (try simp only [List.map_toArray, List.map_cons, List.map_nil]); first | done | rfl | (simp only [List.length_drop, List.length_take]; rfl)) ?_; (with_reducible refine (strings_HasPrefix.calls a0 (⟨#[38, 108, 116, 59]⟩ : ByteArray) false _ A4.out).mono ?_); rintro e w' ⟨rfl, ⟨nd, rfl⟩⟩; refine ⟨_, rfl, ?_⟩) | ((with_reducible refine gate_callee (f := 23) rfl ?_); refine goesL_ (some 14) rfl rfl Tryd.func23 (by kernel_rfl) rfl #[.string a0, .string (⟨#[38, 103, 116, 59]⟩ : ByteArray)] rfl (by (try simp only [List.map_toArray, List.map_cons, List.map_nil]); first | done | rfl | (simp only [List.length_drop, List.length_take]; rfl)) ?_; (with_reducible refine (strings_HasPrefix.calls a0 (⟨#[38, 103, 116, 59]⟩ : ByteArray) true _ A6.out).mono ?_); rintro e w' ⟨rfl, ⟨nd, rfl⟩⟩; refine ⟨_, rfl, ?_⟩))
        go_ret2
        exact ⟨by first | rfl | (simp; done) | (simp [*]; done), by repeat (first | exact Drawn0.refl _ | apply Drawn0.step)⟩
      · replace c7 := Bool.eq_false_iff.mpr c7
        subst c7
        have H1 : ((strings_HasPrefix.f a0 (⟨#[38, 113, 117, 111, 116, 59]⟩ : ByteArray)).bind fun t243 => (if t243 = true then (some (34, 6)) else ((strings_HasPrefix.f a0 (⟨#[38, 35]⟩ : ByteArray)).bind fun t244 => (if t244 = true then (markup_escape.l0 k a0 0 2) else (some (0, 0)))))) = some (r1, r2) := by rw [if_neg (show ¬ (false = true) by decide)] at H; exact H
        clear H
        have H := H1
        clear H1
        replace H := Option.bind_eq_some_iff.mp H
        obtain ⟨t243, A80, H⟩ := H
        replace H : (if t243 = true then (some (34, 6)) else ((strings_HasPrefix.f a0 (⟨#[38, 35]⟩ : ByteArray)).bind fun t244 => (if t244 = true then (markup_escape.l0 k a0 0 2) else (some (0, 0))))) = some (r1, r2) := H
        have A8 := Aside0.mk A80
        clear A80
        by_cases c9 : t243 = true
        · subst c9
          have H1 : (some (34, 6)) = some (r1, r2) := by rw [if_pos rfl] at H; exact H
          clear H
          have H := H1
          clear H1
          simp only [Option.some.injEq, Prod.mk.injEq] at H
          obtain ⟨rfl, rfl⟩ := H
          go_enter Tryd.func62, Tryd.ntmps62
          go_wp2_with (first | ((with_reducible refine gate_callee (f := 23) rfl ?_); refine goesL_ (some 8) rfl rfl Tryd.func23 (by kernel_rfl) rfl #[.string a0, .string (⟨#[38, 97, 109, 112, 59]⟩ : ByteArray)] rfl (by (try simp only [List.map_toArray, List.map_cons, List.map_nil]); first | done | rfl | (simp only [List.length_drop, List.length_take]; rfl)) ?_; (with_reducible refine (strings_HasPrefix.calls a0 (⟨#[38, 97, 109, 112, 59]⟩ : ByteArray) false _ A2.out).mono ?_); rintro e w' ⟨rfl, ⟨nd, rfl⟩⟩; refine ⟨_, rfl, ?_⟩) | ((with_reducible refine gate_callee (f := 23) rfl ?_); refine goesL_ (some 11) rfl rfl Tryd.func23 (by kernel_rfl) rfl #[.string a0, .string (⟨#[38, 108, 116, 59]⟩ : ByteArray)] rfl (by (try simp only [List.map_toArray, List.map_cons, List.map_nil]); first | done | rfl | (simp only [List.length_drop, List.length_take]; rfl)) ?_; (with_reducible refine (strings_HasPrefix.calls a0 (⟨#[38, 108, 116, 59]⟩ : ByteArray) false _ A4.out).mono ?_); rintro e w' ⟨rfl, ⟨nd, rfl⟩⟩; refine ⟨_, rfl, ?_⟩) | ((with_reducible refine gate_callee (f := 23) rfl ?_); refine goesL_ (some 14) rfl rfl Tryd.func23 (by kernel_rfl) rfl #[.string a0, .string (⟨#[38, 103, 116, 59]⟩ : ByteArray)] rfl (by (try simp only [List.map_toArray, List.map_cons, List.map_nil]); first | done | rfl | (simp only [List.length_drop, List.length_take]; rfl)) ?_; (with_reducible refine (strings_HasPrefix.calls a0 (⟨#[38, 103, 116, 59]⟩ : ByteArray) false _ A6.out).mono ?_); rintro e w' ⟨rfl, ⟨nd, rfl⟩⟩; refine ⟨_, rfl, ?_⟩) | ((with_reducible refine gate_callee (f := 23) rfl ?_); refine goesL_ (some 17) rfl rfl Tryd.func23 (by kernel_rfl) rfl #[.string a0, .string (⟨#[38, 113, 117, 111, 116, 59]⟩ : ByteArray)] rfl (by (try simp only [List.map_toArray, List.map_cons, List.map_nil]); first | done | rfl | (simp only [List.length_drop, List.length_take]; rfl)) ?_; (with_reducible refine (strings_HasPrefix.calls a0 (⟨#[38, 113, 117, 111, 116, 59]⟩ : ByteArray) true _ A8.out).mono ?_); rintro e w' ⟨rfl, ⟨nd, rfl⟩⟩; refine ⟨_, rfl, ?_⟩))
          go_ret2
          exact ⟨by first | rfl | (simp; done) | (simp [*]; done), by repeat (first | exact Drawn0.refl _ | apply Drawn0.step)⟩
        · replace c9 := Bool.eq_false_iff.mpr c9
          subst c9
          have H1 : ((strings_HasPrefix.f a0 (⟨#[38, 35]⟩ : ByteArray)).bind fun t244 => (if t244 = true then (markup_escape.l0 k a0 0 2) else (some (0, 0)))) = some (r1, r2) := by rw [if_neg (show ¬ (false = true) by decide)] at H; exact H
          clear H
          have H := H1
          clear H1
          replace H := Option.bind_eq_some_iff.mp H
          obtain ⟨t244, A100, H⟩ := H
          replace H : (if t244 = true then (markup_escape.l0 k a0 0 2) else (some (0, 0))) = some (r1, r2) := H
          have A10 := Aside0.mk A100
          clear A100
          by_cases c11 : t244 = true
          · subst c11
            have H1 : (markup_escape.l0 k a0 0 2) = some (r1, r2) := by rw [if_pos rfl] at H; exact H
            clear H
            have H := H1
            clear H1
            have HC12 := Aside0.mk H
            clear H
            go_enter Tryd.func62, Tryd.ntmps62
            go_upto_block 1 with (first | ((with_reducible refine gate_callee (f := 23) rfl ?_); refine goesL_ (some 8) rfl rfl Tryd.func23 (by kernel_rfl) rfl #[.string a0, .string (⟨#[38, 97, 109, 112, 59]⟩ : ByteArray)] rfl (by (try simp only [List.map_toArray, List.map_cons, List.map_nil]); first | done | rfl | (simp only [List.length_drop, List.length_take]; rfl)) ?_; (with_reducible refine (strings_HasPrefix.calls a0 (⟨#[38, 97, 109, 112, 59]⟩ : ByteArray) false _ A2.out).mono ?_); rintro e w' ⟨rfl, ⟨nd, rfl⟩⟩; refine ⟨_, rfl, ?_⟩) | ((with_reducible refine gate_callee (f := 23) rfl ?_); refine goesL_ (some 11) rfl rfl Tryd.func23 (by kernel_rfl) rfl #[.string a0, .string (⟨#[38, 108, 116, 59]⟩ : ByteArray)] rfl (by (try simp only [List.map_toArray, List.map_cons, List.map_nil]); first | done | rfl | (simp only [List.length_drop, List.length_take]; rfl)) ?_; (with_reducible refine (strings_HasPrefix.calls a0 (⟨#[38, 108, 116, 59]⟩ : ByteArray) false _ A4.out).mono ?_); rintro e w' ⟨rfl, ⟨nd, rfl⟩⟩; refine ⟨_, rfl, ?_⟩) | ((with_reducible refine gate_callee (f := 23) rfl ?_); refine goesL_ (some 14) rfl rfl Tryd.func23 (by kernel_rfl) rfl #[.string a0, .string (⟨#[38, 103, 116, 59]⟩ : ByteArray)] rfl (by (try simp only [List.map_toArray, List.map_cons, List.map_nil]); first | done | rfl | (simp only [List.length_drop, List.length_take]; rfl)) ?_; (with_reducible refine (strings_HasPrefix.calls a0 (⟨#[38, 103, 116, 59]⟩ : ByteArray) false _ A6.out).mono ?_); rintro e w' ⟨rfl, ⟨nd, rfl⟩⟩; refine ⟨_, rfl, ?_⟩) | ((with_reducible refine gate_callee (f := 23) rfl ?_); refine goesL_ (some 17) rfl rfl Tryd.func23 (by kernel_rfl) rfl #[.string a0, .string (⟨#[38, 113, 117, 111, 116, 59]⟩ : ByteArray)] rfl (by (try simp only [List.map_toArray, List.map_cons, List.map_nil]); first | done | rfl | (simp only [List.length_drop, List.length_take]; rfl)) ?_; (with_reducible refine (strings_HasPrefix.calls a0 (⟨#[38, 113, 117, 111, 116, 59]⟩ : ByteArray) false _ A8.out).mono ?_); rintro e w' ⟨rfl, ⟨nd, rfl⟩⟩; refine ⟨_, rfl, ?_⟩) | ((with_reducible refine gate_callee (f := 23) rfl ?_); refine goesL_ (some 20) rfl rfl Tryd.func23 (by kernel_rfl) rfl #[.string a0, .string (⟨#[38, 35]⟩ : ByteArray)] rfl (by (try simp only [List.map_toArray, List.map_cons, List.map_nil]); first | done | rfl | (simp only [List.length_drop, List.length_take]; rfl)) ?_; (with_reducible refine (strings_HasPrefix.calls a0 (⟨#[38, 35]⟩ : ByteArray) true _ A10.out).mono ?_); rintro e w' ⟨rfl, ⟨nd, rfl⟩⟩; refine ⟨_, rfl, ?_⟩))
            (try simp only [Act.put, List.setIfInBounds_toArray, List.set_cons_zero, List.set_cons_succ])
            go_cut [4, 5] (fun v4 v5 wc => ∃ (kq : Nat) (x4_11 : Int) (x5_11 : Int), v4 = .int .i64 x4_11 ∧ v5 = .int .i64 x5_11 ∧ Aside0 (markup_escape.j1 kq a0 x4_11 x5_11 = some (r1, r2)) ∧ Aside0 (kq ≤ k) ∧ Drawn0 w wc)
            case first =>
              have H := HC12.out
              clear HC12
              have H' := Aside0.mk H
              clear H
              go_wp2
              go_loopg [4, 5] k (fun kq v4 v5 w' => ∃ (x4_1 : Int) (x5_1 : Int), v4 = .int .i64 x4_1 ∧ v5 = .int .i64 x5_1 ∧ Aside0 (markup_escape.l0 kq a0 x4_1 x5_1 = some (r1, r2)) ∧ Aside0 (kq ≤ k) ∧ Drawn0 w w')
              case atStart => exact ⟨(0), (2), (by first | rfl | (simp; done) | (simp [*]; done)), (by first | rfl | (simp; done) | (simp [*]; done)), H', ⟨Nat.le_refl _⟩, by repeat (first | exact Drawn0.refl _ | apply Drawn0.step)⟩
              case round =>
                clear H'
                try clear c1
                try clear c2
                try clear p2
                try clear c3
                try clear c5
                try clear c6
                try clear c7
                try clear c9
                try clear c11
                obtain ⟨x4_1, x5_1, rfl, rfl, HA, HK1, ⟨m1, rfl⟩⟩ := hrel
                cases gk with
                | zero => exact absurd HA.out (by simp [markup_escape.l0])
                | succ k1 =>
                  have H := HA.out
                  clear HA
                  simp only [markup_escape.l0] at H
                  by_cases c13 : x5_1 < (a0.size : Int)
                  · rw [if_pos c13] at H
                    have c13b0 : decide (x5_1 < (a0.size : Int)) = true := decide_eq_true c13
                    clear c13
                    (first | rw [c13b0] | (simp only [i64_w, i32_w]; rw [c13b0]) | skip)
                    by_cases c14 : x5_1 < 9
                    · rw [if_pos c14] at H
                      have c14b0 : decide (x5_1 < 9) = true := decide_eq_true c14
                      clear c14
                      by_cases c15 : 0 ≤ x5_1
                      · rw [if_pos c15] at H
                        have c15b0 : decide (0 ≤ x5_1) = true := decide_eq_true c15
                        clear c15
                        by_cases c17 : (bt a0 x5_1) ≥ 48
                        · rw [if_pos c17] at H
                          have c17b0 : decide (48 ≤ (bt a0 x5_1)) = true := decide_eq_true c17
                          clear c17
                          by_cases c19 : (bt a0 x5_1) ≤ 57
                          · rw [if_pos c19] at H
                            have c19b0 : decide ((bt a0 x5_1) ≤ 57) = true := decide_eq_true c19
                            clear c19
                            have H' := Aside0.mk H
                            clear H
                            have p16 : 0 ≤ (x5_1 : Int) := of_decide_eq_true (by first | (with_reducible assumption) | assumption)
                            have q16 : x5_1 < (a0.size : Int) := of_decide_eq_true (by first | (with_reducible assumption) | assumption)
                            have hx16 := bt_at a0 x5_1
                            replace p16 := eq_true p16
                            replace q16 := eq_true q16
                            have p18 : 0 ≤ (x5_1 : Int) := of_decide_eq_true (by first | (with_reducible assumption) | assumption)
                            have q18 : x5_1 < (a0.size : Int) := of_decide_eq_true (by first | (with_reducible assumption) | assumption)
                            have hx18 := bt_at a0 x5_1
                            replace p18 := eq_true p18
                            replace q18 := eq_true q18
                            have p20 : 0 ≤ (x5_1 : Int) := of_decide_eq_true (by first | (with_reducible assumption) | assumption)
                            have q20 : x5_1 < (a0.size : Int) := of_decide_eq_true (by first | (with_reducible assumption) | assumption)
                            have hx20 := bt_at a0 x5_1
                            replace p20 := eq_true p20
                            replace q20 := eq_true q20
                            go_wp2
                            go_roundg k1
                            case measure => have := HK1.out; omega
                            case rel => exact ⟨(wrap64 ((wrap64 (10 * x4_1)) + (((bt a0 x5_1) - 48) % 256))), (wrap64 (x5_1 + 1)), (by first | rfl | (simp; done) | (simp [*]; done)), (by first | rfl | (simp; done) | (simp [*]; done)), H', ⟨by have := HK1.out; omega⟩, by repeat (first | exact Drawn0.refl _ | apply Drawn0.step)⟩
                          · rw [if_neg c19] at H
                            have c19b0 : decide ((bt a0 x5_1) ≤ 57) = false := decide_eq_false c19
                            clear c19
                            have H' := Aside0.mk H
                            clear H
                            have p16 : 0 ≤ (x5_1 : Int) := of_decide_eq_true (by first | (with_reducible assumption) | assumption)
                            have q16 : x5_1 < (a0.size : Int) := of_decide_eq_true (by first | (with_reducible assumption) | assumption)
                            have hx16 := bt_at a0 x5_1
                            replace p16 := eq_true p16
                            replace q16 := eq_true q16
                            have p18 : 0 ≤ (x5_1 : Int) := of_decide_eq_true (by first | (with_reducible assumption) | assumption)
                            have q18 : x5_1 < (a0.size : Int) := of_decide_eq_true (by first | (with_reducible assumption) | assumption)
                            have hx18 := bt_at a0 x5_1
                            replace p18 := eq_true p18
                            replace q18 := eq_true q18
                            go_wp2
                            go_meet
                            case rel => exact ⟨_, (x4_1), (x5_1), (by first | rfl | (simp; done) | (simp [*]; done)), (by first | rfl | (simp; done) | (simp [*]; done)), H', ⟨by have := HK1.out; first | omega | exact Nat.le_refl _⟩, by repeat (first | exact Drawn0.refl _ | apply Drawn0.step)⟩
                        · rw [if_neg c17] at H
                          have c17b0 : decide (48 ≤ (bt a0 x5_1)) = false := decide_eq_false c17
                          clear c17
                          have H' := Aside0.mk H
                          clear H
                          have p16 : 0 ≤ (x5_1 : Int) := of_decide_eq_true (by first | (with_reducible assumption) | assumption)
                          have q16 : x5_1 < (a0.size : Int) := of_decide_eq_true (by first | (with_reducible assumption) | assumption)
                          have hx16 := bt_at a0 x5_1
                          replace p16 := eq_true p16
                          replace q16 := eq_true q16
                          go_wp2
                          go_meet
                          case rel => exact ⟨_, (x4_1), (x5_1), (by first | rfl | (simp; done) | (simp [*]; done)), (by first | rfl | (simp; done) | (simp [*]; done)), H', ⟨by have := HK1.out; first | omega | exact Nat.le_refl _⟩, by repeat (first | exact Drawn0.refl _ | apply Drawn0.step)⟩
                      · rw [if_neg c15] at H
                        exact absurd H (by simp)
                    · rw [if_neg c14] at H
                      have c14b0 : decide (x5_1 < 9) = false := decide_eq_false c14
                      clear c14
                      have H' := Aside0.mk H
                      clear H
                      go_wp2
                      go_meet
                      case rel => exact ⟨_, (x4_1), (x5_1), (by first | rfl | (simp; done) | (simp [*]; done)), (by first | rfl | (simp; done) | (simp [*]; done)), H', ⟨by have := HK1.out; first | omega | exact Nat.le_refl _⟩, by repeat (first | exact Drawn0.refl _ | apply Drawn0.step)⟩
                  · rw [if_neg c13] at H
                    have c13b0 : decide (x5_1 < (a0.size : Int)) = false := decide_eq_false c13
                    clear c13
                    (first | rw [c13b0] | (simp only [i64_w, i32_w]; rw [c13b0]) | skip)
                    have H' := Aside0.mk H
                    clear H
                    go_wp2
                    go_meet
                    case rel => exact ⟨_, (x4_1), (x5_1), (by first | rfl | (simp; done) | (simp [*]; done)), (by first | rfl | (simp; done) | (simp [*]; done)), H', ⟨by have := HK1.out; first | omega | exact Nat.le_refl _⟩, by repeat (first | exact Drawn0.refl _ | apply Drawn0.step)⟩
            case rest =>
              clear HC12
              try clear c1
              try clear p1
              try clear q1
              try clear hx1
              try clear c2
              try clear p2
              try clear q2
              try clear hx2
              try clear c3
              try clear c5
              try clear c6
              try clear p6
              try clear c7
              try clear c9
              try clear c11
              try clear c13
              try clear c13b0
              try clear c14
              try clear c14b0
              try clear c15
              try clear c15b0
              try clear p16
              try clear q16
              try clear hx16
              try clear c17
              try clear c17b0
              try clear p18
              try clear q18
              try clear hx18
              try clear c19
              try clear c19b0
              try clear p20
              try clear q20
              try clear hx20
              try clear p16
              try clear p18
              try clear p2
              try clear p20
              try clear q16
              try clear q18
              try clear q20
              obtain ⟨kq, x4_11, x5_11, rfl, rfl, HA, HJ11, ⟨mc11, rfl⟩⟩ := hcut
              cases kq with
              | zero => exact absurd HA.out (by simp [markup_escape.j1])
              | succ kj11 =>
                have H := HA.out
                clear HA
                simp only [markup_escape.j1] at H
                have HC21 := Aside0.mk H
                clear H
                go_upto_if 52 with (fail)
                go_cut [52] (fun v52 wc => ∃ (kq : Nat) (x52_20 : Bool), v52 = .bool x52_20 ∧ Aside0 (markup_escape.j2 kq a0 x4_11 x5_11 x52_20 = some (r1, r2)) ∧ Aside0 (kq ≤ kj11) ∧ Drawn0 w wc)
                case first =>
                  have H := HC21.out
                  clear HC21
                  by_cases c22 : x5_11 = 2
                  · rw [if_pos c22] at H
                    have c22b0 : (x5_11 == 2) = true := beq_iff_eq.mpr c22
                    have c22b1 : (x5_11 != 2) = false := bne_eq_false_iff_eq.mpr c22
                    clear c22
                    (first | rw [c22b0] | rw [c22b1] | (simp only [i64_w, i32_w]; rw [c22b0]) | skip)
                    have H' := Aside0.mk H
                    clear H
                    go_wp2
                    go_meet
                    case rel => exact ⟨_, ((x5_11 == 2)), (by first | rfl | (simp; done) | (simp [*]; done)), H', ⟨by have := HJ11.out; first | omega | exact Nat.le_refl _⟩, by repeat (first | exact Drawn0.refl _ | apply Drawn0.step)⟩
                  · rw [if_neg c22] at H
                    have c22b0 : (x5_11 == 2) = false := beq_eq_false_iff_ne.mpr c22
                    have c22b1 : (x5_11 != 2) = true := bne_iff_ne.mpr c22
                    (first | rw [c22b0] | rw [c22b1] | (simp only [i64_w, i32_w]; rw [c22b0]) | skip)
                    by_cases c23 : x5_11 = (a0.size : Int)
                    · rw [if_pos c23] at H
                      have c23b0 : (x5_11 == (a0.size : Int)) = true := beq_iff_eq.mpr c23
                      have c23b1 : (x5_11 != (a0.size : Int)) = false := bne_eq_false_iff_eq.mpr c23
                      clear c23
                      have H' := Aside0.mk H
                      clear H
                      go_wp2
                      go_meet
                      case rel => exact ⟨_, ((x5_11 == (a0.size : Int))), (by first | rfl | (simp; done) | (simp [*]; done)), H', ⟨by have := HJ11.out; first | omega | exact Nat.le_refl _⟩, by repeat (first | exact Drawn0.refl _ | apply Drawn0.step)⟩
                    · rw [if_neg c23] at H
                      have c23b0 : (x5_11 == (a0.size : Int)) = false := beq_eq_false_iff_ne.mpr c23
                      have c23b1 : (x5_11 != (a0.size : Int)) = true := bne_iff_ne.mpr c23
                      by_cases c24 : 0 ≤ x5_11
                      · rw [if_pos c24] at H
                        have c24b0 : decide (0 ≤ x5_11) = true := decide_eq_true c24
                        clear c24
                        by_cases c25 : x5_11 < (a0.size : Int)
                        · rw [if_pos c25] at H
                          have c25b0 : decide (x5_11 < (a0.size : Int)) = true := decide_eq_true c25
                          clear c25
                          have H' := Aside0.mk H
                          clear H
                          have p26 : 0 ≤ (x5_11 : Int) := of_decide_eq_true (by first | (with_reducible assumption) | assumption)
                          have q26 : x5_11 < (a0.size : Int) := of_decide_eq_true (by first | (with_reducible assumption) | assumption)
                          have hx26 := bt_at a0 x5_11
                          replace p26 := eq_true p26
                          replace q26 := eq_true q26
                          go_wp2
                          go_meet
                          case rel => exact ⟨_, (((bt a0 x5_11) != 59)), (by first | rfl | (simp; done) | (simp [*]; done)), H', ⟨by have := HJ11.out; first | omega | exact Nat.le_refl _⟩, by repeat (first | exact Drawn0.refl _ | apply Drawn0.step)⟩
                        · rw [if_neg c25] at H
                          exact absurd H (by simp)
                      · rw [if_neg c24] at H
                        exact absurd H (by simp)
                case rest =>
                  clear HC21
                  try clear c1
                  try clear p1
                  try clear q1
                  try clear hx1
                  try clear c2
                  try clear p2
                  try clear q2
                  try clear hx2
                  try clear c3
                  try clear c5
                  try clear c6
                  try clear p6
                  try clear c7
                  try clear c9
                  try clear c11
                  try clear c13
                  try clear c13b0
                  try clear c14
                  try clear c14b0
                  try clear c15
                  try clear c15b0
                  try clear p16
                  try clear q16
                  try clear hx16
                  try clear c17
                  try clear c17b0
                  try clear p18
                  try clear q18
                  try clear hx18
                  try clear c19
                  try clear c19b0
                  try clear p20
                  try clear q20
                  try clear hx20
                  try clear c22
                  try clear c22b0
                  try clear c22b1
                  try clear c23
                  try clear c23b0
                  try clear c23b1
                  try clear c24
                  try clear c24b0
                  try clear c25
                  try clear c25b0
                  try clear p26
                  try clear q26
                  try clear hx26
                  try clear p1
                  try clear p16
                  try clear p18
                  try clear p2
                  try clear p20
                  try clear p26
                  try clear p6
                  try clear q1
                  try clear q16
                  try clear q18
                  try clear q2
                  try clear q20
                  try clear q26
                  obtain ⟨kq, x52_20, rfl, HA, HJ20, ⟨mc20, rfl⟩⟩ := hcut
                  cases kq with
                  | zero => exact absurd HA.out (by simp [markup_escape.j2])
                  | succ kj20 =>
                    have H := HA.out
                    clear HA
                    simp only [markup_escape.j2] at H
                    by_cases c27 : x52_20 = true
                    · subst c27
                      have H1 : (some (0, 0)) = some (r1, r2) := by rw [if_pos rfl] at H; exact H
                      clear H
                      have H := H1
                      clear H1
                      simp only [Option.some.injEq, Prod.mk.injEq] at H
                      obtain ⟨rfl, rfl⟩ := H
                      go_wp2
                      go_ret2
                      exact ⟨by first | rfl | (simp; done) | (simp [*]; done), by repeat (first | exact Drawn0.refl _ | apply Drawn0.step)⟩
                    · replace c27 := Bool.eq_false_iff.mpr c27
                      subst c27
                      have H1 : (if 2 < (a0.size : Int) then (if (bt a0 2) = 48 then (markup_escape.j3 kj20 x4_11 x5_11 (decide (x5_11 > 3))) else (markup_escape.j3 kj20 x4_11 x5_11 false)) else (none)) = some (r1, r2) := by rw [if_neg (show ¬ (false = true) by decide)] at H; exact H
                      clear H
                      have H := H1
                      clear H1
                      have HC28 := Aside0.mk H
                      clear H
                      go_upto_region 19 with (fail)
                      go_cut [63] (fun v63 wc => ∃ (kq : Nat) (x63_27 : Bool), v63 = .bool x63_27 ∧ Aside0 (markup_escape.j3 kq x4_11 x5_11 x63_27 = some (r1, r2)) ∧ Aside0 (kq ≤ kj20) ∧ Drawn0 w wc)
                      case first =>
                        have H := HC28.out
                        clear HC28
                        by_cases c29 : 2 < (a0.size : Int)
                        · rw [if_pos c29] at H
                          have c29b0 : decide (2 < (a0.size : Int)) = true := decide_eq_true c29
                          have c29b1 : decide (2 < a0.size) = true := decide_eq_true (by omega)
                          clear c29
                          (first | rw [c29b0] | rw [c29b1] | (simp only [i64_w, i32_w]; rw [c29b0]) | skip)
                          by_cases c31 : (bt a0 2) = 48
                          · rw [if_pos c31] at H
                            have c31b0 : ((bt a0 2) == 48) = true := beq_iff_eq.mpr c31
                            have c31b1 : ((bt a0 2) != 48) = false := bne_eq_false_iff_eq.mpr c31
                            clear c31
                            have H' := Aside0.mk H
                            clear H
                            have p30 : 0 ≤ (2 : Int) := (by omega)
                            have q30 : 2 < a0.size := (by have : (2 : Int) < (a0.size : Int) := of_decide_eq_true (by first | (with_reducible assumption) | assumption); omega)
                            have hx30 : ∀ h : 2 < a0.size, ((a0[2]'h).toNat : Int) = bt a0 2 := bt_at a0 2
                            clear p30
                            have qi30 : (2 < (a0.size : Int)) = True := eq_true (of_decide_eq_true (by first | (with_reducible assumption) | assumption))
                            replace q30 := eq_true q30
                            go_wp2
                            go_meet
                            case rel => exact ⟨_, (decide (x5_11 > 3)), (by first | rfl | (simp; done) | (simp [*]; done)), H', ⟨by have := HJ11.out; have := HJ20.out; first | omega | exact Nat.le_refl _⟩, by repeat (first | exact Drawn0.refl _ | apply Drawn0.step)⟩
                          · rw [if_neg c31] at H
                            have c31b0 : ((bt a0 2) == 48) = false := beq_eq_false_iff_ne.mpr c31
                            have c31b1 : ((bt a0 2) != 48) = true := bne_iff_ne.mpr c31
                            have H' := Aside0.mk H
                            clear H
                            have p30 : 0 ≤ (2 : Int) := (by omega)
                            have q30 : 2 < a0.size := (by have : (2 : Int) < (a0.size : Int) := of_decide_eq_true (by first | (with_reducible assumption) | assumption); omega)
                            have hx30 : ∀ h : 2 < a0.size, ((a0[2]'h).toNat : Int) = bt a0 2 := bt_at a0 2
                            clear p30
                            have qi30 : (2 < (a0.size : Int)) = True := eq_true (of_decide_eq_true (by first | (with_reducible assumption) | assumption))
                            replace q30 := eq_true q30
                            go_wp2
                            go_meet
                            case rel => exact ⟨_, (false), (by first | rfl | (simp; done) | (simp [*]; done)), H', ⟨by have := HJ11.out; have := HJ20.out; first | omega | exact Nat.le_refl _⟩, by repeat (first | exact Drawn0.refl _ | apply Drawn0.step)⟩
                        · rw [if_neg c29] at H
                          exact absurd H (by simp)
                      case rest =>
                        clear HC28
                        try clear c1
                        try clear p1
                        try clear q1
                        try clear hx1
                        try clear c2
                        try clear p2
                        try clear q2
                        try clear hx2
                        try clear c3
                        try clear p3
                        try clear q3
                        try clear hx3
                        try clear qi3
                        try clear c5
                        try clear c6
                        try clear p6
                        try clear c7
                        try clear c9
                        try clear c11
                        try clear c13
                        try clear c13b0
                        try clear c14
                        try clear c14b0
                        try clear c15
                        try clear c15b0
                        try clear p16
                        try clear q16
                        try clear hx16
                        try clear c17
                        try clear c17b0
                        try clear p18
                        try clear q18
                        try clear hx18
                        try clear c19
                        try clear c19b0
                        try clear c20
                        try clear p20
                        try clear q20
                        try clear hx20
                        try clear c22
                        try clear c22b0
                        try clear c22b1
                        try clear c23
                        try clear c23b0
                        try clear c23b1
                        try clear c24
                        try clear c24b0
                        try clear c25
                        try clear c25b0
                        try clear p26
                        try clear q26
                        try clear hx26
                        try clear c27
                        try clear c29
                        try clear c29b0
                        try clear c29b1
                        try clear p30
                        try clear q30
                        try clear hx30
                        try clear qi30
                        try clear c31
                        try clear c31b0
                        try clear c31b1
                        try clear p1
                        try clear p16
                        try clear p18
                        try clear p2
                        try clear p20
                        try clear p26
                        try clear p30
                        try clear p6
                        try clear q1
                        try clear q16
                        try clear q18
                        try clear q2
                        try clear q20
                        try clear q26
                        try clear q30
                        obtain ⟨kq, x63_27, rfl, HA, HJ27, ⟨mc27, rfl⟩⟩ := hcut
                        cases kq with
                        | zero => exact absurd HA.out (by simp [markup_escape.j3])
                        | succ kj27 =>
                          have H := HA.out
                          clear HA
                          simp only [markup_escape.j3] at H
                          by_cases c32 : x63_27 = true
                          · subst c32
                            have H1 : (some (0, 0)) = some (r1, r2) := by rw [if_pos rfl] at H; exact H
                            clear H
                            have H := H1
                            clear H1
                            simp only [Option.some.injEq, Prod.mk.injEq] at H
                            obtain ⟨rfl, rfl⟩ := H
                            go_wp2
                            go_ret2
                            exact ⟨by first | rfl | (simp; done) | (simp [*]; done), by repeat (first | exact Drawn0.refl _ | apply Drawn0.step)⟩
                          · replace c32 := Bool.eq_false_iff.mpr c32
                            subst c32
                            have H1 : (if x4_11 ≥ 55296 then (markup_escape.j4 kj27 x4_11 x5_11 (decide (x4_11 ≤ 57343))) else (markup_escape.j4 kj27 x4_11 x5_11 false)) = some (r1, r2) := by rw [if_neg (show ¬ (false = true) by decide)] at H; exact H
                            clear H
                            have H := H1
                            clear H1
                            have HC33 := Aside0.mk H
                            clear H
                            go_upto_region 21 with (fail)
                            go_cut [71] (fun v71 wc => ∃ (kq : Nat) (x71_32 : Bool), v71 = .bool x71_32 ∧ Aside0 (markup_escape.j4 kq x4_11 x5_11 x71_32 = some (r1, r2)) ∧ Aside0 (kq ≤ kj27) ∧ Drawn0 w wc)
                            case first =>
                              have H := HC33.out
                              clear HC33
                              by_cases c34 : x4_11 ≥ 55296
                              · rw [if_pos c34] at H
                                have c34b0 : decide (55296 ≤ x4_11) = true := decide_eq_true c34
                                clear c34
                                (first | rw [c34b0] | (simp only [i64_w, i32_w]; rw [c34b0]) | skip)
                                have H' := Aside0.mk H
                                clear H
                                go_wp2
                                go_meet
                                case rel => exact ⟨_, (decide (x4_11 ≤ 57343)), (by first | rfl | (simp; done) | (simp [*]; done)), H', ⟨by have := HJ11.out; have := HJ20.out; have := HJ27.out; first | omega | exact Nat.le_refl _⟩, by repeat (first | exact Drawn0.refl _ | apply Drawn0.step)⟩
                              · rw [if_neg c34] at H
                                have c34b0 : decide (55296 ≤ x4_11) = false := decide_eq_false c34
                                clear c34
                                (first | rw [c34b0] | (simp only [i64_w, i32_w]; rw [c34b0]) | skip)
                                have H' := Aside0.mk H
                                clear H
                                go_wp2
                                go_meet
                                case rel => exact ⟨_, (false), (by first | rfl | (simp; done) | (simp [*]; done)), H', ⟨by have := HJ11.out; have := HJ20.out; have := HJ27.out; first | omega | exact Nat.le_refl _⟩, by repeat (first | exact Drawn0.refl _ | apply Drawn0.step)⟩
                            case rest =>
                              clear HC33
                              try clear c1
                              try clear p1
                              try clear q1
                              try clear hx1
                              try clear c2
                              try clear p2
                              try clear q2
                              try clear hx2
                              try clear c3
                              try clear p3
                              try clear q3
                              try clear hx3
                              try clear qi3
                              try clear c5
                              try clear c6
                              try clear p6
                              try clear c7
                              try clear c9
                              try clear c11
                              try clear c13
                              try clear c13b0
                              try clear c14
                              try clear c14b0
                              try clear c15
                              try clear c15b0
                              try clear p16
                              try clear q16
                              try clear hx16
                              try clear c17
                              try clear c17b0
                              try clear p18
                              try clear q18
                              try clear hx18
                              try clear c19
                              try clear c19b0
                              try clear c20
                              try clear p20
                              try clear q20
                              try clear hx20
                              try clear c22
                              try clear c22b0
                              try clear c22b1
                              try clear c23
                              try clear c23b0
                              try clear c23b1
                              try clear c24
                              try clear c24b0
                              try clear c25
                              try clear c25b0
                              try clear p26
                              try clear q26
                              try clear hx26
                              try clear c27
                              try clear c29
                              try clear c29b0
                              try clear c29b1
                              try clear p30
                              try clear q30
                              try clear hx30
                              try clear qi30
                              try clear c31
                              try clear c31b0
                              try clear c31b1
                              try clear c32
                              try clear c34
                              try clear c34b0
                              try clear p1
                              try clear p16
                              try clear p18
                              try clear p2
                              try clear p20
                              try clear p26
                              try clear p3
                              try clear p30
                              try clear p6
                              try clear q1
                              try clear q16
                              try clear q18
                              try clear q2
                              try clear q20
                              try clear q26
                              try clear q3
                              try clear q30
                              obtain ⟨kq, x71_32, rfl, HA, HJ32, ⟨mc32, rfl⟩⟩ := hcut
                              cases kq with
                              | zero => exact absurd HA.out (by simp [markup_escape.j4])
                              | succ kj32 =>
                                have H := HA.out
                                clear HA
                                simp only [markup_escape.j4] at H
                                by_cases c35 : x71_32 = true
                                · subst c35
                                  have H1 : (some (0, 0)) = some (r1, r2) := by rw [if_pos rfl] at H; exact H
                                  clear H
                                  have H := H1
                                  clear H1
                                  simp only [Option.some.injEq, Prod.mk.injEq] at H
                                  obtain ⟨rfl, rfl⟩ := H
                                  go_wp2
                                  go_ret2
                                  exact ⟨by first | rfl | (simp; done) | (simp [*]; done), by repeat (first | exact Drawn0.refl _ | apply Drawn0.step)⟩
                                · replace c35 := Bool.eq_false_iff.mpr c35
                                  subst c35
                                  have H1 : (if x4_11 > 1114111 then (some (0, 0)) else (some (wrap32 (x4_11), wrap64 (x5_11 + 1)))) = some (r1, r2) := by rw [if_neg (show ¬ (false = true) by decide)] at H; exact H
                                  clear H
                                  have H := H1
                                  clear H1
                                  by_cases c36 : x4_11 > 1114111
                                  · rw [if_pos c36] at H
                                    have c36b0 : decide (1114111 < x4_11) = true := decide_eq_true c36
                                    clear c36
                                    simp only [Option.some.injEq, Prod.mk.injEq] at H
                                    obtain ⟨rfl, rfl⟩ := H
                                    go_wp2
                                    go_ret2
                                    exact ⟨by first | rfl | (simp; done) | (simp [*]; done), by repeat (first | exact Drawn0.refl _ | apply Drawn0.step)⟩
                                  · rw [if_neg c36] at H
                                    have c36b0 : decide (1114111 < x4_11) = false := decide_eq_false c36
                                    clear c36
                                    simp only [Option.some.injEq, Prod.mk.injEq] at H
                                    obtain ⟨rfl, rfl⟩ := H
                                    go_wp2
                                    go_ret2
                                    exact ⟨by first | rfl | (simp; done) | (simp [*]; done), by repeat (first | exact Drawn0.refl _ | apply Drawn0.step)⟩
          · replace c11 := Bool.eq_false_iff.mpr c11
            subst c11
            have H1 : (some (0, 0)) = some (r1, r2) := by rw [if_neg (show ¬ (false = true) by decide)] at H; exact H
            clear H
            have H := H1
            clear H1
            simp only [Option.some.injEq, Prod.mk.injEq] at H
            obtain ⟨rfl, rfl⟩ := H
            go_enter Tryd.func62, Tryd.ntmps62
            go_wp2_with (first | ((with_reducible refine gate_callee (f := 23) rfl ?_); refine goesL_ (some 8) rfl rfl Tryd.func23 (by kernel_rfl) rfl #[.string a0, .string (⟨#[38, 97, 109, 112, 59]⟩ : ByteArray)] rfl (by (try simp only [List.map_toArray, List.map_cons, List.map_nil]); first | done | rfl | (simp only [List.length_drop, List.length_take]; rfl)) ?_; (with_reducible refine (strings_HasPrefix.calls a0 (⟨#[38, 97, 109, 112, 59]⟩ : ByteArray) false _ A2.out).mono ?_); rintro e w' ⟨rfl, ⟨nd, rfl⟩⟩; refine ⟨_, rfl, ?_⟩) | ((with_reducible refine gate_callee (f := 23) rfl ?_); refine goesL_ (some 11) rfl rfl Tryd.func23 (by kernel_rfl) rfl #[.string a0, .string (⟨#[38, 108, 116, 59]⟩ : ByteArray)] rfl (by (try simp only [List.map_toArray, List.map_cons, List.map_nil]); first | done | rfl | (simp only [List.length_drop, List.length_take]; rfl)) ?_; (with_reducible refine (strings_HasPrefix.calls a0 (⟨#[38, 108, 116, 59]⟩ : ByteArray) false _ A4.out).mono ?_); rintro e w' ⟨rfl, ⟨nd, rfl⟩⟩; refine ⟨_, rfl, ?_⟩) | ((with_reducible refine gate_callee (f := 23) rfl ?_); refine goesL_ (some 14) rfl rfl Tryd.func23 (by kernel_rfl) rfl #[.string a0, .string (⟨#[38, 103, 116, 59]⟩ : ByteArray)] rfl (by (try simp only [List.map_toArray, List.map_cons, List.map_nil]); first | done | rfl | (simp only [List.length_drop, List.length_take]; rfl)) ?_; (with_reducible refine (strings_HasPrefix.calls a0 (⟨#[38, 103, 116, 59]⟩ : ByteArray) false _ A6.out).mono ?_); rintro e w' ⟨rfl, ⟨nd, rfl⟩⟩; refine ⟨_, rfl, ?_⟩) | ((with_reducible refine gate_callee (f := 23) rfl ?_); refine goesL_ (some 17) rfl rfl Tryd.func23 (by kernel_rfl) rfl #[.string a0, .string (⟨#[38, 113, 117, 111, 116, 59]⟩ : ByteArray)] rfl (by (try simp only [List.map_toArray, List.map_cons, List.map_nil]); first | done | rfl | (simp only [List.length_drop, List.length_take]; rfl)) ?_; (with_reducible refine (strings_HasPrefix.calls a0 (⟨#[38, 113, 117, 111, 116, 59]⟩ : ByteArray) false _ A8.out).mono ?_); rintro e w' ⟨rfl, ⟨nd, rfl⟩⟩; refine ⟨_, rfl, ?_⟩) | ((with_reducible refine gate_callee (f := 23) rfl ?_); refine goesL_ (some 20) rfl rfl Tryd.func23 (by kernel_rfl) rfl #[.string a0, .string (⟨#[38, 35]⟩ : ByteArray)] rfl (by (try simp only [List.map_toArray, List.map_cons, List.map_nil]); first | done | rfl | (simp only [List.length_drop, List.length_take]; rfl)) ?_; (with_reducible refine (strings_HasPrefix.calls a0 (⟨#[38, 35]⟩ : ByteArray) false _ A10.out).mono ?_); rintro e w' ⟨rfl, ⟨nd, rfl⟩⟩; refine ⟨_, rfl, ?_⟩))
            go_ret2
            exact ⟨by first | rfl | (simp; done) | (simp [*]; done), by repeat (first | exact Drawn0.refl _ | apply Drawn0.step)⟩

end Go.Proofs.YtebajpebongabaaDoor.P
