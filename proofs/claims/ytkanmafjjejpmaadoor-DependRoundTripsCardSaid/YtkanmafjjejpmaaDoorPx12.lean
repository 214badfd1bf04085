-- Written by a program of this session (wip/doprint.sh) out of the translation; Lean checks it.
import Derived.Test.YtkanmafjjejpmaaDoorPx0
import Derived.Test.YtkanmafjjejpmaaDoorPx9
import Derived.Test.YtkanmafjjejpmaaDoorPx11
import Derived.Test.YtkanmafjjejpmaaDoorX3
namespace Go.Proofs.YtkanmafjjejpmaaDoor.P
open Go.Proofs.YtkanmafjjejpmaaDoor.S
open Go.Proofs.YtkanmafjjejpmaaDoor.X
open Go.RowKit Go.Proofs.YtkanmafjjejpmaaDoorW.PrintWords Go.Proofs.YtkanmafjjejpmaaDoorW.PrintLast Go.Proofs.YtkanmafjjejpmaaDoorW.PrintMore
attribute [local go_sem] max2_int min2_int max_two min_two max_three min_three max_four min_four   -- for this text's walks alone
set_option linter.unusedVariables false
set_option linter.unusedSimpArgs false

/-! ### corporaref09_Format: function 7 -/
def corporaref09_Format.l0 : Nat → List ByteArray → ByteArray → List Int → Int → Int → Option (ByteArray × Int)
  | 0, _, _, _, _, _ => none
  | k + 1, x1, x8, x24, x25, x26 => if x26 < x25 then (if 0 ≤ x26 then (if x26 < (x24.length : Int) then (if x26 < (x1.length : Int) then (if (rdOf ByteArray.empty x1 x26).toList = ([] : List UInt8) then ((corporaref09_Digits.f (wrap64 ((rd x24 x26) + 1))).bind fun t180 => (if t180.size + 1 ≤ 9223372036854775807 then (if (t180 ++ (⟨#[9]⟩ : ByteArray)).size + (rdOf ByteArray.empty x1 x26).size ≤ 9223372036854775807 then (if ((t180 ++ (⟨#[9]⟩ : ByteArray)) ++ (rdOf ByteArray.empty x1 x26)).size + 1 ≤ 9223372036854775807 then (if x8.size + (((t180 ++ (⟨#[9]⟩ : ByteArray)) ++ (rdOf ByteArray.empty x1 x26)) ++ (⟨#[10]⟩ : ByteArray)).size ≤ 9223372036854775807 then (corporaref09_Format.l0 k x1 (x8 ++ (((t180 ++ (⟨#[9]⟩ : ByteArray)) ++ (rdOf ByteArray.empty x1 x26)) ++ (⟨#[10]⟩ : ByteArray))) x24 x25 (wrap64 (x26 + 1))) else (none)) else (none)) else (none)) else (none))) else ((corporaref04_ValidName.f k (rdOf ByteArray.empty x1 x26)).bind fun t183 => (if t183 = true then ((corporaref09_Digits.f (wrap64 ((rd x24 x26) + 1))).bind fun t184 => (if t184.size + 1 ≤ 9223372036854775807 then (if (t184 ++ (⟨#[9]⟩ : ByteArray)).size + (rdOf ByteArray.empty x1 x26).size ≤ 9223372036854775807 then (if ((t184 ++ (⟨#[9]⟩ : ByteArray)) ++ (rdOf ByteArray.empty x1 x26)).size + 1 ≤ 9223372036854775807 then (if x8.size + (((t184 ++ (⟨#[9]⟩ : ByteArray)) ++ (rdOf ByteArray.empty x1 x26)) ++ (⟨#[10]⟩ : ByteArray)).size ≤ 9223372036854775807 then (corporaref09_Format.l0 k x1 (x8 ++ (((t184 ++ (⟨#[9]⟩ : ByteArray)) ++ (rdOf ByteArray.empty x1 x26)) ++ (⟨#[10]⟩ : ByteArray))) x24 x25 (wrap64 (x26 + 1))) else (none)) else (none)) else (none)) else (none))) else (some ((⟨#[]⟩ : ByteArray), 4))))) else (none)) else (none)) else (none)) else (some (x8, 0))
def corporaref09_Format.f (k : Nat) (l0 : List Int) (l1 : List ByteArray) : Option (ByteArray × Int) := (corporaref09_Check.f k l0).bind fun bt176 => (if bt176.2 = 0 then (if (l0.length : Int) = (l1.length : Int) then (corporaref09_Format.l0 k l1 (⟨#[]⟩ : ByteArray) l0 (l0.length : Int) 0) else (some ((⟨#[]⟩ : ByteArray), 15))) else (some ((⟨#[]⟩ : ByteArray), bt176.2)))
theorem corporaref09_Format.mono_l : ∀ k, (∀ y0 y1 y2 y3 y4, LeO (corporaref09_Format.l0 k y0 y1 y2 y3 y4) (corporaref09_Format.l0 (k + 1) y0 y1 y2 y3 y4))
 | 0 => fun _ _ _ _ _ r h => by simp [corporaref09_Format.l0] at h
 | k + 1 => by
  have ih0 := corporaref09_Format.mono_l k
  ·
   intro y0 y1 y2 y3 y4
   unfold corporaref09_Format.l0
   with_reducible repeat' first | exact ih0 _ _ _ _ _ | exact corporaref04_ValidName.mono _ _ | exact corporaref09_Check.mono _ _ | exact LeO.refl _ | exact LeO.none _ | refine LeO.ite ?_ ?_ | refine LeO.bind ?_ (fun _ => ?_)
theorem corporaref09_Format.mono : ∀ a0 a1 k, LeO (corporaref09_Format.f k a0 a1) (corporaref09_Format.f (k + 1) a0 a1) := by
 intro a0 a1 k
 have ih0 := corporaref09_Format.mono_l k
 unfold corporaref09_Format.f
 with_reducible repeat' first | exact ih0 _ _ _ _ _ | exact corporaref04_ValidName.mono _ _ | exact corporaref09_Check.mono _ _ | exact LeO.refl _ | exact LeO.none _ | refine LeO.ite ?_ ?_ | refine LeO.bind ?_ (fun _ => ?_)
set_option maxHeartbeats 8000000 in
set_option maxRecDepth 100000 in
theorem corporaref09_Format.calls (k : Nat) (A0 : Option Addr) (c0 : Nat) (l0 : List Int) (A1 : Option Addr) (c1 : Nat) (l1 : List ByteArray) (r1 : ByteArray) (r2 : Int) (w : World) (hr0 : Kd.C (Kd.int .i64) w A0 l0.length l0) (hc0 : l0.length ≤ c0) (hr1 : Kd.C Kd.string w A1 l1.length l1) (hc1 : l1.length ≤ c1) (h : corporaref09_Format.f k l0 l1 = some (r1, r2)) :
 Calls Tryd.prog 7 #[.slice A0 l0.length c0, .slice A1 l1.length c1] w fun e w' => e = .returned (.tuple #[.string r1, .int .i64 r2]) ∧ Drawn0 w w' := by
 have HR0 := Aside0.mk hr0
 have HC0 := Aside0.mk hc0
 clear hr0 hc0
 have HR1 := Aside0.mk hr1
 have HC1 := Aside0.mk hc1
 clear hr1 hc1
 have H : ((corporaref09_Check.f k l0).bind fun bt176 => (if bt176.2 = 0 then (if (l0.length : Int) = (l1.length : Int) then (corporaref09_Format.l0 k l1 (⟨#[]⟩ : ByteArray) l0 (l0.length : Int) 0) else (some ((⟨#[]⟩ : ByteArray), 15))) else (some ((⟨#[]⟩ : ByteArray), bt176.2)))) = some (r1, r2) := h
 clear h
 replace H := Option.bind_eq_some_iff.mp H
 obtain ⟨⟨t176, t177⟩, A30, H⟩ := H
 replace H : (if t177 = 0 then (if (l0.length : Int) = (l1.length : Int) then (corporaref09_Format.l0 k l1 (⟨#[]⟩ : ByteArray) l0 (l0.length : Int) 0) else (some ((⟨#[]⟩ : ByteArray), 15))) else (some ((⟨#[]⟩ : ByteArray), t177))) = some (r1, r2) := H
 have A3 := Aside0.mk A30
 clear A30
 by_cases c4 : t177 = 0
 ·
  rw [if_pos c4] at H
  have c4b0 : (t177 == 0) = true := beq_iff_eq.mpr c4
  have c4b1 : (t177 != 0) = false := bne_eq_false_iff_eq.mpr c4
  clear c4
  by_cases c5 : (l0.length : Int) = (l1.length : Int)
  ·
   rw [if_pos c5] at H
   have c5b0 : ((l0.length : Int) == (l1.length : Int)) = true := beq_iff_eq.mpr c5
   have c5b1 : ((l0.length : Int) != (l1.length : Int)) = false := bne_eq_false_iff_eq.mpr c5
   have c5b2 : (l0.length == l1.length) = true := by first | simpa using c5 | (simp at c5 ⊢; omega)
   clear c5
   have H' := Aside0.mk H
   clear H
   go_enter Tryd.func7, Tryd.ntmps7
   go_wp2_with (first | (go_at_call 16; (with_reducible refine (corporaref09_Check.calls k _ _ l0 t176 t177 _ ?side1 ?side2 A3.out).mono ?_); (case side1 => exact BK HR0.out); (case side2 => exact HC0.out); rintro e w' ⟨rfl, ⟨nd, rfl⟩⟩; (try first | exact ⟨rfl, _, World.drewN_drewN _ _ _⟩ | exact ⟨rfl, _, Eq.trans (World.drewN_drewN _ _ _) (congrArg (World.drewN _) (Nat.add_assoc _ _ _))⟩)))
   repeat (go_quiet (first | (go_at_call 16; (try simp only [i64_w, i32_w]); (with_reducible refine (corporaref09_Check.calls k _ _ l0 t176 t177 _ ?side1 ?side2 A3.out).mono ?_); (case side1 => exact BK HR0.out); (case side2 => exact HC0.out); rintro e w' ⟨rfl, ⟨nd, rfl⟩⟩; (try first | exact ⟨rfl, _, World.drewN_drewN _ _ _⟩ | exact ⟨rfl, _, Eq.trans (World.drewN_drewN _ _ _) (congrArg (World.drewN _) (Nat.add_assoc _ _ _))⟩))); try go_wp2_with (first | (go_at_call 16; (with_reducible refine (corporaref09_Check.calls k _ _ l0 t176 t177 _ ?side1 ?side2 A3.out).mono ?_); (case side1 => exact BK HR0.out); (case side2 => exact HC0.out); rintro e w' ⟨rfl, ⟨nd, rfl⟩⟩; (try first | exact ⟨rfl, _, World.drewN_drewN _ _ _⟩ | exact ⟨rfl, _, Eq.trans (World.drewN_drewN _ _ _) (congrArg (World.drewN _) (Nat.add_assoc _ _ _))⟩))))
   go_loopg [8, 26] k (fun kq v8 v26 w' => ∃ (x8_1 : ByteArray) (x26_1 : Int), v8 = .string x8_1 ∧ v26 = .int .i64 x26_1 ∧ Aside0 (corporaref09_Format.l0 kq l1 x8_1 l0 (l0.length : Int) x26_1 = some (r1, r2)) ∧ Aside0 (kq ≤ k) ∧ Drawn0 w w')
   case atStart => exact ⟨((⟨#[]⟩ : ByteArray)), (0), (BE), (BE), H', ⟨Nat.le_refl _⟩, BD⟩
   case round =>
    clear H'
    (try clear c1); (try clear p2); (try clear c4); (try clear c4b0); (try clear c4b1); (try clear c5); (try clear c5b0); (try clear c5b1); (try clear c5b2)
    obtain ⟨x8_1, x26_1, rfl, rfl, HA, HK1, ⟨m1, rfl⟩⟩ := hrel
    cases gk with
    | zero => exact absurd HA.out (by simp [corporaref09_Format.l0])
    | succ k1 =>
     have H := HA.out
     clear HA
     simp only [corporaref09_Format.l0] at H
     by_cases c6 : x26_1 < (l0.length : Int)
     ·
      rw [if_pos c6] at H
      have c6b0 : decide (x26_1 < (l0.length : Int)) = true := decide_eq_true c6
      clear c6
      by_cases c7 : 0 ≤ x26_1
      ·
       rw [if_pos c7] at H
       have c7b0 : decide (0 ≤ x26_1) = true := decide_eq_true c7
       clear c7
       by_cases c8 : x26_1 < (l0.length : Int)
       ·
        rw [if_pos c8] at H
        have c8b0 : decide (x26_1 < (l0.length : Int)) = true := decide_eq_true c8
        clear c8
        by_cases c9 : x26_1 < (l1.length : Int)
        ·
         rw [if_pos c9] at H
         have c9b0 : decide (x26_1 < (l1.length : Int)) = true := decide_eq_true c9
         clear c9
         by_cases c10 : (rdOf ByteArray.empty l1 x26_1).toList = ([] : List UInt8)
         ·
          rw [if_pos c10] at H
          have c10b0 : ((rdOf ByteArray.empty l1 x26_1).toList == ([] : List UInt8)) = true := beq_iff_eq.mpr c10
          have c10b1 : ((rdOf ByteArray.empty l1 x26_1).toList != ([] : List UInt8)) = false := bne_eq_false_iff_eq.mpr c10
          clear c10
          replace H := Option.bind_eq_some_iff.mp H
          obtain ⟨t180, A110, H⟩ := H
          replace H : (if t180.size + 1 ≤ 9223372036854775807 then (if (t180 ++ (⟨#[9]⟩ : ByteArray)).size + (rdOf ByteArray.empty l1 x26_1).size ≤ 9223372036854775807 then (if ((t180 ++ (⟨#[9]⟩ : ByteArray)) ++ (rdOf ByteArray.empty l1 x26_1)).size + 1 ≤ 9223372036854775807 then (if x8_1.size + (((t180 ++ (⟨#[9]⟩ : ByteArray)) ++ (rdOf ByteArray.empty l1 x26_1)) ++ (⟨#[10]⟩ : ByteArray)).size ≤ 9223372036854775807 then (corporaref09_Format.l0 k1 l1 (x8_1 ++ (((t180 ++ (⟨#[9]⟩ : ByteArray)) ++ (rdOf ByteArray.empty l1 x26_1)) ++ (⟨#[10]⟩ : ByteArray))) l0 (l0.length : Int) (wrap64 (x26_1 + 1))) else (none)) else (none)) else (none)) else (none)) = some (r1, r2) := H
          have A11 := Aside0.mk A110
          clear A110
          by_cases c12 : t180.size + 1 ≤ 9223372036854775807
          ·
           rw [if_pos c12] at H
           have c12b0 := eq_true c12
           have c12b1 : decide (t180.size + 1 ≤ 9223372036854775807) = true := decide_eq_true c12
           try have c12b2 : (9223372036854775807 < t180.size + 1) = False := eq_false (Nat.not_lt.2 c12)
           by_cases c13 : (t180 ++ (⟨#[9]⟩ : ByteArray)).size + (rdOf ByteArray.empty l1 x26_1).size ≤ 9223372036854775807
           ·
            rw [if_pos c13] at H
            have c13b0 := eq_true c13
            have c13b1 : decide ((t180 ++ (⟨#[9]⟩ : ByteArray)).size + (rdOf ByteArray.empty l1 x26_1).size ≤ 9223372036854775807) = true := decide_eq_true c13
            try have c13b2 : (9223372036854775807 < (t180 ++ (⟨#[9]⟩ : ByteArray)).size + (rdOf ByteArray.empty l1 x26_1).size) = False := eq_false (Nat.not_lt.2 c13)
            have c13bn : t180.size + 1 + (rdOf ByteArray.empty l1 x26_1).size ≤ 9223372036854775807 := by have h_ := c13; simp only [ByteArray.size_append] at h_; exact h_
            have c13bd : decide (t180.size + 1 + (rdOf ByteArray.empty l1 x26_1).size ≤ 9223372036854775807) = true := decide_eq_true c13bn
            have c13bf : (9223372036854775807 < t180.size + 1 + (rdOf ByteArray.empty l1 x26_1).size) = False := eq_false (Nat.not_lt.2 c13bn)
            by_cases c14 : ((t180 ++ (⟨#[9]⟩ : ByteArray)) ++ (rdOf ByteArray.empty l1 x26_1)).size + 1 ≤ 9223372036854775807
            ·
             rw [if_pos c14] at H
             have c14b0 := eq_true c14
             have c14b1 : decide (((t180 ++ (⟨#[9]⟩ : ByteArray)) ++ (rdOf ByteArray.empty l1 x26_1)).size + 1 ≤ 9223372036854775807) = true := decide_eq_true c14
             try have c14b2 : (9223372036854775807 < ((t180 ++ (⟨#[9]⟩ : ByteArray)) ++ (rdOf ByteArray.empty l1 x26_1)).size + 1) = False := eq_false (Nat.not_lt.2 c14)
             have c14bn : t180.size + 1 + (rdOf ByteArray.empty l1 x26_1).size + 1 ≤ 9223372036854775807 := by have h_ := c14; simp only [ByteArray.size_append] at h_; exact h_
             have c14bd : decide (t180.size + 1 + (rdOf ByteArray.empty l1 x26_1).size + 1 ≤ 9223372036854775807) = true := decide_eq_true c14bn
             have c14bf : (9223372036854775807 < t180.size + 1 + (rdOf ByteArray.empty l1 x26_1).size + 1) = False := eq_false (Nat.not_lt.2 c14bn)
             by_cases c15 : x8_1.size + (((t180 ++ (⟨#[9]⟩ : ByteArray)) ++ (rdOf ByteArray.empty l1 x26_1)) ++ (⟨#[10]⟩ : ByteArray)).size ≤ 9223372036854775807
             ·
              rw [if_pos c15] at H
              have c15b0 := eq_true c15
              have c15b1 : decide (x8_1.size + (((t180 ++ (⟨#[9]⟩ : ByteArray)) ++ (rdOf ByteArray.empty l1 x26_1)) ++ (⟨#[10]⟩ : ByteArray)).size ≤ 9223372036854775807) = true := decide_eq_true c15
              try have c15b2 : (9223372036854775807 < x8_1.size + (((t180 ++ (⟨#[9]⟩ : ByteArray)) ++ (rdOf ByteArray.empty l1 x26_1)) ++ (⟨#[10]⟩ : ByteArray)).size) = False := eq_false (Nat.not_lt.2 c15)
              have c15bn : x8_1.size + (t180.size + 1 + (rdOf ByteArray.empty l1 x26_1).size + 1) ≤ 9223372036854775807 := by have h_ := c15; simp only [ByteArray.size_append] at h_; exact h_
              have c15bd : decide (x8_1.size + (t180.size + 1 + (rdOf ByteArray.empty l1 x26_1).size + 1) ≤ 9223372036854775807) = true := decide_eq_true c15bn
              have c15bf : (9223372036854775807 < x8_1.size + (t180.size + 1 + (rdOf ByteArray.empty l1 x26_1).size + 1)) = False := eq_false (Nat.not_lt.2 c15bn)
              have H' := Aside0.mk H
              clear H
              have p178 : 0 ≤ (x26_1 : Int) := OD
              have q178 : x26_1 < (l0.length : Int) := OD
              obtain ⟨ad178, e178, hx178_0⟩ := Kd.at_int HR0.out x26_1 p178 q178
              cases e178
              replace p178 := eq_true p178
              replace q178 := eq_true q178
              have p179 : 0 ≤ (x26_1 : Int) := OD
              have q179 : x26_1 < (l1.length : Int) := OD
              obtain ⟨ad179, e179, hx179_0⟩ := Kd.at_string HR1.out x26_1 p179 q179
              cases e179
              replace p179 := eq_true p179
              replace q179 := eq_true q179
              go_wp2_with (first | (go_at_call 18; (with_reducible refine (corporaref09_Digits.calls (wrap64 ((rd l0 x26_1) + 1)) t180 _ A11.out).mono ?_); rintro e w' ⟨rfl, ⟨nd, rfl⟩⟩; (try first | exact ⟨rfl, _, World.drewN_drewN _ _ _⟩ | exact ⟨rfl, _, Eq.trans (World.drewN_drewN _ _ _) (congrArg (World.drewN _) (Nat.add_assoc _ _ _))⟩)))
              repeat (go_quiet (first | (go_at_call 18; (try simp only [i64_w, i32_w]); (with_reducible refine (corporaref09_Digits.calls (wrap64 ((rd l0 x26_1) + 1)) t180 _ A11.out).mono ?_); rintro e w' ⟨rfl, ⟨nd, rfl⟩⟩; (try first | exact ⟨rfl, _, World.drewN_drewN _ _ _⟩ | exact ⟨rfl, _, Eq.trans (World.drewN_drewN _ _ _) (congrArg (World.drewN _) (Nat.add_assoc _ _ _))⟩))); try go_wp2_with (first | (go_at_call 18; (with_reducible refine (corporaref09_Digits.calls (wrap64 ((rd l0 x26_1) + 1)) t180 _ A11.out).mono ?_); rintro e w' ⟨rfl, ⟨nd, rfl⟩⟩; (try first | exact ⟨rfl, _, World.drewN_drewN _ _ _⟩ | exact ⟨rfl, _, Eq.trans (World.drewN_drewN _ _ _) (congrArg (World.drewN _) (Nat.add_assoc _ _ _))⟩))))
              go_roundg k1
              case measure => have := HK1.out; omega
              case rel => exact ⟨(x8_1 ++ (((t180 ++ (⟨#[9]⟩ : ByteArray)) ++ (rdOf ByteArray.empty l1 x26_1)) ++ (⟨#[10]⟩ : ByteArray))), (wrap64 (x26_1 + 1)), (BE), (BE), H', ⟨by have := HK1.out; omega⟩, BD⟩
             ·
              rw [if_neg c15] at H
              exact absurd H (by simp)
            ·
             rw [if_neg c14] at H
             exact absurd H (by simp)
           ·
            rw [if_neg c13] at H
            exact absurd H (by simp)
          ·
           rw [if_neg c12] at H
           exact absurd H (by simp)
         ·
          rw [if_neg c10] at H
          have c10b0 : ((rdOf ByteArray.empty l1 x26_1).toList == ([] : List UInt8)) = false := beq_eq_false_iff_ne.mpr c10
          have c10b1 : ((rdOf ByteArray.empty l1 x26_1).toList != ([] : List UInt8)) = true := bne_iff_ne.mpr c10
          replace H := Option.bind_eq_some_iff.mp H
          obtain ⟨t183, A160, H⟩ := H
          replace H : (if t183 = true then ((corporaref09_Digits.f (wrap64 ((rd l0 x26_1) + 1))).bind fun t184 => (if t184.size + 1 ≤ 9223372036854775807 then (if (t184 ++ (⟨#[9]⟩ : ByteArray)).size + (rdOf ByteArray.empty l1 x26_1).size ≤ 9223372036854775807 then (if ((t184 ++ (⟨#[9]⟩ : ByteArray)) ++ (rdOf ByteArray.empty l1 x26_1)).size + 1 ≤ 9223372036854775807 then (if x8_1.size + (((t184 ++ (⟨#[9]⟩ : ByteArray)) ++ (rdOf ByteArray.empty l1 x26_1)) ++ (⟨#[10]⟩ : ByteArray)).size ≤ 9223372036854775807 then (corporaref09_Format.l0 k1 l1 (x8_1 ++ (((t184 ++ (⟨#[9]⟩ : ByteArray)) ++ (rdOf ByteArray.empty l1 x26_1)) ++ (⟨#[10]⟩ : ByteArray))) l0 (l0.length : Int) (wrap64 (x26_1 + 1))) else (none)) else (none)) else (none)) else (none))) else (some ((⟨#[]⟩ : ByteArray), 4))) = some (r1, r2) := H
          have A16 := Aside0.mk A160
          clear A160
          by_cases c17 : t183 = true
          ·
           subst c17
           have H1 : ((corporaref09_Digits.f (wrap64 ((rd l0 x26_1) + 1))).bind fun t184 => (if t184.size + 1 ≤ 9223372036854775807 then (if (t184 ++ (⟨#[9]⟩ : ByteArray)).size + (rdOf ByteArray.empty l1 x26_1).size ≤ 9223372036854775807 then (if ((t184 ++ (⟨#[9]⟩ : ByteArray)) ++ (rdOf ByteArray.empty l1 x26_1)).size + 1 ≤ 9223372036854775807 then (if x8_1.size + (((t184 ++ (⟨#[9]⟩ : ByteArray)) ++ (rdOf ByteArray.empty l1 x26_1)) ++ (⟨#[10]⟩ : ByteArray)).size ≤ 9223372036854775807 then (corporaref09_Format.l0 k1 l1 (x8_1 ++ (((t184 ++ (⟨#[9]⟩ : ByteArray)) ++ (rdOf ByteArray.empty l1 x26_1)) ++ (⟨#[10]⟩ : ByteArray))) l0 (l0.length : Int) (wrap64 (x26_1 + 1))) else (none)) else (none)) else (none)) else (none))) = some (r1, r2) := by rw [if_pos rfl] at H; exact H
           clear H
           have H := H1
           clear H1
           replace H := Option.bind_eq_some_iff.mp H
           obtain ⟨t184, A180, H⟩ := H
           replace H : (if t184.size + 1 ≤ 9223372036854775807 then (if (t184 ++ (⟨#[9]⟩ : ByteArray)).size + (rdOf ByteArray.empty l1 x26_1).size ≤ 9223372036854775807 then (if ((t184 ++ (⟨#[9]⟩ : ByteArray)) ++ (rdOf ByteArray.empty l1 x26_1)).size + 1 ≤ 9223372036854775807 then (if x8_1.size + (((t184 ++ (⟨#[9]⟩ : ByteArray)) ++ (rdOf ByteArray.empty l1 x26_1)) ++ (⟨#[10]⟩ : ByteArray)).size ≤ 9223372036854775807 then (corporaref09_Format.l0 k1 l1 (x8_1 ++ (((t184 ++ (⟨#[9]⟩ : ByteArray)) ++ (rdOf ByteArray.empty l1 x26_1)) ++ (⟨#[10]⟩ : ByteArray))) l0 (l0.length : Int) (wrap64 (x26_1 + 1))) else (none)) else (none)) else (none)) else (none)) = some (r1, r2) := H
           have A18 := Aside0.mk A180
           clear A180
           by_cases c19 : t184.size + 1 ≤ 9223372036854775807
           ·
            rw [if_pos c19] at H
            have c19b0 := eq_true c19
            have c19b1 : decide (t184.size + 1 ≤ 9223372036854775807) = true := decide_eq_true c19
            try have c19b2 : (9223372036854775807 < t184.size + 1) = False := eq_false (Nat.not_lt.2 c19)
            by_cases c20 : (t184 ++ (⟨#[9]⟩ : ByteArray)).size + (rdOf ByteArray.empty l1 x26_1).size ≤ 9223372036854775807
            ·
             rw [if_pos c20] at H
             have c20b0 := eq_true c20
             have c20b1 : decide ((t184 ++ (⟨#[9]⟩ : ByteArray)).size + (rdOf ByteArray.empty l1 x26_1).size ≤ 9223372036854775807) = true := decide_eq_true c20
             try have c20b2 : (9223372036854775807 < (t184 ++ (⟨#[9]⟩ : ByteArray)).size + (rdOf ByteArray.empty l1 x26_1).size) = False := eq_false (Nat.not_lt.2 c20)
             have c20bn : t184.size + 1 + (rdOf ByteArray.empty l1 x26_1).size ≤ 9223372036854775807 := by have h_ := c20; simp only [ByteArray.size_append] at h_; exact h_
             have c20bd : decide (t184.size + 1 + (rdOf ByteArray.empty l1 x26_1).size ≤ 9223372036854775807) = true := decide_eq_true c20bn
             have c20bf : (9223372036854775807 < t184.size + 1 + (rdOf ByteArray.empty l1 x26_1).size) = False := eq_false (Nat.not_lt.2 c20bn)
             by_cases c21 : ((t184 ++ (⟨#[9]⟩ : ByteArray)) ++ (rdOf ByteArray.empty l1 x26_1)).size + 1 ≤ 9223372036854775807
             ·
              rw [if_pos c21] at H
              have c21b0 := eq_true c21
              have c21b1 : decide (((t184 ++ (⟨#[9]⟩ : ByteArray)) ++ (rdOf ByteArray.empty l1 x26_1)).size + 1 ≤ 9223372036854775807) = true := decide_eq_true c21
              try have c21b2 : (9223372036854775807 < ((t184 ++ (⟨#[9]⟩ : ByteArray)) ++ (rdOf ByteArray.empty l1 x26_1)).size + 1) = False := eq_false (Nat.not_lt.2 c21)
              have c21bn : t184.size + 1 + (rdOf ByteArray.empty l1 x26_1).size + 1 ≤ 9223372036854775807 := by have h_ := c21; simp only [ByteArray.size_append] at h_; exact h_
              have c21bd : decide (t184.size + 1 + (rdOf ByteArray.empty l1 x26_1).size + 1 ≤ 9223372036854775807) = true := decide_eq_true c21bn
              have c21bf : (9223372036854775807 < t184.size + 1 + (rdOf ByteArray.empty l1 x26_1).size + 1) = False := eq_false (Nat.not_lt.2 c21bn)
              by_cases c22 : x8_1.size + (((t184 ++ (⟨#[9]⟩ : ByteArray)) ++ (rdOf ByteArray.empty l1 x26_1)) ++ (⟨#[10]⟩ : ByteArray)).size ≤ 9223372036854775807
              ·
               rw [if_pos c22] at H
               have c22b0 := eq_true c22
               have c22b1 : decide (x8_1.size + (((t184 ++ (⟨#[9]⟩ : ByteArray)) ++ (rdOf ByteArray.empty l1 x26_1)) ++ (⟨#[10]⟩ : ByteArray)).size ≤ 9223372036854775807) = true := decide_eq_true c22
               try have c22b2 : (9223372036854775807 < x8_1.size + (((t184 ++ (⟨#[9]⟩ : ByteArray)) ++ (rdOf ByteArray.empty l1 x26_1)) ++ (⟨#[10]⟩ : ByteArray)).size) = False := eq_false (Nat.not_lt.2 c22)
               have c22bn : x8_1.size + (t184.size + 1 + (rdOf ByteArray.empty l1 x26_1).size + 1) ≤ 9223372036854775807 := by have h_ := c22; simp only [ByteArray.size_append] at h_; exact h_
               have c22bd : decide (x8_1.size + (t184.size + 1 + (rdOf ByteArray.empty l1 x26_1).size + 1) ≤ 9223372036854775807) = true := decide_eq_true c22bn
               have c22bf : (9223372036854775807 < x8_1.size + (t184.size + 1 + (rdOf ByteArray.empty l1 x26_1).size + 1)) = False := eq_false (Nat.not_lt.2 c22bn)
               have H' := Aside0.mk H
               clear H
               have p178 : 0 ≤ (x26_1 : Int) := OD
               have q178 : x26_1 < (l0.length : Int) := OD
               obtain ⟨ad178, e178, hx178_0⟩ := Kd.at_int HR0.out x26_1 p178 q178
               cases e178
               replace p178 := eq_true p178
               replace q178 := eq_true q178
               have p179 : 0 ≤ (x26_1 : Int) := OD
               have q179 : x26_1 < (l1.length : Int) := OD
               obtain ⟨ad179, e179, hx179_0⟩ := Kd.at_string HR1.out x26_1 p179 q179
               cases e179
               replace p179 := eq_true p179
               replace q179 := eq_true q179
               have p182 : 0 ≤ (x26_1 : Int) := OD
               have q182 : x26_1 < (l1.length : Int) := OD
               obtain ⟨ad182, e182, hx182_0⟩ := Kd.at_string HR1.out x26_1 p182 q182
               obtain rfl : ad179 = ad182 := (by injection e182)
               replace p182 := eq_true p182
               replace q182 := eq_true q182
               go_wp2_with (first | (go_at_call 17; (with_reducible refine (corporaref04_ValidName.calls k1 (rdOf ByteArray.empty l1 x26_1) true _ A16.out).mono ?_); rintro e w' ⟨rfl, ⟨nd, rfl⟩⟩; (try first | exact ⟨rfl, _, World.drewN_drewN _ _ _⟩ | exact ⟨rfl, _, Eq.trans (World.drewN_drewN _ _ _) (congrArg (World.drewN _) (Nat.add_assoc _ _ _))⟩)) | (go_at_call 18; (with_reducible refine (corporaref09_Digits.calls (wrap64 ((rd l0 x26_1) + 1)) t184 _ A18.out).mono ?_); rintro e w' ⟨rfl, ⟨nd, rfl⟩⟩; (try first | exact ⟨rfl, _, World.drewN_drewN _ _ _⟩ | exact ⟨rfl, _, Eq.trans (World.drewN_drewN _ _ _) (congrArg (World.drewN _) (Nat.add_assoc _ _ _))⟩)))
               repeat (go_quiet (first | (go_at_call 17; (try simp only [i64_w, i32_w]); (with_reducible refine (corporaref04_ValidName.calls k1 (rdOf ByteArray.empty l1 x26_1) true _ A16.out).mono ?_); rintro e w' ⟨rfl, ⟨nd, rfl⟩⟩; (try first | exact ⟨rfl, _, World.drewN_drewN _ _ _⟩ | exact ⟨rfl, _, Eq.trans (World.drewN_drewN _ _ _) (congrArg (World.drewN _) (Nat.add_assoc _ _ _))⟩)) | (go_at_call 18; (with_reducible refine (corporaref09_Digits.calls (wrap64 ((rd l0 x26_1) + 1)) t184 _ A18.out).mono ?_); rintro e w' ⟨rfl, ⟨nd, rfl⟩⟩; (try first | exact ⟨rfl, _, World.drewN_drewN _ _ _⟩ | exact ⟨rfl, _, Eq.trans (World.drewN_drewN _ _ _) (congrArg (World.drewN _) (Nat.add_assoc _ _ _))⟩))); try go_wp2_with (first | (go_at_call 17; (with_reducible refine (corporaref04_ValidName.calls k1 (rdOf ByteArray.empty l1 x26_1) true _ A16.out).mono ?_); rintro e w' ⟨rfl, ⟨nd, rfl⟩⟩; (try first | exact ⟨rfl, _, World.drewN_drewN _ _ _⟩ | exact ⟨rfl, _, Eq.trans (World.drewN_drewN _ _ _) (congrArg (World.drewN _) (Nat.add_assoc _ _ _))⟩)) | (go_at_call 18; (with_reducible refine (corporaref09_Digits.calls (wrap64 ((rd l0 x26_1) + 1)) t184 _ A18.out).mono ?_); rintro e w' ⟨rfl, ⟨nd, rfl⟩⟩; (try first | exact ⟨rfl, _, World.drewN_drewN _ _ _⟩ | exact ⟨rfl, _, Eq.trans (World.drewN_drewN _ _ _) (congrArg (World.drewN _) (Nat.add_assoc _ _ _))⟩))))
               go_roundg k1
               case measure => have := HK1.out; omega
               case rel => exact ⟨(x8_1 ++ (((t184 ++ (⟨#[9]⟩ : ByteArray)) ++ (rdOf ByteArray.empty l1 x26_1)) ++ (⟨#[10]⟩ : ByteArray))), (wrap64 (x26_1 + 1)), (BE), (BE), H', ⟨by have := HK1.out; omega⟩, BD⟩
              ·
               rw [if_neg c22] at H
               exact absurd H (by simp)
             ·
              rw [if_neg c21] at H
              exact absurd H (by simp)
            ·
             rw [if_neg c20] at H
             exact absurd H (by simp)
           ·
            rw [if_neg c19] at H
            exact absurd H (by simp)
          ·
           replace c17 := Bool.eq_false_iff.mpr c17
           subst c17
           have H1 : (some ((⟨#[]⟩ : ByteArray), 4)) = some (r1, r2) := by rw [if_neg (show ¬ (false = true) by decide)] at H; exact H
           clear H
           have H := H1
           clear H1
           simp only [Option.some.injEq, Prod.mk.injEq] at H
           obtain ⟨rfl, rfl⟩ := H
           have p178 : 0 ≤ (x26_1 : Int) := OD
           have q178 : x26_1 < (l0.length : Int) := OD
           obtain ⟨ad178, e178, hx178_0⟩ := Kd.at_int HR0.out x26_1 p178 q178
           cases e178
           replace p178 := eq_true p178
           replace q178 := eq_true q178
           have p179 : 0 ≤ (x26_1 : Int) := OD
           have q179 : x26_1 < (l1.length : Int) := OD
           obtain ⟨ad179, e179, hx179_0⟩ := Kd.at_string HR1.out x26_1 p179 q179
           cases e179
           replace p179 := eq_true p179
           replace q179 := eq_true q179
           have p182 : 0 ≤ (x26_1 : Int) := OD
           have q182 : x26_1 < (l1.length : Int) := OD
           obtain ⟨ad182, e182, hx182_0⟩ := Kd.at_string HR1.out x26_1 p182 q182
           obtain rfl : ad179 = ad182 := (by injection e182)
           replace p182 := eq_true p182
           replace q182 := eq_true q182
           go_wp2_with (first | (go_at_call 17; (with_reducible refine (corporaref04_ValidName.calls k1 (rdOf ByteArray.empty l1 x26_1) false _ A16.out).mono ?_); rintro e w' ⟨rfl, ⟨nd, rfl⟩⟩; (try first | exact ⟨rfl, _, World.drewN_drewN _ _ _⟩ | exact ⟨rfl, _, Eq.trans (World.drewN_drewN _ _ _) (congrArg (World.drewN _) (Nat.add_assoc _ _ _))⟩)))
           repeat (go_quiet (first | (go_at_call 17; (try simp only [i64_w, i32_w]); (with_reducible refine (corporaref04_ValidName.calls k1 (rdOf ByteArray.empty l1 x26_1) false _ A16.out).mono ?_); rintro e w' ⟨rfl, ⟨nd, rfl⟩⟩; (try first | exact ⟨rfl, _, World.drewN_drewN _ _ _⟩ | exact ⟨rfl, _, Eq.trans (World.drewN_drewN _ _ _) (congrArg (World.drewN _) (Nat.add_assoc _ _ _))⟩))); try go_wp2_with (first | (go_at_call 17; (with_reducible refine (corporaref04_ValidName.calls k1 (rdOf ByteArray.empty l1 x26_1) false _ A16.out).mono ?_); rintro e w' ⟨rfl, ⟨nd, rfl⟩⟩; (try first | exact ⟨rfl, _, World.drewN_drewN _ _ _⟩ | exact ⟨rfl, _, Eq.trans (World.drewN_drewN _ _ _) (congrArg (World.drewN _) (Nat.add_assoc _ _ _))⟩))))
           go_ret2
           exact ⟨BE, BD⟩
        ·
         rw [if_neg c9] at H
         exact absurd H (by simp)
       ·
        rw [if_neg c8] at H
        exact absurd H (by simp)
      ·
       rw [if_neg c7] at H
       exact absurd H (by simp)
     ·
      rw [if_neg c6] at H
      have c6b0 : decide (x26_1 < (l0.length : Int)) = false := decide_eq_false c6
      clear c6
      simp only [Option.some.injEq, Prod.mk.injEq] at H
      obtain ⟨rfl, rfl⟩ := H
      go_wp2
      repeat (go_quiet (fail); try go_wp2)
      go_ret2
      exact ⟨BE, BD⟩
  ·
   rw [if_neg c5] at H
   have c5b0 : ((l0.length : Int) == (l1.length : Int)) = false := beq_eq_false_iff_ne.mpr c5
   have c5b1 : ((l0.length : Int) != (l1.length : Int)) = true := bne_iff_ne.mpr c5
   have c5b2 : (l0.length == l1.length) = false := by first | simpa using c5 | (simp at c5 ⊢; omega)
   simp only [Option.some.injEq, Prod.mk.injEq] at H
   obtain ⟨rfl, rfl⟩ := H
   go_enter Tryd.func7, Tryd.ntmps7
   go_wp2_with (first | (go_at_call 16; (with_reducible refine (corporaref09_Check.calls k _ _ l0 t176 t177 _ ?side1 ?side2 A3.out).mono ?_); (case side1 => exact BK HR0.out); (case side2 => exact HC0.out); rintro e w' ⟨rfl, ⟨nd, rfl⟩⟩; (try first | exact ⟨rfl, _, World.drewN_drewN _ _ _⟩ | exact ⟨rfl, _, Eq.trans (World.drewN_drewN _ _ _) (congrArg (World.drewN _) (Nat.add_assoc _ _ _))⟩)))
   repeat (go_quiet (first | (go_at_call 16; (try simp only [i64_w, i32_w]); (with_reducible refine (corporaref09_Check.calls k _ _ l0 t176 t177 _ ?side1 ?side2 A3.out).mono ?_); (case side1 => exact BK HR0.out); (case side2 => exact HC0.out); rintro e w' ⟨rfl, ⟨nd, rfl⟩⟩; (try first | exact ⟨rfl, _, World.drewN_drewN _ _ _⟩ | exact ⟨rfl, _, Eq.trans (World.drewN_drewN _ _ _) (congrArg (World.drewN _) (Nat.add_assoc _ _ _))⟩))); try go_wp2_with (first | (go_at_call 16; (with_reducible refine (corporaref09_Check.calls k _ _ l0 t176 t177 _ ?side1 ?side2 A3.out).mono ?_); (case side1 => exact BK HR0.out); (case side2 => exact HC0.out); rintro e w' ⟨rfl, ⟨nd, rfl⟩⟩; (try first | exact ⟨rfl, _, World.drewN_drewN _ _ _⟩ | exact ⟨rfl, _, Eq.trans (World.drewN_drewN _ _ _) (congrArg (World.drewN _) (Nat.add_assoc _ _ _))⟩))))
   go_ret2
   exact ⟨BE, BD⟩
 ·
  rw [if_neg c4] at H
  have c4b0 : (t177 == 0) = false := beq_eq_false_iff_ne.mpr c4
  have c4b1 : (t177 != 0) = true := bne_iff_ne.mpr c4
  simp only [Option.some.injEq, Prod.mk.injEq] at H
  obtain ⟨rfl, rfl⟩ := H
  go_enter Tryd.func7, Tryd.ntmps7
  go_wp2_with (first | (go_at_call 16; (with_reducible refine (corporaref09_Check.calls k _ _ l0 t176 t177 _ ?side1 ?side2 A3.out).mono ?_); (case side1 => exact BK HR0.out); (case side2 => exact HC0.out); rintro e w' ⟨rfl, ⟨nd, rfl⟩⟩; (try first | exact ⟨rfl, _, World.drewN_drewN _ _ _⟩ | exact ⟨rfl, _, Eq.trans (World.drewN_drewN _ _ _) (congrArg (World.drewN _) (Nat.add_assoc _ _ _))⟩)))
  repeat (go_quiet (first | (go_at_call 16; (try simp only [i64_w, i32_w]); (with_reducible refine (corporaref09_Check.calls k _ _ l0 t176 t177 _ ?side1 ?side2 A3.out).mono ?_); (case side1 => exact BK HR0.out); (case side2 => exact HC0.out); rintro e w' ⟨rfl, ⟨nd, rfl⟩⟩; (try first | exact ⟨rfl, _, World.drewN_drewN _ _ _⟩ | exact ⟨rfl, _, Eq.trans (World.drewN_drewN _ _ _) (congrArg (World.drewN _) (Nat.add_assoc _ _ _))⟩))); try go_wp2_with (first | (go_at_call 16; (with_reducible refine (corporaref09_Check.calls k _ _ l0 t176 t177 _ ?side1 ?side2 A3.out).mono ?_); (case side1 => exact BK HR0.out); (case side2 => exact HC0.out); rintro e w' ⟨rfl, ⟨nd, rfl⟩⟩; (try first | exact ⟨rfl, _, World.drewN_drewN _ _ _⟩ | exact ⟨rfl, _, Eq.trans (World.drewN_drewN _ _ _) (congrArg (World.drewN _) (Nat.add_assoc _ _ _))⟩))))
  go_ret2
  exact ⟨BE, BD⟩

end Go.Proofs.YtkanmafjjejpmaaDoor.P
