-- Written by a program of this session (wip/doprint.sh) out of the translation; Lean checks it.
import Derived.Test.YtebajpebongabaaDoorPx0
import Derived.Test.YtebajpebongabaaDoorPx13
namespace Go.Proofs.YtebajpebongabaaDoor.P
open Go.Proofs.YtebajpebongabaaDoor.X
open Go.RowKit Go.Proofs.YtebajpebongabaaDoorW.PrintWords Go.Proofs.YtebajpebongabaaDoorW.PrintLast Go.Proofs.YtebajpebongabaaDoorW.PrintMore
attribute [local go_sem] max2_int min2_int max_two min_two max_three min_three max_four min_four   -- for this text's walks alone
set_option linter.unusedVariables false
set_option linter.unusedSimpArgs false

/-! ### corpus_orderPairs: function 51 -/
mutual
def corpus_orderPairs.l0 : Nat → List (S88) → List (S88) → Int → Option (Int)
  | 0, _, _, _ => none
  | k + 1, x0, x1, x5 => if x5 < (x0.length : Int) then (corpus_orderPairs.j1 k x0 x1 x5 (decide (x5 < (x1.length : Int)))) else (corpus_orderPairs.j1 k x0 x1 x5 false)
def corpus_orderPairs.j1 : Nat → List (S88) → List (S88) → Int → Bool → Option (Int)
  | 0, _, _, _, _ => none
  | k + 1, x0, x1, x5, x17 => if x17 = true then (if 0 ≤ x5 then (if x5 < (x0.length : Int) then (if x5 < (x1.length : Int) then ((corpus_orderText.f ((rd_T88 x0 x5).f0) ((rd_T88 x1 x5).f0)).bind fun t149 => (if t149 = 0 then ((corpus_orderText.f ((rd_T88 x0 x5).f1) ((rd_T88 x1 x5).f1)).bind fun t152 => (if t152 = 0 then (corpus_orderPairs.l0 k x0 x1 (wrap64 (x5 + 1))) else (some t152))) else (some t149))) else (none)) else (none)) else (none)) else ((corpus_order.f (x0.length : Int) (x1.length : Int)).bind fun t146 => (some t146))
end
def corpus_orderPairs.f (k : Nat) (l0 : List (S88)) (l1 : List (S88)) : Option (Int) := corpus_orderPairs.l0 k l0 l1 0
theorem corpus_orderPairs.mono_l : ∀ k, (∀ y0 y1 y2, LeO (corpus_orderPairs.l0 k y0 y1 y2) (corpus_orderPairs.l0 (k + 1) y0 y1 y2)) ∧ (∀ y0 y1 y2 y3, LeO (corpus_orderPairs.j1 k y0 y1 y2 y3) (corpus_orderPairs.j1 (k + 1) y0 y1 y2 y3))
  | 0 => ⟨fun _ _ _ r h => by simp [corpus_orderPairs.l0] at h, fun _ _ _ _ r h => by simp [corpus_orderPairs.j1] at h⟩
  | k + 1 => by
    obtain ⟨ih0, ih1⟩ := corpus_orderPairs.mono_l k
    refine ⟨?_, ?_⟩
    · intro y0 y1 y2
      unfold corpus_orderPairs.l0
      repeat' first
      | (with_reducible exact ih0 _ _ _)
      | (with_reducible exact ih1 _ _ _ _)
      | (with_reducible exact LeO.refl _)
      | (with_reducible exact LeO.none _)
      | (with_reducible refine LeO.ite ?_ ?_)
      | (with_reducible refine LeO.bind ?_ (fun _ => ?_))
      | exact ih0 _ _ _
      | exact ih1 _ _ _ _
      | exact LeO.none _
      | refine LeO.ite ?_ ?_
      | refine LeO.bind ?_ (fun _ => ?_)
    · intro y0 y1 y2 y3
      unfold corpus_orderPairs.j1
      repeat' first
      | (with_reducible exact ih0 _ _ _)
      | (with_reducible exact ih1 _ _ _ _)
      | (with_reducible exact LeO.refl _)
      | (with_reducible exact LeO.none _)
      | (with_reducible refine LeO.ite ?_ ?_)
      | (with_reducible refine LeO.bind ?_ (fun _ => ?_))
      | exact ih0 _ _ _
      | exact ih1 _ _ _ _
      | exact LeO.none _
      | refine LeO.ite ?_ ?_
      | refine LeO.bind ?_ (fun _ => ?_)
theorem corpus_orderPairs.mono : ∀ a0 a1 k, LeO (corpus_orderPairs.f k a0 a1) (corpus_orderPairs.f (k + 1) a0 a1) := by
  intro a0 a1 k
  obtain ⟨ih0, ih1⟩ := corpus_orderPairs.mono_l k
  unfold corpus_orderPairs.f
  repeat' first
      | (with_reducible exact ih0 _ _ _)
      | (with_reducible exact ih1 _ _ _ _)
      | (with_reducible exact LeO.refl _)
      | (with_reducible exact LeO.none _)
      | (with_reducible refine LeO.ite ?_ ?_)
      | (with_reducible refine LeO.bind ?_ (fun _ => ?_))
      | exact ih0 _ _ _
      | exact ih1 _ _ _ _
      | exact LeO.none _
      | refine LeO.ite ?_ ?_
      | refine LeO.bind ?_ (fun _ => ?_)
set_option maxHeartbeats 8000000 in
set_option maxRecDepth 100000 in
theorem corpus_orderPairs.calls (k : Nat) (A0 : Option Addr) (c0 : Nat) (l0 : List (S88)) (A1 : Option Addr) (c1 : Nat) (l1 : List (S88)) (r : Int) (w : World) (hr0 : Kd.C k88 w A0 l0.length l0) (hc0 : l0.length ≤ c0) (hr1 : Kd.C k88 w A1 l1.length l1) (hc1 : l1.length ≤ c1) (h : corpus_orderPairs.f k l0 l1 = some r) :
    Calls Tryd.prog 51 #[.slice A0 l0.length c0, .slice A1 l1.length c1] w fun e w' => e = .returned (.int .i64 r) ∧ Drawn0 w w' := by
  have HR0 := Aside0.mk hr0
  have HC0 := Aside0.mk hc0
  clear hr0 hc0
  have HR1 := Aside0.mk hr1
  have HC1 := Aside0.mk hc1
  clear hr1 hc1
  have H : (corpus_orderPairs.l0 k l0 l1 0) = some r := h
  clear h
  have H' := Aside0.mk H
  clear H
  go_enter Tryd.func51, Tryd.ntmps51
  go_wp2
  repeat (go_quiet (fail); try go_wp2)
  go_loopg [5] k (fun kq v5 w' => ∃ (x5_1 : Int), v5 = .int .i64 x5_1 ∧ Aside0 (corpus_orderPairs.l0 kq l0 l1 x5_1 = some r) ∧ Aside0 (kq ≤ k) ∧ Drawn0 w w')
  case atStart => exact ⟨(0), (by first | rfl | (simp; done) | (simp [*]; done)), H', ⟨Nat.le_refl _⟩, by repeat (first | exact Drawn0.refl _ | apply Drawn0.step)⟩
  case round =>
    clear H'
    try clear c1
    try clear p2
    obtain ⟨x5_1, rfl, HA, HK1, ⟨m1, rfl⟩⟩ := hrel
    cases gk with
    | zero => exact absurd HA.out (by simp [corpus_orderPairs.l0])
    | succ k1 =>
      have H := HA.out
      clear HA
      simp only [corpus_orderPairs.l0] at H
      have HC3 := Aside0.mk H
      clear H
      go_upto_region 2 with (fail)
      repeat (go_quiet (fail); go_upto_region 2 with (fail))
      go_cut [17] (fun v17 wc => ∃ (kq : Nat) (x17_2 : Bool), v17 = .bool x17_2 ∧ Aside0 (corpus_orderPairs.j1 kq l0 l1 x5_1 x17_2 = some r) ∧ Aside0 (kq ≤ k1) ∧ Drawn0 w wc)
      case first =>
        have H := HC3.out
        clear HC3
        by_cases c4 : x5_1 < (l0.length : Int)
        · rw [if_pos c4] at H
          have c4b0 : decide (x5_1 < (l0.length : Int)) = true := decide_eq_true c4
          clear c4
          (first | rw [c4b0] | (simp only [i64_w, i32_w]; rw [c4b0]) | skip)
          have H' := Aside0.mk H
          clear H
          go_wp2
          repeat (go_quiet (fail); try go_wp2)
          go_meet
          case rel => exact ⟨_, (decide (x5_1 < (l1.length : Int))), (by first | rfl | (simp; done) | (simp [*]; done)), H', ⟨by have := HK1.out; first | omega | exact Nat.le_refl _⟩, by repeat (first | exact Drawn0.refl _ | apply Drawn0.step)⟩
        · rw [if_neg c4] at H
          have c4b0 : decide (x5_1 < (l0.length : Int)) = false := decide_eq_false c4
          clear c4
          (first | rw [c4b0] | (simp only [i64_w, i32_w]; rw [c4b0]) | skip)
          have H' := Aside0.mk H
          clear H
          go_wp2
          repeat (go_quiet (fail); try go_wp2)
          go_meet
          case rel => exact ⟨_, (false), (by first | rfl | (simp; done) | (simp [*]; done)), H', ⟨by have := HK1.out; first | omega | exact Nat.le_refl _⟩, by repeat (first | exact Drawn0.refl _ | apply Drawn0.step)⟩
      case rest =>
        clear HC3
        try clear c1
        try clear p2
        try clear c4
        try clear c4b0
        try clear p2
        obtain ⟨kq, x17_2, rfl, HA, HJ2, ⟨mc2, rfl⟩⟩ := hcut
        cases kq with
        | zero => exact absurd HA.out (by simp [corpus_orderPairs.j1])
        | succ kj2 =>
          have H := HA.out
          clear HA
          simp only [corpus_orderPairs.j1] at H
          by_cases c5 : x17_2 = true
          · subst c5
            have H1 : (if 0 ≤ x5_1 then (if x5_1 < (l0.length : Int) then (if x5_1 < (l1.length : Int) then ((corpus_orderText.f ((rd_T88 l0 x5_1).f0) ((rd_T88 l1 x5_1).f0)).bind fun t149 => (if t149 = 0 then ((corpus_orderText.f ((rd_T88 l0 x5_1).f1) ((rd_T88 l1 x5_1).f1)).bind fun t152 => (if t152 = 0 then (corpus_orderPairs.l0 kj2 l0 l1 (wrap64 (x5_1 + 1))) else (some t152))) else (some t149))) else (none)) else (none)) else (none)) = some r := by rw [if_pos rfl] at H; exact H
            clear H
            have H := H1
            clear H1
            by_cases c6 : 0 ≤ x5_1
            · rw [if_pos c6] at H
              have c6b0 : decide (0 ≤ x5_1) = true := decide_eq_true c6
              clear c6
              by_cases c7 : x5_1 < (l0.length : Int)
              · rw [if_pos c7] at H
                have c7b0 : decide (x5_1 < (l0.length : Int)) = true := decide_eq_true c7
                clear c7
                by_cases c8 : x5_1 < (l1.length : Int)
                · rw [if_pos c8] at H
                  have c8b0 : decide (x5_1 < (l1.length : Int)) = true := decide_eq_true c8
                  clear c8
                  replace H := Option.bind_eq_some_iff.mp H
                  obtain ⟨t149, A90, H⟩ := H
                  replace H : (if t149 = 0 then ((corpus_orderText.f ((rd_T88 l0 x5_1).f1) ((rd_T88 l1 x5_1).f1)).bind fun t152 => (if t152 = 0 then (corpus_orderPairs.l0 kj2 l0 l1 (wrap64 (x5_1 + 1))) else (some t152))) else (some t149)) = some r := H
                  have A9 := Aside0.mk A90
                  clear A90
                  by_cases c10 : t149 = 0
                  · rw [if_pos c10] at H
                    have c10b0 : (t149 == 0) = true := beq_iff_eq.mpr c10
                    have c10b1 : (t149 != 0) = false := bne_eq_false_iff_eq.mpr c10
                    clear c10
                    replace H := Option.bind_eq_some_iff.mp H
                    obtain ⟨t152, A110, H⟩ := H
                    replace H : (if t152 = 0 then (corpus_orderPairs.l0 kj2 l0 l1 (wrap64 (x5_1 + 1))) else (some t152)) = some r := H
                    have A11 := Aside0.mk A110
                    clear A110
                    by_cases c12 : t152 = 0
                    · rw [if_pos c12] at H
                      have c12b0 : (t152 == 0) = true := beq_iff_eq.mpr c12
                      have c12b1 : (t152 != 0) = false := bne_eq_false_iff_eq.mpr c12
                      clear c12
                      have H' := Aside0.mk H
                      clear H
                      have p147 : 0 ≤ (x5_1 : Int) := of_decide_eq_true (by first | (with_reducible assumption) | assumption)
                      have q147 : x5_1 < (l0.length : Int) := of_decide_eq_true (by first | (with_reducible assumption) | assumption)
                      obtain ⟨ad147, e147, hx147_0, hx147_1⟩ := at_T88 HR0.out x5_1 p147 q147
                      cases e147
                      replace p147 := eq_true p147
                      replace q147 := eq_true q147
                      have p148 : 0 ≤ (x5_1 : Int) := of_decide_eq_true (by first | (with_reducible assumption) | assumption)
                      have q148 : x5_1 < (l1.length : Int) := of_decide_eq_true (by first | (with_reducible assumption) | assumption)
                      obtain ⟨ad148, e148, hx148_0, hx148_1⟩ := at_T88 HR1.out x5_1 p148 q148
                      cases e148
                      replace p148 := eq_true p148
                      replace q148 := eq_true q148
                      go_wp2_with (first | (go_at_call 50; (with_reducible refine (corpus_orderText.calls ((rd_T88 l0 x5_1).f0) ((rd_T88 l1 x5_1).f0) t149 _ A9.out).mono ?_); rintro e w' ⟨rfl, ⟨nd, rfl⟩⟩; (try first | exact ⟨rfl, _, World.drewN_drewN _ _ _⟩ | exact ⟨rfl, _, Eq.trans (World.drewN_drewN _ _ _) (congrArg (World.drewN _) (Nat.add_assoc _ _ _))⟩); have p150 : 0 ≤ (x5_1 : Int) := of_decide_eq_true (by first | (with_reducible assumption) | assumption); have q150 : x5_1 < (l0.length : Int) := of_decide_eq_true (by first | (with_reducible assumption) | assumption); obtain ⟨ad150, e150, hx150_0, hx150_1⟩ := at_T88 HR0.out x5_1 p150 q150; obtain rfl : ad147 = ad150 := (by injection e150); replace p150 := eq_true p150; replace q150 := eq_true q150; have p151 : 0 ≤ (x5_1 : Int) := of_decide_eq_true (by first | (with_reducible assumption) | assumption); have q151 : x5_1 < (l1.length : Int) := of_decide_eq_true (by first | (with_reducible assumption) | assumption); obtain ⟨ad151, e151, hx151_0, hx151_1⟩ := at_T88 HR1.out x5_1 p151 q151; obtain rfl : ad148 = ad151 := (by injection e151); replace p151 := eq_true p151; replace q151 := eq_true q151) | (go_at_call 50; (with_reducible refine (corpus_orderText.calls ((rd_T88 l0 x5_1).f1) ((rd_T88 l1 x5_1).f1) t152 _ A11.out).mono ?_); rintro e w' ⟨rfl, ⟨nd, rfl⟩⟩; (try first | exact ⟨rfl, _, World.drewN_drewN _ _ _⟩ | exact ⟨rfl, _, Eq.trans (World.drewN_drewN _ _ _) (congrArg (World.drewN _) (Nat.add_assoc _ _ _))⟩)))
                      repeat (go_quiet (first | (go_at_call 50; (with_reducible refine (corpus_orderText.calls ((rd_T88 l0 x5_1).f0) ((rd_T88 l1 x5_1).f0) t149 _ A9.out).mono ?_); rintro e w' ⟨rfl, ⟨nd, rfl⟩⟩; (try first | exact ⟨rfl, _, World.drewN_drewN _ _ _⟩ | exact ⟨rfl, _, Eq.trans (World.drewN_drewN _ _ _) (congrArg (World.drewN _) (Nat.add_assoc _ _ _))⟩); have p150 : 0 ≤ (x5_1 : Int) := of_decide_eq_true (by first | (with_reducible assumption) | assumption); have q150 : x5_1 < (l0.length : Int) := of_decide_eq_true (by first | (with_reducible assumption) | assumption); obtain ⟨ad150, e150, hx150_0, hx150_1⟩ := at_T88 HR0.out x5_1 p150 q150; obtain rfl : ad147 = ad150 := (by injection e150); replace p150 := eq_true p150; replace q150 := eq_true q150; have p151 : 0 ≤ (x5_1 : Int) := of_decide_eq_true (by first | (with_reducible assumption) | assumption); have q151 : x5_1 < (l1.length : Int) := of_decide_eq_true (by first | (with_reducible assumption) | assumption); obtain ⟨ad151, e151, hx151_0, hx151_1⟩ := at_T88 HR1.out x5_1 p151 q151; obtain rfl : ad148 = ad151 := (by injection e151); replace p151 := eq_true p151; replace q151 := eq_true q151) | (go_at_call 50; (with_reducible refine (corpus_orderText.calls ((rd_T88 l0 x5_1).f1) ((rd_T88 l1 x5_1).f1) t152 _ A11.out).mono ?_); rintro e w' ⟨rfl, ⟨nd, rfl⟩⟩; (try first | exact ⟨rfl, _, World.drewN_drewN _ _ _⟩ | exact ⟨rfl, _, Eq.trans (World.drewN_drewN _ _ _) (congrArg (World.drewN _) (Nat.add_assoc _ _ _))⟩))); try go_wp2_with (first | (go_at_call 50; (with_reducible refine (corpus_orderText.calls ((rd_T88 l0 x5_1).f0) ((rd_T88 l1 x5_1).f0) t149 _ A9.out).mono ?_); rintro e w' ⟨rfl, ⟨nd, rfl⟩⟩; (try first | exact ⟨rfl, _, World.drewN_drewN _ _ _⟩ | exact ⟨rfl, _, Eq.trans (World.drewN_drewN _ _ _) (congrArg (World.drewN _) (Nat.add_assoc _ _ _))⟩); have p150 : 0 ≤ (x5_1 : Int) := of_decide_eq_true (by first | (with_reducible assumption) | assumption); have q150 : x5_1 < (l0.length : Int) := of_decide_eq_true (by first | (with_reducible assumption) | assumption); obtain ⟨ad150, e150, hx150_0, hx150_1⟩ := at_T88 HR0.out x5_1 p150 q150; obtain rfl : ad147 = ad150 := (by injection e150); replace p150 := eq_true p150; replace q150 := eq_true q150; have p151 : 0 ≤ (x5_1 : Int) := of_decide_eq_true (by first | (with_reducible assumption) | assumption); have q151 : x5_1 < (l1.length : Int) := of_decide_eq_true (by first | (with_reducible assumption) | assumption); obtain ⟨ad151, e151, hx151_0, hx151_1⟩ := at_T88 HR1.out x5_1 p151 q151; obtain rfl : ad148 = ad151 := (by injection e151); replace p151 := eq_true p151; replace q151 := eq_true q151) | (go_at_call 50; (with_reducible refine (corpus_orderText.calls ((rd_T88 l0 x5_1).f1) ((rd_T88 l1 x5_1).f1) t152 _ A11.out).mono ?_); rintro e w' ⟨rfl, ⟨nd, rfl⟩⟩; (try first | exact ⟨rfl, _, World.drewN_drewN _ _ _⟩ | exact ⟨rfl, _, Eq.trans (World.drewN_drewN _ _ _) (congrArg (World.drewN _) (Nat.add_assoc _ _ _))⟩))))
                      go_roundg kj2
                      case measure => have := HK1.out; have := HJ2.out; omega
                      case rel => exact ⟨(wrap64 (x5_1 + 1)), (by first | rfl | (simp; done) | (simp [*]; done)), H', ⟨by have := HK1.out; have := HJ2.out; omega⟩, by repeat (first | exact Drawn0.refl _ | apply Drawn0.step)⟩
                    · rw [if_neg c12] at H
                      have c12b0 : (t152 == 0) = false := beq_eq_false_iff_ne.mpr c12
                      have c12b1 : (t152 != 0) = true := bne_iff_ne.mpr c12
                      obtain rfl := Option.some.inj H
                      have p147 : 0 ≤ (x5_1 : Int) := of_decide_eq_true (by first | (with_reducible assumption) | assumption)
                      have q147 : x5_1 < (l0.length : Int) := of_decide_eq_true (by first | (with_reducible assumption) | assumption)
                      obtain ⟨ad147, e147, hx147_0, hx147_1⟩ := at_T88 HR0.out x5_1 p147 q147
                      cases e147
                      replace p147 := eq_true p147
                      replace q147 := eq_true q147
                      have p148 : 0 ≤ (x5_1 : Int) := of_decide_eq_true (by first | (with_reducible assumption) | assumption)
                      have q148 : x5_1 < (l1.length : Int) := of_decide_eq_true (by first | (with_reducible assumption) | assumption)
                      obtain ⟨ad148, e148, hx148_0, hx148_1⟩ := at_T88 HR1.out x5_1 p148 q148
                      cases e148
                      replace p148 := eq_true p148
                      replace q148 := eq_true q148
                      go_wp2_with (first | (go_at_call 50; (with_reducible refine (corpus_orderText.calls ((rd_T88 l0 x5_1).f0) ((rd_T88 l1 x5_1).f0) t149 _ A9.out).mono ?_); rintro e w' ⟨rfl, ⟨nd, rfl⟩⟩; (try first | exact ⟨rfl, _, World.drewN_drewN _ _ _⟩ | exact ⟨rfl, _, Eq.trans (World.drewN_drewN _ _ _) (congrArg (World.drewN _) (Nat.add_assoc _ _ _))⟩); have p150 : 0 ≤ (x5_1 : Int) := of_decide_eq_true (by first | (with_reducible assumption) | assumption); have q150 : x5_1 < (l0.length : Int) := of_decide_eq_true (by first | (with_reducible assumption) | assumption); obtain ⟨ad150, e150, hx150_0, hx150_1⟩ := at_T88 HR0.out x5_1 p150 q150; obtain rfl : ad147 = ad150 := (by injection e150); replace p150 := eq_true p150; replace q150 := eq_true q150; have p151 : 0 ≤ (x5_1 : Int) := of_decide_eq_true (by first | (with_reducible assumption) | assumption); have q151 : x5_1 < (l1.length : Int) := of_decide_eq_true (by first | (with_reducible assumption) | assumption); obtain ⟨ad151, e151, hx151_0, hx151_1⟩ := at_T88 HR1.out x5_1 p151 q151; obtain rfl : ad148 = ad151 := (by injection e151); replace p151 := eq_true p151; replace q151 := eq_true q151) | (go_at_call 50; (with_reducible refine (corpus_orderText.calls ((rd_T88 l0 x5_1).f1) ((rd_T88 l1 x5_1).f1) t152 _ A11.out).mono ?_); rintro e w' ⟨rfl, ⟨nd, rfl⟩⟩; (try first | exact ⟨rfl, _, World.drewN_drewN _ _ _⟩ | exact ⟨rfl, _, Eq.trans (World.drewN_drewN _ _ _) (congrArg (World.drewN _) (Nat.add_assoc _ _ _))⟩)))
                      repeat (go_quiet (first | (go_at_call 50; (with_reducible refine (corpus_orderText.calls ((rd_T88 l0 x5_1).f0) ((rd_T88 l1 x5_1).f0) t149 _ A9.out).mono ?_); rintro e w' ⟨rfl, ⟨nd, rfl⟩⟩; (try first | exact ⟨rfl, _, World.drewN_drewN _ _ _⟩ | exact ⟨rfl, _, Eq.trans (World.drewN_drewN _ _ _) (congrArg (World.drewN _) (Nat.add_assoc _ _ _))⟩); have p150 : 0 ≤ (x5_1 : Int) := of_decide_eq_true (by first | (with_reducible assumption) | assumption); have q150 : x5_1 < (l0.length : Int) := of_decide_eq_true (by first | (with_reducible assumption) | assumption); obtain ⟨ad150, e150, hx150_0, hx150_1⟩ := at_T88 HR0.out x5_1 p150 q150; obtain rfl : ad147 = ad150 := (by injection e150); replace p150 := eq_true p150; replace q150 := eq_true q150; have p151 : 0 ≤ (x5_1 : Int) := of_decide_eq_true (by first | (with_reducible assumption) | assumption); have q151 : x5_1 < (l1.length : Int) := of_decide_eq_true (by first | (with_reducible assumption) | assumption); obtain ⟨ad151, e151, hx151_0, hx151_1⟩ := at_T88 HR1.out x5_1 p151 q151; obtain rfl : ad148 = ad151 := (by injection e151); replace p151 := eq_true p151; replace q151 := eq_true q151) | (go_at_call 50; (with_reducible refine (corpus_orderText.calls ((rd_T88 l0 x5_1).f1) ((rd_T88 l1 x5_1).f1) t152 _ A11.out).mono ?_); rintro e w' ⟨rfl, ⟨nd, rfl⟩⟩; (try first | exact ⟨rfl, _, World.drewN_drewN _ _ _⟩ | exact ⟨rfl, _, Eq.trans (World.drewN_drewN _ _ _) (congrArg (World.drewN _) (Nat.add_assoc _ _ _))⟩))); try go_wp2_with (first | (go_at_call 50; (with_reducible refine (corpus_orderText.calls ((rd_T88 l0 x5_1).f0) ((rd_T88 l1 x5_1).f0) t149 _ A9.out).mono ?_); rintro e w' ⟨rfl, ⟨nd, rfl⟩⟩; (try first | exact ⟨rfl, _, World.drewN_drewN _ _ _⟩ | exact ⟨rfl, _, Eq.trans (World.drewN_drewN _ _ _) (congrArg (World.drewN _) (Nat.add_assoc _ _ _))⟩); have p150 : 0 ≤ (x5_1 : Int) := of_decide_eq_true (by first | (with_reducible assumption) | assumption); have q150 : x5_1 < (l0.length : Int) := of_decide_eq_true (by first | (with_reducible assumption) | assumption); obtain ⟨ad150, e150, hx150_0, hx150_1⟩ := at_T88 HR0.out x5_1 p150 q150; obtain rfl : ad147 = ad150 := (by injection e150); replace p150 := eq_true p150; replace q150 := eq_true q150; have p151 : 0 ≤ (x5_1 : Int) := of_decide_eq_true (by first | (with_reducible assumption) | assumption); have q151 : x5_1 < (l1.length : Int) := of_decide_eq_true (by first | (with_reducible assumption) | assumption); obtain ⟨ad151, e151, hx151_0, hx151_1⟩ := at_T88 HR1.out x5_1 p151 q151; obtain rfl : ad148 = ad151 := (by injection e151); replace p151 := eq_true p151; replace q151 := eq_true q151) | (go_at_call 50; (with_reducible refine (corpus_orderText.calls ((rd_T88 l0 x5_1).f1) ((rd_T88 l1 x5_1).f1) t152 _ A11.out).mono ?_); rintro e w' ⟨rfl, ⟨nd, rfl⟩⟩; (try first | exact ⟨rfl, _, World.drewN_drewN _ _ _⟩ | exact ⟨rfl, _, Eq.trans (World.drewN_drewN _ _ _) (congrArg (World.drewN _) (Nat.add_assoc _ _ _))⟩))))
                      go_ret
                      exact ⟨by first | rfl | (simp; done) | (simp [*]; done), by repeat (first | exact Drawn0.refl _ | apply Drawn0.step)⟩
                  · rw [if_neg c10] at H
                    have c10b0 : (t149 == 0) = false := beq_eq_false_iff_ne.mpr c10
                    have c10b1 : (t149 != 0) = true := bne_iff_ne.mpr c10
                    obtain rfl := Option.some.inj H
                    have p147 : 0 ≤ (x5_1 : Int) := of_decide_eq_true (by first | (with_reducible assumption) | assumption)
                    have q147 : x5_1 < (l0.length : Int) := of_decide_eq_true (by first | (with_reducible assumption) | assumption)
                    obtain ⟨ad147, e147, hx147_0, hx147_1⟩ := at_T88 HR0.out x5_1 p147 q147
                    cases e147
                    replace p147 := eq_true p147
                    replace q147 := eq_true q147
                    have p148 : 0 ≤ (x5_1 : Int) := of_decide_eq_true (by first | (with_reducible assumption) | assumption)
                    have q148 : x5_1 < (l1.length : Int) := of_decide_eq_true (by first | (with_reducible assumption) | assumption)
                    obtain ⟨ad148, e148, hx148_0, hx148_1⟩ := at_T88 HR1.out x5_1 p148 q148
                    cases e148
                    replace p148 := eq_true p148
                    replace q148 := eq_true q148
                    go_wp2_with (first | (go_at_call 50; (with_reducible refine (corpus_orderText.calls ((rd_T88 l0 x5_1).f0) ((rd_T88 l1 x5_1).f0) t149 _ A9.out).mono ?_); rintro e w' ⟨rfl, ⟨nd, rfl⟩⟩; (try first | exact ⟨rfl, _, World.drewN_drewN _ _ _⟩ | exact ⟨rfl, _, Eq.trans (World.drewN_drewN _ _ _) (congrArg (World.drewN _) (Nat.add_assoc _ _ _))⟩)))
                    repeat (go_quiet (first | (go_at_call 50; (with_reducible refine (corpus_orderText.calls ((rd_T88 l0 x5_1).f0) ((rd_T88 l1 x5_1).f0) t149 _ A9.out).mono ?_); rintro e w' ⟨rfl, ⟨nd, rfl⟩⟩; (try first | exact ⟨rfl, _, World.drewN_drewN _ _ _⟩ | exact ⟨rfl, _, Eq.trans (World.drewN_drewN _ _ _) (congrArg (World.drewN _) (Nat.add_assoc _ _ _))⟩))); try go_wp2_with (first | (go_at_call 50; (with_reducible refine (corpus_orderText.calls ((rd_T88 l0 x5_1).f0) ((rd_T88 l1 x5_1).f0) t149 _ A9.out).mono ?_); rintro e w' ⟨rfl, ⟨nd, rfl⟩⟩; (try first | exact ⟨rfl, _, World.drewN_drewN _ _ _⟩ | exact ⟨rfl, _, Eq.trans (World.drewN_drewN _ _ _) (congrArg (World.drewN _) (Nat.add_assoc _ _ _))⟩))))
                    go_ret
                    exact ⟨by first | rfl | (simp; done) | (simp [*]; done), by repeat (first | exact Drawn0.refl _ | apply Drawn0.step)⟩
                · rw [if_neg c8] at H
                  exact absurd H (by simp)
              · rw [if_neg c7] at H
                exact absurd H (by simp)
            · rw [if_neg c6] at H
              exact absurd H (by simp)
          · replace c5 := Bool.eq_false_iff.mpr c5
            subst c5
            have H1 : ((corpus_order.f (l0.length : Int) (l1.length : Int)).bind fun t146 => (some t146)) = some r := by rw [if_neg (show ¬ (false = true) by decide)] at H; exact H
            clear H
            have H := H1
            clear H1
            replace H := Option.bind_eq_some_iff.mp H
            obtain ⟨t146, A130, H⟩ := H
            replace H : (some t146) = some r := H
            have A13 := Aside0.mk A130
            clear A130
            obtain rfl := Option.some.inj H
            go_wp2_with (first | (go_at_call 49; (with_reducible refine (corpus_order.calls (l0.length : Int) (l1.length : Int) t146 _ A13.out).mono ?_); rintro e w' ⟨rfl, ⟨nd, rfl⟩⟩; (try first | exact ⟨rfl, _, World.drewN_drewN _ _ _⟩ | exact ⟨rfl, _, Eq.trans (World.drewN_drewN _ _ _) (congrArg (World.drewN _) (Nat.add_assoc _ _ _))⟩)))
            repeat (go_quiet (first | (go_at_call 49; (with_reducible refine (corpus_order.calls (l0.length : Int) (l1.length : Int) t146 _ A13.out).mono ?_); rintro e w' ⟨rfl, ⟨nd, rfl⟩⟩; (try first | exact ⟨rfl, _, World.drewN_drewN _ _ _⟩ | exact ⟨rfl, _, Eq.trans (World.drewN_drewN _ _ _) (congrArg (World.drewN _) (Nat.add_assoc _ _ _))⟩))); try go_wp2_with (first | (go_at_call 49; (with_reducible refine (corpus_order.calls (l0.length : Int) (l1.length : Int) t146 _ A13.out).mono ?_); rintro e w' ⟨rfl, ⟨nd, rfl⟩⟩; (try first | exact ⟨rfl, _, World.drewN_drewN _ _ _⟩ | exact ⟨rfl, _, Eq.trans (World.drewN_drewN _ _ _) (congrArg (World.drewN _) (Nat.add_assoc _ _ _))⟩))))
            go_ret
            exact ⟨by first | rfl | (simp; done) | (simp [*]; done), by repeat (first | exact Drawn0.refl _ | apply Drawn0.step)⟩

end Go.Proofs.YtebajpebongabaaDoor.P
