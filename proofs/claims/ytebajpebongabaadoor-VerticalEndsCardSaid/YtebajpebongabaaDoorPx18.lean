-- Written by a program of this session (wip/doprint.sh) out of the translation; Lean checks it.
import Derived.Test.YtebajpebongabaaDoorPx0
namespace Go.Proofs.YtebajpebongabaaDoor.P
open Go.Proofs.YtebajpebongabaaDoor.X
open Go.RowKit Go.Proofs.YtebajpebongabaaDoorW.PrintWords Go.Proofs.YtebajpebongabaaDoorW.PrintLast Go.Proofs.YtebajpebongabaaDoorW.PrintMore
attribute [local go_sem] max2_int min2_int max_two min_two max_three min_three max_four min_four   -- for this text's walks alone
set_option linter.unusedVariables false
set_option linter.unusedSimpArgs false

/-! ### corpus_cycles: function 40 -/
mutual
def corpus_cycles.l0 : Nat → List Int → List Bool → List Int → Int → Int → Option (List Bool)
  | 0, _, _, _, _, _ => none
  | k + 1, x0, x3, x4, x15, x16 => if x16 < x15 then (corpus_cycles.l1 k x0 x3 x4 x16 x16 x15 x16) else (some x3)
def corpus_cycles.j2 : Nat → List Int → List Bool → List Int → Int → Int → Int → Int → Option (List Bool)
  | 0, _, _, _, _, _, _, _ => none
  | k + 1, x0, x3, x4, x5, x6, x15, x16 => if x6 < 0 then (corpus_cycles.j3 k x0 x3 x4 x6 x15 x16 true) else (if x6 ≥ (x0.length : Int) then (corpus_cycles.j3 k x0 x3 x4 x6 x15 x16 true) else (if 0 ≤ x6 then (if x6 < (x4.length : Int) then (if (rd x4 x6) = (wrap64 (x5 + 1)) then (if x6 < (x3.length : Int) then (corpus_cycles.j3 k x0 x3 x4 x6 x15 x16 (rdOf false x3 x6)) else (none)) else (corpus_cycles.j3 k x0 x3 x4 x6 x15 x16 true)) else (none)) else (none)))
def corpus_cycles.j3 : Nat → List Int → List Bool → List Int → Int → Int → Int → Bool → Option (List Bool)
  | 0, _, _, _, _, _, _, _ => none
  | k + 1, x0, x3, x4, x6, x15, x16, x66 => if x66 = true then (corpus_cycles.l0 k x0 x3 x4 x15 (wrap64 (x16 + 1))) else (corpus_cycles.l2 k x0 x3 x4 x6 x15 x16)
def corpus_cycles.l2 : Nat → List Int → List Bool → List Int → Int → Int → Int → Option (List Bool)
  | 0, _, _, _, _, _, _ => none
  | k + 1, x0, x3, x4, x7, x15, x16 => if 0 ≤ x7 then (if x7 < (x3.length : Int) then (if rdOf false x3 x7 = true then (corpus_cycles.l0 k x0 x3 x4 x15 (wrap64 (x16 + 1))) else (if x7 < (x0.length : Int) then (corpus_cycles.l2 k x0 (x3.set (x7 : Int).toNat true) x4 (rd x0 x7) x15 x16) else (none))) else (none)) else (none)
def corpus_cycles.l1 : Nat → List Int → List Bool → List Int → Int → Int → Int → Int → Option (List Bool)
  | 0, _, _, _, _, _, _, _ => none
  | k + 1, x0, x3, x4, x5, x6, x15, x16 => if x6 ≥ 0 then (if x6 < (x0.length : Int) then (if 0 ≤ x6 then (if x6 < (x4.length : Int) then (if (rd x4 x6) = 0 then (corpus_cycles.l1 k x0 x3 (x4.set (x6 : Int).toNat (wrap64 (x5 + 1))) x5 (rd x0 x6) x15 x16) else (corpus_cycles.j2 k x0 x3 x4 x5 x6 x15 x16)) else (none)) else (none)) else (corpus_cycles.j2 k x0 x3 x4 x5 x6 x15 x16)) else (corpus_cycles.j2 k x0 x3 x4 x5 x6 x15 x16)
end
def corpus_cycles.f (k : Nat) (l0 : List Int) : Option (List Bool) := if 0 ≤ (l0.length : Int) then (if ((l0.length : Int) : Int).toNat ≤ 281474976710656 then (if ((l0.length : Int) : Int).toNat ≤ 35184372088832 then (corpus_cycles.l0 k l0 (List.replicate ((l0.length : Int) : Int).toNat false) (List.replicate ((l0.length : Int) : Int).toNat 0) (l0.length : Int) 0) else (none)) else (none)) else (none)
theorem corpus_cycles.mono_l : ∀ k, (∀ y0 y1 y2 y3 y4, LeO (corpus_cycles.l0 k y0 y1 y2 y3 y4) (corpus_cycles.l0 (k + 1) y0 y1 y2 y3 y4)) ∧ (∀ y0 y1 y2 y3 y4 y5 y6, LeO (corpus_cycles.j2 k y0 y1 y2 y3 y4 y5 y6) (corpus_cycles.j2 (k + 1) y0 y1 y2 y3 y4 y5 y6)) ∧ (∀ y0 y1 y2 y3 y4 y5 y6, LeO (corpus_cycles.j3 k y0 y1 y2 y3 y4 y5 y6) (corpus_cycles.j3 (k + 1) y0 y1 y2 y3 y4 y5 y6)) ∧ (∀ y0 y1 y2 y3 y4 y5, LeO (corpus_cycles.l2 k y0 y1 y2 y3 y4 y5) (corpus_cycles.l2 (k + 1) y0 y1 y2 y3 y4 y5)) ∧ (∀ y0 y1 y2 y3 y4 y5 y6, LeO (corpus_cycles.l1 k y0 y1 y2 y3 y4 y5 y6) (corpus_cycles.l1 (k + 1) y0 y1 y2 y3 y4 y5 y6))
  | 0 => ⟨fun _ _ _ _ _ r h => by simp [corpus_cycles.l0] at h, fun _ _ _ _ _ _ _ r h => by simp [corpus_cycles.j2] at h, fun _ _ _ _ _ _ _ r h => by simp [corpus_cycles.j3] at h, fun _ _ _ _ _ _ r h => by simp [corpus_cycles.l2] at h, fun _ _ _ _ _ _ _ r h => by simp [corpus_cycles.l1] at h⟩
  | k + 1 => by
    obtain ⟨ih0, ih1, ih2, ih3, ih4⟩ := corpus_cycles.mono_l k
    refine ⟨?_, ?_, ?_, ?_, ?_⟩
    · intro y0 y1 y2 y3 y4
      unfold corpus_cycles.l0
      repeat' first
      | (with_reducible exact ih0 _ _ _ _ _)
      | (with_reducible exact ih1 _ _ _ _ _ _ _)
      | (with_reducible exact ih2 _ _ _ _ _ _ _)
      | (with_reducible exact ih3 _ _ _ _ _ _)
      | (with_reducible exact ih4 _ _ _ _ _ _ _)
      | (with_reducible exact LeO.refl _)
      | (with_reducible exact LeO.none _)
      | (with_reducible refine LeO.ite ?_ ?_)
      | (with_reducible refine LeO.bind ?_ (fun _ => ?_))
      | exact ih0 _ _ _ _ _
      | exact ih1 _ _ _ _ _ _ _
      | exact ih2 _ _ _ _ _ _ _
      | exact ih3 _ _ _ _ _ _
      | exact ih4 _ _ _ _ _ _ _
      | exact LeO.none _
      | refine LeO.ite ?_ ?_
      | refine LeO.bind ?_ (fun _ => ?_)
    · intro y0 y1 y2 y3 y4 y5 y6
      unfold corpus_cycles.j2
      repeat' first
      | (with_reducible exact ih0 _ _ _ _ _)
      | (with_reducible exact ih1 _ _ _ _ _ _ _)
      | (with_reducible exact ih2 _ _ _ _ _ _ _)
      | (with_reducible exact ih3 _ _ _ _ _ _)
      | (with_reducible exact ih4 _ _ _ _ _ _ _)
      | (with_reducible exact LeO.refl _)
      | (with_reducible exact LeO.none _)
      | (with_reducible refine LeO.ite ?_ ?_)
      | (with_reducible refine LeO.bind ?_ (fun _ => ?_))
      | exact ih0 _ _ _ _ _
      | exact ih1 _ _ _ _ _ _ _
      | exact ih2 _ _ _ _ _ _ _
      | exact ih3 _ _ _ _ _ _
      | exact ih4 _ _ _ _ _ _ _
      | exact LeO.none _
      | refine LeO.ite ?_ ?_
      | refine LeO.bind ?_ (fun _ => ?_)
    · intro y0 y1 y2 y3 y4 y5 y6
      unfold corpus_cycles.j3
      repeat' first
      | (with_reducible exact ih0 _ _ _ _ _)
      | (with_reducible exact ih1 _ _ _ _ _ _ _)
      | (with_reducible exact ih2 _ _ _ _ _ _ _)
      | (with_reducible exact ih3 _ _ _ _ _ _)
      | (with_reducible exact ih4 _ _ _ _ _ _ _)
      | (with_reducible exact LeO.refl _)
      | (with_reducible exact LeO.none _)
      | (with_reducible refine LeO.ite ?_ ?_)
      | (with_reducible refine LeO.bind ?_ (fun _ => ?_))
      | exact ih0 _ _ _ _ _
      | exact ih1 _ _ _ _ _ _ _
      | exact ih2 _ _ _ _ _ _ _
      | exact ih3 _ _ _ _ _ _
      | exact ih4 _ _ _ _ _ _ _
      | exact LeO.none _
      | refine LeO.ite ?_ ?_
      | refine LeO.bind ?_ (fun _ => ?_)
    · intro y0 y1 y2 y3 y4 y5
      unfold corpus_cycles.l2
      repeat' first
      | (with_reducible exact ih0 _ _ _ _ _)
      | (with_reducible exact ih1 _ _ _ _ _ _ _)
      | (with_reducible exact ih2 _ _ _ _ _ _ _)
      | (with_reducible exact ih3 _ _ _ _ _ _)
      | (with_reducible exact ih4 _ _ _ _ _ _ _)
      | (with_reducible exact LeO.refl _)
      | (with_reducible exact LeO.none _)
      | (with_reducible refine LeO.ite ?_ ?_)
      | (with_reducible refine LeO.bind ?_ (fun _ => ?_))
      | exact ih0 _ _ _ _ _
      | exact ih1 _ _ _ _ _ _ _
      | exact ih2 _ _ _ _ _ _ _
      | exact ih3 _ _ _ _ _ _
      | exact ih4 _ _ _ _ _ _ _
      | exact LeO.none _
      | refine LeO.ite ?_ ?_
      | refine LeO.bind ?_ (fun _ => ?_)
    · intro y0 y1 y2 y3 y4 y5 y6
      unfold corpus_cycles.l1
      repeat' first
      | (with_reducible exact ih0 _ _ _ _ _)
      | (with_reducible exact ih1 _ _ _ _ _ _ _)
      | (with_reducible exact ih2 _ _ _ _ _ _ _)
      | (with_reducible exact ih3 _ _ _ _ _ _)
      | (with_reducible exact ih4 _ _ _ _ _ _ _)
      | (with_reducible exact LeO.refl _)
      | (with_reducible exact LeO.none _)
      | (with_reducible refine LeO.ite ?_ ?_)
      | (with_reducible refine LeO.bind ?_ (fun _ => ?_))
      | exact ih0 _ _ _ _ _
      | exact ih1 _ _ _ _ _ _ _
      | exact ih2 _ _ _ _ _ _ _
      | exact ih3 _ _ _ _ _ _
      | exact ih4 _ _ _ _ _ _ _
      | exact LeO.none _
      | refine LeO.ite ?_ ?_
      | refine LeO.bind ?_ (fun _ => ?_)
theorem corpus_cycles.mono : ∀ a0 k, LeO (corpus_cycles.f k a0) (corpus_cycles.f (k + 1) a0) := by
  intro a0 k
  obtain ⟨ih0, ih1, ih2, ih3, ih4⟩ := corpus_cycles.mono_l k
  unfold corpus_cycles.f
  repeat' first
      | (with_reducible exact ih0 _ _ _ _ _)
      | (with_reducible exact ih1 _ _ _ _ _ _ _)
      | (with_reducible exact ih2 _ _ _ _ _ _ _)
      | (with_reducible exact ih3 _ _ _ _ _ _)
      | (with_reducible exact ih4 _ _ _ _ _ _ _)
      | (with_reducible exact LeO.refl _)
      | (with_reducible exact LeO.none _)
      | (with_reducible refine LeO.ite ?_ ?_)
      | (with_reducible refine LeO.bind ?_ (fun _ => ?_))
      | exact ih0 _ _ _ _ _
      | exact ih1 _ _ _ _ _ _ _
      | exact ih2 _ _ _ _ _ _ _
      | exact ih3 _ _ _ _ _ _
      | exact ih4 _ _ _ _ _ _ _
      | exact LeO.none _
      | refine LeO.ite ?_ ?_
      | refine LeO.bind ?_ (fun _ => ?_)
set_option maxHeartbeats 8000000 in
set_option maxRecDepth 100000 in
theorem corpus_cycles.calls (k : Nat) (A0 : Option Addr) (c0 : Nat) (l0 : List Int) (r : List Bool) (w : World) (hr0 : Kd.C (Kd.int .i64) w A0 l0.length l0) (hc0 : l0.length ≤ c0) (h : corpus_cycles.f k l0 = some r) :
    Calls Tryd.prog 40 #[.slice A0 l0.length c0] w fun e w' => ∃ v0_ : Value, e = .returned (v0_) ∧ Kd.R Kd.bool 4 w' w.heap.size (fun _ => True) v0_ r ∧ Below w.heap.size w w' := by
  have HR0 := Aside0.mk hr0
  have HC0 := Aside0.mk hc0
  clear hr0 hc0
  have HB := Aside0.mk (Below.refl w.heap.size w)
  have H : (if 0 ≤ (l0.length : Int) then (if ((l0.length : Int) : Int).toNat ≤ 281474976710656 then (if ((l0.length : Int) : Int).toNat ≤ 35184372088832 then (corpus_cycles.l0 k l0 (List.replicate ((l0.length : Int) : Int).toNat false) (List.replicate ((l0.length : Int) : Int).toNat 0) (l0.length : Int) 0) else (none)) else (none)) else (none)) = some r := h
  clear h
  by_cases c2 : 0 ≤ (l0.length : Int)
  · rw [if_pos c2] at H
    have c2b0 := eq_true c2
    have c2b1 : decide (0 ≤ (l0.length : Int)) = true := decide_eq_true c2
    clear c2
    by_cases c3 : ((l0.length : Int) : Int).toNat ≤ 281474976710656
    · rw [if_pos c3] at H
      have c3b0 := eq_true c3
      have c3b1 : decide (((l0.length : Int) : Int).toNat ≤ 281474976710656) = true := decide_eq_true c3
      clear c3
      obtain ⟨y204, hy204⟩ : ∃ y_ : List Bool, y_ = (List.replicate ((l0.length : Int) : Int).toNat false) := ⟨_, rfl⟩
      replace H : (if ((l0.length : Int) : Int).toNat ≤ 35184372088832 then (corpus_cycles.l0 k l0 y204 (List.replicate ((l0.length : Int) : Int).toNat 0) (l0.length : Int) 0) else (none)) = some r := by first | (rw [hy204]; with_reducible exact H) | (have H2_ := (Option.bind_some _ _).symm.trans H; rw [hy204]; with_reducible exact H2_) | (have H2_ := (Option.bind_some _ _).symm.trans H; with_reducible exact H2_) | with_reducible exact H | (rw [hy204]; exact H) | exact H
      have Ny204 := Aside0.mk hy204
      clear hy204
      by_cases c4 : ((l0.length : Int) : Int).toNat ≤ 35184372088832
      · rw [if_pos c4] at H
        have c4b0 := eq_true c4
        have c4b1 : decide (((l0.length : Int) : Int).toNat ≤ 35184372088832) = true := decide_eq_true c4
        clear c4
        obtain ⟨y207, hy207⟩ : ∃ y_ : List Int, y_ = (List.replicate ((l0.length : Int) : Int).toNat 0) := ⟨_, rfl⟩
        replace H : (corpus_cycles.l0 k l0 y204 y207 (l0.length : Int) 0) = some r := by first | (rw [hy207]; with_reducible exact H) | (have H2_ := (Option.bind_some _ _).symm.trans H; rw [hy207]; with_reducible exact H2_) | (have H2_ := (Option.bind_some _ _).symm.trans H; with_reducible exact H2_) | with_reducible exact H | (rw [hy207]; exact H) | exact H
        have Ny207 := Aside0.mk hy207
        clear hy207
        have H' := Aside0.mk H
        clear H
        go_enter Tryd.func40, Tryd.ntmps40
        go_wp2_with (first | ((with_reducible refine gate_dst (N := 10) rfl ?_); (try (refine gate_guard (by rfl) ?_; dsimp only)); refine Kd.R_make Kd.bool _ 4 rfl (N := 10) rfl 84 _ _ rfl (l0.length : Int) rfl rfl Tryd.underlying84 (.bool false) 1 info4 rfl (by decide) (by omega) false (ok := fun _ => True) (okp := fun _ => True) rfl (fun _ hk => hk) trivial (of_decide_eq_true (by first | (with_reducible assumption) | assumption)) (Nat.le_trans (Nat.mul_le_mul_right _ (of_decide_eq_true (by first | (with_reducible assumption) | assumption) : (l0.length : Int).toNat ≤ 281474976710656)) (by omega)) (Below.refl _ _) (Nat.le_refl _) ?_; intro v205 w5 ho6 hb hg_ hnew_; clear hg_ hnew_; (first | rw [← Ny204.out] at ho6 | (simp only [Int.reduceToNat] at ho6; rw [← Ny204.out] at ho6)); have n0_ := Aside0.mk (Kd.R_lower ho6 (below_size (by repeat (first | (with_reducible first | exact HB.out | apply below_alloc | apply pw_below_drewN | apply below_drew1) | exact HB.out)))); have n1_ := Aside0.mk (below_step (by repeat (first | (with_reducible first | exact HB.out | apply below_alloc | apply pw_below_drewN | apply below_drew1) | exact HB.out)) hb); clear HB; have HO206 := n0_; have HB := n1_; clear n0_ n1_; clear hb ho6) | ((with_reducible refine gate_dst (N := 13) rfl ?_); (try (refine gate_guard (by rfl) ?_; dsimp only)); refine Kd.R_make (Kd.int .i64) _ 3 rfl (N := 13) rfl 27 _ _ rfl (l0.length : Int) rfl rfl Tryd.underlying27 (.int .i64 0) 8 info3 rfl (by decide) (by omega) 0 (ok := fun _ => True) (okp := fun _ => True) rfl (fun _ hk => hk) trivial (of_decide_eq_true (by first | (with_reducible assumption) | assumption)) (Nat.le_trans (Nat.mul_le_mul_right _ (of_decide_eq_true (by first | (with_reducible assumption) | assumption) : (l0.length : Int).toNat ≤ 35184372088832)) (by omega)) (Below.refl _ _) (Nat.le_refl _) ?_; intro v208 w7 ho8 hb hg_ hnew_; clear hg_ hnew_; (first | rw [← Ny207.out] at ho8 | (simp only [Int.reduceToNat] at ho8; rw [← Ny207.out] at ho8)); have n0_ := Aside0.mk (Kd.R_below (by (with_reducible repeat (first | apply Kd.R_alloc | apply Kd.R_drewN | apply Kd.R_drew)); exact HO206.out) hb); have n1_ := Aside0.mk (Kd.R_lower ho8 (below_size (by repeat (first | (with_reducible first | exact HB.out | apply below_alloc | apply pw_below_drewN | apply below_drew1) | exact HB.out)))); have n2_ := Aside0.mk (below_step (by repeat (first | (with_reducible first | exact HB.out | apply below_alloc | apply pw_below_drewN | apply below_drew1) | exact HB.out)) hb); clear HO206; clear HB; have HO206 := n0_; have HO209 := n1_; have HB := n2_; clear n0_ n1_ n2_; clear hb ho8))
        go_loopg [16] k (fun kq v16 w' => ∃ (x3_1 : List Bool) (x4_1 : List Int) (x16_1 : Int), v16 = .int .i64 x16_1 ∧ Aside0 (corpus_cycles.l0 kq l0 x3_1 x4_1 (l0.length : Int) x16_1 = some r) ∧ Aside0 (kq ≤ k) ∧ Aside0 (Kd.R Kd.bool 4 w' w.heap.size (fun _ => True) v205 x3_1) ∧ Aside0 (Kd.R (Kd.int .i64) 3 w' w.heap.size (fun _ => True) v208 x4_1) ∧ Aside0 (Below w.heap.size w w'))
        case atStart => exact ⟨(y204), (y207), (0), (by first | rfl | (simp; done) | (simp [*]; done)), H', ⟨Nat.le_refl _⟩, ⟨by (with_reducible repeat (first | apply Kd.R_alloc | apply Kd.R_drewN | apply Kd.R_drew)); exact HO206.out⟩, ⟨by (with_reducible repeat (first | apply Kd.R_alloc | apply Kd.R_drewN | apply Kd.R_drew)); exact HO209.out⟩, ⟨by repeat (first | (with_reducible first | exact HB.out | apply below_alloc | apply pw_below_drewN | apply below_drew1) | exact HB.out)⟩⟩
        case round =>
          clear H'
          try clear c2
          try clear c2b0
          try clear c2b1
          try clear p2
          try clear c3
          try clear c3b0
          try clear c3b1
          try clear c4
          try clear c4b0
          try clear c4b1
          obtain ⟨x3_1, x4_1, x16_1, rfl, HA, HK1, HO_3, HO_4, HB⟩ := hrel
          cases gk with
          | zero => exact absurd HA.out (by simp [corpus_cycles.l0])
          | succ k1 =>
            have H := HA.out
            clear HA
            simp only [corpus_cycles.l0] at H
            by_cases c9 : x16_1 < (l0.length : Int)
            · rw [if_pos c9] at H
              have c9b0 : decide (x16_1 < (l0.length : Int)) = true := decide_eq_true c9
              clear c9
              have HC10 := Aside0.mk H
              clear H
              go_upto_block 2 with (fail)
              go_cut [6] (fun v6 wc => ∃ (kq : Nat) (x4_9 : List Int) (x6_9 : Int), v6 = .int .i64 x6_9 ∧ Aside0 (corpus_cycles.j2 kq l0 x3_1 x4_9 x16_1 x6_9 (l0.length : Int) x16_1 = some r) ∧ Aside0 (kq ≤ k1) ∧ Aside0 (Kd.R Kd.bool 4 wc w.heap.size (fun _ => True) v205 x3_1) ∧ Aside0 (Kd.R (Kd.int .i64) 3 wc w.heap.size (fun _ => True) v208 x4_9) ∧ Aside0 (Below w.heap.size w wc))
              case first =>
                have H := HC10.out
                clear HC10
                have H' := Aside0.mk H
                clear H
                go_wp2
                go_loopg [6] k1 (fun kq v6 w' => ∃ (x4_2 : List Int) (x6_2 : Int), v6 = .int .i64 x6_2 ∧ Aside0 (corpus_cycles.l1 kq l0 x3_1 x4_2 x16_1 x6_2 (l0.length : Int) x16_1 = some r) ∧ Aside0 (kq ≤ k1) ∧ Aside0 (Kd.R Kd.bool 4 w' w.heap.size (fun _ => True) v205 x3_1) ∧ Aside0 (Kd.R (Kd.int .i64) 3 w' w.heap.size (fun _ => True) v208 x4_2) ∧ Aside0 (Below w.heap.size w w'))
                case atStart => exact ⟨(x4_1), (x16_1), (by first | rfl | (simp; done) | (simp [*]; done)), H', ⟨Nat.le_refl _⟩, ⟨by (with_reducible repeat (first | apply Kd.R_alloc | apply Kd.R_drewN | apply Kd.R_drew)); exact HO_3.out⟩, ⟨by (with_reducible repeat (first | apply Kd.R_alloc | apply Kd.R_drewN | apply Kd.R_drew)); exact HO_4.out⟩, ⟨by repeat (first | (with_reducible first | exact HB.out | apply below_alloc | apply pw_below_drewN | apply below_drew1) | exact HB.out)⟩⟩
                case round =>
                  clear H'
                  try clear c2
                  try clear c2b0
                  try clear c2b1
                  try clear p2
                  try clear c3
                  try clear c3b0
                  try clear c3b1
                  try clear c4
                  try clear c4b0
                  try clear c4b1
                  try clear c9
                  try clear c9b0
                  try clear p2
                  obtain ⟨x4_2, x6_2, rfl, HA, HK2, HO_3, HO_4, HB⟩ := hrel
                  cases gk with
                  | zero => exact absurd HA.out (by simp [corpus_cycles.l1])
                  | succ k2 =>
                    have H := HA.out
                    clear HA
                    simp only [corpus_cycles.l1] at H
                    by_cases c11 : x6_2 ≥ 0
                    · rw [if_pos c11] at H
                      have c11b0 : decide (0 ≤ x6_2) = true := decide_eq_true c11
                      clear c11
                      (first | rw [c11b0] | (simp only [i64_w, i32_w]; rw [c11b0]) | skip)
                      by_cases c12 : x6_2 < (l0.length : Int)
                      · rw [if_pos c12] at H
                        have c12b0 : decide (x6_2 < (l0.length : Int)) = true := decide_eq_true c12
                        clear c12
                        by_cases c13 : 0 ≤ x6_2
                        · rw [if_pos c13] at H
                          have c13b0 : decide (0 ≤ x6_2) = true := decide_eq_true c13
                          clear c13
                          by_cases c14 : x6_2 < (x4_2.length : Int)
                          · rw [if_pos c14] at H
                            have c14b0 : decide (x6_2 < (x4_2.length : Int)) = true := decide_eq_true c14
                            clear c14
                            by_cases c15 : (rd x4_2 x6_2) = 0
                            · rw [if_pos c15] at H
                              have c15b0 : ((rd x4_2 x6_2) == 0) = true := beq_iff_eq.mpr c15
                              have c15b1 : ((rd x4_2 x6_2) != 0) = false := bne_eq_false_iff_eq.mpr c15
                              clear c15
                              obtain ⟨y211, hy211⟩ : ∃ y_ : List Int, y_ = (x4_2.set (x6_2 : Int).toNat (wrap64 (x16_1 + 1))) := ⟨_, rfl⟩
                              replace H : (corpus_cycles.l1 k2 l0 x3_1 y211 x16_1 (rd l0 x6_2) (l0.length : Int) x16_1) = some r := by first | (rw [hy211]; with_reducible exact H) | (have H2_ := (Option.bind_some _ _).symm.trans H; rw [hy211]; with_reducible exact H2_) | (have H2_ := (Option.bind_some _ _).symm.trans H; with_reducible exact H2_) | with_reducible exact H | (rw [hy211]; exact H) | exact H
                              have Ny211 := Aside0.mk hy211
                              clear hy211
                              have H' := Aside0.mk H
                              clear H
                              obtain ⟨Ao17, co17, eo17⟩ := Kd.R_slice HO_4.out
                              subst eo17
                              have p210 : 0 ≤ (x6_2 : Int) := of_decide_eq_true (by first | (with_reducible assumption) | assumption)
                              have q210 : x6_2 < (x4_2.length : Int) := of_decide_eq_true (by first | (with_reducible assumption) | assumption)
                              obtain ⟨ad210, e210, hx210_0⟩ := Kd.at_int (Kd.R_reads' HO_4.out).2.2 x6_2 p210 q210
                              cases e210
                              replace p210 := eq_true p210
                              replace q210 := eq_true q210
                              have p16 : 0 ≤ (x6_2 : Int) := of_decide_eq_true (by first | (with_reducible assumption) | assumption)
                              have q16 : (x6_2 : Int) < ((x4_2.length : Int) : Int) := of_decide_eq_true (by first | (with_reducible assumption) | assumption)
                              obtain ⟨go16, co16, eo16, gb16, gl16, cl16, HG16⟩ := Kd.R_form HO_4.out (by omega)
                              (first | cases eo16 | (injection eo16 with ea_ en_ ec_; (first | subst ea_ | (injection ea_ with ea_; subst ea_)); subst ec_; clear en_))
                              have GB16 := Aside0.mk gb16
                              have GG16 := Aside0.mk HG16
                              clear gb16 gl16 HG16
                              (first | simp only [add_plain] at hx210_0 | skip)
                              obtain ⟨hx16_0, hf16_0⟩ := Kd.R_celln 0 HO_4.out (x6_2 : Int) p16 q16
                              replace p16 := eq_true p16
                              replace q16 := eq_true q16
                              have HP18 := Kd.R_putg HO_4.out (x6_2 : Int) (wrap64 (x16_1 + 1))
                              go_wp2_with (first | ((with_reducible refine gate_store (t := 3) (p := 39) rfl ?_); refine store_event (t := 3) (p := 39) (v := ?vo_w19) (w1 := (wr.setCell ⟨go16, (x6_2 : Int).toNat, none⟩ (.int .i64 (wrap64 (x16_1 + 1))))) ?hg ?ho ?hn ?hr ?_; (case ho => rfl); (case hg => rfl); (case hn => rfl); (case hr => first | (go_simp; done) | (go_simp; rfl)); intro w19 hw; have hg : wr.grownBy w19 (some go16) := (by rw [hw]; exact HP18.2); have hp_ : Kd.R (Kd.int .i64) 3 w19 w.heap.size (fun _ => True) (.slice (some ⟨go16, 0, none⟩) x4_2.length co17) y211 := (by rw [hw, Ny211.out]; exact HP18.1); clear HP18; have n0_ := Aside0.mk (Kd.R_over' (v := (.slice (some ⟨go16, 0, none⟩) x4_2.length co17)) (by (with_reducible repeat (first | apply Kd.R_alloc | apply Kd.R_drewN | apply Kd.R_drew)); exact HO_3.out) (Kd.R_typed HO_4.out) (by decide) hg); have n1_ := Aside0.mk (hp_); have n2_ := Aside0.mk ((by rw [hw]; exact below_set (HB.out) GB16.out : Below w.heap.size w w19)); clear HO_3; clear HO_4; clear HB; have HO_3 := n0_; have HO_4 := n1_; have HB := n2_; clear n0_ n1_ n2_; clear hg hw hp_; have p212 : 0 ≤ (x6_2 : Int) := of_decide_eq_true (by first | (with_reducible assumption) | assumption); have q212 : x6_2 < (l0.length : Int) := of_decide_eq_true (by first | (with_reducible assumption) | assumption); obtain ⟨ad212, e212, hx212_0⟩ := Kd.at_int HR0.out x6_2 p212 q212; cases e212; replace hx212_0 := (HB.out.cell (World.block_lt_of_cell? w _ hx212_0)).trans hx212_0; replace p212 := eq_true p212; replace q212 := eq_true q212))
                              go_roundg k2
                              case measure => have := HK1.out; have := HK2.out; omega
                              case rel => exact ⟨(y211), (rd l0 x6_2), (by first | rfl | (simp; done) | (simp [*]; done)), H', ⟨by have := HK1.out; have := HK2.out; omega⟩, ⟨by (with_reducible repeat (first | apply Kd.R_alloc | apply Kd.R_drewN | apply Kd.R_drew)); exact HO_3.out⟩, ⟨by (with_reducible repeat (first | apply Kd.R_alloc | apply Kd.R_drewN | apply Kd.R_drew)); exact HO_4.out⟩, ⟨by repeat (first | (with_reducible first | exact HB.out | apply below_alloc | apply pw_below_drewN | apply below_drew1) | exact HB.out)⟩⟩
                            · rw [if_neg c15] at H
                              have c15b0 : ((rd x4_2 x6_2) == 0) = false := beq_eq_false_iff_ne.mpr c15
                              have c15b1 : ((rd x4_2 x6_2) != 0) = true := bne_iff_ne.mpr c15
                              have H' := Aside0.mk H
                              clear H
                              obtain ⟨Ao20, co20, eo20⟩ := Kd.R_slice HO_4.out
                              subst eo20
                              have p210 : 0 ≤ (x6_2 : Int) := of_decide_eq_true (by first | (with_reducible assumption) | assumption)
                              have q210 : x6_2 < (x4_2.length : Int) := of_decide_eq_true (by first | (with_reducible assumption) | assumption)
                              obtain ⟨ad210, e210, hx210_0⟩ := Kd.at_int (Kd.R_reads' HO_4.out).2.2 x6_2 p210 q210
                              cases e210
                              replace p210 := eq_true p210
                              replace q210 := eq_true q210
                              go_wp2
                              go_meet
                              case rel => exact ⟨_, (x4_2), (x6_2), (by first | rfl | (simp; done) | (simp [*]; done)), H', ⟨by have := HK1.out; have := HK2.out; first | omega | exact Nat.le_refl _⟩, ⟨by (with_reducible repeat (first | apply Kd.R_alloc | apply Kd.R_drewN | apply Kd.R_drew)); exact HO_3.out⟩, ⟨by (with_reducible repeat (first | apply Kd.R_alloc | apply Kd.R_drewN | apply Kd.R_drew)); exact HO_4.out⟩, ⟨by repeat (first | (with_reducible first | exact HB.out | apply below_alloc | apply pw_below_drewN | apply below_drew1) | exact HB.out)⟩⟩
                          · rw [if_neg c14] at H
                            exact absurd H (by simp)
                        · rw [if_neg c13] at H
                          exact absurd H (by simp)
                      · rw [if_neg c12] at H
                        have c12b0 : decide (x6_2 < (l0.length : Int)) = false := decide_eq_false c12
                        clear c12
                        have H' := Aside0.mk H
                        clear H
                        go_wp2
                        go_meet
                        case rel => exact ⟨_, (x4_2), (x6_2), (by first | rfl | (simp; done) | (simp [*]; done)), H', ⟨by have := HK1.out; have := HK2.out; first | omega | exact Nat.le_refl _⟩, ⟨by (with_reducible repeat (first | apply Kd.R_alloc | apply Kd.R_drewN | apply Kd.R_drew)); exact HO_3.out⟩, ⟨by (with_reducible repeat (first | apply Kd.R_alloc | apply Kd.R_drewN | apply Kd.R_drew)); exact HO_4.out⟩, ⟨by repeat (first | (with_reducible first | exact HB.out | apply below_alloc | apply pw_below_drewN | apply below_drew1) | exact HB.out)⟩⟩
                    · rw [if_neg c11] at H
                      have c11b0 : decide (0 ≤ x6_2) = false := decide_eq_false c11
                      clear c11
                      (first | rw [c11b0] | (simp only [i64_w, i32_w]; rw [c11b0]) | skip)
                      have H' := Aside0.mk H
                      clear H
                      go_wp2
                      go_meet
                      case rel => exact ⟨_, (x4_2), (x6_2), (by first | rfl | (simp; done) | (simp [*]; done)), H', ⟨by have := HK1.out; have := HK2.out; first | omega | exact Nat.le_refl _⟩, ⟨by (with_reducible repeat (first | apply Kd.R_alloc | apply Kd.R_drewN | apply Kd.R_drew)); exact HO_3.out⟩, ⟨by (with_reducible repeat (first | apply Kd.R_alloc | apply Kd.R_drewN | apply Kd.R_drew)); exact HO_4.out⟩, ⟨by repeat (first | (with_reducible first | exact HB.out | apply below_alloc | apply pw_below_drewN | apply below_drew1) | exact HB.out)⟩⟩
              case rest =>
                clear HC10
                try clear c1
                try clear p1
                try clear q1
                try clear hx1
                try clear hf1
                try clear c2
                try clear c2b0
                try clear c2b1
                try clear p2
                try clear q2
                try clear hx2
                try clear c3
                try clear c3b0
                try clear c3b1
                try clear c4
                try clear c4b0
                try clear c4b1
                try clear p6
                try clear c9
                try clear c9b0
                try clear c11
                try clear c11b0
                try clear c12
                try clear c12b0
                try clear c13
                try clear c13b0
                try clear c14
                try clear c14b0
                try clear c15
                try clear c15b0
                try clear c15b1
                try clear p16
                try clear q16
                try clear hx16
                try clear hf16
                try clear hx16_0
                try clear hx210_0
                try clear hx212_0
                try clear p16
                try clear p2
                try clear p210
                try clear p212
                try clear q16
                try clear q210
                try clear q212
                obtain ⟨kq, x4_9, x6_9, rfl, HA, HJ9, HO_3, HO_4, HB⟩ := hcut
                cases kq with
                | zero => exact absurd HA.out (by simp [corpus_cycles.j2])
                | succ kj9 =>
                  have H := HA.out
                  clear HA
                  simp only [corpus_cycles.j2] at H
                  have HC21 := Aside0.mk H
                  clear H
                  go_upto_region 10 with (fail)
                  go_cut [66] (fun v66 wc => ∃ (kq : Nat) (x66_20 : Bool), v66 = .bool x66_20 ∧ Aside0 (corpus_cycles.j3 kq l0 x3_1 x4_9 x6_9 (l0.length : Int) x16_1 x66_20 = some r) ∧ Aside0 (kq ≤ kj9) ∧ Aside0 (Kd.R Kd.bool 4 wc w.heap.size (fun _ => True) v205 x3_1) ∧ Aside0 (Kd.R (Kd.int .i64) 3 wc w.heap.size (fun _ => True) v208 x4_9) ∧ Aside0 (Below w.heap.size w wc))
                  case first =>
                    have H := HC21.out
                    clear HC21
                    by_cases c22 : x6_9 < 0
                    · rw [if_pos c22] at H
                      have c22b0 : decide (x6_9 < 0) = true := decide_eq_true c22
                      clear c22
                      (first | rw [c22b0] | (simp only [i64_w, i32_w]; rw [c22b0]) | skip)
                      have H' := Aside0.mk H
                      clear H
                      go_wp2
                      go_meet
                      case rel => exact ⟨_, (true), (by first | rfl | (simp; done) | (simp [*]; done)), H', ⟨by have := HK1.out; have := HJ9.out; first | omega | exact Nat.le_refl _⟩, ⟨by (with_reducible repeat (first | apply Kd.R_alloc | apply Kd.R_drewN | apply Kd.R_drew)); exact HO_3.out⟩, ⟨by (with_reducible repeat (first | apply Kd.R_alloc | apply Kd.R_drewN | apply Kd.R_drew)); exact HO_4.out⟩, ⟨by repeat (first | (with_reducible first | exact HB.out | apply below_alloc | apply pw_below_drewN | apply below_drew1) | exact HB.out)⟩⟩
                    · rw [if_neg c22] at H
                      have c22b0 : decide (x6_9 < 0) = false := decide_eq_false c22
                      clear c22
                      (first | rw [c22b0] | (simp only [i64_w, i32_w]; rw [c22b0]) | skip)
                      by_cases c23 : x6_9 ≥ (l0.length : Int)
                      · rw [if_pos c23] at H
                        have c23b0 : decide ((l0.length : Int) ≤ x6_9) = true := decide_eq_true c23
                        clear c23
                        have H' := Aside0.mk H
                        clear H
                        go_wp2
                        go_meet
                        case rel => exact ⟨_, (true), (by first | rfl | (simp; done) | (simp [*]; done)), H', ⟨by have := HK1.out; have := HJ9.out; first | omega | exact Nat.le_refl _⟩, ⟨by (with_reducible repeat (first | apply Kd.R_alloc | apply Kd.R_drewN | apply Kd.R_drew)); exact HO_3.out⟩, ⟨by (with_reducible repeat (first | apply Kd.R_alloc | apply Kd.R_drewN | apply Kd.R_drew)); exact HO_4.out⟩, ⟨by repeat (first | (with_reducible first | exact HB.out | apply below_alloc | apply pw_below_drewN | apply below_drew1) | exact HB.out)⟩⟩
                      · rw [if_neg c23] at H
                        have c23b0 : decide ((l0.length : Int) ≤ x6_9) = false := decide_eq_false c23
                        clear c23
                        by_cases c24 : 0 ≤ x6_9
                        · rw [if_pos c24] at H
                          have c24b0 : decide (0 ≤ x6_9) = true := decide_eq_true c24
                          clear c24
                          by_cases c25 : x6_9 < (x4_9.length : Int)
                          · rw [if_pos c25] at H
                            have c25b0 : decide (x6_9 < (x4_9.length : Int)) = true := decide_eq_true c25
                            clear c25
                            by_cases c26 : (rd x4_9 x6_9) = (wrap64 (x16_1 + 1))
                            · rw [if_pos c26] at H
                              have c26b0 : ((rd x4_9 x6_9) == (wrap64 (x16_1 + 1))) = true := beq_iff_eq.mpr c26
                              have c26b1 : ((rd x4_9 x6_9) != (wrap64 (x16_1 + 1))) = false := bne_eq_false_iff_eq.mpr c26
                              clear c26
                              by_cases c27 : x6_9 < (x3_1.length : Int)
                              · rw [if_pos c27] at H
                                have c27b0 : decide (x6_9 < (x3_1.length : Int)) = true := decide_eq_true c27
                                clear c27
                                have H' := Aside0.mk H
                                clear H
                                obtain ⟨Ao28, co28, eo28⟩ := Kd.R_slice HO_4.out
                                subst eo28
                                have p213 : 0 ≤ (x6_9 : Int) := of_decide_eq_true (by first | (with_reducible assumption) | assumption)
                                have q213 : x6_9 < (x4_9.length : Int) := of_decide_eq_true (by first | (with_reducible assumption) | assumption)
                                obtain ⟨ad213, e213, hx213_0⟩ := Kd.at_int (Kd.R_reads' HO_4.out).2.2 x6_9 p213 q213
                                cases e213
                                replace p213 := eq_true p213
                                replace q213 := eq_true q213
                                obtain ⟨Ao29, co29, eo29⟩ := Kd.R_slice HO_3.out
                                subst eo29
                                have p214 : 0 ≤ (x6_9 : Int) := of_decide_eq_true (by first | (with_reducible assumption) | assumption)
                                have q214 : x6_9 < (x3_1.length : Int) := of_decide_eq_true (by first | (with_reducible assumption) | assumption)
                                obtain ⟨ad214, e214, hx214_0⟩ := Kd.at_bool (Kd.R_reads' HO_3.out).2.2 x6_9 p214 q214
                                cases e214
                                replace p214 := eq_true p214
                                replace q214 := eq_true q214
                                go_wp2
                                go_meet
                                case rel => exact ⟨_, (rdOf false x3_1 x6_9), (by first | rfl | (simp; done) | (simp [*]; done)), H', ⟨by have := HK1.out; have := HJ9.out; first | omega | exact Nat.le_refl _⟩, ⟨by (with_reducible repeat (first | apply Kd.R_alloc | apply Kd.R_drewN | apply Kd.R_drew)); exact HO_3.out⟩, ⟨by (with_reducible repeat (first | apply Kd.R_alloc | apply Kd.R_drewN | apply Kd.R_drew)); exact HO_4.out⟩, ⟨by repeat (first | (with_reducible first | exact HB.out | apply below_alloc | apply pw_below_drewN | apply below_drew1) | exact HB.out)⟩⟩
                              · rw [if_neg c27] at H
                                exact absurd H (by simp)
                            · rw [if_neg c26] at H
                              have c26b0 : ((rd x4_9 x6_9) == (wrap64 (x16_1 + 1))) = false := beq_eq_false_iff_ne.mpr c26
                              have c26b1 : ((rd x4_9 x6_9) != (wrap64 (x16_1 + 1))) = true := bne_iff_ne.mpr c26
                              have H' := Aside0.mk H
                              clear H
                              obtain ⟨Ao30, co30, eo30⟩ := Kd.R_slice HO_4.out
                              subst eo30
                              have p213 : 0 ≤ (x6_9 : Int) := of_decide_eq_true (by first | (with_reducible assumption) | assumption)
                              have q213 : x6_9 < (x4_9.length : Int) := of_decide_eq_true (by first | (with_reducible assumption) | assumption)
                              obtain ⟨ad213, e213, hx213_0⟩ := Kd.at_int (Kd.R_reads' HO_4.out).2.2 x6_9 p213 q213
                              cases e213
                              replace p213 := eq_true p213
                              replace q213 := eq_true q213
                              go_wp2
                              go_meet
                              case rel => exact ⟨_, (true), (by first | rfl | (simp; done) | (simp [*]; done)), H', ⟨by have := HK1.out; have := HJ9.out; first | omega | exact Nat.le_refl _⟩, ⟨by (with_reducible repeat (first | apply Kd.R_alloc | apply Kd.R_drewN | apply Kd.R_drew)); exact HO_3.out⟩, ⟨by (with_reducible repeat (first | apply Kd.R_alloc | apply Kd.R_drewN | apply Kd.R_drew)); exact HO_4.out⟩, ⟨by repeat (first | (with_reducible first | exact HB.out | apply below_alloc | apply pw_below_drewN | apply below_drew1) | exact HB.out)⟩⟩
                          · rw [if_neg c25] at H
                            exact absurd H (by simp)
                        · rw [if_neg c24] at H
                          exact absurd H (by simp)
                  case rest =>
                    clear HC21
                    try clear c1
                    try clear p1
                    try clear q1
                    try clear hx1
                    try clear hf1
                    try clear c2
                    try clear c2b0
                    try clear c2b1
                    try clear p2
                    try clear q2
                    try clear hx2
                    try clear c3
                    try clear c3b0
                    try clear c3b1
                    try clear c4
                    try clear c4b0
                    try clear c4b1
                    try clear p6
                    try clear c9
                    try clear c9b0
                    try clear c11
                    try clear c11b0
                    try clear c12
                    try clear c12b0
                    try clear c13
                    try clear c13b0
                    try clear c14
                    try clear c14b0
                    try clear c15
                    try clear c15b0
                    try clear c15b1
                    try clear p16
                    try clear q16
                    try clear hx16
                    try clear hf16
                    try clear p21
                    try clear q21
                    try clear hx21
                    try clear c22
                    try clear c22b0
                    try clear c23
                    try clear c23b0
                    try clear c24
                    try clear c24b0
                    try clear c25
                    try clear c25b0
                    try clear c26
                    try clear c26b0
                    try clear c26b1
                    try clear c27
                    try clear c27b0
                    try clear hx16_0
                    try clear hx210_0
                    try clear hx212_0
                    try clear hx213_0
                    try clear hx214_0
                    try clear p1
                    try clear p16
                    try clear p2
                    try clear p210
                    try clear p212
                    try clear p213
                    try clear p214
                    try clear p6
                    try clear q1
                    try clear q16
                    try clear q2
                    try clear q210
                    try clear q212
                    try clear q213
                    try clear q214
                    obtain ⟨kq, x66_20, rfl, HA, HJ20, HO_3, HO_4, HB⟩ := hcut
                    cases kq with
                    | zero => exact absurd HA.out (by simp [corpus_cycles.j3])
                    | succ kj20 =>
                      have H := HA.out
                      clear HA
                      simp only [corpus_cycles.j3] at H
                      by_cases c31 : x66_20 = true
                      · subst c31
                        have H1 : (corpus_cycles.l0 kj20 l0 x3_1 x4_9 (l0.length : Int) (wrap64 (x16_1 + 1))) = some r := by rw [if_pos rfl] at H; exact H
                        clear H
                        have H := H1
                        clear H1
                        have H' := Aside0.mk H
                        clear H
                        go_wp2
                        go_roundg kj20
                        case measure => have := HK1.out; have := HJ9.out; have := HJ20.out; omega
                        case rel => exact ⟨(x3_1), (x4_9), (wrap64 (x16_1 + 1)), (by first | rfl | (simp; done) | (simp [*]; done)), H', ⟨by have := HK1.out; have := HJ9.out; have := HJ20.out; omega⟩, ⟨by (with_reducible repeat (first | apply Kd.R_alloc | apply Kd.R_drewN | apply Kd.R_drew)); exact HO_3.out⟩, ⟨by (with_reducible repeat (first | apply Kd.R_alloc | apply Kd.R_drewN | apply Kd.R_drew)); exact HO_4.out⟩, ⟨by repeat (first | (with_reducible first | exact HB.out | apply below_alloc | apply pw_below_drewN | apply below_drew1) | exact HB.out)⟩⟩
                      · replace c31 := Bool.eq_false_iff.mpr c31
                        subst c31
                        have H1 : (corpus_cycles.l2 kj20 l0 x3_1 x4_9 x6_9 (l0.length : Int) x16_1) = some r := by rw [if_neg (show ¬ (false = true) by decide)] at H; exact H
                        clear H
                        have H := H1
                        clear H1
                        have H' := Aside0.mk H
                        clear H
                        go_wp2
                        go_loopg [7] kj20 (fun kq v7 w' => ∃ (x3_4 : List Bool) (x7_4 : Int), v7 = .int .i64 x7_4 ∧ Aside0 (corpus_cycles.l2 kq l0 x3_4 x4_9 x7_4 (l0.length : Int) x16_1 = some r) ∧ Aside0 (kq ≤ kj20) ∧ Aside0 (Kd.R Kd.bool 4 w' w.heap.size (fun _ => True) v205 x3_4) ∧ Aside0 (Kd.R (Kd.int .i64) 3 w' w.heap.size (fun _ => True) v208 x4_9) ∧ Aside0 (Below w.heap.size w w'))
                        case atStart => exact ⟨(x3_1), (x6_9), (by first | rfl | (simp; done) | (simp [*]; done)), H', ⟨Nat.le_refl _⟩, ⟨by (with_reducible repeat (first | apply Kd.R_alloc | apply Kd.R_drewN | apply Kd.R_drew)); exact HO_3.out⟩, ⟨by (with_reducible repeat (first | apply Kd.R_alloc | apply Kd.R_drewN | apply Kd.R_drew)); exact HO_4.out⟩, ⟨by repeat (first | (with_reducible first | exact HB.out | apply below_alloc | apply pw_below_drewN | apply below_drew1) | exact HB.out)⟩⟩
                        case round =>
                          clear H'
                          try clear c1
                          try clear p1
                          try clear q1
                          try clear hx1
                          try clear hf1
                          try clear c2
                          try clear c2b0
                          try clear c2b1
                          try clear p2
                          try clear q2
                          try clear hx2
                          try clear c3
                          try clear c3b0
                          try clear c3b1
                          try clear c4
                          try clear c4b0
                          try clear c4b1
                          try clear p6
                          try clear c9
                          try clear c9b0
                          try clear c11
                          try clear c11b0
                          try clear c12
                          try clear c12b0
                          try clear c13
                          try clear c13b0
                          try clear c14
                          try clear c14b0
                          try clear c15
                          try clear c15b0
                          try clear c15b1
                          try clear p16
                          try clear q16
                          try clear hx16
                          try clear hf16
                          try clear p21
                          try clear q21
                          try clear hx21
                          try clear c22
                          try clear c22b0
                          try clear c23
                          try clear c23b0
                          try clear c24
                          try clear c24b0
                          try clear c25
                          try clear c25b0
                          try clear c26
                          try clear c26b0
                          try clear c26b1
                          try clear c27
                          try clear c27b0
                          try clear c31
                          try clear hx16_0
                          try clear hx210_0
                          try clear hx212_0
                          try clear hx213_0
                          try clear hx214_0
                          try clear p1
                          try clear p16
                          try clear p2
                          try clear p21
                          try clear p210
                          try clear p212
                          try clear p213
                          try clear p214
                          try clear p6
                          try clear q1
                          try clear q16
                          try clear q2
                          try clear q21
                          try clear q210
                          try clear q212
                          try clear q213
                          try clear q214
                          obtain ⟨x3_4, x7_4, rfl, HA, HK4, HO_3, HO_4, HB⟩ := hrel
                          cases gk with
                          | zero => exact absurd HA.out (by simp [corpus_cycles.l2])
                          | succ k4 =>
                            have H := HA.out
                            clear HA
                            simp only [corpus_cycles.l2] at H
                            by_cases c32 : 0 ≤ x7_4
                            · rw [if_pos c32] at H
                              have c32b0 : decide (0 ≤ x7_4) = true := decide_eq_true c32
                              clear c32
                              by_cases c33 : x7_4 < (x3_4.length : Int)
                              · rw [if_pos c33] at H
                                have c33b0 : decide (x7_4 < (x3_4.length : Int)) = true := decide_eq_true c33
                                clear c33
                                obtain ⟨bq34, hbq34⟩ : ∃ b_ : Bool, b_ = (rdOf false x3_4 x7_4) := ⟨_, rfl⟩
                                replace H : (if bq34 = true then (corpus_cycles.l0 k4 l0 x3_4 x4_9 (l0.length : Int) (wrap64 (x16_1 + 1))) else (if x7_4 < (l0.length : Int) then (corpus_cycles.l2 k4 l0 (x3_4.set (x7_4 : Int).toNat true) x4_9 (rd l0 x7_4) (l0.length : Int) x16_1) else (none))) = some r := by rw [← hbq34] at H; exact H
                                have Nbq34 := Aside0.mk hbq34
                                clear hbq34
                                by_cases c35 : bq34 = true
                                · subst c35
                                  have H1 : (corpus_cycles.l0 k4 l0 x3_4 x4_9 (l0.length : Int) (wrap64 (x16_1 + 1))) = some r := by rw [if_pos rfl] at H; exact H
                                  clear H
                                  have H := H1
                                  clear H1
                                  have H' := Aside0.mk H
                                  clear H
                                  obtain ⟨Ao36, co36, eo36⟩ := Kd.R_slice HO_3.out
                                  subst eo36
                                  have p215 : 0 ≤ (x7_4 : Int) := of_decide_eq_true (by first | (with_reducible assumption) | assumption)
                                  have q215 : x7_4 < (x3_4.length : Int) := of_decide_eq_true (by first | (with_reducible assumption) | assumption)
                                  obtain ⟨ad215, e215, hx215_0⟩ := Kd.at_bool (Kd.R_reads' HO_3.out).2.2 x7_4 p215 q215
                                  (try rw [← Nbq34.out] at hx215_0)
                                  cases e215
                                  replace p215 := eq_true p215
                                  replace q215 := eq_true q215
                                  go_wp2
                                  go_roundg k4
                                  case measure => have := HK1.out; have := HJ9.out; have := HJ20.out; have := HK4.out; omega
                                  case rel => exact ⟨(x3_4), (x4_9), (wrap64 (x16_1 + 1)), (by first | rfl | (simp; done) | (simp [*]; done)), H', ⟨by have := HK1.out; have := HJ9.out; have := HJ20.out; have := HK4.out; omega⟩, ⟨by (with_reducible repeat (first | apply Kd.R_alloc | apply Kd.R_drewN | apply Kd.R_drew)); exact HO_3.out⟩, ⟨by (with_reducible repeat (first | apply Kd.R_alloc | apply Kd.R_drewN | apply Kd.R_drew)); exact HO_4.out⟩, ⟨by repeat (first | (with_reducible first | exact HB.out | apply below_alloc | apply pw_below_drewN | apply below_drew1) | exact HB.out)⟩⟩
                                · replace c35 := Bool.eq_false_iff.mpr c35
                                  subst c35
                                  have H1 : (if x7_4 < (l0.length : Int) then (corpus_cycles.l2 k4 l0 (x3_4.set (x7_4 : Int).toNat true) x4_9 (rd l0 x7_4) (l0.length : Int) x16_1) else (none)) = some r := by rw [if_neg (show ¬ (false = true) by decide)] at H; exact H
                                  clear H
                                  have H := H1
                                  clear H1
                                  obtain ⟨y216, hy216⟩ : ∃ y_ : List Bool, y_ = (x3_4.set (x7_4 : Int).toNat true) := ⟨_, rfl⟩
                                  replace H : (if x7_4 < (l0.length : Int) then (corpus_cycles.l2 k4 l0 y216 x4_9 (rd l0 x7_4) (l0.length : Int) x16_1) else (none)) = some r := by first | (rw [hy216]; with_reducible exact H) | (have H2_ := (Option.bind_some _ _).symm.trans H; rw [hy216]; with_reducible exact H2_) | (have H2_ := (Option.bind_some _ _).symm.trans H; with_reducible exact H2_) | with_reducible exact H | (rw [hy216]; exact H) | exact H
                                  have Ny216 := Aside0.mk hy216
                                  clear hy216
                                  by_cases c38 : x7_4 < (l0.length : Int)
                                  · rw [if_pos c38] at H
                                    have c38b0 : decide (x7_4 < (l0.length : Int)) = true := decide_eq_true c38
                                    clear c38
                                    have H' := Aside0.mk H
                                    clear H
                                    obtain ⟨Ao39, co39, eo39⟩ := Kd.R_slice HO_3.out
                                    subst eo39
                                    have p215 : 0 ≤ (x7_4 : Int) := of_decide_eq_true (by first | (with_reducible assumption) | assumption)
                                    have q215 : x7_4 < (x3_4.length : Int) := of_decide_eq_true (by first | (with_reducible assumption) | assumption)
                                    obtain ⟨ad215, e215, hx215_0⟩ := Kd.at_bool (Kd.R_reads' HO_3.out).2.2 x7_4 p215 q215
                                    (try rw [← Nbq34.out] at hx215_0)
                                    cases e215
                                    replace p215 := eq_true p215
                                    replace q215 := eq_true q215
                                    have p37 : 0 ≤ (x7_4 : Int) := of_decide_eq_true (by first | (with_reducible assumption) | assumption)
                                    have q37 : (x7_4 : Int) < ((x3_4.length : Int) : Int) := of_decide_eq_true (by first | (with_reducible assumption) | assumption)
                                    obtain ⟨go37, co37, eo37, gb37, gl37, cl37, HG37⟩ := Kd.R_form HO_3.out (by omega)
                                    (first | cases eo37 | (injection eo37 with ea_ en_ ec_; (first | subst ea_ | (injection ea_ with ea_; subst ea_)); subst ec_; clear en_))
                                    have GB37 := Aside0.mk gb37
                                    have GG37 := Aside0.mk HG37
                                    clear gb37 gl37 HG37
                                    (first | simp only [add_plain] at hx215_0 | skip)
                                    obtain ⟨hx37_0, hf37_0⟩ := Kd.R_celln false HO_3.out (x7_4 : Int) p37 q37
                                    replace p37 := eq_true p37
                                    replace q37 := eq_true q37
                                    have HP40 := Kd.R_putg HO_3.out (x7_4 : Int) true
                                    go_wp2_with (first | ((with_reducible refine gate_store (t := 4) (p := 79) rfl ?_); refine store_event (t := 4) (p := 79) (v := ?vo_w41) (w1 := (wr.setCell ⟨go37, (x7_4 : Int).toNat, none⟩ (.bool true))) ?hg ?ho ?hn ?hr ?_; (case ho => rfl); (case hg => rfl); (case hn => rfl); (case hr => first | (go_simp; done) | (go_simp; rfl)); intro w41 hw; have hg : wr.grownBy w41 (some go37) := (by rw [hw]; exact HP40.2); have hp_ : Kd.R Kd.bool 4 w41 w.heap.size (fun _ => True) (.slice (some ⟨go37, 0, none⟩) x3_4.length co39) y216 := (by rw [hw, Ny216.out]; exact HP40.1); clear HP40; have n0_ := Aside0.mk (hp_); have n1_ := Aside0.mk (Kd.R_over' (v := (.slice (some ⟨go37, 0, none⟩) x3_4.length co39)) (by (with_reducible repeat (first | apply Kd.R_alloc | apply Kd.R_drewN | apply Kd.R_drew)); exact HO_4.out) (Kd.R_typed HO_3.out) (by decide) hg); have n2_ := Aside0.mk ((by rw [hw]; exact below_set (HB.out) GB37.out : Below w.heap.size w w41)); clear HO_3; clear HO_4; clear HB; have HO_3 := n0_; have HO_4 := n1_; have HB := n2_; clear n0_ n1_ n2_; clear hg hw hp_; have p217 : 0 ≤ (x7_4 : Int) := of_decide_eq_true (by first | (with_reducible assumption) | assumption); have q217 : x7_4 < (l0.length : Int) := of_decide_eq_true (by first | (with_reducible assumption) | assumption); obtain ⟨ad217, e217, hx217_0⟩ := Kd.at_int HR0.out x7_4 p217 q217; cases e217; replace hx217_0 := (HB.out.cell (World.block_lt_of_cell? w _ hx217_0)).trans hx217_0; replace p217 := eq_true p217; replace q217 := eq_true q217))
                                    go_roundg k4
                                    case measure => have := HK1.out; have := HJ9.out; have := HJ20.out; have := HK4.out; omega
                                    case rel => exact ⟨(y216), (rd l0 x7_4), (by first | rfl | (simp; done) | (simp [*]; done)), H', ⟨by have := HK1.out; have := HJ9.out; have := HJ20.out; have := HK4.out; omega⟩, ⟨by (with_reducible repeat (first | apply Kd.R_alloc | apply Kd.R_drewN | apply Kd.R_drew)); exact HO_3.out⟩, ⟨by (with_reducible repeat (first | apply Kd.R_alloc | apply Kd.R_drewN | apply Kd.R_drew)); exact HO_4.out⟩, ⟨by repeat (first | (with_reducible first | exact HB.out | apply below_alloc | apply pw_below_drewN | apply below_drew1) | exact HB.out)⟩⟩
                                  · rw [if_neg c38] at H
                                    exact absurd H (by simp)
                              · rw [if_neg c33] at H
                                exact absurd H (by simp)
                            · rw [if_neg c32] at H
                              exact absurd H (by simp)
            · rw [if_neg c9] at H
              have c9b0 : decide (x16_1 < (l0.length : Int)) = false := decide_eq_false c9
              clear c9
              obtain rfl := Option.some.inj H
              go_wp2
              go_ret
              exact ⟨_, by first | rfl | (simp [errW_none, errW_some] <;> rfl) | (simp [*, errW_none, errW_some] <;> rfl), by (with_reducible repeat (first | apply Kd.R_alloc | apply Kd.R_drewN | apply Kd.R_drew)); exact HO_3.out, by repeat (first | (with_reducible first | exact HB.out | apply below_alloc | apply pw_below_drewN | apply below_drew1) | exact HB.out)⟩
      · rw [if_neg c4] at H
        exact absurd H (by simp)
    · rw [if_neg c3] at H
      exact absurd H (by simp)
  · rw [if_neg c2] at H
    exact absurd H (by simp)

end Go.Proofs.YtebajpebongabaaDoor.P
