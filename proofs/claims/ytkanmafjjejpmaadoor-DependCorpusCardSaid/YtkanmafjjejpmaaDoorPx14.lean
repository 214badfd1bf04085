-- Written by a program of this session (wip/doprint.sh) out of the translation; Lean checks it.
import Derived.Test.YtkanmafjjejpmaaDoorPx0
namespace Go.Proofs.YtkanmafjjejpmaaDoor.P
open Go.Proofs.YtkanmafjjejpmaaDoor.S
open Go.Proofs.YtkanmafjjejpmaaDoor.X
open Go.RowKit Go.Proofs.YtkanmafjjejpmaaDoorW.PrintWords Go.Proofs.YtkanmafjjejpmaaDoorW.PrintLast Go.Proofs.YtkanmafjjejpmaaDoorW.PrintMore
attribute [local go_sem] max2_int min2_int max_two min_two max_three min_three max_four min_four   -- for this text's walks alone
set_option linter.unusedVariables false
set_option linter.unusedSimpArgs false

/-! ### depend_way: function 38 -/
def depend_way.l0 : Nat → List Int → Int → List Int → Option (List Int)
  | 0, _, _, _ => none
  | k + 1, x0, x1, x5 => if x1 ≥ 0 then (if x5.length < 17592186044416 then (if 0 ≤ x1 then (if x1 < (x0.length : Int) then (depend_way.l0 k x0 (rd x0 x1) (x5 ++ [x1])) else (none)) else (none)) else (none)) else (some x5)
def depend_way.f (k : Nat) (l0 : List Int) (a1 : Int) : Option (List Int) := depend_way.l0 k l0 a1 ([] : List Int)
theorem depend_way.mono_l : ∀ k, (∀ y0 y1 y2, LeO (depend_way.l0 k y0 y1 y2) (depend_way.l0 (k + 1) y0 y1 y2))
 | 0 => fun _ _ _ r h => by simp [depend_way.l0] at h
 | k + 1 => by
  have ih0 := depend_way.mono_l k
  ·
   intro y0 y1 y2
   unfold depend_way.l0
   with_reducible repeat' first | exact ih0 _ _ _ | exact LeO.refl _ | exact LeO.none _ | refine LeO.ite ?_ ?_ | refine LeO.bind ?_ (fun _ => ?_)
theorem depend_way.mono : ∀ a0 a1 k, LeO (depend_way.f k a0 a1) (depend_way.f (k + 1) a0 a1) := by
 intro a0 a1 k
 have ih0 := depend_way.mono_l k
 unfold depend_way.f
 with_reducible repeat' first | exact ih0 _ _ _ | exact LeO.refl _ | exact LeO.none _ | refine LeO.ite ?_ ?_ | refine LeO.bind ?_ (fun _ => ?_)
set_option maxHeartbeats 8000000 in
set_option maxRecDepth 100000 in
theorem depend_way.calls (k : Nat) (A0 : Option Addr) (c0 : Nat) (l0 : List Int) (a1 : Int) (r : List Int) (w : World) (hr0 : Kd.C (Kd.int .i64) w A0 l0.length l0) (hc0 : l0.length ≤ c0) (h : depend_way.f k l0 a1 = some r) :
 Calls Tryd.prog 38 #[.slice A0 l0.length c0, .int .i64 a1] w fun e w' => ∃ v0_ : Value, e = .returned (v0_) ∧ Kd.R (Kd.int .i64) 3 w' w.heap.size (fun _ => True) v0_ r ∧ Below w.heap.size w w' := by
 have HR0 := Aside0.mk hr0
 have HC0 := Aside0.mk hc0
 clear hr0 hc0
 have HB := Aside0.mk (Below.refl w.heap.size w)
 have H : (depend_way.l0 k l0 a1 ([] : List Int)) = some r := h
 clear h
 have H' := Aside0.mk H
 clear H
 go_enter Tryd.func38, Tryd.ntmps38
 go_wp2
 go_loopg [1, 5] k (fun kq v1 v5 w' => ∃ (x1_1 : Int) (x5_1 : List Int), v1 = .int .i64 x1_1 ∧ Aside0 (depend_way.l0 kq l0 x1_1 x5_1 = some r) ∧ Aside0 (kq ≤ k) ∧ Aside0 (Kd.R (Kd.int .i64) 3 w' w.heap.size (fun _ => True) v5 x5_1) ∧ Aside0 (Below w.heap.size w w'))
 case atStart => exact ⟨(a1), (([] : List Int)), (BE), H', ⟨Nat.le_refl _⟩, ⟨by first | exact Kd.R_nil _ _ _ _ _ | exact Kd.N_nil _ _ _ _ _ | exact Kd.V_nil _ _ _ _ _ | exact Kd.Q_nil _ _ _ _ _ | exact Kd.S_nil _ _ _ _ _⟩, ⟨BB⟩⟩
 case round =>
  clear H'
  (try clear p2)
  obtain ⟨x1_1, x5_1, rfl, HA, HK1, HO_5, HB⟩ := hrel
  cases gk with
  | zero => exact absurd HA.out (by simp [depend_way.l0])
  | succ k1 =>
   have H := HA.out
   clear HA
   simp only [depend_way.l0] at H
   by_cases c3 : x1_1 ≥ 0
   ·
    rw [if_pos c3] at H
    have c3b0 : decide (0 ≤ x1_1) = true := decide_eq_true c3
    clear c3
    by_cases c4 : x5_1.length < 17592186044416
    ·
     rw [if_pos c4] at H
     have LMc4 := Aside0.mk c4
     clear c4
     obtain ⟨y211, hy211⟩ : ∃ y_ : List Int, y_ = (x5_1 ++ [x1_1]) := ⟨_, rfl⟩
     replace H : (if 0 ≤ x1_1 then (if x1_1 < (l0.length : Int) then (depend_way.l0 k1 l0 (rd l0 x1_1) y211) else (none)) else (none)) = some r := by first | (rw [hy211]; with_reducible exact H) | (have H2_ := (Option.bind_some _ _).symm.trans H; rw [hy211]; with_reducible exact H2_) | (have H2_ := (Option.bind_some _ _).symm.trans H; with_reducible exact H2_) | with_reducible exact H | (rw [hy211]; exact H) | exact H
     have Ny211 := Aside0.mk hy211
     clear hy211
     by_cases c5 : 0 ≤ x1_1
     ·
      rw [if_pos c5] at H
      have c5b0 : decide (0 ≤ x1_1) = true := decide_eq_true c5
      clear c5
      by_cases c6 : x1_1 < (l0.length : Int)
      ·
       rw [if_pos c6] at H
       have c6b0 : decide (x1_1 < (l0.length : Int)) = true := decide_eq_true c6
       clear c6
       have H' := Aside0.mk H
       clear H
       go_wp2_with (first | ((with_reducible refine gate_builtin (b := .append) (xs := #[.tmp 12, .tmp 14]) rfl ?_); at_builtin; refine Kd.R_append (Kd.int .i64) (w0 := w) w.heap.size rfl (.tmp 12) (.tmp 14) 22 3 (.int .i64 0) 8 rfl Tryd.underlying22 info3 rfl (by decide) (by omega) u5 x5_1 x1_1 [.int .i64 x1_1] (fun _ => True) (fun _ => False) rfl rfl ?aP (fun _ hk => hk.elim) ?aF ?aO ?aB ?aS ?aL ?_; (case aP => exact rfl); (case aB => exact (BB)); (case aF => exact (fun _ _ => trivial)); (case aO => exact (BR HO_5.out)); (case aS => exact (below_size (BB))); (case aL => have := LMc4.out; omega); intro v212 w7 ho hb hg hat; rw [← Ny211.out] at ho; have n0_ := Aside0.mk (hb); have n1_ := Aside0.mk (ho); clear HB; clear HO_5; have HB := n0_; have HO213 := n1_; clear n0_ n1_; clear ho hb hg hat; have p214 : 0 ≤ (x1_1 : Int) := OD; have q214 : x1_1 < (l0.length : Int) := OD; obtain ⟨ad214, e214, hx214_0⟩ := Kd.at_int HR0.out x1_1 p214 q214; cases e214; replace hx214_0 := (HB.out.cell (World.block_lt_of_cell? w _ hx214_0)).trans hx214_0; replace p214 := eq_true p214; replace q214 := eq_true q214))
       go_roundg k1
       case measure => have := HK1.out; omega
       case rel => exact ⟨(rd l0 x1_1), (y211), (BE), H', ⟨by have := HK1.out; omega⟩, ⟨BR HO213.out⟩, ⟨BB⟩⟩
      ·
       rw [if_neg c6] at H
       exact absurd H (by simp)
     ·
      rw [if_neg c5] at H
      exact absurd H (by simp)
    ·
     rw [if_neg c4] at H
     exact absurd H (by simp)
   ·
    rw [if_neg c3] at H
    have c3b0 : decide (0 ≤ x1_1) = false := decide_eq_false c3
    clear c3
    obtain rfl := Option.some.inj H
    go_wp2
    go_ret
    exact ⟨_, BX, by (with_reducible repeat (first | apply Kd.R_alloc | apply Kd.R_drewN | apply Kd.R_drew)); exact HO_5.out, BB⟩

end Go.Proofs.YtkanmafjjejpmaaDoor.P
