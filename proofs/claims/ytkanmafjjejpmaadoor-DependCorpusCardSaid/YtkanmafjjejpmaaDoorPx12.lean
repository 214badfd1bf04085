-- Written by a program of this session (wip/doprint.sh) out of the translation; Lean checks it.
import Derived.Test.YtkanmafjjejpmaaDoorPx0
import Derived.Test.YtkanmafjjejpmaaDoorPx2
import Derived.Test.YtkanmafjjejpmaaDoorPx10
import Derived.Test.YtkanmafjjejpmaaDoorPx11
namespace Go.Proofs.YtkanmafjjejpmaaDoor.P
open Go.Proofs.YtkanmafjjejpmaaDoor.S
open Go.Proofs.YtkanmafjjejpmaaDoor.X
open Go.RowKit Go.Proofs.YtkanmafjjejpmaaDoorW.PrintWords Go.Proofs.YtkanmafjjejpmaaDoorW.PrintLast Go.Proofs.YtkanmafjjejpmaaDoorW.PrintMore
attribute [local go_sem] max2_int min2_int max_two min_two max_three min_three max_four min_four   -- for this text's walks alone
set_option linter.unusedVariables false
set_option linter.unusedSimpArgs false

/-! ### depend_Parse: function 9 -/
mutual
def depend_Parse.j0 : Nat → ByteArray → Int → List Int → List ByteArray → Bool → Option (List Int × List ByteArray × Int × Int × Int)
  | 0, _, _, _, _, _ => none
  | k + 1, x0, x1, x4, x5, x18 => if x18 = true then (some (([] : List Int), ([] : List ByteArray), 0, 0, 1)) else (if (x0.size : Int) > 1048576 then (some (([] : List Int), ([] : List ByteArray), 0, 0, 2)) else (depend_Parse.l0 k x0 x1 x4 x5 ([] : List Int) 0))
def depend_Parse.l0 : Nat → ByteArray → Int → List Int → List ByteArray → List Int → Int → Option (List Int × List ByteArray × Int × Int × Int)
  | 0, _, _, _, _, _, _ => none
  | k + 1, x0, x1, x4, x5, x8, x9 => if x9 < (x0.size : Int) then (if 0 ≤ x9 then (if x9 ≤ (x0.size : Int) then ((strings_Cut.f (x0.extract (x9 : Int).toNat x0.size) (⟨#[10]⟩ : ByteArray)).bind fun bt179 => (if (x4.length : Int) = x1 then ((codepoint_Position.f x0 x9).bind fun bt182 => (some (([] : List Int), ([] : List ByteArray), bt182.1, bt182.2, 15))) else ((depend_line.f k bt179.1 x1).bind fun bt184 => (if bt184.2.2.2 = 0 then (if x4.length < 17592186044416 then (if x5.length < 8796093022208 then (if x8.length < 17592186044416 then (depend_Parse.l0 k x0 x1 (x4 ++ [bt184.1]) (x5 ++ [bt184.2.1]) (x8 ++ [x9]) (wrap64 (x9 + (wrap64 ((bt179.1.size : Int) + 1))))) else (none)) else (none)) else (none)) else ((codepoint_Position.f x0 (wrap64 (x9 + bt184.2.2.1))).bind fun bt198 => (some (([] : List Int), ([] : List ByteArray), bt198.1, bt198.2, bt184.2.2.2))))))) else (none)) else (none)) else (if (x4.length : Int) < x1 then ((codepoint_Position.f x0 (x0.size : Int)).bind fun bt200 => (some (([] : List Int), ([] : List ByteArray), bt200.1, bt200.2, 15))) else ((depend_Check.f k x4).bind fun bt202 => (if bt202.2 = 0 then (some (x4, x5, 0, 0, 0)) else (if 0 ≤ bt202.1 then (if bt202.1 < (x8.length : Int) then ((codepoint_Position.f x0 (rd x8 bt202.1)).bind fun bt205 => (some (([] : List Int), ([] : List ByteArray), bt205.1, bt205.2, bt202.2))) else (none)) else (none)))))
end
def depend_Parse.f (k : Nat) (a0 : ByteArray) (a1 : Int) : Option (List Int × List ByteArray × Int × Int × Int) := if a1 < 0 then (depend_Parse.j0 k a0 a1 ([] : List Int) ([] : List ByteArray) true) else (depend_Parse.j0 k a0 a1 ([] : List Int) ([] : List ByteArray) (decide (a1 > 4096)))
theorem depend_Parse.mono_l : ∀ k, (∀ y0 y1 y2 y3 y4, LeO (depend_Parse.j0 k y0 y1 y2 y3 y4) (depend_Parse.j0 (k + 1) y0 y1 y2 y3 y4)) ∧ (∀ y0 y1 y2 y3 y4 y5, LeO (depend_Parse.l0 k y0 y1 y2 y3 y4 y5) (depend_Parse.l0 (k + 1) y0 y1 y2 y3 y4 y5))
 | 0 => ⟨fun _ _ _ _ _ r h => by simp [depend_Parse.j0] at h, fun _ _ _ _ _ _ r h => by simp [depend_Parse.l0] at h⟩
 | k + 1 => by
  obtain ⟨ih0, ih1⟩ := depend_Parse.mono_l k
  refine ⟨?_, ?_⟩
  ·
   intro y0 y1 y2 y3 y4
   unfold depend_Parse.j0
   with_reducible repeat' first | exact ih0 _ _ _ _ _ | exact ih1 _ _ _ _ _ _ | exact depend_Check.mono _ _ | exact depend_line.mono _ _ _ | exact LeO.refl _ | exact LeO.none _ | refine LeO.ite ?_ ?_ | refine LeO.bind ?_ (fun _ => ?_)
  ·
   intro y0 y1 y2 y3 y4 y5
   unfold depend_Parse.l0
   with_reducible repeat' first | exact ih0 _ _ _ _ _ | exact ih1 _ _ _ _ _ _ | exact depend_Check.mono _ _ | exact depend_line.mono _ _ _ | exact LeO.refl _ | exact LeO.none _ | refine LeO.ite ?_ ?_ | refine LeO.bind ?_ (fun _ => ?_)
theorem depend_Parse.mono : ∀ a0 a1 k, LeO (depend_Parse.f k a0 a1) (depend_Parse.f (k + 1) a0 a1) := by
 intro a0 a1 k
 obtain ⟨ih0, ih1⟩ := depend_Parse.mono_l k
 unfold depend_Parse.f
 with_reducible repeat' first | exact ih0 _ _ _ _ _ | exact ih1 _ _ _ _ _ _ | exact depend_Check.mono _ _ | exact depend_line.mono _ _ _ | exact LeO.refl _ | exact LeO.none _ | refine LeO.ite ?_ ?_ | refine LeO.bind ?_ (fun _ => ?_)
def depend_Parse.T13 : Bool × List (List Nat × List Nat) := (true, [([], []), ([], []), ([], []), ([2], [2]), ([1, 3], [1, 3]), ([0, 4], [0, 4]), ([], []), ([6], [6]), ([5], []), ([8, 8], []), ([5, 9, 0, 1, 2, 3, 4, 5, 8, 9], [5]), ([7, 10, 0, 1, 2, 3, 4, 5, 6, 7, 8, 9, 10], [7])])
def depend_Parse.B13 : List Nat := [0, 0, 0, 4, 14, 31, 0, 64, 63, 319, 831, 2047]
theorem depend_Parse.tab13 : rtab .any (opsOf Tryd.f9 13) = depend_Parse.T13 := by kernel_rfl
theorem depend_Parse.bits13 : waitsOk depend_Parse.T13.2 depend_Parse.B13 = true := by kernel_rfl
set_option maxHeartbeats 8000000 in
set_option maxRecDepth 100000 in
theorem depend_Parse.calls (k : Nat) (a0 : ByteArray) (a1 : Int) (r1 : List Int) (r2 : List ByteArray) (r3 : Int) (r4 : Int) (r5 : Int) (w : World) (h : depend_Parse.f k a0 a1 = some (r1, r2, r3, r4, r5)) :
 Calls Tryd.prog 9 #[.string a0, .int .i64 a1] w fun e w' => ∃ v0_ v1_ : Value, e = .returned (.tuple #[v0_, v1_, .agg #[.int .i64 r3, .int .i64 r4], .int .i64 r5]) ∧ Kd.R (Kd.int .i64) 3 w' w.heap.size (fun _ => True) v0_ r1 ∧ Kd.R Kd.string 9 w' w.heap.size (fun _ => True) v1_ r2 ∧ Below w.heap.size w w' := by
 have hu30 := Tryd.underlying30
 have hu63 := Tryd.underlying63
 have HB := Aside0.mk (Below.refl w.heap.size w)
 have H : (if a1 < 0 then (depend_Parse.j0 k a0 a1 ([] : List Int) ([] : List ByteArray) true) else (depend_Parse.j0 k a0 a1 ([] : List Int) ([] : List ByteArray) (decide (a1 > 4096)))) = some (r1, r2, r3, r4, r5) := h
 clear h
 have HC3 := Aside0.mk H
 clear H
 go_enter Tryd.func9, Tryd.ntmps9
 go_upto_region 1 with (first | ((with_reducible refine gate_dst (N := 6) rfl ?_); refine box_event ?hg (N := 6) ?hd (cs := #[.int .i64 0, .int .i64 0]) (t := 30) ?hr ?_; (case hd => rfl); (case hg => rfl); (case hr => first | (go_simp; done) | (go_simp; rfl)); intro gb178 hg w4 hbox hb; have n0_ := Aside0.mk (below_step (BB) hb); have n1_ := Aside0.mk (hbox); have n2_ := Aside0.mk ((by rw [hg]; exact (below_size (BB)) : w.heap.size ≤ gb178)); have n3_ := Aside0.mk ((by rw [hg]; exact (below_size (BB)) : w.heap.size ≤ gb178)); clear HB; have HB := n0_; have BK178 := n1_; have GW178 := n2_; have GE178 := n3_; clear n0_ n1_ n2_ n3_; clear hb hbox hg))
 (try simp only [Act.put, List.setIfInBounds_toArray, List.set_cons_zero, List.set_cons_succ])
 go_cut [18] (fun v18 wc => ∃ (kq : Nat) (x18_2 : Bool), v18 = .bool x18_2 ∧ Aside0 (depend_Parse.j0 kq a0 a1 ([] : List Int) ([] : List ByteArray) x18_2 = some (r1, r2, r3, r4, r5)) ∧ Aside0 (kq ≤ k) ∧ Aside0 (Kd.R (Kd.int .i64) 3 wc w.heap.size (fun _ => True) (.slice none 0 0) ([] : List Int)) ∧ Aside0 (Kd.R Kd.string 9 wc w.heap.size (fun _ => True) (.slice none 0 0) ([] : List ByteArray)) ∧ Aside0 (wc.heap[gb178]? = some (.cells #[.int .i64 0, .int .i64 0] 30 (0, 0))) ∧ Aside0 (Below w.heap.size w wc))
 case first =>
  have H := HC3.out
  clear HC3
  by_cases c5 : a1 < 0
  ·
   rw [if_pos c5] at H
   have c5b0 : decide (a1 < 0) = true := decide_eq_true c5
   clear c5
   (first | rw [c5b0] | (simp only [i64_w, i32_w]; rw [c5b0]) | skip)
   have H' := Aside0.mk H
   clear H
   go_wp2
   go_meet
   case rel => exact ⟨_, (true), (BE), H', ⟨by first | omega | exact Nat.le_refl _⟩, ⟨by first | exact Kd.R_nil _ _ _ _ _ | exact Kd.N_nil _ _ _ _ _ | exact Kd.V_nil _ _ _ _ _ | exact Kd.Q_nil _ _ _ _ _ | exact Kd.S_nil _ _ _ _ _⟩, ⟨by first | exact Kd.R_nil _ _ _ _ _ | exact Kd.N_nil _ _ _ _ _ | exact Kd.V_nil _ _ _ _ _ | exact Kd.Q_nil _ _ _ _ _ | exact Kd.S_nil _ _ _ _ _⟩, ⟨by (with_reducible repeat (first | refine blk_drewN ?_ _ | refine blk_drew ?_ | refine blk_alloc ?_ _)); exact BK178.out⟩, ⟨BS GE178.out⟩⟩
  ·
   rw [if_neg c5] at H
   have c5b0 : decide (a1 < 0) = false := decide_eq_false c5
   clear c5
   (first | rw [c5b0] | (simp only [i64_w, i32_w]; rw [c5b0]) | skip)
   have H' := Aside0.mk H
   clear H
   go_wp2
   go_meet
   case rel => exact ⟨_, (decide (a1 > 4096)), (BE), H', ⟨by first | omega | exact Nat.le_refl _⟩, ⟨by first | exact Kd.R_nil _ _ _ _ _ | exact Kd.N_nil _ _ _ _ _ | exact Kd.V_nil _ _ _ _ _ | exact Kd.Q_nil _ _ _ _ _ | exact Kd.S_nil _ _ _ _ _⟩, ⟨by first | exact Kd.R_nil _ _ _ _ _ | exact Kd.N_nil _ _ _ _ _ | exact Kd.V_nil _ _ _ _ _ | exact Kd.Q_nil _ _ _ _ _ | exact Kd.S_nil _ _ _ _ _⟩, ⟨by (with_reducible repeat (first | refine blk_drewN ?_ _ | refine blk_drew ?_ | refine blk_alloc ?_ _)); exact BK178.out⟩, ⟨BS GE178.out⟩⟩
 case rest =>
  clear HC3
  (try clear p2); (try clear c5); (try clear c5b0)
  obtain ⟨kq, x18_2, rfl, HA, HJ2, HO_4, HO_5, BK178, HB⟩ := hcut
  cases kq with
  | zero => exact absurd HA.out (by simp [depend_Parse.j0])
  | succ kj2 =>
   have H := HA.out
   clear HA
   simp only [depend_Parse.j0] at H
   by_cases c6 : x18_2 = true
   ·
    subst c6
    have H1 : (some (([] : List Int), ([] : List ByteArray), 0, 0, 1)) = some (r1, r2, r3, r4, r5) := by rw [if_pos rfl] at H; exact H
    clear H
    have H := H1
    clear H1
    simp only [Option.some.injEq, Prod.mk.injEq] at H
    obtain ⟨rfl, rfl, rfl, rfl, rfl⟩ := H
    have hcz7_0 : wc.cell? ⟨gb178, 0, none⟩ = some (.int .i64 0) := (blk_cell BK178.out 0).trans rfl
    have hcz7_1 : wc.cell? ⟨gb178, 1, none⟩ = some (.int .i64 0) := (blk_cell BK178.out 1).trans rfl
    have hfz7_0 := blk_frozen BK178.out 0
    have hfz7_1 := blk_frozen BK178.out 1
    go_wp2
    refine bodyPost_ret (results_list (rs := [.tmp 4, .tmp 5, .cell 6 30, .tmp 7]) rfl (by simp) (.tmp (.tmp (.cell gb178 30 #[.int .i64 0, .int .i64 0] (0, 0) _ rfl (by (with_reducible repeat (first | refine blk_drewN ?_ _ | refine blk_drew ?_ | refine blk_alloc ?_ _)); refine blk_put (cs := #[.int .i64 0, .int .i64 0]) ?_ 1 _ rfl; (with_reducible repeat (first | refine blk_drewN ?_ _ | refine blk_drew ?_ | refine blk_alloc ?_ _)); refine blk_put (cs := #[.int .i64 0, .int .i64 0]) ?_ 0 _ rfl; (with_reducible repeat (first | refine blk_drewN ?_ _ | refine blk_drew ?_ | refine blk_alloc ?_ _)); exact BK178.out) Tryd.underlying30 rfl (by kernel_rfl) (.tmp .nil))))) rfl ?_
    exact ⟨_, _, BX, by first | exact Kd.R_nil _ _ _ _ _ | exact Kd.N_nil _ _ _ _ _ | exact Kd.V_nil _ _ _ _ _ | exact Kd.Q_nil _ _ _ _ _ | exact Kd.S_nil _ _ _ _ _, by first | exact Kd.R_nil _ _ _ _ _ | exact Kd.N_nil _ _ _ _ _ | exact Kd.V_nil _ _ _ _ _ | exact Kd.Q_nil _ _ _ _ _ | exact Kd.S_nil _ _ _ _ _, BS GE178.out⟩
   ·
    replace c6 := Bool.eq_false_iff.mpr c6
    subst c6
    have H1 : (if (a0.size : Int) > 1048576 then (some (([] : List Int), ([] : List ByteArray), 0, 0, 2)) else (depend_Parse.l0 kj2 a0 a1 ([] : List Int) ([] : List ByteArray) ([] : List Int) 0)) = some (r1, r2, r3, r4, r5) := by rw [if_neg (show ¬ (false = true) by decide)] at H; exact H
    clear H
    have H := H1
    clear H1
    by_cases c8 : (a0.size : Int) > 1048576
    ·
     rw [if_pos c8] at H
     have c8b0 : decide (1048576 < (a0.size : Int)) = true := decide_eq_true c8
     have c8b1 : decide (1048576 < a0.size) = true := decide_eq_true (by omega)
     clear c8
     simp only [Option.some.injEq, Prod.mk.injEq] at H
     obtain ⟨rfl, rfl, rfl, rfl, rfl⟩ := H
     have hcz9_0 : wc.cell? ⟨gb178, 0, none⟩ = some (.int .i64 0) := (blk_cell BK178.out 0).trans rfl
     have hcz9_1 : wc.cell? ⟨gb178, 1, none⟩ = some (.int .i64 0) := (blk_cell BK178.out 1).trans rfl
     have hfz9_0 := blk_frozen BK178.out 0
     have hfz9_1 := blk_frozen BK178.out 1
     go_wp2
     refine bodyPost_ret (results_list (rs := [.tmp 4, .tmp 5, .cell 6 30, .tmp 7]) rfl (by simp) (.tmp (.tmp (.cell gb178 30 #[.int .i64 0, .int .i64 0] (0, 0) _ rfl (by (with_reducible repeat (first | refine blk_drewN ?_ _ | refine blk_drew ?_ | refine blk_alloc ?_ _)); refine blk_put (cs := #[.int .i64 0, .int .i64 0]) ?_ 1 _ rfl; (with_reducible repeat (first | refine blk_drewN ?_ _ | refine blk_drew ?_ | refine blk_alloc ?_ _)); refine blk_put (cs := #[.int .i64 0, .int .i64 0]) ?_ 0 _ rfl; (with_reducible repeat (first | refine blk_drewN ?_ _ | refine blk_drew ?_ | refine blk_alloc ?_ _)); exact BK178.out) Tryd.underlying30 rfl (by kernel_rfl) (.tmp .nil))))) rfl ?_
     exact ⟨_, _, BX, by first | exact Kd.R_nil _ _ _ _ _ | exact Kd.N_nil _ _ _ _ _ | exact Kd.V_nil _ _ _ _ _ | exact Kd.Q_nil _ _ _ _ _ | exact Kd.S_nil _ _ _ _ _, by first | exact Kd.R_nil _ _ _ _ _ | exact Kd.N_nil _ _ _ _ _ | exact Kd.V_nil _ _ _ _ _ | exact Kd.Q_nil _ _ _ _ _ | exact Kd.S_nil _ _ _ _ _, BS GE178.out⟩
    ·
     rw [if_neg c8] at H
     have c8b0 : decide (1048576 < (a0.size : Int)) = false := decide_eq_false c8
     have c8b1 : decide (1048576 < a0.size) = false := decide_eq_false (by omega)
     clear c8
     have H' := Aside0.mk H
     clear H
     go_wp2
     go_loopg [4, 5, 8, 9] kj2 (fun kq v4 v5 v8 v9 w' => ∃ (x4_2 : List Int) (x5_2 : List ByteArray) (x8_2 : List Int) (x9_2 : Int) (x179000_2 : Int) (x179001_2 : Int), v9 = .int .i64 x9_2 ∧ Aside0 (depend_Parse.l0 kq a0 a1 x4_2 x5_2 x8_2 x9_2 = some (r1, r2, r3, r4, r5)) ∧ Aside0 (kq ≤ kj2) ∧ Aside0 (Kd.R (Kd.int .i64) 3 w' w.heap.size (fun k_ => some k_ ≠ (v8 : Value).ownBlock) v4 x4_2) ∧ Aside0 (Kd.R Kd.string 9 w' w.heap.size (fun _ => True) v5 x5_2) ∧ Aside0 (Kd.R (Kd.int .i64) 3 w' w.heap.size (fun k_ => some k_ ≠ (v4 : Value).ownBlock) v8 x8_2) ∧ Aside0 (w'.heap[gb178]? = some (.cells #[.int .i64 x179000_2, .int .i64 x179001_2] 30 (0, 0))) ∧ Aside0 (Below w.heap.size w w'))
     case atStart => exact ⟨(([] : List Int)), (([] : List ByteArray)), (([] : List Int)), (0), (0), (0), (BE), H', ⟨Nat.le_refl _⟩, ⟨by (with_reducible repeat (first | apply Kd.R_alloc | apply Kd.R_drewN | apply Kd.R_drew)); exact Kd.R_mono HO_4.out (fun _ hk => (by simp [Value.ownBlock]))⟩, ⟨BR HO_5.out⟩, ⟨by first | exact Kd.R_nil _ _ _ _ _ | exact Kd.N_nil _ _ _ _ _ | exact Kd.V_nil _ _ _ _ _ | exact Kd.Q_nil _ _ _ _ _ | exact Kd.S_nil _ _ _ _ _⟩, ⟨by (with_reducible repeat (first | refine blk_drewN ?_ _ | refine blk_drew ?_ | refine blk_alloc ?_ _)); exact BK178.out⟩, ⟨BS GE178.out⟩⟩
     case round =>
      clear H'
      (try clear p2); (try clear c5); (try clear c5b0); (try clear c6); (try clear c8); (try clear c8b0); (try clear c8b1); (try clear c9); (try clear hcz7_0); (try clear hcz7_1); (try clear hcz9_0); (try clear hcz9_1)
      (try clear hfz7_0); (try clear hfz7_1); (try clear hfz9_0); (try clear hfz9_1); (try clear p2)
      obtain ⟨x4_2, x5_2, x8_2, x9_2, x179000_2, x179001_2, rfl, HA, HK2, HO_4, HO_5, HO_8, BK178, HB⟩ := hrel
      cases gk with
      | zero => exact absurd HA.out (by simp [depend_Parse.l0])
      | succ k2 =>
       have H := HA.out
       clear HA
       simp only [depend_Parse.l0] at H
       by_cases c10 : x9_2 < (a0.size : Int)
       ·
        rw [if_pos c10] at H
        have c10b0 : decide (x9_2 < (a0.size : Int)) = true := decide_eq_true c10
        clear c10
        by_cases c11 : 0 ≤ x9_2
        ·
         rw [if_pos c11] at H
         have c11b0 := eq_true c11
         have c11b1 : decide (0 ≤ x9_2) = true := decide_eq_true c11
         clear c11
         by_cases c12 : x9_2 ≤ (a0.size : Int)
         ·
          rw [if_pos c12] at H
          have c12b0 := eq_true c12
          have c12b1 : decide (x9_2 ≤ (a0.size : Int)) = true := decide_eq_true c12
          clear c12
          replace H := Option.bind_eq_some_iff.mp H
          obtain ⟨⟨t179, t180, t181⟩, A130, H⟩ := H
          replace H : (if (x4_2.length : Int) = a1 then ((codepoint_Position.f a0 x9_2).bind fun bt182 => (some (([] : List Int), ([] : List ByteArray), bt182.1, bt182.2, 15))) else ((depend_line.f k2 t179 a1).bind fun bt184 => (if bt184.2.2.2 = 0 then (if x4_2.length < 17592186044416 then (if x5_2.length < 8796093022208 then (if x8_2.length < 17592186044416 then (depend_Parse.l0 k2 a0 a1 (x4_2 ++ [bt184.1]) (x5_2 ++ [bt184.2.1]) (x8_2 ++ [x9_2]) (wrap64 (x9_2 + (wrap64 ((t179.size : Int) + 1))))) else (none)) else (none)) else (none)) else ((codepoint_Position.f a0 (wrap64 (x9_2 + bt184.2.2.1))).bind fun bt198 => (some (([] : List Int), ([] : List ByteArray), bt198.1, bt198.2, bt184.2.2.2)))))) = some (r1, r2, r3, r4, r5) := H
          have A13 := Aside0.mk A130
          clear A130
          by_cases c14 : (x4_2.length : Int) = a1
          ·
           rw [if_pos c14] at H
           have c14b0 : ((x4_2.length : Int) == a1) = true := beq_iff_eq.mpr c14
           have c14b1 : ((x4_2.length : Int) != a1) = false := bne_eq_false_iff_eq.mpr c14
           clear c14
           replace H := Option.bind_eq_some_iff.mp H
           obtain ⟨⟨t182, t183⟩, A150, H⟩ := H
           replace H : (some (([] : List Int), ([] : List ByteArray), t182, t183, 15)) = some (r1, r2, r3, r4, r5) := H
           have A15 := Aside0.mk A150
           clear A150
           simp only [Option.some.injEq, Prod.mk.injEq] at H
           obtain ⟨rfl, rfl, rfl, rfl, rfl⟩ := H
           go_wp2_with (first | ((with_reducible refine gate_callee (f := 22) rfl ?_); refine goesL_ (some 39) rfl rfl Tryd.func22 (by kernel_rfl) rfl #[.string (a0.extract (x9_2 : Int).toNat a0.size), .string (⟨#[10]⟩ : ByteArray)] rfl BM ?_; (with_reducible refine (strings_Cut.calls (a0.extract (x9_2 : Int).toNat a0.size) (⟨#[10]⟩ : ByteArray) t179 t180 t181 _ A13.out).mono ?_); rintro e w' ⟨rfl, ⟨nd, rfl⟩⟩; refine ⟨_, rfl, ?_⟩; (try (rw [drewN_self wr]; generalize hq_ : World.drewN wr _ = wr; have n0_ : Aside0 (Kd.R (Kd.int .i64) 3 wr w.heap.size (fun k_ => some k_ ≠ (u8 : Value).ownBlock) u4 x4_2) := ⟨by rw [← hq_]; exact (BR HO_4.out)⟩; have n1_ : Aside0 (Kd.R Kd.string 9 wr w.heap.size (fun _ => True) u5 x5_2) := ⟨by rw [← hq_]; exact (BR HO_5.out)⟩; have n2_ : Aside0 (Kd.R (Kd.int .i64) 3 wr w.heap.size (fun k_ => some k_ ≠ (u4 : Value).ownBlock) u8 x8_2) := ⟨by rw [← hq_]; exact (BR HO_8.out)⟩; have n3_ : Aside0 (wr.heap[gb178]? = some (.cells #[.int .i64 x179000_2, .int .i64 x179001_2] 30 (0, 0))) := ⟨by rw [← hq_]; exact (by (with_reducible repeat (first | refine blk_drewN ?_ _ | refine blk_drew ?_ | refine blk_alloc ?_ _)); exact BK178.out)⟩; have n4_ : Aside0 (Below w.heap.size w wr) := ⟨by rw [← hq_]; exact (BS GE178.out)⟩; clear HO_4 HO_5 HO_8 BK178 HB hq_; have HO_4 := n0_; have HO_5 := n1_; have HO_8 := n2_; have BK178 := n3_; have HB := n4_; clear n0_ n1_ n2_ n3_ n4_)); obtain ⟨Ao16, co16, eo16⟩ := Kd.R_slice HO_4.out; subst eo16) | ((with_reducible refine gate_callee (f := 23) rfl ?_); refine goesL_ (some 49) rfl rfl Tryd.func23 (by kernel_rfl) rfl #[.string a0, .int .i64 x9_2] rfl BM ?_; (with_reducible refine (codepoint_Position.calls a0 x9_2 t182 t183 _ A15.out).mono ?_); rintro e w17 ⟨rfl, hb⟩; refine ⟨_, rfl, ?_⟩; have n0_ := Aside0.mk (Kd.R_below (BR HO_4.out) hb); have n1_ := Aside0.mk (Kd.R_below (BR HO_5.out) hb); have n2_ := Aside0.mk (Kd.R_below (BR HO_8.out) hb); have n3_ := Aside0.mk (blk_below (g := gb178) (o := .cells #[.int .i64 x179000_2, .int .i64 x179001_2] 30 (0, 0)) (by (with_reducible repeat (first | refine blk_drewN ?_ _ | refine blk_drew ?_ | refine blk_alloc ?_ _)); exact BK178.out) hb); have n4_ := Aside0.mk (below_step (BS GE178.out) hb); clear HO_4; clear HO_5; clear HO_8; clear BK178; clear HB; have HO_4 := n0_; have HO_5 := n1_; have HO_8 := n2_; have BK178 := n3_; have HB := n4_; clear n0_ n1_ n2_ n3_ n4_; (try clear hb); (try clear hb2); (try clear hk); (try clear hi); have hcz18_0 : w17.cell? ⟨gb178, 0, none⟩ = some (.int .i64 x179000_2) := (blk_cell BK178.out 0).trans rfl; have hcz18_1 : w17.cell? ⟨gb178, 1, none⟩ = some (.int .i64 x179001_2) := (blk_cell BK178.out 1).trans rfl; have hfz18_0 := blk_frozen BK178.out 0; have hfz18_1 := blk_frozen BK178.out 1))
           refine bodyPost_ret (results_list (rs := [.tmp 4, .tmp 5, .cell 6 30, .tmp 7]) rfl (by simp) (.tmp (.tmp (.cell gb178 30 #[.int .i64 t182, .int .i64 t183] (0, 0) _ rfl (by (with_reducible repeat (first | refine blk_drewN ?_ _ | refine blk_drew ?_ | refine blk_alloc ?_ _)); refine blk_put (cs := #[.int .i64 t182, .int .i64 x179001_2]) ?_ 1 _ rfl; (with_reducible repeat (first | refine blk_drewN ?_ _ | refine blk_drew ?_ | refine blk_alloc ?_ _)); refine blk_put (cs := #[.int .i64 x179000_2, .int .i64 x179001_2]) ?_ 0 _ rfl; (with_reducible repeat (first | refine blk_drewN ?_ _ | refine blk_drew ?_ | refine blk_alloc ?_ _)); exact BK178.out) Tryd.underlying30 rfl (by kernel_rfl) (.tmp .nil))))) rfl ?_
           exact ⟨_, _, BX, by first | exact Kd.R_nil _ _ _ _ _ | exact Kd.N_nil _ _ _ _ _ | exact Kd.V_nil _ _ _ _ _ | exact Kd.Q_nil _ _ _ _ _ | exact Kd.S_nil _ _ _ _ _, by first | exact Kd.R_nil _ _ _ _ _ | exact Kd.N_nil _ _ _ _ _ | exact Kd.V_nil _ _ _ _ _ | exact Kd.Q_nil _ _ _ _ _ | exact Kd.S_nil _ _ _ _ _, BS GE178.out⟩
          ·
           rw [if_neg c14] at H
           have c14b0 : ((x4_2.length : Int) == a1) = false := beq_eq_false_iff_ne.mpr c14
           have c14b1 : ((x4_2.length : Int) != a1) = true := bne_iff_ne.mpr c14
           replace H := Option.bind_eq_some_iff.mp H
           obtain ⟨⟨t184, t185, t186, t187⟩, A190, H⟩ := H
           replace H : (if t187 = 0 then (if x4_2.length < 17592186044416 then (if x5_2.length < 8796093022208 then (if x8_2.length < 17592186044416 then (depend_Parse.l0 k2 a0 a1 (x4_2 ++ [t184]) (x5_2 ++ [t185]) (x8_2 ++ [x9_2]) (wrap64 (x9_2 + (wrap64 ((t179.size : Int) + 1))))) else (none)) else (none)) else (none)) else ((codepoint_Position.f a0 (wrap64 (x9_2 + t186))).bind fun bt198 => (some (([] : List Int), ([] : List ByteArray), bt198.1, bt198.2, t187)))) = some (r1, r2, r3, r4, r5) := H
           have A19 := Aside0.mk A190
           clear A190
           by_cases c20 : t187 = 0
           ·
            rw [if_pos c20] at H
            have c20b0 : (t187 == 0) = true := beq_iff_eq.mpr c20
            have c20b1 : (t187 != 0) = false := bne_eq_false_iff_eq.mpr c20
            clear c20
            by_cases c21 : x4_2.length < 17592186044416
            ·
             rw [if_pos c21] at H
             have LMc21 := Aside0.mk c21
             clear c21
             obtain ⟨y189, hy189⟩ : ∃ y_ : List Int, y_ = (x4_2 ++ [t184]) := ⟨_, rfl⟩
             replace H : (if x5_2.length < 8796093022208 then (if x8_2.length < 17592186044416 then (depend_Parse.l0 k2 a0 a1 y189 (x5_2 ++ [t185]) (x8_2 ++ [x9_2]) (wrap64 (x9_2 + (wrap64 ((t179.size : Int) + 1))))) else (none)) else (none)) = some (r1, r2, r3, r4, r5) := by first | (rw [hy189]; with_reducible exact H) | (have H2_ := (Option.bind_some _ _).symm.trans H; rw [hy189]; with_reducible exact H2_) | (have H2_ := (Option.bind_some _ _).symm.trans H; with_reducible exact H2_) | with_reducible exact H | (rw [hy189]; exact H) | exact H
             have Ny189 := Aside0.mk hy189
             clear hy189
             by_cases c22 : x5_2.length < 8796093022208
             ·
              rw [if_pos c22] at H
              have LMc22 := Aside0.mk c22
              clear c22
              obtain ⟨y192, hy192⟩ : ∃ y_ : List ByteArray, y_ = (x5_2 ++ [t185]) := ⟨_, rfl⟩
              replace H : (if x8_2.length < 17592186044416 then (depend_Parse.l0 k2 a0 a1 y189 y192 (x8_2 ++ [x9_2]) (wrap64 (x9_2 + (wrap64 ((t179.size : Int) + 1))))) else (none)) = some (r1, r2, r3, r4, r5) := by first | (rw [hy192]; with_reducible exact H) | (have H2_ := (Option.bind_some _ _).symm.trans H; rw [hy192]; with_reducible exact H2_) | (have H2_ := (Option.bind_some _ _).symm.trans H; with_reducible exact H2_) | with_reducible exact H | (rw [hy192]; exact H) | exact H
              have Ny192 := Aside0.mk hy192
              clear hy192
              by_cases c23 : x8_2.length < 17592186044416
              ·
               rw [if_pos c23] at H
               have LMc23 := Aside0.mk c23
               clear c23
               obtain ⟨y195, hy195⟩ : ∃ y_ : List Int, y_ = (x8_2 ++ [x9_2]) := ⟨_, rfl⟩
               replace H : (depend_Parse.l0 k2 a0 a1 y189 y192 y195 (wrap64 (x9_2 + (wrap64 ((t179.size : Int) + 1))))) = some (r1, r2, r3, r4, r5) := by first | (rw [hy195]; with_reducible exact H) | (have H2_ := (Option.bind_some _ _).symm.trans H; rw [hy195]; with_reducible exact H2_) | (have H2_ := (Option.bind_some _ _).symm.trans H; with_reducible exact H2_) | with_reducible exact H | (rw [hy195]; exact H) | exact H
               have Ny195 := Aside0.mk hy195
               clear hy195
               have H' := Aside0.mk H
               clear H
               go_wp2_with (first | ((with_reducible refine gate_callee (f := 22) rfl ?_); refine goesL_ (some 39) rfl rfl Tryd.func22 (by kernel_rfl) rfl #[.string (a0.extract (x9_2 : Int).toNat a0.size), .string (⟨#[10]⟩ : ByteArray)] rfl BM ?_; (with_reducible refine (strings_Cut.calls (a0.extract (x9_2 : Int).toNat a0.size) (⟨#[10]⟩ : ByteArray) t179 t180 t181 _ A13.out).mono ?_); rintro e w' ⟨rfl, ⟨nd, rfl⟩⟩; refine ⟨_, rfl, ?_⟩; (try (rw [drewN_self wr]; generalize hq_ : World.drewN wr _ = wr; have n0_ : Aside0 (Kd.R (Kd.int .i64) 3 wr w.heap.size (fun k_ => some k_ ≠ (u8 : Value).ownBlock) u4 x4_2) := ⟨by rw [← hq_]; exact (BR HO_4.out)⟩; have n1_ : Aside0 (Kd.R Kd.string 9 wr w.heap.size (fun _ => True) u5 x5_2) := ⟨by rw [← hq_]; exact (BR HO_5.out)⟩; have n2_ : Aside0 (Kd.R (Kd.int .i64) 3 wr w.heap.size (fun k_ => some k_ ≠ (u4 : Value).ownBlock) u8 x8_2) := ⟨by rw [← hq_]; exact (BR HO_8.out)⟩; have n3_ : Aside0 (wr.heap[gb178]? = some (.cells #[.int .i64 x179000_2, .int .i64 x179001_2] 30 (0, 0))) := ⟨by rw [← hq_]; exact (by (with_reducible repeat (first | refine blk_drewN ?_ _ | refine blk_drew ?_ | refine blk_alloc ?_ _)); exact BK178.out)⟩; have n4_ : Aside0 (Below w.heap.size w wr) := ⟨by rw [← hq_]; exact (BS GE178.out)⟩; clear HO_4 HO_5 HO_8 BK178 HB hq_; have HO_4 := n0_; have HO_5 := n1_; have HO_8 := n2_; have BK178 := n3_; have HB := n4_; clear n0_ n1_ n2_ n3_ n4_)); obtain ⟨Ao24, co24, eo24⟩ := Kd.R_slice HO_4.out; subst eo24) | ((with_reducible refine gate_callee (f := 24) rfl ?_); refine goesL_ (some 53) rfl rfl Tryd.func24 (by kernel_rfl) rfl #[.string t179, .int .i64 a1] rfl BM ?_; (with_reducible refine (depend_line.calls k2 t179 a1 t184 t185 t186 t187 _ A19.out).mono ?_); rintro e w25 ⟨rfl, hb⟩; refine ⟨_, rfl, ?_⟩; have n0_ := Aside0.mk (Kd.R_below (BR HO_4.out) hb); have n1_ := Aside0.mk (Kd.R_below (BR HO_5.out) hb); have n2_ := Aside0.mk (Kd.R_below (BR HO_8.out) hb); have n3_ := Aside0.mk (blk_below (g := gb178) (o := .cells #[.int .i64 x179000_2, .int .i64 x179001_2] 30 (0, 0)) (by (with_reducible repeat (first | refine blk_drewN ?_ _ | refine blk_drew ?_ | refine blk_alloc ?_ _)); exact BK178.out) hb); have n4_ := Aside0.mk (below_step (BS GE178.out) hb); clear HO_4; clear HO_5; clear HO_8; clear BK178; clear HB; have HO_4 := n0_; have HO_5 := n1_; have HO_8 := n2_; have BK178 := n3_; have HB := n4_; clear n0_ n1_ n2_ n3_ n4_; (try clear hb); (try clear hb2); (try clear hk); (try clear hi)) | ((with_reducible refine gate_dst (N := 15) rfl ?_); refine box_event ?hg (N := 15) ?hd (cs := #[.int .i64 0, .int .i64 0]) (t := 63) ?hr ?_; (case hd => rfl); (case hg => rfl); (case hr => first | (go_simp; done) | (go_simp; rfl)); intro gb188 hg w26 hbox hb; have n0_ := Aside0.mk (Kd.R_below (BR HO_4.out) hb); have n1_ := Aside0.mk (Kd.R_below (BR HO_5.out) hb); have n2_ := Aside0.mk (Kd.R_below (BR HO_8.out) hb); have n3_ := Aside0.mk (blk_below (g := gb178) (o := .cells #[.int .i64 x179000_2, .int .i64 x179001_2] 30 (0, 0)) (by (with_reducible repeat (first | refine blk_drewN ?_ _ | refine blk_drew ?_ | refine blk_alloc ?_ _)); exact BK178.out) hb); have n4_ := Aside0.mk (below_step (BS GE178.out) hb); have n5_ := Aside0.mk (hbox); have n6_ := Aside0.mk ((by rw [hg]; exact (below_size (BS GE178.out)) : w.heap.size ≤ gb188)); have n7_ := Aside0.mk ((by rw [hg]; exact (below_size (BS GE178.out)) : w.heap.size ≤ gb188)); have n8_ := Aside0.mk ((by rw [hg]; exact Nat.ne_of_lt (blk_lt (g := gb178) (o := .cells #[.int .i64 x179000_2, .int .i64 x179001_2] 30 (0, 0)) (by (with_reducible repeat (first | refine blk_drewN ?_ _ | refine blk_drew ?_ | refine blk_alloc ?_ _)); exact BK178.out)) : gb178 ≠ gb188)); have n9_ := Aside0.mk ((by rw [hg]; exact Nat.ne_of_gt (blk_lt (g := gb178) (o := .cells #[.int .i64 x179000_2, .int .i64 x179001_2] 30 (0, 0)) (by (with_reducible repeat (first | refine blk_drewN ?_ _ | refine blk_drew ?_ | refine blk_alloc ?_ _)); exact BK178.out)) : gb188 ≠ gb178)); clear HO_4; clear HO_5; clear HO_8; clear BK178; clear HB; have HO_4 := n0_; have HO_5 := n1_; have HO_8 := n2_; have BK178 := n3_; have HB := n4_; have BK188 := n5_; have GW188 := n6_; have GE188 := n7_; have NB178_188 := n8_; have NB188_178 := n9_; clear n0_ n1_ n2_ n3_ n4_ n5_ n6_ n7_ n8_ n9_; clear hb hbox hg; have hnb27 := NB188_178.out; have hnc27 := NB178_188.out; have hcz28_0 : w26.cell? ⟨gb188, 0, none⟩ = some (.int .i64 0) := (blk_cell BK188.out 0).trans rfl; have hcz28_1 : w26.cell? ⟨gb188, 1, none⟩ = some (.int .i64 0) := (blk_cell BK188.out 1).trans rfl; have hfz28_0 := blk_frozen BK188.out 0; have hfz28_1 := blk_frozen BK188.out 1) | ((with_reducible refine gate_builtin (b := .append) (xs := #[.tmp 68, .tmp 70]) rfl ?_); at_builtin; refine Kd.R_append (Kd.int .i64) (w0 := w) w.heap.size rfl (.tmp 68) (.tmp 70) 22 3 (.int .i64 0) 8 rfl Tryd.underlying22 info3 rfl (by decide) (by omega) (.slice Ao24 x4_2.length co24) x4_2 t184 [.int .i64 t184] (fun k_ => some k_ ≠ (u8 : Value).ownBlock) (fun _ => False) rfl (by first | (go_simp; done) | (go_simp; rfl)) ?aP (fun _ hk => hk.elim) ?aF ?aO ?aB ?aS ?aL ?_; (case aP => exact rfl); (case aB => exact (BS2 GE178.out GE188.out)); (case aF => exact (fun k_ hk => Kd.fresh' (Kd.R_lt (by (with_reducible repeat (first | apply Kd.R_alloc | apply Kd.R_drewN | apply Kd.R_drew)); exact (Kd.R_mono (Kd.R_far (p := ⟨gb188, 1, none⟩) (Kd.R_far (p := ⟨gb188, 0, none⟩) (Kd.R_types HO_8.out BK188.out (by decide)) (fun _ hk => hk.2) (.int .i64 t186)) (fun _ hk => hk.2) (.int .i64 t187)) (fun _ h_ => h_.1)))) k_ hk)); (case aO => exact (by (with_reducible repeat (first | apply Kd.R_alloc | apply Kd.R_drewN | apply Kd.R_drew)); exact Kd.R_mono (Kd.R_far (p := ⟨gb188, 1, none⟩) (Kd.R_far (p := ⟨gb188, 0, none⟩) (Kd.R_types HO_4.out BK188.out (by decide)) (fun _ hk => hk.2) (.int .i64 t186)) (fun _ hk => hk.2) (.int .i64 t187)) (fun _ hk => hk.1))); (case aS => exact (below_size (BS2 GE178.out GE188.out))); (case aL => have := LMc21.out; omega); intro v190 w29 ho hb hg hat; rw [← Ny189.out] at ho; have n0_ := Aside0.mk (Kd.R_over' (by (with_reducible repeat (first | apply Kd.R_alloc | apply Kd.R_drewN | apply Kd.R_drew)); exact (Kd.R_mono (Kd.R_far (p := ⟨gb188, 1, none⟩) (Kd.R_far (p := ⟨gb188, 0, none⟩) (Kd.R_types HO_5.out BK188.out (by decide)) (fun _ hk => hk.2) (.int .i64 t186)) (fun _ hk => hk.2) (.int .i64 t187)) (fun _ h_ => h_.1))) (Kd.R_typed (by (with_reducible repeat (first | apply Kd.R_alloc | apply Kd.R_drewN | apply Kd.R_drew)); exact (Kd.R_mono (Kd.R_far (p := ⟨gb188, 1, none⟩) (Kd.R_far (p := ⟨gb188, 0, none⟩) (Kd.R_types HO_4.out BK188.out (by decide)) (fun _ hk => hk.2) (.int .i64 t186)) (fun _ hk => hk.2) (.int .i64 t187)) (fun _ h_ => h_.1)))) (by decide) hg); have n1_ := Aside0.mk (Kd.R_after (ok := (fun _ => True)) (by (with_reducible repeat (first | apply Kd.R_alloc | apply Kd.R_drewN | apply Kd.R_drew)); exact Kd.R_mono (Kd.R_far (p := ⟨gb188, 1, none⟩) (Kd.R_far (p := ⟨gb188, 0, none⟩) (Kd.R_types HO_8.out BK188.out (by decide)) (fun _ hk => hk.2) (.int .i64 t186)) (fun _ hk => hk.2) (.int .i64 t187)) (fun _ hk => ⟨trivial, hk.1⟩)) hg hat); have n2_ := Aside0.mk (blk_grown (g := gb178) (o := .cells #[.int .i64 x179000_2, .int .i64 x179001_2] 30 (0, 0)) (by (with_reducible repeat (first | refine blk_drewN ?_ _ | refine blk_drew ?_ | refine blk_alloc ?_ _)); refine blk_far ?_ NB178_188.out _; (with_reducible repeat (first | refine blk_drewN ?_ _ | refine blk_drew ?_ | refine blk_alloc ?_ _)); refine blk_far ?_ NB178_188.out _; (with_reducible repeat (first | refine blk_drewN ?_ _ | refine blk_drew ?_ | refine blk_alloc ?_ _)); exact BK178.out) hg (Kd.R_ne HO_4.out BK178.out (by decide))); have n3_ := Aside0.mk (blk_grown (g := gb188) (o := .cells #[.int .i64 t186, .int .i64 t187] 63 (0, 0)) (by (with_reducible repeat (first | refine blk_drewN ?_ _ | refine blk_drew ?_ | refine blk_alloc ?_ _)); refine blk_put (cs := #[.int .i64 t186, .int .i64 0]) ?_ 1 _ rfl; (with_reducible repeat (first | refine blk_drewN ?_ _ | refine blk_drew ?_ | refine blk_alloc ?_ _)); refine blk_put (cs := #[.int .i64 0, .int .i64 0]) ?_ 0 _ rfl; (with_reducible repeat (first | refine blk_drewN ?_ _ | refine blk_drew ?_ | refine blk_alloc ?_ _)); exact BK188.out) hg (Kd.R_ne HO_4.out BK188.out (by decide))); have n4_ := Aside0.mk (hb); have n5_ := Aside0.mk (ho); clear HO_5; clear HO_8; clear BK178; clear BK188; clear HB; clear HO_4; have HO_5 := n0_; have HO_8 := n1_; have BK178 := n2_; have BK188 := n3_; have HB := n4_; have HO191 := n5_; clear n0_ n1_ n2_ n3_ n4_ n5_; clear ho hb hg hat) | ((with_reducible refine gate_builtin (b := .append) (xs := #[.tmp 72, .tmp 74]) rfl ?_); at_builtin; refine Kd.R_append Kd.string (w0 := w) w.heap.size rfl (.tmp 72) (.tmp 74) 23 9 (.string ⟨#[]⟩) 16 rfl Tryd.underlying23 info9 rfl (by decide) (by omega) u5 x5_2 t185 [.string t185] (fun _ => True) (fun _ => False) rfl rfl ?aP (fun _ hk => hk.elim) ?aF ?aO ?aB ?aS ?aL ?_; (case aP => exact rfl); (case aB => exact (BS2 GE178.out GE188.out)); (case aF => exact (fun _ _ => trivial)); (case aO => exact (BR HO_5.out)); (case aS => exact (below_size (BS2 GE178.out GE188.out))); (case aL => have := LMc22.out; omega); intro v193 w30 ho hb hg hat; rw [← Ny192.out] at ho; have n0_ := Aside0.mk (Kd.R_over' (BR HO_8.out) (Kd.R_typed (BR HO_5.out)) (by decide) hg); have n1_ := Aside0.mk (blk_grown (g := gb178) (o := .cells #[.int .i64 x179000_2, .int .i64 x179001_2] 30 (0, 0)) (by (with_reducible repeat (first | refine blk_drewN ?_ _ | refine blk_drew ?_ | refine blk_alloc ?_ _)); exact BK178.out) hg (Kd.R_ne HO_5.out BK178.out (by decide))); have n2_ := Aside0.mk (blk_grown (g := gb188) (o := .cells #[.int .i64 t186, .int .i64 t187] 63 (0, 0)) (by (with_reducible repeat (first | refine blk_drewN ?_ _ | refine blk_drew ?_ | refine blk_alloc ?_ _)); exact BK188.out) hg (Kd.R_ne HO_5.out BK188.out (by decide))); have n3_ := Aside0.mk (Kd.R_over' (BR HO191.out) (Kd.R_typed (BR HO_5.out)) (by decide) hg); have n4_ := Aside0.mk (hb); have n5_ := Aside0.mk (ho); clear HO_8; clear BK178; clear BK188; clear HO191; clear HB; clear HO_5; have HO_8 := n0_; have BK178 := n1_; have BK188 := n2_; have HO191 := n3_; have HB := n4_; have HO194 := n5_; clear n0_ n1_ n2_ n3_ n4_ n5_; clear ho hb hg hat) | ((with_reducible refine gate_builtin (b := .append) (xs := #[.tmp 76, .tmp 78]) rfl ?_); at_builtin; refine Kd.R_append (Kd.int .i64) (w0 := w) w.heap.size rfl (.tmp 76) (.tmp 78) 22 3 (.int .i64 0) 8 rfl Tryd.underlying22 info3 rfl (by decide) (by omega) u8 x8_2 x9_2 [.int .i64 x9_2] (fun k_ => some k_ ≠ (v190 : Value).ownBlock) (fun _ => False) rfl rfl ?aP (fun _ hk => hk.elim) ?aF ?aO ?aB ?aS ?aL ?_; (case aP => exact rfl); (case aB => exact (BS2 GE178.out GE188.out)); (case aF => exact (fun k_ hk => Kd.fresh' (Kd.R_lt (BR HO191.out)) k_ hk)); (case aO => exact (by (with_reducible repeat (first | apply Kd.R_alloc | apply Kd.R_drewN | apply Kd.R_drew)); exact Kd.R_mono HO_8.out (fun _ hk => hk.2))); (case aS => exact (below_size (BS2 GE178.out GE188.out))); (case aL => have := LMc23.out; omega); intro v196 w31 ho hb hg hat; rw [← Ny195.out] at ho; have n0_ := Aside0.mk (blk_grown (g := gb178) (o := .cells #[.int .i64 x179000_2, .int .i64 x179001_2] 30 (0, 0)) (by (with_reducible repeat (first | refine blk_drewN ?_ _ | refine blk_drew ?_ | refine blk_alloc ?_ _)); exact BK178.out) hg (Kd.R_ne HO_8.out BK178.out (by decide))); have n1_ := Aside0.mk (blk_grown (g := gb188) (o := .cells #[.int .i64 t186, .int .i64 t187] 63 (0, 0)) (by (with_reducible repeat (first | refine blk_drewN ?_ _ | refine blk_drew ?_ | refine blk_alloc ?_ _)); exact BK188.out) hg (Kd.R_ne HO_8.out BK188.out (by decide))); have n2_ := Aside0.mk (Kd.R_after (ok := (fun _ => True)) (by (with_reducible repeat (first | apply Kd.R_alloc | apply Kd.R_drewN | apply Kd.R_drew)); exact Kd.R_mono HO191.out (fun _ hk => ⟨trivial, hk⟩)) hg hat); have n3_ := Aside0.mk (Kd.R_over' (BR HO194.out) (Kd.R_typed (BR HO_8.out)) (by decide) hg); have n4_ := Aside0.mk (hb); have n5_ := Aside0.mk (ho); clear BK178; clear BK188; clear HO191; clear HO194; clear HB; clear HO_8; have BK178 := n0_; have BK188 := n1_; have HO191 := n2_; have HO194 := n3_; have HB := n4_; have HO197 := n5_; clear n0_ n1_ n2_ n3_ n4_ n5_; clear ho hb hg hat))
               go_roundg k2
               case measure => have := HJ2.out; have := HK2.out; omega
               case rel => exact ⟨(y189), (y192), (y195), (wrap64 (x9_2 + (wrap64 ((t179.size : Int) + 1)))), (x179000_2), (x179001_2), (BE), H', ⟨by have := HJ2.out; have := HK2.out; omega⟩, ⟨by (with_reducible repeat (first | apply Kd.R_alloc | apply Kd.R_drewN | apply Kd.R_drew)); exact Kd.R_mono HO191.out (fun _ hk => hk.2)⟩, ⟨BR HO194.out⟩, ⟨BR HO197.out⟩, ⟨by (with_reducible repeat (first | refine blk_drewN ?_ _ | refine blk_drew ?_ | refine blk_alloc ?_ _)); exact BK178.out⟩, ⟨BS2 GE178.out GE188.out⟩⟩
              ·
               rw [if_neg c23] at H
               exact absurd H (by simp)
             ·
              rw [if_neg c22] at H
              exact absurd H (by simp)
            ·
             rw [if_neg c21] at H
             exact absurd H (by simp)
           ·
            rw [if_neg c20] at H
            have c20b0 : (t187 == 0) = false := beq_eq_false_iff_ne.mpr c20
            have c20b1 : (t187 != 0) = true := bne_iff_ne.mpr c20
            replace H := Option.bind_eq_some_iff.mp H
            obtain ⟨⟨t198, t199⟩, A320, H⟩ := H
            replace H : (some (([] : List Int), ([] : List ByteArray), t198, t199, t187)) = some (r1, r2, r3, r4, r5) := H
            have A32 := Aside0.mk A320
            clear A320
            simp only [Option.some.injEq, Prod.mk.injEq] at H
            obtain ⟨rfl, rfl, rfl, rfl, rfl⟩ := H
            try go_wp2_with (first | ((with_reducible refine gate_callee (f := 22) rfl ?_); refine goesL_ (some 39) rfl rfl Tryd.func22 (by kernel_rfl) rfl #[.string (a0.extract (x9_2 : Int).toNat a0.size), .string (⟨#[10]⟩ : ByteArray)] rfl BM ?_; (with_reducible refine (strings_Cut.calls (a0.extract (x9_2 : Int).toNat a0.size) (⟨#[10]⟩ : ByteArray) t179 t180 t181 _ A13.out).mono ?_); rintro e w' ⟨rfl, ⟨nd, rfl⟩⟩; refine ⟨_, rfl, ?_⟩; (try (rw [drewN_self wr]; generalize hq_ : World.drewN wr _ = wr; have n0_ : Aside0 (Kd.R (Kd.int .i64) 3 wr w.heap.size (fun k_ => some k_ ≠ (u8 : Value).ownBlock) u4 x4_2) := ⟨by rw [← hq_]; exact (BR HO_4.out)⟩; have n1_ : Aside0 (Kd.R Kd.string 9 wr w.heap.size (fun _ => True) u5 x5_2) := ⟨by rw [← hq_]; exact (BR HO_5.out)⟩; have n2_ : Aside0 (Kd.R (Kd.int .i64) 3 wr w.heap.size (fun k_ => some k_ ≠ (u4 : Value).ownBlock) u8 x8_2) := ⟨by rw [← hq_]; exact (BR HO_8.out)⟩; have n3_ : Aside0 (wr.heap[gb178]? = some (.cells #[.int .i64 x179000_2, .int .i64 x179001_2] 30 (0, 0))) := ⟨by rw [← hq_]; exact (by (with_reducible repeat (first | refine blk_drewN ?_ _ | refine blk_drew ?_ | refine blk_alloc ?_ _)); exact BK178.out)⟩; have n4_ : Aside0 (Below w.heap.size w wr) := ⟨by rw [← hq_]; exact (BS GE178.out)⟩; clear HO_4 HO_5 HO_8 BK178 HB hq_; have HO_4 := n0_; have HO_5 := n1_; have HO_8 := n2_; have BK178 := n3_; have HB := n4_; clear n0_ n1_ n2_ n3_ n4_)); obtain ⟨Ao33, co33, eo33⟩ := Kd.R_slice HO_4.out; subst eo33) | ((with_reducible refine gate_callee (f := 24) rfl ?_); refine goesL_ (some 53) rfl rfl Tryd.func24 (by kernel_rfl) rfl #[.string t179, .int .i64 a1] rfl BM ?_; (with_reducible refine (depend_line.calls k2 t179 a1 t184 t185 t186 t187 _ A19.out).mono ?_); rintro e w34 ⟨rfl, hb⟩; refine ⟨_, rfl, ?_⟩; have n0_ := Aside0.mk (Kd.R_below (BR HO_4.out) hb); have n1_ := Aside0.mk (Kd.R_below (BR HO_5.out) hb); have n2_ := Aside0.mk (Kd.R_below (BR HO_8.out) hb); have n3_ := Aside0.mk (blk_below (g := gb178) (o := .cells #[.int .i64 x179000_2, .int .i64 x179001_2] 30 (0, 0)) (by (with_reducible repeat (first | refine blk_drewN ?_ _ | refine blk_drew ?_ | refine blk_alloc ?_ _)); exact BK178.out) hb); have n4_ := Aside0.mk (below_step (BS GE178.out) hb); clear HO_4; clear HO_5; clear HO_8; clear BK178; clear HB; have HO_4 := n0_; have HO_5 := n1_; have HO_8 := n2_; have BK178 := n3_; have HB := n4_; clear n0_ n1_ n2_ n3_ n4_; (try clear hb); (try clear hb2); (try clear hk); (try clear hi)) | ((with_reducible refine gate_dst (N := 15) rfl ?_); refine box_event ?hg (N := 15) ?hd (cs := #[.int .i64 0, .int .i64 0]) (t := 63) ?hr ?_; (case hd => rfl); (case hg => rfl); (case hr => first | (go_simp; done) | (go_simp; rfl)); intro gb188 hg w35 hbox hb; have n0_ := Aside0.mk (Kd.R_below (BR HO_4.out) hb); have n1_ := Aside0.mk (Kd.R_below (BR HO_5.out) hb); have n2_ := Aside0.mk (Kd.R_below (BR HO_8.out) hb); have n3_ := Aside0.mk (blk_below (g := gb178) (o := .cells #[.int .i64 x179000_2, .int .i64 x179001_2] 30 (0, 0)) (by (with_reducible repeat (first | refine blk_drewN ?_ _ | refine blk_drew ?_ | refine blk_alloc ?_ _)); exact BK178.out) hb); have n4_ := Aside0.mk (below_step (BS GE178.out) hb); have n5_ := Aside0.mk (hbox); have n6_ := Aside0.mk ((by rw [hg]; exact (below_size (BS GE178.out)) : w.heap.size ≤ gb188)); have n7_ := Aside0.mk ((by rw [hg]; exact (below_size (BS GE178.out)) : w.heap.size ≤ gb188)); have n8_ := Aside0.mk ((by rw [hg]; exact Nat.ne_of_lt (blk_lt (g := gb178) (o := .cells #[.int .i64 x179000_2, .int .i64 x179001_2] 30 (0, 0)) (by (with_reducible repeat (first | refine blk_drewN ?_ _ | refine blk_drew ?_ | refine blk_alloc ?_ _)); exact BK178.out)) : gb178 ≠ gb188)); have n9_ := Aside0.mk ((by rw [hg]; exact Nat.ne_of_gt (blk_lt (g := gb178) (o := .cells #[.int .i64 x179000_2, .int .i64 x179001_2] 30 (0, 0)) (by (with_reducible repeat (first | refine blk_drewN ?_ _ | refine blk_drew ?_ | refine blk_alloc ?_ _)); exact BK178.out)) : gb188 ≠ gb178)); clear HO_4; clear HO_5; clear HO_8; clear BK178; clear HB; have HO_4 := n0_; have HO_5 := n1_; have HO_8 := n2_; have BK178 := n3_; have HB := n4_; have BK188 := n5_; have GW188 := n6_; have GE188 := n7_; have NB178_188 := n8_; have NB188_178 := n9_; clear n0_ n1_ n2_ n3_ n4_ n5_ n6_ n7_ n8_ n9_; clear hb hbox hg; have hnb36 := NB188_178.out; have hnc36 := NB178_188.out; have hcz37_0 : w35.cell? ⟨gb188, 0, none⟩ = some (.int .i64 0) := (blk_cell BK188.out 0).trans rfl; have hcz37_1 : w35.cell? ⟨gb188, 1, none⟩ = some (.int .i64 0) := (blk_cell BK188.out 1).trans rfl; have hfz37_0 := blk_frozen BK188.out 0; have hfz37_1 := blk_frozen BK188.out 1))
            have n0_ : Aside0 (Kd.R (Kd.int .i64) 3 ((w35.setCell ⟨gb188, 0, none⟩ (.int .i64 t186)).setCell ⟨gb188, 1, none⟩ (.int .i64 t187)) w.heap.size (fun k_ => some k_ ≠ (u8 : Value).ownBlock) (.slice Ao33 x4_2.length co33) x4_2) := ⟨by (with_reducible repeat (first | apply Kd.R_alloc | apply Kd.R_drewN | apply Kd.R_drew)); exact Kd.R_mono (Kd.R_far (p := ⟨gb188, 1, none⟩) (Kd.R_far (p := ⟨gb188, 0, none⟩) (Kd.R_types HO_4.out BK188.out (by decide)) (fun _ hk => hk.2) (.int .i64 t186)) (fun _ hk => hk.2) (.int .i64 t187)) (fun _ hk => hk.1)⟩
            have n1_ : Aside0 (Kd.R Kd.string 9 ((w35.setCell ⟨gb188, 0, none⟩ (.int .i64 t186)).setCell ⟨gb188, 1, none⟩ (.int .i64 t187)) w.heap.size (fun _ => True) u5 x5_2) := ⟨by (with_reducible repeat (first | apply Kd.R_alloc | apply Kd.R_drewN | apply Kd.R_drew)); exact Kd.R_mono (Kd.R_far (p := ⟨gb188, 1, none⟩) (Kd.R_far (p := ⟨gb188, 0, none⟩) (Kd.R_types HO_5.out BK188.out (by decide)) (fun _ hk => hk.2) (.int .i64 t186)) (fun _ hk => hk.2) (.int .i64 t187)) (fun _ hk => trivial)⟩
            have n2_ : Aside0 (Kd.R (Kd.int .i64) 3 ((w35.setCell ⟨gb188, 0, none⟩ (.int .i64 t186)).setCell ⟨gb188, 1, none⟩ (.int .i64 t187)) w.heap.size (fun k_ => some k_ ≠ (.slice Ao33 x4_2.length co33 : Value).ownBlock) u8 x8_2) := ⟨by (with_reducible repeat (first | apply Kd.R_alloc | apply Kd.R_drewN | apply Kd.R_drew)); exact Kd.R_mono (Kd.R_far (p := ⟨gb188, 1, none⟩) (Kd.R_far (p := ⟨gb188, 0, none⟩) (Kd.R_types HO_8.out BK188.out (by decide)) (fun _ hk => hk.2) (.int .i64 t186)) (fun _ hk => hk.2) (.int .i64 t187)) (fun _ hk => hk.1)⟩
            have n3_ : Aside0 (((w35.setCell ⟨gb188, 0, none⟩ (.int .i64 t186)).setCell ⟨gb188, 1, none⟩ (.int .i64 t187)).heap[gb178]? = some (.cells #[.int .i64 x179000_2, .int .i64 x179001_2] 30 (0, 0))) := ⟨by (with_reducible repeat (first | refine blk_drewN ?_ _ | refine blk_drew ?_ | refine blk_alloc ?_ _)); refine blk_far ?_ NB178_188.out _; (with_reducible repeat (first | refine blk_drewN ?_ _ | refine blk_drew ?_ | refine blk_alloc ?_ _)); refine blk_far ?_ NB178_188.out _; (with_reducible repeat (first | refine blk_drewN ?_ _ | refine blk_drew ?_ | refine blk_alloc ?_ _)); exact BK178.out⟩
            have n4_ : Aside0 (((w35.setCell ⟨gb188, 0, none⟩ (.int .i64 t186)).setCell ⟨gb188, 1, none⟩ (.int .i64 t187)).heap[gb188]? = some (.cells #[.int .i64 t186, .int .i64 t187] 63 (0, 0))) := ⟨by (with_reducible repeat (first | refine blk_drewN ?_ _ | refine blk_drew ?_ | refine blk_alloc ?_ _)); refine blk_put (cs := #[.int .i64 t186, .int .i64 0]) ?_ 1 _ rfl; (with_reducible repeat (first | refine blk_drewN ?_ _ | refine blk_drew ?_ | refine blk_alloc ?_ _)); refine blk_put (cs := #[.int .i64 0, .int .i64 0]) ?_ 0 _ rfl; (with_reducible repeat (first | refine blk_drewN ?_ _ | refine blk_drew ?_ | refine blk_alloc ?_ _)); exact BK188.out⟩
            have n5_ : Aside0 (Below w.heap.size w ((w35.setCell ⟨gb188, 0, none⟩ (.int .i64 t186)).setCell ⟨gb188, 1, none⟩ (.int .i64 t187))) := ⟨BS2 GE178.out GE188.out⟩
            (try clear HO_4)
            (try clear HO_5)
            (try clear HO_8)
            (try clear BK178)
            (try clear BK188)
            (try clear HB)
            generalize ((w35.setCell ⟨gb188, 0, none⟩ (.int .i64 t186)).setCell ⟨gb188, 1, none⟩ (.int .i64 t187)) = w38 at n0_ n1_ n2_ n3_ n4_ n5_ ⊢
            have HO_4 := n0_
            have HO_5 := n1_
            have HO_8 := n2_
            have BK178 := n3_
            have BK188 := n4_
            have HB := n5_
            clear n0_ n1_ n2_ n3_ n4_ n5_
            have n0_ := Aside0.mk (Kd.R_drew HO_4.out)
            have n1_ := Aside0.mk (Kd.R_drew HO_5.out)
            have n2_ := Aside0.mk (Kd.R_drew HO_8.out)
            have n3_ := Aside0.mk (blk_drew BK178.out)
            have n4_ := Aside0.mk (blk_drew BK188.out)
            have n5_ := Aside0.mk (below_drew1 HB.out)
            clear HO_4
            clear HO_5
            clear HO_8
            clear BK178
            clear BK188
            clear HB
            have HO_4 := n0_
            have HO_5 := n1_
            have HO_8 := n2_
            have BK178 := n3_
            have BK188 := n4_
            have HB := n5_
            clear n0_ n1_ n2_ n3_ n4_ n5_
            refine start_ (n := 12) (S := fun w' => w'.cell? ⟨gb188, 0, none⟩ = some (.int .i64 t186) ∧ w'.cell? ⟨gb188, 1, none⟩ = some (.int .i64 t187)) (ds := []) #[false, false, false, false, false, false, false, false, false, false, false, false] (by kernel_rfl) rfl rfl ⟨(blk_cell BK188.out 0).trans rfl, (blk_cell BK188.out 1).trans rfl⟩ (fun hHeld => ?_); refine with_tabW depend_Parse.tab13 depend_Parse.bits13 (fun HT_ HW_ => ?_)
            generalize w38.drew = w39 at HO_4 HO_5 HO_8 BK178 BK188 HB hHeld ⊢
            refine pure_ (i := 0) (N := some 60) (v := ?_) (a' := ?_) #[true, false, false, false, false, false, false, false, false, false, false, false] rfl rfl (any_of HT_.out (by kernel_rfl)) (fun _ _ _ h => h) (Or.inl ⟨by rfl, ?_⟩) ?_ ?_
            rotate_left
            ·
             intro w'
             go_simp
             with_reducible rfl
            rotate_left
            ·
             simp only [Act.put, List.setIfInBounds_toArray, List.set_cons_zero, List.set_cons_succ, i64_w, i32_w]
             rfl
            refine pure_ (i := 1) (N := some 61) (v := ?_) (a' := ?_) #[true, true, false, false, false, false, false, false, false, false, false, false] rfl rfl (any_of HT_.out (by kernel_rfl)) (fun _ _ _ h => h) (Or.inl ⟨by rfl, ?_⟩) ?_ ?_
            rotate_left
            ·
             intro w'
             go_simp
             with_reducible rfl
            rotate_left
            ·
             simp only [Act.put, List.setIfInBounds_toArray, List.set_cons_zero, List.set_cons_succ, i64_w, i32_w]
             rfl
            refine pure_ (i := 2) (N := some 62) (v := ?_) (a' := ?_) #[true, true, true, false, false, false, false, false, false, false, false, false] rfl rfl (any_of HT_.out (by kernel_rfl)) (fun _ _ _ h => h) (Or.inl ⟨by rfl, ?_⟩) ?_ ?_
            rotate_left
            ·
             intro w'
             go_simp
             with_reducible rfl
            rotate_left
            ·
             simp only [Act.put, List.setIfInBounds_toArray, List.set_cons_zero, List.set_cons_succ, i64_w, i32_w]
             rfl
            refine pure_ (i := 6) (N := some 66) (v := ?_) (a' := ?_) #[true, true, true, false, false, false, true, false, false, false, false, false] rfl rfl (any_of HT_.out (by kernel_rfl)) (fun _ _ _ h => h) (Or.inl ⟨by rfl, ?_⟩) ?_ ?_
            rotate_left
            ·
             intro w'
             go_simp
             with_reducible rfl
            rotate_left
            ·
             simp only [Act.put, List.setIfInBounds_toArray, List.set_cons_zero, List.set_cons_succ, i64_w, i32_w]
             rfl
            refine take_ (i := 3) (N := some 63) (v := ?_) (a' := ?_) #[true, true, true, true, false, false, true, false, false, false, false, false] rfl rfl (take_ofW HT_.out HW_.out (by kernel_rfl)) (fun _ _ _ h => h) (Or.inl ⟨by rfl, ?_⟩) hHeld ?_ ?_
            rotate_left
            ·
             rintro w' ⟨s0, s1⟩
             go_simp
             with_reducible rfl
            rotate_left
            ·
             simp only [Act.put, List.setIfInBounds_toArray, List.set_cons_zero, List.set_cons_succ, i64_w, i32_w]
             rfl
            refine pure_ (i := 4) (N := some 64) (v := ?_) (a' := ?_) #[true, true, true, true, true, false, true, false, false, false, false, false] rfl rfl (any_of HT_.out (by kernel_rfl)) (fun _ _ _ h => h) (Or.inl ⟨by rfl, ?_⟩) ?_ ?_
            rotate_left
            ·
             intro w'
             go_simp
             with_reducible rfl
            rotate_left
            ·
             simp only [Act.put, List.setIfInBounds_toArray, List.set_cons_zero, List.set_cons_succ, i64_w, i32_w]
             rfl
            refine take_ (i := 7) (N := some 67) (v := ?_) (a' := ?_) #[true, true, true, true, true, false, true, true, false, false, false, false] rfl rfl (take_ofW HT_.out HW_.out (by kernel_rfl)) (fun _ _ _ h => h) (Or.inl ⟨by rfl, ?_⟩) hHeld ?_ ?_
            rotate_left
            ·
             rintro w' ⟨s0, s1⟩
             go_simp
             with_reducible rfl
            rotate_left
            ·
             simp only [Act.put, List.setIfInBounds_toArray, List.set_cons_zero, List.set_cons_succ, i64_w, i32_w]
             rfl
            refine one_ (i := 5) (N := some 65) #[true, true, true, true, true, true, true, true, false, false, false, false] rfl rfl (one_of HT_.out (by kernel_rfl)) (by decide) (fun K hK => ?_)
            refine goes_ Tryd.func23 (by kernel_rfl) rfl #[.string a0, .int .i64 (wrap64 (x9_2 + t186))] (by rfl) rfl rfl BM ?_
            with_reducible refine (codepoint_Position.calls a0 (wrap64 (x9_2 + t186)) t198 t199 _ A32.out).mono ?_
            rintro e w40 ⟨rfl, hb⟩
            refine ⟨_, rfl, ?_⟩
            have n0_ := Aside0.mk (Kd.R_below (BR HO_4.out) hb)
            have n1_ := Aside0.mk (Kd.R_below (BR HO_5.out) hb)
            have n2_ := Aside0.mk (Kd.R_below (BR HO_8.out) hb)
            have n3_ := Aside0.mk (blk_below (g := gb178) (o := .cells #[.int .i64 x179000_2, .int .i64 x179001_2] 30 (0, 0)) (by (with_reducible repeat (first | refine blk_drewN ?_ _ | refine blk_drew ?_ | refine blk_alloc ?_ _)); exact BK178.out) hb)
            have n4_ := Aside0.mk (blk_below (g := gb188) (o := .cells #[.int .i64 t186, .int .i64 t187] 63 (0, 0)) (by (with_reducible repeat (first | refine blk_drewN ?_ _ | refine blk_drew ?_ | refine blk_alloc ?_ _)); exact BK188.out) hb)
            have n5_ := Aside0.mk (below_step (BS2 GE178.out GE188.out) hb)
            clear HO_4
            clear HO_5
            clear HO_8
            clear BK178
            clear BK188
            clear HB
            have HO_4 := n0_
            have HO_5 := n1_
            have HO_8 := n2_
            have BK178 := n3_
            have BK188 := n4_
            have HB := n5_
            clear n0_ n1_ n2_ n3_ n4_ n5_
            (try clear hb)
            (try clear hb2)
            (try clear hk)
            (try clear hi)
            refine hK.out _ _ ⟨(blk_cell BK188.out 0).trans rfl, (blk_cell BK188.out 1).trans rfl⟩ (fun hHeld => ?_)
            clear hK K
            refine norm_ (a' := ?_) ?_ ?_
            rotate_left
            ·
             show Act.put _ (some 65) _ = _
             simp only [Act.put, List.setIfInBounds_toArray, List.set_cons_zero, List.set_cons_succ, i64_w, i32_w]
             rfl
            refine pure_ (i := 8) (N := some 4) (v := ?_) (a' := ?_) #[true, true, true, true, true, true, true, true, true, false, false, false] rfl rfl (any_of HT_.out (by kernel_rfl)) (fun _ _ _ h => h) (Or.inl ⟨by rfl, ?_⟩) ?_ ?_
            rotate_left
            ·
             intro w'
             go_simp
             with_reducible rfl
            rotate_left
            ·
             simp only [Act.put, List.setIfInBounds_toArray, List.set_cons_zero, List.set_cons_succ, i64_w, i32_w]
             rfl
            refine pure_ (i := 9) (N := some 5) (v := ?_) (a' := ?_) #[true, true, true, true, true, true, true, true, true, true, false, false] rfl rfl (any_of HT_.out (by kernel_rfl)) (fun _ _ _ h => h) (Or.inl ⟨by rfl, ?_⟩) ?_ ?_
            rotate_left
            ·
             intro w'
             go_simp
             with_reducible rfl
            rotate_left
            ·
             simp only [Act.put, List.setIfInBounds_toArray, List.set_cons_zero, List.set_cons_succ, i64_w, i32_w]
             rfl
            refine one_ (i := 10) (N := none) #[true, true, true, true, true, true, true, true, true, true, true, false] rfl rfl (one_of HT_.out (by kernel_rfl)) (by decide) (fun K hK => ?_)
            have hs41 : w40.cell? ⟨gb178, 0, none⟩ = some (.int .i64 x179000_2) := (blk_cell BK178.out 0).trans rfl
            have hfs41 := blk_frozen BK178.out 0
            have hns41_1 := NB188_178.out
            have hms41_1 := NB178_188.out
            have hs42 : w40.cell? ⟨gb178, 1, none⟩ = some (.int .i64 x179001_2) := (blk_cell BK178.out 1).trans rfl
            have hfs42 := blk_frozen BK178.out 1
            have hns42_1 := NB188_178.out
            have hms42_1 := NB178_188.out
            refine skip_ (w1 := ?_) (by rfl) rfl ?_ ?_
            rotate_left
            ·
             go_simp
             rfl
            refine hK.out _ _ ⟨((cell_far (p := ⟨gb178, _, none⟩) NB188_178.out _).trans (((cell_far (p := ⟨gb178, _, none⟩) NB188_178.out _).trans (hHeld.1)))), ((cell_far (p := ⟨gb178, _, none⟩) NB188_178.out _).trans (((cell_far (p := ⟨gb178, _, none⟩) NB188_178.out _).trans (hHeld.2))))⟩ (fun hHeld => ?_)
            clear hK K
            refine pure_ (i := 11) (N := some 7) (v := ?_) (a' := ?_) #[true, true, true, true, true, true, true, true, true, true, true, true] rfl rfl (any_of HT_.out (by kernel_rfl)) (fun _ _ _ h => h) (Or.inl ⟨by rfl, ?_⟩) ?_ ?_
            rotate_left
            ·
             intro w'
             go_simp
             with_reducible rfl
            rotate_left
            ·
             simp only [Act.put, List.setIfInBounds_toArray, List.set_cons_zero, List.set_cons_succ, i64_w, i32_w]
             rfl
            refine done_ (done_of HT_.out (by kernel_rfl)) ?_
            try go_wp2
            refine bodyPost_ret (results_list (rs := [.tmp 4, .tmp 5, .cell 6 30, .tmp 7]) rfl (by simp) (.tmp (.tmp (.cell gb178 30 #[.int .i64 t198, .int .i64 t199] (0, 0) _ rfl (by (with_reducible repeat (first | refine blk_drewN ?_ _ | refine blk_drew ?_ | refine blk_alloc ?_ _)); refine blk_put (cs := #[.int .i64 t198, .int .i64 x179001_2]) ?_ 1 _ rfl; (with_reducible repeat (first | refine blk_drewN ?_ _ | refine blk_drew ?_ | refine blk_alloc ?_ _)); refine blk_put (cs := #[.int .i64 x179000_2, .int .i64 x179001_2]) ?_ 0 _ rfl; (with_reducible repeat (first | refine blk_drewN ?_ _ | refine blk_drew ?_ | refine blk_alloc ?_ _)); exact BK178.out) Tryd.underlying30 rfl (by kernel_rfl) (.tmp .nil))))) rfl ?_
            exact ⟨_, _, BX, by first | exact Kd.R_nil _ _ _ _ _ | exact Kd.N_nil _ _ _ _ _ | exact Kd.V_nil _ _ _ _ _ | exact Kd.Q_nil _ _ _ _ _ | exact Kd.S_nil _ _ _ _ _, by first | exact Kd.R_nil _ _ _ _ _ | exact Kd.N_nil _ _ _ _ _ | exact Kd.V_nil _ _ _ _ _ | exact Kd.Q_nil _ _ _ _ _ | exact Kd.S_nil _ _ _ _ _, BS2 GE178.out GE188.out⟩
         ·
          rw [if_neg c12] at H
          exact absurd H (by simp)
        ·
         rw [if_neg c11] at H
         exact absurd H (by simp)
       ·
        rw [if_neg c10] at H
        have c10b0 : decide (x9_2 < (a0.size : Int)) = false := decide_eq_false c10
        clear c10
        by_cases c43 : (x4_2.length : Int) < a1
        ·
         rw [if_pos c43] at H
         have c43b0 : decide ((x4_2.length : Int) < a1) = true := decide_eq_true c43
         clear c43
         replace H := Option.bind_eq_some_iff.mp H
         obtain ⟨⟨t200, t201⟩, A440, H⟩ := H
         replace H : (some (([] : List Int), ([] : List ByteArray), t200, t201, 15)) = some (r1, r2, r3, r4, r5) := H
         have A44 := Aside0.mk A440
         clear A440
         simp only [Option.some.injEq, Prod.mk.injEq] at H
         obtain ⟨rfl, rfl, rfl, rfl, rfl⟩ := H
         obtain ⟨Ao45, co45, eo45⟩ := Kd.R_slice HO_4.out
         subst eo45
         go_wp2_with (first | ((with_reducible refine gate_callee (f := 23) rfl ?_); refine goesL_ (some 92) rfl rfl Tryd.func23 (by kernel_rfl) rfl #[.string a0, .int .i64 (a0.size : Int)] rfl BM ?_; (with_reducible refine (codepoint_Position.calls a0 (a0.size : Int) t200 t201 _ A44.out).mono ?_); rintro e w46 ⟨rfl, hb⟩; refine ⟨_, rfl, ?_⟩; have n0_ := Aside0.mk (Kd.R_below (BR HO_4.out) hb); have n1_ := Aside0.mk (Kd.R_below (BR HO_5.out) hb); have n2_ := Aside0.mk (Kd.R_below (BR HO_8.out) hb); have n3_ := Aside0.mk (blk_below (g := gb178) (o := .cells #[.int .i64 x179000_2, .int .i64 x179001_2] 30 (0, 0)) (by (with_reducible repeat (first | refine blk_drewN ?_ _ | refine blk_drew ?_ | refine blk_alloc ?_ _)); exact BK178.out) hb); have n4_ := Aside0.mk (below_step (BS GE178.out) hb); clear HO_4; clear HO_5; clear HO_8; clear BK178; clear HB; have HO_4 := n0_; have HO_5 := n1_; have HO_8 := n2_; have BK178 := n3_; have HB := n4_; clear n0_ n1_ n2_ n3_ n4_; (try clear hb); (try clear hb2); (try clear hk); (try clear hi); have hcz47_0 : w46.cell? ⟨gb178, 0, none⟩ = some (.int .i64 x179000_2) := (blk_cell BK178.out 0).trans rfl; have hcz47_1 : w46.cell? ⟨gb178, 1, none⟩ = some (.int .i64 x179001_2) := (blk_cell BK178.out 1).trans rfl; have hfz47_0 := blk_frozen BK178.out 0; have hfz47_1 := blk_frozen BK178.out 1))
         refine bodyPost_ret (results_list (rs := [.tmp 4, .tmp 5, .cell 6 30, .tmp 7]) rfl (by simp) (.tmp (.tmp (.cell gb178 30 #[.int .i64 t200, .int .i64 t201] (0, 0) _ rfl (by (with_reducible repeat (first | refine blk_drewN ?_ _ | refine blk_drew ?_ | refine blk_alloc ?_ _)); refine blk_put (cs := #[.int .i64 t200, .int .i64 x179001_2]) ?_ 1 _ rfl; (with_reducible repeat (first | refine blk_drewN ?_ _ | refine blk_drew ?_ | refine blk_alloc ?_ _)); refine blk_put (cs := #[.int .i64 x179000_2, .int .i64 x179001_2]) ?_ 0 _ rfl; (with_reducible repeat (first | refine blk_drewN ?_ _ | refine blk_drew ?_ | refine blk_alloc ?_ _)); exact BK178.out) Tryd.underlying30 rfl (by kernel_rfl) (.tmp .nil))))) rfl ?_
         exact ⟨_, _, BX, by first | exact Kd.R_nil _ _ _ _ _ | exact Kd.N_nil _ _ _ _ _ | exact Kd.V_nil _ _ _ _ _ | exact Kd.Q_nil _ _ _ _ _ | exact Kd.S_nil _ _ _ _ _, by first | exact Kd.R_nil _ _ _ _ _ | exact Kd.N_nil _ _ _ _ _ | exact Kd.V_nil _ _ _ _ _ | exact Kd.Q_nil _ _ _ _ _ | exact Kd.S_nil _ _ _ _ _, BS GE178.out⟩
        ·
         rw [if_neg c43] at H
         have c43b0 : decide ((x4_2.length : Int) < a1) = false := decide_eq_false c43
         clear c43
         replace H := Option.bind_eq_some_iff.mp H
         obtain ⟨⟨t202, t203⟩, A480, H⟩ := H
         replace H : (if t203 = 0 then (some (x4_2, x5_2, 0, 0, 0)) else (if 0 ≤ t202 then (if t202 < (x8_2.length : Int) then ((codepoint_Position.f a0 (rd x8_2 t202)).bind fun bt205 => (some (([] : List Int), ([] : List ByteArray), bt205.1, bt205.2, t203))) else (none)) else (none))) = some (r1, r2, r3, r4, r5) := H
         have A48 := Aside0.mk A480
         clear A480
         by_cases c49 : t203 = 0
         ·
          rw [if_pos c49] at H
          have c49b0 : (t203 == 0) = true := beq_iff_eq.mpr c49
          have c49b1 : (t203 != 0) = false := bne_eq_false_iff_eq.mpr c49
          clear c49
          simp only [Option.some.injEq, Prod.mk.injEq] at H
          obtain ⟨rfl, rfl, rfl, rfl, rfl⟩ := H
          obtain ⟨Ao50, co50, eo50⟩ := Kd.R_slice HO_4.out
          subst eo50
          go_wp2_with (first | ((with_reducible refine gate_callee (f := 13) rfl ?_); refine goesL_ (some 95) rfl rfl Tryd.func13 (by kernel_rfl) rfl #[.slice Ao50 x4_2.length co50] rfl BM ?_; (with_reducible refine (depend_Check.calls k2 _ _ x4_2 t202 t203 _ ?side1 ?side2 A48.out).mono ?_); (case side1 => repeat (first | exact (Kd.R_reads' HO_4.out).2.2 | (with_reducible refine Kd.C_alloc ?_ _) | (with_reducible refine Kd.C_drewN ?_ _) | (with_reducible refine Kd.C_drew ?_))); (case side2 => exact (Kd.R_reads' HO_4.out).2.1); rintro e w51 ⟨rfl, hb⟩; refine ⟨_, rfl, ?_⟩; have n0_ := Aside0.mk (Kd.R_below (BR HO_4.out) hb); have n1_ := Aside0.mk (Kd.R_below (BR HO_5.out) hb); have n2_ := Aside0.mk (Kd.R_below (BR HO_8.out) hb); have n3_ := Aside0.mk (blk_below (g := gb178) (o := .cells #[.int .i64 x179000_2, .int .i64 x179001_2] 30 (0, 0)) (by (with_reducible repeat (first | refine blk_drewN ?_ _ | refine blk_drew ?_ | refine blk_alloc ?_ _)); exact BK178.out) hb); have n4_ := Aside0.mk (below_step (BS GE178.out) hb); clear HO_4; clear HO_5; clear HO_8; clear BK178; clear HB; have HO_4 := n0_; have HO_5 := n1_; have HO_8 := n2_; have BK178 := n3_; have HB := n4_; clear n0_ n1_ n2_ n3_ n4_; (try clear hb); (try clear hb2); (try clear hk); (try clear hi); have hcz52_0 : w51.cell? ⟨gb178, 0, none⟩ = some (.int .i64 x179000_2) := (blk_cell BK178.out 0).trans rfl; have hcz52_1 : w51.cell? ⟨gb178, 1, none⟩ = some (.int .i64 x179001_2) := (blk_cell BK178.out 1).trans rfl; have hfz52_0 := blk_frozen BK178.out 0; have hfz52_1 := blk_frozen BK178.out 1))
          refine bodyPost_ret (results_list (rs := [.tmp 4, .tmp 5, .cell 6 30, .tmp 7]) rfl (by simp) (.tmp (.tmp (.cell gb178 30 #[.int .i64 0, .int .i64 0] (0, 0) _ rfl (by (with_reducible repeat (first | refine blk_drewN ?_ _ | refine blk_drew ?_ | refine blk_alloc ?_ _)); refine blk_put (cs := #[.int .i64 0, .int .i64 x179001_2]) ?_ 1 _ rfl; (with_reducible repeat (first | refine blk_drewN ?_ _ | refine blk_drew ?_ | refine blk_alloc ?_ _)); refine blk_put (cs := #[.int .i64 x179000_2, .int .i64 x179001_2]) ?_ 0 _ rfl; (with_reducible repeat (first | refine blk_drewN ?_ _ | refine blk_drew ?_ | refine blk_alloc ?_ _)); exact BK178.out) Tryd.underlying30 rfl (by kernel_rfl) (.tmp .nil))))) rfl ?_
          exact ⟨_, _, BX, by (with_reducible repeat (first | apply Kd.R_alloc | apply Kd.R_drewN | apply Kd.R_drew)); exact Kd.R_mono (Kd.R_far (p := ⟨gb178, 1, none⟩) (Kd.R_far (p := ⟨gb178, 0, none⟩) (Kd.R_types HO_4.out BK178.out (by decide)) (fun _ hk => hk.2) (.int .i64 0)) (fun _ hk => hk.2) (.int .i64 0)) (fun _ hk => trivial), by (with_reducible repeat (first | apply Kd.R_alloc | apply Kd.R_drewN | apply Kd.R_drew)); exact Kd.R_mono (Kd.R_far (p := ⟨gb178, 1, none⟩) (Kd.R_far (p := ⟨gb178, 0, none⟩) (Kd.R_types HO_5.out BK178.out (by decide)) (fun _ hk => hk.2) (.int .i64 0)) (fun _ hk => hk.2) (.int .i64 0)) (fun _ hk => trivial), BS GE178.out⟩
         ·
          rw [if_neg c49] at H
          have c49b0 : (t203 == 0) = false := beq_eq_false_iff_ne.mpr c49
          have c49b1 : (t203 != 0) = true := bne_iff_ne.mpr c49
          by_cases c53 : 0 ≤ t202
          ·
           rw [if_pos c53] at H
           have c53b0 : decide (0 ≤ t202) = true := decide_eq_true c53
           clear c53
           by_cases c54 : t202 < (x8_2.length : Int)
           ·
            rw [if_pos c54] at H
            have c54b0 : decide (t202 < (x8_2.length : Int)) = true := decide_eq_true c54
            clear c54
            replace H := Option.bind_eq_some_iff.mp H
            obtain ⟨⟨t205, t206⟩, A550, H⟩ := H
            replace H : (some (([] : List Int), ([] : List ByteArray), t205, t206, t203)) = some (r1, r2, r3, r4, r5) := H
            have A55 := Aside0.mk A550
            clear A550
            simp only [Option.some.injEq, Prod.mk.injEq] at H
            obtain ⟨rfl, rfl, rfl, rfl, rfl⟩ := H
            obtain ⟨Ao56, co56, eo56⟩ := Kd.R_slice HO_4.out
            subst eo56
            go_wp2_with (first | ((with_reducible refine gate_callee (f := 13) rfl ?_); refine goesL_ (some 95) rfl rfl Tryd.func13 (by kernel_rfl) rfl #[.slice Ao56 x4_2.length co56] rfl BM ?_; (with_reducible refine (depend_Check.calls k2 _ _ x4_2 t202 t203 _ ?side1 ?side2 A48.out).mono ?_); (case side1 => repeat (first | exact (Kd.R_reads' HO_4.out).2.2 | (with_reducible refine Kd.C_alloc ?_ _) | (with_reducible refine Kd.C_drewN ?_ _) | (with_reducible refine Kd.C_drew ?_))); (case side2 => exact (Kd.R_reads' HO_4.out).2.1); rintro e w57 ⟨rfl, hb⟩; refine ⟨_, rfl, ?_⟩; have n0_ := Aside0.mk (Kd.R_below (BR HO_4.out) hb); have n1_ := Aside0.mk (Kd.R_below (BR HO_5.out) hb); have n2_ := Aside0.mk (Kd.R_below (BR HO_8.out) hb); have n3_ := Aside0.mk (blk_below (g := gb178) (o := .cells #[.int .i64 x179000_2, .int .i64 x179001_2] 30 (0, 0)) (by (with_reducible repeat (first | refine blk_drewN ?_ _ | refine blk_drew ?_ | refine blk_alloc ?_ _)); exact BK178.out) hb); have n4_ := Aside0.mk (below_step (BS GE178.out) hb); clear HO_4; clear HO_5; clear HO_8; clear BK178; clear HB; have HO_4 := n0_; have HO_5 := n1_; have HO_8 := n2_; have BK178 := n3_; have HB := n4_; clear n0_ n1_ n2_ n3_ n4_; (try clear hb); (try clear hb2); (try clear hk); (try clear hi); obtain ⟨Ao58, co58, eo58⟩ := Kd.R_slice HO_8.out; subst eo58; have p204 : 0 ≤ (t202 : Int) := OD; have q204 : t202 < (x8_2.length : Int) := OD; obtain ⟨ad204, e204, hx204_0⟩ := Kd.at_int (Kd.R_reads' HO_8.out).2.2 t202 p204 q204; cases e204; replace p204 := eq_true p204; replace q204 := eq_true q204) | ((with_reducible refine gate_callee (f := 23) rfl ?_); refine goesL_ (some 105) rfl rfl Tryd.func23 (by kernel_rfl) rfl #[.string a0, .int .i64 (rd x8_2 t202)] rfl BM ?_; (with_reducible refine (codepoint_Position.calls a0 (rd x8_2 t202) t205 t206 _ A55.out).mono ?_); rintro e w59 ⟨rfl, hb⟩; refine ⟨_, rfl, ?_⟩; have n0_ := Aside0.mk (Kd.R_below (BR HO_4.out) hb); have n1_ := Aside0.mk (Kd.R_below (BR HO_5.out) hb); have n2_ := Aside0.mk (Kd.R_below (BR HO_8.out) hb); have n3_ := Aside0.mk (blk_below (g := gb178) (o := .cells #[.int .i64 x179000_2, .int .i64 x179001_2] 30 (0, 0)) (by (with_reducible repeat (first | refine blk_drewN ?_ _ | refine blk_drew ?_ | refine blk_alloc ?_ _)); exact BK178.out) hb); have n4_ := Aside0.mk (below_step (BS GE178.out) hb); clear HO_4; clear HO_5; clear HO_8; clear BK178; clear HB; have HO_4 := n0_; have HO_5 := n1_; have HO_8 := n2_; have BK178 := n3_; have HB := n4_; clear n0_ n1_ n2_ n3_ n4_; (try clear hb); (try clear hb2); (try clear hk); (try clear hi); have hcz60_0 : w59.cell? ⟨gb178, 0, none⟩ = some (.int .i64 x179000_2) := (blk_cell BK178.out 0).trans rfl; have hcz60_1 : w59.cell? ⟨gb178, 1, none⟩ = some (.int .i64 x179001_2) := (blk_cell BK178.out 1).trans rfl; have hfz60_0 := blk_frozen BK178.out 0; have hfz60_1 := blk_frozen BK178.out 1))
            refine bodyPost_ret (results_list (rs := [.tmp 4, .tmp 5, .cell 6 30, .tmp 7]) rfl (by simp) (.tmp (.tmp (.cell gb178 30 #[.int .i64 t205, .int .i64 t206] (0, 0) _ rfl (by (with_reducible repeat (first | refine blk_drewN ?_ _ | refine blk_drew ?_ | refine blk_alloc ?_ _)); refine blk_put (cs := #[.int .i64 t205, .int .i64 x179001_2]) ?_ 1 _ rfl; (with_reducible repeat (first | refine blk_drewN ?_ _ | refine blk_drew ?_ | refine blk_alloc ?_ _)); refine blk_put (cs := #[.int .i64 x179000_2, .int .i64 x179001_2]) ?_ 0 _ rfl; (with_reducible repeat (first | refine blk_drewN ?_ _ | refine blk_drew ?_ | refine blk_alloc ?_ _)); exact BK178.out) Tryd.underlying30 rfl (by kernel_rfl) (.tmp .nil))))) rfl ?_
            exact ⟨_, _, BX, by first | exact Kd.R_nil _ _ _ _ _ | exact Kd.N_nil _ _ _ _ _ | exact Kd.V_nil _ _ _ _ _ | exact Kd.Q_nil _ _ _ _ _ | exact Kd.S_nil _ _ _ _ _, by first | exact Kd.R_nil _ _ _ _ _ | exact Kd.N_nil _ _ _ _ _ | exact Kd.V_nil _ _ _ _ _ | exact Kd.Q_nil _ _ _ _ _ | exact Kd.S_nil _ _ _ _ _, BS GE178.out⟩
           ·
            rw [if_neg c54] at H
            exact absurd H (by simp)
          ·
           rw [if_neg c53] at H
           exact absurd H (by simp)

end Go.Proofs.YtkanmafjjejpmaaDoor.P
