-- Written by a program of this session (wip/doprint.sh) out of the translation; Lean checks it.
import Derived.Test.YtkanmafjjejpmaaPx0
import Derived.Test.YtkanmafjjejpmaaPx27
import Derived.Test.YtkanmafjjejpmaaPx28
namespace Go.Proofs.Ytkanmafjjejpmaa.P
open Go.Proofs.Ytkanmafjjejpmaa.S
open Go.Proofs.Ytkanmafjjejpmaa.X
open Go.RowKit Go.Proofs.YtkanmafjjejpmaaW.PrintWords Go.Proofs.YtkanmafjjejpmaaW.PrintLast Go.Proofs.YtkanmafjjejpmaaW.PrintMore
attribute [local go_sem] max2_int min2_int max_two min_two max_three min_three max_four min_four   -- for this text's walks alone
set_option linter.unusedVariables false
set_option linter.unusedSimpArgs false

/-! ### corporaref09_Parse: function 22 -/
def corporaref09_Parse.j0 : Nat → ByteArray → Int → Bool → Option (List Int × List ByteArray × Int × Int × Int)
  | 0, _, _, _ => none
  | k + 1, x0, x1, x17 => if x17 = true then (some (([] : List Int), ([] : List ByteArray), 0, 0, 1)) else (if (x0.size : Int) > 1048576 then (some (([] : List Int), ([] : List ByteArray), 0, 0, 2)) else ((corporaref09_parse.f k x0 x1).bind fun bt406 => (if bt406.2.2.2 = 0 then (some (bt406.1, bt406.2.1, 0, 0, 0)) else ((corporaref01_Position.f k x0 bt406.2.2.1).bind fun bt414 => (some (([] : List Int), ([] : List ByteArray), bt414.1, bt414.2, bt406.2.2.2))))))
def corporaref09_Parse.f (k : Nat) (a0 : ByteArray) (a1 : Int) : Option (List Int × List ByteArray × Int × Int × Int) := if a1 < 0 then (corporaref09_Parse.j0 k a0 a1 true) else (corporaref09_Parse.j0 k a0 a1 (decide (a1 > 4096)))
theorem corporaref09_Parse.mono_l : ∀ k, (∀ y0 y1 y2, LeO (corporaref09_Parse.j0 k y0 y1 y2) (corporaref09_Parse.j0 (k + 1) y0 y1 y2))
 | 0 => fun _ _ _ r h => by simp [corporaref09_Parse.j0] at h
 | k + 1 => by
  have ih0 := corporaref09_Parse.mono_l k
  ·
   intro y0 y1 y2
   unfold corporaref09_Parse.j0
   with_reducible repeat' first | exact ih0 _ _ _ | exact corporaref01_Position.mono _ _ _ | exact corporaref09_parse.mono _ _ _ | exact LeO.refl _ | exact LeO.none _ | refine LeO.ite ?_ ?_ | refine LeO.bind ?_ (fun _ => ?_)
theorem corporaref09_Parse.mono : ∀ a0 a1 k, LeO (corporaref09_Parse.f k a0 a1) (corporaref09_Parse.f (k + 1) a0 a1) := by
 intro a0 a1 k
 have ih0 := corporaref09_Parse.mono_l k
 unfold corporaref09_Parse.f
 with_reducible repeat' first | exact ih0 _ _ _ | exact corporaref01_Position.mono _ _ _ | exact corporaref09_parse.mono _ _ _ | exact LeO.refl _ | exact LeO.none _ | refine LeO.ite ?_ ?_ | refine LeO.bind ?_ (fun _ => ?_)
set_option maxHeartbeats 8000000 in
set_option maxRecDepth 100000 in
theorem corporaref09_Parse.calls (k : Nat) (a0 : ByteArray) (a1 : Int) (r1 : List Int) (r2 : List ByteArray) (r3 : Int) (r4 : Int) (r5 : Int) (w : World) (h : corporaref09_Parse.f k a0 a1 = some (r1, r2, r3, r4, r5)) :
 Calls Try.prog 22 #[.string a0, .int .i64 a1] w fun e w' => ∃ v0_ v1_ : Value, e = .returned (.tuple #[v0_, v1_, .agg #[.int .i64 r3, .int .i64 r4], .int .i64 r5]) ∧ Kd.R (Kd.int .i64) 3 w' w.heap.size (fun _ => True) v0_ r1 ∧ Kd.R Kd.string 9 w' w.heap.size (fun _ => True) v1_ r2 ∧ Below w.heap.size w w' := by
 have hu36 := Try.underlying36
 have HB := Aside0.mk (Below.refl w.heap.size w)
 have H : (if a1 < 0 then (corporaref09_Parse.j0 k a0 a1 true) else (corporaref09_Parse.j0 k a0 a1 (decide (a1 > 4096)))) = some (r1, r2, r3, r4, r5) := h
 clear h
 have HC3 := Aside0.mk H
 clear H
 go_enter Try.func22, Try.ntmps22
 go_upto_region 1 with (first | ((with_reducible refine gate_dst (N := 6) rfl ?_); refine box_event ?hg (N := 6) ?hd (cs := #[.int .i64 0, .int .i64 0]) (t := 36) ?hr ?_; (case hd => rfl); (case hg => rfl); (case hr => first | (go_simp; done) | (go_simp; rfl)); intro gb405 hg w4 hbox hb; have n0_ := Aside0.mk (below_step (BB) hb); have n1_ := Aside0.mk (hbox); have n2_ := Aside0.mk ((by rw [hg]; exact (below_size (BB)) : w.heap.size ≤ gb405)); have n3_ := Aside0.mk ((by rw [hg]; exact (below_size (BB)) : w.heap.size ≤ gb405)); clear HB; have HB := n0_; have BK405 := n1_; have GW405 := n2_; have GE405 := n3_; clear n0_ n1_ n2_ n3_; clear hb hbox hg))
 (try simp only [Act.put, List.setIfInBounds_toArray, List.set_cons_zero, List.set_cons_succ])
 go_cut [17] (fun v17 wc => ∃ (kq : Nat) (x17_2 : Bool), v17 = .bool x17_2 ∧ Aside0 (corporaref09_Parse.j0 kq a0 a1 x17_2 = some (r1, r2, r3, r4, r5)) ∧ Aside0 (kq ≤ k) ∧ Aside0 (wc.heap[gb405]? = some (.cells #[.int .i64 0, .int .i64 0] 36 (0, 0))) ∧ Aside0 (Below w.heap.size w wc))
 case first =>
  have H := HC3.out
  clear HC3
  by_cases c5 : a1 < 0
  ·
   rw [if_pos c5] at H
   have c5b0 : decide (a1 < 0) = true := decide_eq_true c5
   clear c5
   (first | rw [c5b0] | (simp only [i64_w, i32_w]; rw [c5b0]) | skip)
   have H' := Aside0.mk H
   clear H
   go_wp2
   go_meet
   case rel => exact ⟨_, (true), (BE), H', ⟨by first | omega | exact Nat.le_refl _⟩, ⟨by (with_reducible repeat (first | refine blk_drewN ?_ _ | refine blk_drew ?_ | refine blk_alloc ?_ _)); exact BK405.out⟩, ⟨BS GE405.out⟩⟩
  ·
   rw [if_neg c5] at H
   have c5b0 : decide (a1 < 0) = false := decide_eq_false c5
   clear c5
   (first | rw [c5b0] | (simp only [i64_w, i32_w]; rw [c5b0]) | skip)
   have H' := Aside0.mk H
   clear H
   go_wp2
   go_meet
   case rel => exact ⟨_, (decide (a1 > 4096)), (BE), H', ⟨by first | omega | exact Nat.le_refl _⟩, ⟨by (with_reducible repeat (first | refine blk_drewN ?_ _ | refine blk_drew ?_ | refine blk_alloc ?_ _)); exact BK405.out⟩, ⟨BS GE405.out⟩⟩
 case rest =>
  clear HC3
  (try clear c2); (try clear p2); (try clear c5); (try clear c5b0)
  obtain ⟨kq, x17_2, rfl, HA, HJ2, BK405, HB⟩ := hcut
  cases kq with
  | zero => exact absurd HA.out (by simp [corporaref09_Parse.j0])
  | succ kj2 =>
   have H := HA.out
   clear HA
   simp only [corporaref09_Parse.j0] at H
   by_cases c6 : x17_2 = true
   ·
    subst c6
    have H1 : (some (([] : List Int), ([] : List ByteArray), 0, 0, 1)) = some (r1, r2, r3, r4, r5) := by rw [if_pos rfl] at H; exact H
    clear H
    have H := H1
    clear H1
    simp only [Option.some.injEq, Prod.mk.injEq] at H
    obtain ⟨rfl, rfl, rfl, rfl, rfl⟩ := H
    have hcz7_0 : wc.cell? ⟨gb405, 0, none⟩ = some (.int .i64 0) := (blk_cell BK405.out 0).trans rfl
    have hcz7_1 : wc.cell? ⟨gb405, 1, none⟩ = some (.int .i64 0) := (blk_cell BK405.out 1).trans rfl
    have hfz7_0 := blk_frozen BK405.out 0
    have hfz7_1 := blk_frozen BK405.out 1
    go_wp2
    refine bodyPost_ret (results_list (rs := [.tmp 4, .tmp 5, .cell 6 36, .tmp 7]) rfl (by simp) (.tmp (.tmp (.cell gb405 36 #[.int .i64 0, .int .i64 0] (0, 0) _ rfl (by (with_reducible repeat (first | refine blk_drewN ?_ _ | refine blk_drew ?_ | refine blk_alloc ?_ _)); refine blk_put (cs := #[.int .i64 0, .int .i64 0]) ?_ 1 _ rfl; (with_reducible repeat (first | refine blk_drewN ?_ _ | refine blk_drew ?_ | refine blk_alloc ?_ _)); refine blk_put (cs := #[.int .i64 0, .int .i64 0]) ?_ 0 _ rfl; (with_reducible repeat (first | refine blk_drewN ?_ _ | refine blk_drew ?_ | refine blk_alloc ?_ _)); exact BK405.out) Try.underlying36 rfl (by kernel_rfl) (.tmp .nil))))) rfl ?_
    exact ⟨_, _, BX, by first | exact Kd.R_nil _ _ _ _ _ | exact Kd.N_nil _ _ _ _ _ | exact Kd.V_nil _ _ _ _ _ | exact Kd.Q_nil _ _ _ _ _ | exact Kd.S_nil _ _ _ _ _, by first | exact Kd.R_nil _ _ _ _ _ | exact Kd.N_nil _ _ _ _ _ | exact Kd.V_nil _ _ _ _ _ | exact Kd.Q_nil _ _ _ _ _ | exact Kd.S_nil _ _ _ _ _, BS GE405.out⟩
   ·
    replace c6 := Bool.eq_false_iff.mpr c6
    subst c6
    have H1 : (if (a0.size : Int) > 1048576 then (some (([] : List Int), ([] : List ByteArray), 0, 0, 2)) else ((corporaref09_parse.f kj2 a0 a1).bind fun bt406 => (if bt406.2.2.2 = 0 then (some (bt406.1, bt406.2.1, 0, 0, 0)) else ((corporaref01_Position.f kj2 a0 bt406.2.2.1).bind fun bt414 => (some (([] : List Int), ([] : List ByteArray), bt414.1, bt414.2, bt406.2.2.2)))))) = some (r1, r2, r3, r4, r5) := by rw [if_neg (show ¬ (false = true) by decide)] at H; exact H
    clear H
    have H := H1
    clear H1
    by_cases c8 : (a0.size : Int) > 1048576
    ·
     rw [if_pos c8] at H
     have c8b0 : decide (1048576 < (a0.size : Int)) = true := decide_eq_true c8
     have c8b1 : decide (1048576 < a0.size) = true := decide_eq_true (by omega)
     clear c8
     simp only [Option.some.injEq, Prod.mk.injEq] at H
     obtain ⟨rfl, rfl, rfl, rfl, rfl⟩ := H
     have hcz9_0 : wc.cell? ⟨gb405, 0, none⟩ = some (.int .i64 0) := (blk_cell BK405.out 0).trans rfl
     have hcz9_1 : wc.cell? ⟨gb405, 1, none⟩ = some (.int .i64 0) := (blk_cell BK405.out 1).trans rfl
     have hfz9_0 := blk_frozen BK405.out 0
     have hfz9_1 := blk_frozen BK405.out 1
     go_wp2
     refine bodyPost_ret (results_list (rs := [.tmp 4, .tmp 5, .cell 6 36, .tmp 7]) rfl (by simp) (.tmp (.tmp (.cell gb405 36 #[.int .i64 0, .int .i64 0] (0, 0) _ rfl (by (with_reducible repeat (first | refine blk_drewN ?_ _ | refine blk_drew ?_ | refine blk_alloc ?_ _)); refine blk_put (cs := #[.int .i64 0, .int .i64 0]) ?_ 1 _ rfl; (with_reducible repeat (first | refine blk_drewN ?_ _ | refine blk_drew ?_ | refine blk_alloc ?_ _)); refine blk_put (cs := #[.int .i64 0, .int .i64 0]) ?_ 0 _ rfl; (with_reducible repeat (first | refine blk_drewN ?_ _ | refine blk_drew ?_ | refine blk_alloc ?_ _)); exact BK405.out) Try.underlying36 rfl (by kernel_rfl) (.tmp .nil))))) rfl ?_
     exact ⟨_, _, BX, by first | exact Kd.R_nil _ _ _ _ _ | exact Kd.N_nil _ _ _ _ _ | exact Kd.V_nil _ _ _ _ _ | exact Kd.Q_nil _ _ _ _ _ | exact Kd.S_nil _ _ _ _ _, by first | exact Kd.R_nil _ _ _ _ _ | exact Kd.N_nil _ _ _ _ _ | exact Kd.V_nil _ _ _ _ _ | exact Kd.Q_nil _ _ _ _ _ | exact Kd.S_nil _ _ _ _ _, BS GE405.out⟩
    ·
     rw [if_neg c8] at H
     have c8b0 : decide (1048576 < (a0.size : Int)) = false := decide_eq_false c8
     have c8b1 : decide (1048576 < a0.size) = false := decide_eq_false (by omega)
     clear c8
     replace H := Option.bind_eq_some_iff.mp H
     obtain ⟨⟨t406, t407, t408, t409⟩, A100, H⟩ := H
     replace H : (if t409 = 0 then (some (t406, t407, 0, 0, 0)) else ((corporaref01_Position.f kj2 a0 t408).bind fun bt414 => (some (([] : List Int), ([] : List ByteArray), bt414.1, bt414.2, t409)))) = some (r1, r2, r3, r4, r5) := H
     have A10 := Aside0.mk A100
     clear A100
     by_cases c11 : t409 = 0
     ·
      rw [if_pos c11] at H
      have c11b0 : (t409 == 0) = true := beq_iff_eq.mpr c11
      have c11b1 : (t409 != 0) = false := bne_eq_false_iff_eq.mpr c11
      clear c11
      simp only [Option.some.injEq, Prod.mk.injEq] at H
      obtain ⟨rfl, rfl, rfl, rfl, rfl⟩ := H
      go_wp2_with (first | ((with_reducible refine gate_callee (f := 33) rfl ?_); refine goesL_ (some 26) rfl rfl Try.func33 (by kernel_rfl) rfl #[.string a0, .int .i64 a1] rfl BM ?_; (with_reducible refine (corporaref09_parse.calls kj2 a0 a1 t406 t407 t408 t409 _ A10.out).mono ?_); rintro e w12 ⟨v410, v412, rfl, ho0, ho1, hb⟩; refine ⟨_, rfl, ?_⟩; have n0_ := Aside0.mk (Kd.R_lower ho0 (below_size (BS GE405.out))); have n1_ := Aside0.mk (Kd.R_lower ho1 (below_size (BS GE405.out))); have n2_ := Aside0.mk (blk_below (g := gb405) (o := .cells #[.int .i64 0, .int .i64 0] 36 (0, 0)) (by (with_reducible repeat (first | refine blk_drewN ?_ _ | refine blk_drew ?_ | refine blk_alloc ?_ _)); exact BK405.out) hb); have n3_ := Aside0.mk (below_step (BS GE405.out) hb); clear BK405; clear HB; have HO411 := n0_; have HO413 := n1_; have BK405 := n2_; have HB := n3_; clear n0_ n1_ n2_ n3_; (try clear hb); (try clear hb2); (try clear hk); (try clear hi); (try clear ho0); (try clear ho1); have hcz13_0 : w12.cell? ⟨gb405, 0, none⟩ = some (.int .i64 0) := (blk_cell BK405.out 0).trans rfl; have hcz13_1 : w12.cell? ⟨gb405, 1, none⟩ = some (.int .i64 0) := (blk_cell BK405.out 1).trans rfl; have hfz13_0 := blk_frozen BK405.out 0; have hfz13_1 := blk_frozen BK405.out 1))
      refine bodyPost_ret (results_list (rs := [.tmp 4, .tmp 5, .cell 6 36, .tmp 7]) rfl (by simp) (.tmp (.tmp (.cell gb405 36 #[.int .i64 0, .int .i64 0] (0, 0) _ rfl (by (with_reducible repeat (first | refine blk_drewN ?_ _ | refine blk_drew ?_ | refine blk_alloc ?_ _)); refine blk_put (cs := #[.int .i64 0, .int .i64 0]) ?_ 1 _ rfl; (with_reducible repeat (first | refine blk_drewN ?_ _ | refine blk_drew ?_ | refine blk_alloc ?_ _)); refine blk_put (cs := #[.int .i64 0, .int .i64 0]) ?_ 0 _ rfl; (with_reducible repeat (first | refine blk_drewN ?_ _ | refine blk_drew ?_ | refine blk_alloc ?_ _)); exact BK405.out) Try.underlying36 rfl (by kernel_rfl) (.tmp .nil))))) rfl ?_
      exact ⟨_, _, BX, by (with_reducible repeat (first | apply Kd.R_alloc | apply Kd.R_drewN | apply Kd.R_drew)); exact Kd.R_mono (Kd.R_far (p := ⟨gb405, 1, none⟩) (Kd.R_far (p := ⟨gb405, 0, none⟩) (Kd.R_types HO411.out BK405.out (by decide)) (fun _ hk => hk.2) (.int .i64 0)) (fun _ hk => hk.2) (.int .i64 0)) (fun _ hk => trivial), by (with_reducible repeat (first | apply Kd.R_alloc | apply Kd.R_drewN | apply Kd.R_drew)); exact Kd.R_mono (Kd.R_far (p := ⟨gb405, 1, none⟩) (Kd.R_far (p := ⟨gb405, 0, none⟩) (Kd.R_types HO413.out BK405.out (by decide)) (fun _ hk => hk.2) (.int .i64 0)) (fun _ hk => hk.2) (.int .i64 0)) (fun _ hk => trivial), BS GE405.out⟩
     ·
      rw [if_neg c11] at H
      have c11b0 : (t409 == 0) = false := beq_eq_false_iff_ne.mpr c11
      have c11b1 : (t409 != 0) = true := bne_iff_ne.mpr c11
      replace H := Option.bind_eq_some_iff.mp H
      obtain ⟨⟨t414, t415⟩, A140, H⟩ := H
      replace H : (some (([] : List Int), ([] : List ByteArray), t414, t415, t409)) = some (r1, r2, r3, r4, r5) := H
      have A14 := Aside0.mk A140
      clear A140
      simp only [Option.some.injEq, Prod.mk.injEq] at H
      obtain ⟨rfl, rfl, rfl, rfl, rfl⟩ := H
      go_wp2_with (first | ((with_reducible refine gate_callee (f := 33) rfl ?_); refine goesL_ (some 26) rfl rfl Try.func33 (by kernel_rfl) rfl #[.string a0, .int .i64 a1] rfl BM ?_; (with_reducible refine (corporaref09_parse.calls kj2 a0 a1 t406 t407 t408 t409 _ A10.out).mono ?_); rintro e w15 ⟨v410, v412, rfl, ho0, ho1, hb⟩; refine ⟨_, rfl, ?_⟩; have n0_ := Aside0.mk (Kd.R_lower ho0 (below_size (BS GE405.out))); have n1_ := Aside0.mk (Kd.R_lower ho1 (below_size (BS GE405.out))); have n2_ := Aside0.mk (blk_below (g := gb405) (o := .cells #[.int .i64 0, .int .i64 0] 36 (0, 0)) (by (with_reducible repeat (first | refine blk_drewN ?_ _ | refine blk_drew ?_ | refine blk_alloc ?_ _)); exact BK405.out) hb); have n3_ := Aside0.mk (below_step (BS GE405.out) hb); clear BK405; clear HB; have HO411 := n0_; have HO413 := n1_; have BK405 := n2_; have HB := n3_; clear n0_ n1_ n2_ n3_; (try clear hb); (try clear hb2); (try clear hk); (try clear hi); (try clear ho0); (try clear ho1)) | ((with_reducible refine gate_callee (f := 34) rfl ?_); refine goesL_ (some 35) rfl rfl Try.func34 (by kernel_rfl) rfl #[.string a0, .int .i64 t408] rfl BM ?_; (with_reducible refine (corporaref01_Position.calls kj2 a0 t408 t414 t415 _ A14.out).mono ?_); rintro e w16 ⟨rfl, hb⟩; refine ⟨_, rfl, ?_⟩; have n0_ := Aside0.mk (Kd.R_below (BR HO411.out) hb); have n1_ := Aside0.mk (Kd.R_below (BR HO413.out) hb); have n2_ := Aside0.mk (blk_below (g := gb405) (o := .cells #[.int .i64 0, .int .i64 0] 36 (0, 0)) (by (with_reducible repeat (first | refine blk_drewN ?_ _ | refine blk_drew ?_ | refine blk_alloc ?_ _)); exact BK405.out) hb); have n3_ := Aside0.mk (below_step (BS GE405.out) hb); clear HO411; clear HO413; clear BK405; clear HB; have HO411 := n0_; have HO413 := n1_; have BK405 := n2_; have HB := n3_; clear n0_ n1_ n2_ n3_; (try clear hb); (try clear hb2); (try clear hk); (try clear hi); have hcz17_0 : w16.cell? ⟨gb405, 0, none⟩ = some (.int .i64 0) := (blk_cell BK405.out 0).trans rfl; have hcz17_1 : w16.cell? ⟨gb405, 1, none⟩ = some (.int .i64 0) := (blk_cell BK405.out 1).trans rfl; have hfz17_0 := blk_frozen BK405.out 0; have hfz17_1 := blk_frozen BK405.out 1))
      refine bodyPost_ret (results_list (rs := [.tmp 4, .tmp 5, .cell 6 36, .tmp 7]) rfl (by simp) (.tmp (.tmp (.cell gb405 36 #[.int .i64 t414, .int .i64 t415] (0, 0) _ rfl (by (with_reducible repeat (first | refine blk_drewN ?_ _ | refine blk_drew ?_ | refine blk_alloc ?_ _)); refine blk_put (cs := #[.int .i64 t414, .int .i64 0]) ?_ 1 _ rfl; (with_reducible repeat (first | refine blk_drewN ?_ _ | refine blk_drew ?_ | refine blk_alloc ?_ _)); refine blk_put (cs := #[.int .i64 0, .int .i64 0]) ?_ 0 _ rfl; (with_reducible repeat (first | refine blk_drewN ?_ _ | refine blk_drew ?_ | refine blk_alloc ?_ _)); exact BK405.out) Try.underlying36 rfl (by kernel_rfl) (.tmp .nil))))) rfl ?_
      exact ⟨_, _, BX, by first | exact Kd.R_nil _ _ _ _ _ | exact Kd.N_nil _ _ _ _ _ | exact Kd.V_nil _ _ _ _ _ | exact Kd.Q_nil _ _ _ _ _ | exact Kd.S_nil _ _ _ _ _, by first | exact Kd.R_nil _ _ _ _ _ | exact Kd.N_nil _ _ _ _ _ | exact Kd.V_nil _ _ _ _ _ | exact Kd.Q_nil _ _ _ _ _ | exact Kd.S_nil _ _ _ _ _, BS GE405.out⟩

end Go.Proofs.Ytkanmafjjejpmaa.P
