-- Written by a program of this session (wip/doprint.sh) out of the translation; Lean checks it.
import Derived.Test.YtkanmafjjejpmaaDoorPx0
import Derived.Test.YtkanmafjjejpmaaDoorPx4
namespace Go.Proofs.YtkanmafjjejpmaaDoor.P
open Go.Proofs.YtkanmafjjejpmaaDoor.S
open Go.Proofs.YtkanmafjjejpmaaDoor.X
open Go.RowKit Go.Proofs.YtkanmafjjejpmaaDoorW.PrintWords Go.Proofs.YtkanmafjjejpmaaDoorW.PrintLast Go.Proofs.YtkanmafjjejpmaaDoorW.PrintMore
attribute [local go_sem] max2_int min2_int max_two min_two max_three min_three max_four min_four   -- for this text's walks alone
set_option linter.unusedVariables false
set_option linter.unusedSimpArgs false

/-! ### depend_line: function 24 -/
mutual
def depend_line.j1 : Nat → ByteArray → Int → Int → Int → Option (Int × ByteArray × Int × Int)
  | 0, _, _, _, _ => none
  | k + 1, x0, x1, x7, x8 => if x8 = 0 then (some (0, (⟨#[]⟩ : ByteArray), 0, 3)) else (if 0 < (x0.size : Int) then (if (bt x0 0) = 48 then (depend_line.j2 k x0 x1 x7 x8 (decide (x8 > 1))) else (depend_line.j2 k x0 x1 x7 x8 false)) else (none))
def depend_line.j2 : Nat → ByteArray → Int → Int → Int → Bool → Option (Int × ByteArray × Int × Int)
  | 0, _, _, _, _, _ => none
  | k + 1, x0, x1, x7, x8, x43 => if x43 = true then (some (0, (⟨#[]⟩ : ByteArray), 1, 3)) else (if x8 = (x0.size : Int) then (depend_line.j3 k x0 x1 x7 x8 true) else (if 0 ≤ x8 then (if x8 < (x0.size : Int) then (depend_line.j3 k x0 x1 x7 x8 ((bt x0 x8) != 9)) else (none)) else (none)))
def depend_line.j3 : Nat → ByteArray → Int → Int → Int → Bool → Option (Int × ByteArray × Int × Int)
  | 0, _, _, _, _, _ => none
  | k + 1, x0, x1, x7, x8, x52 => if x52 = true then (some (0, (⟨#[]⟩ : ByteArray), x8, 3)) else (if x7 > x1 then (some (0, (⟨#[]⟩ : ByteArray), 0, 8)) else (if 0 ≤ (wrap64 (x8 + 1)) then (if (wrap64 (x8 + 1)) ≤ (x0.size : Int) then (if (x0.extract ((wrap64 (x8 + 1)) : Int).toNat x0.size).toList = ([] : List UInt8) then (some (wrap64 (x7 - 1), x0.extract ((wrap64 (x8 + 1)) : Int).toNat x0.size, 0, 0)) else ((markup_ValidName.f k (x0.extract ((wrap64 (x8 + 1)) : Int).toNat x0.size)).bind fun t177 => (if t177 = true then (some (wrap64 (x7 - 1), x0.extract ((wrap64 (x8 + 1)) : Int).toNat x0.size, 0, 0)) else (some (0, (⟨#[]⟩ : ByteArray), wrap64 (x8 + 1), 4))))) else (none)) else (none)))
def depend_line.l0 : Nat → ByteArray → Int → Int → Int → Option (Int × ByteArray × Int × Int)
  | 0, _, _, _, _ => none
  | k + 1, x0, x1, x7, x8 => if x8 < (x0.size : Int) then (if 0 ≤ x8 then (if (bt x0 x8) ≥ 48 then (if (bt x0 x8) ≤ 57 then (depend_line.l0 k x0 x1 (mn (wrap64 ((wrap64 (10 * x7)) + (((bt x0 x8) - 48) % 256))) (wrap64 (x1 + 1))) (wrap64 (x8 + 1))) else (depend_line.j1 k x0 x1 x7 x8)) else (depend_line.j1 k x0 x1 x7 x8)) else (none)) else (depend_line.j1 k x0 x1 x7 x8)
end
def depend_line.f (k : Nat) (a0 : ByteArray) (a1 : Int) : Option (Int × ByteArray × Int × Int) := depend_line.l0 k a0 a1 0 0
theorem depend_line.mono_l : ∀ k, (∀ y0 y1 y2 y3, LeO (depend_line.j1 k y0 y1 y2 y3) (depend_line.j1 (k + 1) y0 y1 y2 y3)) ∧ (∀ y0 y1 y2 y3 y4, LeO (depend_line.j2 k y0 y1 y2 y3 y4) (depend_line.j2 (k + 1) y0 y1 y2 y3 y4)) ∧ (∀ y0 y1 y2 y3 y4, LeO (depend_line.j3 k y0 y1 y2 y3 y4) (depend_line.j3 (k + 1) y0 y1 y2 y3 y4)) ∧ (∀ y0 y1 y2 y3, LeO (depend_line.l0 k y0 y1 y2 y3) (depend_line.l0 (k + 1) y0 y1 y2 y3))
 | 0 => ⟨fun _ _ _ _ r h => by simp [depend_line.j1] at h, fun _ _ _ _ _ r h => by simp [depend_line.j2] at h, fun _ _ _ _ _ r h => by simp [depend_line.j3] at h, fun _ _ _ _ r h => by simp [depend_line.l0] at h⟩
 | k + 1 => by
  obtain ⟨ih0, ih1, ih2, ih3⟩ := depend_line.mono_l k
  refine ⟨?_, ?_, ?_, ?_⟩
  ·
   intro y0 y1 y2 y3
   unfold depend_line.j1
   with_reducible repeat' first | exact ih0 _ _ _ _ | exact ih1 _ _ _ _ _ | exact ih2 _ _ _ _ _ | exact ih3 _ _ _ _ | exact markup_ValidName.mono _ _ | exact LeO.refl _ | exact LeO.none _ | refine LeO.ite ?_ ?_ | refine LeO.bind ?_ (fun _ => ?_)
  ·
   intro y0 y1 y2 y3 y4
   unfold depend_line.j2
   with_reducible repeat' first | exact ih0 _ _ _ _ | exact ih1 _ _ _ _ _ | exact ih2 _ _ _ _ _ | exact ih3 _ _ _ _ | exact markup_ValidName.mono _ _ | exact LeO.refl _ | exact LeO.none _ | refine LeO.ite ?_ ?_ | refine LeO.bind ?_ (fun _ => ?_)
  ·
   intro y0 y1 y2 y3 y4
   unfold depend_line.j3
   with_reducible repeat' first | exact ih0 _ _ _ _ | exact ih1 _ _ _ _ _ | exact ih2 _ _ _ _ _ | exact ih3 _ _ _ _ | exact markup_ValidName.mono _ _ | exact LeO.refl _ | exact LeO.none _ | refine LeO.ite ?_ ?_ | refine LeO.bind ?_ (fun _ => ?_)
  ·
   intro y0 y1 y2 y3
   unfold depend_line.l0
   with_reducible repeat' first | exact ih0 _ _ _ _ | exact ih1 _ _ _ _ _ | exact ih2 _ _ _ _ _ | exact ih3 _ _ _ _ | exact markup_ValidName.mono _ _ | exact LeO.refl _ | exact LeO.none _ | refine LeO.ite ?_ ?_ | refine LeO.bind ?_ (fun _ => ?_)
theorem depend_line.mono : ∀ a0 a1 k, LeO (depend_line.f k a0 a1) (depend_line.f (k + 1) a0 a1) := by
 intro a0 a1 k
 obtain ⟨ih0, ih1, ih2, ih3⟩ := depend_line.mono_l k
 unfold depend_line.f
 with_reducible repeat' first | exact ih0 _ _ _ _ | exact ih1 _ _ _ _ _ | exact ih2 _ _ _ _ _ | exact ih3 _ _ _ _ | exact markup_ValidName.mono _ _ | exact LeO.refl _ | exact LeO.none _ | refine LeO.ite ?_ ?_ | refine LeO.bind ?_ (fun _ => ?_)
set_option maxHeartbeats 8000000 in
set_option maxRecDepth 100000 in
theorem depend_line.calls (k : Nat) (a0 : ByteArray) (a1 : Int) (r1 : Int) (r2 : ByteArray) (r3 : Int) (r4 : Int) (w : World) (h : depend_line.f k a0 a1 = some (r1, r2, r3, r4)) :
 Calls Tryd.prog 24 #[.string a0, .int .i64 a1] w fun e w' => e = .returned (.tuple #[.int .i64 r1, .string r2, .agg #[.int .i64 r3, .int .i64 r4]]) ∧ Below w.heap.size w w' := by
 have hu63 := Tryd.underlying63
 have HB := Aside0.mk (Below.refl w.heap.size w)
 have H : (depend_line.l0 k a0 a1 0 0) = some (r1, r2, r3, r4) := h
 clear h
 have HC3 := Aside0.mk H
 clear H
 go_enter Tryd.func24, Tryd.ntmps24
 go_upto_block 0 with (first | ((with_reducible refine gate_dst (N := 6) rfl ?_); refine box_event ?hg (N := 6) ?hd (cs := #[.int .i64 0, .int .i64 0]) (t := 63) ?hr ?_; (case hd => rfl); (case hg => rfl); (case hr => first | (go_simp; done) | (go_simp; rfl)); intro gb176 hg w4 hbox hb; have n0_ := Aside0.mk (below_step (BB) hb); have n1_ := Aside0.mk (hbox); have n2_ := Aside0.mk ((by rw [hg]; exact (below_size (BB)) : w.heap.size ≤ gb176)); have n3_ := Aside0.mk ((by rw [hg]; exact (below_size (BB)) : w.heap.size ≤ gb176)); clear HB; have HB := n0_; have BK176 := n1_; have GW176 := n2_; have GE176 := n3_; clear n0_ n1_ n2_ n3_; clear hb hbox hg))
 (try simp only [Act.put, List.setIfInBounds_toArray, List.set_cons_zero, List.set_cons_succ])
 go_cut [7, 8] (fun v7 v8 wc => ∃ (kq : Nat) (x7_2 : Int) (x8_2 : Int), v7 = .int .i64 x7_2 ∧ v8 = .int .i64 x8_2 ∧ Aside0 (depend_line.j1 kq a0 a1 x7_2 x8_2 = some (r1, r2, r3, r4)) ∧ Aside0 (kq ≤ k) ∧ Aside0 (wc.heap[gb176]? = some (.cells #[.int .i64 0, .int .i64 0] 63 (0, 0))) ∧ Aside0 (Below w.heap.size w wc))
 case first =>
  have H := HC3.out
  clear HC3
  have H' := Aside0.mk H
  clear H
  go_wp2
  go_loopg [7, 8] k (fun kq v7 v8 w' => ∃ (x7_1 : Int) (x8_1 : Int), v7 = .int .i64 x7_1 ∧ v8 = .int .i64 x8_1 ∧ Aside0 (depend_line.l0 kq a0 a1 x7_1 x8_1 = some (r1, r2, r3, r4)) ∧ Aside0 (kq ≤ k) ∧ Aside0 (w'.heap[gb176]? = some (.cells #[.int .i64 0, .int .i64 0] 63 (0, 0))) ∧ Aside0 (Below w.heap.size w w'))
  case atStart => exact ⟨(0), (0), (BE), (BE), H', ⟨Nat.le_refl _⟩, ⟨by (with_reducible repeat (first | refine blk_drewN ?_ _ | refine blk_drew ?_ | refine blk_alloc ?_ _)); exact BK176.out⟩, ⟨BS GE176.out⟩⟩
  case round =>
   clear H'
   (try clear c2); (try clear p2)
   obtain ⟨x7_1, x8_1, rfl, rfl, HA, HK1, BK176, HB⟩ := hrel
   cases gk with
   | zero => exact absurd HA.out (by simp [depend_line.l0])
   | succ k1 =>
    have H := HA.out
    clear HA
    simp only [depend_line.l0] at H
    by_cases c5 : x8_1 < (a0.size : Int)
    ·
     rw [if_pos c5] at H
     have c5b0 : decide (x8_1 < (a0.size : Int)) = true := decide_eq_true c5
     clear c5
     (first | rw [c5b0] | (simp only [i64_w, i32_w]; rw [c5b0]) | skip)
     by_cases c6 : 0 ≤ x8_1
     ·
      rw [if_pos c6] at H
      have c6b0 : decide (0 ≤ x8_1) = true := decide_eq_true c6
      clear c6
      by_cases c8 : (bt a0 x8_1) ≥ 48
      ·
       rw [if_pos c8] at H
       have c8b0 : decide (48 ≤ (bt a0 x8_1)) = true := decide_eq_true c8
       clear c8
       by_cases c10 : (bt a0 x8_1) ≤ 57
       ·
        rw [if_pos c10] at H
        have c10b0 : decide ((bt a0 x8_1) ≤ 57) = true := decide_eq_true c10
        clear c10
        obtain ⟨ji12, hji12⟩ : ∃ j_ : Int, (mn (wrap64 ((wrap64 (10 * x7_1)) + (((bt a0 x8_1) - 48) % 256))) (wrap64 (a1 + 1))) = j_ := ⟨_, rfl⟩
        replace H : (depend_line.l0 k1 a0 a1 ji12 (wrap64 (x8_1 + 1))) = some (r1, r2, r3, r4) := by first | (rw [hji12] at H; exact H) | (simp only [hji12] at H ⊢; exact H)
        have hji12_ : (if (wrap64 (a1 + 1)) < (wrap64 ((wrap64 (10 * x7_1)) + (((bt a0 x8_1) - 48) % 256))) then (wrap64 (a1 + 1)) else (wrap64 ((wrap64 (10 * x7_1)) + (((bt a0 x8_1) - 48) % 256)))) = ji12 := hji12
        have H' := Aside0.mk H
        clear H
        have p7 : 0 ≤ (x8_1 : Int) := OD
        have q7 : x8_1 < (a0.size : Int) := OD
        have hx7 := bt_at a0 x8_1
        replace p7 := eq_true p7
        replace q7 := eq_true q7
        have p9 : 0 ≤ (x8_1 : Int) := OD
        have q9 : x8_1 < (a0.size : Int) := OD
        have hx9 := bt_at a0 x8_1
        replace p9 := eq_true p9
        replace q9 := eq_true q9
        have p11 : 0 ≤ (x8_1 : Int) := OD
        have q11 : x8_1 < (a0.size : Int) := OD
        have hx11 := bt_at a0 x8_1
        replace p11 := eq_true p11
        replace q11 := eq_true q11
        go_wp2
        go_roundg k1
        case measure => have := HK1.out; omega
        case rel => exact ⟨(ji12), (wrap64 (x8_1 + 1)), (by first | rfl | (simp; done) | (simp only [← hji12] <;> (first | rfl | simp)) | (simp [*]; done)), (BE), H', ⟨by have := HK1.out; omega⟩, ⟨by (with_reducible repeat (first | refine blk_drewN ?_ _ | refine blk_drew ?_ | refine blk_alloc ?_ _)); exact BK176.out⟩, ⟨BS GE176.out⟩⟩
       ·
        rw [if_neg c10] at H
        have c10b0 : decide ((bt a0 x8_1) ≤ 57) = false := decide_eq_false c10
        clear c10
        have H' := Aside0.mk H
        clear H
        have p7 : 0 ≤ (x8_1 : Int) := OD
        have q7 : x8_1 < (a0.size : Int) := OD
        have hx7 := bt_at a0 x8_1
        replace p7 := eq_true p7
        replace q7 := eq_true q7
        have p9 : 0 ≤ (x8_1 : Int) := OD
        have q9 : x8_1 < (a0.size : Int) := OD
        have hx9 := bt_at a0 x8_1
        replace p9 := eq_true p9
        replace q9 := eq_true q9
        go_wp2
        go_meet
        case rel => exact ⟨_, (x7_1), (x8_1), (BE), (BE), H', ⟨by have := HK1.out; first | omega | exact Nat.le_refl _⟩, ⟨by (with_reducible repeat (first | refine blk_drewN ?_ _ | refine blk_drew ?_ | refine blk_alloc ?_ _)); exact BK176.out⟩, ⟨BS GE176.out⟩⟩
      ·
       rw [if_neg c8] at H
       have c8b0 : decide (48 ≤ (bt a0 x8_1)) = false := decide_eq_false c8
       clear c8
       have H' := Aside0.mk H
       clear H
       have p7 : 0 ≤ (x8_1 : Int) := OD
       have q7 : x8_1 < (a0.size : Int) := OD
       have hx7 := bt_at a0 x8_1
       replace p7 := eq_true p7
       replace q7 := eq_true q7
       go_wp2
       go_meet
       case rel => exact ⟨_, (x7_1), (x8_1), (BE), (BE), H', ⟨by have := HK1.out; first | omega | exact Nat.le_refl _⟩, ⟨by (with_reducible repeat (first | refine blk_drewN ?_ _ | refine blk_drew ?_ | refine blk_alloc ?_ _)); exact BK176.out⟩, ⟨BS GE176.out⟩⟩
     ·
      rw [if_neg c6] at H
      exact absurd H (by simp)
    ·
     rw [if_neg c5] at H
     have c5b0 : decide (x8_1 < (a0.size : Int)) = false := decide_eq_false c5
     clear c5
     (first | rw [c5b0] | (simp only [i64_w, i32_w]; rw [c5b0]) | skip)
     have H' := Aside0.mk H
     clear H
     go_wp2
     go_meet
     case rel => exact ⟨_, (x7_1), (x8_1), (BE), (BE), H', ⟨by have := HK1.out; first | omega | exact Nat.le_refl _⟩, ⟨by (with_reducible repeat (first | refine blk_drewN ?_ _ | refine blk_drew ?_ | refine blk_alloc ?_ _)); exact BK176.out⟩, ⟨BS GE176.out⟩⟩
 case rest =>
  clear HC3
  (try clear c1); (try clear p1); (try clear q1); (try clear hx1); (try clear c2); (try clear p2); (try clear c5); (try clear c5b0); (try clear c6); (try clear c6b0); (try clear p6); (try clear p7); (try clear q7); (try clear hx7)
  (try clear c8); (try clear c8b0); (try clear p9); (try clear q9); (try clear hx9); (try clear c10); (try clear c10b0); (try clear p11); (try clear q11); (try clear hx11); (try clear p11); (try clear p2); (try clear p7)
  (try clear p9); (try clear q11); (try clear q7); (try clear q9)
  obtain ⟨kq, x7_2, x8_2, rfl, rfl, HA, HJ2, BK176, HB⟩ := hcut
  cases kq with
  | zero => exact absurd HA.out (by simp [depend_line.j1])
  | succ kj2 =>
   have H := HA.out
   clear HA
   simp only [depend_line.j1] at H
   by_cases c13 : x8_2 = 0
   ·
    rw [if_pos c13] at H
    have c13b0 : (x8_2 == 0) = true := beq_iff_eq.mpr c13
    have c13b1 : (x8_2 != 0) = false := bne_eq_false_iff_eq.mpr c13
    clear c13
    simp only [Option.some.injEq, Prod.mk.injEq] at H
    obtain ⟨rfl, rfl, rfl, rfl⟩ := H
    have hcz14_0 : wc.cell? ⟨gb176, 0, none⟩ = some (.int .i64 0) := (blk_cell BK176.out 0).trans rfl
    have hcz14_1 : wc.cell? ⟨gb176, 1, none⟩ = some (.int .i64 0) := (blk_cell BK176.out 1).trans rfl
    have hfz14_0 := blk_frozen BK176.out 0
    have hfz14_1 := blk_frozen BK176.out 1
    go_wp2
    refine bodyPost_ret (results_list (rs := [.tmp 4, .tmp 5, .cell 6 63]) rfl (by simp) (.tmp (.tmp (.cell gb176 63 #[.int .i64 0, .int .i64 3] (0, 0) _ rfl (by (with_reducible repeat (first | refine blk_drewN ?_ _ | refine blk_drew ?_ | refine blk_alloc ?_ _)); refine blk_put (cs := #[.int .i64 0, .int .i64 0]) ?_ 1 _ rfl; (with_reducible repeat (first | refine blk_drewN ?_ _ | refine blk_drew ?_ | refine blk_alloc ?_ _)); refine blk_put (cs := #[.int .i64 0, .int .i64 0]) ?_ 0 _ rfl; (with_reducible repeat (first | refine blk_drewN ?_ _ | refine blk_drew ?_ | refine blk_alloc ?_ _)); exact BK176.out) Tryd.underlying63 rfl (by kernel_rfl) .nil)))) rfl ?_
    exact ⟨BX, BS GE176.out⟩
   ·
    rw [if_neg c13] at H
    have c13b0 : (x8_2 == 0) = false := beq_eq_false_iff_ne.mpr c13
    have c13b1 : (x8_2 != 0) = true := bne_iff_ne.mpr c13
    have HC15 := Aside0.mk H
    clear H
    go_upto_region 7 with (fail)
    go_cut [43] (fun v43 wc => ∃ (kq : Nat) (x43_14 : Bool), v43 = .bool x43_14 ∧ Aside0 (depend_line.j2 kq a0 a1 x7_2 x8_2 x43_14 = some (r1, r2, r3, r4)) ∧ Aside0 (kq ≤ kj2) ∧ Aside0 (wc.heap[gb176]? = some (.cells #[.int .i64 0, .int .i64 0] 63 (0, 0))) ∧ Aside0 (Below w.heap.size w wc))
    case first =>
     have H := HC15.out
     clear HC15
     by_cases c16 : 0 < (a0.size : Int)
     ·
      rw [if_pos c16] at H
      have c16b0 : decide (0 < (a0.size : Int)) = true := decide_eq_true c16
      have c16b1 : decide (0 < a0.size) = true := decide_eq_true (by omega)
      clear c16
      (first | rw [c16b0] | rw [c16b1] | (simp only [i64_w, i32_w]; rw [c16b0]) | skip)
      by_cases c18 : (bt a0 0) = 48
      ·
       rw [if_pos c18] at H
       have c18b0 : ((bt a0 0) == 48) = true := beq_iff_eq.mpr c18
       have c18b1 : ((bt a0 0) != 48) = false := bne_eq_false_iff_eq.mpr c18
       clear c18
       have H' := Aside0.mk H
       clear H
       have p17 : 0 ≤ (0 : Int) := (by omega)
       have q17 : 0 < a0.size := (by have : (0 : Int) < (a0.size : Int) := OD; omega)
       have hx17 : ∀ h : 0 < a0.size, ((a0[0]'h).toNat : Int) = bt a0 0 := bt_at a0 0
       clear p17
       have qi17 : (0 < (a0.size : Int)) = True := eq_true (OD)
       replace q17 := eq_true q17
       go_wp2
       go_meet
       case rel => exact ⟨_, (decide (x8_2 > 1)), (BE), H', ⟨by have := HJ2.out; first | omega | exact Nat.le_refl _⟩, ⟨by (with_reducible repeat (first | refine blk_drewN ?_ _ | refine blk_drew ?_ | refine blk_alloc ?_ _)); exact BK176.out⟩, ⟨BS GE176.out⟩⟩
      ·
       rw [if_neg c18] at H
       have c18b0 : ((bt a0 0) == 48) = false := beq_eq_false_iff_ne.mpr c18
       have c18b1 : ((bt a0 0) != 48) = true := bne_iff_ne.mpr c18
       have H' := Aside0.mk H
       clear H
       have p17 : 0 ≤ (0 : Int) := (by omega)
       have q17 : 0 < a0.size := (by have : (0 : Int) < (a0.size : Int) := OD; omega)
       have hx17 : ∀ h : 0 < a0.size, ((a0[0]'h).toNat : Int) = bt a0 0 := bt_at a0 0
       clear p17
       have qi17 : (0 < (a0.size : Int)) = True := eq_true (OD)
       replace q17 := eq_true q17
       go_wp2
       go_meet
       case rel => exact ⟨_, (false), (BE), H', ⟨by have := HJ2.out; first | omega | exact Nat.le_refl _⟩, ⟨by (with_reducible repeat (first | refine blk_drewN ?_ _ | refine blk_drew ?_ | refine blk_alloc ?_ _)); exact BK176.out⟩, ⟨BS GE176.out⟩⟩
     ·
      rw [if_neg c16] at H
      exact absurd H (by simp)
    case rest =>
     clear HC15
     (try clear c1); (try clear p1); (try clear q1); (try clear hx1); (try clear qi1); (try clear c2); (try clear p2); (try clear c5); (try clear c5b0); (try clear c6); (try clear c6b0); (try clear p6); (try clear p7)
     (try clear q7); (try clear hx7); (try clear c8); (try clear c8b0); (try clear p9); (try clear q9); (try clear hx9); (try clear c10); (try clear c10b0); (try clear p11); (try clear q11); (try clear hx11); (try clear c13)
     (try clear c13b0); (try clear c13b1); (try clear c16); (try clear c16b0); (try clear c16b1); (try clear p17); (try clear q17); (try clear hx17); (try clear qi17); (try clear c18); (try clear c18b0); (try clear c18b1)
     (try clear hcz14_0); (try clear hcz14_1); (try clear hfz14_0); (try clear hfz14_1); (try clear p1); (try clear p11); (try clear p17); (try clear p2); (try clear p6); (try clear p7); (try clear p9); (try clear q1)
     (try clear q11); (try clear q17); (try clear q7); (try clear q9)
     obtain ⟨kq, x43_14, rfl, HA, HJ14, BK176, HB⟩ := hcut
     cases kq with
     | zero => exact absurd HA.out (by simp [depend_line.j2])
     | succ kj14 =>
      have H := HA.out
      clear HA
      simp only [depend_line.j2] at H
      by_cases c19 : x43_14 = true
      ·
       subst c19
       have H1 : (some (0, (⟨#[]⟩ : ByteArray), 1, 3)) = some (r1, r2, r3, r4) := by rw [if_pos rfl] at H; exact H
       clear H
       have H := H1
       clear H1
       simp only [Option.some.injEq, Prod.mk.injEq] at H
       obtain ⟨rfl, rfl, rfl, rfl⟩ := H
       have hcz20_0 : wc.cell? ⟨gb176, 0, none⟩ = some (.int .i64 0) := (blk_cell BK176.out 0).trans rfl
       have hcz20_1 : wc.cell? ⟨gb176, 1, none⟩ = some (.int .i64 0) := (blk_cell BK176.out 1).trans rfl
       have hfz20_0 := blk_frozen BK176.out 0
       have hfz20_1 := blk_frozen BK176.out 1
       go_wp2
       refine bodyPost_ret (results_list (rs := [.tmp 4, .tmp 5, .cell 6 63]) rfl (by simp) (.tmp (.tmp (.cell gb176 63 #[.int .i64 1, .int .i64 3] (0, 0) _ rfl (by (with_reducible repeat (first | refine blk_drewN ?_ _ | refine blk_drew ?_ | refine blk_alloc ?_ _)); refine blk_put (cs := #[.int .i64 1, .int .i64 0]) ?_ 1 _ rfl; (with_reducible repeat (first | refine blk_drewN ?_ _ | refine blk_drew ?_ | refine blk_alloc ?_ _)); refine blk_put (cs := #[.int .i64 0, .int .i64 0]) ?_ 0 _ rfl; (with_reducible repeat (first | refine blk_drewN ?_ _ | refine blk_drew ?_ | refine blk_alloc ?_ _)); exact BK176.out) Tryd.underlying63 rfl (by kernel_rfl) .nil)))) rfl ?_
       exact ⟨BX, BS GE176.out⟩
      ·
       replace c19 := Bool.eq_false_iff.mpr c19
       subst c19
       have H1 : (if x8_2 = (a0.size : Int) then (depend_line.j3 kj14 a0 a1 x7_2 x8_2 true) else (if 0 ≤ x8_2 then (if x8_2 < (a0.size : Int) then (depend_line.j3 kj14 a0 a1 x7_2 x8_2 ((bt a0 x8_2) != 9)) else (none)) else (none))) = some (r1, r2, r3, r4) := by rw [if_neg (show ¬ (false = true) by decide)] at H; exact H
       clear H
       have H := H1
       clear H1
       have HC21 := Aside0.mk H
       clear H
       go_upto_region 9 with (fail)
       go_cut [52] (fun v52 wc => ∃ (kq : Nat) (x52_20 : Bool), v52 = .bool x52_20 ∧ Aside0 (depend_line.j3 kq a0 a1 x7_2 x8_2 x52_20 = some (r1, r2, r3, r4)) ∧ Aside0 (kq ≤ kj14) ∧ Aside0 (wc.heap[gb176]? = some (.cells #[.int .i64 0, .int .i64 0] 63 (0, 0))) ∧ Aside0 (Below w.heap.size w wc))
       case first =>
        have H := HC21.out
        clear HC21
        by_cases c22 : x8_2 = (a0.size : Int)
        ·
         rw [if_pos c22] at H
         have c22b0 : (x8_2 == (a0.size : Int)) = true := beq_iff_eq.mpr c22
         have c22b1 : (x8_2 != (a0.size : Int)) = false := bne_eq_false_iff_eq.mpr c22
         clear c22
         (first | rw [c22b0] | rw [c22b1] | (simp only [i64_w, i32_w]; rw [c22b0]) | skip)
         have H' := Aside0.mk H
         clear H
         go_wp2
         go_meet
         case rel => exact ⟨_, (true), (BE), H', ⟨by have := HJ2.out; have := HJ14.out; first | omega | exact Nat.le_refl _⟩, ⟨by (with_reducible repeat (first | refine blk_drewN ?_ _ | refine blk_drew ?_ | refine blk_alloc ?_ _)); exact BK176.out⟩, ⟨BS GE176.out⟩⟩
        ·
         rw [if_neg c22] at H
         have c22b0 : (x8_2 == (a0.size : Int)) = false := beq_eq_false_iff_ne.mpr c22
         have c22b1 : (x8_2 != (a0.size : Int)) = true := bne_iff_ne.mpr c22
         (first | rw [c22b0] | rw [c22b1] | (simp only [i64_w, i32_w]; rw [c22b0]) | skip)
         by_cases c23 : 0 ≤ x8_2
         ·
          rw [if_pos c23] at H
          have c23b0 : decide (0 ≤ x8_2) = true := decide_eq_true c23
          clear c23
          by_cases c24 : x8_2 < (a0.size : Int)
          ·
           rw [if_pos c24] at H
           have c24b0 : decide (x8_2 < (a0.size : Int)) = true := decide_eq_true c24
           clear c24
           have H' := Aside0.mk H
           clear H
           have p25 : 0 ≤ (x8_2 : Int) := OD
           have q25 : x8_2 < (a0.size : Int) := OD
           have hx25 := bt_at a0 x8_2
           replace p25 := eq_true p25
           replace q25 := eq_true q25
           go_wp2
           go_meet
           case rel => exact ⟨_, (((bt a0 x8_2) != 9)), (BE), H', ⟨by have := HJ2.out; have := HJ14.out; first | omega | exact Nat.le_refl _⟩, ⟨by (with_reducible repeat (first | refine blk_drewN ?_ _ | refine blk_drew ?_ | refine blk_alloc ?_ _)); exact BK176.out⟩, ⟨BS GE176.out⟩⟩
          ·
           rw [if_neg c24] at H
           exact absurd H (by simp)
         ·
          rw [if_neg c23] at H
          exact absurd H (by simp)
       case rest =>
        clear HC21
        (try clear c1); (try clear p1); (try clear q1); (try clear hx1); (try clear qi1); (try clear c2); (try clear p2); (try clear q2); (try clear hx2); (try clear c5); (try clear c5b0); (try clear c6); (try clear c6b0)
        (try clear p6); (try clear p7); (try clear q7); (try clear hx7); (try clear c8); (try clear c8b0); (try clear p9); (try clear q9); (try clear hx9); (try clear c10); (try clear c10b0); (try clear p11); (try clear q11)
        (try clear hx11); (try clear c13); (try clear c13b0); (try clear c13b1); (try clear c16); (try clear c16b0); (try clear c16b1); (try clear p17); (try clear q17); (try clear hx17); (try clear qi17); (try clear c18)
        (try clear c18b0); (try clear c18b1); (try clear c19); (try clear c22); (try clear c22b0); (try clear c22b1); (try clear c23); (try clear c23b0); (try clear c24); (try clear c24b0); (try clear p25); (try clear q25)
        (try clear hx25); (try clear hcz14_0); (try clear hcz14_1); (try clear hcz20_0); (try clear hcz20_1); (try clear hfz14_0); (try clear hfz14_1); (try clear hfz20_0); (try clear hfz20_1); (try clear p1); (try clear p11)
        (try clear p17); (try clear p2); (try clear p25); (try clear p6); (try clear p7); (try clear p9); (try clear q1); (try clear q11); (try clear q17); (try clear q25); (try clear q7); (try clear q9)
        obtain ⟨kq, x52_20, rfl, HA, HJ20, BK176, HB⟩ := hcut
        cases kq with
        | zero => exact absurd HA.out (by simp [depend_line.j3])
        | succ kj20 =>
         have H := HA.out
         clear HA
         simp only [depend_line.j3] at H
         by_cases c26 : x52_20 = true
         ·
          subst c26
          have H1 : (some (0, (⟨#[]⟩ : ByteArray), x8_2, 3)) = some (r1, r2, r3, r4) := by rw [if_pos rfl] at H; exact H
          clear H
          have H := H1
          clear H1
          simp only [Option.some.injEq, Prod.mk.injEq] at H
          obtain ⟨rfl, rfl, rfl, rfl⟩ := H
          have hcz27_0 : wc.cell? ⟨gb176, 0, none⟩ = some (.int .i64 0) := (blk_cell BK176.out 0).trans rfl
          have hcz27_1 : wc.cell? ⟨gb176, 1, none⟩ = some (.int .i64 0) := (blk_cell BK176.out 1).trans rfl
          have hfz27_0 := blk_frozen BK176.out 0
          have hfz27_1 := blk_frozen BK176.out 1
          go_wp2
          refine bodyPost_ret (results_list (rs := [.tmp 4, .tmp 5, .cell 6 63]) rfl (by simp) (.tmp (.tmp (.cell gb176 63 #[.int .i64 x8_2, .int .i64 3] (0, 0) _ rfl (by (with_reducible repeat (first | refine blk_drewN ?_ _ | refine blk_drew ?_ | refine blk_alloc ?_ _)); refine blk_put (cs := #[.int .i64 x8_2, .int .i64 0]) ?_ 1 _ rfl; (with_reducible repeat (first | refine blk_drewN ?_ _ | refine blk_drew ?_ | refine blk_alloc ?_ _)); refine blk_put (cs := #[.int .i64 0, .int .i64 0]) ?_ 0 _ rfl; (with_reducible repeat (first | refine blk_drewN ?_ _ | refine blk_drew ?_ | refine blk_alloc ?_ _)); exact BK176.out) Tryd.underlying63 rfl (by kernel_rfl) .nil)))) rfl ?_
          exact ⟨BX, BS GE176.out⟩
         ·
          replace c26 := Bool.eq_false_iff.mpr c26
          subst c26
          have H1 : (if x7_2 > a1 then (some (0, (⟨#[]⟩ : ByteArray), 0, 8)) else (if 0 ≤ (wrap64 (x8_2 + 1)) then (if (wrap64 (x8_2 + 1)) ≤ (a0.size : Int) then (if (a0.extract ((wrap64 (x8_2 + 1)) : Int).toNat a0.size).toList = ([] : List UInt8) then (some (wrap64 (x7_2 - 1), a0.extract ((wrap64 (x8_2 + 1)) : Int).toNat a0.size, 0, 0)) else ((markup_ValidName.f kj20 (a0.extract ((wrap64 (x8_2 + 1)) : Int).toNat a0.size)).bind fun t177 => (if t177 = true then (some (wrap64 (x7_2 - 1), a0.extract ((wrap64 (x8_2 + 1)) : Int).toNat a0.size, 0, 0)) else (some (0, (⟨#[]⟩ : ByteArray), wrap64 (x8_2 + 1), 4))))) else (none)) else (none))) = some (r1, r2, r3, r4) := by rw [if_neg (show ¬ (false = true) by decide)] at H; exact H
          clear H
          have H := H1
          clear H1
          by_cases c28 : x7_2 > a1
          ·
           rw [if_pos c28] at H
           have c28b0 : decide (a1 < x7_2) = true := decide_eq_true c28
           clear c28
           simp only [Option.some.injEq, Prod.mk.injEq] at H
           obtain ⟨rfl, rfl, rfl, rfl⟩ := H
           have hcz29_0 : wc.cell? ⟨gb176, 0, none⟩ = some (.int .i64 0) := (blk_cell BK176.out 0).trans rfl
           have hcz29_1 : wc.cell? ⟨gb176, 1, none⟩ = some (.int .i64 0) := (blk_cell BK176.out 1).trans rfl
           have hfz29_0 := blk_frozen BK176.out 0
           have hfz29_1 := blk_frozen BK176.out 1
           go_wp2
           refine bodyPost_ret (results_list (rs := [.tmp 4, .tmp 5, .cell 6 63]) rfl (by simp) (.tmp (.tmp (.cell gb176 63 #[.int .i64 0, .int .i64 8] (0, 0) _ rfl (by (with_reducible repeat (first | refine blk_drewN ?_ _ | refine blk_drew ?_ | refine blk_alloc ?_ _)); refine blk_put (cs := #[.int .i64 0, .int .i64 0]) ?_ 1 _ rfl; (with_reducible repeat (first | refine blk_drewN ?_ _ | refine blk_drew ?_ | refine blk_alloc ?_ _)); refine blk_put (cs := #[.int .i64 0, .int .i64 0]) ?_ 0 _ rfl; (with_reducible repeat (first | refine blk_drewN ?_ _ | refine blk_drew ?_ | refine blk_alloc ?_ _)); exact BK176.out) Tryd.underlying63 rfl (by kernel_rfl) .nil)))) rfl ?_
           exact ⟨BX, BS GE176.out⟩
          ·
           rw [if_neg c28] at H
           have c28b0 : decide (a1 < x7_2) = false := decide_eq_false c28
           clear c28
           obtain ⟨ji30, hji30⟩ : ∃ j_ : Int, (wrap64 (x8_2 + 1)) = j_ := ⟨_, rfl⟩
           replace H : (if 0 ≤ (ji30) then (if (ji30) ≤ (a0.size : Int) then (if (a0.extract ((ji30) : Int).toNat a0.size).toList = ([] : List UInt8) then (some (wrap64 (x7_2 - 1), a0.extract ((ji30) : Int).toNat a0.size, 0, 0)) else ((markup_ValidName.f kj20 (a0.extract ((ji30) : Int).toNat a0.size)).bind fun t177 => (if t177 = true then (some (wrap64 (x7_2 - 1), a0.extract ((ji30) : Int).toNat a0.size, 0, 0)) else (some (0, (⟨#[]⟩ : ByteArray), ji30, 4))))) else (none)) else (none)) = some (r1, r2, r3, r4) := by first | (rw [hji30] at H; exact H) | (simp only [hji30] at H ⊢; exact H)
           have hji30w : (IntKind.i64.wrap (x8_2 + 1)) = ji30 := (i64_w _).trans hji30
           by_cases c31 : 0 ≤ (ji30)
           ·
            rw [if_pos c31] at H
            have c31b0 := eq_true c31
            have c31b1 : decide (0 ≤ (ji30)) = true := decide_eq_true c31
            clear c31
            by_cases c32 : (ji30) ≤ (a0.size : Int)
            ·
             rw [if_pos c32] at H
             have c32b0 := eq_true c32
             have c32b1 : decide ((ji30) ≤ (a0.size : Int)) = true := decide_eq_true c32
             clear c32
             by_cases c33 : (a0.extract ((ji30) : Int).toNat a0.size).toList = ([] : List UInt8)
             ·
              rw [if_pos c33] at H
              have c33b0 : ((a0.extract ((ji30) : Int).toNat a0.size).toList == ([] : List UInt8)) = true := beq_iff_eq.mpr c33
              have c33b1 : ((a0.extract ((ji30) : Int).toNat a0.size).toList != ([] : List UInt8)) = false := bne_eq_false_iff_eq.mpr c33
              clear c33
              simp only [Option.some.injEq, Prod.mk.injEq] at H
              obtain ⟨rfl, rfl, rfl, rfl⟩ := H
              have hcz34_0 : wc.cell? ⟨gb176, 0, none⟩ = some (.int .i64 0) := (blk_cell BK176.out 0).trans rfl
              have hcz34_1 : wc.cell? ⟨gb176, 1, none⟩ = some (.int .i64 0) := (blk_cell BK176.out 1).trans rfl
              have hfz34_0 := blk_frozen BK176.out 0
              have hfz34_1 := blk_frozen BK176.out 1
              go_wp2
              refine bodyPost_ret (results_list (rs := [.tmp 4, .tmp 5, .cell 6 63]) rfl (by simp) (.tmp (.tmp (.cell gb176 63 #[.int .i64 0, .int .i64 0] (0, 0) _ rfl (by (with_reducible repeat (first | refine blk_drewN ?_ _ | refine blk_drew ?_ | refine blk_alloc ?_ _)); refine blk_put (cs := #[.int .i64 0, .int .i64 0]) ?_ 1 _ rfl; (with_reducible repeat (first | refine blk_drewN ?_ _ | refine blk_drew ?_ | refine blk_alloc ?_ _)); refine blk_put (cs := #[.int .i64 0, .int .i64 0]) ?_ 0 _ rfl; (with_reducible repeat (first | refine blk_drewN ?_ _ | refine blk_drew ?_ | refine blk_alloc ?_ _)); exact BK176.out) Tryd.underlying63 rfl (by kernel_rfl) .nil)))) rfl ?_
              exact ⟨by first | rfl | (simp [errW_none, errW_some] <;> rfl) | (simp only [← hji30]; first | rfl | (simp [errW_none, errW_some] <;> rfl)) | (simp [*, errW_none, errW_some] <;> rfl), BS GE176.out⟩
             ·
              rw [if_neg c33] at H
              have c33b0 : ((a0.extract ((ji30) : Int).toNat a0.size).toList == ([] : List UInt8)) = false := beq_eq_false_iff_ne.mpr c33
              have c33b1 : ((a0.extract ((ji30) : Int).toNat a0.size).toList != ([] : List UInt8)) = true := bne_iff_ne.mpr c33
              replace H := Option.bind_eq_some_iff.mp H
              obtain ⟨t177, A350, H⟩ := H
              replace H : (if t177 = true then (some (wrap64 (x7_2 - 1), a0.extract ((ji30) : Int).toNat a0.size, 0, 0)) else (some (0, (⟨#[]⟩ : ByteArray), ji30, 4))) = some (r1, r2, r3, r4) := H
              have A35 := Aside0.mk A350
              clear A350
              by_cases c36 : t177 = true
              ·
               subst c36
               have H1 : (some (wrap64 (x7_2 - 1), a0.extract ((ji30) : Int).toNat a0.size, 0, 0)) = some (r1, r2, r3, r4) := by rw [if_pos rfl] at H; exact H
               clear H
               have H := H1
               clear H1
               simp only [Option.some.injEq, Prod.mk.injEq] at H
               obtain ⟨rfl, rfl, rfl, rfl⟩ := H
               go_wp2_with (first | (go_at_call 14; (with_reducible refine (markup_ValidName.calls kj20 (a0.extract ((ji30) : Int).toNat a0.size) true _ A35.out).mono ?_); rintro e w' ⟨rfl, ⟨nd, rfl⟩⟩; (try (rw [drewN_self wc]; generalize hq_ : World.drewN wc _ = wc; have n0_ : Aside0 (wc.heap[gb176]? = some (.cells #[.int .i64 0, .int .i64 0] 63 (0, 0))) := ⟨by rw [← hq_]; exact (by (with_reducible repeat (first | refine blk_drewN ?_ _ | refine blk_drew ?_ | refine blk_alloc ?_ _)); exact BK176.out)⟩; have n1_ : Aside0 (Below w.heap.size w wc) := ⟨by rw [← hq_]; exact (BS GE176.out)⟩; clear BK176 HB hq_; have BK176 := n0_; have HB := n1_; clear n0_ n1_)); have hcz37_0 : wc.cell? ⟨gb176, 0, none⟩ = some (.int .i64 0) := (blk_cell BK176.out 0).trans rfl; have hcz37_1 : wc.cell? ⟨gb176, 1, none⟩ = some (.int .i64 0) := (blk_cell BK176.out 1).trans rfl; have hfz37_0 := blk_frozen BK176.out 0; have hfz37_1 := blk_frozen BK176.out 1))
               refine bodyPost_ret (results_list (rs := [.tmp 4, .tmp 5, .cell 6 63]) rfl (by simp) (.tmp (.tmp (.cell gb176 63 #[.int .i64 0, .int .i64 0] (0, 0) _ rfl (by (with_reducible repeat (first | refine blk_drewN ?_ _ | refine blk_drew ?_ | refine blk_alloc ?_ _)); refine blk_put (cs := #[.int .i64 0, .int .i64 0]) ?_ 1 _ rfl; (with_reducible repeat (first | refine blk_drewN ?_ _ | refine blk_drew ?_ | refine blk_alloc ?_ _)); refine blk_put (cs := #[.int .i64 0, .int .i64 0]) ?_ 0 _ rfl; (with_reducible repeat (first | refine blk_drewN ?_ _ | refine blk_drew ?_ | refine blk_alloc ?_ _)); exact BK176.out) Tryd.underlying63 rfl (by kernel_rfl) .nil)))) rfl ?_
               exact ⟨by first | rfl | (simp [errW_none, errW_some] <;> rfl) | (simp only [← hji30]; first | rfl | (simp [errW_none, errW_some] <;> rfl)) | (simp [*, errW_none, errW_some] <;> rfl), BS GE176.out⟩
              ·
               replace c36 := Bool.eq_false_iff.mpr c36
               subst c36
               have H1 : (some (0, (⟨#[]⟩ : ByteArray), ji30, 4)) = some (r1, r2, r3, r4) := by rw [if_neg (show ¬ (false = true) by decide)] at H; exact H
               clear H
               have H := H1
               clear H1
               simp only [Option.some.injEq, Prod.mk.injEq] at H
               obtain ⟨rfl, rfl, rfl, rfl⟩ := H
               go_wp2_with (first | (go_at_call 14; (with_reducible refine (markup_ValidName.calls kj20 (a0.extract ((ji30) : Int).toNat a0.size) false _ A35.out).mono ?_); rintro e w' ⟨rfl, ⟨nd, rfl⟩⟩; (try (rw [drewN_self wc]; generalize hq_ : World.drewN wc _ = wc; have n0_ : Aside0 (wc.heap[gb176]? = some (.cells #[.int .i64 0, .int .i64 0] 63 (0, 0))) := ⟨by rw [← hq_]; exact (by (with_reducible repeat (first | refine blk_drewN ?_ _ | refine blk_drew ?_ | refine blk_alloc ?_ _)); exact BK176.out)⟩; have n1_ : Aside0 (Below w.heap.size w wc) := ⟨by rw [← hq_]; exact (BS GE176.out)⟩; clear BK176 HB hq_; have BK176 := n0_; have HB := n1_; clear n0_ n1_)); have hcz38_0 : wc.cell? ⟨gb176, 0, none⟩ = some (.int .i64 0) := (blk_cell BK176.out 0).trans rfl; have hcz38_1 : wc.cell? ⟨gb176, 1, none⟩ = some (.int .i64 0) := (blk_cell BK176.out 1).trans rfl; have hfz38_0 := blk_frozen BK176.out 0; have hfz38_1 := blk_frozen BK176.out 1))
               refine bodyPost_ret (results_list (rs := [.tmp 4, .tmp 5, .cell 6 63]) rfl (by simp) (.tmp (.tmp (.cell gb176 63 #[.int .i64 ji30, .int .i64 4] (0, 0) _ rfl (by (with_reducible repeat (first | refine blk_drewN ?_ _ | refine blk_drew ?_ | refine blk_alloc ?_ _)); refine blk_put (cs := #[.int .i64 ji30, .int .i64 0]) ?_ 1 _ rfl; (with_reducible repeat (first | refine blk_drewN ?_ _ | refine blk_drew ?_ | refine blk_alloc ?_ _)); refine blk_put (cs := #[.int .i64 0, .int .i64 0]) ?_ 0 _ rfl; (with_reducible repeat (first | refine blk_drewN ?_ _ | refine blk_drew ?_ | refine blk_alloc ?_ _)); exact BK176.out) Tryd.underlying63 rfl (by kernel_rfl) .nil)))) rfl ?_
               exact ⟨by first | rfl | (simp [errW_none, errW_some] <;> rfl) | (simp only [← hji30]; first | rfl | (simp [errW_none, errW_some] <;> rfl)) | (simp [*, errW_none, errW_some] <;> rfl), BS GE176.out⟩
            ·
             rw [if_neg c32] at H
             exact absurd H (by simp)
           ·
            rw [if_neg c31] at H
            exact absurd H (by simp)

end Go.Proofs.YtkanmafjjejpmaaDoor.P
