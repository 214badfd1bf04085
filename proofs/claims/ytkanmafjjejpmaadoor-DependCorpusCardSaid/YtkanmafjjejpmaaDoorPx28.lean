-- Written by a program of this session (wip/doprint.sh) out of the translation; Lean checks it.
import Derived.Test.YtkanmafjjejpmaaDoorPx0
namespace Go.Proofs.YtkanmafjjejpmaaDoor.P
open Go.Proofs.YtkanmafjjejpmaaDoor.S
open Go.Proofs.YtkanmafjjejpmaaDoor.X
open Go.RowKit Go.Proofs.YtkanmafjjejpmaaDoorW.PrintWords Go.Proofs.YtkanmafjjejpmaaDoorW.PrintLast Go.Proofs.YtkanmafjjejpmaaDoorW.PrintMore
attribute [local go_sem] max2_int min2_int max_two min_two max_three min_three max_four min_four   -- for this text's walks alone
set_option linter.unusedVariables false
set_option linter.unusedSimpArgs false

/-! ### corpus_TextAt: function 50 -/
def corpus_TextAt.l0 : Nat → Int → List (S40) → Int → Int → Option (Int)
  | 0, _, _, _, _ => none
  | k + 1, x1, x8, x9, x10 => if x10 < x9 then (if 0 ≤ x10 then (if x10 < (x8.length : Int) then (if ((rd_T40 x8 x10).f1) ≤ x1 then (if x1 < ((rd_T40 x8 x10).f2) then (some x10) else (corpus_TextAt.l0 k x1 x8 x9 (wrap64 (x10 + 1)))) else (corpus_TextAt.l0 k x1 x8 x9 (wrap64 (x10 + 1)))) else (none)) else (none)) else (some (-1))
def corpus_TextAt.f (k : Nat) (l0_0 : List (S36)) (l0_1 : List (List ByteArray)) (l0_2 : List (S40)) (l0_3 : List (S77)) (l0_4 : List (S82)) (l0_5 : List Int) (l0_6 : List ByteArray) (a1 : Int) : Option (Int) := corpus_TextAt.l0 k a1 l0_2 (l0_2.length : Int) 0
theorem corpus_TextAt.mono_l : ∀ k, (∀ y0 y1 y2 y3, LeO (corpus_TextAt.l0 k y0 y1 y2 y3) (corpus_TextAt.l0 (k + 1) y0 y1 y2 y3))
 | 0 => fun _ _ _ _ r h => by simp [corpus_TextAt.l0] at h
 | k + 1 => by
  have ih0 := corpus_TextAt.mono_l k
  ·
   intro y0 y1 y2 y3
   unfold corpus_TextAt.l0
   with_reducible repeat' first | exact ih0 _ _ _ _ | exact LeO.refl _ | exact LeO.none _ | refine LeO.ite ?_ ?_ | refine LeO.bind ?_ (fun _ => ?_)
theorem corpus_TextAt.mono : ∀ a0 a1 a2 a3 a4 a5 a6 a7 k, LeO (corpus_TextAt.f k a0 a1 a2 a3 a4 a5 a6 a7) (corpus_TextAt.f (k + 1) a0 a1 a2 a3 a4 a5 a6 a7) := by
 intro a0 a1 a2 a3 a4 a5 a6 a7 k
 have ih0 := corpus_TextAt.mono_l k
 unfold corpus_TextAt.f
 with_reducible repeat' first | exact ih0 _ _ _ _ | exact LeO.refl _ | exact LeO.none _ | refine LeO.ite ?_ ?_ | refine LeO.bind ?_ (fun _ => ?_)
set_option maxHeartbeats 8000000 in
set_option maxRecDepth 100000 in
theorem corpus_TextAt.calls (k : Nat) (A0_0 : Option Addr) (c0_0 : Nat) (l0_0 : List (S36)) (A0_1 : Option Addr) (c0_1 : Nat) (l0_1 : List (List ByteArray)) (A0_2 : Option Addr) (c0_2 : Nat) (l0_2 : List (S40)) (A0_3 : Option Addr) (c0_3 : Nat) (l0_3 : List (S77)) (A0_4 : Option Addr) (c0_4 : Nat) (l0_4 : List (S82)) (A0_5 : Option Addr) (c0_5 : Nat) (l0_5 : List Int) (A0_6 : Option Addr) (c0_6 : Nat) (l0_6 : List ByteArray) (a1 : Int) (r : Int) (w : World) (hr0_0 : Kd.C k36 w A0_0 l0_0.length l0_0) (hc0_0 : l0_0.length ≤ c0_0) (hr0_1 : Kd.C (Kd.slice 9 Kd.string) w A0_1 l0_1.length l0_1) (hc0_1 : l0_1.length ≤ c0_1) (hr0_2 : Kd.C k40 w A0_2 l0_2.length l0_2) (hc0_2 : l0_2.length ≤ c0_2) (hr0_3 : Kd.C k77 w A0_3 l0_3.length l0_3) (hc0_3 : l0_3.length ≤ c0_3) (hr0_4 : Kd.C k82 w A0_4 l0_4.length l0_4) (hc0_4 : l0_4.length ≤ c0_4) (hr0_5 : Kd.C (Kd.int .i64) w A0_5 l0_5.length l0_5) (hc0_5 : l0_5.length ≤ c0_5) (hr0_6 : Kd.C Kd.string w A0_6 l0_6.length l0_6) (hc0_6 : l0_6.length ≤ c0_6) (h : corpus_TextAt.f k l0_0 l0_1 l0_2 l0_3 l0_4 l0_5 l0_6 a1 = some r) :
 Calls Tryd.prog 50 #[.agg #[.slice A0_0 l0_0.length c0_0, .slice A0_1 l0_1.length c0_1, .slice A0_2 l0_2.length c0_2, .slice A0_3 l0_3.length c0_3, .slice A0_4 l0_4.length c0_4, .slice A0_5 l0_5.length c0_5, .slice A0_6 l0_6.length c0_6], .int .i64 a1] w fun e w' => e = .returned (.int .i64 r) ∧ Below w.heap.size w w' := by
 have hu46 := Tryd.underlying46
 have hu40 := Tryd.underlying40
 have HR0_0 := Aside0.mk hr0_0
 have HC0_0 := Aside0.mk hc0_0
 clear hr0_0 hc0_0
 have HR0_1 := Aside0.mk hr0_1
 have HC0_1 := Aside0.mk hc0_1
 clear hr0_1 hc0_1
 have HR0_2 := Aside0.mk hr0_2
 have HC0_2 := Aside0.mk hc0_2
 clear hr0_2 hc0_2
 have HR0_3 := Aside0.mk hr0_3
 have HC0_3 := Aside0.mk hc0_3
 clear hr0_3 hc0_3
 have HR0_4 := Aside0.mk hr0_4
 have HC0_4 := Aside0.mk hc0_4
 clear hr0_4 hc0_4
 have HR0_5 := Aside0.mk hr0_5
 have HC0_5 := Aside0.mk hc0_5
 clear hr0_5 hc0_5
 have HR0_6 := Aside0.mk hr0_6
 have HC0_6 := Aside0.mk hc0_6
 clear hr0_6 hc0_6
 have HB := Aside0.mk (Below.refl w.heap.size w)
 have H : (corpus_TextAt.l0 k a1 l0_2 (l0_2.length : Int) 0) = some r := h
 clear h
 have H' := Aside0.mk H
 clear H
 go_enter Tryd.func50, Tryd.ntmps50
 go_wp2_with (first | ((with_reducible refine gate_dst (N := 2) rfl ?_); refine box_event ?hg (N := 2) ?hd (cs := #[.slice A0_0 l0_0.length c0_0, .slice A0_1 l0_1.length c0_1, .slice A0_2 l0_2.length c0_2, .slice A0_3 l0_3.length c0_3, .slice A0_4 l0_4.length c0_4, .slice A0_5 l0_5.length c0_5, .slice A0_6 l0_6.length c0_6]) (t := 46) ?hr ?_; (case hd => rfl); (case hg => rfl); (case hr => first | (go_simp; done) | (go_simp; rfl)); intro gb360 hg w3 hbox hb; have n0_ := Aside0.mk (below_step (BB) hb); have n1_ := Aside0.mk (hbox); have n2_ := Aside0.mk ((by rw [hg]; exact (below_size (BB)) : w.heap.size ≤ gb360)); have n3_ := Aside0.mk ((by rw [hg]; exact (below_size (BB)) : w.heap.size ≤ gb360)); clear HB; have HB := n0_; have BK360 := n1_; have GW360 := n2_; have GE360 := n3_; clear n0_ n1_ n2_ n3_; clear hb hbox hg; have hcz4_0 : w3.cell? ⟨gb360, 0, none⟩ = some (.slice A0_0 l0_0.length c0_0) := (blk_cell BK360.out 0).trans rfl; have hcz4_1 : w3.cell? ⟨gb360, 1, none⟩ = some (.slice A0_1 l0_1.length c0_1) := (blk_cell BK360.out 1).trans rfl; have hcz4_2 : w3.cell? ⟨gb360, 2, none⟩ = some (.slice A0_2 l0_2.length c0_2) := (blk_cell BK360.out 2).trans rfl; have hcz4_3 : w3.cell? ⟨gb360, 3, none⟩ = some (.slice A0_3 l0_3.length c0_3) := (blk_cell BK360.out 3).trans rfl; have hcz4_4 : w3.cell? ⟨gb360, 4, none⟩ = some (.slice A0_4 l0_4.length c0_4) := (blk_cell BK360.out 4).trans rfl; have hcz4_5 : w3.cell? ⟨gb360, 5, none⟩ = some (.slice A0_5 l0_5.length c0_5) := (blk_cell BK360.out 5).trans rfl; have hcz4_6 : w3.cell? ⟨gb360, 6, none⟩ = some (.slice A0_6 l0_6.length c0_6) := (blk_cell BK360.out 6).trans rfl; have hfz4_0 := blk_frozen BK360.out 0; have hfz4_1 := blk_frozen BK360.out 1; have hfz4_2 := blk_frozen BK360.out 2; have hfz4_3 := blk_frozen BK360.out 3; have hfz4_4 := blk_frozen BK360.out 4; have hfz4_5 := blk_frozen BK360.out 5; have hfz4_6 := blk_frozen BK360.out 6))
 go_loopg [10] k (fun kq v10 w' => ∃ (x10_1 : Int), v10 = .int .i64 x10_1 ∧ Aside0 (corpus_TextAt.l0 kq a1 l0_2 (l0_2.length : Int) x10_1 = some r) ∧ Aside0 (kq ≤ k) ∧ Aside0 (w'.heap[gb360]? = some (.cells #[(.slice A0_0 l0_0.length c0_0), (.slice A0_1 l0_1.length c0_1), (.slice A0_2 l0_2.length c0_2), (.slice A0_3 l0_3.length c0_3), (.slice A0_4 l0_4.length c0_4), (.slice A0_5 l0_5.length c0_5), (.slice A0_6 l0_6.length c0_6)] 46 (0, 0))) ∧ Aside0 (Below w.heap.size w w'))
 case atStart => exact ⟨(0), (BE), H', ⟨Nat.le_refl _⟩, ⟨by (with_reducible repeat (first | refine blk_drewN ?_ _ | refine blk_drew ?_ | refine blk_alloc ?_ _)); exact BK360.out⟩, ⟨BS GE360.out⟩⟩
 case round =>
  clear H'
  (try clear p2); (try clear hcz4_0); (try clear hcz4_1); (try clear hcz4_2); (try clear hcz4_3); (try clear hcz4_4); (try clear hcz4_5); (try clear hcz4_6); (try clear hfz4_0); (try clear hfz4_1); (try clear hfz4_2); (try clear hfz4_3)
  (try clear hfz4_4); (try clear hfz4_5); (try clear hfz4_6)
  obtain ⟨x10_1, rfl, HA, HK1, BK360, HB⟩ := hrel
  cases gk with
  | zero => exact absurd HA.out (by simp [corpus_TextAt.l0])
  | succ k1 =>
   have H := HA.out
   clear HA
   simp only [corpus_TextAt.l0] at H
   by_cases c5 : x10_1 < (l0_2.length : Int)
   ·
    rw [if_pos c5] at H
    have c5b0 : decide (x10_1 < (l0_2.length : Int)) = true := decide_eq_true c5
    clear c5
    by_cases c6 : 0 ≤ x10_1
    ·
     rw [if_pos c6] at H
     have c6b0 : decide (0 ≤ x10_1) = true := decide_eq_true c6
     clear c6
     by_cases c7 : x10_1 < (l0_2.length : Int)
     ·
      rw [if_pos c7] at H
      have c7b0 : decide (x10_1 < (l0_2.length : Int)) = true := decide_eq_true c7
      clear c7
      by_cases c8 : ((rd_T40 l0_2 x10_1).f1) ≤ a1
      ·
       rw [if_pos c8] at H
       have c8b0 : decide (((rd_T40 l0_2 x10_1).f1) ≤ a1) = true := decide_eq_true c8
       clear c8
       by_cases c9 : a1 < ((rd_T40 l0_2 x10_1).f2)
       ·
        rw [if_pos c9] at H
        have c9b0 : decide (a1 < ((rd_T40 l0_2 x10_1).f2)) = true := decide_eq_true c9
        clear c9
        obtain rfl := Option.some.inj H
        have p361 : 0 ≤ (x10_1 : Int) := OD
        have q361 : x10_1 < (l0_2.length : Int) := OD
        obtain ⟨ad361, A361_3, c361_3, e361, hx361_0, hx361_1, hx361_2, hx361_3, hl361_3, hi361_3⟩ := at_T40 HR0_2.out x10_1 p361 q361
        cases e361
        replace hx361_0 := (HB.out.cell (World.block_lt_of_cell? w _ hx361_0)).trans hx361_0
        replace hx361_1 := (HB.out.cell (World.block_lt_of_cell? w _ hx361_1)).trans hx361_1
        replace hx361_2 := (HB.out.cell (World.block_lt_of_cell? w _ hx361_2)).trans hx361_2
        replace hx361_3 := (HB.out.cell (World.block_lt_of_cell? w _ hx361_3)).trans hx361_3
        have HR361_3 := Aside0.mk hi361_3
        have HC361_3 := Aside0.mk hl361_3
        clear hi361_3 hl361_3
        replace p361 := eq_true p361
        replace q361 := eq_true q361
        go_wp2_with (first | ((with_reducible refine gate_dst (N := 6) rfl ?_); refine box_event ?hg (N := 6) ?hd (cs := #[.string (⟨#[]⟩ : ByteArray), .int .i64 0, .int .i64 0, .slice none 0 0]) (t := 40) ?hr ?_; (case hd => rfl); (case hg => rfl); (case hr => first | (go_simp; done) | (go_simp; rfl)); intro gb362 hg w10 hbox hb; have n0_ := Aside0.mk (blk_below (g := gb360) (o := .cells #[.slice A0_0 l0_0.length c0_0, .slice A0_1 l0_1.length c0_1, .slice (some ad361) l0_2.length c0_2, .slice A0_3 l0_3.length c0_3, .slice A0_4 l0_4.length c0_4, .slice A0_5 l0_5.length c0_5, .slice A0_6 l0_6.length c0_6] 46 (0, 0)) (by (with_reducible repeat (first | refine blk_drewN ?_ _ | refine blk_drew ?_ | refine blk_alloc ?_ _)); exact BK360.out) hb); have n1_ := Aside0.mk (below_step (BS GE360.out) hb); have n2_ := Aside0.mk (hbox); have n3_ := Aside0.mk ((by rw [hg]; exact (below_size (BS GE360.out)) : w.heap.size ≤ gb362)); have n4_ := Aside0.mk ((by rw [hg]; exact (below_size (BS GE360.out)) : w.heap.size ≤ gb362)); have n5_ := Aside0.mk ((by rw [hg]; exact Nat.ne_of_lt (blk_lt (g := gb360) (o := .cells #[.slice A0_0 l0_0.length c0_0, .slice A0_1 l0_1.length c0_1, .slice (some ad361) l0_2.length c0_2, .slice A0_3 l0_3.length c0_3, .slice A0_4 l0_4.length c0_4, .slice A0_5 l0_5.length c0_5, .slice A0_6 l0_6.length c0_6] 46 (0, 0)) (by (with_reducible repeat (first | refine blk_drewN ?_ _ | refine blk_drew ?_ | refine blk_alloc ?_ _)); exact BK360.out)) : gb360 ≠ gb362)); have n6_ := Aside0.mk ((by rw [hg]; exact Nat.ne_of_gt (blk_lt (g := gb360) (o := .cells #[.slice A0_0 l0_0.length c0_0, .slice A0_1 l0_1.length c0_1, .slice (some ad361) l0_2.length c0_2, .slice A0_3 l0_3.length c0_3, .slice A0_4 l0_4.length c0_4, .slice A0_5 l0_5.length c0_5, .slice A0_6 l0_6.length c0_6] 46 (0, 0)) (by (with_reducible repeat (first | refine blk_drewN ?_ _ | refine blk_drew ?_ | refine blk_alloc ?_ _)); exact BK360.out)) : gb362 ≠ gb360)); clear BK360; clear HB; have BK360 := n0_; have HB := n1_; have BK362 := n2_; have GW362 := n3_; have GE362 := n4_; have NB360_362 := n5_; have NB362_360 := n6_; clear n0_ n1_ n2_ n3_ n4_ n5_ n6_; clear hb hbox hg; have hnb11 := NB362_360.out; have hnc11 := NB360_362.out; have hcz12_0 : w10.cell? ⟨gb362, 0, none⟩ = some (.string (⟨#[]⟩ : ByteArray)) := (blk_cell BK362.out 0).trans rfl; have hcz12_1 : w10.cell? ⟨gb362, 1, none⟩ = some (.int .i64 0) := (blk_cell BK362.out 1).trans rfl; have hcz12_2 : w10.cell? ⟨gb362, 2, none⟩ = some (.int .i64 0) := (blk_cell BK362.out 2).trans rfl; have hcz12_3 : w10.cell? ⟨gb362, 3, none⟩ = some (.slice none 0 0) := (blk_cell BK362.out 3).trans rfl; have hfz12_0 := blk_frozen BK362.out 0; have hfz12_1 := blk_frozen BK362.out 1; have hfz12_2 := blk_frozen BK362.out 2; have hfz12_3 := blk_frozen BK362.out 3))
        go_ret
        exact ⟨BX, BS2 GE360.out GE362.out⟩
       ·
        rw [if_neg c9] at H
        have c9b0 : decide (a1 < ((rd_T40 l0_2 x10_1).f2)) = false := decide_eq_false c9
        clear c9
        have H' := Aside0.mk H
        clear H
        have p361 : 0 ≤ (x10_1 : Int) := OD
        have q361 : x10_1 < (l0_2.length : Int) := OD
        obtain ⟨ad361, A361_3, c361_3, e361, hx361_0, hx361_1, hx361_2, hx361_3, hl361_3, hi361_3⟩ := at_T40 HR0_2.out x10_1 p361 q361
        cases e361
        replace hx361_0 := (HB.out.cell (World.block_lt_of_cell? w _ hx361_0)).trans hx361_0
        replace hx361_1 := (HB.out.cell (World.block_lt_of_cell? w _ hx361_1)).trans hx361_1
        replace hx361_2 := (HB.out.cell (World.block_lt_of_cell? w _ hx361_2)).trans hx361_2
        replace hx361_3 := (HB.out.cell (World.block_lt_of_cell? w _ hx361_3)).trans hx361_3
        have HR361_3 := Aside0.mk hi361_3
        have HC361_3 := Aside0.mk hl361_3
        clear hi361_3 hl361_3
        replace p361 := eq_true p361
        replace q361 := eq_true q361
        go_wp2_with (first | ((with_reducible refine gate_dst (N := 6) rfl ?_); refine box_event ?hg (N := 6) ?hd (cs := #[.string (⟨#[]⟩ : ByteArray), .int .i64 0, .int .i64 0, .slice none 0 0]) (t := 40) ?hr ?_; (case hd => rfl); (case hg => rfl); (case hr => first | (go_simp; done) | (go_simp; rfl)); intro gb362 hg w13 hbox hb; have n0_ := Aside0.mk (blk_below (g := gb360) (o := .cells #[.slice A0_0 l0_0.length c0_0, .slice A0_1 l0_1.length c0_1, .slice (some ad361) l0_2.length c0_2, .slice A0_3 l0_3.length c0_3, .slice A0_4 l0_4.length c0_4, .slice A0_5 l0_5.length c0_5, .slice A0_6 l0_6.length c0_6] 46 (0, 0)) (by (with_reducible repeat (first | refine blk_drewN ?_ _ | refine blk_drew ?_ | refine blk_alloc ?_ _)); exact BK360.out) hb); have n1_ := Aside0.mk (below_step (BS GE360.out) hb); have n2_ := Aside0.mk (hbox); have n3_ := Aside0.mk ((by rw [hg]; exact (below_size (BS GE360.out)) : w.heap.size ≤ gb362)); have n4_ := Aside0.mk ((by rw [hg]; exact (below_size (BS GE360.out)) : w.heap.size ≤ gb362)); have n5_ := Aside0.mk ((by rw [hg]; exact Nat.ne_of_lt (blk_lt (g := gb360) (o := .cells #[.slice A0_0 l0_0.length c0_0, .slice A0_1 l0_1.length c0_1, .slice (some ad361) l0_2.length c0_2, .slice A0_3 l0_3.length c0_3, .slice A0_4 l0_4.length c0_4, .slice A0_5 l0_5.length c0_5, .slice A0_6 l0_6.length c0_6] 46 (0, 0)) (by (with_reducible repeat (first | refine blk_drewN ?_ _ | refine blk_drew ?_ | refine blk_alloc ?_ _)); exact BK360.out)) : gb360 ≠ gb362)); have n6_ := Aside0.mk ((by rw [hg]; exact Nat.ne_of_gt (blk_lt (g := gb360) (o := .cells #[.slice A0_0 l0_0.length c0_0, .slice A0_1 l0_1.length c0_1, .slice (some ad361) l0_2.length c0_2, .slice A0_3 l0_3.length c0_3, .slice A0_4 l0_4.length c0_4, .slice A0_5 l0_5.length c0_5, .slice A0_6 l0_6.length c0_6] 46 (0, 0)) (by (with_reducible repeat (first | refine blk_drewN ?_ _ | refine blk_drew ?_ | refine blk_alloc ?_ _)); exact BK360.out)) : gb362 ≠ gb360)); clear BK360; clear HB; have BK360 := n0_; have HB := n1_; have BK362 := n2_; have GW362 := n3_; have GE362 := n4_; have NB360_362 := n5_; have NB362_360 := n6_; clear n0_ n1_ n2_ n3_ n4_ n5_ n6_; clear hb hbox hg; have hnb14 := NB362_360.out; have hnc14 := NB360_362.out; have hcz15_0 : w13.cell? ⟨gb362, 0, none⟩ = some (.string (⟨#[]⟩ : ByteArray)) := (blk_cell BK362.out 0).trans rfl; have hcz15_1 : w13.cell? ⟨gb362, 1, none⟩ = some (.int .i64 0) := (blk_cell BK362.out 1).trans rfl; have hcz15_2 : w13.cell? ⟨gb362, 2, none⟩ = some (.int .i64 0) := (blk_cell BK362.out 2).trans rfl; have hcz15_3 : w13.cell? ⟨gb362, 3, none⟩ = some (.slice none 0 0) := (blk_cell BK362.out 3).trans rfl; have hfz15_0 := blk_frozen BK362.out 0; have hfz15_1 := blk_frozen BK362.out 1; have hfz15_2 := blk_frozen BK362.out 2; have hfz15_3 := blk_frozen BK362.out 3))
        go_roundg k1
        case measure => have := HK1.out; omega
        case rel => exact ⟨(wrap64 (x10_1 + 1)), (BE), H', ⟨by have := HK1.out; omega⟩, ⟨by (with_reducible repeat (first | refine blk_drewN ?_ _ | refine blk_drew ?_ | refine blk_alloc ?_ _)); refine blk_far ?_ NB360_362.out _; (with_reducible repeat (first | refine blk_drewN ?_ _ | refine blk_drew ?_ | refine blk_alloc ?_ _)); refine blk_far ?_ NB360_362.out _; (with_reducible repeat (first | refine blk_drewN ?_ _ | refine blk_drew ?_ | refine blk_alloc ?_ _)); refine blk_far ?_ NB360_362.out _; (with_reducible repeat (first | refine blk_drewN ?_ _ | refine blk_drew ?_ | refine blk_alloc ?_ _)); refine blk_far ?_ NB360_362.out _; (with_reducible repeat (first | refine blk_drewN ?_ _ | refine blk_drew ?_ | refine blk_alloc ?_ _)); exact BK360.out⟩, ⟨BS2 GE360.out GE362.out⟩⟩
      ·
       rw [if_neg c8] at H
       have c8b0 : decide (((rd_T40 l0_2 x10_1).f1) ≤ a1) = false := decide_eq_false c8
       clear c8
       have H' := Aside0.mk H
       clear H
       have p361 : 0 ≤ (x10_1 : Int) := OD
       have q361 : x10_1 < (l0_2.length : Int) := OD
       obtain ⟨ad361, A361_3, c361_3, e361, hx361_0, hx361_1, hx361_2, hx361_3, hl361_3, hi361_3⟩ := at_T40 HR0_2.out x10_1 p361 q361
       cases e361
       replace hx361_0 := (HB.out.cell (World.block_lt_of_cell? w _ hx361_0)).trans hx361_0
       replace hx361_1 := (HB.out.cell (World.block_lt_of_cell? w _ hx361_1)).trans hx361_1
       replace hx361_2 := (HB.out.cell (World.block_lt_of_cell? w _ hx361_2)).trans hx361_2
       replace hx361_3 := (HB.out.cell (World.block_lt_of_cell? w _ hx361_3)).trans hx361_3
       have HR361_3 := Aside0.mk hi361_3
       have HC361_3 := Aside0.mk hl361_3
       clear hi361_3 hl361_3
       replace p361 := eq_true p361
       replace q361 := eq_true q361
       go_wp2_with (first | ((with_reducible refine gate_dst (N := 6) rfl ?_); refine box_event ?hg (N := 6) ?hd (cs := #[.string (⟨#[]⟩ : ByteArray), .int .i64 0, .int .i64 0, .slice none 0 0]) (t := 40) ?hr ?_; (case hd => rfl); (case hg => rfl); (case hr => first | (go_simp; done) | (go_simp; rfl)); intro gb362 hg w16 hbox hb; have n0_ := Aside0.mk (blk_below (g := gb360) (o := .cells #[.slice A0_0 l0_0.length c0_0, .slice A0_1 l0_1.length c0_1, .slice (some ad361) l0_2.length c0_2, .slice A0_3 l0_3.length c0_3, .slice A0_4 l0_4.length c0_4, .slice A0_5 l0_5.length c0_5, .slice A0_6 l0_6.length c0_6] 46 (0, 0)) (by (with_reducible repeat (first | refine blk_drewN ?_ _ | refine blk_drew ?_ | refine blk_alloc ?_ _)); exact BK360.out) hb); have n1_ := Aside0.mk (below_step (BS GE360.out) hb); have n2_ := Aside0.mk (hbox); have n3_ := Aside0.mk ((by rw [hg]; exact (below_size (BS GE360.out)) : w.heap.size ≤ gb362)); have n4_ := Aside0.mk ((by rw [hg]; exact (below_size (BS GE360.out)) : w.heap.size ≤ gb362)); have n5_ := Aside0.mk ((by rw [hg]; exact Nat.ne_of_lt (blk_lt (g := gb360) (o := .cells #[.slice A0_0 l0_0.length c0_0, .slice A0_1 l0_1.length c0_1, .slice (some ad361) l0_2.length c0_2, .slice A0_3 l0_3.length c0_3, .slice A0_4 l0_4.length c0_4, .slice A0_5 l0_5.length c0_5, .slice A0_6 l0_6.length c0_6] 46 (0, 0)) (by (with_reducible repeat (first | refine blk_drewN ?_ _ | refine blk_drew ?_ | refine blk_alloc ?_ _)); exact BK360.out)) : gb360 ≠ gb362)); have n6_ := Aside0.mk ((by rw [hg]; exact Nat.ne_of_gt (blk_lt (g := gb360) (o := .cells #[.slice A0_0 l0_0.length c0_0, .slice A0_1 l0_1.length c0_1, .slice (some ad361) l0_2.length c0_2, .slice A0_3 l0_3.length c0_3, .slice A0_4 l0_4.length c0_4, .slice A0_5 l0_5.length c0_5, .slice A0_6 l0_6.length c0_6] 46 (0, 0)) (by (with_reducible repeat (first | refine blk_drewN ?_ _ | refine blk_drew ?_ | refine blk_alloc ?_ _)); exact BK360.out)) : gb362 ≠ gb360)); clear BK360; clear HB; have BK360 := n0_; have HB := n1_; have BK362 := n2_; have GW362 := n3_; have GE362 := n4_; have NB360_362 := n5_; have NB362_360 := n6_; clear n0_ n1_ n2_ n3_ n4_ n5_ n6_; clear hb hbox hg; have hnb17 := NB362_360.out; have hnc17 := NB360_362.out; have hcz18_0 : w16.cell? ⟨gb362, 0, none⟩ = some (.string (⟨#[]⟩ : ByteArray)) := (blk_cell BK362.out 0).trans rfl; have hcz18_1 : w16.cell? ⟨gb362, 1, none⟩ = some (.int .i64 0) := (blk_cell BK362.out 1).trans rfl; have hcz18_2 : w16.cell? ⟨gb362, 2, none⟩ = some (.int .i64 0) := (blk_cell BK362.out 2).trans rfl; have hcz18_3 : w16.cell? ⟨gb362, 3, none⟩ = some (.slice none 0 0) := (blk_cell BK362.out 3).trans rfl; have hfz18_0 := blk_frozen BK362.out 0; have hfz18_1 := blk_frozen BK362.out 1; have hfz18_2 := blk_frozen BK362.out 2; have hfz18_3 := blk_frozen BK362.out 3))
       go_roundg k1
       case measure => have := HK1.out; omega
       case rel => exact ⟨(wrap64 (x10_1 + 1)), (BE), H', ⟨by have := HK1.out; omega⟩, ⟨by (with_reducible repeat (first | refine blk_drewN ?_ _ | refine blk_drew ?_ | refine blk_alloc ?_ _)); refine blk_far ?_ NB360_362.out _; (with_reducible repeat (first | refine blk_drewN ?_ _ | refine blk_drew ?_ | refine blk_alloc ?_ _)); refine blk_far ?_ NB360_362.out _; (with_reducible repeat (first | refine blk_drewN ?_ _ | refine blk_drew ?_ | refine blk_alloc ?_ _)); refine blk_far ?_ NB360_362.out _; (with_reducible repeat (first | refine blk_drewN ?_ _ | refine blk_drew ?_ | refine blk_alloc ?_ _)); refine blk_far ?_ NB360_362.out _; (with_reducible repeat (first | refine blk_drewN ?_ _ | refine blk_drew ?_ | refine blk_alloc ?_ _)); exact BK360.out⟩, ⟨BS2 GE360.out GE362.out⟩⟩
     ·
      rw [if_neg c7] at H
      exact absurd H (by simp)
    ·
     rw [if_neg c6] at H
     exact absurd H (by simp)
   ·
    rw [if_neg c5] at H
    have c5b0 : decide (x10_1 < (l0_2.length : Int)) = false := decide_eq_false c5
    clear c5
    obtain rfl := Option.some.inj H
    go_wp2
    go_ret
    exact ⟨BX, BS GE360.out⟩

/-! ### corpus_inText: function 44 -/
def corpus_inText.f (k : Nat) (l0_0 : List (S36)) (l0_1 : List (List ByteArray)) (l0_2 : List (S40)) (l0_3 : List (S77)) (l0_4 : List (S82)) (l0_5 : List Int) (l0_6 : List ByteArray) (a1 : Int) (a2 : Int) : Option (Bool) := (corpus_TextAt.f k l0_0 l0_1 l0_2 l0_3 l0_4 l0_5 l0_6 a1).bind fun t364 => (if a1 < a2 then (if t364 ≥ 0 then (if 0 ≤ t364 then (if t364 < (l0_2.length : Int) then (some (decide (a2 ≤ ((rd_T40 l0_2 t364).f2)))) else (none)) else (none)) else (some false)) else (some false))
theorem corpus_inText.mono : ∀ a0 a1 a2 a3 a4 a5 a6 a7 a8 k, LeO (corpus_inText.f k a0 a1 a2 a3 a4 a5 a6 a7 a8) (corpus_inText.f (k + 1) a0 a1 a2 a3 a4 a5 a6 a7 a8) := by
 intro a0 a1 a2 a3 a4 a5 a6 a7 a8 k
 unfold corpus_inText.f
 with_reducible repeat' first | exact corpus_TextAt.mono _ _ _ _ _ _ _ _ _ | exact LeO.refl _ | exact LeO.none _ | refine LeO.ite ?_ ?_ | refine LeO.bind ?_ (fun _ => ?_)
set_option maxHeartbeats 8000000 in
set_option maxRecDepth 100000 in
theorem corpus_inText.calls (k : Nat) (A0_0 : Option Addr) (c0_0 : Nat) (l0_0 : List (S36)) (A0_1 : Option Addr) (c0_1 : Nat) (l0_1 : List (List ByteArray)) (A0_2 : Option Addr) (c0_2 : Nat) (l0_2 : List (S40)) (A0_3 : Option Addr) (c0_3 : Nat) (l0_3 : List (S77)) (A0_4 : Option Addr) (c0_4 : Nat) (l0_4 : List (S82)) (A0_5 : Option Addr) (c0_5 : Nat) (l0_5 : List Int) (A0_6 : Option Addr) (c0_6 : Nat) (l0_6 : List ByteArray) (a1 : Int) (a2 : Int) (r : Bool) (w : World) (hr0_0 : Kd.C k36 w A0_0 l0_0.length l0_0) (hc0_0 : l0_0.length ≤ c0_0) (hr0_1 : Kd.C (Kd.slice 9 Kd.string) w A0_1 l0_1.length l0_1) (hc0_1 : l0_1.length ≤ c0_1) (hr0_2 : Kd.C k40 w A0_2 l0_2.length l0_2) (hc0_2 : l0_2.length ≤ c0_2) (hr0_3 : Kd.C k77 w A0_3 l0_3.length l0_3) (hc0_3 : l0_3.length ≤ c0_3) (hr0_4 : Kd.C k82 w A0_4 l0_4.length l0_4) (hc0_4 : l0_4.length ≤ c0_4) (hr0_5 : Kd.C (Kd.int .i64) w A0_5 l0_5.length l0_5) (hc0_5 : l0_5.length ≤ c0_5) (hr0_6 : Kd.C Kd.string w A0_6 l0_6.length l0_6) (hc0_6 : l0_6.length ≤ c0_6) (h : corpus_inText.f k l0_0 l0_1 l0_2 l0_3 l0_4 l0_5 l0_6 a1 a2 = some r) :
 Calls Tryd.prog 44 #[.agg #[.slice A0_0 l0_0.length c0_0, .slice A0_1 l0_1.length c0_1, .slice A0_2 l0_2.length c0_2, .slice A0_3 l0_3.length c0_3, .slice A0_4 l0_4.length c0_4, .slice A0_5 l0_5.length c0_5, .slice A0_6 l0_6.length c0_6], .int .i64 a1, .int .i64 a2] w fun e w' => e = .returned (.bool r) ∧ Below w.heap.size w w' := by
 have hu46 := Tryd.underlying46
 have HR0_0 := Aside0.mk hr0_0
 have HC0_0 := Aside0.mk hc0_0
 clear hr0_0 hc0_0
 have HR0_1 := Aside0.mk hr0_1
 have HC0_1 := Aside0.mk hc0_1
 clear hr0_1 hc0_1
 have HR0_2 := Aside0.mk hr0_2
 have HC0_2 := Aside0.mk hc0_2
 clear hr0_2 hc0_2
 have HR0_3 := Aside0.mk hr0_3
 have HC0_3 := Aside0.mk hc0_3
 clear hr0_3 hc0_3
 have HR0_4 := Aside0.mk hr0_4
 have HC0_4 := Aside0.mk hc0_4
 clear hr0_4 hc0_4
 have HR0_5 := Aside0.mk hr0_5
 have HC0_5 := Aside0.mk hc0_5
 clear hr0_5 hc0_5
 have HR0_6 := Aside0.mk hr0_6
 have HC0_6 := Aside0.mk hc0_6
 clear hr0_6 hc0_6
 have HB := Aside0.mk (Below.refl w.heap.size w)
 have H : ((corpus_TextAt.f k l0_0 l0_1 l0_2 l0_3 l0_4 l0_5 l0_6 a1).bind fun t364 => (if a1 < a2 then (if t364 ≥ 0 then (if 0 ≤ t364 then (if t364 < (l0_2.length : Int) then (some (decide (a2 ≤ ((rd_T40 l0_2 t364).f2)))) else (none)) else (none)) else (some false)) else (some false))) = some r := h
 clear h
 replace H := Option.bind_eq_some_iff.mp H
 obtain ⟨t364, A40, H⟩ := H
 replace H : (if a1 < a2 then (if t364 ≥ 0 then (if 0 ≤ t364 then (if t364 < (l0_2.length : Int) then (some (decide (a2 ≤ ((rd_T40 l0_2 t364).f2)))) else (none)) else (none)) else (some false)) else (some false)) = some r := H
 have A4 := Aside0.mk A40
 clear A40
 by_cases c5 : a1 < a2
 ·
  rw [if_pos c5] at H
  have c5b0 : decide (a1 < a2) = true := decide_eq_true c5
  clear c5
  by_cases c6 : t364 ≥ 0
  ·
   rw [if_pos c6] at H
   have c6b0 : decide (0 ≤ t364) = true := decide_eq_true c6
   clear c6
   by_cases c7 : 0 ≤ t364
   ·
    rw [if_pos c7] at H
    have c7b0 : decide (0 ≤ t364) = true := decide_eq_true c7
    clear c7
    by_cases c8 : t364 < (l0_2.length : Int)
    ·
     rw [if_pos c8] at H
     have c8b0 : decide (t364 < (l0_2.length : Int)) = true := decide_eq_true c8
     clear c8
     obtain rfl := Option.some.inj H
     go_enter Tryd.func44, Tryd.ntmps44
     go_wp2_with (first | ((with_reducible refine gate_dst (N := 3) rfl ?_); refine box_event ?hg (N := 3) ?hd (cs := #[.slice A0_0 l0_0.length c0_0, .slice A0_1 l0_1.length c0_1, .slice A0_2 l0_2.length c0_2, .slice A0_3 l0_3.length c0_3, .slice A0_4 l0_4.length c0_4, .slice A0_5 l0_5.length c0_5, .slice A0_6 l0_6.length c0_6]) (t := 46) ?hr ?_; (case hd => rfl); (case hg => rfl); (case hr => first | (go_simp; done) | (go_simp; rfl)); intro gb363 hg w9 hbox hb; have n0_ := Aside0.mk (below_step (BB) hb); have n1_ := Aside0.mk (hbox); have n2_ := Aside0.mk ((by rw [hg]; exact (below_size (BB)) : w.heap.size ≤ gb363)); have n3_ := Aside0.mk ((by rw [hg]; exact (below_size (BB)) : w.heap.size ≤ gb363)); clear HB; have HB := n0_; have BK363 := n1_; have GW363 := n2_; have GE363 := n3_; clear n0_ n1_ n2_ n3_; clear hb hbox hg; have hcz10_0 : w9.cell? ⟨gb363, 0, none⟩ = some (.slice A0_0 l0_0.length c0_0) := (blk_cell BK363.out 0).trans rfl; have hcz10_1 : w9.cell? ⟨gb363, 1, none⟩ = some (.slice A0_1 l0_1.length c0_1) := (blk_cell BK363.out 1).trans rfl; have hcz10_2 : w9.cell? ⟨gb363, 2, none⟩ = some (.slice A0_2 l0_2.length c0_2) := (blk_cell BK363.out 2).trans rfl; have hcz10_3 : w9.cell? ⟨gb363, 3, none⟩ = some (.slice A0_3 l0_3.length c0_3) := (blk_cell BK363.out 3).trans rfl; have hcz10_4 : w9.cell? ⟨gb363, 4, none⟩ = some (.slice A0_4 l0_4.length c0_4) := (blk_cell BK363.out 4).trans rfl; have hcz10_5 : w9.cell? ⟨gb363, 5, none⟩ = some (.slice A0_5 l0_5.length c0_5) := (blk_cell BK363.out 5).trans rfl; have hcz10_6 : w9.cell? ⟨gb363, 6, none⟩ = some (.slice A0_6 l0_6.length c0_6) := (blk_cell BK363.out 6).trans rfl; have hfz10_0 := blk_frozen BK363.out 0; have hfz10_1 := blk_frozen BK363.out 1; have hfz10_2 := blk_frozen BK363.out 2; have hfz10_3 := blk_frozen BK363.out 3; have hfz10_4 := blk_frozen BK363.out 4; have hfz10_5 := blk_frozen BK363.out 5; have hfz10_6 := blk_frozen BK363.out 6) | ((with_reducible refine gate_callee (f := 50) rfl ?_); refine goesL_ (some 10) rfl rfl Tryd.func50 (by kernel_rfl) rfl #[.agg #[.slice A0_0 l0_0.length c0_0, .slice A0_1 l0_1.length c0_1, .slice A0_2 l0_2.length c0_2, .slice A0_3 l0_3.length c0_3, .slice A0_4 l0_4.length c0_4, .slice A0_5 l0_5.length c0_5, .slice A0_6 l0_6.length c0_6], .int .i64 a1] rfl BM ?_; (with_reducible refine (corpus_TextAt.calls k _ _ l0_0 _ _ l0_1 _ _ l0_2 _ _ l0_3 _ _ l0_4 _ _ l0_5 _ _ l0_6 a1 t364 _ ?side1 ?side2 ?side3 ?side4 ?side5 ?side6 ?side7 ?side8 ?side9 ?side10 ?side11 ?side12 ?side13 ?side14 A4.out).mono ?_); (case side1 => exact BC HR0_0.out); (case side2 => exact HC0_0.out); (case side3 => exact BC HR0_1.out); (case side4 => exact HC0_1.out); (case side5 => exact BC HR0_2.out); (case side6 => exact HC0_2.out); (case side7 => exact BC HR0_3.out); (case side8 => exact HC0_3.out); (case side9 => exact BC HR0_4.out); (case side10 => exact HC0_4.out); (case side11 => exact BC HR0_5.out); (case side12 => exact HC0_5.out); (case side13 => exact BC HR0_6.out); (case side14 => exact HC0_6.out); rintro e w11 ⟨rfl, hb⟩; refine ⟨_, rfl, ?_⟩; have n0_ := Aside0.mk (blk_below (g := gb363) (o := .cells #[.slice A0_0 l0_0.length c0_0, .slice A0_1 l0_1.length c0_1, .slice A0_2 l0_2.length c0_2, .slice A0_3 l0_3.length c0_3, .slice A0_4 l0_4.length c0_4, .slice A0_5 l0_5.length c0_5, .slice A0_6 l0_6.length c0_6] 46 (0, 0)) (by (with_reducible repeat (first | refine blk_drewN ?_ _ | refine blk_drew ?_ | refine blk_alloc ?_ _)); exact BK363.out) hb); have n1_ := Aside0.mk (below_step (BS GE363.out) hb); clear BK363; clear HB; have BK363 := n0_; have HB := n1_; clear n0_ n1_; (try clear hb); (try clear hb2); (try clear hk); (try clear hi); have hcz12_0 : w11.cell? ⟨gb363, 0, none⟩ = some (.slice A0_0 l0_0.length c0_0) := (blk_cell BK363.out 0).trans rfl; have hcz12_1 : w11.cell? ⟨gb363, 1, none⟩ = some (.slice A0_1 l0_1.length c0_1) := (blk_cell BK363.out 1).trans rfl; have hcz12_2 : w11.cell? ⟨gb363, 2, none⟩ = some (.slice A0_2 l0_2.length c0_2) := (blk_cell BK363.out 2).trans rfl; have hcz12_3 : w11.cell? ⟨gb363, 3, none⟩ = some (.slice A0_3 l0_3.length c0_3) := (blk_cell BK363.out 3).trans rfl; have hcz12_4 : w11.cell? ⟨gb363, 4, none⟩ = some (.slice A0_4 l0_4.length c0_4) := (blk_cell BK363.out 4).trans rfl; have hcz12_5 : w11.cell? ⟨gb363, 5, none⟩ = some (.slice A0_5 l0_5.length c0_5) := (blk_cell BK363.out 5).trans rfl; have hcz12_6 : w11.cell? ⟨gb363, 6, none⟩ = some (.slice A0_6 l0_6.length c0_6) := (blk_cell BK363.out 6).trans rfl; have hfz12_0 := blk_frozen BK363.out 0; have hfz12_1 := blk_frozen BK363.out 1; have hfz12_2 := blk_frozen BK363.out 2; have hfz12_3 := blk_frozen BK363.out 3; have hfz12_4 := blk_frozen BK363.out 4; have hfz12_5 := blk_frozen BK363.out 5; have hfz12_6 := blk_frozen BK363.out 6; have p365 : 0 ≤ (t364 : Int) := OD; have q365 : t364 < (l0_2.length : Int) := OD; obtain ⟨ad365, A365_3, c365_3, e365, hx365_0, hx365_1, hx365_2, hx365_3, hl365_3, hi365_3⟩ := at_T40 HR0_2.out t364 p365 q365; cases e365; replace hx365_0 := (HB.out.cell (World.block_lt_of_cell? w _ hx365_0)).trans hx365_0; replace hx365_1 := (HB.out.cell (World.block_lt_of_cell? w _ hx365_1)).trans hx365_1; replace hx365_2 := (HB.out.cell (World.block_lt_of_cell? w _ hx365_2)).trans hx365_2; replace hx365_3 := (HB.out.cell (World.block_lt_of_cell? w _ hx365_3)).trans hx365_3; have HR365_3 := Aside0.mk hi365_3; have HC365_3 := Aside0.mk hl365_3; clear hi365_3 hl365_3; replace p365 := eq_true p365; replace q365 := eq_true q365))
     go_ret
     exact ⟨BX, BS GE363.out⟩
    ·
     rw [if_neg c8] at H
     exact absurd H (by simp)
   ·
    rw [if_neg c7] at H
    exact absurd H (by simp)
  ·
   rw [if_neg c6] at H
   have c6b0 : decide (0 ≤ t364) = false := decide_eq_false c6
   clear c6
   obtain rfl := Option.some.inj H
   go_enter Tryd.func44, Tryd.ntmps44
   go_wp2_with (first | ((with_reducible refine gate_dst (N := 3) rfl ?_); refine box_event ?hg (N := 3) ?hd (cs := #[.slice A0_0 l0_0.length c0_0, .slice A0_1 l0_1.length c0_1, .slice A0_2 l0_2.length c0_2, .slice A0_3 l0_3.length c0_3, .slice A0_4 l0_4.length c0_4, .slice A0_5 l0_5.length c0_5, .slice A0_6 l0_6.length c0_6]) (t := 46) ?hr ?_; (case hd => rfl); (case hg => rfl); (case hr => first | (go_simp; done) | (go_simp; rfl)); intro gb363 hg w13 hbox hb; have n0_ := Aside0.mk (below_step (BB) hb); have n1_ := Aside0.mk (hbox); have n2_ := Aside0.mk ((by rw [hg]; exact (below_size (BB)) : w.heap.size ≤ gb363)); have n3_ := Aside0.mk ((by rw [hg]; exact (below_size (BB)) : w.heap.size ≤ gb363)); clear HB; have HB := n0_; have BK363 := n1_; have GW363 := n2_; have GE363 := n3_; clear n0_ n1_ n2_ n3_; clear hb hbox hg; have hcz14_0 : w13.cell? ⟨gb363, 0, none⟩ = some (.slice A0_0 l0_0.length c0_0) := (blk_cell BK363.out 0).trans rfl; have hcz14_1 : w13.cell? ⟨gb363, 1, none⟩ = some (.slice A0_1 l0_1.length c0_1) := (blk_cell BK363.out 1).trans rfl; have hcz14_2 : w13.cell? ⟨gb363, 2, none⟩ = some (.slice A0_2 l0_2.length c0_2) := (blk_cell BK363.out 2).trans rfl; have hcz14_3 : w13.cell? ⟨gb363, 3, none⟩ = some (.slice A0_3 l0_3.length c0_3) := (blk_cell BK363.out 3).trans rfl; have hcz14_4 : w13.cell? ⟨gb363, 4, none⟩ = some (.slice A0_4 l0_4.length c0_4) := (blk_cell BK363.out 4).trans rfl; have hcz14_5 : w13.cell? ⟨gb363, 5, none⟩ = some (.slice A0_5 l0_5.length c0_5) := (blk_cell BK363.out 5).trans rfl; have hcz14_6 : w13.cell? ⟨gb363, 6, none⟩ = some (.slice A0_6 l0_6.length c0_6) := (blk_cell BK363.out 6).trans rfl; have hfz14_0 := blk_frozen BK363.out 0; have hfz14_1 := blk_frozen BK363.out 1; have hfz14_2 := blk_frozen BK363.out 2; have hfz14_3 := blk_frozen BK363.out 3; have hfz14_4 := blk_frozen BK363.out 4; have hfz14_5 := blk_frozen BK363.out 5; have hfz14_6 := blk_frozen BK363.out 6) | ((with_reducible refine gate_callee (f := 50) rfl ?_); refine goesL_ (some 10) rfl rfl Tryd.func50 (by kernel_rfl) rfl #[.agg #[.slice A0_0 l0_0.length c0_0, .slice A0_1 l0_1.length c0_1, .slice A0_2 l0_2.length c0_2, .slice A0_3 l0_3.length c0_3, .slice A0_4 l0_4.length c0_4, .slice A0_5 l0_5.length c0_5, .slice A0_6 l0_6.length c0_6], .int .i64 a1] rfl BM ?_; (with_reducible refine (corpus_TextAt.calls k _ _ l0_0 _ _ l0_1 _ _ l0_2 _ _ l0_3 _ _ l0_4 _ _ l0_5 _ _ l0_6 a1 t364 _ ?side1 ?side2 ?side3 ?side4 ?side5 ?side6 ?side7 ?side8 ?side9 ?side10 ?side11 ?side12 ?side13 ?side14 A4.out).mono ?_); (case side1 => exact BC HR0_0.out); (case side2 => exact HC0_0.out); (case side3 => exact BC HR0_1.out); (case side4 => exact HC0_1.out); (case side5 => exact BC HR0_2.out); (case side6 => exact HC0_2.out); (case side7 => exact BC HR0_3.out); (case side8 => exact HC0_3.out); (case side9 => exact BC HR0_4.out); (case side10 => exact HC0_4.out); (case side11 => exact BC HR0_5.out); (case side12 => exact HC0_5.out); (case side13 => exact BC HR0_6.out); (case side14 => exact HC0_6.out); rintro e w15 ⟨rfl, hb⟩; refine ⟨_, rfl, ?_⟩; have n0_ := Aside0.mk (blk_below (g := gb363) (o := .cells #[.slice A0_0 l0_0.length c0_0, .slice A0_1 l0_1.length c0_1, .slice A0_2 l0_2.length c0_2, .slice A0_3 l0_3.length c0_3, .slice A0_4 l0_4.length c0_4, .slice A0_5 l0_5.length c0_5, .slice A0_6 l0_6.length c0_6] 46 (0, 0)) (by (with_reducible repeat (first | refine blk_drewN ?_ _ | refine blk_drew ?_ | refine blk_alloc ?_ _)); exact BK363.out) hb); have n1_ := Aside0.mk (below_step (BS GE363.out) hb); clear BK363; clear HB; have BK363 := n0_; have HB := n1_; clear n0_ n1_; (try clear hb); (try clear hb2); (try clear hk); (try clear hi)))
   go_ret
   exact ⟨BX, BS GE363.out⟩
 ·
  rw [if_neg c5] at H
  have c5b0 : decide (a1 < a2) = false := decide_eq_false c5
  clear c5
  obtain rfl := Option.some.inj H
  go_enter Tryd.func44, Tryd.ntmps44
  go_wp2_with (first | ((with_reducible refine gate_dst (N := 3) rfl ?_); refine box_event ?hg (N := 3) ?hd (cs := #[.slice A0_0 l0_0.length c0_0, .slice A0_1 l0_1.length c0_1, .slice A0_2 l0_2.length c0_2, .slice A0_3 l0_3.length c0_3, .slice A0_4 l0_4.length c0_4, .slice A0_5 l0_5.length c0_5, .slice A0_6 l0_6.length c0_6]) (t := 46) ?hr ?_; (case hd => rfl); (case hg => rfl); (case hr => first | (go_simp; done) | (go_simp; rfl)); intro gb363 hg w16 hbox hb; have n0_ := Aside0.mk (below_step (BB) hb); have n1_ := Aside0.mk (hbox); have n2_ := Aside0.mk ((by rw [hg]; exact (below_size (BB)) : w.heap.size ≤ gb363)); have n3_ := Aside0.mk ((by rw [hg]; exact (below_size (BB)) : w.heap.size ≤ gb363)); clear HB; have HB := n0_; have BK363 := n1_; have GW363 := n2_; have GE363 := n3_; clear n0_ n1_ n2_ n3_; clear hb hbox hg; have hcz17_0 : w16.cell? ⟨gb363, 0, none⟩ = some (.slice A0_0 l0_0.length c0_0) := (blk_cell BK363.out 0).trans rfl; have hcz17_1 : w16.cell? ⟨gb363, 1, none⟩ = some (.slice A0_1 l0_1.length c0_1) := (blk_cell BK363.out 1).trans rfl; have hcz17_2 : w16.cell? ⟨gb363, 2, none⟩ = some (.slice A0_2 l0_2.length c0_2) := (blk_cell BK363.out 2).trans rfl; have hcz17_3 : w16.cell? ⟨gb363, 3, none⟩ = some (.slice A0_3 l0_3.length c0_3) := (blk_cell BK363.out 3).trans rfl; have hcz17_4 : w16.cell? ⟨gb363, 4, none⟩ = some (.slice A0_4 l0_4.length c0_4) := (blk_cell BK363.out 4).trans rfl; have hcz17_5 : w16.cell? ⟨gb363, 5, none⟩ = some (.slice A0_5 l0_5.length c0_5) := (blk_cell BK363.out 5).trans rfl; have hcz17_6 : w16.cell? ⟨gb363, 6, none⟩ = some (.slice A0_6 l0_6.length c0_6) := (blk_cell BK363.out 6).trans rfl; have hfz17_0 := blk_frozen BK363.out 0; have hfz17_1 := blk_frozen BK363.out 1; have hfz17_2 := blk_frozen BK363.out 2; have hfz17_3 := blk_frozen BK363.out 3; have hfz17_4 := blk_frozen BK363.out 4; have hfz17_5 := blk_frozen BK363.out 5; have hfz17_6 := blk_frozen BK363.out 6) | ((with_reducible refine gate_callee (f := 50) rfl ?_); refine goesL_ (some 10) rfl rfl Tryd.func50 (by kernel_rfl) rfl #[.agg #[.slice A0_0 l0_0.length c0_0, .slice A0_1 l0_1.length c0_1, .slice A0_2 l0_2.length c0_2, .slice A0_3 l0_3.length c0_3, .slice A0_4 l0_4.length c0_4, .slice A0_5 l0_5.length c0_5, .slice A0_6 l0_6.length c0_6], .int .i64 a1] rfl BM ?_; (with_reducible refine (corpus_TextAt.calls k _ _ l0_0 _ _ l0_1 _ _ l0_2 _ _ l0_3 _ _ l0_4 _ _ l0_5 _ _ l0_6 a1 t364 _ ?side1 ?side2 ?side3 ?side4 ?side5 ?side6 ?side7 ?side8 ?side9 ?side10 ?side11 ?side12 ?side13 ?side14 A4.out).mono ?_); (case side1 => exact BC HR0_0.out); (case side2 => exact HC0_0.out); (case side3 => exact BC HR0_1.out); (case side4 => exact HC0_1.out); (case side5 => exact BC HR0_2.out); (case side6 => exact HC0_2.out); (case side7 => exact BC HR0_3.out); (case side8 => exact HC0_3.out); (case side9 => exact BC HR0_4.out); (case side10 => exact HC0_4.out); (case side11 => exact BC HR0_5.out); (case side12 => exact HC0_5.out); (case side13 => exact BC HR0_6.out); (case side14 => exact HC0_6.out); rintro e w18 ⟨rfl, hb⟩; refine ⟨_, rfl, ?_⟩; have n0_ := Aside0.mk (blk_below (g := gb363) (o := .cells #[.slice A0_0 l0_0.length c0_0, .slice A0_1 l0_1.length c0_1, .slice A0_2 l0_2.length c0_2, .slice A0_3 l0_3.length c0_3, .slice A0_4 l0_4.length c0_4, .slice A0_5 l0_5.length c0_5, .slice A0_6 l0_6.length c0_6] 46 (0, 0)) (by (with_reducible repeat (first | refine blk_drewN ?_ _ | refine blk_drew ?_ | refine blk_alloc ?_ _)); exact BK363.out) hb); have n1_ := Aside0.mk (below_step (BS GE363.out) hb); clear BK363; clear HB; have BK363 := n0_; have HB := n1_; clear n0_ n1_; (try clear hb); (try clear hb2); (try clear hk); (try clear hi)))
  go_ret
  exact ⟨BX, BS GE363.out⟩

end Go.Proofs.YtkanmafjjejpmaaDoor.P
