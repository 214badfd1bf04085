-- Written by a program of this session (wip/doprint.sh) out of the translation; Lean checks it.
import Derived.Test.YtkanmafjjejpmaaDoorPx0
import Derived.Test.YtkanmafjjejpmaaDoorPx22
import Derived.Test.YtkanmafjjejpmaaDoorVal
namespace Go.Proofs.YtkanmafjjejpmaaDoor.P
open Go.Proofs.YtkanmafjjejpmaaDoor.S
open Go.Proofs.YtkanmafjjejpmaaDoor.X
open Go.RowKit Go.Proofs.YtkanmafjjejpmaaDoorW.PrintWords Go.Proofs.YtkanmafjjejpmaaDoorW.PrintLast Go.Proofs.YtkanmafjjejpmaaDoorW.PrintMore
attribute [local go_sem] max2_int min2_int max_two min_two max_three min_three max_four min_four   -- for this text's walks alone
set_option linter.unusedVariables false
set_option linter.unusedSimpArgs false

/-! ### corpus_errorOfValue: function 41 -/
def corpus_errorOfValue.f (k : Nat) (a0_0 : ByteArray) (a0_1 : Bool) (a1 : ByteArray) : Option (Int) := if a0_1 = true then ((feature_Parse.f k a1).bind fun bt336 => (some bt336.2)) else ((markup_ValidValue.f a1).bind fun t340 => (some t340))
theorem corpus_errorOfValue.mono : ∀ a0 a1 a2 k, LeO (corpus_errorOfValue.f k a0 a1 a2) (corpus_errorOfValue.f (k + 1) a0 a1 a2) := by
 intro a0 a1 a2 k
 unfold corpus_errorOfValue.f
 with_reducible repeat' first | exact feature_Parse.mono _ _ | exact LeO.refl _ | exact LeO.none _ | refine LeO.ite ?_ ?_ | refine LeO.bind ?_ (fun _ => ?_)
set_option maxHeartbeats 8000000 in
set_option maxRecDepth 100000 in
theorem corpus_errorOfValue.calls (k : Nat) (a0_0 : ByteArray) (a0_1 : Bool) (a1 : ByteArray) (r : Int) (w : World) (h : corpus_errorOfValue.f k a0_0 a0_1 a1 = some r) :
 Calls Tryd.prog 41 #[.agg #[.string a0_0, .bool a0_1], .string a1] w fun e w' => e = .returned (.int .i64 r) ∧ Below w.heap.size w w' := by
 have hu36 := Tryd.underlying36
 have HB := Aside0.mk (Below.refl w.heap.size w)
 have H : (if a0_1 = true then ((feature_Parse.f k a1).bind fun bt336 => (some bt336.2)) else ((markup_ValidValue.f a1).bind fun t340 => (some t340))) = some r := h
 clear h
 by_cases c3 : a0_1 = true
 ·
  subst c3
  have H1 : ((feature_Parse.f k a1).bind fun bt336 => (some bt336.2)) = some r := by rw [if_pos rfl] at H; exact H
  clear H
  have H := H1
  clear H1
  replace H := Option.bind_eq_some_iff.mp H
  obtain ⟨⟨t336, t337⟩, A40, H⟩ := H
  replace H : (some t337) = some r := H
  have A4 := Aside0.mk A40
  clear A40
  obtain rfl := Option.some.inj H
  go_enter Tryd.func41, Tryd.ntmps41
  go_wp2_with (first | ((with_reducible refine gate_dst (N := 2) rfl ?_); refine box_event ?hg (N := 2) ?hd (cs := #[.string a0_0, .bool true]) (t := 36) ?hr ?_; (case hd => rfl); (case hg => rfl); (case hr => first | (go_simp; done) | (go_simp; rfl)); intro gb335 hg w5 hbox hb; have n0_ := Aside0.mk (below_step (BB) hb); have n1_ := Aside0.mk (hbox); have n2_ := Aside0.mk ((by rw [hg]; exact (below_size (BB)) : w.heap.size ≤ gb335)); have n3_ := Aside0.mk ((by rw [hg]; exact (below_size (BB)) : w.heap.size ≤ gb335)); clear HB; have HB := n0_; have BK335 := n1_; have GW335 := n2_; have GE335 := n3_; clear n0_ n1_ n2_ n3_; clear hb hbox hg; have hcz6_0 : w5.cell? ⟨gb335, 0, none⟩ = some (.string a0_0) := (blk_cell BK335.out 0).trans rfl; have hcz6_1 : w5.cell? ⟨gb335, 1, none⟩ = some (.bool true) := (blk_cell BK335.out 1).trans rfl; have hfz6_0 := blk_frozen BK335.out 0; have hfz6_1 := blk_frozen BK335.out 1) | ((with_reducible refine gate_callee (f := 54) rfl ?_); refine goesL_ (some 14) rfl rfl Tryd.func54 (by kernel_rfl) rfl #[.string a1] rfl BM ?_; (with_reducible refine (feature_Parse.calls k a1 t336 t337 _ A4.out).mono ?_); rintro e w7 ⟨v338, rfl, ho0, hb⟩; refine ⟨_, rfl, ?_⟩; have n0_ := Aside0.mk (Kd.R_lower ho0 (below_size (BS GE335.out))); have n1_ := Aside0.mk (blk_below (g := gb335) (o := .cells #[.string a0_0, .bool true] 36 (0, 0)) (by (with_reducible repeat (first | refine blk_drewN ?_ _ | refine blk_drew ?_ | refine blk_alloc ?_ _)); exact BK335.out) hb); have n2_ := Aside0.mk (below_step (BS GE335.out) hb); clear BK335; clear HB; have HO339 := n0_; have BK335 := n1_; have HB := n2_; clear n0_ n1_ n2_; (try clear hb); (try clear hb2); (try clear hk); (try clear hi); (try clear ho0)))
  go_ret
  exact ⟨BX, BS GE335.out⟩
 ·
  replace c3 := Bool.eq_false_iff.mpr c3
  subst c3
  have H1 : ((markup_ValidValue.f a1).bind fun t340 => (some t340)) = some r := by rw [if_neg (show ¬ (false = true) by decide)] at H; exact H
  clear H
  have H := H1
  clear H1
  replace H := Option.bind_eq_some_iff.mp H
  obtain ⟨t340, A80, H⟩ := H
  replace H : (some t340) = some r := H
  have A8 := Aside0.mk A80
  clear A80
  obtain rfl := Option.some.inj H
  go_enter Tryd.func41, Tryd.ntmps41
  go_wp2_with (first | ((with_reducible refine gate_dst (N := 2) rfl ?_); refine box_event ?hg (N := 2) ?hd (cs := #[.string a0_0, .bool false]) (t := 36) ?hr ?_; (case hd => rfl); (case hg => rfl); (case hr => first | (go_simp; done) | (go_simp; rfl)); intro gb335 hg w9 hbox hb; have n0_ := Aside0.mk (below_step (BB) hb); have n1_ := Aside0.mk (hbox); have n2_ := Aside0.mk ((by rw [hg]; exact (below_size (BB)) : w.heap.size ≤ gb335)); have n3_ := Aside0.mk ((by rw [hg]; exact (below_size (BB)) : w.heap.size ≤ gb335)); clear HB; have HB := n0_; have BK335 := n1_; have GW335 := n2_; have GE335 := n3_; clear n0_ n1_ n2_ n3_; clear hb hbox hg; have hcz10_0 : w9.cell? ⟨gb335, 0, none⟩ = some (.string a0_0) := (blk_cell BK335.out 0).trans rfl; have hcz10_1 : w9.cell? ⟨gb335, 1, none⟩ = some (.bool false) := (blk_cell BK335.out 1).trans rfl; have hfz10_0 := blk_frozen BK335.out 0; have hfz10_1 := blk_frozen BK335.out 1) | ((with_reducible refine gate_callee (f := 53) rfl ?_); refine goesL_ (some 11) rfl rfl Tryd.func53 (by kernel_rfl) rfl #[.string a1] rfl BM ?_; (with_reducible refine (markup_ValidValue.calls a1 t340 _ A8.out).mono ?_); rintro e w11 ⟨rfl, hb⟩; refine ⟨_, rfl, ?_⟩; have n0_ := Aside0.mk (blk_below (g := gb335) (o := .cells #[.string a0_0, .bool false] 36 (0, 0)) (by (with_reducible repeat (first | refine blk_drewN ?_ _ | refine blk_drew ?_ | refine blk_alloc ?_ _)); exact BK335.out) hb); have n1_ := Aside0.mk (below_step (BS GE335.out) hb); clear BK335; clear HB; have BK335 := n0_; have HB := n1_; clear n0_ n1_; (try clear hb); (try clear hb2); (try clear hk); (try clear hi)))
  go_ret
  exact ⟨BX, BS GE335.out⟩

end Go.Proofs.YtkanmafjjejpmaaDoor.P
