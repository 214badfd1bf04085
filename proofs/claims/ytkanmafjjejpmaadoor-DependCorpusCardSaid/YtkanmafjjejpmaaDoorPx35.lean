-- Written by a program of this session (wip/doprint.sh) out of the translation; Lean checks it.
import Derived.Test.YtkanmafjjejpmaaDoorPx0
import Derived.Test.YtkanmafjjejpmaaDoorPx7
import Derived.Test.YtkanmafjjejpmaaDoorPx19
import Derived.Test.YtkanmafjjejpmaaDoorX7
namespace Go.Proofs.YtkanmafjjejpmaaDoor.P
open Go.Proofs.YtkanmafjjejpmaaDoor.S
open Go.Proofs.YtkanmafjjejpmaaDoor.X
open Go.RowKit Go.Proofs.YtkanmafjjejpmaaDoorW.PrintWords Go.Proofs.YtkanmafjjejpmaaDoorW.PrintLast Go.Proofs.YtkanmafjjejpmaaDoorW.PrintMore
attribute [local go_sem] max2_int min2_int max_two min_two max_three min_three max_four min_four   -- for this text's walks alone
set_option linter.unusedVariables false
set_option linter.unusedSimpArgs false

/-! ### corporalaw09_DependCorpus: function 5 -/
mutual
def corporalaw09_DependCorpus.j0 : Nat → List Int → List ByteArray → Int → Bool → Option (Bool)
  | 0, _, _, _, _ => none
  | k + 1, x0, x1, x5, x27 => if x27 = true then (some true) else (corporalaw09_DependCorpus.l0 k x0 x1 ((x1.length : Int) == x5) x0 (x0.length : Int) 0 (([(⟨(⟨#[119, 111, 114, 100]⟩ : ByteArray), false⟩ : S36)] : List (S36))) ([] : List (List ByteArray)) (([(⟨(⟨#[116]⟩ : ByteArray), 0, x5, ([] : List (S95))⟩ : S40)] : List (S40))) x0 x1)
def corporalaw09_DependCorpus.l0 : Nat → List Int → List ByteArray → Bool → List Int → Int → Int → List (S36) → List (List ByteArray) → List (S40) → List Int → List ByteArray → Option (Bool)
  | 0, _, _, _, _, _, _, _, _, _, _, _ => none
  | k + 1, x0, x1, x7, x40, x41, x42, x452000, x452001, x452002, x452005, x452006 => if x42 < x41 then (if 0 ≤ x42 then (if x42 < (x40.length : Int) then (if x452001.length < 5864062014805 then ((some (x452001 ++ [(([(⟨#[]⟩ : ByteArray)] : List ByteArray))] : List (List ByteArray))).bind fun y456 => (if x7 = true then (if (rd x40 x42) = (-1) then (if x42 < (x1.length : Int) then (corporalaw09_DependCorpus.l0 k x0 x1 ((rdOf ByteArray.empty x1 x42).toList == ([] : List UInt8)) x40 x41 (wrap64 (x42 + 1)) x452000 y456 x452002 x452005 x452006) else (none)) else (corporalaw09_DependCorpus.l0 k x0 x1 false x40 x41 (wrap64 (x42 + 1)) x452000 y456 x452002 x452005 x452006)) else (corporalaw09_DependCorpus.l0 k x0 x1 false x40 x41 (wrap64 (x42 + 1)) x452000 y456 x452002 x452005 x452006))) else (none)) else (none)) else (none)) else ((corpus_Validate.f k x452000 x452001 x452002 ([] : List (S77)) ([] : List (S82)) x452005 x452006).bind fun bt460 => ((depend_Format.f k x0 x1).bind fun bt463 => (if x7 = true then (if bt460.2.2 = 14 then (if bt463.2 = 0 then ((corporalaw09_awake.f k).bind fun t465 => (some t465)) else (some false)) else (some false)) else (if ((bt460.2.2 == 0) == (bt463.2 == 0)) = true then ((corporalaw09_awake.f k).bind fun t466 => (some t466)) else (some false)))))
end
def corporalaw09_DependCorpus.f (k : Nat) (l0 : List Int) (l1 : List ByteArray) : Option (Bool) := if (l0.length : Int) = 0 then (corporalaw09_DependCorpus.j0 k l0 l1 (l0.length : Int) true) else (if (l0.length : Int) > 60 then (corporalaw09_DependCorpus.j0 k l0 l1 (l0.length : Int) true) else (corporalaw09_DependCorpus.j0 k l0 l1 (l0.length : Int) (decide ((l1.length : Int) > 70))))
theorem corporalaw09_DependCorpus.mono_l : ∀ k, (∀ y0 y1 y2 y3, LeO (corporalaw09_DependCorpus.j0 k y0 y1 y2 y3) (corporalaw09_DependCorpus.j0 (k + 1) y0 y1 y2 y3)) ∧ (∀ y0 y1 y2 y3 y4 y5 y6 y7 y8 y9 y10, LeO (corporalaw09_DependCorpus.l0 k y0 y1 y2 y3 y4 y5 y6 y7 y8 y9 y10) (corporalaw09_DependCorpus.l0 (k + 1) y0 y1 y2 y3 y4 y5 y6 y7 y8 y9 y10))
 | 0 => ⟨fun _ _ _ _ r h => by simp [corporalaw09_DependCorpus.j0] at h, fun _ _ _ _ _ _ _ _ _ _ _ r h => by simp [corporalaw09_DependCorpus.l0] at h⟩
 | k + 1 => by
  obtain ⟨ih0, ih1⟩ := corporalaw09_DependCorpus.mono_l k
  refine ⟨?_, ?_⟩
  ·
   intro y0 y1 y2 y3
   unfold corporalaw09_DependCorpus.j0
   with_reducible repeat' first | exact ih0 _ _ _ _ | exact ih1 _ _ _ _ _ _ _ _ _ _ _ | exact corporalaw09_awake.mono _ | exact corpus_Validate.mono _ _ _ _ _ _ _ _ | exact depend_Format.mono _ _ _ | exact LeO.refl _ | exact LeO.none _ | refine LeO.ite ?_ ?_ | refine LeO.bind ?_ (fun _ => ?_)
  ·
   intro y0 y1 y2 y3 y4 y5 y6 y7 y8 y9 y10
   unfold corporalaw09_DependCorpus.l0
   with_reducible repeat' first | exact ih0 _ _ _ _ | exact ih1 _ _ _ _ _ _ _ _ _ _ _ | exact corporalaw09_awake.mono _ | exact corpus_Validate.mono _ _ _ _ _ _ _ _ | exact depend_Format.mono _ _ _ | exact LeO.refl _ | exact LeO.none _ | refine LeO.ite ?_ ?_ | refine LeO.bind ?_ (fun _ => ?_)
theorem corporalaw09_DependCorpus.mono : ∀ a0 a1 k, LeO (corporalaw09_DependCorpus.f k a0 a1) (corporalaw09_DependCorpus.f (k + 1) a0 a1) := by
 intro a0 a1 k
 obtain ⟨ih0, ih1⟩ := corporalaw09_DependCorpus.mono_l k
 unfold corporalaw09_DependCorpus.f
 with_reducible repeat' first | exact ih0 _ _ _ _ | exact ih1 _ _ _ _ _ _ _ _ _ _ _ | exact corporalaw09_awake.mono _ | exact corpus_Validate.mono _ _ _ _ _ _ _ _ | exact depend_Format.mono _ _ _ | exact LeO.refl _ | exact LeO.none _ | refine LeO.ite ?_ ?_ | refine LeO.bind ?_ (fun _ => ?_)
set_option maxHeartbeats 8000000 in
set_option maxRecDepth 100000 in
theorem corporalaw09_DependCorpus.calls (k : Nat) (A0 : Option Addr) (c0 : Nat) (l0 : List Int) (A1 : Option Addr) (c1 : Nat) (l1 : List ByteArray) (r : Bool) (w : World) (htab : Tab10 w) (hr0 : Kd.C (Kd.int .i64) w A0 l0.length l0) (hc0 : l0.length ≤ c0) (hr1 : Kd.C Kd.string w A1 l1.length l1) (hc1 : l1.length ≤ c1) (h : corporalaw09_DependCorpus.f k l0 l1 = some r) :
 Calls Tryd.prog 5 #[.slice A0 l0.length c0, .slice A1 l1.length c1] w fun e w' => e = .returned (.bool r) ∧ Below w.heap.size w w' := by
 have hu36 := Tryd.underlying36
 have hu40 := Tryd.underlying40
 have hu46 := Tryd.underlying46
 have HR0 := Aside0.mk hr0
 have HC0 := Aside0.mk hc0
 clear hr0 hc0
 have HR1 := Aside0.mk hr1
 have HC1 := Aside0.mk hc1
 clear hr1 hc1
 have HB := Aside0.mk (Below.refl w.heap.size w)
 have H : (if (l0.length : Int) = 0 then (corporalaw09_DependCorpus.j0 k l0 l1 (l0.length : Int) true) else (if (l0.length : Int) > 60 then (corporalaw09_DependCorpus.j0 k l0 l1 (l0.length : Int) true) else (corporalaw09_DependCorpus.j0 k l0 l1 (l0.length : Int) (decide ((l1.length : Int) > 70))))) = some r := h
 clear h
 have HC3 := Aside0.mk H
 clear H
 go_enter Tryd.func5, Tryd.ntmps5
 go_upto_region 2 with (fail)
 go_cut [27] (fun v27 wc => ∃ (kq : Nat) (x27_2 : Bool), v27 = .bool x27_2 ∧ Aside0 (corporalaw09_DependCorpus.j0 kq l0 l1 (l0.length : Int) x27_2 = some r) ∧ Aside0 (kq ≤ k) ∧ Aside0 (Below w.heap.size w wc))
 case first =>
  have H := HC3.out
  clear HC3
  by_cases c4 : (l0.length : Int) = 0
  ·
   rw [if_pos c4] at H
   have c4b0 : ((l0.length : Int) == 0) = true := beq_iff_eq.mpr c4
   have c4b1 : ((l0.length : Int) != 0) = false := bne_eq_false_iff_eq.mpr c4
   clear c4
   (first | rw [c4b0] | rw [c4b1] | (simp only [i64_w, i32_w]; rw [c4b0]) | skip)
   have H' := Aside0.mk H
   clear H
   go_wp2
   go_meet
   case rel => exact ⟨_, (true), (BE), H', ⟨by first | omega | exact Nat.le_refl _⟩, ⟨BB⟩⟩
  ·
   rw [if_neg c4] at H
   have c4b0 : ((l0.length : Int) == 0) = false := beq_eq_false_iff_ne.mpr c4
   have c4b1 : ((l0.length : Int) != 0) = true := bne_iff_ne.mpr c4
   have c4b2 : ¬ (l0 = []) := fun h_ => c4 (by rw [h_]; rfl)
   (first | rw [c4b0] | rw [c4b1] | (simp only [i64_w, i32_w]; rw [c4b0]) | skip)
   by_cases c5 : (l0.length : Int) > 60
   ·
    rw [if_pos c5] at H
    have c5b0 : decide (60 < (l0.length : Int)) = true := decide_eq_true c5
    have c5b1 : decide (60 < l0.length) = true := decide_eq_true (by omega)
    clear c5
    have H' := Aside0.mk H
    clear H
    go_wp2
    go_meet
    case rel => exact ⟨_, (true), (BE), H', ⟨by first | omega | exact Nat.le_refl _⟩, ⟨BB⟩⟩
   ·
    rw [if_neg c5] at H
    have c5b0 : decide (60 < (l0.length : Int)) = false := decide_eq_false c5
    have c5b1 : decide (60 < l0.length) = false := decide_eq_false (by omega)
    clear c5
    have H' := Aside0.mk H
    clear H
    go_wp2
    go_meet
    case rel => exact ⟨_, (decide ((l1.length : Int) > 70)), (BE), H', ⟨by first | omega | exact Nat.le_refl _⟩, ⟨BB⟩⟩
 case rest =>
  clear HC3
  (try clear c1); (try clear p2); (try clear c4); (try clear c4b0); (try clear c4b1); (try clear c4b2); (try clear c5); (try clear c5b0); (try clear c5b1)
  obtain ⟨kq, x27_2, rfl, HA, HJ2, HB⟩ := hcut
  cases kq with
  | zero => exact absurd HA.out (by simp [corporalaw09_DependCorpus.j0])
  | succ kj2 =>
   have H := HA.out
   clear HA
   simp only [corporalaw09_DependCorpus.j0] at H
   by_cases c6 : x27_2 = true
   ·
    subst c6
    have H1 : (some true) = some r := by rw [if_pos rfl] at H; exact H
    clear H
    have H := H1
    clear H1
    obtain rfl := Option.some.inj H
    go_wp2
    go_ret
    exact ⟨BX, BB⟩
   ·
    replace c6 := Bool.eq_false_iff.mpr c6
    subst c6
    have H1 : (corporalaw09_DependCorpus.l0 kj2 l0 l1 ((l1.length : Int) == (l0.length : Int)) l0 (l0.length : Int) 0 (([(⟨(⟨#[119, 111, 114, 100]⟩ : ByteArray), false⟩ : S36)] : List (S36))) ([] : List (List ByteArray)) (([(⟨(⟨#[116]⟩ : ByteArray), 0, (l0.length : Int), ([] : List (S95))⟩ : S40)] : List (S40))) l0 l1) = some r := by rw [if_neg (show ¬ (false = true) by decide)] at H; exact H
    clear H
    have H := H1
    clear H1
    obtain ⟨y445, hy445⟩ : ∃ y_ : List (S36), y_ = (([(⟨(⟨#[119, 111, 114, 100]⟩ : ByteArray), false⟩ : S36)] : List (S36))) := ⟨_, rfl⟩
    replace H : (corporalaw09_DependCorpus.l0 kj2 l0 l1 ((l1.length : Int) == (l0.length : Int)) l0 (l0.length : Int) 0 y445 ([] : List (List ByteArray)) (([(⟨(⟨#[116]⟩ : ByteArray), 0, (l0.length : Int), ([] : List (S95))⟩ : S40)] : List (S40))) l0 l1) = some r := by first | (rw [hy445]; with_reducible exact H) | (have H2_ := (Option.bind_some _ _).symm.trans H; rw [hy445]; with_reducible exact H2_) | (have H2_ := (Option.bind_some _ _).symm.trans H; with_reducible exact H2_) | with_reducible exact H | (rw [hy445]; exact H) | exact H
    have Ny445 := Aside0.mk hy445
    clear hy445
    obtain ⟨y448, hy448⟩ : ∃ y_ : List (S40), y_ = (([(⟨(⟨#[116]⟩ : ByteArray), 0, (l0.length : Int), ([] : List (S95))⟩ : S40)] : List (S40))) := ⟨_, rfl⟩
    replace H : (corporalaw09_DependCorpus.l0 kj2 l0 l1 ((l1.length : Int) == (l0.length : Int)) l0 (l0.length : Int) 0 y445 ([] : List (List ByteArray)) y448 l0 l1) = some r := by first | (rw [hy448]; with_reducible exact H) | (have H2_ := (Option.bind_some _ _).symm.trans H; rw [hy448]; with_reducible exact H2_) | (have H2_ := (Option.bind_some _ _).symm.trans H; with_reducible exact H2_) | with_reducible exact H | (rw [hy448]; exact H) | exact H
    have Ny448 := Aside0.mk hy448
    clear hy448
    have H' := Aside0.mk H
    clear H
    go_wp2_with (first | ((with_reducible refine gate_dst (N := 29) rfl ?_); (try (refine gate_guard (by rfl) ?_; dsimp only)); refine Kd.R_lit k36 _ 36 ?hg (N := 29) ?hd (xs := ([(⟨(⟨#[119, 111, 114, 100]⟩ : ByteArray), false⟩ : S36)] : List (S36))) (inner := [.string (⟨#[119, 111, 114, 100]⟩ : ByteArray), .bool false]) (ok := fun _ => True) (okp := fun _ => True) ?hr ?hp (fun _ hk => hk) trivial (Below.refl _ _) (Nat.le_refl _) (by simp) ?_; (case hd => rfl); (case hg => rfl); (case hr => first | (go_simp; done) | (go_simp; rfl)); (case hp => exact (Reps.c2 (show Kd.M k36 _ _ _ (⟨(⟨#[119, 111, 114, 100]⟩ : ByteArray), false⟩ : S36) [.string (⟨#[119, 111, 114, 100]⟩ : ByteArray), .bool false] from (k36_mkM _ _ _ (⟨(⟨#[119, 111, 114, 100]⟩ : ByteArray), false⟩ : S36) )) (Reps.none _ _))); intro v446 w7 ho8 hb hg_ hnew_; clear hg_ hnew_; (first | rw [← Ny445.out] at ho8 | (simp only [Int.reduceToNat] at ho8; rw [← Ny445.out] at ho8)); have n0_ := Aside0.mk (Kd.R_lower ho8 (below_size (BB))); have n1_ := Aside0.mk (below_step (BB) hb); clear HB; have HO447 := n0_; have HB := n1_; clear n0_ n1_; clear hb ho8) | ((with_reducible refine gate_dst (N := 32) rfl ?_); (try (refine gate_guard (by rfl) ?_; dsimp only)); refine Kd.S_lit k40 _ 40 ?hg (N := 32) ?hd (xs := ([(⟨(⟨#[116]⟩ : ByteArray), 0, (l0.length : Int), ([] : List (S95))⟩ : S40)] : List (S40))) (inner := [.string (⟨#[116]⟩ : ByteArray), .int .i64 0, .int .i64 (l0.length : Int), .slice none 0 0]) (ok := fun _ => True) (okp := fun _ => True) ?hr ?hp (fun _ hk => hk) trivial (Below.refl _ _) (Nat.le_refl _) (by simp) ?_; (case hd => rfl); (case hg => rfl); (case hr => first | (go_simp; done) | (go_simp; rfl)); (case hp => exact (Reps.c4 (show Kd.M k40 _ _ _ (⟨(⟨#[116]⟩ : ByteArray), 0, (l0.length : Int), ([] : List (S95))⟩ : S40) [.string (⟨#[116]⟩ : ByteArray), .int .i64 0, .int .i64 (l0.length : Int), .slice none 0 0] from (k40_mkM _ _ _ (⟨(⟨#[116]⟩ : ByteArray), 0, (l0.length : Int), ([] : List (S95))⟩ : S40) (Kd.R_nil _ _ _ _ _))) (Reps.none _ _))); intro v449 w9 ho10 hb hg_ hnew_; clear hg_ hnew_; (first | rw [← Ny448.out] at ho10 | (simp only [Int.reduceToNat] at ho10; rw [← Ny448.out] at ho10)); have n0_ := Aside0.mk (Kd.R_below (BR HO447.out) hb); have n1_ := Aside0.mk (Kd.S_lower ho10 (below_size (BB))); have n2_ := Aside0.mk (below_step (BB) hb); clear HO447; clear HB; have HO447 := n0_; have HO450 := n1_; have HB := n2_; clear n0_ n1_ n2_; clear hb ho10; obtain ⟨Ao11, co11, eo11⟩ := Kd.S_slice HO450.out; subst eo11; obtain ⟨Ao12, co12, eo12⟩ := Kd.R_slice HO447.out; subst eo12) | ((with_reducible refine gate_dst (N := 6) rfl ?_); (try (refine gate_guard (by rfl) ?_; dsimp only)); refine box_event ?hg (N := 6) ?hd (cs := #[.slice none 0 0, .slice none 0 0, .slice none 0 0, .slice none 0 0, .slice none 0 0, .slice none 0 0, .slice none 0 0]) (t := 46) ?hr ?_; (case hd => rfl); (case hg => rfl); (case hr => first | (go_simp; done) | (go_simp; rfl)); intro gb451 hg w13 hbox hb; have n0_ := Aside0.mk (Kd.R_below (BR HO447.out) hb); have n1_ := Aside0.mk (Kd.S_below (by (with_reducible repeat (first | apply Kd.S_alloc | apply Kd.S_drewN | apply Kd.S_drew)); exact HO450.out) hb); have n2_ := Aside0.mk (below_step (BB) hb); have n3_ := Aside0.mk (hbox); have n4_ := Aside0.mk ((by rw [hg]; exact (below_size (BB)) : w.heap.size ≤ gb451)); have n5_ := Aside0.mk ((by rw [hg]; exact (below_size (BB)) : w.heap.size ≤ gb451)); clear HO447; clear HO450; clear HB; have HO447 := n0_; have HO450 := n1_; have HB := n2_; have BK451 := n3_; have GW451 := n4_; have GE451 := n5_; clear n0_ n1_ n2_ n3_ n4_ n5_; clear hb hbox hg; have hcz14_0 : w13.cell? ⟨gb451, 0, none⟩ = some (.slice none 0 0) := (blk_cell BK451.out 0).trans rfl; have hcz14_1 : w13.cell? ⟨gb451, 1, none⟩ = some (.slice none 0 0) := (blk_cell BK451.out 1).trans rfl; have hcz14_2 : w13.cell? ⟨gb451, 2, none⟩ = some (.slice none 0 0) := (blk_cell BK451.out 2).trans rfl; have hcz14_3 : w13.cell? ⟨gb451, 3, none⟩ = some (.slice none 0 0) := (blk_cell BK451.out 3).trans rfl; have hcz14_4 : w13.cell? ⟨gb451, 4, none⟩ = some (.slice none 0 0) := (blk_cell BK451.out 4).trans rfl; have hcz14_5 : w13.cell? ⟨gb451, 5, none⟩ = some (.slice none 0 0) := (blk_cell BK451.out 5).trans rfl; have hcz14_6 : w13.cell? ⟨gb451, 6, none⟩ = some (.slice none 0 0) := (blk_cell BK451.out 6).trans rfl; have hfz14_0 := blk_frozen BK451.out 0; have hfz14_1 := blk_frozen BK451.out 1; have hfz14_2 := blk_frozen BK451.out 2; have hfz14_3 := blk_frozen BK451.out 3; have hfz14_4 := blk_frozen BK451.out 4; have hfz14_5 := blk_frozen BK451.out 5; have hfz14_6 := blk_frozen BK451.out 6))
    go_loopg [7, 42] kj2 (fun kq v7 v42 w' => ∃ (x7_2 : Bool) (x42_2 : Int) (x452001_2 : List (List ByteArray)) (u452001 : Value), v7 = .bool x7_2 ∧ v42 = .int .i64 x42_2 ∧ Aside0 (corporalaw09_DependCorpus.l0 kq l0 l1 x7_2 l0 (l0.length : Int) x42_2 y445 x452001_2 y448 l0 l1 = some r) ∧ Aside0 (kq ≤ kj2) ∧ Aside0 (Kd.R k36 36 w' w.heap.size (fun _ => True) (.slice Ao12 y445.length co12) y445) ∧ Aside0 (Kd.S (Kd.slice 9 Kd.string) 23 w' w.heap.size (fun _ => True) u452001 x452001_2) ∧ Aside0 (Kd.S k40 40 w' w.heap.size (fun _ => True) (.slice Ao11 y448.length co11) y448) ∧ Aside0 (w'.heap[gb451]? = some (.cells #[(.slice Ao12 y445.length co12), u452001, (.slice Ao11 y448.length co11), (.slice none 0 0), (.slice none 0 0), (.slice A0 l0.length c0), (.slice A1 l1.length c1)] 46 (0, 0))) ∧ Aside0 (Below w.heap.size w w'))
    case atStart => exact ⟨(((l1.length : Int) == (l0.length : Int))), (0), (([] : List (List ByteArray))), (.slice none 0 0), (BE), (BE), H', ⟨Nat.le_refl _⟩, ⟨by (with_reducible repeat (first | apply Kd.R_alloc | apply Kd.R_drewN | apply Kd.R_drew)); exact Kd.R_mono (Kd.R_far (p := ⟨gb451, 6, none⟩) (Kd.R_far (p := ⟨gb451, 5, none⟩) (Kd.R_far (p := ⟨gb451, 4, none⟩) (Kd.R_far (p := ⟨gb451, 3, none⟩) (Kd.R_far (p := ⟨gb451, 2, none⟩) (Kd.R_far (p := ⟨gb451, 1, none⟩) (Kd.R_far (p := ⟨gb451, 0, none⟩) (Kd.R_types HO447.out BK451.out (by decide)) (fun _ hk => hk.2) (.slice Ao12 y445.length co12)) (fun _ hk => hk.2) (.slice none 0 0)) (fun _ hk => hk.2) (.slice Ao11 y448.length co11)) (fun _ hk => hk.2) (.slice none 0 0)) (fun _ hk => hk.2) (.slice none 0 0)) (fun _ hk => hk.2) (.slice A0 l0.length c0)) (fun _ hk => hk.2) (.slice A1 l1.length c1)) (fun _ hk => trivial)⟩, ⟨by first | exact Kd.S_nil _ _ _ _ _ | exact Kd.N_nil _ _ _ _ _ | exact Kd.V_nil _ _ _ _ _ | exact Kd.Q_nil _ _ _ _ _ | exact Kd.R_nil _ _ _ _ _⟩, ⟨by (with_reducible repeat (first | apply Kd.S_alloc | apply Kd.S_drewN | apply Kd.S_drew)); exact Kd.S_mono (Kd.S_far (p := ⟨gb451, 6, none⟩) (Kd.S_far (p := ⟨gb451, 5, none⟩) (Kd.S_far (p := ⟨gb451, 4, none⟩) (Kd.S_far (p := ⟨gb451, 3, none⟩) (Kd.S_far (p := ⟨gb451, 2, none⟩) (Kd.S_far (p := ⟨gb451, 1, none⟩) (Kd.S_far (p := ⟨gb451, 0, none⟩) (Kd.S_types HO450.out BK451.out (by decide)) (fun _ hk => hk.2) (.slice Ao12 y445.length co12)) (fun _ hk => hk.2) (.slice none 0 0)) (fun _ hk => hk.2) (.slice Ao11 y448.length co11)) (fun _ hk => hk.2) (.slice none 0 0)) (fun _ hk => hk.2) (.slice none 0 0)) (fun _ hk => hk.2) (.slice A0 l0.length c0)) (fun _ hk => hk.2) (.slice A1 l1.length c1)) (fun _ hk => trivial)⟩, ⟨by (with_reducible repeat (first | refine blk_drewN ?_ _ | refine blk_drew ?_ | refine blk_alloc ?_ _)); refine blk_put (cs := #[.slice Ao12 y445.length co12, .slice none 0 0, .slice Ao11 y448.length co11, .slice none 0 0, .slice none 0 0, .slice A0 l0.length c0, .slice none 0 0]) ?_ 6 _ rfl; (with_reducible repeat (first | refine blk_drewN ?_ _ | refine blk_drew ?_ | refine blk_alloc ?_ _)); refine blk_put (cs := #[.slice Ao12 y445.length co12, .slice none 0 0, .slice Ao11 y448.length co11, .slice none 0 0, .slice none 0 0, .slice none 0 0, .slice none 0 0]) ?_ 5 _ rfl; (with_reducible repeat (first | refine blk_drewN ?_ _ | refine blk_drew ?_ | refine blk_alloc ?_ _)); refine blk_put (cs := #[.slice Ao12 y445.length co12, .slice none 0 0, .slice Ao11 y448.length co11, .slice none 0 0, .slice none 0 0, .slice none 0 0, .slice none 0 0]) ?_ 4 _ rfl; (with_reducible repeat (first | refine blk_drewN ?_ _ | refine blk_drew ?_ | refine blk_alloc ?_ _)); refine blk_put (cs := #[.slice Ao12 y445.length co12, .slice none 0 0, .slice Ao11 y448.length co11, .slice none 0 0, .slice none 0 0, .slice none 0 0, .slice none 0 0]) ?_ 3 _ rfl; (with_reducible repeat (first | refine blk_drewN ?_ _ | refine blk_drew ?_ | refine blk_alloc ?_ _)); refine blk_put (cs := #[.slice Ao12 y445.length co12, .slice none 0 0, .slice none 0 0, .slice none 0 0, .slice none 0 0, .slice none 0 0, .slice none 0 0]) ?_ 2 _ rfl; (with_reducible repeat (first | refine blk_drewN ?_ _ | refine blk_drew ?_ | refine blk_alloc ?_ _)); refine blk_put (cs := #[.slice Ao12 y445.length co12, .slice none 0 0, .slice none 0 0, .slice none 0 0, .slice none 0 0, .slice none 0 0, .slice none 0 0]) ?_ 1 _ rfl; (with_reducible repeat (first | refine blk_drewN ?_ _ | refine blk_drew ?_ | refine blk_alloc ?_ _)); refine blk_put (cs := #[.slice none 0 0, .slice none 0 0, .slice none 0 0, .slice none 0 0, .slice none 0 0, .slice none 0 0, .slice none 0 0]) ?_ 0 _ rfl; (with_reducible repeat (first | refine blk_drewN ?_ _ | refine blk_drew ?_ | refine blk_alloc ?_ _)); exact BK451.out⟩, ⟨BS GE451.out⟩⟩
    case round =>
     clear H'
     (try clear c1); (try clear c2); (try clear p2); (try clear c4); (try clear c4b0); (try clear c4b1); (try clear c4b2); (try clear c5); (try clear c5b0); (try clear c5b1); (try clear c6); (try clear hcz14_0); (try clear hcz14_1)
     (try clear hcz14_2); (try clear hcz14_3); (try clear hcz14_4); (try clear hcz14_5); (try clear hcz14_6); (try clear hfz14_0); (try clear hfz14_1); (try clear hfz14_2); (try clear hfz14_3); (try clear hfz14_4); (try clear hfz14_5)
     (try clear hfz14_6); (try clear p2)
     obtain ⟨x7_2, x42_2, x452001_2, u452001, rfl, rfl, HA, HK2, HO_452000, HO_452001, HO_452002, BK451, HB⟩ := hrel
     cases gk with
     | zero => exact absurd HA.out (by simp [corporalaw09_DependCorpus.l0])
     | succ k2 =>
      have H := HA.out
      clear HA
      simp only [corporalaw09_DependCorpus.l0] at H
      by_cases c15 : x42_2 < (l0.length : Int)
      ·
       rw [if_pos c15] at H
       have c15b0 : decide (x42_2 < (l0.length : Int)) = true := decide_eq_true c15
       clear c15
       by_cases c16 : 0 ≤ x42_2
       ·
        rw [if_pos c16] at H
        have c16b0 : decide (0 ≤ x42_2) = true := decide_eq_true c16
        clear c16
        by_cases c17 : x42_2 < (l0.length : Int)
        ·
         rw [if_pos c17] at H
         have c17b0 : decide (x42_2 < (l0.length : Int)) = true := decide_eq_true c17
         clear c17
         obtain ⟨y453, hy453⟩ : ∃ y_ : List ByteArray, y_ = (([(⟨#[]⟩ : ByteArray)] : List ByteArray)) := ⟨_, rfl⟩
         replace H : (if x452001_2.length < 5864062014805 then ((some (x452001_2 ++ [y453] : List (List ByteArray))).bind fun y456 => (if x7_2 = true then (if (rd l0 x42_2) = (-1) then (if x42_2 < (l1.length : Int) then (corporalaw09_DependCorpus.l0 k2 l0 l1 ((rdOf ByteArray.empty l1 x42_2).toList == ([] : List UInt8)) l0 (l0.length : Int) (wrap64 (x42_2 + 1)) y445 y456 y448 l0 l1) else (none)) else (corporalaw09_DependCorpus.l0 k2 l0 l1 false l0 (l0.length : Int) (wrap64 (x42_2 + 1)) y445 y456 y448 l0 l1)) else (corporalaw09_DependCorpus.l0 k2 l0 l1 false l0 (l0.length : Int) (wrap64 (x42_2 + 1)) y445 y456 y448 l0 l1))) else (none)) = some r := by first | (rw [hy453]; with_reducible exact H) | (have H2_ := (Option.bind_some _ _).symm.trans H; rw [hy453]; with_reducible exact H2_) | (have H2_ := (Option.bind_some _ _).symm.trans H; with_reducible exact H2_) | with_reducible exact H | (rw [hy453]; exact H) | exact H
         have Ny453 := Aside0.mk hy453
         clear hy453
         by_cases c18 : x452001_2.length < 5864062014805
         ·
          rw [if_pos c18] at H
          have LMc18 := Aside0.mk c18
          clear c18
          obtain ⟨y456, hy456⟩ : ∃ y_ : List (List ByteArray), y_ = (x452001_2 ++ [y453]) := ⟨_, rfl⟩
          replace H : (if x7_2 = true then (if (rd l0 x42_2) = (-1) then (if x42_2 < (l1.length : Int) then (corporalaw09_DependCorpus.l0 k2 l0 l1 ((rdOf ByteArray.empty l1 x42_2).toList == ([] : List UInt8)) l0 (l0.length : Int) (wrap64 (x42_2 + 1)) y445 y456 y448 l0 l1) else (none)) else (corporalaw09_DependCorpus.l0 k2 l0 l1 false l0 (l0.length : Int) (wrap64 (x42_2 + 1)) y445 y456 y448 l0 l1)) else (corporalaw09_DependCorpus.l0 k2 l0 l1 false l0 (l0.length : Int) (wrap64 (x42_2 + 1)) y445 y456 y448 l0 l1)) = some r := by first | (rw [hy456]; with_reducible exact H) | (have H2_ := (Option.bind_some _ _).symm.trans H; rw [hy456]; with_reducible exact H2_) | (have H2_ := (Option.bind_some _ _).symm.trans H; with_reducible exact H2_) | with_reducible exact H | (rw [hy456]; exact H) | exact H
          have Ny456 := Aside0.mk hy456
          clear hy456
          by_cases c19 : x7_2 = true
          ·
           subst c19
           have H1 : (if (rd l0 x42_2) = (-1) then (if x42_2 < (l1.length : Int) then (corporalaw09_DependCorpus.l0 k2 l0 l1 ((rdOf ByteArray.empty l1 x42_2).toList == ([] : List UInt8)) l0 (l0.length : Int) (wrap64 (x42_2 + 1)) y445 y456 y448 l0 l1) else (none)) else (corporalaw09_DependCorpus.l0 k2 l0 l1 false l0 (l0.length : Int) (wrap64 (x42_2 + 1)) y445 y456 y448 l0 l1)) = some r := by rw [if_pos rfl] at H; exact H
           clear H
           have H := H1
           clear H1
           by_cases c20 : (rd l0 x42_2) = (-1)
           ·
            rw [if_pos c20] at H
            have c20b0 : ((rd l0 x42_2) == (-1)) = true := beq_iff_eq.mpr c20
            have c20b1 : ((rd l0 x42_2) != (-1)) = false := bne_eq_false_iff_eq.mpr c20
            clear c20
            by_cases c21 : x42_2 < (l1.length : Int)
            ·
             rw [if_pos c21] at H
             have c21b0 : decide (x42_2 < (l1.length : Int)) = true := decide_eq_true c21
             clear c21
             have H' := Aside0.mk H
             clear H
             have p452 : 0 ≤ (x42_2 : Int) := OD
             have q452 : x42_2 < (l0.length : Int) := OD
             obtain ⟨ad452, e452, hx452_0⟩ := Kd.at_int HR0.out x42_2 p452 q452
             cases e452
             replace hx452_0 := (HB.out.cell (World.block_lt_of_cell? w _ hx452_0)).trans hx452_0
             replace p452 := eq_true p452
             replace q452 := eq_true q452
             have hcz22_0 : wr.cell? ⟨gb451, 0, none⟩ = some (.slice Ao12 y445.length co12) := (blk_cell BK451.out 0).trans rfl
             have hcz22_1 : wr.cell? ⟨gb451, 1, none⟩ = some (u452001) := (blk_cell BK451.out 1).trans rfl
             have hcz22_2 : wr.cell? ⟨gb451, 2, none⟩ = some (.slice Ao11 y448.length co11) := (blk_cell BK451.out 2).trans rfl
             have hcz22_3 : wr.cell? ⟨gb451, 3, none⟩ = some (.slice none 0 0) := (blk_cell BK451.out 3).trans rfl
             have hcz22_4 : wr.cell? ⟨gb451, 4, none⟩ = some (.slice none 0 0) := (blk_cell BK451.out 4).trans rfl
             have hcz22_5 : wr.cell? ⟨gb451, 5, none⟩ = some (.slice (some ad452) l0.length c0) := (blk_cell BK451.out 5).trans rfl
             have hcz22_6 : wr.cell? ⟨gb451, 6, none⟩ = some (.slice A1 l1.length c1) := (blk_cell BK451.out 6).trans rfl
             have hfz22_0 := blk_frozen BK451.out 0
             have hfz22_1 := blk_frozen BK451.out 1
             have hfz22_2 := blk_frozen BK451.out 2
             have hfz22_3 := blk_frozen BK451.out 3
             have hfz22_4 := blk_frozen BK451.out 4
             have hfz22_5 := blk_frozen BK451.out 5
             have hfz22_6 := blk_frozen BK451.out 6
             go_wp2_with (first | ((with_reducible refine gate_dst (N := 49) rfl ?_); (try (refine gate_guard (by rfl) ?_; dsimp only)); refine Kd.R_lit Kd.string _ 9 ?hg (N := 49) ?hd (xs := ([(⟨#[]⟩ : ByteArray)] : List ByteArray)) (inner := [.string (⟨#[]⟩ : ByteArray)]) (ok := fun _ => True) (okp := fun _ => True) ?hr ?hp (fun _ hk => hk) trivial (Below.refl _ _) (Nat.le_refl _) (by simp) ?_; (case hd => rfl); (case hg => rfl); (case hr => first | (go_simp; done) | (go_simp; rfl)); (case hp => exact (Reps.one (show Kd.M Kd.string _ _ _ (⟨#[]⟩ : ByteArray) [.string (⟨#[]⟩ : ByteArray)] from rfl) (Reps.none _ _))); intro v454 w23 ho24 hb hg_ hnew_; clear hg_ hnew_; (first | rw [← Ny453.out] at ho24 | (simp only [Int.reduceToNat] at ho24; rw [← Ny453.out] at ho24)); have n0_ := Aside0.mk (Kd.R_below (BR HO_452000.out) hb); have n1_ := Aside0.mk (Kd.S_elder' (by (with_reducible repeat (first | apply Kd.S_alloc | apply Kd.S_drewN | apply Kd.S_drew)); exact HO_452001.out) (Kd.R_base ho24) hb); have n2_ := Aside0.mk (Kd.S_below (by (with_reducible repeat (first | apply Kd.S_alloc | apply Kd.S_drewN | apply Kd.S_drew)); exact HO_452002.out) hb); have n3_ := Aside0.mk (Kd.R_lower ho24 (below_size (BS GE451.out))); have n4_ := Aside0.mk (blk_below (g := gb451) (o := .cells #[.slice Ao12 y445.length co12, u452001, .slice Ao11 y448.length co11, .slice none 0 0, .slice none 0 0, .slice (some ad452) l0.length c0, .slice A1 l1.length c1] 46 (0, 0)) (by (with_reducible repeat (first | refine blk_drewN ?_ _ | refine blk_drew ?_ | refine blk_alloc ?_ _)); exact BK451.out) hb); have n5_ := Aside0.mk (below_step (BS GE451.out) hb); clear HO_452000; clear HO_452001; clear HO_452002; clear BK451; clear HB; have HO_452000 := n0_; have HO_452001 := n1_; have HO_452002 := n2_; have HO455 := n3_; have BK451 := n4_; have HB := n5_; clear n0_ n1_ n2_ n3_ n4_ n5_; clear hb ho24; obtain ⟨Ao26, co26, eo26⟩ := Kd.R_slice HO455.out; subst eo26) | ((with_reducible refine gate_builtin (b := .append) (xs := #[.tmp 48, .tmp 50]) rfl ?_); (try (refine gate_guard (by rfl) ?_; dsimp only)); at_builtin; refine Kd.S_append (Kd.slice 9 Kd.string) (w0 := w) w.heap.size rfl (.tmp 48) (.tmp 50) 42 23 (.slice none 0 0) 24 rfl Tryd.underlying42 info23 rfl (by decide) (by omega) u452001 x452001_2 y453 [.slice Ao26 y453.length co26] (fun _ => True) (fun k_ => some k_ = (.slice Ao26 y453.length co26 : Value).ownBlock) rfl rfl ?aP (fun k_ hk_ => ((Kd.R_mono (ok' := fun k_ => ((fun _ => True)) k_ ∧ some k_ ≠ (u452001 : Value).ownBlock) (Kd.R_apart' (HO455.out) (Kd.S_typed HO_452001.out) (by decide)) (fun k_ hk => ⟨trivial, hk.2⟩))).1 k_ hk_.symm) ?aF ?aO ?aB ?aS ?aL ?_; (case aP => exact Kd.M_row (Kd.R_mono (Kd.R_tight rfl (Kd.R_mono (ok' := fun k_ => ((fun _ => True)) k_ ∧ some k_ ≠ (u452001 : Value).ownBlock) (Kd.R_apart' (HO455.out) (Kd.S_typed HO_452001.out) (by decide)) (fun k_ hk => ⟨trivial, hk.2⟩))) (fun _ h_ => h_))); (case aB => exact (BS GE451.out)); (case aF => exact (fun _ _ => trivial)); (case aO => exact (by (with_reducible repeat (first | apply Kd.S_alloc | apply Kd.S_drewN | apply Kd.S_drew)); exact Kd.S_mono HO_452001.out (fun k_ hk => ⟨trivial, fun e_ => hk.2 e_⟩))); (case aS => exact (below_size (BS GE451.out))); (case aL => have := LMc18.out; omega); intro v457 w25 ho hb hg hat; rw [← Ny456.out] at ho; have n0_ := Aside0.mk (Kd.R_over' (BR HO_452000.out) (Kd.S_typed (by (with_reducible repeat (first | apply Kd.S_alloc | apply Kd.S_drewN | apply Kd.S_drew)); exact HO_452001.out)) (by decide) hg); have n1_ := Aside0.mk (Kd.S_over' (by (with_reducible repeat (first | apply Kd.S_alloc | apply Kd.S_drewN | apply Kd.S_drew)); exact HO_452002.out) (Kd.S_typed (by (with_reducible repeat (first | apply Kd.S_alloc | apply Kd.S_drewN | apply Kd.S_drew)); exact HO_452001.out)) (by decide) hg); have n2_ := Aside0.mk (blk_grown (g := gb451) (o := .cells #[.slice Ao12 y445.length co12, u452001, .slice Ao11 y448.length co11, .slice none 0 0, .slice none 0 0, .slice (some ad452) l0.length c0, .slice A1 l1.length c1] 46 (0, 0)) (by (with_reducible repeat (first | refine blk_drewN ?_ _ | refine blk_drew ?_ | refine blk_alloc ?_ _)); exact BK451.out) hg (Kd.S_ne HO_452001.out BK451.out (by decide))); have n3_ := Aside0.mk (hb); have n4_ := Aside0.mk (ho); clear HO_452000; clear HO_452002; clear BK451; clear HB; clear HO_452001; clear HO455; have HO_452000 := n0_; have HO_452002 := n1_; have BK451 := n2_; have HB := n3_; have HO458 := n4_; clear n0_ n1_ n2_ n3_ n4_; clear ho hb hg hat; obtain ⟨Ao27, co27, eo27⟩ := Kd.S_slice HO458.out; subst eo27; have hcz28_0 : w25.cell? ⟨gb451, 0, none⟩ = some (.slice Ao12 y445.length co12) := (blk_cell BK451.out 0).trans rfl; have hcz28_1 : w25.cell? ⟨gb451, 1, none⟩ = some (u452001) := (blk_cell BK451.out 1).trans rfl; have hcz28_2 : w25.cell? ⟨gb451, 2, none⟩ = some (.slice Ao11 y448.length co11) := (blk_cell BK451.out 2).trans rfl; have hcz28_3 : w25.cell? ⟨gb451, 3, none⟩ = some (.slice none 0 0) := (blk_cell BK451.out 3).trans rfl; have hcz28_4 : w25.cell? ⟨gb451, 4, none⟩ = some (.slice none 0 0) := (blk_cell BK451.out 4).trans rfl; have hcz28_5 : w25.cell? ⟨gb451, 5, none⟩ = some (.slice (some ad452) l0.length c0) := (blk_cell BK451.out 5).trans rfl; have hcz28_6 : w25.cell? ⟨gb451, 6, none⟩ = some (.slice A1 l1.length c1) := (blk_cell BK451.out 6).trans rfl; have hfz28_0 := blk_frozen BK451.out 0; have hfz28_1 := blk_frozen BK451.out 1; have hfz28_2 := blk_frozen BK451.out 2; have hfz28_3 := blk_frozen BK451.out 3; have hfz28_4 := blk_frozen BK451.out 4; have hfz28_5 := blk_frozen BK451.out 5; have hfz28_6 := blk_frozen BK451.out 6; have p459 : 0 ≤ (x42_2 : Int) := OD; have q459 : x42_2 < (l1.length : Int) := OD; obtain ⟨ad459, e459, hx459_0⟩ := Kd.at_string HR1.out x42_2 p459 q459; cases e459; have hn459_0 : ad459.block ≠ gb451 := Nat.ne_of_lt (Nat.lt_of_lt_of_le (by have := World.block_lt_of_cell? _ _ hx459_0; first | rwa [add_block] at this | exact this) GW451.out); replace hx459_0 := (HB.out.cell (World.block_lt_of_cell? w _ hx459_0)).trans hx459_0; replace hx459_0 := (cell_far (p := ⟨gb451, 1, none⟩) (by first | (rw [add_block]; exact hn459_0) | (show (Addr.add _ _).block ≠ _; rw [add_block]; exact hn459_0) | exact hn459_0) (.slice Ao27 y456.length co27)).trans hx459_0; clear hn459_0; replace p459 := eq_true p459; replace q459 := eq_true q459))
             go_roundg k2
             case measure => have := HJ2.out; have := HK2.out; omega
             case rel => exact ⟨(((rdOf ByteArray.empty l1 x42_2).toList == ([] : List UInt8))), (wrap64 (x42_2 + 1)), (y456), (.slice Ao27 y456.length co27), (BE), (BE), H', ⟨by have := HJ2.out; have := HK2.out; omega⟩, ⟨by (with_reducible repeat (first | apply Kd.R_alloc | apply Kd.R_drewN | apply Kd.R_drew)); exact Kd.R_mono (Kd.R_far (p := ⟨gb451, 1, none⟩) (Kd.R_types HO_452000.out BK451.out (by decide)) (fun _ hk => hk.2) (.slice Ao27 y456.length co27)) (fun _ hk => trivial)⟩, ⟨by (with_reducible repeat (first | apply Kd.S_alloc | apply Kd.S_drewN | apply Kd.S_drew)); exact Kd.S_mono (Kd.S_far (p := ⟨gb451, 1, none⟩) (Kd.S_types HO458.out BK451.out (by decide)) (fun _ hk => hk.2) (.slice Ao27 y456.length co27)) (fun _ hk => trivial)⟩, ⟨by (with_reducible repeat (first | apply Kd.S_alloc | apply Kd.S_drewN | apply Kd.S_drew)); exact Kd.S_mono (Kd.S_far (p := ⟨gb451, 1, none⟩) (Kd.S_types HO_452002.out BK451.out (by decide)) (fun _ hk => hk.2) (.slice Ao27 y456.length co27)) (fun _ hk => trivial)⟩, ⟨by (with_reducible repeat (first | refine blk_drewN ?_ _ | refine blk_drew ?_ | refine blk_alloc ?_ _)); refine blk_put (cs := #[.slice Ao12 y445.length co12, u452001, .slice Ao11 y448.length co11, .slice none 0 0, .slice none 0 0, .slice (some ad452) l0.length c0, .slice (some ad459) l1.length c1]) ?_ 1 _ rfl; (with_reducible repeat (first | refine blk_drewN ?_ _ | refine blk_drew ?_ | refine blk_alloc ?_ _)); exact BK451.out⟩, ⟨BS GE451.out⟩⟩
            ·
             rw [if_neg c21] at H
             exact absurd H (by simp)
           ·
            rw [if_neg c20] at H
            have c20b0 : ((rd l0 x42_2) == (-1)) = false := beq_eq_false_iff_ne.mpr c20
            have c20b1 : ((rd l0 x42_2) != (-1)) = true := bne_iff_ne.mpr c20
            have H' := Aside0.mk H
            clear H
            have p452 : 0 ≤ (x42_2 : Int) := OD
            have q452 : x42_2 < (l0.length : Int) := OD
            obtain ⟨ad452, e452, hx452_0⟩ := Kd.at_int HR0.out x42_2 p452 q452
            cases e452
            replace hx452_0 := (HB.out.cell (World.block_lt_of_cell? w _ hx452_0)).trans hx452_0
            replace p452 := eq_true p452
            replace q452 := eq_true q452
            have hcz29_0 : wr.cell? ⟨gb451, 0, none⟩ = some (.slice Ao12 y445.length co12) := (blk_cell BK451.out 0).trans rfl
            have hcz29_1 : wr.cell? ⟨gb451, 1, none⟩ = some (u452001) := (blk_cell BK451.out 1).trans rfl
            have hcz29_2 : wr.cell? ⟨gb451, 2, none⟩ = some (.slice Ao11 y448.length co11) := (blk_cell BK451.out 2).trans rfl
            have hcz29_3 : wr.cell? ⟨gb451, 3, none⟩ = some (.slice none 0 0) := (blk_cell BK451.out 3).trans rfl
            have hcz29_4 : wr.cell? ⟨gb451, 4, none⟩ = some (.slice none 0 0) := (blk_cell BK451.out 4).trans rfl
            have hcz29_5 : wr.cell? ⟨gb451, 5, none⟩ = some (.slice (some ad452) l0.length c0) := (blk_cell BK451.out 5).trans rfl
            have hcz29_6 : wr.cell? ⟨gb451, 6, none⟩ = some (.slice A1 l1.length c1) := (blk_cell BK451.out 6).trans rfl
            have hfz29_0 := blk_frozen BK451.out 0
            have hfz29_1 := blk_frozen BK451.out 1
            have hfz29_2 := blk_frozen BK451.out 2
            have hfz29_3 := blk_frozen BK451.out 3
            have hfz29_4 := blk_frozen BK451.out 4
            have hfz29_5 := blk_frozen BK451.out 5
            have hfz29_6 := blk_frozen BK451.out 6
            go_wp2_with (first | ((with_reducible refine gate_dst (N := 49) rfl ?_); (try (refine gate_guard (by rfl) ?_; dsimp only)); refine Kd.R_lit Kd.string _ 9 ?hg (N := 49) ?hd (xs := ([(⟨#[]⟩ : ByteArray)] : List ByteArray)) (inner := [.string (⟨#[]⟩ : ByteArray)]) (ok := fun _ => True) (okp := fun _ => True) ?hr ?hp (fun _ hk => hk) trivial (Below.refl _ _) (Nat.le_refl _) (by simp) ?_; (case hd => rfl); (case hg => rfl); (case hr => first | (go_simp; done) | (go_simp; rfl)); (case hp => exact (Reps.one (show Kd.M Kd.string _ _ _ (⟨#[]⟩ : ByteArray) [.string (⟨#[]⟩ : ByteArray)] from rfl) (Reps.none _ _))); intro v454 w30 ho31 hb hg_ hnew_; clear hg_ hnew_; (first | rw [← Ny453.out] at ho31 | (simp only [Int.reduceToNat] at ho31; rw [← Ny453.out] at ho31)); have n0_ := Aside0.mk (Kd.R_below (BR HO_452000.out) hb); have n1_ := Aside0.mk (Kd.S_elder' (by (with_reducible repeat (first | apply Kd.S_alloc | apply Kd.S_drewN | apply Kd.S_drew)); exact HO_452001.out) (Kd.R_base ho31) hb); have n2_ := Aside0.mk (Kd.S_below (by (with_reducible repeat (first | apply Kd.S_alloc | apply Kd.S_drewN | apply Kd.S_drew)); exact HO_452002.out) hb); have n3_ := Aside0.mk (Kd.R_lower ho31 (below_size (BS GE451.out))); have n4_ := Aside0.mk (blk_below (g := gb451) (o := .cells #[.slice Ao12 y445.length co12, u452001, .slice Ao11 y448.length co11, .slice none 0 0, .slice none 0 0, .slice (some ad452) l0.length c0, .slice A1 l1.length c1] 46 (0, 0)) (by (with_reducible repeat (first | refine blk_drewN ?_ _ | refine blk_drew ?_ | refine blk_alloc ?_ _)); exact BK451.out) hb); have n5_ := Aside0.mk (below_step (BS GE451.out) hb); clear HO_452000; clear HO_452001; clear HO_452002; clear BK451; clear HB; have HO_452000 := n0_; have HO_452001 := n1_; have HO_452002 := n2_; have HO455 := n3_; have BK451 := n4_; have HB := n5_; clear n0_ n1_ n2_ n3_ n4_ n5_; clear hb ho31; obtain ⟨Ao33, co33, eo33⟩ := Kd.R_slice HO455.out; subst eo33) | ((with_reducible refine gate_builtin (b := .append) (xs := #[.tmp 48, .tmp 50]) rfl ?_); (try (refine gate_guard (by rfl) ?_; dsimp only)); at_builtin; refine Kd.S_append (Kd.slice 9 Kd.string) (w0 := w) w.heap.size rfl (.tmp 48) (.tmp 50) 42 23 (.slice none 0 0) 24 rfl Tryd.underlying42 info23 rfl (by decide) (by omega) u452001 x452001_2 y453 [.slice Ao33 y453.length co33] (fun _ => True) (fun k_ => some k_ = (.slice Ao33 y453.length co33 : Value).ownBlock) rfl rfl ?aP (fun k_ hk_ => ((Kd.R_mono (ok' := fun k_ => ((fun _ => True)) k_ ∧ some k_ ≠ (u452001 : Value).ownBlock) (Kd.R_apart' (HO455.out) (Kd.S_typed HO_452001.out) (by decide)) (fun k_ hk => ⟨trivial, hk.2⟩))).1 k_ hk_.symm) ?aF ?aO ?aB ?aS ?aL ?_; (case aP => exact Kd.M_row (Kd.R_mono (Kd.R_tight rfl (Kd.R_mono (ok' := fun k_ => ((fun _ => True)) k_ ∧ some k_ ≠ (u452001 : Value).ownBlock) (Kd.R_apart' (HO455.out) (Kd.S_typed HO_452001.out) (by decide)) (fun k_ hk => ⟨trivial, hk.2⟩))) (fun _ h_ => h_))); (case aB => exact (BS GE451.out)); (case aF => exact (fun _ _ => trivial)); (case aO => exact (by (with_reducible repeat (first | apply Kd.S_alloc | apply Kd.S_drewN | apply Kd.S_drew)); exact Kd.S_mono HO_452001.out (fun k_ hk => ⟨trivial, fun e_ => hk.2 e_⟩))); (case aS => exact (below_size (BS GE451.out))); (case aL => have := LMc18.out; omega); intro v457 w32 ho hb hg hat; rw [← Ny456.out] at ho; have n0_ := Aside0.mk (Kd.R_over' (BR HO_452000.out) (Kd.S_typed (by (with_reducible repeat (first | apply Kd.S_alloc | apply Kd.S_drewN | apply Kd.S_drew)); exact HO_452001.out)) (by decide) hg); have n1_ := Aside0.mk (Kd.S_over' (by (with_reducible repeat (first | apply Kd.S_alloc | apply Kd.S_drewN | apply Kd.S_drew)); exact HO_452002.out) (Kd.S_typed (by (with_reducible repeat (first | apply Kd.S_alloc | apply Kd.S_drewN | apply Kd.S_drew)); exact HO_452001.out)) (by decide) hg); have n2_ := Aside0.mk (blk_grown (g := gb451) (o := .cells #[.slice Ao12 y445.length co12, u452001, .slice Ao11 y448.length co11, .slice none 0 0, .slice none 0 0, .slice (some ad452) l0.length c0, .slice A1 l1.length c1] 46 (0, 0)) (by (with_reducible repeat (first | refine blk_drewN ?_ _ | refine blk_drew ?_ | refine blk_alloc ?_ _)); exact BK451.out) hg (Kd.S_ne HO_452001.out BK451.out (by decide))); have n3_ := Aside0.mk (hb); have n4_ := Aside0.mk (ho); clear HO_452000; clear HO_452002; clear BK451; clear HB; clear HO_452001; clear HO455; have HO_452000 := n0_; have HO_452002 := n1_; have BK451 := n2_; have HB := n3_; have HO458 := n4_; clear n0_ n1_ n2_ n3_ n4_; clear ho hb hg hat; obtain ⟨Ao34, co34, eo34⟩ := Kd.S_slice HO458.out; subst eo34; have hcz35_0 : w32.cell? ⟨gb451, 0, none⟩ = some (.slice Ao12 y445.length co12) := (blk_cell BK451.out 0).trans rfl; have hcz35_1 : w32.cell? ⟨gb451, 1, none⟩ = some (u452001) := (blk_cell BK451.out 1).trans rfl; have hcz35_2 : w32.cell? ⟨gb451, 2, none⟩ = some (.slice Ao11 y448.length co11) := (blk_cell BK451.out 2).trans rfl; have hcz35_3 : w32.cell? ⟨gb451, 3, none⟩ = some (.slice none 0 0) := (blk_cell BK451.out 3).trans rfl; have hcz35_4 : w32.cell? ⟨gb451, 4, none⟩ = some (.slice none 0 0) := (blk_cell BK451.out 4).trans rfl; have hcz35_5 : w32.cell? ⟨gb451, 5, none⟩ = some (.slice (some ad452) l0.length c0) := (blk_cell BK451.out 5).trans rfl; have hcz35_6 : w32.cell? ⟨gb451, 6, none⟩ = some (.slice A1 l1.length c1) := (blk_cell BK451.out 6).trans rfl; have hfz35_0 := blk_frozen BK451.out 0; have hfz35_1 := blk_frozen BK451.out 1; have hfz35_2 := blk_frozen BK451.out 2; have hfz35_3 := blk_frozen BK451.out 3; have hfz35_4 := blk_frozen BK451.out 4; have hfz35_5 := blk_frozen BK451.out 5; have hfz35_6 := blk_frozen BK451.out 6))
            go_roundg k2
            case measure => have := HJ2.out; have := HK2.out; omega
            case rel => exact ⟨(false), (wrap64 (x42_2 + 1)), (y456), (.slice Ao34 y456.length co34), (BE), (BE), H', ⟨by have := HJ2.out; have := HK2.out; omega⟩, ⟨by (with_reducible repeat (first | apply Kd.R_alloc | apply Kd.R_drewN | apply Kd.R_drew)); exact Kd.R_mono (Kd.R_far (p := ⟨gb451, 1, none⟩) (Kd.R_types HO_452000.out BK451.out (by decide)) (fun _ hk => hk.2) (.slice Ao34 y456.length co34)) (fun _ hk => trivial)⟩, ⟨by (with_reducible repeat (first | apply Kd.S_alloc | apply Kd.S_drewN | apply Kd.S_drew)); exact Kd.S_mono (Kd.S_far (p := ⟨gb451, 1, none⟩) (Kd.S_types HO458.out BK451.out (by decide)) (fun _ hk => hk.2) (.slice Ao34 y456.length co34)) (fun _ hk => trivial)⟩, ⟨by (with_reducible repeat (first | apply Kd.S_alloc | apply Kd.S_drewN | apply Kd.S_drew)); exact Kd.S_mono (Kd.S_far (p := ⟨gb451, 1, none⟩) (Kd.S_types HO_452002.out BK451.out (by decide)) (fun _ hk => hk.2) (.slice Ao34 y456.length co34)) (fun _ hk => trivial)⟩, ⟨by (with_reducible repeat (first | refine blk_drewN ?_ _ | refine blk_drew ?_ | refine blk_alloc ?_ _)); refine blk_put (cs := #[.slice Ao12 y445.length co12, u452001, .slice Ao11 y448.length co11, .slice none 0 0, .slice none 0 0, .slice (some ad452) l0.length c0, .slice A1 l1.length c1]) ?_ 1 _ rfl; (with_reducible repeat (first | refine blk_drewN ?_ _ | refine blk_drew ?_ | refine blk_alloc ?_ _)); exact BK451.out⟩, ⟨BS GE451.out⟩⟩
          ·
           replace c19 := Bool.eq_false_iff.mpr c19
           subst c19
           have H1 : (corporalaw09_DependCorpus.l0 k2 l0 l1 false l0 (l0.length : Int) (wrap64 (x42_2 + 1)) y445 y456 y448 l0 l1) = some r := by rw [if_neg (show ¬ (false = true) by decide)] at H; exact H
           clear H
           have H := H1
           clear H1
           have H' := Aside0.mk H
           clear H
           have p452 : 0 ≤ (x42_2 : Int) := OD
           have q452 : x42_2 < (l0.length : Int) := OD
           obtain ⟨ad452, e452, hx452_0⟩ := Kd.at_int HR0.out x42_2 p452 q452
           cases e452
           replace hx452_0 := (HB.out.cell (World.block_lt_of_cell? w _ hx452_0)).trans hx452_0
           replace p452 := eq_true p452
           replace q452 := eq_true q452
           have hcz36_0 : wr.cell? ⟨gb451, 0, none⟩ = some (.slice Ao12 y445.length co12) := (blk_cell BK451.out 0).trans rfl
           have hcz36_1 : wr.cell? ⟨gb451, 1, none⟩ = some (u452001) := (blk_cell BK451.out 1).trans rfl
           have hcz36_2 : wr.cell? ⟨gb451, 2, none⟩ = some (.slice Ao11 y448.length co11) := (blk_cell BK451.out 2).trans rfl
           have hcz36_3 : wr.cell? ⟨gb451, 3, none⟩ = some (.slice none 0 0) := (blk_cell BK451.out 3).trans rfl
           have hcz36_4 : wr.cell? ⟨gb451, 4, none⟩ = some (.slice none 0 0) := (blk_cell BK451.out 4).trans rfl
           have hcz36_5 : wr.cell? ⟨gb451, 5, none⟩ = some (.slice (some ad452) l0.length c0) := (blk_cell BK451.out 5).trans rfl
           have hcz36_6 : wr.cell? ⟨gb451, 6, none⟩ = some (.slice A1 l1.length c1) := (blk_cell BK451.out 6).trans rfl
           have hfz36_0 := blk_frozen BK451.out 0
           have hfz36_1 := blk_frozen BK451.out 1
           have hfz36_2 := blk_frozen BK451.out 2
           have hfz36_3 := blk_frozen BK451.out 3
           have hfz36_4 := blk_frozen BK451.out 4
           have hfz36_5 := blk_frozen BK451.out 5
           have hfz36_6 := blk_frozen BK451.out 6
           go_wp2_with (first | ((with_reducible refine gate_dst (N := 49) rfl ?_); (try (refine gate_guard (by rfl) ?_; dsimp only)); refine Kd.R_lit Kd.string _ 9 ?hg (N := 49) ?hd (xs := ([(⟨#[]⟩ : ByteArray)] : List ByteArray)) (inner := [.string (⟨#[]⟩ : ByteArray)]) (ok := fun _ => True) (okp := fun _ => True) ?hr ?hp (fun _ hk => hk) trivial (Below.refl _ _) (Nat.le_refl _) (by simp) ?_; (case hd => rfl); (case hg => rfl); (case hr => first | (go_simp; done) | (go_simp; rfl)); (case hp => exact (Reps.one (show Kd.M Kd.string _ _ _ (⟨#[]⟩ : ByteArray) [.string (⟨#[]⟩ : ByteArray)] from rfl) (Reps.none _ _))); intro v454 w37 ho38 hb hg_ hnew_; clear hg_ hnew_; (first | rw [← Ny453.out] at ho38 | (simp only [Int.reduceToNat] at ho38; rw [← Ny453.out] at ho38)); have n0_ := Aside0.mk (Kd.R_below (BR HO_452000.out) hb); have n1_ := Aside0.mk (Kd.S_elder' (by (with_reducible repeat (first | apply Kd.S_alloc | apply Kd.S_drewN | apply Kd.S_drew)); exact HO_452001.out) (Kd.R_base ho38) hb); have n2_ := Aside0.mk (Kd.S_below (by (with_reducible repeat (first | apply Kd.S_alloc | apply Kd.S_drewN | apply Kd.S_drew)); exact HO_452002.out) hb); have n3_ := Aside0.mk (Kd.R_lower ho38 (below_size (BS GE451.out))); have n4_ := Aside0.mk (blk_below (g := gb451) (o := .cells #[.slice Ao12 y445.length co12, u452001, .slice Ao11 y448.length co11, .slice none 0 0, .slice none 0 0, .slice (some ad452) l0.length c0, .slice A1 l1.length c1] 46 (0, 0)) (by (with_reducible repeat (first | refine blk_drewN ?_ _ | refine blk_drew ?_ | refine blk_alloc ?_ _)); exact BK451.out) hb); have n5_ := Aside0.mk (below_step (BS GE451.out) hb); clear HO_452000; clear HO_452001; clear HO_452002; clear BK451; clear HB; have HO_452000 := n0_; have HO_452001 := n1_; have HO_452002 := n2_; have HO455 := n3_; have BK451 := n4_; have HB := n5_; clear n0_ n1_ n2_ n3_ n4_ n5_; clear hb ho38; obtain ⟨Ao40, co40, eo40⟩ := Kd.R_slice HO455.out; subst eo40) | ((with_reducible refine gate_builtin (b := .append) (xs := #[.tmp 48, .tmp 50]) rfl ?_); (try (refine gate_guard (by rfl) ?_; dsimp only)); at_builtin; refine Kd.S_append (Kd.slice 9 Kd.string) (w0 := w) w.heap.size rfl (.tmp 48) (.tmp 50) 42 23 (.slice none 0 0) 24 rfl Tryd.underlying42 info23 rfl (by decide) (by omega) u452001 x452001_2 y453 [.slice Ao40 y453.length co40] (fun _ => True) (fun k_ => some k_ = (.slice Ao40 y453.length co40 : Value).ownBlock) rfl rfl ?aP (fun k_ hk_ => ((Kd.R_mono (ok' := fun k_ => ((fun _ => True)) k_ ∧ some k_ ≠ (u452001 : Value).ownBlock) (Kd.R_apart' (HO455.out) (Kd.S_typed HO_452001.out) (by decide)) (fun k_ hk => ⟨trivial, hk.2⟩))).1 k_ hk_.symm) ?aF ?aO ?aB ?aS ?aL ?_; (case aP => exact Kd.M_row (Kd.R_mono (Kd.R_tight rfl (Kd.R_mono (ok' := fun k_ => ((fun _ => True)) k_ ∧ some k_ ≠ (u452001 : Value).ownBlock) (Kd.R_apart' (HO455.out) (Kd.S_typed HO_452001.out) (by decide)) (fun k_ hk => ⟨trivial, hk.2⟩))) (fun _ h_ => h_))); (case aB => exact (BS GE451.out)); (case aF => exact (fun _ _ => trivial)); (case aO => exact (by (with_reducible repeat (first | apply Kd.S_alloc | apply Kd.S_drewN | apply Kd.S_drew)); exact Kd.S_mono HO_452001.out (fun k_ hk => ⟨trivial, fun e_ => hk.2 e_⟩))); (case aS => exact (below_size (BS GE451.out))); (case aL => have := LMc18.out; omega); intro v457 w39 ho hb hg hat; rw [← Ny456.out] at ho; have n0_ := Aside0.mk (Kd.R_over' (BR HO_452000.out) (Kd.S_typed (by (with_reducible repeat (first | apply Kd.S_alloc | apply Kd.S_drewN | apply Kd.S_drew)); exact HO_452001.out)) (by decide) hg); have n1_ := Aside0.mk (Kd.S_over' (by (with_reducible repeat (first | apply Kd.S_alloc | apply Kd.S_drewN | apply Kd.S_drew)); exact HO_452002.out) (Kd.S_typed (by (with_reducible repeat (first | apply Kd.S_alloc | apply Kd.S_drewN | apply Kd.S_drew)); exact HO_452001.out)) (by decide) hg); have n2_ := Aside0.mk (blk_grown (g := gb451) (o := .cells #[.slice Ao12 y445.length co12, u452001, .slice Ao11 y448.length co11, .slice none 0 0, .slice none 0 0, .slice (some ad452) l0.length c0, .slice A1 l1.length c1] 46 (0, 0)) (by (with_reducible repeat (first | refine blk_drewN ?_ _ | refine blk_drew ?_ | refine blk_alloc ?_ _)); exact BK451.out) hg (Kd.S_ne HO_452001.out BK451.out (by decide))); have n3_ := Aside0.mk (hb); have n4_ := Aside0.mk (ho); clear HO_452000; clear HO_452002; clear BK451; clear HB; clear HO_452001; clear HO455; have HO_452000 := n0_; have HO_452002 := n1_; have BK451 := n2_; have HB := n3_; have HO458 := n4_; clear n0_ n1_ n2_ n3_ n4_; clear ho hb hg hat; obtain ⟨Ao41, co41, eo41⟩ := Kd.S_slice HO458.out; subst eo41; have hcz42_0 : w39.cell? ⟨gb451, 0, none⟩ = some (.slice Ao12 y445.length co12) := (blk_cell BK451.out 0).trans rfl; have hcz42_1 : w39.cell? ⟨gb451, 1, none⟩ = some (u452001) := (blk_cell BK451.out 1).trans rfl; have hcz42_2 : w39.cell? ⟨gb451, 2, none⟩ = some (.slice Ao11 y448.length co11) := (blk_cell BK451.out 2).trans rfl; have hcz42_3 : w39.cell? ⟨gb451, 3, none⟩ = some (.slice none 0 0) := (blk_cell BK451.out 3).trans rfl; have hcz42_4 : w39.cell? ⟨gb451, 4, none⟩ = some (.slice none 0 0) := (blk_cell BK451.out 4).trans rfl; have hcz42_5 : w39.cell? ⟨gb451, 5, none⟩ = some (.slice (some ad452) l0.length c0) := (blk_cell BK451.out 5).trans rfl; have hcz42_6 : w39.cell? ⟨gb451, 6, none⟩ = some (.slice A1 l1.length c1) := (blk_cell BK451.out 6).trans rfl; have hfz42_0 := blk_frozen BK451.out 0; have hfz42_1 := blk_frozen BK451.out 1; have hfz42_2 := blk_frozen BK451.out 2; have hfz42_3 := blk_frozen BK451.out 3; have hfz42_4 := blk_frozen BK451.out 4; have hfz42_5 := blk_frozen BK451.out 5; have hfz42_6 := blk_frozen BK451.out 6))
           go_roundg k2
           case measure => have := HJ2.out; have := HK2.out; omega
           case rel => exact ⟨(false), (wrap64 (x42_2 + 1)), (y456), (.slice Ao41 y456.length co41), (BE), (BE), H', ⟨by have := HJ2.out; have := HK2.out; omega⟩, ⟨by (with_reducible repeat (first | apply Kd.R_alloc | apply Kd.R_drewN | apply Kd.R_drew)); exact Kd.R_mono (Kd.R_far (p := ⟨gb451, 1, none⟩) (Kd.R_types HO_452000.out BK451.out (by decide)) (fun _ hk => hk.2) (.slice Ao41 y456.length co41)) (fun _ hk => trivial)⟩, ⟨by (with_reducible repeat (first | apply Kd.S_alloc | apply Kd.S_drewN | apply Kd.S_drew)); exact Kd.S_mono (Kd.S_far (p := ⟨gb451, 1, none⟩) (Kd.S_types HO458.out BK451.out (by decide)) (fun _ hk => hk.2) (.slice Ao41 y456.length co41)) (fun _ hk => trivial)⟩, ⟨by (with_reducible repeat (first | apply Kd.S_alloc | apply Kd.S_drewN | apply Kd.S_drew)); exact Kd.S_mono (Kd.S_far (p := ⟨gb451, 1, none⟩) (Kd.S_types HO_452002.out BK451.out (by decide)) (fun _ hk => hk.2) (.slice Ao41 y456.length co41)) (fun _ hk => trivial)⟩, ⟨by (with_reducible repeat (first | refine blk_drewN ?_ _ | refine blk_drew ?_ | refine blk_alloc ?_ _)); refine blk_put (cs := #[.slice Ao12 y445.length co12, u452001, .slice Ao11 y448.length co11, .slice none 0 0, .slice none 0 0, .slice (some ad452) l0.length c0, .slice A1 l1.length c1]) ?_ 1 _ rfl; (with_reducible repeat (first | refine blk_drewN ?_ _ | refine blk_drew ?_ | refine blk_alloc ?_ _)); exact BK451.out⟩, ⟨BS GE451.out⟩⟩
         ·
          rw [if_neg c18] at H
          exact absurd H (by simp)
        ·
         rw [if_neg c17] at H
         exact absurd H (by simp)
       ·
        rw [if_neg c16] at H
        exact absurd H (by simp)
      ·
       rw [if_neg c15] at H
       have c15b0 : decide (x42_2 < (l0.length : Int)) = false := decide_eq_false c15
       clear c15
       replace H := Option.bind_eq_some_iff.mp H
       obtain ⟨⟨t460, t461, t462⟩, A430, H⟩ := H
       replace H : ((depend_Format.f k2 l0 l1).bind fun bt463 => (if x7_2 = true then (if t462 = 14 then (if bt463.2 = 0 then ((corporalaw09_awake.f k2).bind fun t465 => (some t465)) else (some false)) else (some false)) else (if ((t462 == 0) == (bt463.2 == 0)) = true then ((corporalaw09_awake.f k2).bind fun t466 => (some t466)) else (some false)))) = some r := H
       have A43 := Aside0.mk A430
       clear A430
       replace H := Option.bind_eq_some_iff.mp H
       obtain ⟨⟨t463, t464⟩, A440, H⟩ := H
       replace H : (if x7_2 = true then (if t462 = 14 then (if t464 = 0 then ((corporalaw09_awake.f k2).bind fun t465 => (some t465)) else (some false)) else (some false)) else (if ((t462 == 0) == (t464 == 0)) = true then ((corporalaw09_awake.f k2).bind fun t466 => (some t466)) else (some false))) = some r := H
       have A44 := Aside0.mk A440
       clear A440
       by_cases c45 : x7_2 = true
       ·
        subst c45
        have H1 : (if t462 = 14 then (if t464 = 0 then ((corporalaw09_awake.f k2).bind fun t465 => (some t465)) else (some false)) else (some false)) = some r := by rw [if_pos rfl] at H; exact H
        clear H
        have H := H1
        clear H1
        by_cases c46 : t462 = 14
        ·
         rw [if_pos c46] at H
         have c46b0 : (t462 == 14) = true := beq_iff_eq.mpr c46
         have c46b1 : (t462 != 14) = false := bne_eq_false_iff_eq.mpr c46
         clear c46
         by_cases c47 : t464 = 0
         ·
          rw [if_pos c47] at H
          have c47b0 : (t464 == 0) = true := beq_iff_eq.mpr c47
          have c47b1 : (t464 != 0) = false := bne_eq_false_iff_eq.mpr c47
          clear c47
          replace H := Option.bind_eq_some_iff.mp H
          obtain ⟨t465, A480, H⟩ := H
          replace H : (some t465) = some r := H
          have A48 := Aside0.mk A480
          clear A480
          obtain rfl := Option.some.inj H
          have hcz49_0 : wr.cell? ⟨gb451, 0, none⟩ = some (.slice Ao12 y445.length co12) := (blk_cell BK451.out 0).trans rfl
          have hcz49_1 : wr.cell? ⟨gb451, 1, none⟩ = some (u452001) := (blk_cell BK451.out 1).trans rfl
          have hcz49_2 : wr.cell? ⟨gb451, 2, none⟩ = some (.slice Ao11 y448.length co11) := (blk_cell BK451.out 2).trans rfl
          have hcz49_3 : wr.cell? ⟨gb451, 3, none⟩ = some (.slice none 0 0) := (blk_cell BK451.out 3).trans rfl
          have hcz49_4 : wr.cell? ⟨gb451, 4, none⟩ = some (.slice none 0 0) := (blk_cell BK451.out 4).trans rfl
          have hcz49_5 : wr.cell? ⟨gb451, 5, none⟩ = some (.slice A0 l0.length c0) := (blk_cell BK451.out 5).trans rfl
          have hcz49_6 : wr.cell? ⟨gb451, 6, none⟩ = some (.slice A1 l1.length c1) := (blk_cell BK451.out 6).trans rfl
          have hfz49_0 := blk_frozen BK451.out 0
          have hfz49_1 := blk_frozen BK451.out 1
          have hfz49_2 := blk_frozen BK451.out 2
          have hfz49_3 := blk_frozen BK451.out 3
          have hfz49_4 := blk_frozen BK451.out 4
          have hfz49_5 := blk_frozen BK451.out 5
          have hfz49_6 := blk_frozen BK451.out 6
          obtain ⟨Ao50, co50, eo50⟩ := Kd.S_slice HO_452001.out
          subst eo50
          go_wp2_with (first | ((with_reducible refine gate_callee (f := 12) rfl ?_); refine goesL_ (some 68) rfl rfl Tryd.func12 (by kernel_rfl) rfl #[.agg #[.slice Ao12 y445.length co12, .slice Ao50 x452001_2.length co50, .slice Ao11 y448.length co11, .slice none 0 0, .slice none 0 0, .slice A0 l0.length c0, .slice A1 l1.length c1]] rfl BM ?_; (refine (corpus_Validate.calls k2 _ _ y445 _ _ x452001_2 _ _ y448 _ _ ([] : List (S77)) _ _ ([] : List (S82)) _ _ l0 _ _ l1 t460 t461 t462 _ ?side1 ?side2 ?side3 ?side4 ?side5 ?side6 ?side7 ?side8 ?side9 ?side10 ?side11 ?side12 ?side13 ?side14 A43.out).mono ?_); (case side1 => repeat (first | exact (Kd.R_reads' HO_452000.out).2.2 | (with_reducible refine Kd.C_alloc ?_ _) | (with_reducible refine Kd.C_drewN ?_ _) | (with_reducible refine Kd.C_drew ?_))); (case side2 => exact (Kd.R_reads' HO_452000.out).2.1); (case side3 => repeat (first | exact (Kd.S_reads' HO_452001.out).2.2 | (with_reducible refine Kd.C_alloc ?_ _) | (with_reducible refine Kd.C_drewN ?_ _) | (with_reducible refine Kd.C_drew ?_))); (case side4 => exact (Kd.S_reads' HO_452001.out).2.1); (case side5 => repeat (first | exact (Kd.S_reads' HO_452002.out).2.2 | (with_reducible refine Kd.C_alloc ?_ _) | (with_reducible refine Kd.C_drewN ?_ _) | (with_reducible refine Kd.C_drew ?_))); (case side6 => exact (Kd.S_reads' HO_452002.out).2.1); (case side7 => exact Kd.C_nil _ _); (case side8 => exact Nat.le_refl _); (case side9 => exact Kd.C_nil _ _); (case side10 => exact Nat.le_refl _); (case side11 => exact BC HR0.out); (case side12 => exact HC0.out); (case side13 => exact BC HR1.out); (case side14 => exact HC1.out); rintro e w51 ⟨rfl, hb⟩; refine ⟨_, rfl, ?_⟩; have n0_ := Aside0.mk (Kd.R_below (BR HO_452000.out) hb); have n1_ := Aside0.mk (Kd.S_below (by (with_reducible repeat (first | apply Kd.S_alloc | apply Kd.S_drewN | apply Kd.S_drew)); exact HO_452001.out) hb); have n2_ := Aside0.mk (Kd.S_below (by (with_reducible repeat (first | apply Kd.S_alloc | apply Kd.S_drewN | apply Kd.S_drew)); exact HO_452002.out) hb); have n3_ := Aside0.mk (blk_below (g := gb451) (o := .cells #[.slice Ao12 y445.length co12, .slice Ao50 x452001_2.length co50, .slice Ao11 y448.length co11, .slice none 0 0, .slice none 0 0, .slice A0 l0.length c0, .slice A1 l1.length c1] 46 (0, 0)) (by (with_reducible repeat (first | refine blk_drewN ?_ _ | refine blk_drew ?_ | refine blk_alloc ?_ _)); exact BK451.out) hb); have n4_ := Aside0.mk (below_step (BS GE451.out) hb); clear HO_452000; clear HO_452001; clear HO_452002; clear BK451; clear HB; have HO_452000 := n0_; have HO_452001 := n1_; have HO_452002 := n2_; have BK451 := n3_; have HB := n4_; clear n0_ n1_ n2_ n3_ n4_; (try clear hb); (try clear hb2); (try clear hk); (try clear hi)) | ((with_reducible refine gate_callee (f := 6) rfl ?_); refine goesL_ (some 75) rfl rfl Tryd.func6 (by kernel_rfl) rfl #[.slice A0 l0.length c0, .slice A1 l1.length c1] rfl BM ?_; (with_reducible refine (depend_Format.calls k2 _ _ l0 _ _ l1 t463 t464 _ ?sideT ?side1 ?side2 ?side3 ?side4 A44.out).mono ?_); (case sideT => exact (tab_below htab (BB))); (case side1 => exact BC HR0.out); (case side2 => exact HC0.out); (case side3 => exact BC HR1.out); (case side4 => exact HC1.out); rintro e w52 ⟨rfl, hb⟩; refine ⟨_, rfl, ?_⟩; have n0_ := Aside0.mk (Kd.R_below (BR HO_452000.out) hb); have n1_ := Aside0.mk (Kd.S_below (by (with_reducible repeat (first | apply Kd.S_alloc | apply Kd.S_drewN | apply Kd.S_drew)); exact HO_452001.out) hb); have n2_ := Aside0.mk (Kd.S_below (by (with_reducible repeat (first | apply Kd.S_alloc | apply Kd.S_drewN | apply Kd.S_drew)); exact HO_452002.out) hb); have n3_ := Aside0.mk (blk_below (g := gb451) (o := .cells #[.slice Ao12 y445.length co12, .slice Ao50 x452001_2.length co50, .slice Ao11 y448.length co11, .slice none 0 0, .slice none 0 0, .slice A0 l0.length c0, .slice A1 l1.length c1] 46 (0, 0)) (by (with_reducible repeat (first | refine blk_drewN ?_ _ | refine blk_drew ?_ | refine blk_alloc ?_ _)); exact BK451.out) hb); have n4_ := Aside0.mk (below_step (BS GE451.out) hb); clear HO_452000; clear HO_452001; clear HO_452002; clear BK451; clear HB; have HO_452000 := n0_; have HO_452001 := n1_; have HO_452002 := n2_; have BK451 := n3_; have HB := n4_; clear n0_ n1_ n2_ n3_ n4_; (try clear hb); (try clear hb2); (try clear hk); (try clear hi)) | (go_at_call 8; (with_reducible refine (corporalaw09_awake.calls k2  t465 _ A48.out).mono ?_); rintro e w53 ⟨rfl, hb⟩; have n0_ := Aside0.mk (Kd.R_below (BR HO_452000.out) hb); have n1_ := Aside0.mk (Kd.S_below (by (with_reducible repeat (first | apply Kd.S_alloc | apply Kd.S_drewN | apply Kd.S_drew)); exact HO_452001.out) hb); have n2_ := Aside0.mk (Kd.S_below (by (with_reducible repeat (first | apply Kd.S_alloc | apply Kd.S_drewN | apply Kd.S_drew)); exact HO_452002.out) hb); have n3_ := Aside0.mk (blk_below (g := gb451) (o := .cells #[.slice Ao12 y445.length co12, .slice Ao50 x452001_2.length co50, .slice Ao11 y448.length co11, .slice none 0 0, .slice none 0 0, .slice A0 l0.length c0, .slice A1 l1.length c1] 46 (0, 0)) (by (with_reducible repeat (first | refine blk_drewN ?_ _ | refine blk_drew ?_ | refine blk_alloc ?_ _)); exact BK451.out) hb); have n4_ := Aside0.mk (below_step (BS GE451.out) hb); clear HO_452000; clear HO_452001; clear HO_452002; clear BK451; clear HB; have HO_452000 := n0_; have HO_452001 := n1_; have HO_452002 := n2_; have BK451 := n3_; have HB := n4_; clear n0_ n1_ n2_ n3_ n4_; (try clear hb); (try clear hb2); (try clear hk); (try clear hi)))
          go_ret
          exact ⟨BX, BS GE451.out⟩
         ·
          rw [if_neg c47] at H
          have c47b0 : (t464 == 0) = false := beq_eq_false_iff_ne.mpr c47
          have c47b1 : (t464 != 0) = true := bne_iff_ne.mpr c47
          obtain rfl := Option.some.inj H
          have hcz54_0 : wr.cell? ⟨gb451, 0, none⟩ = some (.slice Ao12 y445.length co12) := (blk_cell BK451.out 0).trans rfl
          have hcz54_1 : wr.cell? ⟨gb451, 1, none⟩ = some (u452001) := (blk_cell BK451.out 1).trans rfl
          have hcz54_2 : wr.cell? ⟨gb451, 2, none⟩ = some (.slice Ao11 y448.length co11) := (blk_cell BK451.out 2).trans rfl
          have hcz54_3 : wr.cell? ⟨gb451, 3, none⟩ = some (.slice none 0 0) := (blk_cell BK451.out 3).trans rfl
          have hcz54_4 : wr.cell? ⟨gb451, 4, none⟩ = some (.slice none 0 0) := (blk_cell BK451.out 4).trans rfl
          have hcz54_5 : wr.cell? ⟨gb451, 5, none⟩ = some (.slice A0 l0.length c0) := (blk_cell BK451.out 5).trans rfl
          have hcz54_6 : wr.cell? ⟨gb451, 6, none⟩ = some (.slice A1 l1.length c1) := (blk_cell BK451.out 6).trans rfl
          have hfz54_0 := blk_frozen BK451.out 0
          have hfz54_1 := blk_frozen BK451.out 1
          have hfz54_2 := blk_frozen BK451.out 2
          have hfz54_3 := blk_frozen BK451.out 3
          have hfz54_4 := blk_frozen BK451.out 4
          have hfz54_5 := blk_frozen BK451.out 5
          have hfz54_6 := blk_frozen BK451.out 6
          obtain ⟨Ao55, co55, eo55⟩ := Kd.S_slice HO_452001.out
          subst eo55
          go_wp2_with (first | ((with_reducible refine gate_callee (f := 12) rfl ?_); refine goesL_ (some 68) rfl rfl Tryd.func12 (by kernel_rfl) rfl #[.agg #[.slice Ao12 y445.length co12, .slice Ao55 x452001_2.length co55, .slice Ao11 y448.length co11, .slice none 0 0, .slice none 0 0, .slice A0 l0.length c0, .slice A1 l1.length c1]] rfl BM ?_; (refine (corpus_Validate.calls k2 _ _ y445 _ _ x452001_2 _ _ y448 _ _ ([] : List (S77)) _ _ ([] : List (S82)) _ _ l0 _ _ l1 t460 t461 t462 _ ?side1 ?side2 ?side3 ?side4 ?side5 ?side6 ?side7 ?side8 ?side9 ?side10 ?side11 ?side12 ?side13 ?side14 A43.out).mono ?_); (case side1 => repeat (first | exact (Kd.R_reads' HO_452000.out).2.2 | (with_reducible refine Kd.C_alloc ?_ _) | (with_reducible refine Kd.C_drewN ?_ _) | (with_reducible refine Kd.C_drew ?_))); (case side2 => exact (Kd.R_reads' HO_452000.out).2.1); (case side3 => repeat (first | exact (Kd.S_reads' HO_452001.out).2.2 | (with_reducible refine Kd.C_alloc ?_ _) | (with_reducible refine Kd.C_drewN ?_ _) | (with_reducible refine Kd.C_drew ?_))); (case side4 => exact (Kd.S_reads' HO_452001.out).2.1); (case side5 => repeat (first | exact (Kd.S_reads' HO_452002.out).2.2 | (with_reducible refine Kd.C_alloc ?_ _) | (with_reducible refine Kd.C_drewN ?_ _) | (with_reducible refine Kd.C_drew ?_))); (case side6 => exact (Kd.S_reads' HO_452002.out).2.1); (case side7 => exact Kd.C_nil _ _); (case side8 => exact Nat.le_refl _); (case side9 => exact Kd.C_nil _ _); (case side10 => exact Nat.le_refl _); (case side11 => exact BC HR0.out); (case side12 => exact HC0.out); (case side13 => exact BC HR1.out); (case side14 => exact HC1.out); rintro e w56 ⟨rfl, hb⟩; refine ⟨_, rfl, ?_⟩; have n0_ := Aside0.mk (Kd.R_below (BR HO_452000.out) hb); have n1_ := Aside0.mk (Kd.S_below (by (with_reducible repeat (first | apply Kd.S_alloc | apply Kd.S_drewN | apply Kd.S_drew)); exact HO_452001.out) hb); have n2_ := Aside0.mk (Kd.S_below (by (with_reducible repeat (first | apply Kd.S_alloc | apply Kd.S_drewN | apply Kd.S_drew)); exact HO_452002.out) hb); have n3_ := Aside0.mk (blk_below (g := gb451) (o := .cells #[.slice Ao12 y445.length co12, .slice Ao55 x452001_2.length co55, .slice Ao11 y448.length co11, .slice none 0 0, .slice none 0 0, .slice A0 l0.length c0, .slice A1 l1.length c1] 46 (0, 0)) (by (with_reducible repeat (first | refine blk_drewN ?_ _ | refine blk_drew ?_ | refine blk_alloc ?_ _)); exact BK451.out) hb); have n4_ := Aside0.mk (below_step (BS GE451.out) hb); clear HO_452000; clear HO_452001; clear HO_452002; clear BK451; clear HB; have HO_452000 := n0_; have HO_452001 := n1_; have HO_452002 := n2_; have BK451 := n3_; have HB := n4_; clear n0_ n1_ n2_ n3_ n4_; (try clear hb); (try clear hb2); (try clear hk); (try clear hi)) | ((with_reducible refine gate_callee (f := 6) rfl ?_); refine goesL_ (some 75) rfl rfl Tryd.func6 (by kernel_rfl) rfl #[.slice A0 l0.length c0, .slice A1 l1.length c1] rfl BM ?_; (with_reducible refine (depend_Format.calls k2 _ _ l0 _ _ l1 t463 t464 _ ?sideT ?side1 ?side2 ?side3 ?side4 A44.out).mono ?_); (case sideT => exact (tab_below htab (BB))); (case side1 => exact BC HR0.out); (case side2 => exact HC0.out); (case side3 => exact BC HR1.out); (case side4 => exact HC1.out); rintro e w57 ⟨rfl, hb⟩; refine ⟨_, rfl, ?_⟩; have n0_ := Aside0.mk (Kd.R_below (BR HO_452000.out) hb); have n1_ := Aside0.mk (Kd.S_below (by (with_reducible repeat (first | apply Kd.S_alloc | apply Kd.S_drewN | apply Kd.S_drew)); exact HO_452001.out) hb); have n2_ := Aside0.mk (Kd.S_below (by (with_reducible repeat (first | apply Kd.S_alloc | apply Kd.S_drewN | apply Kd.S_drew)); exact HO_452002.out) hb); have n3_ := Aside0.mk (blk_below (g := gb451) (o := .cells #[.slice Ao12 y445.length co12, .slice Ao55 x452001_2.length co55, .slice Ao11 y448.length co11, .slice none 0 0, .slice none 0 0, .slice A0 l0.length c0, .slice A1 l1.length c1] 46 (0, 0)) (by (with_reducible repeat (first | refine blk_drewN ?_ _ | refine blk_drew ?_ | refine blk_alloc ?_ _)); exact BK451.out) hb); have n4_ := Aside0.mk (below_step (BS GE451.out) hb); clear HO_452000; clear HO_452001; clear HO_452002; clear BK451; clear HB; have HO_452000 := n0_; have HO_452001 := n1_; have HO_452002 := n2_; have BK451 := n3_; have HB := n4_; clear n0_ n1_ n2_ n3_ n4_; (try clear hb); (try clear hb2); (try clear hk); (try clear hi)))
          go_ret
          exact ⟨BX, BS GE451.out⟩
        ·
         rw [if_neg c46] at H
         have c46b0 : (t462 == 14) = false := beq_eq_false_iff_ne.mpr c46
         have c46b1 : (t462 != 14) = true := bne_iff_ne.mpr c46
         obtain rfl := Option.some.inj H
         have hcz58_0 : wr.cell? ⟨gb451, 0, none⟩ = some (.slice Ao12 y445.length co12) := (blk_cell BK451.out 0).trans rfl
         have hcz58_1 : wr.cell? ⟨gb451, 1, none⟩ = some (u452001) := (blk_cell BK451.out 1).trans rfl
         have hcz58_2 : wr.cell? ⟨gb451, 2, none⟩ = some (.slice Ao11 y448.length co11) := (blk_cell BK451.out 2).trans rfl
         have hcz58_3 : wr.cell? ⟨gb451, 3, none⟩ = some (.slice none 0 0) := (blk_cell BK451.out 3).trans rfl
         have hcz58_4 : wr.cell? ⟨gb451, 4, none⟩ = some (.slice none 0 0) := (blk_cell BK451.out 4).trans rfl
         have hcz58_5 : wr.cell? ⟨gb451, 5, none⟩ = some (.slice A0 l0.length c0) := (blk_cell BK451.out 5).trans rfl
         have hcz58_6 : wr.cell? ⟨gb451, 6, none⟩ = some (.slice A1 l1.length c1) := (blk_cell BK451.out 6).trans rfl
         have hfz58_0 := blk_frozen BK451.out 0
         have hfz58_1 := blk_frozen BK451.out 1
         have hfz58_2 := blk_frozen BK451.out 2
         have hfz58_3 := blk_frozen BK451.out 3
         have hfz58_4 := blk_frozen BK451.out 4
         have hfz58_5 := blk_frozen BK451.out 5
         have hfz58_6 := blk_frozen BK451.out 6
         obtain ⟨Ao59, co59, eo59⟩ := Kd.S_slice HO_452001.out
         subst eo59
         go_wp2_with (first | ((with_reducible refine gate_callee (f := 12) rfl ?_); refine goesL_ (some 68) rfl rfl Tryd.func12 (by kernel_rfl) rfl #[.agg #[.slice Ao12 y445.length co12, .slice Ao59 x452001_2.length co59, .slice Ao11 y448.length co11, .slice none 0 0, .slice none 0 0, .slice A0 l0.length c0, .slice A1 l1.length c1]] rfl BM ?_; (refine (corpus_Validate.calls k2 _ _ y445 _ _ x452001_2 _ _ y448 _ _ ([] : List (S77)) _ _ ([] : List (S82)) _ _ l0 _ _ l1 t460 t461 t462 _ ?side1 ?side2 ?side3 ?side4 ?side5 ?side6 ?side7 ?side8 ?side9 ?side10 ?side11 ?side12 ?side13 ?side14 A43.out).mono ?_); (case side1 => repeat (first | exact (Kd.R_reads' HO_452000.out).2.2 | (with_reducible refine Kd.C_alloc ?_ _) | (with_reducible refine Kd.C_drewN ?_ _) | (with_reducible refine Kd.C_drew ?_))); (case side2 => exact (Kd.R_reads' HO_452000.out).2.1); (case side3 => repeat (first | exact (Kd.S_reads' HO_452001.out).2.2 | (with_reducible refine Kd.C_alloc ?_ _) | (with_reducible refine Kd.C_drewN ?_ _) | (with_reducible refine Kd.C_drew ?_))); (case side4 => exact (Kd.S_reads' HO_452001.out).2.1); (case side5 => repeat (first | exact (Kd.S_reads' HO_452002.out).2.2 | (with_reducible refine Kd.C_alloc ?_ _) | (with_reducible refine Kd.C_drewN ?_ _) | (with_reducible refine Kd.C_drew ?_))); (case side6 => exact (Kd.S_reads' HO_452002.out).2.1); (case side7 => exact Kd.C_nil _ _); (case side8 => exact Nat.le_refl _); (case side9 => exact Kd.C_nil _ _); (case side10 => exact Nat.le_refl _); (case side11 => exact BC HR0.out); (case side12 => exact HC0.out); (case side13 => exact BC HR1.out); (case side14 => exact HC1.out); rintro e w60 ⟨rfl, hb⟩; refine ⟨_, rfl, ?_⟩; have n0_ := Aside0.mk (Kd.R_below (BR HO_452000.out) hb); have n1_ := Aside0.mk (Kd.S_below (by (with_reducible repeat (first | apply Kd.S_alloc | apply Kd.S_drewN | apply Kd.S_drew)); exact HO_452001.out) hb); have n2_ := Aside0.mk (Kd.S_below (by (with_reducible repeat (first | apply Kd.S_alloc | apply Kd.S_drewN | apply Kd.S_drew)); exact HO_452002.out) hb); have n3_ := Aside0.mk (blk_below (g := gb451) (o := .cells #[.slice Ao12 y445.length co12, .slice Ao59 x452001_2.length co59, .slice Ao11 y448.length co11, .slice none 0 0, .slice none 0 0, .slice A0 l0.length c0, .slice A1 l1.length c1] 46 (0, 0)) (by (with_reducible repeat (first | refine blk_drewN ?_ _ | refine blk_drew ?_ | refine blk_alloc ?_ _)); exact BK451.out) hb); have n4_ := Aside0.mk (below_step (BS GE451.out) hb); clear HO_452000; clear HO_452001; clear HO_452002; clear BK451; clear HB; have HO_452000 := n0_; have HO_452001 := n1_; have HO_452002 := n2_; have BK451 := n3_; have HB := n4_; clear n0_ n1_ n2_ n3_ n4_; (try clear hb); (try clear hb2); (try clear hk); (try clear hi)) | ((with_reducible refine gate_callee (f := 6) rfl ?_); refine goesL_ (some 75) rfl rfl Tryd.func6 (by kernel_rfl) rfl #[.slice A0 l0.length c0, .slice A1 l1.length c1] rfl BM ?_; (with_reducible refine (depend_Format.calls k2 _ _ l0 _ _ l1 t463 t464 _ ?sideT ?side1 ?side2 ?side3 ?side4 A44.out).mono ?_); (case sideT => exact (tab_below htab (BB))); (case side1 => exact BC HR0.out); (case side2 => exact HC0.out); (case side3 => exact BC HR1.out); (case side4 => exact HC1.out); rintro e w61 ⟨rfl, hb⟩; refine ⟨_, rfl, ?_⟩; have n0_ := Aside0.mk (Kd.R_below (BR HO_452000.out) hb); have n1_ := Aside0.mk (Kd.S_below (by (with_reducible repeat (first | apply Kd.S_alloc | apply Kd.S_drewN | apply Kd.S_drew)); exact HO_452001.out) hb); have n2_ := Aside0.mk (Kd.S_below (by (with_reducible repeat (first | apply Kd.S_alloc | apply Kd.S_drewN | apply Kd.S_drew)); exact HO_452002.out) hb); have n3_ := Aside0.mk (blk_below (g := gb451) (o := .cells #[.slice Ao12 y445.length co12, .slice Ao59 x452001_2.length co59, .slice Ao11 y448.length co11, .slice none 0 0, .slice none 0 0, .slice A0 l0.length c0, .slice A1 l1.length c1] 46 (0, 0)) (by (with_reducible repeat (first | refine blk_drewN ?_ _ | refine blk_drew ?_ | refine blk_alloc ?_ _)); exact BK451.out) hb); have n4_ := Aside0.mk (below_step (BS GE451.out) hb); clear HO_452000; clear HO_452001; clear HO_452002; clear BK451; clear HB; have HO_452000 := n0_; have HO_452001 := n1_; have HO_452002 := n2_; have BK451 := n3_; have HB := n4_; clear n0_ n1_ n2_ n3_ n4_; (try clear hb); (try clear hb2); (try clear hk); (try clear hi)))
         go_ret
         exact ⟨BX, BS GE451.out⟩
       ·
        replace c45 := Bool.eq_false_iff.mpr c45
        subst c45
        have H1 : (if ((t462 == 0) == (t464 == 0)) = true then ((corporalaw09_awake.f k2).bind fun t466 => (some t466)) else (some false)) = some r := by rw [if_neg (show ¬ (false = true) by decide)] at H; exact H
        clear H
        have H := H1
        clear H1
        by_cases c62 : ((t462 == 0) == (t464 == 0)) = true
        ·
         rw [if_pos c62] at H
         have c62b0 : ((t462 == 0) == (t464 == 0)) = true := c62
         (try (have c62b1 : decide ((t462 == 0) = (t464 == 0)) = true := by simpa using c62))
         (try (have c62b2 : ((t462 == 0) == (t464 == 0)) = true := by simpa using c62))
         clear c62
         replace H := Option.bind_eq_some_iff.mp H
         obtain ⟨t466, A630, H⟩ := H
         replace H : (some t466) = some r := H
         have A63 := Aside0.mk A630
         clear A630
         obtain rfl := Option.some.inj H
         have hcz64_0 : wr.cell? ⟨gb451, 0, none⟩ = some (.slice Ao12 y445.length co12) := (blk_cell BK451.out 0).trans rfl
         have hcz64_1 : wr.cell? ⟨gb451, 1, none⟩ = some (u452001) := (blk_cell BK451.out 1).trans rfl
         have hcz64_2 : wr.cell? ⟨gb451, 2, none⟩ = some (.slice Ao11 y448.length co11) := (blk_cell BK451.out 2).trans rfl
         have hcz64_3 : wr.cell? ⟨gb451, 3, none⟩ = some (.slice none 0 0) := (blk_cell BK451.out 3).trans rfl
         have hcz64_4 : wr.cell? ⟨gb451, 4, none⟩ = some (.slice none 0 0) := (blk_cell BK451.out 4).trans rfl
         have hcz64_5 : wr.cell? ⟨gb451, 5, none⟩ = some (.slice A0 l0.length c0) := (blk_cell BK451.out 5).trans rfl
         have hcz64_6 : wr.cell? ⟨gb451, 6, none⟩ = some (.slice A1 l1.length c1) := (blk_cell BK451.out 6).trans rfl
         have hfz64_0 := blk_frozen BK451.out 0
         have hfz64_1 := blk_frozen BK451.out 1
         have hfz64_2 := blk_frozen BK451.out 2
         have hfz64_3 := blk_frozen BK451.out 3
         have hfz64_4 := blk_frozen BK451.out 4
         have hfz64_5 := blk_frozen BK451.out 5
         have hfz64_6 := blk_frozen BK451.out 6
         obtain ⟨Ao65, co65, eo65⟩ := Kd.S_slice HO_452001.out
         subst eo65
         go_wp2_with (first | ((with_reducible refine gate_callee (f := 12) rfl ?_); refine goesL_ (some 68) rfl rfl Tryd.func12 (by kernel_rfl) rfl #[.agg #[.slice Ao12 y445.length co12, .slice Ao65 x452001_2.length co65, .slice Ao11 y448.length co11, .slice none 0 0, .slice none 0 0, .slice A0 l0.length c0, .slice A1 l1.length c1]] rfl BM ?_; (refine (corpus_Validate.calls k2 _ _ y445 _ _ x452001_2 _ _ y448 _ _ ([] : List (S77)) _ _ ([] : List (S82)) _ _ l0 _ _ l1 t460 t461 t462 _ ?side1 ?side2 ?side3 ?side4 ?side5 ?side6 ?side7 ?side8 ?side9 ?side10 ?side11 ?side12 ?side13 ?side14 A43.out).mono ?_); (case side1 => repeat (first | exact (Kd.R_reads' HO_452000.out).2.2 | (with_reducible refine Kd.C_alloc ?_ _) | (with_reducible refine Kd.C_drewN ?_ _) | (with_reducible refine Kd.C_drew ?_))); (case side2 => exact (Kd.R_reads' HO_452000.out).2.1); (case side3 => repeat (first | exact (Kd.S_reads' HO_452001.out).2.2 | (with_reducible refine Kd.C_alloc ?_ _) | (with_reducible refine Kd.C_drewN ?_ _) | (with_reducible refine Kd.C_drew ?_))); (case side4 => exact (Kd.S_reads' HO_452001.out).2.1); (case side5 => repeat (first | exact (Kd.S_reads' HO_452002.out).2.2 | (with_reducible refine Kd.C_alloc ?_ _) | (with_reducible refine Kd.C_drewN ?_ _) | (with_reducible refine Kd.C_drew ?_))); (case side6 => exact (Kd.S_reads' HO_452002.out).2.1); (case side7 => exact Kd.C_nil _ _); (case side8 => exact Nat.le_refl _); (case side9 => exact Kd.C_nil _ _); (case side10 => exact Nat.le_refl _); (case side11 => exact BC HR0.out); (case side12 => exact HC0.out); (case side13 => exact BC HR1.out); (case side14 => exact HC1.out); rintro e w66 ⟨rfl, hb⟩; refine ⟨_, rfl, ?_⟩; have n0_ := Aside0.mk (Kd.R_below (BR HO_452000.out) hb); have n1_ := Aside0.mk (Kd.S_below (by (with_reducible repeat (first | apply Kd.S_alloc | apply Kd.S_drewN | apply Kd.S_drew)); exact HO_452001.out) hb); have n2_ := Aside0.mk (Kd.S_below (by (with_reducible repeat (first | apply Kd.S_alloc | apply Kd.S_drewN | apply Kd.S_drew)); exact HO_452002.out) hb); have n3_ := Aside0.mk (blk_below (g := gb451) (o := .cells #[.slice Ao12 y445.length co12, .slice Ao65 x452001_2.length co65, .slice Ao11 y448.length co11, .slice none 0 0, .slice none 0 0, .slice A0 l0.length c0, .slice A1 l1.length c1] 46 (0, 0)) (by (with_reducible repeat (first | refine blk_drewN ?_ _ | refine blk_drew ?_ | refine blk_alloc ?_ _)); exact BK451.out) hb); have n4_ := Aside0.mk (below_step (BS GE451.out) hb); clear HO_452000; clear HO_452001; clear HO_452002; clear BK451; clear HB; have HO_452000 := n0_; have HO_452001 := n1_; have HO_452002 := n2_; have BK451 := n3_; have HB := n4_; clear n0_ n1_ n2_ n3_ n4_; (try clear hb); (try clear hb2); (try clear hk); (try clear hi)) | ((with_reducible refine gate_callee (f := 6) rfl ?_); refine goesL_ (some 75) rfl rfl Tryd.func6 (by kernel_rfl) rfl #[.slice A0 l0.length c0, .slice A1 l1.length c1] rfl BM ?_; (with_reducible refine (depend_Format.calls k2 _ _ l0 _ _ l1 t463 t464 _ ?sideT ?side1 ?side2 ?side3 ?side4 A44.out).mono ?_); (case sideT => exact (tab_below htab (BB))); (case side1 => exact BC HR0.out); (case side2 => exact HC0.out); (case side3 => exact BC HR1.out); (case side4 => exact HC1.out); rintro e w67 ⟨rfl, hb⟩; refine ⟨_, rfl, ?_⟩; have n0_ := Aside0.mk (Kd.R_below (BR HO_452000.out) hb); have n1_ := Aside0.mk (Kd.S_below (by (with_reducible repeat (first | apply Kd.S_alloc | apply Kd.S_drewN | apply Kd.S_drew)); exact HO_452001.out) hb); have n2_ := Aside0.mk (Kd.S_below (by (with_reducible repeat (first | apply Kd.S_alloc | apply Kd.S_drewN | apply Kd.S_drew)); exact HO_452002.out) hb); have n3_ := Aside0.mk (blk_below (g := gb451) (o := .cells #[.slice Ao12 y445.length co12, .slice Ao65 x452001_2.length co65, .slice Ao11 y448.length co11, .slice none 0 0, .slice none 0 0, .slice A0 l0.length c0, .slice A1 l1.length c1] 46 (0, 0)) (by (with_reducible repeat (first | refine blk_drewN ?_ _ | refine blk_drew ?_ | refine blk_alloc ?_ _)); exact BK451.out) hb); have n4_ := Aside0.mk (below_step (BS GE451.out) hb); clear HO_452000; clear HO_452001; clear HO_452002; clear BK451; clear HB; have HO_452000 := n0_; have HO_452001 := n1_; have HO_452002 := n2_; have BK451 := n3_; have HB := n4_; clear n0_ n1_ n2_ n3_ n4_; (try clear hb); (try clear hb2); (try clear hk); (try clear hi)) | (go_at_call 8; (with_reducible refine (corporalaw09_awake.calls k2  t466 _ A63.out).mono ?_); rintro e w68 ⟨rfl, hb⟩; have n0_ := Aside0.mk (Kd.R_below (BR HO_452000.out) hb); have n1_ := Aside0.mk (Kd.S_below (by (with_reducible repeat (first | apply Kd.S_alloc | apply Kd.S_drewN | apply Kd.S_drew)); exact HO_452001.out) hb); have n2_ := Aside0.mk (Kd.S_below (by (with_reducible repeat (first | apply Kd.S_alloc | apply Kd.S_drewN | apply Kd.S_drew)); exact HO_452002.out) hb); have n3_ := Aside0.mk (blk_below (g := gb451) (o := .cells #[.slice Ao12 y445.length co12, .slice Ao65 x452001_2.length co65, .slice Ao11 y448.length co11, .slice none 0 0, .slice none 0 0, .slice A0 l0.length c0, .slice A1 l1.length c1] 46 (0, 0)) (by (with_reducible repeat (first | refine blk_drewN ?_ _ | refine blk_drew ?_ | refine blk_alloc ?_ _)); exact BK451.out) hb); have n4_ := Aside0.mk (below_step (BS GE451.out) hb); clear HO_452000; clear HO_452001; clear HO_452002; clear BK451; clear HB; have HO_452000 := n0_; have HO_452001 := n1_; have HO_452002 := n2_; have BK451 := n3_; have HB := n4_; clear n0_ n1_ n2_ n3_ n4_; (try clear hb); (try clear hb2); (try clear hk); (try clear hi)))
         go_ret
         exact ⟨BX, BS GE451.out⟩
        ·
         rw [if_neg c62] at H
         have c62b0 : ((t462 == 0) == (t464 == 0)) = false := by simpa using c62
         (try (have c62b1 : decide ((t462 == 0) = (t464 == 0)) = false := by simpa using c62))
         (try (have c62b2 : ((t462 == 0) == (t464 == 0)) = false := by simpa using c62))
         (try (have c62b3 : ¬ ((t462 == 0) = (t464 == 0)) := by simpa using c62))
         clear c62
         obtain rfl := Option.some.inj H
         have hcz69_0 : wr.cell? ⟨gb451, 0, none⟩ = some (.slice Ao12 y445.length co12) := (blk_cell BK451.out 0).trans rfl
         have hcz69_1 : wr.cell? ⟨gb451, 1, none⟩ = some (u452001) := (blk_cell BK451.out 1).trans rfl
         have hcz69_2 : wr.cell? ⟨gb451, 2, none⟩ = some (.slice Ao11 y448.length co11) := (blk_cell BK451.out 2).trans rfl
         have hcz69_3 : wr.cell? ⟨gb451, 3, none⟩ = some (.slice none 0 0) := (blk_cell BK451.out 3).trans rfl
         have hcz69_4 : wr.cell? ⟨gb451, 4, none⟩ = some (.slice none 0 0) := (blk_cell BK451.out 4).trans rfl
         have hcz69_5 : wr.cell? ⟨gb451, 5, none⟩ = some (.slice A0 l0.length c0) := (blk_cell BK451.out 5).trans rfl
         have hcz69_6 : wr.cell? ⟨gb451, 6, none⟩ = some (.slice A1 l1.length c1) := (blk_cell BK451.out 6).trans rfl
         have hfz69_0 := blk_frozen BK451.out 0
         have hfz69_1 := blk_frozen BK451.out 1
         have hfz69_2 := blk_frozen BK451.out 2
         have hfz69_3 := blk_frozen BK451.out 3
         have hfz69_4 := blk_frozen BK451.out 4
         have hfz69_5 := blk_frozen BK451.out 5
         have hfz69_6 := blk_frozen BK451.out 6
         obtain ⟨Ao70, co70, eo70⟩ := Kd.S_slice HO_452001.out
         subst eo70
         go_wp2_with (first | ((with_reducible refine gate_callee (f := 12) rfl ?_); refine goesL_ (some 68) rfl rfl Tryd.func12 (by kernel_rfl) rfl #[.agg #[.slice Ao12 y445.length co12, .slice Ao70 x452001_2.length co70, .slice Ao11 y448.length co11, .slice none 0 0, .slice none 0 0, .slice A0 l0.length c0, .slice A1 l1.length c1]] rfl BM ?_; (refine (corpus_Validate.calls k2 _ _ y445 _ _ x452001_2 _ _ y448 _ _ ([] : List (S77)) _ _ ([] : List (S82)) _ _ l0 _ _ l1 t460 t461 t462 _ ?side1 ?side2 ?side3 ?side4 ?side5 ?side6 ?side7 ?side8 ?side9 ?side10 ?side11 ?side12 ?side13 ?side14 A43.out).mono ?_); (case side1 => repeat (first | exact (Kd.R_reads' HO_452000.out).2.2 | (with_reducible refine Kd.C_alloc ?_ _) | (with_reducible refine Kd.C_drewN ?_ _) | (with_reducible refine Kd.C_drew ?_))); (case side2 => exact (Kd.R_reads' HO_452000.out).2.1); (case side3 => repeat (first | exact (Kd.S_reads' HO_452001.out).2.2 | (with_reducible refine Kd.C_alloc ?_ _) | (with_reducible refine Kd.C_drewN ?_ _) | (with_reducible refine Kd.C_drew ?_))); (case side4 => exact (Kd.S_reads' HO_452001.out).2.1); (case side5 => repeat (first | exact (Kd.S_reads' HO_452002.out).2.2 | (with_reducible refine Kd.C_alloc ?_ _) | (with_reducible refine Kd.C_drewN ?_ _) | (with_reducible refine Kd.C_drew ?_))); (case side6 => exact (Kd.S_reads' HO_452002.out).2.1); (case side7 => exact Kd.C_nil _ _); (case side8 => exact Nat.le_refl _); (case side9 => exact Kd.C_nil _ _); (case side10 => exact Nat.le_refl _); (case side11 => exact BC HR0.out); (case side12 => exact HC0.out); (case side13 => exact BC HR1.out); (case side14 => exact HC1.out); rintro e w71 ⟨rfl, hb⟩; refine ⟨_, rfl, ?_⟩; have n0_ := Aside0.mk (Kd.R_below (BR HO_452000.out) hb); have n1_ := Aside0.mk (Kd.S_below (by (with_reducible repeat (first | apply Kd.S_alloc | apply Kd.S_drewN | apply Kd.S_drew)); exact HO_452001.out) hb); have n2_ := Aside0.mk (Kd.S_below (by (with_reducible repeat (first | apply Kd.S_alloc | apply Kd.S_drewN | apply Kd.S_drew)); exact HO_452002.out) hb); have n3_ := Aside0.mk (blk_below (g := gb451) (o := .cells #[.slice Ao12 y445.length co12, .slice Ao70 x452001_2.length co70, .slice Ao11 y448.length co11, .slice none 0 0, .slice none 0 0, .slice A0 l0.length c0, .slice A1 l1.length c1] 46 (0, 0)) (by (with_reducible repeat (first | refine blk_drewN ?_ _ | refine blk_drew ?_ | refine blk_alloc ?_ _)); exact BK451.out) hb); have n4_ := Aside0.mk (below_step (BS GE451.out) hb); clear HO_452000; clear HO_452001; clear HO_452002; clear BK451; clear HB; have HO_452000 := n0_; have HO_452001 := n1_; have HO_452002 := n2_; have BK451 := n3_; have HB := n4_; clear n0_ n1_ n2_ n3_ n4_; (try clear hb); (try clear hb2); (try clear hk); (try clear hi)) | ((with_reducible refine gate_callee (f := 6) rfl ?_); refine goesL_ (some 75) rfl rfl Tryd.func6 (by kernel_rfl) rfl #[.slice A0 l0.length c0, .slice A1 l1.length c1] rfl BM ?_; (with_reducible refine (depend_Format.calls k2 _ _ l0 _ _ l1 t463 t464 _ ?sideT ?side1 ?side2 ?side3 ?side4 A44.out).mono ?_); (case sideT => exact (tab_below htab (BB))); (case side1 => exact BC HR0.out); (case side2 => exact HC0.out); (case side3 => exact BC HR1.out); (case side4 => exact HC1.out); rintro e w72 ⟨rfl, hb⟩; refine ⟨_, rfl, ?_⟩; have n0_ := Aside0.mk (Kd.R_below (BR HO_452000.out) hb); have n1_ := Aside0.mk (Kd.S_below (by (with_reducible repeat (first | apply Kd.S_alloc | apply Kd.S_drewN | apply Kd.S_drew)); exact HO_452001.out) hb); have n2_ := Aside0.mk (Kd.S_below (by (with_reducible repeat (first | apply Kd.S_alloc | apply Kd.S_drewN | apply Kd.S_drew)); exact HO_452002.out) hb); have n3_ := Aside0.mk (blk_below (g := gb451) (o := .cells #[.slice Ao12 y445.length co12, .slice Ao70 x452001_2.length co70, .slice Ao11 y448.length co11, .slice none 0 0, .slice none 0 0, .slice A0 l0.length c0, .slice A1 l1.length c1] 46 (0, 0)) (by (with_reducible repeat (first | refine blk_drewN ?_ _ | refine blk_drew ?_ | refine blk_alloc ?_ _)); exact BK451.out) hb); have n4_ := Aside0.mk (below_step (BS GE451.out) hb); clear HO_452000; clear HO_452001; clear HO_452002; clear BK451; clear HB; have HO_452000 := n0_; have HO_452001 := n1_; have HO_452002 := n2_; have BK451 := n3_; have HB := n4_; clear n0_ n1_ n2_ n3_ n4_; (try clear hb); (try clear hb2); (try clear hk); (try clear hi)))
         go_ret
         exact ⟨BX, BS GE451.out⟩

end Go.Proofs.YtkanmafjjejpmaaDoor.P
