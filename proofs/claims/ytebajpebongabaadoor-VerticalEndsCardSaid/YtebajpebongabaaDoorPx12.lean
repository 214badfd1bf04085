-- Written by a program of this session (wip/doprint.sh) out of the translation; Lean checks it.
import Derived.Test.YtebajpebongabaaDoorPx0
import Derived.Test.YtebajpebongabaaDoorPx4
import Derived.Test.YtebajpebongabaaDoorPx10
import Derived.Test.YtebajpebongabaaDoorPx11
namespace Go.Proofs.YtebajpebongabaaDoor.P
open Go.Proofs.YtebajpebongabaaDoor.X
open Go.RowKit Go.Proofs.YtebajpebongabaaDoorW.PrintWords Go.Proofs.YtebajpebongabaaDoorW.PrintLast Go.Proofs.YtebajpebongabaaDoorW.PrintMore
attribute [local go_sem] max2_int min2_int max_two min_two max_three min_three max_four min_four   -- for this text's walks alone
set_option linter.unusedVariables false
set_option linter.unusedSimpArgs false

/-! ### corpus_texts: function 16 -/
mutual
def corpus_texts.l0 : Nat → Int → List (S61) → Int → Int → List (S55) → List (List ByteArray) → List (S61) → List (S58) → List (S64) → List Int → List ByteArray → Option (Int × Int)
  | 0, _, _, _, _, _, _, _, _, _, _, _ => none
  | k + 1, x4, x24, x25, x26, x141000, x141001, x141002, x141003, x141004, x141005, x141006 => if x26 < x25 then (if 0 ≤ x26 then (if x26 < (x24.length : Int) then ((markup_ValidName.f k ((rd_T61 x24 x26).f0)).bind fun t143 => (if t143 = true then ((corpus_FindText.f k x141000 x141001 x141002 x141003 x141004 x141005 x141006 ((rd_T61 x24 x26).f0)).bind fun t144 => (if t144 < x26 then (some (x26, 5)) else (if ((rd_T61 x24 x26).f1) = x4 then (if ((rd_T61 x24 x26).f2) ≤ ((rd_T61 x24 x26).f1) then (corpus_texts.j1 k x26 x24 x25 x26 (decide (((rd_T61 x24 x26).f2) ≤ ((rd_T61 x24 x26).f1))) x141000 x141001 x141002 x141003 x141004 x141005 x141006 ((rd_T61 x24 x26).f0) ((rd_T61 x24 x26).f1) ((rd_T61 x24 x26).f2) ((rd_T61 x24 x26).f3)) else (corpus_texts.j1 k x26 x24 x25 x26 (decide (((rd_T61 x24 x26).f2) > (x141001.length : Int))) x141000 x141001 x141002 x141003 x141004 x141005 x141006 ((rd_T61 x24 x26).f0) ((rd_T61 x24 x26).f1) ((rd_T61 x24 x26).f2) ((rd_T61 x24 x26).f3))) else (corpus_texts.j1 k x26 x24 x25 x26 (((rd_T61 x24 x26).f1) != x4) x141000 x141001 x141002 x141003 x141004 x141005 x141006 ((rd_T61 x24 x26).f0) ((rd_T61 x24 x26).f1) ((rd_T61 x24 x26).f2) ((rd_T61 x24 x26).f3))))) else (some (x26, 4)))) else (none)) else (none)) else (some (0, 0))
def corpus_texts.j1 : Nat → Int → List (S61) → Int → Int → Bool → List (S55) → List (List ByteArray) → List (S61) → List (S58) → List (S64) → List Int → List ByteArray → ByteArray → Int → Int → List (S88) → Option (Int × Int)
  | 0, _, _, _, _, _, _, _, _, _, _, _, _, _, _, _, _ => none
  | k + 1, x5, x24, x25, x26, x45, x141000, x141001, x141002, x141003, x141004, x141005, x141006, x143000, x143001, x143002, x143003 => if x45 = true then (some (x5, 8)) else (if x5 = (wrap64 ((x141002.length : Int) - 1)) then (corpus_texts.j2 k x5 x24 x25 x26 (x143002 != (x141001.length : Int)) x141000 x141001 x141002 x141003 x141004 x141005 x141006 x143000 x143001 x143002 x143003) else (corpus_texts.j2 k x5 x24 x25 x26 false x141000 x141001 x141002 x141003 x141004 x141005 x141006 x143000 x143001 x143002 x143003))
def corpus_texts.j2 : Nat → Int → List (S61) → Int → Int → Bool → List (S55) → List (List ByteArray) → List (S61) → List (S58) → List (S64) → List Int → List ByteArray → ByteArray → Int → Int → List (S88) → Option (Int × Int)
  | 0, _, _, _, _, _, _, _, _, _, _, _, _, _, _, _, _ => none
  | k + 1, x5, x24, x25, x26, x62, x141000, x141001, x141002, x141003, x141004, x141005, x141006, x143000, x143001, x143002, x143003 => if x62 = true then (some (x5, 8)) else ((corpus_errorOfPairs.f k x143003).bind fun t145 => (if t145 = 0 then (corpus_texts.l0 k x143002 x24 x25 (wrap64 (x26 + 1)) x141000 x141001 x141002 x141003 x141004 x141005 x141006) else (some (x5, t145))))
end
def corpus_texts.f (k : Nat) (l0_0 : List (S55)) (l0_1 : List (List ByteArray)) (l0_2 : List (S61)) (l0_3 : List (S58)) (l0_4 : List (S64)) (l0_5 : List Int) (l0_6 : List ByteArray) : Option (Int × Int) := if (l0_2.length : Int) > 64 then (some (0, 2)) else (if (((l0_2.length : Int) == 0) != ((l0_1.length : Int) == 0)) = true then (some (0, 15)) else (corpus_texts.l0 k 0 l0_2 (l0_2.length : Int) 0 l0_0 l0_1 l0_2 l0_3 l0_4 l0_5 l0_6))
theorem corpus_texts.mono_l : ∀ k, (∀ y0 y1 y2 y3 y4 y5 y6 y7 y8 y9 y10, LeO (corpus_texts.l0 k y0 y1 y2 y3 y4 y5 y6 y7 y8 y9 y10) (corpus_texts.l0 (k + 1) y0 y1 y2 y3 y4 y5 y6 y7 y8 y9 y10)) ∧ (∀ y0 y1 y2 y3 y4 y5 y6 y7 y8 y9 y10 y11 y12 y13 y14 y15, LeO (corpus_texts.j1 k y0 y1 y2 y3 y4 y5 y6 y7 y8 y9 y10 y11 y12 y13 y14 y15) (corpus_texts.j1 (k + 1) y0 y1 y2 y3 y4 y5 y6 y7 y8 y9 y10 y11 y12 y13 y14 y15)) ∧ (∀ y0 y1 y2 y3 y4 y5 y6 y7 y8 y9 y10 y11 y12 y13 y14 y15, LeO (corpus_texts.j2 k y0 y1 y2 y3 y4 y5 y6 y7 y8 y9 y10 y11 y12 y13 y14 y15) (corpus_texts.j2 (k + 1) y0 y1 y2 y3 y4 y5 y6 y7 y8 y9 y10 y11 y12 y13 y14 y15))
  | 0 => ⟨fun _ _ _ _ _ _ _ _ _ _ _ r h => by simp [corpus_texts.l0] at h, fun _ _ _ _ _ _ _ _ _ _ _ _ _ _ _ _ r h => by simp [corpus_texts.j1] at h, fun _ _ _ _ _ _ _ _ _ _ _ _ _ _ _ _ r h => by simp [corpus_texts.j2] at h⟩
  | k + 1 => by
    obtain ⟨ih0, ih1, ih2⟩ := corpus_texts.mono_l k
    refine ⟨?_, ?_, ?_⟩
    · intro y0 y1 y2 y3 y4 y5 y6 y7 y8 y9 y10
      unfold corpus_texts.l0
      repeat' first
      | (with_reducible exact ih0 _ _ _ _ _ _ _ _ _ _ _)
      | (with_reducible exact ih1 _ _ _ _ _ _ _ _ _ _ _ _ _ _ _ _)
      | (with_reducible exact ih2 _ _ _ _ _ _ _ _ _ _ _ _ _ _ _ _)
      | (with_reducible exact corpus_FindText.mono _ _ _ _ _ _ _ _ _)
      | (with_reducible exact corpus_errorOfPairs.mono _ _)
      | (with_reducible exact markup_ValidName.mono _ _)
      | (with_reducible exact LeO.refl _)
      | (with_reducible exact LeO.none _)
      | (with_reducible refine LeO.ite ?_ ?_)
      | (with_reducible refine LeO.bind ?_ (fun _ => ?_))
      | exact ih0 _ _ _ _ _ _ _ _ _ _ _
      | exact ih1 _ _ _ _ _ _ _ _ _ _ _ _ _ _ _ _
      | exact ih2 _ _ _ _ _ _ _ _ _ _ _ _ _ _ _ _
      | exact corpus_FindText.mono _ _ _ _ _ _ _ _ _
      | exact corpus_errorOfPairs.mono _ _
      | exact markup_ValidName.mono _ _
      | exact LeO.none _
      | refine LeO.ite ?_ ?_
      | refine LeO.bind ?_ (fun _ => ?_)
    · intro y0 y1 y2 y3 y4 y5 y6 y7 y8 y9 y10 y11 y12 y13 y14 y15
      unfold corpus_texts.j1
      repeat' first
      | (with_reducible exact ih0 _ _ _ _ _ _ _ _ _ _ _)
      | (with_reducible exact ih1 _ _ _ _ _ _ _ _ _ _ _ _ _ _ _ _)
      | (with_reducible exact ih2 _ _ _ _ _ _ _ _ _ _ _ _ _ _ _ _)
      | (with_reducible exact corpus_FindText.mono _ _ _ _ _ _ _ _ _)
      | (with_reducible exact corpus_errorOfPairs.mono _ _)
      | (with_reducible exact markup_ValidName.mono _ _)
      | (with_reducible exact LeO.refl _)
      | (with_reducible exact LeO.none _)
      | (with_reducible refine LeO.ite ?_ ?_)
      | (with_reducible refine LeO.bind ?_ (fun _ => ?_))
      | exact ih0 _ _ _ _ _ _ _ _ _ _ _
      | exact ih1 _ _ _ _ _ _ _ _ _ _ _ _ _ _ _ _
      | exact ih2 _ _ _ _ _ _ _ _ _ _ _ _ _ _ _ _
      | exact corpus_FindText.mono _ _ _ _ _ _ _ _ _
      | exact corpus_errorOfPairs.mono _ _
      | exact markup_ValidName.mono _ _
      | exact LeO.none _
      | refine LeO.ite ?_ ?_
      | refine LeO.bind ?_ (fun _ => ?_)
    · intro y0 y1 y2 y3 y4 y5 y6 y7 y8 y9 y10 y11 y12 y13 y14 y15
      unfold corpus_texts.j2
      repeat' first
      | (with_reducible exact ih0 _ _ _ _ _ _ _ _ _ _ _)
      | (with_reducible exact ih1 _ _ _ _ _ _ _ _ _ _ _ _ _ _ _ _)
      | (with_reducible exact ih2 _ _ _ _ _ _ _ _ _ _ _ _ _ _ _ _)
      | (with_reducible exact corpus_FindText.mono _ _ _ _ _ _ _ _ _)
      | (with_reducible exact corpus_errorOfPairs.mono _ _)
      | (with_reducible exact markup_ValidName.mono _ _)
      | (with_reducible exact LeO.refl _)
      | (with_reducible exact LeO.none _)
      | (with_reducible refine LeO.ite ?_ ?_)
      | (with_reducible refine LeO.bind ?_ (fun _ => ?_))
      | exact ih0 _ _ _ _ _ _ _ _ _ _ _
      | exact ih1 _ _ _ _ _ _ _ _ _ _ _ _ _ _ _ _
      | exact ih2 _ _ _ _ _ _ _ _ _ _ _ _ _ _ _ _
      | exact corpus_FindText.mono _ _ _ _ _ _ _ _ _
      | exact corpus_errorOfPairs.mono _ _
      | exact markup_ValidName.mono _ _
      | exact LeO.none _
      | refine LeO.ite ?_ ?_
      | refine LeO.bind ?_ (fun _ => ?_)
theorem corpus_texts.mono : ∀ a0 a1 a2 a3 a4 a5 a6 k, LeO (corpus_texts.f k a0 a1 a2 a3 a4 a5 a6) (corpus_texts.f (k + 1) a0 a1 a2 a3 a4 a5 a6) := by
  intro a0 a1 a2 a3 a4 a5 a6 k
  obtain ⟨ih0, ih1, ih2⟩ := corpus_texts.mono_l k
  unfold corpus_texts.f
  repeat' first
      | (with_reducible exact ih0 _ _ _ _ _ _ _ _ _ _ _)
      | (with_reducible exact ih1 _ _ _ _ _ _ _ _ _ _ _ _ _ _ _ _)
      | (with_reducible exact ih2 _ _ _ _ _ _ _ _ _ _ _ _ _ _ _ _)
      | (with_reducible exact corpus_FindText.mono _ _ _ _ _ _ _ _ _)
      | (with_reducible exact corpus_errorOfPairs.mono _ _)
      | (with_reducible exact markup_ValidName.mono _ _)
      | (with_reducible exact LeO.refl _)
      | (with_reducible exact LeO.none _)
      | (with_reducible refine LeO.ite ?_ ?_)
      | (with_reducible refine LeO.bind ?_ (fun _ => ?_))
      | exact ih0 _ _ _ _ _ _ _ _ _ _ _
      | exact ih1 _ _ _ _ _ _ _ _ _ _ _ _ _ _ _ _
      | exact ih2 _ _ _ _ _ _ _ _ _ _ _ _ _ _ _ _
      | exact corpus_FindText.mono _ _ _ _ _ _ _ _ _
      | exact corpus_errorOfPairs.mono _ _
      | exact markup_ValidName.mono _ _
      | exact LeO.none _
      | refine LeO.ite ?_ ?_
      | refine LeO.bind ?_ (fun _ => ?_)
set_option maxHeartbeats 8000000 in
set_option maxRecDepth 100000 in
theorem corpus_texts.calls (k : Nat) (A0_0 : Option Addr) (c0_0 : Nat) (l0_0 : List (S55)) (A0_1 : Option Addr) (c0_1 : Nat) (l0_1 : List (List ByteArray)) (A0_2 : Option Addr) (c0_2 : Nat) (l0_2 : List (S61)) (A0_3 : Option Addr) (c0_3 : Nat) (l0_3 : List (S58)) (A0_4 : Option Addr) (c0_4 : Nat) (l0_4 : List (S64)) (A0_5 : Option Addr) (c0_5 : Nat) (l0_5 : List Int) (A0_6 : Option Addr) (c0_6 : Nat) (l0_6 : List ByteArray) (r1 : Int) (r2 : Int) (w : World) (hr0_0 : Kd.C k55 w A0_0 l0_0.length l0_0) (hc0_0 : l0_0.length ≤ c0_0) (hr0_1 : Kd.C (Kd.slice 9 Kd.string) w A0_1 l0_1.length l0_1) (hc0_1 : l0_1.length ≤ c0_1) (hr0_2 : Kd.C k61 w A0_2 l0_2.length l0_2) (hc0_2 : l0_2.length ≤ c0_2) (hr0_3 : Kd.C k58 w A0_3 l0_3.length l0_3) (hc0_3 : l0_3.length ≤ c0_3) (hr0_4 : Kd.C k64 w A0_4 l0_4.length l0_4) (hc0_4 : l0_4.length ≤ c0_4) (hr0_5 : Kd.C (Kd.int .i64) w A0_5 l0_5.length l0_5) (hc0_5 : l0_5.length ≤ c0_5) (hr0_6 : Kd.C Kd.string w A0_6 l0_6.length l0_6) (hc0_6 : l0_6.length ≤ c0_6) (h : corpus_texts.f k l0_0 l0_1 l0_2 l0_3 l0_4 l0_5 l0_6 = some (r1, r2)) :
    Calls Tryd.prog 16 #[.agg #[.slice A0_0 l0_0.length c0_0, .slice A0_1 l0_1.length c0_1, .slice A0_2 l0_2.length c0_2, .slice A0_3 l0_3.length c0_3, .slice A0_4 l0_4.length c0_4, .slice A0_5 l0_5.length c0_5, .slice A0_6 l0_6.length c0_6]] w fun e w' => e = .returned (.tuple #[.int .i64 r1, .int .i64 r2]) ∧ Below w.heap.size w w' := by
  have hu30 := Tryd.underlying30
  have hu61 := Tryd.underlying61
  have HR0_0 := Aside0.mk hr0_0
  have HC0_0 := Aside0.mk hc0_0
  clear hr0_0 hc0_0
  have HR0_1 := Aside0.mk hr0_1
  have HC0_1 := Aside0.mk hc0_1
  clear hr0_1 hc0_1
  have HR0_2 := Aside0.mk hr0_2
  have HC0_2 := Aside0.mk hc0_2
  clear hr0_2 hc0_2
  have HR0_3 := Aside0.mk hr0_3
  have HC0_3 := Aside0.mk hc0_3
  clear hr0_3 hc0_3
  have HR0_4 := Aside0.mk hr0_4
  have HC0_4 := Aside0.mk hc0_4
  clear hr0_4 hc0_4
  have HR0_5 := Aside0.mk hr0_5
  have HC0_5 := Aside0.mk hc0_5
  clear hr0_5 hc0_5
  have HR0_6 := Aside0.mk hr0_6
  have HC0_6 := Aside0.mk hc0_6
  clear hr0_6 hc0_6
  have HB := Aside0.mk (Below.refl w.heap.size w)
  have H : (if (l0_2.length : Int) > 64 then (some (0, 2)) else (if (((l0_2.length : Int) == 0) != ((l0_1.length : Int) == 0)) = true then (some (0, 15)) else (corpus_texts.l0 k 0 l0_2 (l0_2.length : Int) 0 l0_0 l0_1 l0_2 l0_3 l0_4 l0_5 l0_6))) = some (r1, r2) := h
  clear h
  by_cases c2 : (l0_2.length : Int) > 64
  · rw [if_pos c2] at H
    have c2b0 : decide (64 < (l0_2.length : Int)) = true := decide_eq_true c2
    have c2b1 : decide (64 < l0_2.length) = true := decide_eq_true (by omega)
    clear c2
    simp only [Option.some.injEq, Prod.mk.injEq] at H
    obtain ⟨rfl, rfl⟩ := H
    go_enter Tryd.func16, Tryd.ntmps16
    go_wp2_with (first | ((with_reducible refine gate_dst (N := 1) rfl ?_); (try (refine gate_guard (by rfl) ?_; dsimp only)); refine box_event ?hg (N := 1) ?hd (cs := #[.slice A0_0 l0_0.length c0_0, .slice A0_1 l0_1.length c0_1, .slice A0_2 l0_2.length c0_2, .slice A0_3 l0_3.length c0_3, .slice A0_4 l0_4.length c0_4, .slice A0_5 l0_5.length c0_5, .slice A0_6 l0_6.length c0_6]) (t := 30) ?hr ?_; (case hd => rfl); (case hg => rfl); (case hr => first | (go_simp; done) | (go_simp; rfl)); intro gb140 hg w3 hbox hb; have n0_ := Aside0.mk (below_step (by repeat (first | (with_reducible first | exact HB.out | apply below_alloc | apply pw_below_drewN | apply below_drew1) | exact HB.out)) hb); have n1_ := Aside0.mk (hbox); have n2_ := Aside0.mk ((by rw [hg]; exact (below_size (by repeat (first | (with_reducible first | exact HB.out | apply below_alloc | apply pw_below_drewN | apply below_drew1) | exact HB.out))) : w.heap.size ≤ gb140)); have n3_ := Aside0.mk ((by rw [hg]; exact (below_size (by repeat (first | (with_reducible first | exact HB.out | apply below_alloc | apply pw_below_drewN | apply below_drew1) | exact HB.out))) : w.heap.size ≤ gb140)); clear HB; have HB := n0_; have BK140 := n1_; have GW140 := n2_; have GE140 := n3_; clear n0_ n1_ n2_ n3_; clear hb hbox hg; have hcz4_0 : w3.cell? ⟨gb140, 0, none⟩ = some (.slice A0_0 l0_0.length c0_0) := (blk_cell BK140.out 0).trans rfl; have hcz4_1 : w3.cell? ⟨gb140, 1, none⟩ = some (.slice A0_1 l0_1.length c0_1) := (blk_cell BK140.out 1).trans rfl; have hcz4_2 : w3.cell? ⟨gb140, 2, none⟩ = some (.slice A0_2 l0_2.length c0_2) := (blk_cell BK140.out 2).trans rfl; have hcz4_3 : w3.cell? ⟨gb140, 3, none⟩ = some (.slice A0_3 l0_3.length c0_3) := (blk_cell BK140.out 3).trans rfl; have hcz4_4 : w3.cell? ⟨gb140, 4, none⟩ = some (.slice A0_4 l0_4.length c0_4) := (blk_cell BK140.out 4).trans rfl; have hcz4_5 : w3.cell? ⟨gb140, 5, none⟩ = some (.slice A0_5 l0_5.length c0_5) := (blk_cell BK140.out 5).trans rfl; have hcz4_6 : w3.cell? ⟨gb140, 6, none⟩ = some (.slice A0_6 l0_6.length c0_6) := (blk_cell BK140.out 6).trans rfl; have hfz4_0 := blk_frozen BK140.out 0; have hfz4_1 := blk_frozen BK140.out 1; have hfz4_2 := blk_frozen BK140.out 2; have hfz4_3 := blk_frozen BK140.out 3; have hfz4_4 := blk_frozen BK140.out 4; have hfz4_5 := blk_frozen BK140.out 5; have hfz4_6 := blk_frozen BK140.out 6))
    go_ret2
    exact ⟨by first | rfl | (simp [errW_none, errW_some] <;> rfl) | (simp [*, errW_none, errW_some] <;> rfl), by repeat (first | (with_reducible first | exact HB.out | apply below_alloc | apply pw_below_drewN | apply below_drew1 | refine below_set ?_ GE140.out) | exact HB.out)⟩
  · rw [if_neg c2] at H
    have c2b0 : decide (64 < (l0_2.length : Int)) = false := decide_eq_false c2
    have c2b1 : decide (64 < l0_2.length) = false := decide_eq_false (by omega)
    clear c2
    by_cases c5 : (((l0_2.length : Int) == 0) != ((l0_1.length : Int) == 0)) = true
    · rw [if_pos c5] at H
      have c5b0 : (((l0_2.length : Int) == 0) != ((l0_1.length : Int) == 0)) = true := c5
      (try (have c5b1 : decide (((l0_2.length : Int) == 0) = ((l0_1.length : Int) == 0)) = false := by simpa using c5))
      (try (have c5b2 : (((l0_2.length : Int) == 0) == ((l0_1.length : Int) == 0)) = false := by simpa using c5))
      (try (have c5b3 : ¬ (((l0_2.length : Int) == 0) = ((l0_1.length : Int) == 0)) := by simpa using c5))
      clear c5
      simp only [Option.some.injEq, Prod.mk.injEq] at H
      obtain ⟨rfl, rfl⟩ := H
      go_enter Tryd.func16, Tryd.ntmps16
      go_wp2_with (first | ((with_reducible refine gate_dst (N := 1) rfl ?_); (try (refine gate_guard (by rfl) ?_; dsimp only)); refine box_event ?hg (N := 1) ?hd (cs := #[.slice A0_0 l0_0.length c0_0, .slice A0_1 l0_1.length c0_1, .slice A0_2 l0_2.length c0_2, .slice A0_3 l0_3.length c0_3, .slice A0_4 l0_4.length c0_4, .slice A0_5 l0_5.length c0_5, .slice A0_6 l0_6.length c0_6]) (t := 30) ?hr ?_; (case hd => rfl); (case hg => rfl); (case hr => first | (go_simp; done) | (go_simp; rfl)); intro gb140 hg w6 hbox hb; have n0_ := Aside0.mk (below_step (by repeat (first | (with_reducible first | exact HB.out | apply below_alloc | apply pw_below_drewN | apply below_drew1) | exact HB.out)) hb); have n1_ := Aside0.mk (hbox); have n2_ := Aside0.mk ((by rw [hg]; exact (below_size (by repeat (first | (with_reducible first | exact HB.out | apply below_alloc | apply pw_below_drewN | apply below_drew1) | exact HB.out))) : w.heap.size ≤ gb140)); have n3_ := Aside0.mk ((by rw [hg]; exact (below_size (by repeat (first | (with_reducible first | exact HB.out | apply below_alloc | apply pw_below_drewN | apply below_drew1) | exact HB.out))) : w.heap.size ≤ gb140)); clear HB; have HB := n0_; have BK140 := n1_; have GW140 := n2_; have GE140 := n3_; clear n0_ n1_ n2_ n3_; clear hb hbox hg; have hcz7_0 : w6.cell? ⟨gb140, 0, none⟩ = some (.slice A0_0 l0_0.length c0_0) := (blk_cell BK140.out 0).trans rfl; have hcz7_1 : w6.cell? ⟨gb140, 1, none⟩ = some (.slice A0_1 l0_1.length c0_1) := (blk_cell BK140.out 1).trans rfl; have hcz7_2 : w6.cell? ⟨gb140, 2, none⟩ = some (.slice A0_2 l0_2.length c0_2) := (blk_cell BK140.out 2).trans rfl; have hcz7_3 : w6.cell? ⟨gb140, 3, none⟩ = some (.slice A0_3 l0_3.length c0_3) := (blk_cell BK140.out 3).trans rfl; have hcz7_4 : w6.cell? ⟨gb140, 4, none⟩ = some (.slice A0_4 l0_4.length c0_4) := (blk_cell BK140.out 4).trans rfl; have hcz7_5 : w6.cell? ⟨gb140, 5, none⟩ = some (.slice A0_5 l0_5.length c0_5) := (blk_cell BK140.out 5).trans rfl; have hcz7_6 : w6.cell? ⟨gb140, 6, none⟩ = some (.slice A0_6 l0_6.length c0_6) := (blk_cell BK140.out 6).trans rfl; have hfz7_0 := blk_frozen BK140.out 0; have hfz7_1 := blk_frozen BK140.out 1; have hfz7_2 := blk_frozen BK140.out 2; have hfz7_3 := blk_frozen BK140.out 3; have hfz7_4 := blk_frozen BK140.out 4; have hfz7_5 := blk_frozen BK140.out 5; have hfz7_6 := blk_frozen BK140.out 6))
      go_ret2
      exact ⟨by first | rfl | (simp [errW_none, errW_some] <;> rfl) | (simp [*, errW_none, errW_some] <;> rfl), by repeat (first | (with_reducible first | exact HB.out | apply below_alloc | apply pw_below_drewN | apply below_drew1 | refine below_set ?_ GE140.out) | exact HB.out)⟩
    · rw [if_neg c5] at H
      have c5b0 : (((l0_2.length : Int) == 0) != ((l0_1.length : Int) == 0)) = false := by simpa using c5
      (try (have c5b1 : decide (((l0_2.length : Int) == 0) = ((l0_1.length : Int) == 0)) = true := by simpa using c5))
      (try (have c5b2 : (((l0_2.length : Int) == 0) == ((l0_1.length : Int) == 0)) = true := by simpa using c5))
      clear c5
      have H' := Aside0.mk H
      clear H
      go_enter Tryd.func16, Tryd.ntmps16
      go_wp2_with (first | ((with_reducible refine gate_dst (N := 1) rfl ?_); (try (refine gate_guard (by rfl) ?_; dsimp only)); refine box_event ?hg (N := 1) ?hd (cs := #[.slice A0_0 l0_0.length c0_0, .slice A0_1 l0_1.length c0_1, .slice A0_2 l0_2.length c0_2, .slice A0_3 l0_3.length c0_3, .slice A0_4 l0_4.length c0_4, .slice A0_5 l0_5.length c0_5, .slice A0_6 l0_6.length c0_6]) (t := 30) ?hr ?_; (case hd => rfl); (case hg => rfl); (case hr => first | (go_simp; done) | (go_simp; rfl)); intro gb140 hg w8 hbox hb; have n0_ := Aside0.mk (below_step (by repeat (first | (with_reducible first | exact HB.out | apply below_alloc | apply pw_below_drewN | apply below_drew1) | exact HB.out)) hb); have n1_ := Aside0.mk (hbox); have n2_ := Aside0.mk ((by rw [hg]; exact (below_size (by repeat (first | (with_reducible first | exact HB.out | apply below_alloc | apply pw_below_drewN | apply below_drew1) | exact HB.out))) : w.heap.size ≤ gb140)); have n3_ := Aside0.mk ((by rw [hg]; exact (below_size (by repeat (first | (with_reducible first | exact HB.out | apply below_alloc | apply pw_below_drewN | apply below_drew1) | exact HB.out))) : w.heap.size ≤ gb140)); clear HB; have HB := n0_; have BK140 := n1_; have GW140 := n2_; have GE140 := n3_; clear n0_ n1_ n2_ n3_; clear hb hbox hg; have hcz9_0 : w8.cell? ⟨gb140, 0, none⟩ = some (.slice A0_0 l0_0.length c0_0) := (blk_cell BK140.out 0).trans rfl; have hcz9_1 : w8.cell? ⟨gb140, 1, none⟩ = some (.slice A0_1 l0_1.length c0_1) := (blk_cell BK140.out 1).trans rfl; have hcz9_2 : w8.cell? ⟨gb140, 2, none⟩ = some (.slice A0_2 l0_2.length c0_2) := (blk_cell BK140.out 2).trans rfl; have hcz9_3 : w8.cell? ⟨gb140, 3, none⟩ = some (.slice A0_3 l0_3.length c0_3) := (blk_cell BK140.out 3).trans rfl; have hcz9_4 : w8.cell? ⟨gb140, 4, none⟩ = some (.slice A0_4 l0_4.length c0_4) := (blk_cell BK140.out 4).trans rfl; have hcz9_5 : w8.cell? ⟨gb140, 5, none⟩ = some (.slice A0_5 l0_5.length c0_5) := (blk_cell BK140.out 5).trans rfl; have hcz9_6 : w8.cell? ⟨gb140, 6, none⟩ = some (.slice A0_6 l0_6.length c0_6) := (blk_cell BK140.out 6).trans rfl; have hfz9_0 := blk_frozen BK140.out 0; have hfz9_1 := blk_frozen BK140.out 1; have hfz9_2 := blk_frozen BK140.out 2; have hfz9_3 := blk_frozen BK140.out 3; have hfz9_4 := blk_frozen BK140.out 4; have hfz9_5 := blk_frozen BK140.out 5; have hfz9_6 := blk_frozen BK140.out 6))
      go_loopg [4, 26] k (fun kq v4 v26 w' => ∃ (x4_1 : Int) (x26_1 : Int), v4 = .int .i64 x4_1 ∧ v26 = .int .i64 x26_1 ∧ Aside0 (corpus_texts.l0 kq x4_1 l0_2 (l0_2.length : Int) x26_1 l0_0 l0_1 l0_2 l0_3 l0_4 l0_5 l0_6 = some (r1, r2)) ∧ Aside0 (kq ≤ k) ∧ Aside0 (w'.heap[gb140]? = some (.cells #[(.slice A0_0 l0_0.length c0_0), (.slice A0_1 l0_1.length c0_1), (.slice A0_2 l0_2.length c0_2), (.slice A0_3 l0_3.length c0_3), (.slice A0_4 l0_4.length c0_4), (.slice A0_5 l0_5.length c0_5), (.slice A0_6 l0_6.length c0_6)] 30 (0, 0))) ∧ Aside0 (Below w.heap.size w w'))
      case atStart => exact ⟨(0), (0), (by first | rfl | (simp; done) | (simp [*]; done)), (by first | rfl | (simp; done) | (simp [*]; done)), H', ⟨Nat.le_refl _⟩, ⟨by (with_reducible repeat (first | refine blk_drewN ?_ _ | refine blk_drew ?_ | refine blk_alloc ?_ _)); exact BK140.out⟩, ⟨by repeat (first | (with_reducible first | exact HB.out | apply below_alloc | apply pw_below_drewN | apply below_drew1 | refine below_set ?_ GE140.out) | exact HB.out)⟩⟩
      case round =>
        clear H'
        try clear c1
        try clear c2
        try clear c2b0
        try clear c2b1
        try clear p2
        try clear c5
        try clear c5b0
        try clear c5b1
        try clear c5b2
        try clear hcz4_0
        try clear hcz4_1
        try clear hcz4_2
        try clear hcz4_3
        try clear hcz4_4
        try clear hcz4_5
        try clear hcz4_6
        try clear hcz7_0
        try clear hcz7_1
        try clear hcz7_2
        try clear hcz7_3
        try clear hcz7_4
        try clear hcz7_5
        try clear hcz7_6
        try clear hcz9_0
        try clear hcz9_1
        try clear hcz9_2
        try clear hcz9_3
        try clear hcz9_4
        try clear hcz9_5
        try clear hcz9_6
        try clear hfz4_0
        try clear hfz4_1
        try clear hfz4_2
        try clear hfz4_3
        try clear hfz4_4
        try clear hfz4_5
        try clear hfz4_6
        try clear hfz7_0
        try clear hfz7_1
        try clear hfz7_2
        try clear hfz7_3
        try clear hfz7_4
        try clear hfz7_5
        try clear hfz7_6
        try clear hfz9_0
        try clear hfz9_1
        try clear hfz9_2
        try clear hfz9_3
        try clear hfz9_4
        try clear hfz9_5
        try clear hfz9_6
        obtain ⟨x4_1, x26_1, rfl, rfl, HA, HK1, BK140, HB⟩ := hrel
        cases gk with
        | zero => exact absurd HA.out (by simp [corpus_texts.l0])
        | succ k1 =>
          have H := HA.out
          clear HA
          simp only [corpus_texts.l0] at H
          by_cases c10 : x26_1 < (l0_2.length : Int)
          · rw [if_pos c10] at H
            have c10b0 : decide (x26_1 < (l0_2.length : Int)) = true := decide_eq_true c10
            clear c10
            by_cases c11 : 0 ≤ x26_1
            · rw [if_pos c11] at H
              have c11b0 : decide (0 ≤ x26_1) = true := decide_eq_true c11
              clear c11
              by_cases c12 : x26_1 < (l0_2.length : Int)
              · rw [if_pos c12] at H
                have c12b0 : decide (x26_1 < (l0_2.length : Int)) = true := decide_eq_true c12
                clear c12
                replace H := Option.bind_eq_some_iff.mp H
                obtain ⟨t143, A130, H⟩ := H
                replace H : (if t143 = true then ((corpus_FindText.f k1 l0_0 l0_1 l0_2 l0_3 l0_4 l0_5 l0_6 ((rd_T61 l0_2 x26_1).f0)).bind fun t144 => (if t144 < x26_1 then (some (x26_1, 5)) else (if ((rd_T61 l0_2 x26_1).f1) = x4_1 then (if ((rd_T61 l0_2 x26_1).f2) ≤ ((rd_T61 l0_2 x26_1).f1) then (corpus_texts.j1 k1 x26_1 l0_2 (l0_2.length : Int) x26_1 (decide (((rd_T61 l0_2 x26_1).f2) ≤ ((rd_T61 l0_2 x26_1).f1))) l0_0 l0_1 l0_2 l0_3 l0_4 l0_5 l0_6 ((rd_T61 l0_2 x26_1).f0) ((rd_T61 l0_2 x26_1).f1) ((rd_T61 l0_2 x26_1).f2) ((rd_T61 l0_2 x26_1).f3)) else (corpus_texts.j1 k1 x26_1 l0_2 (l0_2.length : Int) x26_1 (decide (((rd_T61 l0_2 x26_1).f2) > (l0_1.length : Int))) l0_0 l0_1 l0_2 l0_3 l0_4 l0_5 l0_6 ((rd_T61 l0_2 x26_1).f0) ((rd_T61 l0_2 x26_1).f1) ((rd_T61 l0_2 x26_1).f2) ((rd_T61 l0_2 x26_1).f3))) else (corpus_texts.j1 k1 x26_1 l0_2 (l0_2.length : Int) x26_1 (((rd_T61 l0_2 x26_1).f1) != x4_1) l0_0 l0_1 l0_2 l0_3 l0_4 l0_5 l0_6 ((rd_T61 l0_2 x26_1).f0) ((rd_T61 l0_2 x26_1).f1) ((rd_T61 l0_2 x26_1).f2) ((rd_T61 l0_2 x26_1).f3))))) else (some (x26_1, 4))) = some (r1, r2) := H
                have A13 := Aside0.mk A130
                clear A130
                by_cases c14 : t143 = true
                · subst c14
                  have H1 : ((corpus_FindText.f k1 l0_0 l0_1 l0_2 l0_3 l0_4 l0_5 l0_6 ((rd_T61 l0_2 x26_1).f0)).bind fun t144 => (if t144 < x26_1 then (some (x26_1, 5)) else (if ((rd_T61 l0_2 x26_1).f1) = x4_1 then (if ((rd_T61 l0_2 x26_1).f2) ≤ ((rd_T61 l0_2 x26_1).f1) then (corpus_texts.j1 k1 x26_1 l0_2 (l0_2.length : Int) x26_1 (decide (((rd_T61 l0_2 x26_1).f2) ≤ ((rd_T61 l0_2 x26_1).f1))) l0_0 l0_1 l0_2 l0_3 l0_4 l0_5 l0_6 ((rd_T61 l0_2 x26_1).f0) ((rd_T61 l0_2 x26_1).f1) ((rd_T61 l0_2 x26_1).f2) ((rd_T61 l0_2 x26_1).f3)) else (corpus_texts.j1 k1 x26_1 l0_2 (l0_2.length : Int) x26_1 (decide (((rd_T61 l0_2 x26_1).f2) > (l0_1.length : Int))) l0_0 l0_1 l0_2 l0_3 l0_4 l0_5 l0_6 ((rd_T61 l0_2 x26_1).f0) ((rd_T61 l0_2 x26_1).f1) ((rd_T61 l0_2 x26_1).f2) ((rd_T61 l0_2 x26_1).f3))) else (corpus_texts.j1 k1 x26_1 l0_2 (l0_2.length : Int) x26_1 (((rd_T61 l0_2 x26_1).f1) != x4_1) l0_0 l0_1 l0_2 l0_3 l0_4 l0_5 l0_6 ((rd_T61 l0_2 x26_1).f0) ((rd_T61 l0_2 x26_1).f1) ((rd_T61 l0_2 x26_1).f2) ((rd_T61 l0_2 x26_1).f3))))) = some (r1, r2) := by rw [if_pos rfl] at H; exact H
                  clear H
                  have H := H1
                  clear H1
                  replace H := Option.bind_eq_some_iff.mp H
                  obtain ⟨t144, A150, H⟩ := H
                  replace H : (if t144 < x26_1 then (some (x26_1, 5)) else (if ((rd_T61 l0_2 x26_1).f1) = x4_1 then (if ((rd_T61 l0_2 x26_1).f2) ≤ ((rd_T61 l0_2 x26_1).f1) then (corpus_texts.j1 k1 x26_1 l0_2 (l0_2.length : Int) x26_1 (decide (((rd_T61 l0_2 x26_1).f2) ≤ ((rd_T61 l0_2 x26_1).f1))) l0_0 l0_1 l0_2 l0_3 l0_4 l0_5 l0_6 ((rd_T61 l0_2 x26_1).f0) ((rd_T61 l0_2 x26_1).f1) ((rd_T61 l0_2 x26_1).f2) ((rd_T61 l0_2 x26_1).f3)) else (corpus_texts.j1 k1 x26_1 l0_2 (l0_2.length : Int) x26_1 (decide (((rd_T61 l0_2 x26_1).f2) > (l0_1.length : Int))) l0_0 l0_1 l0_2 l0_3 l0_4 l0_5 l0_6 ((rd_T61 l0_2 x26_1).f0) ((rd_T61 l0_2 x26_1).f1) ((rd_T61 l0_2 x26_1).f2) ((rd_T61 l0_2 x26_1).f3))) else (corpus_texts.j1 k1 x26_1 l0_2 (l0_2.length : Int) x26_1 (((rd_T61 l0_2 x26_1).f1) != x4_1) l0_0 l0_1 l0_2 l0_3 l0_4 l0_5 l0_6 ((rd_T61 l0_2 x26_1).f0) ((rd_T61 l0_2 x26_1).f1) ((rd_T61 l0_2 x26_1).f2) ((rd_T61 l0_2 x26_1).f3)))) = some (r1, r2) := H
                  have A15 := Aside0.mk A150
                  clear A150
                  by_cases c16 : t144 < x26_1
                  · rw [if_pos c16] at H
                    have c16b0 : decide (t144 < x26_1) = true := decide_eq_true c16
                    clear c16
                    simp only [Option.some.injEq, Prod.mk.injEq] at H
                    obtain ⟨rfl, rfl⟩ := H
                    have p141 : 0 ≤ (x26_1 : Int) := of_decide_eq_true (by first | (with_reducible assumption) | assumption)
                    have q141 : x26_1 < (l0_2.length : Int) := of_decide_eq_true (by first | (with_reducible assumption) | assumption)
                    obtain ⟨ad141, A141_3, c141_3, e141, hx141_0, hx141_1, hx141_2, hx141_3, hl141_3, hi141_3⟩ := at_T61 HR0_2.out x26_1 p141 q141
                    cases e141
                    replace hx141_0 := (HB.out.cell (World.block_lt_of_cell? w _ hx141_0)).trans hx141_0
                    replace hx141_1 := (HB.out.cell (World.block_lt_of_cell? w _ hx141_1)).trans hx141_1
                    replace hx141_2 := (HB.out.cell (World.block_lt_of_cell? w _ hx141_2)).trans hx141_2
                    replace hx141_3 := (HB.out.cell (World.block_lt_of_cell? w _ hx141_3)).trans hx141_3
                    have HR141_3 := Aside0.mk hi141_3
                    have HC141_3 := Aside0.mk hl141_3
                    clear hi141_3 hl141_3
                    replace p141 := eq_true p141
                    replace q141 := eq_true q141
                    go_wp2_with (first | ((with_reducible refine gate_dst (N := 6) rfl ?_); (try (refine gate_guard (by rfl) ?_; dsimp only)); refine box_event ?hg (N := 6) ?hd (cs := #[.string (⟨#[]⟩ : ByteArray), .int .i64 0, .int .i64 0, .slice none 0 0]) (t := 61) ?hr ?_; (case hd => rfl); (case hg => rfl); (case hr => first | (go_simp; done) | (go_simp; rfl)); intro gb142 hg w17 hbox hb; have n0_ := Aside0.mk (blk_below (g := gb140) (o := .cells #[.slice A0_0 l0_0.length c0_0, .slice A0_1 l0_1.length c0_1, .slice (some ad141) l0_2.length c0_2, .slice A0_3 l0_3.length c0_3, .slice A0_4 l0_4.length c0_4, .slice A0_5 l0_5.length c0_5, .slice A0_6 l0_6.length c0_6] 30 (0, 0)) (by (with_reducible repeat (first | refine blk_drewN ?_ _ | refine blk_drew ?_ | refine blk_alloc ?_ _)); exact BK140.out) hb); have n1_ := Aside0.mk (below_step (by repeat (first | (with_reducible first | exact HB.out | apply below_alloc | apply pw_below_drewN | apply below_drew1 | refine below_set ?_ GE140.out) | exact HB.out)) hb); have n2_ := Aside0.mk (hbox); have n3_ := Aside0.mk ((by rw [hg]; exact (below_size (by repeat (first | (with_reducible first | exact HB.out | apply below_alloc | apply pw_below_drewN | apply below_drew1 | refine below_set ?_ GE140.out) | exact HB.out))) : w.heap.size ≤ gb142)); have n4_ := Aside0.mk ((by rw [hg]; exact (below_size (by repeat (first | (with_reducible first | exact HB.out | apply below_alloc | apply pw_below_drewN | apply below_drew1 | refine below_set ?_ GE140.out) | exact HB.out))) : w.heap.size ≤ gb142)); have n5_ := Aside0.mk ((by rw [hg]; exact Nat.ne_of_lt (blk_lt (g := gb140) (o := .cells #[.slice A0_0 l0_0.length c0_0, .slice A0_1 l0_1.length c0_1, .slice (some ad141) l0_2.length c0_2, .slice A0_3 l0_3.length c0_3, .slice A0_4 l0_4.length c0_4, .slice A0_5 l0_5.length c0_5, .slice A0_6 l0_6.length c0_6] 30 (0, 0)) (by (with_reducible repeat (first | refine blk_drewN ?_ _ | refine blk_drew ?_ | refine blk_alloc ?_ _)); exact BK140.out)) : gb140 ≠ gb142)); have n6_ := Aside0.mk ((by rw [hg]; exact Nat.ne_of_gt (blk_lt (g := gb140) (o := .cells #[.slice A0_0 l0_0.length c0_0, .slice A0_1 l0_1.length c0_1, .slice (some ad141) l0_2.length c0_2, .slice A0_3 l0_3.length c0_3, .slice A0_4 l0_4.length c0_4, .slice A0_5 l0_5.length c0_5, .slice A0_6 l0_6.length c0_6] 30 (0, 0)) (by (with_reducible repeat (first | refine blk_drewN ?_ _ | refine blk_drew ?_ | refine blk_alloc ?_ _)); exact BK140.out)) : gb142 ≠ gb140)); clear BK140; clear HB; have BK140 := n0_; have HB := n1_; have BK142 := n2_; have GW142 := n3_; have GE142 := n4_; have NB140_142 := n5_; have NB142_140 := n6_; clear n0_ n1_ n2_ n3_ n4_ n5_ n6_; clear hb hbox hg; have hnb18 := NB142_140.out; have hnc18 := NB140_142.out; have hcz19_0 : w17.cell? ⟨gb142, 0, none⟩ = some (.string (⟨#[]⟩ : ByteArray)) := (blk_cell BK142.out 0).trans rfl; have hcz19_1 : w17.cell? ⟨gb142, 1, none⟩ = some (.int .i64 0) := (blk_cell BK142.out 1).trans rfl; have hcz19_2 : w17.cell? ⟨gb142, 2, none⟩ = some (.int .i64 0) := (blk_cell BK142.out 2).trans rfl; have hcz19_3 : w17.cell? ⟨gb142, 3, none⟩ = some (.slice none 0 0) := (blk_cell BK142.out 3).trans rfl; have hfz19_0 := blk_frozen BK142.out 0; have hfz19_1 := blk_frozen BK142.out 1; have hfz19_2 := blk_frozen BK142.out 2; have hfz19_3 := blk_frozen BK142.out 3) | ((with_reducible refine gate_callee (f := 32) rfl ?_); refine goesL_ (some 34) rfl rfl Tryd.func32 (by kernel_rfl) rfl #[.string ((rd_T61 l0_2 x26_1).f0)] rfl (by (try simp only [List.map_toArray, List.map_cons, List.map_nil]); first | done | rfl | (simp only [List.length_drop, List.length_take]; rfl)) ?_; (with_reducible refine (markup_ValidName.calls k1 ((rd_T61 l0_2 x26_1).f0) true _ A13.out).mono ?_); rintro e w' ⟨rfl, ⟨nd, rfl⟩⟩; refine ⟨_, rfl, ?_⟩; have hcz20_0 : w17.cell? ⟨gb140, 0, none⟩ = some (.slice A0_0 l0_0.length c0_0) := (blk_cell BK140.out 0).trans rfl; have hcz20_1 : w17.cell? ⟨gb140, 1, none⟩ = some (.slice A0_1 l0_1.length c0_1) := (blk_cell BK140.out 1).trans rfl; have hcz20_2 : w17.cell? ⟨gb140, 2, none⟩ = some (.slice (some ad141) l0_2.length c0_2) := (blk_cell BK140.out 2).trans rfl; have hcz20_3 : w17.cell? ⟨gb140, 3, none⟩ = some (.slice A0_3 l0_3.length c0_3) := (blk_cell BK140.out 3).trans rfl; have hcz20_4 : w17.cell? ⟨gb140, 4, none⟩ = some (.slice A0_4 l0_4.length c0_4) := (blk_cell BK140.out 4).trans rfl; have hcz20_5 : w17.cell? ⟨gb140, 5, none⟩ = some (.slice A0_5 l0_5.length c0_5) := (blk_cell BK140.out 5).trans rfl; have hcz20_6 : w17.cell? ⟨gb140, 6, none⟩ = some (.slice A0_6 l0_6.length c0_6) := (blk_cell BK140.out 6).trans rfl; have hfz20_0 := blk_frozen BK140.out 0; have hfz20_1 := blk_frozen BK140.out 1; have hfz20_2 := blk_frozen BK140.out 2; have hfz20_3 := blk_frozen BK140.out 3; have hfz20_4 := blk_frozen BK140.out 4; have hfz20_5 := blk_frozen BK140.out 5; have hfz20_6 := blk_frozen BK140.out 6) | ((with_reducible refine gate_callee (f := 34) rfl ?_); refine goesL_ (some 41) rfl rfl Tryd.func34 (by kernel_rfl) rfl #[.agg #[.slice A0_0 l0_0.length c0_0, .slice A0_1 l0_1.length c0_1, .slice (some ad141) l0_2.length c0_2, .slice A0_3 l0_3.length c0_3, .slice A0_4 l0_4.length c0_4, .slice A0_5 l0_5.length c0_5, .slice A0_6 l0_6.length c0_6], .string ((rd_T61 l0_2 x26_1).f0)] rfl (by (try simp only [List.map_toArray, List.map_cons, List.map_nil]); first | done | rfl | (simp only [List.length_drop, List.length_take]; rfl)) ?_; (with_reducible refine (corpus_FindText.calls k1 _ _ l0_0 _ _ l0_1 _ _ l0_2 _ _ l0_3 _ _ l0_4 _ _ l0_5 _ _ l0_6 ((rd_T61 l0_2 x26_1).f0) t144 _ ?side1 ?side2 ?side3 ?side4 ?side5 ?side6 ?side7 ?side8 ?side9 ?side10 ?side11 ?side12 ?side13 ?side14 A15.out).mono ?_); (case side1 => exact Kd.C_below HR0_0.out (by repeat (first | (with_reducible first | exact HB.out | apply below_alloc | apply pw_below_drewN | apply below_drew1 | refine below_set ?_ GE140.out | refine below_set ?_ GE142.out) | exact HB.out))); (case side2 => exact HC0_0.out); (case side3 => exact Kd.C_below HR0_1.out (by repeat (first | (with_reducible first | exact HB.out | apply below_alloc | apply pw_below_drewN | apply below_drew1 | refine below_set ?_ GE140.out | refine below_set ?_ GE142.out) | exact HB.out))); (case side4 => exact HC0_1.out); (case side5 => exact Kd.C_below HR0_2.out (by repeat (first | (with_reducible first | exact HB.out | apply below_alloc | apply pw_below_drewN | apply below_drew1 | refine below_set ?_ GE140.out | refine below_set ?_ GE142.out) | exact HB.out))); (case side6 => exact HC0_2.out); (case side7 => exact Kd.C_below HR0_3.out (by repeat (first | (with_reducible first | exact HB.out | apply below_alloc | apply pw_below_drewN | apply below_drew1 | refine below_set ?_ GE140.out | refine below_set ?_ GE142.out) | exact HB.out))); (case side8 => exact HC0_3.out); (case side9 => exact Kd.C_below HR0_4.out (by repeat (first | (with_reducible first | exact HB.out | apply below_alloc | apply pw_below_drewN | apply below_drew1 | refine below_set ?_ GE140.out | refine below_set ?_ GE142.out) | exact HB.out))); (case side10 => exact HC0_4.out); (case side11 => exact Kd.C_below HR0_5.out (by repeat (first | (with_reducible first | exact HB.out | apply below_alloc | apply pw_below_drewN | apply below_drew1 | refine below_set ?_ GE140.out | refine below_set ?_ GE142.out) | exact HB.out))); (case side12 => exact HC0_5.out); (case side13 => exact Kd.C_below HR0_6.out (by repeat (first | (with_reducible first | exact HB.out | apply below_alloc | apply pw_below_drewN | apply below_drew1 | refine below_set ?_ GE140.out | refine below_set ?_ GE142.out) | exact HB.out))); (case side14 => exact HC0_6.out); rintro e w21 ⟨rfl, hb⟩; refine ⟨_, rfl, ?_⟩; have n0_ := Aside0.mk (blk_below (g := gb140) (o := .cells #[.slice A0_0 l0_0.length c0_0, .slice A0_1 l0_1.length c0_1, .slice (some ad141) l0_2.length c0_2, .slice A0_3 l0_3.length c0_3, .slice A0_4 l0_4.length c0_4, .slice A0_5 l0_5.length c0_5, .slice A0_6 l0_6.length c0_6] 30 (0, 0)) (by (with_reducible repeat (first | refine blk_drewN ?_ _ | refine blk_drew ?_ | refine blk_alloc ?_ _)); refine blk_far ?_ NB140_142.out _; (with_reducible repeat (first | refine blk_drewN ?_ _ | refine blk_drew ?_ | refine blk_alloc ?_ _)); refine blk_far ?_ NB140_142.out _; (with_reducible repeat (first | refine blk_drewN ?_ _ | refine blk_drew ?_ | refine blk_alloc ?_ _)); refine blk_far ?_ NB140_142.out _; (with_reducible repeat (first | refine blk_drewN ?_ _ | refine blk_drew ?_ | refine blk_alloc ?_ _)); refine blk_far ?_ NB140_142.out _; (with_reducible repeat (first | refine blk_drewN ?_ _ | refine blk_drew ?_ | refine blk_alloc ?_ _)); exact BK140.out) hb); have n1_ := Aside0.mk (blk_below (g := gb142) (o := .cells #[.string ((rd_T61 l0_2 x26_1).f0), .int .i64 ((rd_T61 l0_2 x26_1).f1), .int .i64 ((rd_T61 l0_2 x26_1).f2), .slice A141_3 ((rd_T61 l0_2 x26_1).f3).length c141_3] 61 (0, 0)) (by (with_reducible repeat (first | refine blk_drewN ?_ _ | refine blk_drew ?_ | refine blk_alloc ?_ _)); refine blk_put (cs := #[.string ((rd_T61 l0_2 x26_1).f0), .int .i64 ((rd_T61 l0_2 x26_1).f1), .int .i64 ((rd_T61 l0_2 x26_1).f2), .slice none 0 0]) ?_ 3 _ rfl; (with_reducible repeat (first | refine blk_drewN ?_ _ | refine blk_drew ?_ | refine blk_alloc ?_ _)); refine blk_put (cs := #[.string ((rd_T61 l0_2 x26_1).f0), .int .i64 ((rd_T61 l0_2 x26_1).f1), .int .i64 0, .slice none 0 0]) ?_ 2 _ rfl; (with_reducible repeat (first | refine blk_drewN ?_ _ | refine blk_drew ?_ | refine blk_alloc ?_ _)); refine blk_put (cs := #[.string ((rd_T61 l0_2 x26_1).f0), .int .i64 0, .int .i64 0, .slice none 0 0]) ?_ 1 _ rfl; (with_reducible repeat (first | refine blk_drewN ?_ _ | refine blk_drew ?_ | refine blk_alloc ?_ _)); refine blk_put (cs := #[.string (⟨#[]⟩ : ByteArray), .int .i64 0, .int .i64 0, .slice none 0 0]) ?_ 0 _ rfl; (with_reducible repeat (first | refine blk_drewN ?_ _ | refine blk_drew ?_ | refine blk_alloc ?_ _)); exact BK142.out) hb); have n2_ := Aside0.mk (below_step (by repeat (first | (with_reducible first | exact HB.out | apply below_alloc | apply pw_below_drewN | apply below_drew1 | refine below_set ?_ GE140.out | refine below_set ?_ GE142.out) | exact HB.out)) hb); clear BK140; clear BK142; clear HB; have BK140 := n0_; have BK142 := n1_; have HB := n2_; clear n0_ n1_ n2_; (try clear hb); (try clear hb2); (try clear hk); (try clear hi)))
                    go_ret2
                    exact ⟨by first | rfl | (simp [errW_none, errW_some] <;> rfl) | (simp [*, errW_none, errW_some] <;> rfl), by repeat (first | (with_reducible first | exact HB.out | apply below_alloc | apply pw_below_drewN | apply below_drew1 | refine below_set ?_ GE140.out | refine below_set ?_ GE142.out) | exact HB.out)⟩
                  · rw [if_neg c16] at H
                    have c16b0 : decide (t144 < x26_1) = false := decide_eq_false c16
                    clear c16
                    have HC22 := Aside0.mk H
                    clear H
                    have p141 : 0 ≤ (x26_1 : Int) := of_decide_eq_true (by first | (with_reducible assumption) | assumption)
                    have q141 : x26_1 < (l0_2.length : Int) := of_decide_eq_true (by first | (with_reducible assumption) | assumption)
                    obtain ⟨ad141, A141_3, c141_3, e141, hx141_0, hx141_1, hx141_2, hx141_3, hl141_3, hi141_3⟩ := at_T61 HR0_2.out x26_1 p141 q141
                    cases e141
                    replace hx141_0 := (HB.out.cell (World.block_lt_of_cell? w _ hx141_0)).trans hx141_0
                    replace hx141_1 := (HB.out.cell (World.block_lt_of_cell? w _ hx141_1)).trans hx141_1
                    replace hx141_2 := (HB.out.cell (World.block_lt_of_cell? w _ hx141_2)).trans hx141_2
                    replace hx141_3 := (HB.out.cell (World.block_lt_of_cell? w _ hx141_3)).trans hx141_3
                    have HR141_3 := Aside0.mk hi141_3
                    have HC141_3 := Aside0.mk hl141_3
                    clear hi141_3 hl141_3
                    replace p141 := eq_true p141
                    replace q141 := eq_true q141
                    go_upto_if 45 with (first | ((with_reducible refine gate_dst (N := 6) rfl ?_); (try (refine gate_guard (by rfl) ?_; dsimp only)); refine box_event ?hg (N := 6) ?hd (cs := #[.string (⟨#[]⟩ : ByteArray), .int .i64 0, .int .i64 0, .slice none 0 0]) (t := 61) ?hr ?_; (case hd => rfl); (case hg => rfl); (case hr => first | (go_simp; done) | (go_simp; rfl)); intro gb142 hg w23 hbox hb; have n0_ := Aside0.mk (blk_below (g := gb140) (o := .cells #[.slice A0_0 l0_0.length c0_0, .slice A0_1 l0_1.length c0_1, .slice (some ad141) l0_2.length c0_2, .slice A0_3 l0_3.length c0_3, .slice A0_4 l0_4.length c0_4, .slice A0_5 l0_5.length c0_5, .slice A0_6 l0_6.length c0_6] 30 (0, 0)) (by (with_reducible repeat (first | refine blk_drewN ?_ _ | refine blk_drew ?_ | refine blk_alloc ?_ _)); exact BK140.out) hb); have n1_ := Aside0.mk (below_step (by repeat (first | (with_reducible first | exact HB.out | apply below_alloc | apply pw_below_drewN | apply below_drew1 | refine below_set ?_ GE140.out) | exact HB.out)) hb); have n2_ := Aside0.mk (hbox); have n3_ := Aside0.mk ((by rw [hg]; exact (below_size (by repeat (first | (with_reducible first | exact HB.out | apply below_alloc | apply pw_below_drewN | apply below_drew1 | refine below_set ?_ GE140.out) | exact HB.out))) : w.heap.size ≤ gb142)); have n4_ := Aside0.mk ((by rw [hg]; exact (below_size (by repeat (first | (with_reducible first | exact HB.out | apply below_alloc | apply pw_below_drewN | apply below_drew1 | refine below_set ?_ GE140.out) | exact HB.out))) : w.heap.size ≤ gb142)); have n5_ := Aside0.mk ((by rw [hg]; exact Nat.ne_of_lt (blk_lt (g := gb140) (o := .cells #[.slice A0_0 l0_0.length c0_0, .slice A0_1 l0_1.length c0_1, .slice (some ad141) l0_2.length c0_2, .slice A0_3 l0_3.length c0_3, .slice A0_4 l0_4.length c0_4, .slice A0_5 l0_5.length c0_5, .slice A0_6 l0_6.length c0_6] 30 (0, 0)) (by (with_reducible repeat (first | refine blk_drewN ?_ _ | refine blk_drew ?_ | refine blk_alloc ?_ _)); exact BK140.out)) : gb140 ≠ gb142)); have n6_ := Aside0.mk ((by rw [hg]; exact Nat.ne_of_gt (blk_lt (g := gb140) (o := .cells #[.slice A0_0 l0_0.length c0_0, .slice A0_1 l0_1.length c0_1, .slice (some ad141) l0_2.length c0_2, .slice A0_3 l0_3.length c0_3, .slice A0_4 l0_4.length c0_4, .slice A0_5 l0_5.length c0_5, .slice A0_6 l0_6.length c0_6] 30 (0, 0)) (by (with_reducible repeat (first | refine blk_drewN ?_ _ | refine blk_drew ?_ | refine blk_alloc ?_ _)); exact BK140.out)) : gb142 ≠ gb140)); clear BK140; clear HB; have BK140 := n0_; have HB := n1_; have BK142 := n2_; have GW142 := n3_; have GE142 := n4_; have NB140_142 := n5_; have NB142_140 := n6_; clear n0_ n1_ n2_ n3_ n4_ n5_ n6_; clear hb hbox hg; have hnb24 := NB142_140.out; have hnc24 := NB140_142.out; have hcz25_0 : w23.cell? ⟨gb142, 0, none⟩ = some (.string (⟨#[]⟩ : ByteArray)) := (blk_cell BK142.out 0).trans rfl; have hcz25_1 : w23.cell? ⟨gb142, 1, none⟩ = some (.int .i64 0) := (blk_cell BK142.out 1).trans rfl; have hcz25_2 : w23.cell? ⟨gb142, 2, none⟩ = some (.int .i64 0) := (blk_cell BK142.out 2).trans rfl; have hcz25_3 : w23.cell? ⟨gb142, 3, none⟩ = some (.slice none 0 0) := (blk_cell BK142.out 3).trans rfl; have hfz25_0 := blk_frozen BK142.out 0; have hfz25_1 := blk_frozen BK142.out 1; have hfz25_2 := blk_frozen BK142.out 2; have hfz25_3 := blk_frozen BK142.out 3) | ((with_reducible refine gate_callee (f := 32) rfl ?_); refine goesL_ (some 34) rfl rfl Tryd.func32 (by kernel_rfl) rfl #[.string ((rd_T61 l0_2 x26_1).f0)] rfl (by (try simp only [List.map_toArray, List.map_cons, List.map_nil]); first | done | rfl | (simp only [List.length_drop, List.length_take]; rfl)) ?_; (with_reducible refine (markup_ValidName.calls k1 ((rd_T61 l0_2 x26_1).f0) true _ A13.out).mono ?_); rintro e w' ⟨rfl, ⟨nd, rfl⟩⟩; refine ⟨_, rfl, ?_⟩; have hcz26_0 : w23.cell? ⟨gb140, 0, none⟩ = some (.slice A0_0 l0_0.length c0_0) := (blk_cell BK140.out 0).trans rfl; have hcz26_1 : w23.cell? ⟨gb140, 1, none⟩ = some (.slice A0_1 l0_1.length c0_1) := (blk_cell BK140.out 1).trans rfl; have hcz26_2 : w23.cell? ⟨gb140, 2, none⟩ = some (.slice (some ad141) l0_2.length c0_2) := (blk_cell BK140.out 2).trans rfl; have hcz26_3 : w23.cell? ⟨gb140, 3, none⟩ = some (.slice A0_3 l0_3.length c0_3) := (blk_cell BK140.out 3).trans rfl; have hcz26_4 : w23.cell? ⟨gb140, 4, none⟩ = some (.slice A0_4 l0_4.length c0_4) := (blk_cell BK140.out 4).trans rfl; have hcz26_5 : w23.cell? ⟨gb140, 5, none⟩ = some (.slice A0_5 l0_5.length c0_5) := (blk_cell BK140.out 5).trans rfl; have hcz26_6 : w23.cell? ⟨gb140, 6, none⟩ = some (.slice A0_6 l0_6.length c0_6) := (blk_cell BK140.out 6).trans rfl; have hfz26_0 := blk_frozen BK140.out 0; have hfz26_1 := blk_frozen BK140.out 1; have hfz26_2 := blk_frozen BK140.out 2; have hfz26_3 := blk_frozen BK140.out 3; have hfz26_4 := blk_frozen BK140.out 4; have hfz26_5 := blk_frozen BK140.out 5; have hfz26_6 := blk_frozen BK140.out 6) | ((with_reducible refine gate_callee (f := 34) rfl ?_); refine goesL_ (some 41) rfl rfl Tryd.func34 (by kernel_rfl) rfl #[.agg #[.slice A0_0 l0_0.length c0_0, .slice A0_1 l0_1.length c0_1, .slice (some ad141) l0_2.length c0_2, .slice A0_3 l0_3.length c0_3, .slice A0_4 l0_4.length c0_4, .slice A0_5 l0_5.length c0_5, .slice A0_6 l0_6.length c0_6], .string ((rd_T61 l0_2 x26_1).f0)] rfl (by (try simp only [List.map_toArray, List.map_cons, List.map_nil]); first | done | rfl | (simp only [List.length_drop, List.length_take]; rfl)) ?_; (with_reducible refine (corpus_FindText.calls k1 _ _ l0_0 _ _ l0_1 _ _ l0_2 _ _ l0_3 _ _ l0_4 _ _ l0_5 _ _ l0_6 ((rd_T61 l0_2 x26_1).f0) t144 _ ?side1 ?side2 ?side3 ?side4 ?side5 ?side6 ?side7 ?side8 ?side9 ?side10 ?side11 ?side12 ?side13 ?side14 A15.out).mono ?_); (case side1 => exact Kd.C_below HR0_0.out (by repeat (first | (with_reducible first | exact HB.out | apply below_alloc | apply pw_below_drewN | apply below_drew1 | refine below_set ?_ GE140.out | refine below_set ?_ GE142.out) | exact HB.out))); (case side2 => exact HC0_0.out); (case side3 => exact Kd.C_below HR0_1.out (by repeat (first | (with_reducible first | exact HB.out | apply below_alloc | apply pw_below_drewN | apply below_drew1 | refine below_set ?_ GE140.out | refine below_set ?_ GE142.out) | exact HB.out))); (case side4 => exact HC0_1.out); (case side5 => exact Kd.C_below HR0_2.out (by repeat (first | (with_reducible first | exact HB.out | apply below_alloc | apply pw_below_drewN | apply below_drew1 | refine below_set ?_ GE140.out | refine below_set ?_ GE142.out) | exact HB.out))); (case side6 => exact HC0_2.out); (case side7 => exact Kd.C_below HR0_3.out (by repeat (first | (with_reducible first | exact HB.out | apply below_alloc | apply pw_below_drewN | apply below_drew1 | refine below_set ?_ GE140.out | refine below_set ?_ GE142.out) | exact HB.out))); (case side8 => exact HC0_3.out); (case side9 => exact Kd.C_below HR0_4.out (by repeat (first | (with_reducible first | exact HB.out | apply below_alloc | apply pw_below_drewN | apply below_drew1 | refine below_set ?_ GE140.out | refine below_set ?_ GE142.out) | exact HB.out))); (case side10 => exact HC0_4.out); (case side11 => exact Kd.C_below HR0_5.out (by repeat (first | (with_reducible first | exact HB.out | apply below_alloc | apply pw_below_drewN | apply below_drew1 | refine below_set ?_ GE140.out | refine below_set ?_ GE142.out) | exact HB.out))); (case side12 => exact HC0_5.out); (case side13 => exact Kd.C_below HR0_6.out (by repeat (first | (with_reducible first | exact HB.out | apply below_alloc | apply pw_below_drewN | apply below_drew1 | refine below_set ?_ GE140.out | refine below_set ?_ GE142.out) | exact HB.out))); (case side14 => exact HC0_6.out); rintro e w27 ⟨rfl, hb⟩; refine ⟨_, rfl, ?_⟩; have n0_ := Aside0.mk (blk_below (g := gb140) (o := .cells #[.slice A0_0 l0_0.length c0_0, .slice A0_1 l0_1.length c0_1, .slice (some ad141) l0_2.length c0_2, .slice A0_3 l0_3.length c0_3, .slice A0_4 l0_4.length c0_4, .slice A0_5 l0_5.length c0_5, .slice A0_6 l0_6.length c0_6] 30 (0, 0)) (by (with_reducible repeat (first | refine blk_drewN ?_ _ | refine blk_drew ?_ | refine blk_alloc ?_ _)); refine blk_far ?_ NB140_142.out _; (with_reducible repeat (first | refine blk_drewN ?_ _ | refine blk_drew ?_ | refine blk_alloc ?_ _)); refine blk_far ?_ NB140_142.out _; (with_reducible repeat (first | refine blk_drewN ?_ _ | refine blk_drew ?_ | refine blk_alloc ?_ _)); refine blk_far ?_ NB140_142.out _; (with_reducible repeat (first | refine blk_drewN ?_ _ | refine blk_drew ?_ | refine blk_alloc ?_ _)); refine blk_far ?_ NB140_142.out _; (with_reducible repeat (first | refine blk_drewN ?_ _ | refine blk_drew ?_ | refine blk_alloc ?_ _)); exact BK140.out) hb); have n1_ := Aside0.mk (blk_below (g := gb142) (o := .cells #[.string ((rd_T61 l0_2 x26_1).f0), .int .i64 ((rd_T61 l0_2 x26_1).f1), .int .i64 ((rd_T61 l0_2 x26_1).f2), .slice A141_3 ((rd_T61 l0_2 x26_1).f3).length c141_3] 61 (0, 0)) (by (with_reducible repeat (first | refine blk_drewN ?_ _ | refine blk_drew ?_ | refine blk_alloc ?_ _)); refine blk_put (cs := #[.string ((rd_T61 l0_2 x26_1).f0), .int .i64 ((rd_T61 l0_2 x26_1).f1), .int .i64 ((rd_T61 l0_2 x26_1).f2), .slice none 0 0]) ?_ 3 _ rfl; (with_reducible repeat (first | refine blk_drewN ?_ _ | refine blk_drew ?_ | refine blk_alloc ?_ _)); refine blk_put (cs := #[.string ((rd_T61 l0_2 x26_1).f0), .int .i64 ((rd_T61 l0_2 x26_1).f1), .int .i64 0, .slice none 0 0]) ?_ 2 _ rfl; (with_reducible repeat (first | refine blk_drewN ?_ _ | refine blk_drew ?_ | refine blk_alloc ?_ _)); refine blk_put (cs := #[.string ((rd_T61 l0_2 x26_1).f0), .int .i64 0, .int .i64 0, .slice none 0 0]) ?_ 1 _ rfl; (with_reducible repeat (first | refine blk_drewN ?_ _ | refine blk_drew ?_ | refine blk_alloc ?_ _)); refine blk_put (cs := #[.string (⟨#[]⟩ : ByteArray), .int .i64 0, .int .i64 0, .slice none 0 0]) ?_ 0 _ rfl; (with_reducible repeat (first | refine blk_drewN ?_ _ | refine blk_drew ?_ | refine blk_alloc ?_ _)); exact BK142.out) hb); have n2_ := Aside0.mk (below_step (by repeat (first | (with_reducible first | exact HB.out | apply below_alloc | apply pw_below_drewN | apply below_drew1 | refine below_set ?_ GE140.out | refine below_set ?_ GE142.out) | exact HB.out)) hb); clear BK140; clear BK142; clear HB; have BK140 := n0_; have BK142 := n1_; have HB := n2_; clear n0_ n1_ n2_; (try clear hb); (try clear hb2); (try clear hk); (try clear hi); have hcz28_0 : w27.cell? ⟨gb142, 0, none⟩ = some (.string ((rd_T61 l0_2 x26_1).f0)) := (blk_cell BK142.out 0).trans rfl; have hcz28_1 : w27.cell? ⟨gb142, 1, none⟩ = some (.int .i64 ((rd_T61 l0_2 x26_1).f1)) := (blk_cell BK142.out 1).trans rfl; have hcz28_2 : w27.cell? ⟨gb142, 2, none⟩ = some (.int .i64 ((rd_T61 l0_2 x26_1).f2)) := (blk_cell BK142.out 2).trans rfl; have hcz28_3 : w27.cell? ⟨gb142, 3, none⟩ = some (.slice A141_3 ((rd_T61 l0_2 x26_1).f3).length c141_3) := (blk_cell BK142.out 3).trans rfl; have hfz28_0 := blk_frozen BK142.out 0; have hfz28_1 := blk_frozen BK142.out 1; have hfz28_2 := blk_frozen BK142.out 2; have hfz28_3 := blk_frozen BK142.out 3))
                    (try simp only [Act.put, List.setIfInBounds_toArray, List.set_cons_zero, List.set_cons_succ])
                    go_cut [45] (fun v45 wc => ∃ (kq : Nat) (x45_21 : Bool), v45 = .bool x45_21 ∧ Aside0 (corpus_texts.j1 kq x26_1 l0_2 (l0_2.length : Int) x26_1 x45_21 l0_0 l0_1 l0_2 l0_3 l0_4 l0_5 l0_6 ((rd_T61 l0_2 x26_1).f0) ((rd_T61 l0_2 x26_1).f1) ((rd_T61 l0_2 x26_1).f2) ((rd_T61 l0_2 x26_1).f3) = some (r1, r2)) ∧ Aside0 (kq ≤ k1) ∧ Aside0 (wc.heap[gb140]? = some (.cells #[(.slice A0_0 l0_0.length c0_0), (.slice A0_1 l0_1.length c0_1), (.slice (some ad141) l0_2.length c0_2), (.slice A0_3 l0_3.length c0_3), (.slice A0_4 l0_4.length c0_4), (.slice A0_5 l0_5.length c0_5), (.slice A0_6 l0_6.length c0_6)] 30 (0, 0))) ∧ Aside0 (wc.heap[gb142]? = some (.cells #[.string ((rd_T61 l0_2 x26_1).f0), .int .i64 ((rd_T61 l0_2 x26_1).f1), .int .i64 ((rd_T61 l0_2 x26_1).f2), (.slice A141_3 ((rd_T61 l0_2 x26_1).f3).length c141_3)] 61 (0, 0))) ∧ Aside0 (Below w.heap.size w wc))
                    case first =>
                      have H := HC22.out
                      clear HC22
                      by_cases c29 : ((rd_T61 l0_2 x26_1).f1) = x4_1
                      · rw [if_pos c29] at H
                        have c29b0 : (((rd_T61 l0_2 x26_1).f1) == x4_1) = true := beq_iff_eq.mpr c29
                        have c29b1 : (((rd_T61 l0_2 x26_1).f1) != x4_1) = false := bne_eq_false_iff_eq.mpr c29
                        clear c29
                        (first | rw [c29b0] | rw [c29b1] | (simp only [i64_w, i32_w]; rw [c29b0]) | skip)
                        by_cases c30 : ((rd_T61 l0_2 x26_1).f2) ≤ ((rd_T61 l0_2 x26_1).f1)
                        · rw [if_pos c30] at H
                          have c30b0 : decide (((rd_T61 l0_2 x26_1).f2) ≤ ((rd_T61 l0_2 x26_1).f1)) = true := decide_eq_true c30
                          clear c30
                          have H' := Aside0.mk H
                          clear H
                          have hnb31 := NB142_140.out
                          have hnc31 := NB140_142.out
                          have hcz32_0 : w27.cell? ⟨gb142, 0, none⟩ = some (.string ((rd_T61 l0_2 x26_1).f0)) := (blk_cell BK142.out 0).trans rfl
                          have hcz32_1 : w27.cell? ⟨gb142, 1, none⟩ = some (.int .i64 ((rd_T61 l0_2 x26_1).f1)) := (blk_cell BK142.out 1).trans rfl
                          have hcz32_2 : w27.cell? ⟨gb142, 2, none⟩ = some (.int .i64 ((rd_T61 l0_2 x26_1).f2)) := (blk_cell BK142.out 2).trans rfl
                          have hcz32_3 : w27.cell? ⟨gb142, 3, none⟩ = some (.slice A141_3 ((rd_T61 l0_2 x26_1).f3).length c141_3) := (blk_cell BK142.out 3).trans rfl
                          have hfz32_0 := blk_frozen BK142.out 0
                          have hfz32_1 := blk_frozen BK142.out 1
                          have hfz32_2 := blk_frozen BK142.out 2
                          have hfz32_3 := blk_frozen BK142.out 3
                          go_wp2
                          go_meet
                          case rel => exact ⟨_, (decide (((rd_T61 l0_2 x26_1).f2) ≤ ((rd_T61 l0_2 x26_1).f1))), (by first | rfl | (simp; done) | (simp [*]; done)), H', ⟨by have := HK1.out; first | omega | exact Nat.le_refl _⟩, ⟨by (with_reducible repeat (first | refine blk_drewN ?_ _ | refine blk_drew ?_ | refine blk_alloc ?_ _)); exact BK140.out⟩, ⟨by (with_reducible repeat (first | refine blk_drewN ?_ _ | refine blk_drew ?_ | refine blk_alloc ?_ _)); exact BK142.out⟩, ⟨by repeat (first | (with_reducible first | exact HB.out | apply below_alloc | apply pw_below_drewN | apply below_drew1 | refine below_set ?_ GE140.out | refine below_set ?_ GE142.out) | exact HB.out)⟩⟩
                        · rw [if_neg c30] at H
                          have c30b0 : decide (((rd_T61 l0_2 x26_1).f2) ≤ ((rd_T61 l0_2 x26_1).f1)) = false := decide_eq_false c30
                          clear c30
                          have H' := Aside0.mk H
                          clear H
                          have hnb33 := NB142_140.out
                          have hnc33 := NB140_142.out
                          have hcz34_0 : w27.cell? ⟨gb142, 0, none⟩ = some (.string ((rd_T61 l0_2 x26_1).f0)) := (blk_cell BK142.out 0).trans rfl
                          have hcz34_1 : w27.cell? ⟨gb142, 1, none⟩ = some (.int .i64 ((rd_T61 l0_2 x26_1).f1)) := (blk_cell BK142.out 1).trans rfl
                          have hcz34_2 : w27.cell? ⟨gb142, 2, none⟩ = some (.int .i64 ((rd_T61 l0_2 x26_1).f2)) := (blk_cell BK142.out 2).trans rfl
                          have hcz34_3 : w27.cell? ⟨gb142, 3, none⟩ = some (.slice A141_3 ((rd_T61 l0_2 x26_1).f3).length c141_3) := (blk_cell BK142.out 3).trans rfl
                          have hfz34_0 := blk_frozen BK142.out 0
                          have hfz34_1 := blk_frozen BK142.out 1
                          have hfz34_2 := blk_frozen BK142.out 2
                          have hfz34_3 := blk_frozen BK142.out 3
                          have hcz35_0 : w27.cell? ⟨gb140, 0, none⟩ = some (.slice A0_0 l0_0.length c0_0) := (blk_cell BK140.out 0).trans rfl
                          have hcz35_1 : w27.cell? ⟨gb140, 1, none⟩ = some (.slice A0_1 l0_1.length c0_1) := (blk_cell BK140.out 1).trans rfl
                          have hcz35_2 : w27.cell? ⟨gb140, 2, none⟩ = some (.slice (some ad141) l0_2.length c0_2) := (blk_cell BK140.out 2).trans rfl
                          have hcz35_3 : w27.cell? ⟨gb140, 3, none⟩ = some (.slice A0_3 l0_3.length c0_3) := (blk_cell BK140.out 3).trans rfl
                          have hcz35_4 : w27.cell? ⟨gb140, 4, none⟩ = some (.slice A0_4 l0_4.length c0_4) := (blk_cell BK140.out 4).trans rfl
                          have hcz35_5 : w27.cell? ⟨gb140, 5, none⟩ = some (.slice A0_5 l0_5.length c0_5) := (blk_cell BK140.out 5).trans rfl
                          have hcz35_6 : w27.cell? ⟨gb140, 6, none⟩ = some (.slice A0_6 l0_6.length c0_6) := (blk_cell BK140.out 6).trans rfl
                          have hfz35_0 := blk_frozen BK140.out 0
                          have hfz35_1 := blk_frozen BK140.out 1
                          have hfz35_2 := blk_frozen BK140.out 2
                          have hfz35_3 := blk_frozen BK140.out 3
                          have hfz35_4 := blk_frozen BK140.out 4
                          have hfz35_5 := blk_frozen BK140.out 5
                          have hfz35_6 := blk_frozen BK140.out 6
                          go_wp2
                          go_meet
                          case rel => exact ⟨_, (decide (((rd_T61 l0_2 x26_1).f2) > (l0_1.length : Int))), (by first | rfl | (simp; done) | (simp [*]; done)), H', ⟨by have := HK1.out; first | omega | exact Nat.le_refl _⟩, ⟨by (with_reducible repeat (first | refine blk_drewN ?_ _ | refine blk_drew ?_ | refine blk_alloc ?_ _)); exact BK140.out⟩, ⟨by (with_reducible repeat (first | refine blk_drewN ?_ _ | refine blk_drew ?_ | refine blk_alloc ?_ _)); exact BK142.out⟩, ⟨by repeat (first | (with_reducible first | exact HB.out | apply below_alloc | apply pw_below_drewN | apply below_drew1 | refine below_set ?_ GE140.out | refine below_set ?_ GE142.out) | exact HB.out)⟩⟩
                      · rw [if_neg c29] at H
                        have c29b0 : (((rd_T61 l0_2 x26_1).f1) == x4_1) = false := beq_eq_false_iff_ne.mpr c29
                        have c29b1 : (((rd_T61 l0_2 x26_1).f1) != x4_1) = true := bne_iff_ne.mpr c29
                        (first | rw [c29b0] | rw [c29b1] | (simp only [i64_w, i32_w]; rw [c29b0]) | skip)
                        have H' := Aside0.mk H
                        clear H
                        go_wp2
                        go_meet
                        case rel => exact ⟨_, ((((rd_T61 l0_2 x26_1).f1) != x4_1)), (by first | rfl | (simp; done) | (simp [*]; done)), H', ⟨by have := HK1.out; first | omega | exact Nat.le_refl _⟩, ⟨by (with_reducible repeat (first | refine blk_drewN ?_ _ | refine blk_drew ?_ | refine blk_alloc ?_ _)); exact BK140.out⟩, ⟨by (with_reducible repeat (first | refine blk_drewN ?_ _ | refine blk_drew ?_ | refine blk_alloc ?_ _)); exact BK142.out⟩, ⟨by repeat (first | (with_reducible first | exact HB.out | apply below_alloc | apply pw_below_drewN | apply below_drew1 | refine below_set ?_ GE140.out | refine below_set ?_ GE142.out) | exact HB.out)⟩⟩
                    case rest =>
                      clear HC22
                      try clear c1
                      try clear p1
                      try clear q1
                      try clear hx1
                      try clear c2
                      try clear c2b0
                      try clear c2b1
                      try clear p2
                      try clear c3
                      try clear c5
                      try clear c5b0
                      try clear c5b1
                      try clear c5b2
                      try clear c10
                      try clear c10b0
                      try clear c11
                      try clear c11b0
                      try clear c12
                      try clear c12b0
                      try clear c14
                      try clear p14
                      try clear q14
                      try clear hx14
                      try clear c16
                      try clear c16b0
                      try clear c18
                      try clear c24
                      try clear c29
                      try clear c29b0
                      try clear c29b1
                      try clear c30
                      try clear c30b0
                      try clear c31
                      try clear c32
                      try clear c33
                      try clear c34
                      try clear hcz19_0
                      try clear hcz19_1
                      try clear hcz19_2
                      try clear hcz19_3
                      try clear hcz20_0
                      try clear hcz20_1
                      try clear hcz20_2
                      try clear hcz20_3
                      try clear hcz20_4
                      try clear hcz20_5
                      try clear hcz20_6
                      try clear hcz25_0
                      try clear hcz25_1
                      try clear hcz25_2
                      try clear hcz25_3
                      try clear hcz26_0
                      try clear hcz26_1
                      try clear hcz26_2
                      try clear hcz26_3
                      try clear hcz26_4
                      try clear hcz26_5
                      try clear hcz26_6
                      try clear hcz28_0
                      try clear hcz28_1
                      try clear hcz28_2
                      try clear hcz28_3
                      try clear hcz32_0
                      try clear hcz32_1
                      try clear hcz32_2
                      try clear hcz32_3
                      try clear hcz34_0
                      try clear hcz34_1
                      try clear hcz34_2
                      try clear hcz34_3
                      try clear hcz35_0
                      try clear hcz35_1
                      try clear hcz35_2
                      try clear hcz35_3
                      try clear hcz35_4
                      try clear hcz35_5
                      try clear hcz35_6
                      try clear hcz4_0
                      try clear hcz4_1
                      try clear hcz4_2
                      try clear hcz4_3
                      try clear hcz4_4
                      try clear hcz4_5
                      try clear hcz4_6
                      try clear hcz7_0
                      try clear hcz7_1
                      try clear hcz7_2
                      try clear hcz7_3
                      try clear hcz7_4
                      try clear hcz7_5
                      try clear hcz7_6
                      try clear hcz9_0
                      try clear hcz9_1
                      try clear hcz9_2
                      try clear hcz9_3
                      try clear hcz9_4
                      try clear hcz9_5
                      try clear hcz9_6
                      try clear hfz19_0
                      try clear hfz19_1
                      try clear hfz19_2
                      try clear hfz19_3
                      try clear hfz20_0
                      try clear hfz20_1
                      try clear hfz20_2
                      try clear hfz20_3
                      try clear hfz20_4
                      try clear hfz20_5
                      try clear hfz20_6
                      try clear hfz25_0
                      try clear hfz25_1
                      try clear hfz25_2
                      try clear hfz25_3
                      try clear hfz26_0
                      try clear hfz26_1
                      try clear hfz26_2
                      try clear hfz26_3
                      try clear hfz26_4
                      try clear hfz26_5
                      try clear hfz26_6
                      try clear hfz28_0
                      try clear hfz28_1
                      try clear hfz28_2
                      try clear hfz28_3
                      try clear hfz32_0
                      try clear hfz32_1
                      try clear hfz32_2
                      try clear hfz32_3
                      try clear hfz34_0
                      try clear hfz34_1
                      try clear hfz34_2
                      try clear hfz34_3
                      try clear hfz35_0
                      try clear hfz35_1
                      try clear hfz35_2
                      try clear hfz35_3
                      try clear hfz35_4
                      try clear hfz35_5
                      try clear hfz35_6
                      try clear hfz4_0
                      try clear hfz4_1
                      try clear hfz4_2
                      try clear hfz4_3
                      try clear hfz4_4
                      try clear hfz4_5
                      try clear hfz4_6
                      try clear hfz7_0
                      try clear hfz7_1
                      try clear hfz7_2
                      try clear hfz7_3
                      try clear hfz7_4
                      try clear hfz7_5
                      try clear hfz7_6
                      try clear hfz9_0
                      try clear hfz9_1
                      try clear hfz9_2
                      try clear hfz9_3
                      try clear hfz9_4
                      try clear hfz9_5
                      try clear hfz9_6
                      try clear hx141_0
                      try clear hx141_1
                      try clear hx141_2
                      try clear hx141_3
                      try clear p141
                      try clear p2
                      try clear q141
                      obtain ⟨kq, x45_21, rfl, HA, HJ21, BK140, BK142, HB⟩ := hcut
                      cases kq with
                      | zero => exact absurd HA.out (by simp [corpus_texts.j1])
                      | succ kj21 =>
                        have H := HA.out
                        clear HA
                        simp only [corpus_texts.j1] at H
                        by_cases c36 : x45_21 = true
                        · subst c36
                          have H1 : (some (x26_1, 8)) = some (r1, r2) := by rw [if_pos rfl] at H; exact H
                          clear H
                          have H := H1
                          clear H1
                          simp only [Option.some.injEq, Prod.mk.injEq] at H
                          obtain ⟨rfl, rfl⟩ := H
                          go_wp2
                          go_ret2
                          exact ⟨by first | rfl | (simp [errW_none, errW_some] <;> rfl) | (simp [*, errW_none, errW_some] <;> rfl), by repeat (first | (with_reducible first | exact HB.out | apply below_alloc | apply pw_below_drewN | apply below_drew1 | refine below_set ?_ GE140.out | refine below_set ?_ GE142.out) | exact HB.out)⟩
                        · replace c36 := Bool.eq_false_iff.mpr c36
                          subst c36
                          have H1 : (if x26_1 = (wrap64 ((l0_2.length : Int) - 1)) then (corpus_texts.j2 kj21 x26_1 l0_2 (l0_2.length : Int) x26_1 (((rd_T61 l0_2 x26_1).f2) != (l0_1.length : Int)) l0_0 l0_1 l0_2 l0_3 l0_4 l0_5 l0_6 ((rd_T61 l0_2 x26_1).f0) ((rd_T61 l0_2 x26_1).f1) ((rd_T61 l0_2 x26_1).f2) ((rd_T61 l0_2 x26_1).f3)) else (corpus_texts.j2 kj21 x26_1 l0_2 (l0_2.length : Int) x26_1 false l0_0 l0_1 l0_2 l0_3 l0_4 l0_5 l0_6 ((rd_T61 l0_2 x26_1).f0) ((rd_T61 l0_2 x26_1).f1) ((rd_T61 l0_2 x26_1).f2) ((rd_T61 l0_2 x26_1).f3))) = some (r1, r2) := by rw [if_neg (show ¬ (false = true) by decide)] at H; exact H
                          clear H
                          have H := H1
                          clear H1
                          have HC37 := Aside0.mk H
                          clear H
                          go_upto_region 17 with (fail)
                          go_cut [62] (fun v62 wc => ∃ (kq : Nat) (x62_36 : Bool), v62 = .bool x62_36 ∧ Aside0 (corpus_texts.j2 kq x26_1 l0_2 (l0_2.length : Int) x26_1 x62_36 l0_0 l0_1 l0_2 l0_3 l0_4 l0_5 l0_6 ((rd_T61 l0_2 x26_1).f0) ((rd_T61 l0_2 x26_1).f1) ((rd_T61 l0_2 x26_1).f2) ((rd_T61 l0_2 x26_1).f3) = some (r1, r2)) ∧ Aside0 (kq ≤ kj21) ∧ Aside0 (wc.heap[gb140]? = some (.cells #[(.slice A0_0 l0_0.length c0_0), (.slice A0_1 l0_1.length c0_1), (.slice (some ad141) l0_2.length c0_2), (.slice A0_3 l0_3.length c0_3), (.slice A0_4 l0_4.length c0_4), (.slice A0_5 l0_5.length c0_5), (.slice A0_6 l0_6.length c0_6)] 30 (0, 0))) ∧ Aside0 (wc.heap[gb142]? = some (.cells #[.string ((rd_T61 l0_2 x26_1).f0), .int .i64 ((rd_T61 l0_2 x26_1).f1), .int .i64 ((rd_T61 l0_2 x26_1).f2), (.slice A141_3 ((rd_T61 l0_2 x26_1).f3).length c141_3)] 61 (0, 0))) ∧ Aside0 (Below w.heap.size w wc))
                          case first =>
                            have H := HC37.out
                            clear HC37
                            by_cases c38 : x26_1 = (wrap64 ((l0_2.length : Int) - 1))
                            · rw [if_pos c38] at H
                              have c38b0 : (x26_1 == (wrap64 ((l0_2.length : Int) - 1))) = true := beq_iff_eq.mpr c38
                              have c38b1 : (x26_1 != (wrap64 ((l0_2.length : Int) - 1))) = false := bne_eq_false_iff_eq.mpr c38
                              clear c38
                              (first | rw [c38b0] | rw [c38b1] | (simp only [i64_w, i32_w]; rw [c38b0]) | skip)
                              have H' := Aside0.mk H
                              clear H
                              have hnb39 := NB140_142.out
                              have hnc39 := NB142_140.out
                              have hcz40_0 : wc.cell? ⟨gb140, 0, none⟩ = some (.slice A0_0 l0_0.length c0_0) := (blk_cell BK140.out 0).trans rfl
                              have hcz40_1 : wc.cell? ⟨gb140, 1, none⟩ = some (.slice A0_1 l0_1.length c0_1) := (blk_cell BK140.out 1).trans rfl
                              have hcz40_2 : wc.cell? ⟨gb140, 2, none⟩ = some (.slice (some ad141) l0_2.length c0_2) := (blk_cell BK140.out 2).trans rfl
                              have hcz40_3 : wc.cell? ⟨gb140, 3, none⟩ = some (.slice A0_3 l0_3.length c0_3) := (blk_cell BK140.out 3).trans rfl
                              have hcz40_4 : wc.cell? ⟨gb140, 4, none⟩ = some (.slice A0_4 l0_4.length c0_4) := (blk_cell BK140.out 4).trans rfl
                              have hcz40_5 : wc.cell? ⟨gb140, 5, none⟩ = some (.slice A0_5 l0_5.length c0_5) := (blk_cell BK140.out 5).trans rfl
                              have hcz40_6 : wc.cell? ⟨gb140, 6, none⟩ = some (.slice A0_6 l0_6.length c0_6) := (blk_cell BK140.out 6).trans rfl
                              have hfz40_0 := blk_frozen BK140.out 0
                              have hfz40_1 := blk_frozen BK140.out 1
                              have hfz40_2 := blk_frozen BK140.out 2
                              have hfz40_3 := blk_frozen BK140.out 3
                              have hfz40_4 := blk_frozen BK140.out 4
                              have hfz40_5 := blk_frozen BK140.out 5
                              have hfz40_6 := blk_frozen BK140.out 6
                              have hcz41_0 : wc.cell? ⟨gb142, 0, none⟩ = some (.string ((rd_T61 l0_2 x26_1).f0)) := (blk_cell BK142.out 0).trans rfl
                              have hcz41_1 : wc.cell? ⟨gb142, 1, none⟩ = some (.int .i64 ((rd_T61 l0_2 x26_1).f1)) := (blk_cell BK142.out 1).trans rfl
                              have hcz41_2 : wc.cell? ⟨gb142, 2, none⟩ = some (.int .i64 ((rd_T61 l0_2 x26_1).f2)) := (blk_cell BK142.out 2).trans rfl
                              have hcz41_3 : wc.cell? ⟨gb142, 3, none⟩ = some (.slice A141_3 ((rd_T61 l0_2 x26_1).f3).length c141_3) := (blk_cell BK142.out 3).trans rfl
                              have hfz41_0 := blk_frozen BK142.out 0
                              have hfz41_1 := blk_frozen BK142.out 1
                              have hfz41_2 := blk_frozen BK142.out 2
                              have hfz41_3 := blk_frozen BK142.out 3
                              go_wp2
                              go_meet
                              case rel => exact ⟨_, ((((rd_T61 l0_2 x26_1).f2) != (l0_1.length : Int))), (by first | rfl | (simp; done) | (simp [*]; done)), H', ⟨by have := HK1.out; have := HJ21.out; first | omega | exact Nat.le_refl _⟩, ⟨by (with_reducible repeat (first | refine blk_drewN ?_ _ | refine blk_drew ?_ | refine blk_alloc ?_ _)); exact BK140.out⟩, ⟨by (with_reducible repeat (first | refine blk_drewN ?_ _ | refine blk_drew ?_ | refine blk_alloc ?_ _)); exact BK142.out⟩, ⟨by repeat (first | (with_reducible first | exact HB.out | apply below_alloc | apply pw_below_drewN | apply below_drew1 | refine below_set ?_ GE140.out | refine below_set ?_ GE142.out) | exact HB.out)⟩⟩
                            · rw [if_neg c38] at H
                              have c38b0 : (x26_1 == (wrap64 ((l0_2.length : Int) - 1))) = false := beq_eq_false_iff_ne.mpr c38
                              have c38b1 : (x26_1 != (wrap64 ((l0_2.length : Int) - 1))) = true := bne_iff_ne.mpr c38
                              (first | rw [c38b0] | rw [c38b1] | (simp only [i64_w, i32_w]; rw [c38b0]) | skip)
                              have H' := Aside0.mk H
                              clear H
                              have hnb42 := NB140_142.out
                              have hnc42 := NB142_140.out
                              have hcz43_0 : wc.cell? ⟨gb140, 0, none⟩ = some (.slice A0_0 l0_0.length c0_0) := (blk_cell BK140.out 0).trans rfl
                              have hcz43_1 : wc.cell? ⟨gb140, 1, none⟩ = some (.slice A0_1 l0_1.length c0_1) := (blk_cell BK140.out 1).trans rfl
                              have hcz43_2 : wc.cell? ⟨gb140, 2, none⟩ = some (.slice (some ad141) l0_2.length c0_2) := (blk_cell BK140.out 2).trans rfl
                              have hcz43_3 : wc.cell? ⟨gb140, 3, none⟩ = some (.slice A0_3 l0_3.length c0_3) := (blk_cell BK140.out 3).trans rfl
                              have hcz43_4 : wc.cell? ⟨gb140, 4, none⟩ = some (.slice A0_4 l0_4.length c0_4) := (blk_cell BK140.out 4).trans rfl
                              have hcz43_5 : wc.cell? ⟨gb140, 5, none⟩ = some (.slice A0_5 l0_5.length c0_5) := (blk_cell BK140.out 5).trans rfl
                              have hcz43_6 : wc.cell? ⟨gb140, 6, none⟩ = some (.slice A0_6 l0_6.length c0_6) := (blk_cell BK140.out 6).trans rfl
                              have hfz43_0 := blk_frozen BK140.out 0
                              have hfz43_1 := blk_frozen BK140.out 1
                              have hfz43_2 := blk_frozen BK140.out 2
                              have hfz43_3 := blk_frozen BK140.out 3
                              have hfz43_4 := blk_frozen BK140.out 4
                              have hfz43_5 := blk_frozen BK140.out 5
                              have hfz43_6 := blk_frozen BK140.out 6
                              go_wp2
                              go_meet
                              case rel => exact ⟨_, (false), (by first | rfl | (simp; done) | (simp [*]; done)), H', ⟨by have := HK1.out; have := HJ21.out; first | omega | exact Nat.le_refl _⟩, ⟨by (with_reducible repeat (first | refine blk_drewN ?_ _ | refine blk_drew ?_ | refine blk_alloc ?_ _)); exact BK140.out⟩, ⟨by (with_reducible repeat (first | refine blk_drewN ?_ _ | refine blk_drew ?_ | refine blk_alloc ?_ _)); exact BK142.out⟩, ⟨by repeat (first | (with_reducible first | exact HB.out | apply below_alloc | apply pw_below_drewN | apply below_drew1 | refine below_set ?_ GE140.out | refine below_set ?_ GE142.out) | exact HB.out)⟩⟩
                          case rest =>
                            clear HC37
                            try clear c1
                            try clear p1
                            try clear q1
                            try clear hx1
                            try clear c2
                            try clear c2b0
                            try clear c2b1
                            try clear p2
                            try clear c3
                            try clear c4
                            try clear c5
                            try clear c5b0
                            try clear c5b1
                            try clear c5b2
                            try clear p6
                            try clear c10
                            try clear c10b0
                            try clear c11
                            try clear c11b0
                            try clear c12
                            try clear c12b0
                            try clear c14
                            try clear p14
                            try clear q14
                            try clear hx14
                            try clear c16
                            try clear c16b0
                            try clear c18
                            try clear c24
                            try clear c29
                            try clear c29b0
                            try clear c29b1
                            try clear c30
                            try clear c30b0
                            try clear c31
                            try clear c32
                            try clear c33
                            try clear c34
                            try clear c36
                            try clear c38
                            try clear c38b0
                            try clear c38b1
                            try clear c39
                            try clear c42
                            try clear hcz19_0
                            try clear hcz19_1
                            try clear hcz19_2
                            try clear hcz19_3
                            try clear hcz20_0
                            try clear hcz20_1
                            try clear hcz20_2
                            try clear hcz20_3
                            try clear hcz20_4
                            try clear hcz20_5
                            try clear hcz20_6
                            try clear hcz25_0
                            try clear hcz25_1
                            try clear hcz25_2
                            try clear hcz25_3
                            try clear hcz26_0
                            try clear hcz26_1
                            try clear hcz26_2
                            try clear hcz26_3
                            try clear hcz26_4
                            try clear hcz26_5
                            try clear hcz26_6
                            try clear hcz28_0
                            try clear hcz28_1
                            try clear hcz28_2
                            try clear hcz28_3
                            try clear hcz32_0
                            try clear hcz32_1
                            try clear hcz32_2
                            try clear hcz32_3
                            try clear hcz34_0
                            try clear hcz34_1
                            try clear hcz34_2
                            try clear hcz34_3
                            try clear hcz35_0
                            try clear hcz35_1
                            try clear hcz35_2
                            try clear hcz35_3
                            try clear hcz35_4
                            try clear hcz35_5
                            try clear hcz35_6
                            try clear hcz40_0
                            try clear hcz40_1
                            try clear hcz40_2
                            try clear hcz40_3
                            try clear hcz40_4
                            try clear hcz40_5
                            try clear hcz40_6
                            try clear hcz41_0
                            try clear hcz41_1
                            try clear hcz41_2
                            try clear hcz41_3
                            try clear hcz43_0
                            try clear hcz43_1
                            try clear hcz43_2
                            try clear hcz43_3
                            try clear hcz43_4
                            try clear hcz43_5
                            try clear hcz43_6
                            try clear hcz4_0
                            try clear hcz4_1
                            try clear hcz4_2
                            try clear hcz4_3
                            try clear hcz4_4
                            try clear hcz4_5
                            try clear hcz4_6
                            try clear hcz7_0
                            try clear hcz7_1
                            try clear hcz7_2
                            try clear hcz7_3
                            try clear hcz7_4
                            try clear hcz7_5
                            try clear hcz7_6
                            try clear hcz9_0
                            try clear hcz9_1
                            try clear hcz9_2
                            try clear hcz9_3
                            try clear hcz9_4
                            try clear hcz9_5
                            try clear hcz9_6
                            try clear hfz19_0
                            try clear hfz19_1
                            try clear hfz19_2
                            try clear hfz19_3
                            try clear hfz20_0
                            try clear hfz20_1
                            try clear hfz20_2
                            try clear hfz20_3
                            try clear hfz20_4
                            try clear hfz20_5
                            try clear hfz20_6
                            try clear hfz25_0
                            try clear hfz25_1
                            try clear hfz25_2
                            try clear hfz25_3
                            try clear hfz26_0
                            try clear hfz26_1
                            try clear hfz26_2
                            try clear hfz26_3
                            try clear hfz26_4
                            try clear hfz26_5
                            try clear hfz26_6
                            try clear hfz28_0
                            try clear hfz28_1
                            try clear hfz28_2
                            try clear hfz28_3
                            try clear hfz32_0
                            try clear hfz32_1
                            try clear hfz32_2
                            try clear hfz32_3
                            try clear hfz34_0
                            try clear hfz34_1
                            try clear hfz34_2
                            try clear hfz34_3
                            try clear hfz35_0
                            try clear hfz35_1
                            try clear hfz35_2
                            try clear hfz35_3
                            try clear hfz35_4
                            try clear hfz35_5
                            try clear hfz35_6
                            try clear hfz40_0
                            try clear hfz40_1
                            try clear hfz40_2
                            try clear hfz40_3
                            try clear hfz40_4
                            try clear hfz40_5
                            try clear hfz40_6
                            try clear hfz41_0
                            try clear hfz41_1
                            try clear hfz41_2
                            try clear hfz41_3
                            try clear hfz43_0
                            try clear hfz43_1
                            try clear hfz43_2
                            try clear hfz43_3
                            try clear hfz43_4
                            try clear hfz43_5
                            try clear hfz43_6
                            try clear hfz4_0
                            try clear hfz4_1
                            try clear hfz4_2
                            try clear hfz4_3
                            try clear hfz4_4
                            try clear hfz4_5
                            try clear hfz4_6
                            try clear hfz7_0
                            try clear hfz7_1
                            try clear hfz7_2
                            try clear hfz7_3
                            try clear hfz7_4
                            try clear hfz7_5
                            try clear hfz7_6
                            try clear hfz9_0
                            try clear hfz9_1
                            try clear hfz9_2
                            try clear hfz9_3
                            try clear hfz9_4
                            try clear hfz9_5
                            try clear hfz9_6
                            try clear hx141_0
                            try clear hx141_1
                            try clear hx141_2
                            try clear hx141_3
                            try clear p1
                            try clear p14
                            try clear p141
                            try clear p2
                            try clear q1
                            try clear q14
                            try clear q141
                            obtain ⟨kq, x62_36, rfl, HA, HJ36, BK140, BK142, HB⟩ := hcut
                            cases kq with
                            | zero => exact absurd HA.out (by simp [corpus_texts.j2])
                            | succ kj36 =>
                              have H := HA.out
                              clear HA
                              simp only [corpus_texts.j2] at H
                              by_cases c44 : x62_36 = true
                              · subst c44
                                have H1 : (some (x26_1, 8)) = some (r1, r2) := by rw [if_pos rfl] at H; exact H
                                clear H
                                have H := H1
                                clear H1
                                simp only [Option.some.injEq, Prod.mk.injEq] at H
                                obtain ⟨rfl, rfl⟩ := H
                                go_wp2
                                go_ret2
                                exact ⟨by first | rfl | (simp [errW_none, errW_some] <;> rfl) | (simp [*, errW_none, errW_some] <;> rfl), by repeat (first | (with_reducible first | exact HB.out | apply below_alloc | apply pw_below_drewN | apply below_drew1 | refine below_set ?_ GE140.out | refine below_set ?_ GE142.out) | exact HB.out)⟩
                              · replace c44 := Bool.eq_false_iff.mpr c44
                                subst c44
                                have H1 : ((corpus_errorOfPairs.f kj36 ((rd_T61 l0_2 x26_1).f3)).bind fun t145 => (if t145 = 0 then (corpus_texts.l0 kj36 ((rd_T61 l0_2 x26_1).f2) l0_2 (l0_2.length : Int) (wrap64 (x26_1 + 1)) l0_0 l0_1 l0_2 l0_3 l0_4 l0_5 l0_6) else (some (x26_1, t145)))) = some (r1, r2) := by rw [if_neg (show ¬ (false = true) by decide)] at H; exact H
                                clear H
                                have H := H1
                                clear H1
                                replace H := Option.bind_eq_some_iff.mp H
                                obtain ⟨t145, A450, H⟩ := H
                                replace H : (if t145 = 0 then (corpus_texts.l0 kj36 ((rd_T61 l0_2 x26_1).f2) l0_2 (l0_2.length : Int) (wrap64 (x26_1 + 1)) l0_0 l0_1 l0_2 l0_3 l0_4 l0_5 l0_6) else (some (x26_1, t145))) = some (r1, r2) := H
                                have A45 := Aside0.mk A450
                                clear A450
                                by_cases c46 : t145 = 0
                                · rw [if_pos c46] at H
                                  have c46b0 : (t145 == 0) = true := beq_iff_eq.mpr c46
                                  have c46b1 : (t145 != 0) = false := bne_eq_false_iff_eq.mpr c46
                                  clear c46
                                  have H' := Aside0.mk H
                                  clear H
                                  have hnb47 := NB142_140.out
                                  have hnc47 := NB140_142.out
                                  have hcz48_0 : wc.cell? ⟨gb142, 0, none⟩ = some (.string ((rd_T61 l0_2 x26_1).f0)) := (blk_cell BK142.out 0).trans rfl
                                  have hcz48_1 : wc.cell? ⟨gb142, 1, none⟩ = some (.int .i64 ((rd_T61 l0_2 x26_1).f1)) := (blk_cell BK142.out 1).trans rfl
                                  have hcz48_2 : wc.cell? ⟨gb142, 2, none⟩ = some (.int .i64 ((rd_T61 l0_2 x26_1).f2)) := (blk_cell BK142.out 2).trans rfl
                                  have hcz48_3 : wc.cell? ⟨gb142, 3, none⟩ = some (.slice A141_3 ((rd_T61 l0_2 x26_1).f3).length c141_3) := (blk_cell BK142.out 3).trans rfl
                                  have hfz48_0 := blk_frozen BK142.out 0
                                  have hfz48_1 := blk_frozen BK142.out 1
                                  have hfz48_2 := blk_frozen BK142.out 2
                                  have hfz48_3 := blk_frozen BK142.out 3
                                  go_wp2_with (first | ((with_reducible refine gate_callee (f := 35) rfl ?_); refine goesL_ (some 80) rfl rfl Tryd.func35 (by kernel_rfl) rfl #[.slice A141_3 ((rd_T61 l0_2 x26_1).f3).length c141_3] rfl (by (try simp only [List.map_toArray, List.map_cons, List.map_nil]); first | done | rfl | (simp only [List.length_drop, List.length_take]; rfl)) ?_; (with_reducible refine (corpus_errorOfPairs.calls kj36 _ _ ((rd_T61 l0_2 x26_1).f3) t145 _ ?side1 ?side2 A45.out).mono ?_); (case side1 => repeat (first | exact (Kd.C_below HR141_3.out HB.out) | (with_reducible refine Kd.C_alloc ?_ _) | (with_reducible refine Kd.C_drewN ?_ _) | (with_reducible refine Kd.C_drew ?_))); (case side2 => exact HC141_3.out); rintro e w49 ⟨rfl, hb⟩; refine ⟨_, rfl, ?_⟩; have n0_ := Aside0.mk (blk_below (g := gb140) (o := .cells #[.slice A0_0 l0_0.length c0_0, .slice A0_1 l0_1.length c0_1, .slice (some ad141) l0_2.length c0_2, .slice A0_3 l0_3.length c0_3, .slice A0_4 l0_4.length c0_4, .slice A0_5 l0_5.length c0_5, .slice A0_6 l0_6.length c0_6] 30 (0, 0)) (by (with_reducible repeat (first | refine blk_drewN ?_ _ | refine blk_drew ?_ | refine blk_alloc ?_ _)); exact BK140.out) hb); have n1_ := Aside0.mk (blk_below (g := gb142) (o := .cells #[.string ((rd_T61 l0_2 x26_1).f0), .int .i64 ((rd_T61 l0_2 x26_1).f1), .int .i64 ((rd_T61 l0_2 x26_1).f2), .slice A141_3 ((rd_T61 l0_2 x26_1).f3).length c141_3] 61 (0, 0)) (by (with_reducible repeat (first | refine blk_drewN ?_ _ | refine blk_drew ?_ | refine blk_alloc ?_ _)); exact BK142.out) hb); have n2_ := Aside0.mk (below_step (by repeat (first | (with_reducible first | exact HB.out | apply below_alloc | apply pw_below_drewN | apply below_drew1 | refine below_set ?_ GE140.out | refine below_set ?_ GE142.out) | exact HB.out)) hb); clear BK140; clear BK142; clear HB; have BK140 := n0_; have BK142 := n1_; have HB := n2_; clear n0_ n1_ n2_; (try clear hb); (try clear hb2); (try clear hk); (try clear hi); have hcz50_0 : w49.cell? ⟨gb142, 0, none⟩ = some (.string ((rd_T61 l0_2 x26_1).f0)) := (blk_cell BK142.out 0).trans rfl; have hcz50_1 : w49.cell? ⟨gb142, 1, none⟩ = some (.int .i64 ((rd_T61 l0_2 x26_1).f1)) := (blk_cell BK142.out 1).trans rfl; have hcz50_2 : w49.cell? ⟨gb142, 2, none⟩ = some (.int .i64 ((rd_T61 l0_2 x26_1).f2)) := (blk_cell BK142.out 2).trans rfl; have hcz50_3 : w49.cell? ⟨gb142, 3, none⟩ = some (.slice A141_3 ((rd_T61 l0_2 x26_1).f3).length c141_3) := (blk_cell BK142.out 3).trans rfl; have hfz50_0 := blk_frozen BK142.out 0; have hfz50_1 := blk_frozen BK142.out 1; have hfz50_2 := blk_frozen BK142.out 2; have hfz50_3 := blk_frozen BK142.out 3))
                                  go_roundg kj36
                                  case measure => have := HK1.out; have := HJ21.out; have := HJ36.out; omega
                                  case rel => exact ⟨(((rd_T61 l0_2 x26_1).f2)), (wrap64 (x26_1 + 1)), (by first | rfl | (simp; done) | (simp [*]; done)), (by first | rfl | (simp; done) | (simp [*]; done)), H', ⟨by have := HK1.out; have := HJ21.out; have := HJ36.out; omega⟩, ⟨by (with_reducible repeat (first | refine blk_drewN ?_ _ | refine blk_drew ?_ | refine blk_alloc ?_ _)); exact BK140.out⟩, ⟨by repeat (first | (with_reducible first | exact HB.out | apply below_alloc | apply pw_below_drewN | apply below_drew1 | refine below_set ?_ GE140.out | refine below_set ?_ GE142.out) | exact HB.out)⟩⟩
                                · rw [if_neg c46] at H
                                  have c46b0 : (t145 == 0) = false := beq_eq_false_iff_ne.mpr c46
                                  have c46b1 : (t145 != 0) = true := bne_iff_ne.mpr c46
                                  simp only [Option.some.injEq, Prod.mk.injEq] at H
                                  obtain ⟨rfl, rfl⟩ := H
                                  have hnb51 := NB142_140.out
                                  have hnc51 := NB140_142.out
                                  have hcz52_0 : wc.cell? ⟨gb142, 0, none⟩ = some (.string ((rd_T61 l0_2 x26_1).f0)) := (blk_cell BK142.out 0).trans rfl
                                  have hcz52_1 : wc.cell? ⟨gb142, 1, none⟩ = some (.int .i64 ((rd_T61 l0_2 x26_1).f1)) := (blk_cell BK142.out 1).trans rfl
                                  have hcz52_2 : wc.cell? ⟨gb142, 2, none⟩ = some (.int .i64 ((rd_T61 l0_2 x26_1).f2)) := (blk_cell BK142.out 2).trans rfl
                                  have hcz52_3 : wc.cell? ⟨gb142, 3, none⟩ = some (.slice A141_3 ((rd_T61 l0_2 x26_1).f3).length c141_3) := (blk_cell BK142.out 3).trans rfl
                                  have hfz52_0 := blk_frozen BK142.out 0
                                  have hfz52_1 := blk_frozen BK142.out 1
                                  have hfz52_2 := blk_frozen BK142.out 2
                                  have hfz52_3 := blk_frozen BK142.out 3
                                  go_wp2_with (first | ((with_reducible refine gate_callee (f := 35) rfl ?_); refine goesL_ (some 80) rfl rfl Tryd.func35 (by kernel_rfl) rfl #[.slice A141_3 ((rd_T61 l0_2 x26_1).f3).length c141_3] rfl (by (try simp only [List.map_toArray, List.map_cons, List.map_nil]); first | done | rfl | (simp only [List.length_drop, List.length_take]; rfl)) ?_; (with_reducible refine (corpus_errorOfPairs.calls kj36 _ _ ((rd_T61 l0_2 x26_1).f3) t145 _ ?side1 ?side2 A45.out).mono ?_); (case side1 => repeat (first | exact (Kd.C_below HR141_3.out HB.out) | (with_reducible refine Kd.C_alloc ?_ _) | (with_reducible refine Kd.C_drewN ?_ _) | (with_reducible refine Kd.C_drew ?_))); (case side2 => exact HC141_3.out); rintro e w53 ⟨rfl, hb⟩; refine ⟨_, rfl, ?_⟩; have n0_ := Aside0.mk (blk_below (g := gb140) (o := .cells #[.slice A0_0 l0_0.length c0_0, .slice A0_1 l0_1.length c0_1, .slice (some ad141) l0_2.length c0_2, .slice A0_3 l0_3.length c0_3, .slice A0_4 l0_4.length c0_4, .slice A0_5 l0_5.length c0_5, .slice A0_6 l0_6.length c0_6] 30 (0, 0)) (by (with_reducible repeat (first | refine blk_drewN ?_ _ | refine blk_drew ?_ | refine blk_alloc ?_ _)); exact BK140.out) hb); have n1_ := Aside0.mk (blk_below (g := gb142) (o := .cells #[.string ((rd_T61 l0_2 x26_1).f0), .int .i64 ((rd_T61 l0_2 x26_1).f1), .int .i64 ((rd_T61 l0_2 x26_1).f2), .slice A141_3 ((rd_T61 l0_2 x26_1).f3).length c141_3] 61 (0, 0)) (by (with_reducible repeat (first | refine blk_drewN ?_ _ | refine blk_drew ?_ | refine blk_alloc ?_ _)); exact BK142.out) hb); have n2_ := Aside0.mk (below_step (by repeat (first | (with_reducible first | exact HB.out | apply below_alloc | apply pw_below_drewN | apply below_drew1 | refine below_set ?_ GE140.out | refine below_set ?_ GE142.out) | exact HB.out)) hb); clear BK140; clear BK142; clear HB; have BK140 := n0_; have BK142 := n1_; have HB := n2_; clear n0_ n1_ n2_; (try clear hb); (try clear hb2); (try clear hk); (try clear hi)))
                                  go_ret2
                                  exact ⟨by first | rfl | (simp [errW_none, errW_some] <;> rfl) | (simp [*, errW_none, errW_some] <;> rfl), by repeat (first | (with_reducible first | exact HB.out | apply below_alloc | apply pw_below_drewN | apply below_drew1 | refine below_set ?_ GE140.out | refine below_set ?_ GE142.out) | exact HB.out)⟩
                · replace c14 := Bool.eq_false_iff.mpr c14
                  subst c14
                  have H1 : (some (x26_1, 4)) = some (r1, r2) := by rw [if_neg (show ¬ (false = true) by decide)] at H; exact H
                  clear H
                  have H := H1
                  clear H1
                  simp only [Option.some.injEq, Prod.mk.injEq] at H
                  obtain ⟨rfl, rfl⟩ := H
                  have p141 : 0 ≤ (x26_1 : Int) := of_decide_eq_true (by first | (with_reducible assumption) | assumption)
                  have q141 : x26_1 < (l0_2.length : Int) := of_decide_eq_true (by first | (with_reducible assumption) | assumption)
                  obtain ⟨ad141, A141_3, c141_3, e141, hx141_0, hx141_1, hx141_2, hx141_3, hl141_3, hi141_3⟩ := at_T61 HR0_2.out x26_1 p141 q141
                  cases e141
                  replace hx141_0 := (HB.out.cell (World.block_lt_of_cell? w _ hx141_0)).trans hx141_0
                  replace hx141_1 := (HB.out.cell (World.block_lt_of_cell? w _ hx141_1)).trans hx141_1
                  replace hx141_2 := (HB.out.cell (World.block_lt_of_cell? w _ hx141_2)).trans hx141_2
                  replace hx141_3 := (HB.out.cell (World.block_lt_of_cell? w _ hx141_3)).trans hx141_3
                  have HR141_3 := Aside0.mk hi141_3
                  have HC141_3 := Aside0.mk hl141_3
                  clear hi141_3 hl141_3
                  replace p141 := eq_true p141
                  replace q141 := eq_true q141
                  go_wp2_with (first | ((with_reducible refine gate_dst (N := 6) rfl ?_); (try (refine gate_guard (by rfl) ?_; dsimp only)); refine box_event ?hg (N := 6) ?hd (cs := #[.string (⟨#[]⟩ : ByteArray), .int .i64 0, .int .i64 0, .slice none 0 0]) (t := 61) ?hr ?_; (case hd => rfl); (case hg => rfl); (case hr => first | (go_simp; done) | (go_simp; rfl)); intro gb142 hg w54 hbox hb; have n0_ := Aside0.mk (blk_below (g := gb140) (o := .cells #[.slice A0_0 l0_0.length c0_0, .slice A0_1 l0_1.length c0_1, .slice (some ad141) l0_2.length c0_2, .slice A0_3 l0_3.length c0_3, .slice A0_4 l0_4.length c0_4, .slice A0_5 l0_5.length c0_5, .slice A0_6 l0_6.length c0_6] 30 (0, 0)) (by (with_reducible repeat (first | refine blk_drewN ?_ _ | refine blk_drew ?_ | refine blk_alloc ?_ _)); exact BK140.out) hb); have n1_ := Aside0.mk (below_step (by repeat (first | (with_reducible first | exact HB.out | apply below_alloc | apply pw_below_drewN | apply below_drew1 | refine below_set ?_ GE140.out) | exact HB.out)) hb); have n2_ := Aside0.mk (hbox); have n3_ := Aside0.mk ((by rw [hg]; exact (below_size (by repeat (first | (with_reducible first | exact HB.out | apply below_alloc | apply pw_below_drewN | apply below_drew1 | refine below_set ?_ GE140.out) | exact HB.out))) : w.heap.size ≤ gb142)); have n4_ := Aside0.mk ((by rw [hg]; exact (below_size (by repeat (first | (with_reducible first | exact HB.out | apply below_alloc | apply pw_below_drewN | apply below_drew1 | refine below_set ?_ GE140.out) | exact HB.out))) : w.heap.size ≤ gb142)); have n5_ := Aside0.mk ((by rw [hg]; exact Nat.ne_of_lt (blk_lt (g := gb140) (o := .cells #[.slice A0_0 l0_0.length c0_0, .slice A0_1 l0_1.length c0_1, .slice (some ad141) l0_2.length c0_2, .slice A0_3 l0_3.length c0_3, .slice A0_4 l0_4.length c0_4, .slice A0_5 l0_5.length c0_5, .slice A0_6 l0_6.length c0_6] 30 (0, 0)) (by (with_reducible repeat (first | refine blk_drewN ?_ _ | refine blk_drew ?_ | refine blk_alloc ?_ _)); exact BK140.out)) : gb140 ≠ gb142)); have n6_ := Aside0.mk ((by rw [hg]; exact Nat.ne_of_gt (blk_lt (g := gb140) (o := .cells #[.slice A0_0 l0_0.length c0_0, .slice A0_1 l0_1.length c0_1, .slice (some ad141) l0_2.length c0_2, .slice A0_3 l0_3.length c0_3, .slice A0_4 l0_4.length c0_4, .slice A0_5 l0_5.length c0_5, .slice A0_6 l0_6.length c0_6] 30 (0, 0)) (by (with_reducible repeat (first | refine blk_drewN ?_ _ | refine blk_drew ?_ | refine blk_alloc ?_ _)); exact BK140.out)) : gb142 ≠ gb140)); clear BK140; clear HB; have BK140 := n0_; have HB := n1_; have BK142 := n2_; have GW142 := n3_; have GE142 := n4_; have NB140_142 := n5_; have NB142_140 := n6_; clear n0_ n1_ n2_ n3_ n4_ n5_ n6_; clear hb hbox hg; have hnb55 := NB142_140.out; have hnc55 := NB140_142.out; have hcz56_0 : w54.cell? ⟨gb142, 0, none⟩ = some (.string (⟨#[]⟩ : ByteArray)) := (blk_cell BK142.out 0).trans rfl; have hcz56_1 : w54.cell? ⟨gb142, 1, none⟩ = some (.int .i64 0) := (blk_cell BK142.out 1).trans rfl; have hcz56_2 : w54.cell? ⟨gb142, 2, none⟩ = some (.int .i64 0) := (blk_cell BK142.out 2).trans rfl; have hcz56_3 : w54.cell? ⟨gb142, 3, none⟩ = some (.slice none 0 0) := (blk_cell BK142.out 3).trans rfl; have hfz56_0 := blk_frozen BK142.out 0; have hfz56_1 := blk_frozen BK142.out 1; have hfz56_2 := blk_frozen BK142.out 2; have hfz56_3 := blk_frozen BK142.out 3) | ((with_reducible refine gate_callee (f := 32) rfl ?_); refine goesL_ (some 34) rfl rfl Tryd.func32 (by kernel_rfl) rfl #[.string ((rd_T61 l0_2 x26_1).f0)] rfl (by (try simp only [List.map_toArray, List.map_cons, List.map_nil]); first | done | rfl | (simp only [List.length_drop, List.length_take]; rfl)) ?_; (with_reducible refine (markup_ValidName.calls k1 ((rd_T61 l0_2 x26_1).f0) false _ A13.out).mono ?_); rintro e w' ⟨rfl, ⟨nd, rfl⟩⟩; refine ⟨_, rfl, ?_⟩))
                  go_ret2
                  exact ⟨by first | rfl | (simp [errW_none, errW_some] <;> rfl) | (simp [*, errW_none, errW_some] <;> rfl), by repeat (first | (with_reducible first | exact HB.out | apply below_alloc | apply pw_below_drewN | apply below_drew1 | refine below_set ?_ GE140.out | refine below_set ?_ GE142.out) | exact HB.out)⟩
              · rw [if_neg c12] at H
                exact absurd H (by simp)
            · rw [if_neg c11] at H
              exact absurd H (by simp)
          · rw [if_neg c10] at H
            have c10b0 : decide (x26_1 < (l0_2.length : Int)) = false := decide_eq_false c10
            clear c10
            simp only [Option.some.injEq, Prod.mk.injEq] at H
            obtain ⟨rfl, rfl⟩ := H
            go_wp2
            go_ret2
            exact ⟨by first | rfl | (simp [errW_none, errW_some] <;> rfl) | (simp [*, errW_none, errW_some] <;> rfl), by repeat (first | (with_reducible first | exact HB.out | apply below_alloc | apply pw_below_drewN | apply below_drew1 | refine below_set ?_ GE140.out) | exact HB.out)⟩

end Go.Proofs.YtebajpebongabaaDoor.P
