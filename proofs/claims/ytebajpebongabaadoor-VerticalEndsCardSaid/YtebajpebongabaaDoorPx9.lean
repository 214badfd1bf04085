-- Written by a program of this session (wip/doprint.sh) out of the translation; Lean checks it.
import Derived.Test.YtebajpebongabaaDoorPx0
import Derived.Test.YtebajpebongabaaDoorPx8
namespace Go.Proofs.YtebajpebongabaaDoor.P
open Go.Proofs.YtebajpebongabaaDoor.X
open Go.RowKit Go.Proofs.YtebajpebongabaaDoorW.PrintWords Go.Proofs.YtebajpebongabaaDoorW.PrintLast Go.Proofs.YtebajpebongabaaDoorW.PrintMore
attribute [local go_sem] max2_int min2_int max_two min_two max_three min_three max_four min_four   -- for this text's walks alone
set_option linter.unusedVariables false
set_option linter.unusedSimpArgs false

/-! ### corpus_tokens: function 15 -/
mutual
def corpus_tokens.l0 : Nat → List (List ByteArray) → Int → Int → List (S55) → List (List ByteArray) → List (S61) → List (S58) → List (S64) → List Int → List ByteArray → Option (Int × Int)
  | 0, _, _, _, _, _, _, _, _, _, _ => none
  | k + 1, x14, x15, x16, x128000, x128001, x128002, x128003, x128004, x128005, x128006 => if x16 < x15 then (if 0 ≤ x16 then (if x16 < (x14.length : Int) then (if ((rd_L3 x14 x16).length : Int) = (x128000.length : Int) then (corpus_tokens.l1 k x16 x14 x15 x16 (rd_L3 x14 x16) ((rd_L3 x14 x16).length : Int) 0 x128000 x128001 x128002 x128003 x128004 x128005 x128006) else (some (x16, 15))) else (none)) else (none)) else (some (0, 0))
def corpus_tokens.l1 : Nat → Int → List (List ByteArray) → Int → Int → List ByteArray → Int → Int → List (S55) → List (List ByteArray) → List (S61) → List (S58) → List (S64) → List Int → List ByteArray → Option (Int × Int)
  | 0, _, _, _, _, _, _, _, _, _, _, _, _, _, _ => none
  | k + 1, x4, x14, x15, x16, x28, x29, x30, x128000, x128001, x128002, x128003, x128004, x128005, x128006 => if x30 < x29 then (if 0 ≤ x30 then (if x30 < (x28.length : Int) then (if x30 < (x128000.length : Int) then ((corpus_errorOfValue.f k ((rd_T55 x128000 x30).f0) ((rd_T55 x128000 x30).f1) (rdOf ByteArray.empty x28 x30)).bind fun t131 => (if t131 = 0 then (corpus_tokens.l1 k x4 x14 x15 x16 x28 x29 (wrap64 (x30 + 1)) x128000 x128001 x128002 x128003 x128004 x128005 x128006) else (some (x4, t131)))) else (none)) else (none)) else (none)) else (corpus_tokens.l0 k x14 x15 (wrap64 (x16 + 1)) x128000 x128001 x128002 x128003 x128004 x128005 x128006)
end
def corpus_tokens.f (k : Nat) (l0_0 : List (S55)) (l0_1 : List (List ByteArray)) (l0_2 : List (S61)) (l0_3 : List (S58)) (l0_4 : List (S64)) (l0_5 : List Int) (l0_6 : List ByteArray) : Option (Int × Int) := if (l0_1.length : Int) > 4096 then (some (0, 2)) else (corpus_tokens.l0 k l0_1 (l0_1.length : Int) 0 l0_0 l0_1 l0_2 l0_3 l0_4 l0_5 l0_6)
theorem corpus_tokens.mono_l : ∀ k, (∀ y0 y1 y2 y3 y4 y5 y6 y7 y8 y9, LeO (corpus_tokens.l0 k y0 y1 y2 y3 y4 y5 y6 y7 y8 y9) (corpus_tokens.l0 (k + 1) y0 y1 y2 y3 y4 y5 y6 y7 y8 y9)) ∧ (∀ y0 y1 y2 y3 y4 y5 y6 y7 y8 y9 y10 y11 y12 y13, LeO (corpus_tokens.l1 k y0 y1 y2 y3 y4 y5 y6 y7 y8 y9 y10 y11 y12 y13) (corpus_tokens.l1 (k + 1) y0 y1 y2 y3 y4 y5 y6 y7 y8 y9 y10 y11 y12 y13))
  | 0 => ⟨fun _ _ _ _ _ _ _ _ _ _ r h => by simp [corpus_tokens.l0] at h, fun _ _ _ _ _ _ _ _ _ _ _ _ _ _ r h => by simp [corpus_tokens.l1] at h⟩
  | k + 1 => by
    obtain ⟨ih0, ih1⟩ := corpus_tokens.mono_l k
    refine ⟨?_, ?_⟩
    · intro y0 y1 y2 y3 y4 y5 y6 y7 y8 y9
      unfold corpus_tokens.l0
      repeat' first
      | (with_reducible exact ih0 _ _ _ _ _ _ _ _ _ _)
      | (with_reducible exact ih1 _ _ _ _ _ _ _ _ _ _ _ _ _ _)
      | (with_reducible exact corpus_errorOfValue.mono _ _ _ _)
      | (with_reducible exact LeO.refl _)
      | (with_reducible exact LeO.none _)
      | (with_reducible refine LeO.ite ?_ ?_)
      | (with_reducible refine LeO.bind ?_ (fun _ => ?_))
      | exact ih0 _ _ _ _ _ _ _ _ _ _
      | exact ih1 _ _ _ _ _ _ _ _ _ _ _ _ _ _
      | exact corpus_errorOfValue.mono _ _ _ _
      | exact LeO.none _
      | refine LeO.ite ?_ ?_
      | refine LeO.bind ?_ (fun _ => ?_)
    · intro y0 y1 y2 y3 y4 y5 y6 y7 y8 y9 y10 y11 y12 y13
      unfold corpus_tokens.l1
      repeat' first
      | (with_reducible exact ih0 _ _ _ _ _ _ _ _ _ _)
      | (with_reducible exact ih1 _ _ _ _ _ _ _ _ _ _ _ _ _ _)
      | (with_reducible exact corpus_errorOfValue.mono _ _ _ _)
      | (with_reducible exact LeO.refl _)
      | (with_reducible exact LeO.none _)
      | (with_reducible refine LeO.ite ?_ ?_)
      | (with_reducible refine LeO.bind ?_ (fun _ => ?_))
      | exact ih0 _ _ _ _ _ _ _ _ _ _
      | exact ih1 _ _ _ _ _ _ _ _ _ _ _ _ _ _
      | exact corpus_errorOfValue.mono _ _ _ _
      | exact LeO.none _
      | refine LeO.ite ?_ ?_
      | refine LeO.bind ?_ (fun _ => ?_)
theorem corpus_tokens.mono : ∀ a0 a1 a2 a3 a4 a5 a6 k, LeO (corpus_tokens.f k a0 a1 a2 a3 a4 a5 a6) (corpus_tokens.f (k + 1) a0 a1 a2 a3 a4 a5 a6) := by
  intro a0 a1 a2 a3 a4 a5 a6 k
  obtain ⟨ih0, ih1⟩ := corpus_tokens.mono_l k
  unfold corpus_tokens.f
  repeat' first
      | (with_reducible exact ih0 _ _ _ _ _ _ _ _ _ _)
      | (with_reducible exact ih1 _ _ _ _ _ _ _ _ _ _ _ _ _ _)
      | (with_reducible exact corpus_errorOfValue.mono _ _ _ _)
      | (with_reducible exact LeO.refl _)
      | (with_reducible exact LeO.none _)
      | (with_reducible refine LeO.ite ?_ ?_)
      | (with_reducible refine LeO.bind ?_ (fun _ => ?_))
      | exact ih0 _ _ _ _ _ _ _ _ _ _
      | exact ih1 _ _ _ _ _ _ _ _ _ _ _ _ _ _
      | exact corpus_errorOfValue.mono _ _ _ _
      | exact LeO.none _
      | refine LeO.ite ?_ ?_
      | refine LeO.bind ?_ (fun _ => ?_)
set_option maxHeartbeats 8000000 in
set_option maxRecDepth 100000 in
theorem corpus_tokens.calls (k : Nat) (A0_0 : Option Addr) (c0_0 : Nat) (l0_0 : List (S55)) (A0_1 : Option Addr) (c0_1 : Nat) (l0_1 : List (List ByteArray)) (A0_2 : Option Addr) (c0_2 : Nat) (l0_2 : List (S61)) (A0_3 : Option Addr) (c0_3 : Nat) (l0_3 : List (S58)) (A0_4 : Option Addr) (c0_4 : Nat) (l0_4 : List (S64)) (A0_5 : Option Addr) (c0_5 : Nat) (l0_5 : List Int) (A0_6 : Option Addr) (c0_6 : Nat) (l0_6 : List ByteArray) (r1 : Int) (r2 : Int) (w : World) (hr0_0 : Kd.C k55 w A0_0 l0_0.length l0_0) (hc0_0 : l0_0.length ≤ c0_0) (hr0_1 : Kd.C (Kd.slice 9 Kd.string) w A0_1 l0_1.length l0_1) (hc0_1 : l0_1.length ≤ c0_1) (hr0_2 : Kd.C k61 w A0_2 l0_2.length l0_2) (hc0_2 : l0_2.length ≤ c0_2) (hr0_3 : Kd.C k58 w A0_3 l0_3.length l0_3) (hc0_3 : l0_3.length ≤ c0_3) (hr0_4 : Kd.C k64 w A0_4 l0_4.length l0_4) (hc0_4 : l0_4.length ≤ c0_4) (hr0_5 : Kd.C (Kd.int .i64) w A0_5 l0_5.length l0_5) (hc0_5 : l0_5.length ≤ c0_5) (hr0_6 : Kd.C Kd.string w A0_6 l0_6.length l0_6) (hc0_6 : l0_6.length ≤ c0_6) (h : corpus_tokens.f k l0_0 l0_1 l0_2 l0_3 l0_4 l0_5 l0_6 = some (r1, r2)) :
    Calls Tryd.prog 15 #[.agg #[.slice A0_0 l0_0.length c0_0, .slice A0_1 l0_1.length c0_1, .slice A0_2 l0_2.length c0_2, .slice A0_3 l0_3.length c0_3, .slice A0_4 l0_4.length c0_4, .slice A0_5 l0_5.length c0_5, .slice A0_6 l0_6.length c0_6]] w fun e w' => e = .returned (.tuple #[.int .i64 r1, .int .i64 r2]) ∧ Below w.heap.size w w' := by
  have hu30 := Tryd.underlying30
  have hu55 := Tryd.underlying55
  have HR0_0 := Aside0.mk hr0_0
  have HC0_0 := Aside0.mk hc0_0
  clear hr0_0 hc0_0
  have HR0_1 := Aside0.mk hr0_1
  have HC0_1 := Aside0.mk hc0_1
  clear hr0_1 hc0_1
  have HR0_2 := Aside0.mk hr0_2
  have HC0_2 := Aside0.mk hc0_2
  clear hr0_2 hc0_2
  have HR0_3 := Aside0.mk hr0_3
  have HC0_3 := Aside0.mk hc0_3
  clear hr0_3 hc0_3
  have HR0_4 := Aside0.mk hr0_4
  have HC0_4 := Aside0.mk hc0_4
  clear hr0_4 hc0_4
  have HR0_5 := Aside0.mk hr0_5
  have HC0_5 := Aside0.mk hc0_5
  clear hr0_5 hc0_5
  have HR0_6 := Aside0.mk hr0_6
  have HC0_6 := Aside0.mk hc0_6
  clear hr0_6 hc0_6
  have HB := Aside0.mk (Below.refl w.heap.size w)
  have H : (if (l0_1.length : Int) > 4096 then (some (0, 2)) else (corpus_tokens.l0 k l0_1 (l0_1.length : Int) 0 l0_0 l0_1 l0_2 l0_3 l0_4 l0_5 l0_6)) = some (r1, r2) := h
  clear h
  by_cases c2 : (l0_1.length : Int) > 4096
  · rw [if_pos c2] at H
    have c2b0 : decide (4096 < (l0_1.length : Int)) = true := decide_eq_true c2
    have c2b1 : decide (4096 < l0_1.length) = true := decide_eq_true (by omega)
    clear c2
    simp only [Option.some.injEq, Prod.mk.injEq] at H
    obtain ⟨rfl, rfl⟩ := H
    go_enter Tryd.func15, Tryd.ntmps15
    go_wp2_with (first | ((with_reducible refine gate_dst (N := 1) rfl ?_); refine box_event ?hg (N := 1) ?hd (cs := #[.slice A0_0 l0_0.length c0_0, .slice A0_1 l0_1.length c0_1, .slice A0_2 l0_2.length c0_2, .slice A0_3 l0_3.length c0_3, .slice A0_4 l0_4.length c0_4, .slice A0_5 l0_5.length c0_5, .slice A0_6 l0_6.length c0_6]) (t := 30) ?hr ?_; (case hd => rfl); (case hg => rfl); (case hr => first | (go_simp; done) | (go_simp; rfl)); intro gb127 hg w3 hbox hb; have n0_ := Aside0.mk (below_step (by repeat (first | (with_reducible first | exact HB.out | apply below_alloc | apply pw_below_drewN | apply below_drew1) | exact HB.out)) hb); have n1_ := Aside0.mk (hbox); have n2_ := Aside0.mk ((by rw [hg]; exact (below_size (by repeat (first | (with_reducible first | exact HB.out | apply below_alloc | apply pw_below_drewN | apply below_drew1) | exact HB.out))) : w.heap.size ≤ gb127)); have n3_ := Aside0.mk ((by rw [hg]; exact (below_size (by repeat (first | (with_reducible first | exact HB.out | apply below_alloc | apply pw_below_drewN | apply below_drew1) | exact HB.out))) : w.heap.size ≤ gb127)); clear HB; have HB := n0_; have BK127 := n1_; have GW127 := n2_; have GE127 := n3_; clear n0_ n1_ n2_ n3_; clear hb hbox hg; have hcz4_0 : w3.cell? ⟨gb127, 0, none⟩ = some (.slice A0_0 l0_0.length c0_0) := (blk_cell BK127.out 0).trans rfl; have hcz4_1 : w3.cell? ⟨gb127, 1, none⟩ = some (.slice A0_1 l0_1.length c0_1) := (blk_cell BK127.out 1).trans rfl; have hcz4_2 : w3.cell? ⟨gb127, 2, none⟩ = some (.slice A0_2 l0_2.length c0_2) := (blk_cell BK127.out 2).trans rfl; have hcz4_3 : w3.cell? ⟨gb127, 3, none⟩ = some (.slice A0_3 l0_3.length c0_3) := (blk_cell BK127.out 3).trans rfl; have hcz4_4 : w3.cell? ⟨gb127, 4, none⟩ = some (.slice A0_4 l0_4.length c0_4) := (blk_cell BK127.out 4).trans rfl; have hcz4_5 : w3.cell? ⟨gb127, 5, none⟩ = some (.slice A0_5 l0_5.length c0_5) := (blk_cell BK127.out 5).trans rfl; have hcz4_6 : w3.cell? ⟨gb127, 6, none⟩ = some (.slice A0_6 l0_6.length c0_6) := (blk_cell BK127.out 6).trans rfl; have hfz4_0 := blk_frozen BK127.out 0; have hfz4_1 := blk_frozen BK127.out 1; have hfz4_2 := blk_frozen BK127.out 2; have hfz4_3 := blk_frozen BK127.out 3; have hfz4_4 := blk_frozen BK127.out 4; have hfz4_5 := blk_frozen BK127.out 5; have hfz4_6 := blk_frozen BK127.out 6))
    go_ret2
    exact ⟨by first | rfl | (simp [errW_none, errW_some] <;> rfl) | (simp [*, errW_none, errW_some] <;> rfl), by repeat (first | (with_reducible first | exact HB.out | apply below_alloc | apply pw_below_drewN | apply below_drew1 | refine below_set ?_ GE127.out) | exact HB.out)⟩
  · rw [if_neg c2] at H
    have c2b0 : decide (4096 < (l0_1.length : Int)) = false := decide_eq_false c2
    have c2b1 : decide (4096 < l0_1.length) = false := decide_eq_false (by omega)
    clear c2
    have H' := Aside0.mk H
    clear H
    go_enter Tryd.func15, Tryd.ntmps15
    go_wp2_with (first | ((with_reducible refine gate_dst (N := 1) rfl ?_); refine box_event ?hg (N := 1) ?hd (cs := #[.slice A0_0 l0_0.length c0_0, .slice A0_1 l0_1.length c0_1, .slice A0_2 l0_2.length c0_2, .slice A0_3 l0_3.length c0_3, .slice A0_4 l0_4.length c0_4, .slice A0_5 l0_5.length c0_5, .slice A0_6 l0_6.length c0_6]) (t := 30) ?hr ?_; (case hd => rfl); (case hg => rfl); (case hr => first | (go_simp; done) | (go_simp; rfl)); intro gb127 hg w5 hbox hb; have n0_ := Aside0.mk (below_step (by repeat (first | (with_reducible first | exact HB.out | apply below_alloc | apply pw_below_drewN | apply below_drew1) | exact HB.out)) hb); have n1_ := Aside0.mk (hbox); have n2_ := Aside0.mk ((by rw [hg]; exact (below_size (by repeat (first | (with_reducible first | exact HB.out | apply below_alloc | apply pw_below_drewN | apply below_drew1) | exact HB.out))) : w.heap.size ≤ gb127)); have n3_ := Aside0.mk ((by rw [hg]; exact (below_size (by repeat (first | (with_reducible first | exact HB.out | apply below_alloc | apply pw_below_drewN | apply below_drew1) | exact HB.out))) : w.heap.size ≤ gb127)); clear HB; have HB := n0_; have BK127 := n1_; have GW127 := n2_; have GE127 := n3_; clear n0_ n1_ n2_ n3_; clear hb hbox hg; have hcz6_0 : w5.cell? ⟨gb127, 0, none⟩ = some (.slice A0_0 l0_0.length c0_0) := (blk_cell BK127.out 0).trans rfl; have hcz6_1 : w5.cell? ⟨gb127, 1, none⟩ = some (.slice A0_1 l0_1.length c0_1) := (blk_cell BK127.out 1).trans rfl; have hcz6_2 : w5.cell? ⟨gb127, 2, none⟩ = some (.slice A0_2 l0_2.length c0_2) := (blk_cell BK127.out 2).trans rfl; have hcz6_3 : w5.cell? ⟨gb127, 3, none⟩ = some (.slice A0_3 l0_3.length c0_3) := (blk_cell BK127.out 3).trans rfl; have hcz6_4 : w5.cell? ⟨gb127, 4, none⟩ = some (.slice A0_4 l0_4.length c0_4) := (blk_cell BK127.out 4).trans rfl; have hcz6_5 : w5.cell? ⟨gb127, 5, none⟩ = some (.slice A0_5 l0_5.length c0_5) := (blk_cell BK127.out 5).trans rfl; have hcz6_6 : w5.cell? ⟨gb127, 6, none⟩ = some (.slice A0_6 l0_6.length c0_6) := (blk_cell BK127.out 6).trans rfl; have hfz6_0 := blk_frozen BK127.out 0; have hfz6_1 := blk_frozen BK127.out 1; have hfz6_2 := blk_frozen BK127.out 2; have hfz6_3 := blk_frozen BK127.out 3; have hfz6_4 := blk_frozen BK127.out 4; have hfz6_5 := blk_frozen BK127.out 5; have hfz6_6 := blk_frozen BK127.out 6))
    go_loopg [16] k (fun kq v16 w' => ∃ (x16_1 : Int), v16 = .int .i64 x16_1 ∧ Aside0 (corpus_tokens.l0 kq l0_1 (l0_1.length : Int) x16_1 l0_0 l0_1 l0_2 l0_3 l0_4 l0_5 l0_6 = some (r1, r2)) ∧ Aside0 (kq ≤ k) ∧ Aside0 (w'.heap[gb127]? = some (.cells #[(.slice A0_0 l0_0.length c0_0), (.slice A0_1 l0_1.length c0_1), (.slice A0_2 l0_2.length c0_2), (.slice A0_3 l0_3.length c0_3), (.slice A0_4 l0_4.length c0_4), (.slice A0_5 l0_5.length c0_5), (.slice A0_6 l0_6.length c0_6)] 30 (0, 0))) ∧ Aside0 (Below w.heap.size w w'))
    case atStart => exact ⟨(0), (by first | rfl | (simp; done) | (simp [*]; done)), H', ⟨Nat.le_refl _⟩, ⟨by (with_reducible repeat (first | refine blk_drewN ?_ _ | refine blk_drew ?_ | refine blk_alloc ?_ _)); exact BK127.out⟩, ⟨by repeat (first | (with_reducible first | exact HB.out | apply below_alloc | apply pw_below_drewN | apply below_drew1 | refine below_set ?_ GE127.out) | exact HB.out)⟩⟩
    case round =>
      clear H'
      try clear c1
      try clear c2
      try clear c2b0
      try clear c2b1
      try clear p2
      try clear hcz4_0
      try clear hcz4_1
      try clear hcz4_2
      try clear hcz4_3
      try clear hcz4_4
      try clear hcz4_5
      try clear hcz4_6
      try clear hcz6_0
      try clear hcz6_1
      try clear hcz6_2
      try clear hcz6_3
      try clear hcz6_4
      try clear hcz6_5
      try clear hcz6_6
      try clear hfz4_0
      try clear hfz4_1
      try clear hfz4_2
      try clear hfz4_3
      try clear hfz4_4
      try clear hfz4_5
      try clear hfz4_6
      try clear hfz6_0
      try clear hfz6_1
      try clear hfz6_2
      try clear hfz6_3
      try clear hfz6_4
      try clear hfz6_5
      try clear hfz6_6
      obtain ⟨x16_1, rfl, HA, HK1, BK127, HB⟩ := hrel
      cases gk with
      | zero => exact absurd HA.out (by simp [corpus_tokens.l0])
      | succ k1 =>
        have H := HA.out
        clear HA
        simp only [corpus_tokens.l0] at H
        by_cases c7 : x16_1 < (l0_1.length : Int)
        · rw [if_pos c7] at H
          have c7b0 : decide (x16_1 < (l0_1.length : Int)) = true := decide_eq_true c7
          clear c7
          by_cases c8 : 0 ≤ x16_1
          · rw [if_pos c8] at H
            have c8b0 : decide (0 ≤ x16_1) = true := decide_eq_true c8
            clear c8
            by_cases c9 : x16_1 < (l0_1.length : Int)
            · rw [if_pos c9] at H
              have c9b0 : decide (x16_1 < (l0_1.length : Int)) = true := decide_eq_true c9
              clear c9
              by_cases c10 : ((rd_L3 l0_1 x16_1).length : Int) = (l0_0.length : Int)
              · rw [if_pos c10] at H
                have c10b0 : (((rd_L3 l0_1 x16_1).length : Int) == (l0_0.length : Int)) = true := beq_iff_eq.mpr c10
                have c10b1 : (((rd_L3 l0_1 x16_1).length : Int) != (l0_0.length : Int)) = false := bne_eq_false_iff_eq.mpr c10
                have c10b2 : ((rd_L3 l0_1 x16_1).length == l0_0.length) = true := by first | simpa using c10 | (simp at c10 ⊢; omega)
                clear c10
                have H' := Aside0.mk H
                clear H
                have p128 : 0 ≤ (x16_1 : Int) := of_decide_eq_true (by first | (with_reducible assumption) | assumption)
                have q128 : x16_1 < (l0_1.length : Int) := of_decide_eq_true (by first | (with_reducible assumption) | assumption)
                obtain ⟨ad128, A128_0, c128_0, e128, hx128_0, hl128_0, hi128_0⟩ := at_L3 HR0_1.out x16_1 p128 q128
                cases e128
                replace hx128_0 := (HB.out.cell (World.block_lt_of_cell? w _ hx128_0)).trans hx128_0
                have HR128_0 := Aside0.mk hi128_0
                have HC128_0 := Aside0.mk hl128_0
                clear hi128_0 hl128_0
                replace p128 := eq_true p128
                replace q128 := eq_true q128
                have hcz11_0 : wr.cell? ⟨gb127, 0, none⟩ = some (.slice A0_0 l0_0.length c0_0) := (blk_cell BK127.out 0).trans rfl
                have hcz11_1 : wr.cell? ⟨gb127, 1, none⟩ = some (.slice (some ad128) l0_1.length c0_1) := (blk_cell BK127.out 1).trans rfl
                have hcz11_2 : wr.cell? ⟨gb127, 2, none⟩ = some (.slice A0_2 l0_2.length c0_2) := (blk_cell BK127.out 2).trans rfl
                have hcz11_3 : wr.cell? ⟨gb127, 3, none⟩ = some (.slice A0_3 l0_3.length c0_3) := (blk_cell BK127.out 3).trans rfl
                have hcz11_4 : wr.cell? ⟨gb127, 4, none⟩ = some (.slice A0_4 l0_4.length c0_4) := (blk_cell BK127.out 4).trans rfl
                have hcz11_5 : wr.cell? ⟨gb127, 5, none⟩ = some (.slice A0_5 l0_5.length c0_5) := (blk_cell BK127.out 5).trans rfl
                have hcz11_6 : wr.cell? ⟨gb127, 6, none⟩ = some (.slice A0_6 l0_6.length c0_6) := (blk_cell BK127.out 6).trans rfl
                have hfz11_0 := blk_frozen BK127.out 0
                have hfz11_1 := blk_frozen BK127.out 1
                have hfz11_2 := blk_frozen BK127.out 2
                have hfz11_3 := blk_frozen BK127.out 3
                have hfz11_4 := blk_frozen BK127.out 4
                have hfz11_5 := blk_frozen BK127.out 5
                have hfz11_6 := blk_frozen BK127.out 6
                go_wp2
                go_loopg [30] k1 (fun kq v30 w' => ∃ (x30_2 : Int), v30 = .int .i64 x30_2 ∧ Aside0 (corpus_tokens.l1 kq x16_1 l0_1 (l0_1.length : Int) x16_1 (rd_L3 l0_1 x16_1) ((rd_L3 l0_1 x16_1).length : Int) x30_2 l0_0 l0_1 l0_2 l0_3 l0_4 l0_5 l0_6 = some (r1, r2)) ∧ Aside0 (kq ≤ k1) ∧ Aside0 (w'.heap[gb127]? = some (.cells #[(.slice A0_0 l0_0.length c0_0), (.slice (some ad128) l0_1.length c0_1), (.slice A0_2 l0_2.length c0_2), (.slice A0_3 l0_3.length c0_3), (.slice A0_4 l0_4.length c0_4), (.slice A0_5 l0_5.length c0_5), (.slice A0_6 l0_6.length c0_6)] 30 (0, 0))) ∧ Aside0 (Below w.heap.size w w'))
                case atStart => exact ⟨(0), (by first | rfl | (simp; done) | (simp [*]; done)), H', ⟨Nat.le_refl _⟩, ⟨by (with_reducible repeat (first | refine blk_drewN ?_ _ | refine blk_drew ?_ | refine blk_alloc ?_ _)); exact BK127.out⟩, ⟨by repeat (first | (with_reducible first | exact HB.out | apply below_alloc | apply pw_below_drewN | apply below_drew1 | refine below_set ?_ GE127.out) | exact HB.out)⟩⟩
                case round =>
                  clear H'
                  try clear c1
                  try clear p1
                  try clear q1
                  try clear hx1
                  try clear c2
                  try clear c2b0
                  try clear c2b1
                  try clear p2
                  try clear c7
                  try clear c7b0
                  try clear c8
                  try clear c8b0
                  try clear c9
                  try clear c9b0
                  try clear c10
                  try clear c10b0
                  try clear c10b1
                  try clear c10b2
                  try clear hcz11_0
                  try clear hcz11_1
                  try clear hcz11_2
                  try clear hcz11_3
                  try clear hcz11_4
                  try clear hcz11_5
                  try clear hcz11_6
                  try clear hcz4_0
                  try clear hcz4_1
                  try clear hcz4_2
                  try clear hcz4_3
                  try clear hcz4_4
                  try clear hcz4_5
                  try clear hcz4_6
                  try clear hcz6_0
                  try clear hcz6_1
                  try clear hcz6_2
                  try clear hcz6_3
                  try clear hcz6_4
                  try clear hcz6_5
                  try clear hcz6_6
                  try clear hfz11_0
                  try clear hfz11_1
                  try clear hfz11_2
                  try clear hfz11_3
                  try clear hfz11_4
                  try clear hfz11_5
                  try clear hfz11_6
                  try clear hfz4_0
                  try clear hfz4_1
                  try clear hfz4_2
                  try clear hfz4_3
                  try clear hfz4_4
                  try clear hfz4_5
                  try clear hfz4_6
                  try clear hfz6_0
                  try clear hfz6_1
                  try clear hfz6_2
                  try clear hfz6_3
                  try clear hfz6_4
                  try clear hfz6_5
                  try clear hfz6_6
                  try clear hx128_0
                  try clear p128
                  try clear p2
                  try clear q128
                  obtain ⟨x30_2, rfl, HA, HK2, BK127, HB⟩ := hrel
                  cases gk with
                  | zero => exact absurd HA.out (by simp [corpus_tokens.l1])
                  | succ k2 =>
                    have H := HA.out
                    clear HA
                    simp only [corpus_tokens.l1] at H
                    by_cases c12 : x30_2 < ((rd_L3 l0_1 x16_1).length : Int)
                    · rw [if_pos c12] at H
                      have c12b0 : decide (x30_2 < ((rd_L3 l0_1 x16_1).length : Int)) = true := decide_eq_true c12
                      clear c12
                      by_cases c13 : 0 ≤ x30_2
                      · rw [if_pos c13] at H
                        have c13b0 : decide (0 ≤ x30_2) = true := decide_eq_true c13
                        clear c13
                        by_cases c14 : x30_2 < ((rd_L3 l0_1 x16_1).length : Int)
                        · rw [if_pos c14] at H
                          have c14b0 : decide (x30_2 < ((rd_L3 l0_1 x16_1).length : Int)) = true := decide_eq_true c14
                          clear c14
                          by_cases c15 : x30_2 < (l0_0.length : Int)
                          · rw [if_pos c15] at H
                            have c15b0 : decide (x30_2 < (l0_0.length : Int)) = true := decide_eq_true c15
                            clear c15
                            replace H := Option.bind_eq_some_iff.mp H
                            obtain ⟨t131, A160, H⟩ := H
                            replace H : (if t131 = 0 then (corpus_tokens.l1 k2 x16_1 l0_1 (l0_1.length : Int) x16_1 (rd_L3 l0_1 x16_1) ((rd_L3 l0_1 x16_1).length : Int) (wrap64 (x30_2 + 1)) l0_0 l0_1 l0_2 l0_3 l0_4 l0_5 l0_6) else (some (x16_1, t131))) = some (r1, r2) := H
                            have A16 := Aside0.mk A160
                            clear A160
                            by_cases c17 : t131 = 0
                            · rw [if_pos c17] at H
                              have c17b0 : (t131 == 0) = true := beq_iff_eq.mpr c17
                              have c17b1 : (t131 != 0) = false := bne_eq_false_iff_eq.mpr c17
                              clear c17
                              have H' := Aside0.mk H
                              clear H
                              have p129 : 0 ≤ (x30_2 : Int) := of_decide_eq_true (by first | (with_reducible assumption) | assumption)
                              have q129 : x30_2 < ((rd_L3 l0_1 x16_1).length : Int) := of_decide_eq_true (by first | (with_reducible assumption) | assumption)
                              obtain ⟨ad129, e129, hx129_0⟩ := Kd.at_string HR128_0.out x30_2 p129 q129
                              cases e129
                              replace hx129_0 := (HB.out.cell (World.block_lt_of_cell? w _ hx129_0)).trans hx129_0
                              replace p129 := eq_true p129
                              replace q129 := eq_true q129
                              have hcz18_0 : wr.cell? ⟨gb127, 0, none⟩ = some (.slice A0_0 l0_0.length c0_0) := (blk_cell BK127.out 0).trans rfl
                              have hcz18_1 : wr.cell? ⟨gb127, 1, none⟩ = some (.slice (some ad128) l0_1.length c0_1) := (blk_cell BK127.out 1).trans rfl
                              have hcz18_2 : wr.cell? ⟨gb127, 2, none⟩ = some (.slice A0_2 l0_2.length c0_2) := (blk_cell BK127.out 2).trans rfl
                              have hcz18_3 : wr.cell? ⟨gb127, 3, none⟩ = some (.slice A0_3 l0_3.length c0_3) := (blk_cell BK127.out 3).trans rfl
                              have hcz18_4 : wr.cell? ⟨gb127, 4, none⟩ = some (.slice A0_4 l0_4.length c0_4) := (blk_cell BK127.out 4).trans rfl
                              have hcz18_5 : wr.cell? ⟨gb127, 5, none⟩ = some (.slice A0_5 l0_5.length c0_5) := (blk_cell BK127.out 5).trans rfl
                              have hcz18_6 : wr.cell? ⟨gb127, 6, none⟩ = some (.slice A0_6 l0_6.length c0_6) := (blk_cell BK127.out 6).trans rfl
                              have hfz18_0 := blk_frozen BK127.out 0
                              have hfz18_1 := blk_frozen BK127.out 1
                              have hfz18_2 := blk_frozen BK127.out 2
                              have hfz18_3 := blk_frozen BK127.out 3
                              have hfz18_4 := blk_frozen BK127.out 4
                              have hfz18_5 := blk_frozen BK127.out 5
                              have hfz18_6 := blk_frozen BK127.out 6
                              have p130 : 0 ≤ (x30_2 : Int) := of_decide_eq_true (by first | (with_reducible assumption) | assumption)
                              have q130 : x30_2 < (l0_0.length : Int) := of_decide_eq_true (by first | (with_reducible assumption) | assumption)
                              obtain ⟨ad130, e130, hx130_0, hx130_1⟩ := at_T55 HR0_0.out x30_2 p130 q130
                              cases e130
                              replace hx130_0 := (HB.out.cell (World.block_lt_of_cell? w _ hx130_0)).trans hx130_0
                              replace hx130_1 := (HB.out.cell (World.block_lt_of_cell? w _ hx130_1)).trans hx130_1
                              replace p130 := eq_true p130
                              replace q130 := eq_true q130
                              go_wp2_with (first | ((with_reducible refine gate_callee (f := 33) rfl ?_); refine goesL_ (some 41) rfl rfl Tryd.func33 (by kernel_rfl) rfl #[.agg #[.string ((rd_T55 l0_0 x30_2).f0), .bool ((rd_T55 l0_0 x30_2).f1)], .string (rdOf ByteArray.empty (rd_L3 l0_1 x16_1) x30_2)] rfl (by (try simp only [List.map_toArray, List.map_cons, List.map_nil]); first | done | rfl | (simp only [List.length_drop, List.length_take]; rfl)) ?_; (with_reducible refine (corpus_errorOfValue.calls k2 ((rd_T55 l0_0 x30_2).f0) ((rd_T55 l0_0 x30_2).f1) (rdOf ByteArray.empty (rd_L3 l0_1 x16_1) x30_2) t131 _ A16.out).mono ?_); rintro e w19 ⟨rfl, hb⟩; refine ⟨_, rfl, ?_⟩; have n0_ := Aside0.mk (blk_below (g := gb127) (o := .cells #[.slice (some ad130) l0_0.length c0_0, .slice (some ad128) l0_1.length c0_1, .slice A0_2 l0_2.length c0_2, .slice A0_3 l0_3.length c0_3, .slice A0_4 l0_4.length c0_4, .slice A0_5 l0_5.length c0_5, .slice A0_6 l0_6.length c0_6] 30 (0, 0)) (by (with_reducible repeat (first | refine blk_drewN ?_ _ | refine blk_drew ?_ | refine blk_alloc ?_ _)); exact BK127.out) hb); have n1_ := Aside0.mk (below_step (by repeat (first | (with_reducible first | exact HB.out | apply below_alloc | apply pw_below_drewN | apply below_drew1 | refine below_set ?_ GE127.out) | exact HB.out)) hb); clear BK127; clear HB; have BK127 := n0_; have HB := n1_; clear n0_ n1_; (try clear hb); (try clear hb2); (try clear hk); (try clear hi)))
                              go_roundg k2
                              case measure => have := HK1.out; have := HK2.out; omega
                              case rel => exact ⟨(wrap64 (x30_2 + 1)), (by first | rfl | (simp; done) | (simp [*]; done)), H', ⟨by have := HK1.out; have := HK2.out; omega⟩, ⟨by (with_reducible repeat (first | refine blk_drewN ?_ _ | refine blk_drew ?_ | refine blk_alloc ?_ _)); exact BK127.out⟩, ⟨by repeat (first | (with_reducible first | exact HB.out | apply below_alloc | apply pw_below_drewN | apply below_drew1 | refine below_set ?_ GE127.out) | exact HB.out)⟩⟩
                            · rw [if_neg c17] at H
                              have c17b0 : (t131 == 0) = false := beq_eq_false_iff_ne.mpr c17
                              have c17b1 : (t131 != 0) = true := bne_iff_ne.mpr c17
                              simp only [Option.some.injEq, Prod.mk.injEq] at H
                              obtain ⟨rfl, rfl⟩ := H
                              have p129 : 0 ≤ (x30_2 : Int) := of_decide_eq_true (by first | (with_reducible assumption) | assumption)
                              have q129 : x30_2 < ((rd_L3 l0_1 x16_1).length : Int) := of_decide_eq_true (by first | (with_reducible assumption) | assumption)
                              obtain ⟨ad129, e129, hx129_0⟩ := Kd.at_string HR128_0.out x30_2 p129 q129
                              cases e129
                              replace hx129_0 := (HB.out.cell (World.block_lt_of_cell? w _ hx129_0)).trans hx129_0
                              replace p129 := eq_true p129
                              replace q129 := eq_true q129
                              have hcz20_0 : wr.cell? ⟨gb127, 0, none⟩ = some (.slice A0_0 l0_0.length c0_0) := (blk_cell BK127.out 0).trans rfl
                              have hcz20_1 : wr.cell? ⟨gb127, 1, none⟩ = some (.slice (some ad128) l0_1.length c0_1) := (blk_cell BK127.out 1).trans rfl
                              have hcz20_2 : wr.cell? ⟨gb127, 2, none⟩ = some (.slice A0_2 l0_2.length c0_2) := (blk_cell BK127.out 2).trans rfl
                              have hcz20_3 : wr.cell? ⟨gb127, 3, none⟩ = some (.slice A0_3 l0_3.length c0_3) := (blk_cell BK127.out 3).trans rfl
                              have hcz20_4 : wr.cell? ⟨gb127, 4, none⟩ = some (.slice A0_4 l0_4.length c0_4) := (blk_cell BK127.out 4).trans rfl
                              have hcz20_5 : wr.cell? ⟨gb127, 5, none⟩ = some (.slice A0_5 l0_5.length c0_5) := (blk_cell BK127.out 5).trans rfl
                              have hcz20_6 : wr.cell? ⟨gb127, 6, none⟩ = some (.slice A0_6 l0_6.length c0_6) := (blk_cell BK127.out 6).trans rfl
                              have hfz20_0 := blk_frozen BK127.out 0
                              have hfz20_1 := blk_frozen BK127.out 1
                              have hfz20_2 := blk_frozen BK127.out 2
                              have hfz20_3 := blk_frozen BK127.out 3
                              have hfz20_4 := blk_frozen BK127.out 4
                              have hfz20_5 := blk_frozen BK127.out 5
                              have hfz20_6 := blk_frozen BK127.out 6
                              have p130 : 0 ≤ (x30_2 : Int) := of_decide_eq_true (by first | (with_reducible assumption) | assumption)
                              have q130 : x30_2 < (l0_0.length : Int) := of_decide_eq_true (by first | (with_reducible assumption) | assumption)
                              obtain ⟨ad130, e130, hx130_0, hx130_1⟩ := at_T55 HR0_0.out x30_2 p130 q130
                              cases e130
                              replace hx130_0 := (HB.out.cell (World.block_lt_of_cell? w _ hx130_0)).trans hx130_0
                              replace hx130_1 := (HB.out.cell (World.block_lt_of_cell? w _ hx130_1)).trans hx130_1
                              replace p130 := eq_true p130
                              replace q130 := eq_true q130
                              go_wp2_with (first | ((with_reducible refine gate_callee (f := 33) rfl ?_); refine goesL_ (some 41) rfl rfl Tryd.func33 (by kernel_rfl) rfl #[.agg #[.string ((rd_T55 l0_0 x30_2).f0), .bool ((rd_T55 l0_0 x30_2).f1)], .string (rdOf ByteArray.empty (rd_L3 l0_1 x16_1) x30_2)] rfl (by (try simp only [List.map_toArray, List.map_cons, List.map_nil]); first | done | rfl | (simp only [List.length_drop, List.length_take]; rfl)) ?_; (with_reducible refine (corpus_errorOfValue.calls k2 ((rd_T55 l0_0 x30_2).f0) ((rd_T55 l0_0 x30_2).f1) (rdOf ByteArray.empty (rd_L3 l0_1 x16_1) x30_2) t131 _ A16.out).mono ?_); rintro e w21 ⟨rfl, hb⟩; refine ⟨_, rfl, ?_⟩; have n0_ := Aside0.mk (blk_below (g := gb127) (o := .cells #[.slice (some ad130) l0_0.length c0_0, .slice (some ad128) l0_1.length c0_1, .slice A0_2 l0_2.length c0_2, .slice A0_3 l0_3.length c0_3, .slice A0_4 l0_4.length c0_4, .slice A0_5 l0_5.length c0_5, .slice A0_6 l0_6.length c0_6] 30 (0, 0)) (by (with_reducible repeat (first | refine blk_drewN ?_ _ | refine blk_drew ?_ | refine blk_alloc ?_ _)); exact BK127.out) hb); have n1_ := Aside0.mk (below_step (by repeat (first | (with_reducible first | exact HB.out | apply below_alloc | apply pw_below_drewN | apply below_drew1 | refine below_set ?_ GE127.out) | exact HB.out)) hb); clear BK127; clear HB; have BK127 := n0_; have HB := n1_; clear n0_ n1_; (try clear hb); (try clear hb2); (try clear hk); (try clear hi)))
                              go_ret2
                              exact ⟨by first | rfl | (simp [errW_none, errW_some] <;> rfl) | (simp [*, errW_none, errW_some] <;> rfl), by repeat (first | (with_reducible first | exact HB.out | apply below_alloc | apply pw_below_drewN | apply below_drew1 | refine below_set ?_ GE127.out) | exact HB.out)⟩
                          · rw [if_neg c15] at H
                            exact absurd H (by simp)
                        · rw [if_neg c14] at H
                          exact absurd H (by simp)
                      · rw [if_neg c13] at H
                        exact absurd H (by simp)
                    · rw [if_neg c12] at H
                      have c12b0 : decide (x30_2 < ((rd_L3 l0_1 x16_1).length : Int)) = false := decide_eq_false c12
                      clear c12
                      have H' := Aside0.mk H
                      clear H
                      go_wp2
                      go_roundg k2
                      case measure => have := HK1.out; have := HK2.out; omega
                      case rel => exact ⟨(wrap64 (x16_1 + 1)), (by first | rfl | (simp; done) | (simp [*]; done)), H', ⟨by have := HK1.out; have := HK2.out; omega⟩, ⟨by (with_reducible repeat (first | refine blk_drewN ?_ _ | refine blk_drew ?_ | refine blk_alloc ?_ _)); exact BK127.out⟩, ⟨by repeat (first | (with_reducible first | exact HB.out | apply below_alloc | apply pw_below_drewN | apply below_drew1 | refine below_set ?_ GE127.out) | exact HB.out)⟩⟩
              · rw [if_neg c10] at H
                have c10b0 : (((rd_L3 l0_1 x16_1).length : Int) == (l0_0.length : Int)) = false := beq_eq_false_iff_ne.mpr c10
                have c10b1 : (((rd_L3 l0_1 x16_1).length : Int) != (l0_0.length : Int)) = true := bne_iff_ne.mpr c10
                have c10b2 : ((rd_L3 l0_1 x16_1).length == l0_0.length) = false := by first | simpa using c10 | (simp at c10 ⊢; omega)
                simp only [Option.some.injEq, Prod.mk.injEq] at H
                obtain ⟨rfl, rfl⟩ := H
                have p128 : 0 ≤ (x16_1 : Int) := of_decide_eq_true (by first | (with_reducible assumption) | assumption)
                have q128 : x16_1 < (l0_1.length : Int) := of_decide_eq_true (by first | (with_reducible assumption) | assumption)
                obtain ⟨ad128, A128_0, c128_0, e128, hx128_0, hl128_0, hi128_0⟩ := at_L3 HR0_1.out x16_1 p128 q128
                cases e128
                replace hx128_0 := (HB.out.cell (World.block_lt_of_cell? w _ hx128_0)).trans hx128_0
                have HR128_0 := Aside0.mk hi128_0
                have HC128_0 := Aside0.mk hl128_0
                clear hi128_0 hl128_0
                replace p128 := eq_true p128
                replace q128 := eq_true q128
                have hcz22_0 : wr.cell? ⟨gb127, 0, none⟩ = some (.slice A0_0 l0_0.length c0_0) := (blk_cell BK127.out 0).trans rfl
                have hcz22_1 : wr.cell? ⟨gb127, 1, none⟩ = some (.slice (some ad128) l0_1.length c0_1) := (blk_cell BK127.out 1).trans rfl
                have hcz22_2 : wr.cell? ⟨gb127, 2, none⟩ = some (.slice A0_2 l0_2.length c0_2) := (blk_cell BK127.out 2).trans rfl
                have hcz22_3 : wr.cell? ⟨gb127, 3, none⟩ = some (.slice A0_3 l0_3.length c0_3) := (blk_cell BK127.out 3).trans rfl
                have hcz22_4 : wr.cell? ⟨gb127, 4, none⟩ = some (.slice A0_4 l0_4.length c0_4) := (blk_cell BK127.out 4).trans rfl
                have hcz22_5 : wr.cell? ⟨gb127, 5, none⟩ = some (.slice A0_5 l0_5.length c0_5) := (blk_cell BK127.out 5).trans rfl
                have hcz22_6 : wr.cell? ⟨gb127, 6, none⟩ = some (.slice A0_6 l0_6.length c0_6) := (blk_cell BK127.out 6).trans rfl
                have hfz22_0 := blk_frozen BK127.out 0
                have hfz22_1 := blk_frozen BK127.out 1
                have hfz22_2 := blk_frozen BK127.out 2
                have hfz22_3 := blk_frozen BK127.out 3
                have hfz22_4 := blk_frozen BK127.out 4
                have hfz22_5 := blk_frozen BK127.out 5
                have hfz22_6 := blk_frozen BK127.out 6
                go_wp2
                go_ret2
                exact ⟨by first | rfl | (simp [errW_none, errW_some] <;> rfl) | (simp [*, errW_none, errW_some] <;> rfl), by repeat (first | (with_reducible first | exact HB.out | apply below_alloc | apply pw_below_drewN | apply below_drew1 | refine below_set ?_ GE127.out) | exact HB.out)⟩
            · rw [if_neg c9] at H
              exact absurd H (by simp)
          · rw [if_neg c8] at H
            exact absurd H (by simp)
        · rw [if_neg c7] at H
          have c7b0 : decide (x16_1 < (l0_1.length : Int)) = false := decide_eq_false c7
          clear c7
          simp only [Option.some.injEq, Prod.mk.injEq] at H
          obtain ⟨rfl, rfl⟩ := H
          go_wp2
          go_ret2
          exact ⟨by first | rfl | (simp [errW_none, errW_some] <;> rfl) | (simp [*, errW_none, errW_some] <;> rfl), by repeat (first | (with_reducible first | exact HB.out | apply below_alloc | apply pw_below_drewN | apply below_drew1 | refine below_set ?_ GE127.out) | exact HB.out)⟩

end Go.Proofs.YtebajpebongabaaDoor.P
