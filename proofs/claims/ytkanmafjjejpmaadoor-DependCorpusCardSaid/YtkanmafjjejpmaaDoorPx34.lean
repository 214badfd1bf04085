-- Written by a program of this session (wip/doprint.sh) out of the translation; Lean checks it.
import Derived.Test.YtkanmafjjejpmaaDoorPx0
import Derived.Test.YtkanmafjjejpmaaDoorPx4
import Derived.Test.YtkanmafjjejpmaaDoorPx28
import Derived.Test.YtkanmafjjejpmaaDoorPx32
import Derived.Test.YtkanmafjjejpmaaDoorPx33
namespace Go.Proofs.YtkanmafjjejpmaaDoor.P
open Go.Proofs.YtkanmafjjejpmaaDoor.S
open Go.Proofs.YtkanmafjjejpmaaDoor.X
open Go.RowKit Go.Proofs.YtkanmafjjejpmaaDoorW.PrintWords Go.Proofs.YtkanmafjjejpmaaDoorW.PrintLast Go.Proofs.YtkanmafjjejpmaaDoorW.PrintMore
attribute [local go_sem] max2_int min2_int max_two min_two max_three min_three max_four min_four   -- for this text's walks alone
set_option linter.unusedVariables false
set_option linter.unusedSimpArgs false

/-! ### corpus_heads: function 30 -/
mutual
def corpus_heads.j1 : Nat → List (S36) → List (List ByteArray) → List (S40) → List (S77) → List (S82) → List Int → List ByteArray → Option (Int × Int)
  | 0, _, _, _, _, _, _, _ => none
  | k + 1, x433000, x433001, x433002, x433003, x433004, x433005, x433006 => (corpus_cycles.f k x433005).bind fun t434 => (corpus_heads.l0 k t434 x433005 (x433005.length : Int) 0 x433000 x433001 x433002 x433003 x433004 x433005 x433006)
def corpus_heads.l0 : Nat → List Bool → List Int → Int → Int → List (S36) → List (List ByteArray) → List (S40) → List (S77) → List (S82) → List Int → List ByteArray → Option (Int × Int)
  | 0, _, _, _, _, _, _, _, _, _, _, _ => none
  | k + 1, x5, x41, x42, x43, x433000, x433001, x433002, x433003, x433004, x433005, x433006 => if x43 < x42 then (if 0 ≤ x43 then (if x43 < (x41.length : Int) then ((corpus_TextAt.f k x433000 x433001 x433002 x433003 x433004 x433005 x433006 x43).bind fun t438 => (if 0 ≤ t438 then (if t438 < (x433002.length : Int) then (if (rd x41 x43) = (-1) then (corpus_heads.j3 k x5 x43 x41 x42 x43 false x433000 x433001 x433002 x433003 x433004 x433005 x433006) else (if (rd x41 x43) < ((rd_T40 x433002 t438).f1) then (corpus_heads.j3 k x5 x43 x41 x42 x43 true x433000 x433001 x433002 x433003 x433004 x433005 x433006) else (corpus_heads.j3 k x5 x43 x41 x42 x43 (decide ((rd x41 x43) ≥ ((rd_T40 x433002 t438).f2))) x433000 x433001 x433002 x433003 x433004 x433005 x433006))) else (none)) else (none))) else (none)) else (none)) else (some (0, 0))
def corpus_heads.j3 : Nat → List Bool → Int → List Int → Int → Int → Bool → List (S36) → List (List ByteArray) → List (S40) → List (S77) → List (S82) → List Int → List ByteArray → Option (Int × Int)
  | 0, _, _, _, _, _, _, _, _, _, _, _, _, _ => none
  | k + 1, x5, x6, x41, x42, x43, x55, x433000, x433001, x433002, x433003, x433004, x433005, x433006 => if x55 = true then (some (x6, 8)) else (if 0 ≤ x6 then (if x6 < (x433006.length : Int) then (if (rdOf ByteArray.empty x433006 x6).toList = ([] : List UInt8) then (corpus_heads.j4 k x5 x6 x41 x42 x43 false x433000 x433001 x433002 x433003 x433004 x433005 x433006) else ((markup_ValidName.f k (rdOf ByteArray.empty x433006 x6)).bind fun t443 => (corpus_heads.j4 k x5 x6 x41 x42 x43 (!t443) x433000 x433001 x433002 x433003 x433004 x433005 x433006))) else (none)) else (none))
def corpus_heads.j4 : Nat → List Bool → Int → List Int → Int → Int → Bool → List (S36) → List (List ByteArray) → List (S40) → List (S77) → List (S82) → List Int → List ByteArray → Option (Int × Int)
  | 0, _, _, _, _, _, _, _, _, _, _, _, _, _ => none
  | k + 1, x5, x6, x41, x42, x43, x71, x433000, x433001, x433002, x433003, x433004, x433005, x433006 => if x71 = true then (some (x6, 4)) else (if 0 ≤ x6 then (if x6 < (x5.length : Int) then (if rdOf false x5 x6 = true then (some (x6, 12)) else (corpus_heads.l0 k x5 x41 x42 (wrap64 (x43 + 1)) x433000 x433001 x433002 x433003 x433004 x433005 x433006)) else (none)) else (none))
def corpus_heads.j0 : Nat → Int → Bool → List (S36) → List (List ByteArray) → List (S40) → List (S77) → List (S82) → List Int → List ByteArray → Option (Int × Int)
  | 0, _, _, _, _, _, _, _, _, _ => none
  | k + 1, x4, x12, x433000, x433001, x433002, x433003, x433004, x433005, x433006 => if x12 = true then (some (0, 15)) else (if x4 > 0 then ((corpus_noHeads.f k x433005 x433006).bind fun t433 => (if t433 = true then (some (0, 14)) else (corpus_heads.j1 k x433000 x433001 x433002 x433003 x433004 x433005 x433006))) else (corpus_heads.j1 k x433000 x433001 x433002 x433003 x433004 x433005 x433006))
end
def corpus_heads.f (k : Nat) (l0_0 : List (S36)) (l0_1 : List (List ByteArray)) (l0_2 : List (S40)) (l0_3 : List (S77)) (l0_4 : List (S82)) (l0_5 : List Int) (l0_6 : List ByteArray) : Option (Int × Int) := if (l0_5.length : Int) = (l0_6.length : Int) then (if (l0_5.length : Int) > 0 then (corpus_heads.j0 k (l0_5.length : Int) ((l0_5.length : Int) != (l0_1.length : Int)) l0_0 l0_1 l0_2 l0_3 l0_4 l0_5 l0_6) else (corpus_heads.j0 k (l0_5.length : Int) false l0_0 l0_1 l0_2 l0_3 l0_4 l0_5 l0_6)) else (corpus_heads.j0 k (l0_5.length : Int) ((l0_5.length : Int) != (l0_6.length : Int)) l0_0 l0_1 l0_2 l0_3 l0_4 l0_5 l0_6)
theorem corpus_heads.mono_l : ∀ k, (∀ y0 y1 y2 y3 y4 y5 y6, LeO (corpus_heads.j1 k y0 y1 y2 y3 y4 y5 y6) (corpus_heads.j1 (k + 1) y0 y1 y2 y3 y4 y5 y6)) ∧ (∀ y0 y1 y2 y3 y4 y5 y6 y7 y8 y9 y10, LeO (corpus_heads.l0 k y0 y1 y2 y3 y4 y5 y6 y7 y8 y9 y10) (corpus_heads.l0 (k + 1) y0 y1 y2 y3 y4 y5 y6 y7 y8 y9 y10)) ∧ (∀ y0 y1 y2 y3 y4 y5 y6 y7 y8 y9 y10 y11 y12, LeO (corpus_heads.j3 k y0 y1 y2 y3 y4 y5 y6 y7 y8 y9 y10 y11 y12) (corpus_heads.j3 (k + 1) y0 y1 y2 y3 y4 y5 y6 y7 y8 y9 y10 y11 y12)) ∧ (∀ y0 y1 y2 y3 y4 y5 y6 y7 y8 y9 y10 y11 y12, LeO (corpus_heads.j4 k y0 y1 y2 y3 y4 y5 y6 y7 y8 y9 y10 y11 y12) (corpus_heads.j4 (k + 1) y0 y1 y2 y3 y4 y5 y6 y7 y8 y9 y10 y11 y12)) ∧ (∀ y0 y1 y2 y3 y4 y5 y6 y7 y8, LeO (corpus_heads.j0 k y0 y1 y2 y3 y4 y5 y6 y7 y8) (corpus_heads.j0 (k + 1) y0 y1 y2 y3 y4 y5 y6 y7 y8))
 | 0 => ⟨fun _ _ _ _ _ _ _ r h => by simp [corpus_heads.j1] at h, fun _ _ _ _ _ _ _ _ _ _ _ r h => by simp [corpus_heads.l0] at h, fun _ _ _ _ _ _ _ _ _ _ _ _ _ r h => by simp [corpus_heads.j3] at h, fun _ _ _ _ _ _ _ _ _ _ _ _ _ r h => by simp [corpus_heads.j4] at h, fun _ _ _ _ _ _ _ _ _ r h => by simp [corpus_heads.j0] at h⟩
 | k + 1 => by
  obtain ⟨ih0, ih1, ih2, ih3, ih4⟩ := corpus_heads.mono_l k
  refine ⟨?_, ?_, ?_, ?_, ?_⟩
  ·
   intro y0 y1 y2 y3 y4 y5 y6
   unfold corpus_heads.j1
   with_reducible repeat' first | exact ih0 _ _ _ _ _ _ _ | exact ih1 _ _ _ _ _ _ _ _ _ _ _ | exact ih2 _ _ _ _ _ _ _ _ _ _ _ _ _ | exact ih3 _ _ _ _ _ _ _ _ _ _ _ _ _ | exact ih4 _ _ _ _ _ _ _ _ _ | exact corpus_TextAt.mono _ _ _ _ _ _ _ _ _ | exact corpus_cycles.mono _ _ | exact corpus_noHeads.mono _ _ _ | exact markup_ValidName.mono _ _ | exact LeO.refl _ | exact LeO.none _ | refine LeO.ite ?_ ?_ | refine LeO.bind ?_ (fun _ => ?_)
  ·
   intro y0 y1 y2 y3 y4 y5 y6 y7 y8 y9 y10
   unfold corpus_heads.l0
   with_reducible repeat' first | exact ih0 _ _ _ _ _ _ _ | exact ih1 _ _ _ _ _ _ _ _ _ _ _ | exact ih2 _ _ _ _ _ _ _ _ _ _ _ _ _ | exact ih3 _ _ _ _ _ _ _ _ _ _ _ _ _ | exact ih4 _ _ _ _ _ _ _ _ _ | exact corpus_TextAt.mono _ _ _ _ _ _ _ _ _ | exact corpus_cycles.mono _ _ | exact corpus_noHeads.mono _ _ _ | exact markup_ValidName.mono _ _ | exact LeO.refl _ | exact LeO.none _ | refine LeO.ite ?_ ?_ | refine LeO.bind ?_ (fun _ => ?_)
  ·
   intro y0 y1 y2 y3 y4 y5 y6 y7 y8 y9 y10 y11 y12
   unfold corpus_heads.j3
   with_reducible repeat' first | exact ih0 _ _ _ _ _ _ _ | exact ih1 _ _ _ _ _ _ _ _ _ _ _ | exact ih2 _ _ _ _ _ _ _ _ _ _ _ _ _ | exact ih3 _ _ _ _ _ _ _ _ _ _ _ _ _ | exact ih4 _ _ _ _ _ _ _ _ _ | exact corpus_TextAt.mono _ _ _ _ _ _ _ _ _ | exact corpus_cycles.mono _ _ | exact corpus_noHeads.mono _ _ _ | exact markup_ValidName.mono _ _ | exact LeO.refl _ | exact LeO.none _ | refine LeO.ite ?_ ?_ | refine LeO.bind ?_ (fun _ => ?_)
  ·
   intro y0 y1 y2 y3 y4 y5 y6 y7 y8 y9 y10 y11 y12
   unfold corpus_heads.j4
   with_reducible repeat' first | exact ih0 _ _ _ _ _ _ _ | exact ih1 _ _ _ _ _ _ _ _ _ _ _ | exact ih2 _ _ _ _ _ _ _ _ _ _ _ _ _ | exact ih3 _ _ _ _ _ _ _ _ _ _ _ _ _ | exact ih4 _ _ _ _ _ _ _ _ _ | exact corpus_TextAt.mono _ _ _ _ _ _ _ _ _ | exact corpus_cycles.mono _ _ | exact corpus_noHeads.mono _ _ _ | exact markup_ValidName.mono _ _ | exact LeO.refl _ | exact LeO.none _ | refine LeO.ite ?_ ?_ | refine LeO.bind ?_ (fun _ => ?_)
  ·
   intro y0 y1 y2 y3 y4 y5 y6 y7 y8
   unfold corpus_heads.j0
   with_reducible repeat' first | exact ih0 _ _ _ _ _ _ _ | exact ih1 _ _ _ _ _ _ _ _ _ _ _ | exact ih2 _ _ _ _ _ _ _ _ _ _ _ _ _ | exact ih3 _ _ _ _ _ _ _ _ _ _ _ _ _ | exact ih4 _ _ _ _ _ _ _ _ _ | exact corpus_TextAt.mono _ _ _ _ _ _ _ _ _ | exact corpus_cycles.mono _ _ | exact corpus_noHeads.mono _ _ _ | exact markup_ValidName.mono _ _ | exact LeO.refl _ | exact LeO.none _ | refine LeO.ite ?_ ?_ | refine LeO.bind ?_ (fun _ => ?_)
theorem corpus_heads.mono : ∀ a0 a1 a2 a3 a4 a5 a6 k, LeO (corpus_heads.f k a0 a1 a2 a3 a4 a5 a6) (corpus_heads.f (k + 1) a0 a1 a2 a3 a4 a5 a6) := by
 intro a0 a1 a2 a3 a4 a5 a6 k
 obtain ⟨ih0, ih1, ih2, ih3, ih4⟩ := corpus_heads.mono_l k
 unfold corpus_heads.f
 with_reducible repeat' first | exact ih0 _ _ _ _ _ _ _ | exact ih1 _ _ _ _ _ _ _ _ _ _ _ | exact ih2 _ _ _ _ _ _ _ _ _ _ _ _ _ | exact ih3 _ _ _ _ _ _ _ _ _ _ _ _ _ | exact ih4 _ _ _ _ _ _ _ _ _ | exact corpus_TextAt.mono _ _ _ _ _ _ _ _ _ | exact corpus_cycles.mono _ _ | exact corpus_noHeads.mono _ _ _ | exact markup_ValidName.mono _ _ | exact LeO.refl _ | exact LeO.none _ | refine LeO.ite ?_ ?_ | refine LeO.bind ?_ (fun _ => ?_)
def corpus_heads.T11 : Bool × List (List Nat × List Nat) := (true, [([], []), ([0], [0]), ([], []), ([], []), ([2, 3], [2, 3]), ([1, 4], [1, 4]), ([5], [5]), ([], []), ([7, 6, 4, 0, 1, 2, 3, 4, 5, 6, 7], [6, 7])])
def corpus_heads.B11 : List Nat := [0, 1, 0, 0, 12, 31, 63, 0, 255]
theorem corpus_heads.tab11 : rtab .any (opsOf Tryd.f30 11) = corpus_heads.T11 := by kernel_rfl
theorem corpus_heads.bits11 : waitsOk corpus_heads.T11.2 corpus_heads.B11 = true := by kernel_rfl
set_option maxHeartbeats 8000000 in
set_option maxRecDepth 100000 in
theorem corpus_heads.calls (k : Nat) (A0_0 : Option Addr) (c0_0 : Nat) (l0_0 : List (S36)) (A0_1 : Option Addr) (c0_1 : Nat) (l0_1 : List (List ByteArray)) (A0_2 : Option Addr) (c0_2 : Nat) (l0_2 : List (S40)) (A0_3 : Option Addr) (c0_3 : Nat) (l0_3 : List (S77)) (A0_4 : Option Addr) (c0_4 : Nat) (l0_4 : List (S82)) (A0_5 : Option Addr) (c0_5 : Nat) (l0_5 : List Int) (A0_6 : Option Addr) (c0_6 : Nat) (l0_6 : List ByteArray) (r1 : Int) (r2 : Int) (w : World) (hr0_0 : Kd.C k36 w A0_0 l0_0.length l0_0) (hc0_0 : l0_0.length ≤ c0_0) (hr0_1 : Kd.C (Kd.slice 9 Kd.string) w A0_1 l0_1.length l0_1) (hc0_1 : l0_1.length ≤ c0_1) (hr0_2 : Kd.C k40 w A0_2 l0_2.length l0_2) (hc0_2 : l0_2.length ≤ c0_2) (hr0_3 : Kd.C k77 w A0_3 l0_3.length l0_3) (hc0_3 : l0_3.length ≤ c0_3) (hr0_4 : Kd.C k82 w A0_4 l0_4.length l0_4) (hc0_4 : l0_4.length ≤ c0_4) (hr0_5 : Kd.C (Kd.int .i64) w A0_5 l0_5.length l0_5) (hc0_5 : l0_5.length ≤ c0_5) (hr0_6 : Kd.C Kd.string w A0_6 l0_6.length l0_6) (hc0_6 : l0_6.length ≤ c0_6) (h : corpus_heads.f k l0_0 l0_1 l0_2 l0_3 l0_4 l0_5 l0_6 = some (r1, r2)) :
 Calls Tryd.prog 30 #[.agg #[.slice A0_0 l0_0.length c0_0, .slice A0_1 l0_1.length c0_1, .slice A0_2 l0_2.length c0_2, .slice A0_3 l0_3.length c0_3, .slice A0_4 l0_4.length c0_4, .slice A0_5 l0_5.length c0_5, .slice A0_6 l0_6.length c0_6]] w fun e w' => e = .returned (.tuple #[.int .i64 r1, .int .i64 r2]) ∧ Below w.heap.size w w' := by
 have hu46 := Tryd.underlying46
 have hu40 := Tryd.underlying40
 have HR0_0 := Aside0.mk hr0_0
 have HC0_0 := Aside0.mk hc0_0
 clear hr0_0 hc0_0
 have HR0_1 := Aside0.mk hr0_1
 have HC0_1 := Aside0.mk hc0_1
 clear hr0_1 hc0_1
 have HR0_2 := Aside0.mk hr0_2
 have HC0_2 := Aside0.mk hc0_2
 clear hr0_2 hc0_2
 have HR0_3 := Aside0.mk hr0_3
 have HC0_3 := Aside0.mk hc0_3
 clear hr0_3 hc0_3
 have HR0_4 := Aside0.mk hr0_4
 have HC0_4 := Aside0.mk hc0_4
 clear hr0_4 hc0_4
 have HR0_5 := Aside0.mk hr0_5
 have HC0_5 := Aside0.mk hc0_5
 clear hr0_5 hc0_5
 have HR0_6 := Aside0.mk hr0_6
 have HC0_6 := Aside0.mk hc0_6
 clear hr0_6 hc0_6
 have HB := Aside0.mk (Below.refl w.heap.size w)
 have H : (if (l0_5.length : Int) = (l0_6.length : Int) then (if (l0_5.length : Int) > 0 then (corpus_heads.j0 k (l0_5.length : Int) ((l0_5.length : Int) != (l0_1.length : Int)) l0_0 l0_1 l0_2 l0_3 l0_4 l0_5 l0_6) else (corpus_heads.j0 k (l0_5.length : Int) false l0_0 l0_1 l0_2 l0_3 l0_4 l0_5 l0_6)) else (corpus_heads.j0 k (l0_5.length : Int) ((l0_5.length : Int) != (l0_6.length : Int)) l0_0 l0_1 l0_2 l0_3 l0_4 l0_5 l0_6)) = some (r1, r2) := h
 clear h
 have HC2 := Aside0.mk H
 clear H
 go_enter Tryd.func30, Tryd.ntmps30
 go_upto_block 0 with (first | ((with_reducible refine gate_dst (N := 1) rfl ?_); (try (refine gate_guard (by rfl) ?_; dsimp only)); refine box_event ?hg (N := 1) ?hd (cs := #[.slice A0_0 l0_0.length c0_0, .slice A0_1 l0_1.length c0_1, .slice A0_2 l0_2.length c0_2, .slice A0_3 l0_3.length c0_3, .slice A0_4 l0_4.length c0_4, .slice A0_5 l0_5.length c0_5, .slice A0_6 l0_6.length c0_6]) (t := 46) ?hr ?_; (case hd => rfl); (case hg => rfl); (case hr => first | (go_simp; done) | (go_simp; rfl)); intro gb432 hg w3 hbox hb; have n0_ := Aside0.mk (below_step (BB) hb); have n1_ := Aside0.mk (hbox); have n2_ := Aside0.mk ((by rw [hg]; exact (below_size (BB)) : w.heap.size ≤ gb432)); have n3_ := Aside0.mk ((by rw [hg]; exact (below_size (BB)) : w.heap.size ≤ gb432)); clear HB; have HB := n0_; have BK432 := n1_; have GW432 := n2_; have GE432 := n3_; clear n0_ n1_ n2_ n3_; clear hb hbox hg; have hcz4_0 : w3.cell? ⟨gb432, 0, none⟩ = some (.slice A0_0 l0_0.length c0_0) := (blk_cell BK432.out 0).trans rfl; have hcz4_1 : w3.cell? ⟨gb432, 1, none⟩ = some (.slice A0_1 l0_1.length c0_1) := (blk_cell BK432.out 1).trans rfl; have hcz4_2 : w3.cell? ⟨gb432, 2, none⟩ = some (.slice A0_2 l0_2.length c0_2) := (blk_cell BK432.out 2).trans rfl; have hcz4_3 : w3.cell? ⟨gb432, 3, none⟩ = some (.slice A0_3 l0_3.length c0_3) := (blk_cell BK432.out 3).trans rfl; have hcz4_4 : w3.cell? ⟨gb432, 4, none⟩ = some (.slice A0_4 l0_4.length c0_4) := (blk_cell BK432.out 4).trans rfl; have hcz4_5 : w3.cell? ⟨gb432, 5, none⟩ = some (.slice A0_5 l0_5.length c0_5) := (blk_cell BK432.out 5).trans rfl; have hcz4_6 : w3.cell? ⟨gb432, 6, none⟩ = some (.slice A0_6 l0_6.length c0_6) := (blk_cell BK432.out 6).trans rfl; have hfz4_0 := blk_frozen BK432.out 0; have hfz4_1 := blk_frozen BK432.out 1; have hfz4_2 := blk_frozen BK432.out 2; have hfz4_3 := blk_frozen BK432.out 3; have hfz4_4 := blk_frozen BK432.out 4; have hfz4_5 := blk_frozen BK432.out 5; have hfz4_6 := blk_frozen BK432.out 6))
 (try simp only [Act.put, List.setIfInBounds_toArray, List.set_cons_zero, List.set_cons_succ])
 go_cut [] (fun wc => ∃ (kq : Nat), Aside0 (corpus_heads.j1 kq l0_0 l0_1 l0_2 l0_3 l0_4 l0_5 l0_6 = some (r1, r2)) ∧ Aside0 (kq ≤ k) ∧ Aside0 (wc.heap[gb432]? = some (.cells #[(.slice A0_0 l0_0.length c0_0), (.slice A0_1 l0_1.length c0_1), (.slice A0_2 l0_2.length c0_2), (.slice A0_3 l0_3.length c0_3), (.slice A0_4 l0_4.length c0_4), (.slice A0_5 l0_5.length c0_5), (.slice A0_6 l0_6.length c0_6)] 46 (0, 0))) ∧ Aside0 (Below w.heap.size w wc))
 case first =>
  have H := HC2.out
  clear HC2
  have HC5 := Aside0.mk H
  clear H
  have hcz6_0 : w3.cell? ⟨gb432, 0, none⟩ = some (.slice A0_0 l0_0.length c0_0) := (blk_cell BK432.out 0).trans rfl
  have hcz6_1 : w3.cell? ⟨gb432, 1, none⟩ = some (.slice A0_1 l0_1.length c0_1) := (blk_cell BK432.out 1).trans rfl
  have hcz6_2 : w3.cell? ⟨gb432, 2, none⟩ = some (.slice A0_2 l0_2.length c0_2) := (blk_cell BK432.out 2).trans rfl
  have hcz6_3 : w3.cell? ⟨gb432, 3, none⟩ = some (.slice A0_3 l0_3.length c0_3) := (blk_cell BK432.out 3).trans rfl
  have hcz6_4 : w3.cell? ⟨gb432, 4, none⟩ = some (.slice A0_4 l0_4.length c0_4) := (blk_cell BK432.out 4).trans rfl
  have hcz6_5 : w3.cell? ⟨gb432, 5, none⟩ = some (.slice A0_5 l0_5.length c0_5) := (blk_cell BK432.out 5).trans rfl
  have hcz6_6 : w3.cell? ⟨gb432, 6, none⟩ = some (.slice A0_6 l0_6.length c0_6) := (blk_cell BK432.out 6).trans rfl
  have hfz6_0 := blk_frozen BK432.out 0
  have hfz6_1 := blk_frozen BK432.out 1
  have hfz6_2 := blk_frozen BK432.out 2
  have hfz6_3 := blk_frozen BK432.out 3
  have hfz6_4 := blk_frozen BK432.out 4
  have hfz6_5 := blk_frozen BK432.out 5
  have hfz6_6 := blk_frozen BK432.out 6
  go_upto_if 12 with (fail)
  go_cut [12] (fun v12 wc => ∃ (kq : Nat) (x12_4 : Bool), v12 = .bool x12_4 ∧ Aside0 (corpus_heads.j0 kq (l0_5.length : Int) x12_4 l0_0 l0_1 l0_2 l0_3 l0_4 l0_5 l0_6 = some (r1, r2)) ∧ Aside0 (kq ≤ k) ∧ Aside0 (wc.heap[gb432]? = some (.cells #[(.slice A0_0 l0_0.length c0_0), (.slice A0_1 l0_1.length c0_1), (.slice A0_2 l0_2.length c0_2), (.slice A0_3 l0_3.length c0_3), (.slice A0_4 l0_4.length c0_4), (.slice A0_5 l0_5.length c0_5), (.slice A0_6 l0_6.length c0_6)] 46 (0, 0))) ∧ Aside0 (Below w.heap.size w wc))
  case first =>
   have H := HC5.out
   clear HC5
   by_cases c7 : (l0_5.length : Int) = (l0_6.length : Int)
   ·
    rw [if_pos c7] at H
    have c7b0 : ((l0_5.length : Int) == (l0_6.length : Int)) = true := beq_iff_eq.mpr c7
    have c7b1 : ((l0_5.length : Int) != (l0_6.length : Int)) = false := bne_eq_false_iff_eq.mpr c7
    have c7b2 : (l0_5.length == l0_6.length) = true := by first | simpa using c7 | (simp at c7 ⊢; omega)
    clear c7
    (first | rw [c7b0] | rw [c7b1] | (simp only [i64_w, i32_w]; rw [c7b0]) | skip)
    by_cases c8 : (l0_5.length : Int) > 0
    ·
     rw [if_pos c8] at H
     have c8b0 : decide (0 < (l0_5.length : Int)) = true := decide_eq_true c8
     have c8b1 : decide (0 < l0_5.length) = true := decide_eq_true (by omega)
     clear c8
     have H' := Aside0.mk H
     clear H
     have hcz9_0 : w3.cell? ⟨gb432, 0, none⟩ = some (.slice A0_0 l0_0.length c0_0) := (blk_cell BK432.out 0).trans rfl
     have hcz9_1 : w3.cell? ⟨gb432, 1, none⟩ = some (.slice A0_1 l0_1.length c0_1) := (blk_cell BK432.out 1).trans rfl
     have hcz9_2 : w3.cell? ⟨gb432, 2, none⟩ = some (.slice A0_2 l0_2.length c0_2) := (blk_cell BK432.out 2).trans rfl
     have hcz9_3 : w3.cell? ⟨gb432, 3, none⟩ = some (.slice A0_3 l0_3.length c0_3) := (blk_cell BK432.out 3).trans rfl
     have hcz9_4 : w3.cell? ⟨gb432, 4, none⟩ = some (.slice A0_4 l0_4.length c0_4) := (blk_cell BK432.out 4).trans rfl
     have hcz9_5 : w3.cell? ⟨gb432, 5, none⟩ = some (.slice A0_5 l0_5.length c0_5) := (blk_cell BK432.out 5).trans rfl
     have hcz9_6 : w3.cell? ⟨gb432, 6, none⟩ = some (.slice A0_6 l0_6.length c0_6) := (blk_cell BK432.out 6).trans rfl
     have hfz9_0 := blk_frozen BK432.out 0
     have hfz9_1 := blk_frozen BK432.out 1
     have hfz9_2 := blk_frozen BK432.out 2
     have hfz9_3 := blk_frozen BK432.out 3
     have hfz9_4 := blk_frozen BK432.out 4
     have hfz9_5 := blk_frozen BK432.out 5
     have hfz9_6 := blk_frozen BK432.out 6
     go_wp2
     go_meet
     case rel => exact ⟨_, (((l0_5.length : Int) != (l0_1.length : Int))), (BE), H', ⟨by first | omega | exact Nat.le_refl _⟩, ⟨by (with_reducible repeat (first | refine blk_drewN ?_ _ | refine blk_drew ?_ | refine blk_alloc ?_ _)); exact BK432.out⟩, ⟨BS GE432.out⟩⟩
    ·
     rw [if_neg c8] at H
     have c8b0 : decide (0 < (l0_5.length : Int)) = false := decide_eq_false c8
     have c8b1 : decide (0 < l0_5.length) = false := decide_eq_false (by omega)
     clear c8
     have H' := Aside0.mk H
     clear H
     go_wp2
     go_meet
     case rel => exact ⟨_, (false), (BE), H', ⟨by first | omega | exact Nat.le_refl _⟩, ⟨by (with_reducible repeat (first | refine blk_drewN ?_ _ | refine blk_drew ?_ | refine blk_alloc ?_ _)); exact BK432.out⟩, ⟨BS GE432.out⟩⟩
   ·
    rw [if_neg c7] at H
    have c7b0 : ((l0_5.length : Int) == (l0_6.length : Int)) = false := beq_eq_false_iff_ne.mpr c7
    have c7b1 : ((l0_5.length : Int) != (l0_6.length : Int)) = true := bne_iff_ne.mpr c7
    have c7b2 : (l0_5.length == l0_6.length) = false := by first | simpa using c7 | (simp at c7 ⊢; omega)
    (first | rw [c7b0] | rw [c7b1] | (simp only [i64_w, i32_w]; rw [c7b0]) | skip)
    have H' := Aside0.mk H
    clear H
    go_wp2
    go_meet
    case rel => exact ⟨_, (((l0_5.length : Int) != (l0_6.length : Int))), (BE), H', ⟨by first | omega | exact Nat.le_refl _⟩, ⟨by (with_reducible repeat (first | refine blk_drewN ?_ _ | refine blk_drew ?_ | refine blk_alloc ?_ _)); exact BK432.out⟩, ⟨BS GE432.out⟩⟩
  case rest =>
   clear HC5
   (try clear p2); (try clear c3); (try clear c7); (try clear c7b0); (try clear c7b1); (try clear c7b2); (try clear c8); (try clear c8b0); (try clear c8b1); (try clear hcz4_0); (try clear hcz4_1); (try clear hcz4_2); (try clear hcz4_3)
   (try clear hcz4_4); (try clear hcz4_5); (try clear hcz4_6); (try clear hcz6_0); (try clear hcz6_1); (try clear hcz6_2); (try clear hcz6_3); (try clear hcz6_4); (try clear hcz6_5); (try clear hcz6_6); (try clear hcz9_0)
   (try clear hcz9_1); (try clear hcz9_2); (try clear hcz9_3); (try clear hcz9_4); (try clear hcz9_5); (try clear hcz9_6); (try clear hfz4_0); (try clear hfz4_1); (try clear hfz4_2); (try clear hfz4_3); (try clear hfz4_4)
   (try clear hfz4_5); (try clear hfz4_6); (try clear hfz6_0); (try clear hfz6_1); (try clear hfz6_2); (try clear hfz6_3); (try clear hfz6_4); (try clear hfz6_5); (try clear hfz6_6); (try clear hfz9_0); (try clear hfz9_1)
   (try clear hfz9_2); (try clear hfz9_3); (try clear hfz9_4); (try clear hfz9_5); (try clear hfz9_6)
   obtain ⟨kq, x12_4, rfl, HA, HJ4, BK432, HB⟩ := hcut
   cases kq with
   | zero => exact absurd HA.out (by simp [corpus_heads.j0])
   | succ kj4 =>
    have H := HA.out
    clear HA
    simp only [corpus_heads.j0] at H
    by_cases c10 : x12_4 = true
    ·
     subst c10
     have H1 : (some (0, 15)) = some (r1, r2) := by rw [if_pos rfl] at H; exact H
     clear H
     have H := H1
     clear H1
     simp only [Option.some.injEq, Prod.mk.injEq] at H
     obtain ⟨rfl, rfl⟩ := H
     go_wp2
     go_ret2
     exact ⟨BX, BS GE432.out⟩
    ·
     replace c10 := Bool.eq_false_iff.mpr c10
     subst c10
     have H1 : (if (l0_5.length : Int) > 0 then ((corpus_noHeads.f kj4 l0_5 l0_6).bind fun t433 => (if t433 = true then (some (0, 14)) else (corpus_heads.j1 kj4 l0_0 l0_1 l0_2 l0_3 l0_4 l0_5 l0_6))) else (corpus_heads.j1 kj4 l0_0 l0_1 l0_2 l0_3 l0_4 l0_5 l0_6)) = some (r1, r2) := by rw [if_neg (show ¬ (false = true) by decide)] at H; exact H
     clear H
     have H := H1
     clear H1
     by_cases c11 : (l0_5.length : Int) > 0
     ·
      rw [if_pos c11] at H
      have c11b0 : decide (0 < (l0_5.length : Int)) = true := decide_eq_true c11
      have c11b1 : decide (0 < l0_5.length) = true := decide_eq_true (by omega)
      clear c11
      replace H := Option.bind_eq_some_iff.mp H
      obtain ⟨t433, A120, H⟩ := H
      replace H : (if t433 = true then (some (0, 14)) else (corpus_heads.j1 kj4 l0_0 l0_1 l0_2 l0_3 l0_4 l0_5 l0_6)) = some (r1, r2) := H
      have A12 := Aside0.mk A120
      clear A120
      by_cases c13 : t433 = true
      ·
       subst c13
       have H1 : (some (0, 14)) = some (r1, r2) := by rw [if_pos rfl] at H; exact H
       clear H
       have H := H1
       clear H1
       simp only [Option.some.injEq, Prod.mk.injEq] at H
       obtain ⟨rfl, rfl⟩ := H
       have hcz14_0 : wc.cell? ⟨gb432, 0, none⟩ = some (.slice A0_0 l0_0.length c0_0) := (blk_cell BK432.out 0).trans rfl
       have hcz14_1 : wc.cell? ⟨gb432, 1, none⟩ = some (.slice A0_1 l0_1.length c0_1) := (blk_cell BK432.out 1).trans rfl
       have hcz14_2 : wc.cell? ⟨gb432, 2, none⟩ = some (.slice A0_2 l0_2.length c0_2) := (blk_cell BK432.out 2).trans rfl
       have hcz14_3 : wc.cell? ⟨gb432, 3, none⟩ = some (.slice A0_3 l0_3.length c0_3) := (blk_cell BK432.out 3).trans rfl
       have hcz14_4 : wc.cell? ⟨gb432, 4, none⟩ = some (.slice A0_4 l0_4.length c0_4) := (blk_cell BK432.out 4).trans rfl
       have hcz14_5 : wc.cell? ⟨gb432, 5, none⟩ = some (.slice A0_5 l0_5.length c0_5) := (blk_cell BK432.out 5).trans rfl
       have hcz14_6 : wc.cell? ⟨gb432, 6, none⟩ = some (.slice A0_6 l0_6.length c0_6) := (blk_cell BK432.out 6).trans rfl
       have hfz14_0 := blk_frozen BK432.out 0
       have hfz14_1 := blk_frozen BK432.out 1
       have hfz14_2 := blk_frozen BK432.out 2
       have hfz14_3 := blk_frozen BK432.out 3
       have hfz14_4 := blk_frozen BK432.out 4
       have hfz14_5 := blk_frozen BK432.out 5
       have hfz14_6 := blk_frozen BK432.out 6
       go_wp2_with (first | (go_at_call 48; (with_reducible refine (corpus_noHeads.calls kj4 _ _ l0_5 _ _ l0_6 true _ ?side1 ?side2 ?side3 ?side4 A12.out).mono ?_); (case side1 => exact BC HR0_5.out); (case side2 => exact HC0_5.out); (case side3 => exact BC HR0_6.out); (case side4 => exact HC0_6.out); rintro e w' ⟨rfl, ⟨nd, rfl⟩⟩))
       go_ret2
       exact ⟨BX, BS GE432.out⟩
      ·
       replace c13 := Bool.eq_false_iff.mpr c13
       subst c13
       have H1 : (corpus_heads.j1 kj4 l0_0 l0_1 l0_2 l0_3 l0_4 l0_5 l0_6) = some (r1, r2) := by rw [if_neg (show ¬ (false = true) by decide)] at H; exact H
       clear H
       have H := H1
       clear H1
       have H' := Aside0.mk H
       clear H
       have hcz15_0 : wc.cell? ⟨gb432, 0, none⟩ = some (.slice A0_0 l0_0.length c0_0) := (blk_cell BK432.out 0).trans rfl
       have hcz15_1 : wc.cell? ⟨gb432, 1, none⟩ = some (.slice A0_1 l0_1.length c0_1) := (blk_cell BK432.out 1).trans rfl
       have hcz15_2 : wc.cell? ⟨gb432, 2, none⟩ = some (.slice A0_2 l0_2.length c0_2) := (blk_cell BK432.out 2).trans rfl
       have hcz15_3 : wc.cell? ⟨gb432, 3, none⟩ = some (.slice A0_3 l0_3.length c0_3) := (blk_cell BK432.out 3).trans rfl
       have hcz15_4 : wc.cell? ⟨gb432, 4, none⟩ = some (.slice A0_4 l0_4.length c0_4) := (blk_cell BK432.out 4).trans rfl
       have hcz15_5 : wc.cell? ⟨gb432, 5, none⟩ = some (.slice A0_5 l0_5.length c0_5) := (blk_cell BK432.out 5).trans rfl
       have hcz15_6 : wc.cell? ⟨gb432, 6, none⟩ = some (.slice A0_6 l0_6.length c0_6) := (blk_cell BK432.out 6).trans rfl
       have hfz15_0 := blk_frozen BK432.out 0
       have hfz15_1 := blk_frozen BK432.out 1
       have hfz15_2 := blk_frozen BK432.out 2
       have hfz15_3 := blk_frozen BK432.out 3
       have hfz15_4 := blk_frozen BK432.out 4
       have hfz15_5 := blk_frozen BK432.out 5
       have hfz15_6 := blk_frozen BK432.out 6
       go_wp2_with (first | (go_at_call 48; (with_reducible refine (corpus_noHeads.calls kj4 _ _ l0_5 _ _ l0_6 false _ ?side1 ?side2 ?side3 ?side4 A12.out).mono ?_); (case side1 => exact BC HR0_5.out); (case side2 => exact HC0_5.out); (case side3 => exact BC HR0_6.out); (case side4 => exact HC0_6.out); rintro e w' ⟨rfl, ⟨nd, rfl⟩⟩))
       go_meet
       case rel => exact ⟨_, H', ⟨by have := HJ4.out; first | omega | exact Nat.le_refl _⟩, ⟨by (with_reducible repeat (first | refine blk_drewN ?_ _ | refine blk_drew ?_ | refine blk_alloc ?_ _)); exact BK432.out⟩, ⟨BS GE432.out⟩⟩
     ·
      rw [if_neg c11] at H
      have c11b0 : decide (0 < (l0_5.length : Int)) = false := decide_eq_false c11
      have c11b1 : decide (0 < l0_5.length) = false := decide_eq_false (by omega)
      clear c11
      have H' := Aside0.mk H
      clear H
      go_wp2
      go_meet
      case rel => exact ⟨_, H', ⟨by have := HJ4.out; first | omega | exact Nat.le_refl _⟩, ⟨by (with_reducible repeat (first | refine blk_drewN ?_ _ | refine blk_drew ?_ | refine blk_alloc ?_ _)); exact BK432.out⟩, ⟨BS GE432.out⟩⟩
 case rest =>
  clear HC2
  (try clear c1); (try clear p2); (try clear c3); (try clear c7); (try clear c7b0); (try clear c7b1); (try clear c7b2); (try clear c8); (try clear c8b0); (try clear c8b1); (try clear c10); (try clear c11); (try clear c11b0)
  (try clear c11b1); (try clear c13); (try clear hcz14_0); (try clear hcz14_1); (try clear hcz14_2); (try clear hcz14_3); (try clear hcz14_4); (try clear hcz14_5); (try clear hcz14_6); (try clear hcz15_0); (try clear hcz15_1)
  (try clear hcz15_2); (try clear hcz15_3); (try clear hcz15_4); (try clear hcz15_5); (try clear hcz15_6); (try clear hcz4_0); (try clear hcz4_1); (try clear hcz4_2); (try clear hcz4_3); (try clear hcz4_4); (try clear hcz4_5)
  (try clear hcz4_6); (try clear hcz6_0); (try clear hcz6_1); (try clear hcz6_2); (try clear hcz6_3); (try clear hcz6_4); (try clear hcz6_5); (try clear hcz6_6); (try clear hcz9_0); (try clear hcz9_1); (try clear hcz9_2)
  (try clear hcz9_3); (try clear hcz9_4); (try clear hcz9_5); (try clear hcz9_6); (try clear hfz14_0); (try clear hfz14_1); (try clear hfz14_2); (try clear hfz14_3); (try clear hfz14_4); (try clear hfz14_5); (try clear hfz14_6)
  (try clear hfz15_0); (try clear hfz15_1); (try clear hfz15_2); (try clear hfz15_3); (try clear hfz15_4); (try clear hfz15_5); (try clear hfz15_6); (try clear hfz4_0); (try clear hfz4_1); (try clear hfz4_2); (try clear hfz4_3)
  (try clear hfz4_4); (try clear hfz4_5); (try clear hfz4_6); (try clear hfz6_0); (try clear hfz6_1); (try clear hfz6_2); (try clear hfz6_3); (try clear hfz6_4); (try clear hfz6_5); (try clear hfz6_6); (try clear hfz9_0)
  (try clear hfz9_1); (try clear hfz9_2); (try clear hfz9_3); (try clear hfz9_4); (try clear hfz9_5); (try clear hfz9_6); (try clear p2)
  obtain ⟨kq, HA, HJ1, BK432, HB⟩ := hcut
  cases kq with
  | zero => exact absurd HA.out (by simp [corpus_heads.j1])
  | succ kj1 =>
   have H := HA.out
   clear HA
   simp only [corpus_heads.j1] at H
   replace H := Option.bind_eq_some_iff.mp H
   obtain ⟨t434, A160, H⟩ := H
   replace H : (corpus_heads.l0 kj1 t434 l0_5 (l0_5.length : Int) 0 l0_0 l0_1 l0_2 l0_3 l0_4 l0_5 l0_6) = some (r1, r2) := H
   have A16 := Aside0.mk A160
   clear A160
   have H' := Aside0.mk H
   clear H
   have hcz17_0 : wc.cell? ⟨gb432, 0, none⟩ = some (.slice A0_0 l0_0.length c0_0) := (blk_cell BK432.out 0).trans rfl
   have hcz17_1 : wc.cell? ⟨gb432, 1, none⟩ = some (.slice A0_1 l0_1.length c0_1) := (blk_cell BK432.out 1).trans rfl
   have hcz17_2 : wc.cell? ⟨gb432, 2, none⟩ = some (.slice A0_2 l0_2.length c0_2) := (blk_cell BK432.out 2).trans rfl
   have hcz17_3 : wc.cell? ⟨gb432, 3, none⟩ = some (.slice A0_3 l0_3.length c0_3) := (blk_cell BK432.out 3).trans rfl
   have hcz17_4 : wc.cell? ⟨gb432, 4, none⟩ = some (.slice A0_4 l0_4.length c0_4) := (blk_cell BK432.out 4).trans rfl
   have hcz17_5 : wc.cell? ⟨gb432, 5, none⟩ = some (.slice A0_5 l0_5.length c0_5) := (blk_cell BK432.out 5).trans rfl
   have hcz17_6 : wc.cell? ⟨gb432, 6, none⟩ = some (.slice A0_6 l0_6.length c0_6) := (blk_cell BK432.out 6).trans rfl
   have hfz17_0 := blk_frozen BK432.out 0
   have hfz17_1 := blk_frozen BK432.out 1
   have hfz17_2 := blk_frozen BK432.out 2
   have hfz17_3 := blk_frozen BK432.out 3
   have hfz17_4 := blk_frozen BK432.out 4
   have hfz17_5 := blk_frozen BK432.out 5
   have hfz17_6 := blk_frozen BK432.out 6
   go_wp2_with (first | ((with_reducible refine gate_callee (f := 49) rfl ?_); refine goesL_ (some 39) rfl rfl Tryd.func49 (by kernel_rfl) rfl #[.slice A0_5 l0_5.length c0_5] rfl BM ?_; (with_reducible refine (corpus_cycles.calls kj1 _ _ l0_5 t434 _ ?side1 ?side2 A16.out).mono ?_); (case side1 => exact BC HR0_5.out); (case side2 => exact HC0_5.out); rintro e w18 ⟨v435, rfl, ho0, hb⟩; refine ⟨_, rfl, ?_⟩; have n0_ := Aside0.mk (Kd.R_lower ho0 (below_size (BS GE432.out))); have n1_ := Aside0.mk (blk_below (g := gb432) (o := .cells #[.slice A0_0 l0_0.length c0_0, .slice A0_1 l0_1.length c0_1, .slice A0_2 l0_2.length c0_2, .slice A0_3 l0_3.length c0_3, .slice A0_4 l0_4.length c0_4, .slice A0_5 l0_5.length c0_5, .slice A0_6 l0_6.length c0_6] 46 (0, 0)) (by (with_reducible repeat (first | refine blk_drewN ?_ _ | refine blk_drew ?_ | refine blk_alloc ?_ _)); exact BK432.out) hb); have n2_ := Aside0.mk (below_step (BS GE432.out) hb); clear BK432; clear HB; have HO436 := n0_; have BK432 := n1_; have HB := n2_; clear n0_ n1_ n2_; (try clear hb); (try clear hb2); (try clear hk); (try clear hi); (try clear ho0); have hcz19_0 : w18.cell? ⟨gb432, 0, none⟩ = some (.slice A0_0 l0_0.length c0_0) := (blk_cell BK432.out 0).trans rfl; have hcz19_1 : w18.cell? ⟨gb432, 1, none⟩ = some (.slice A0_1 l0_1.length c0_1) := (blk_cell BK432.out 1).trans rfl; have hcz19_2 : w18.cell? ⟨gb432, 2, none⟩ = some (.slice A0_2 l0_2.length c0_2) := (blk_cell BK432.out 2).trans rfl; have hcz19_3 : w18.cell? ⟨gb432, 3, none⟩ = some (.slice A0_3 l0_3.length c0_3) := (blk_cell BK432.out 3).trans rfl; have hcz19_4 : w18.cell? ⟨gb432, 4, none⟩ = some (.slice A0_4 l0_4.length c0_4) := (blk_cell BK432.out 4).trans rfl; have hcz19_5 : w18.cell? ⟨gb432, 5, none⟩ = some (.slice A0_5 l0_5.length c0_5) := (blk_cell BK432.out 5).trans rfl; have hcz19_6 : w18.cell? ⟨gb432, 6, none⟩ = some (.slice A0_6 l0_6.length c0_6) := (blk_cell BK432.out 6).trans rfl; have hfz19_0 := blk_frozen BK432.out 0; have hfz19_1 := blk_frozen BK432.out 1; have hfz19_2 := blk_frozen BK432.out 2; have hfz19_3 := blk_frozen BK432.out 3; have hfz19_4 := blk_frozen BK432.out 4; have hfz19_5 := blk_frozen BK432.out 5; have hfz19_6 := blk_frozen BK432.out 6))
   go_loopg [43] kj1 (fun kq v43 w' => ∃ (x43_2 : Int), v43 = .int .i64 x43_2 ∧ Aside0 (corpus_heads.l0 kq t434 l0_5 (l0_5.length : Int) x43_2 l0_0 l0_1 l0_2 l0_3 l0_4 l0_5 l0_6 = some (r1, r2)) ∧ Aside0 (kq ≤ kj1) ∧ Aside0 (Kd.R Kd.bool 4 w' w.heap.size (fun _ => True) v435 t434) ∧ Aside0 (w'.heap[gb432]? = some (.cells #[(.slice A0_0 l0_0.length c0_0), (.slice A0_1 l0_1.length c0_1), (.slice A0_2 l0_2.length c0_2), (.slice A0_3 l0_3.length c0_3), (.slice A0_4 l0_4.length c0_4), (.slice A0_5 l0_5.length c0_5), (.slice A0_6 l0_6.length c0_6)] 46 (0, 0))) ∧ Aside0 (Below w.heap.size w w'))
   case atStart => exact ⟨(0), (BE), H', ⟨Nat.le_refl _⟩, ⟨BR HO436.out⟩, ⟨by (with_reducible repeat (first | refine blk_drewN ?_ _ | refine blk_drew ?_ | refine blk_alloc ?_ _)); exact BK432.out⟩, ⟨BS GE432.out⟩⟩
   case round =>
    clear H'
    (try clear c1); (try clear p2); (try clear c3); (try clear c4); (try clear c7); (try clear c7b0); (try clear c7b1); (try clear c7b2); (try clear c8); (try clear c8b0); (try clear c8b1); (try clear c10); (try clear c11)
    (try clear c11b0); (try clear c11b1); (try clear c13); (try clear hcz14_0); (try clear hcz14_1); (try clear hcz14_2); (try clear hcz14_3); (try clear hcz14_4); (try clear hcz14_5); (try clear hcz14_6); (try clear hcz15_0)
    (try clear hcz15_1); (try clear hcz15_2); (try clear hcz15_3); (try clear hcz15_4); (try clear hcz15_5); (try clear hcz15_6); (try clear hcz17_0); (try clear hcz17_1); (try clear hcz17_2); (try clear hcz17_3); (try clear hcz17_4)
    (try clear hcz17_5); (try clear hcz17_6); (try clear hcz19_0); (try clear hcz19_1); (try clear hcz19_2); (try clear hcz19_3); (try clear hcz19_4); (try clear hcz19_5); (try clear hcz19_6); (try clear hcz4_0); (try clear hcz4_1)
    (try clear hcz4_2); (try clear hcz4_3); (try clear hcz4_4); (try clear hcz4_5); (try clear hcz4_6); (try clear hcz6_0); (try clear hcz6_1); (try clear hcz6_2); (try clear hcz6_3); (try clear hcz6_4); (try clear hcz6_5)
    (try clear hcz6_6); (try clear hcz9_0); (try clear hcz9_1); (try clear hcz9_2); (try clear hcz9_3); (try clear hcz9_4); (try clear hcz9_5); (try clear hcz9_6); (try clear hfz14_0); (try clear hfz14_1); (try clear hfz14_2)
    (try clear hfz14_3); (try clear hfz14_4); (try clear hfz14_5); (try clear hfz14_6); (try clear hfz15_0); (try clear hfz15_1); (try clear hfz15_2); (try clear hfz15_3); (try clear hfz15_4); (try clear hfz15_5); (try clear hfz15_6)
    (try clear hfz17_0); (try clear hfz17_1); (try clear hfz17_2); (try clear hfz17_3); (try clear hfz17_4); (try clear hfz17_5); (try clear hfz17_6); (try clear hfz19_0); (try clear hfz19_1); (try clear hfz19_2); (try clear hfz19_3)
    (try clear hfz19_4); (try clear hfz19_5); (try clear hfz19_6); (try clear hfz4_0); (try clear hfz4_1); (try clear hfz4_2); (try clear hfz4_3); (try clear hfz4_4); (try clear hfz4_5); (try clear hfz4_6); (try clear hfz6_0)
    (try clear hfz6_1); (try clear hfz6_2); (try clear hfz6_3); (try clear hfz6_4); (try clear hfz6_5); (try clear hfz6_6); (try clear hfz9_0); (try clear hfz9_1); (try clear hfz9_2); (try clear hfz9_3); (try clear hfz9_4)
    (try clear hfz9_5); (try clear hfz9_6); (try clear p2)
    obtain ⟨x43_2, rfl, HA, HK2, HO_5, BK432, HB⟩ := hrel
    cases gk with
    | zero => exact absurd HA.out (by simp [corpus_heads.l0])
    | succ k2 =>
     have H := HA.out
     clear HA
     simp only [corpus_heads.l0] at H
     by_cases c20 : x43_2 < (l0_5.length : Int)
     ·
      rw [if_pos c20] at H
      have c20b0 : decide (x43_2 < (l0_5.length : Int)) = true := decide_eq_true c20
      clear c20
      by_cases c21 : 0 ≤ x43_2
      ·
       rw [if_pos c21] at H
       have c21b0 : decide (0 ≤ x43_2) = true := decide_eq_true c21
       clear c21
       by_cases c22 : x43_2 < (l0_5.length : Int)
       ·
        rw [if_pos c22] at H
        have c22b0 : decide (x43_2 < (l0_5.length : Int)) = true := decide_eq_true c22
        clear c22
        replace H := Option.bind_eq_some_iff.mp H
        obtain ⟨t438, A230, H⟩ := H
        replace H : (if 0 ≤ t438 then (if t438 < (l0_2.length : Int) then (if (rd l0_5 x43_2) = (-1) then (corpus_heads.j3 k2 t434 x43_2 l0_5 (l0_5.length : Int) x43_2 false l0_0 l0_1 l0_2 l0_3 l0_4 l0_5 l0_6) else (if (rd l0_5 x43_2) < ((rd_T40 l0_2 t438).f1) then (corpus_heads.j3 k2 t434 x43_2 l0_5 (l0_5.length : Int) x43_2 true l0_0 l0_1 l0_2 l0_3 l0_4 l0_5 l0_6) else (corpus_heads.j3 k2 t434 x43_2 l0_5 (l0_5.length : Int) x43_2 (decide ((rd l0_5 x43_2) ≥ ((rd_T40 l0_2 t438).f2))) l0_0 l0_1 l0_2 l0_3 l0_4 l0_5 l0_6))) else (none)) else (none)) = some (r1, r2) := H
        have A23 := Aside0.mk A230
        clear A230
        by_cases c24 : 0 ≤ t438
        ·
         rw [if_pos c24] at H
         have c24b0 : decide (0 ≤ t438) = true := decide_eq_true c24
         clear c24
         by_cases c25 : t438 < (l0_2.length : Int)
         ·
          rw [if_pos c25] at H
          have c25b0 : decide (t438 < (l0_2.length : Int)) = true := decide_eq_true c25
          clear c25
          have HC26 := Aside0.mk H
          clear H
          have p437 : 0 ≤ (x43_2 : Int) := OD
          have q437 : x43_2 < (l0_5.length : Int) := OD
          obtain ⟨ad437, e437, hx437_0⟩ := Kd.at_int HR0_5.out x43_2 p437 q437
          cases e437
          replace hx437_0 := (HB.out.cell (World.block_lt_of_cell? w _ hx437_0)).trans hx437_0
          replace p437 := eq_true p437
          replace q437 := eq_true q437
          try go_wp2
          have n0_ := Aside0.mk (Kd.R_drew HO_5.out)
          have n1_ := Aside0.mk (blk_drew BK432.out)
          have n2_ := Aside0.mk (below_drew1 HB.out)
          clear HO_5
          clear BK432
          clear HB
          have HO_5 := n0_
          have BK432 := n1_
          have HB := n2_
          clear n0_ n1_ n2_
          have p439 : 0 ≤ (t438 : Int) := OD
          have q439 : t438 < (l0_2.length : Int) := OD
          obtain ⟨ad439, A439_3, c439_3, e439, hx439_0, hx439_1, hx439_2, hx439_3, hl439_3, hi439_3⟩ := at_T40 HR0_2.out t438 p439 q439
          have hw439_3 := hx439_3
          have hw439_2 := hx439_2
          have hw439_1 := hx439_1
          have hw439_0 := hx439_0
          cases e439
          replace hx439_0 := (HB.out.cell (World.block_lt_of_cell? w _ hx439_0)).trans hx439_0
          replace hx439_1 := (HB.out.cell (World.block_lt_of_cell? w _ hx439_1)).trans hx439_1
          replace hx439_2 := (HB.out.cell (World.block_lt_of_cell? w _ hx439_2)).trans hx439_2
          replace hx439_3 := (HB.out.cell (World.block_lt_of_cell? w _ hx439_3)).trans hx439_3
          have HR439_3 := Aside0.mk hi439_3
          have HC439_3 := Aside0.mk hl439_3
          clear hi439_3 hl439_3
          replace p439 := eq_true p439
          replace q439 := eq_true q439
          refine start_ (n := 9) (S := fun w' => w'.cell? ⟨gb432, 0, none⟩ = some (.slice A0_0 l0_0.length c0_0) ∧ w'.cell? ⟨gb432, 1, none⟩ = some (.slice A0_1 l0_1.length c0_1) ∧ w'.cell? ⟨gb432, 2, none⟩ = some (.slice (some ad439) l0_2.length c0_2) ∧ w'.cell? ⟨gb432, 3, none⟩ = some (.slice A0_3 l0_3.length c0_3) ∧ w'.cell? ⟨gb432, 4, none⟩ = some (.slice A0_4 l0_4.length c0_4) ∧ w'.cell? ⟨gb432, 5, none⟩ = some (.slice (some ad437) l0_5.length c0_5) ∧ w'.cell? ⟨gb432, 6, none⟩ = some (.slice A0_6 l0_6.length c0_6) ∧ w'.cell? (ad439.add ((t438).toNat * 4)) = some (.string ((rd_T40 l0_2 t438).f0)) ∧ w'.cell? ⟨(ad439.add ((t438).toNat * 4)).block, (ad439.add ((t438).toNat * 4)).off + 1, none⟩ = some (.int .i64 ((rd_T40 l0_2 t438).f1)) ∧ w'.cell? ⟨(ad439.add ((t438).toNat * 4)).block, (ad439.add ((t438).toNat * 4)).off + 2, none⟩ = some (.int .i64 ((rd_T40 l0_2 t438).f2)) ∧ w'.cell? ⟨(ad439.add ((t438).toNat * 4)).block, (ad439.add ((t438).toNat * 4)).off + 3, none⟩ = some (.slice A439_3 ((rd_T40 l0_2 t438).f3).length c439_3)) (ds := []) #[false, false, false, false, false, false, false, false, false] (by kernel_rfl) rfl rfl ⟨(blk_cell BK432.out 0).trans rfl, (blk_cell BK432.out 1).trans rfl, (blk_cell BK432.out 2).trans rfl, (blk_cell BK432.out 3).trans rfl, (blk_cell BK432.out 4).trans rfl, (blk_cell BK432.out 5).trans rfl, (blk_cell BK432.out 6).trans rfl, ((HB.out.cell (World.block_lt_of_cell? w _ hw439_0)).trans hw439_0), ((HB.out.cell (World.block_lt_of_cell? w _ hw439_1)).trans hw439_1), ((HB.out.cell (World.block_lt_of_cell? w _ hw439_2)).trans hw439_2), ((HB.out.cell (World.block_lt_of_cell? w _ hw439_3)).trans hw439_3)⟩ (fun hHeld => ?_); refine with_tabW corpus_heads.tab11 corpus_heads.bits11 (fun HT_ HW_ => ?_)
          generalize wr.drew = w27 at HO_5 BK432 HB HR439_3 hx439_0 hx439_1 hx439_2 hx439_3 hHeld ⊢
          refine pure_ (i := 0) (N := some 48) (v := ?_) (a' := ?_) #[true, false, false, false, false, false, false, false, false] rfl rfl (any_of HT_.out (by kernel_rfl)) (fun _ _ _ h => h) (Or.inl ⟨by rfl, ?_⟩) ?_ ?_
          rotate_left
          ·
           intro w'
           go_simp
           with_reducible rfl
          rotate_left
          ·
           simp only [Act.put, List.setIfInBounds_toArray, List.set_cons_zero, List.set_cons_succ, i64_w, i32_w]
           rfl
          refine pure_ (i := 3) (N := some 51) (v := ?_) (a' := ?_) #[true, false, false, true, false, false, false, false, false] rfl rfl (any_of HT_.out (by kernel_rfl)) (fun _ _ _ h => h) (Or.inl ⟨by rfl, ?_⟩) ?_ ?_
          rotate_left
          ·
           intro w'
           go_simp
           with_reducible rfl
          rotate_left
          ·
           simp only [Act.put, List.setIfInBounds_toArray, List.set_cons_zero, List.set_cons_succ, i64_w, i32_w]
           rfl
          refine take_ (i := 1) (N := some 49) (v := ?_) (a' := ?_) #[true, true, false, true, false, false, false, false, false] rfl rfl (take_ofW HT_.out HW_.out (by kernel_rfl)) (fun _ _ _ h => h) (Or.inl ⟨by rfl, ?_⟩) hHeld ?_ ?_
          rotate_left
          ·
           rintro w' ⟨s0, s1, s2, s3, s4, s5, s6, s7, s8, s9, s10⟩
           go_simp
           with_reducible rfl
          rotate_left
          ·
           simp only [Act.put, List.setIfInBounds_toArray, List.set_cons_zero, List.set_cons_succ, i64_w, i32_w]
           rfl
          refine take_ (i := 2) (N := some 50) (v := ?_) (a' := ?_) #[true, true, true, true, false, false, false, false, false] rfl rfl (take_ofW HT_.out HW_.out (by kernel_rfl)) (fun _ _ _ h => h) (Or.inl ⟨by rfl, ?_⟩) hHeld ?_ ?_
          rotate_left
          ·
           rintro w' ⟨s0, s1, s2, s3, s4, s5, s6, s7, s8, s9, s10⟩
           go_simp
           with_reducible rfl
          rotate_left
          ·
           simp only [Act.put, List.setIfInBounds_toArray, List.set_cons_zero, List.set_cons_succ, i64_w, i32_w]
           rfl
          refine join_ (σ := Nat) 1 #[true, true, true, true, true, true, true, true, false] (fun s_ => [(52, .int .i64 t438), (8, .pointer (some ⟨s_, 0, none⟩)), (53, .pointer (some (ad439.add ((t438).toNat * 4)))), (54, .agg #[.string ((rd_T40 l0_2 t438).f0), .int .i64 ((rd_T40 l0_2 t438).f1), .int .i64 ((rd_T40 l0_2 t438).f2), .slice A439_3 ((rd_T40 l0_2 t438).f3).length c439_3])]) (fun s_ w' => (w'.cell? ⟨gb432, 0, none⟩ = some (.slice A0_0 l0_0.length c0_0) ∧ w'.cell? ⟨gb432, 1, none⟩ = some (.slice A0_1 l0_1.length c0_1) ∧ w'.cell? ⟨gb432, 2, none⟩ = some (.slice (some ad439) l0_2.length c0_2) ∧ w'.cell? ⟨gb432, 3, none⟩ = some (.slice A0_3 l0_3.length c0_3) ∧ w'.cell? ⟨gb432, 4, none⟩ = some (.slice A0_4 l0_4.length c0_4) ∧ w'.cell? ⟨gb432, 5, none⟩ = some (.slice (some ad437) l0_5.length c0_5) ∧ w'.cell? ⟨gb432, 6, none⟩ = some (.slice A0_6 l0_6.length c0_6) ∧ w'.cell? (ad439.add ((t438).toNat * 4)) = some (.string ((rd_T40 l0_2 t438).f0)) ∧ w'.cell? ⟨(ad439.add ((t438).toNat * 4)).block, (ad439.add ((t438).toNat * 4)).off + 1, none⟩ = some (.int .i64 ((rd_T40 l0_2 t438).f1)) ∧ w'.cell? ⟨(ad439.add ((t438).toNat * 4)).block, (ad439.add ((t438).toNat * 4)).off + 2, none⟩ = some (.int .i64 ((rd_T40 l0_2 t438).f2)) ∧ w'.cell? ⟨(ad439.add ((t438).toNat * 4)).block, (ad439.add ((t438).toNat * 4)).off + 3, none⟩ = some (.slice A439_3 ((rd_T40 l0_2 t438).f3).length c439_3)) ∧ (Kd.R Kd.bool 4 w' w.heap.size (fun _ => True) v435 t434) ∧ (w'.heap[gb432]? = some (.cells #[.slice A0_0 l0_0.length c0_0, .slice A0_1 l0_1.length c0_1, .slice (some ad439) l0_2.length c0_2, .slice A0_3 l0_3.length c0_3, .slice A0_4 l0_4.length c0_4, .slice (some ad437) l0_5.length c0_5, .slice A0_6 l0_6.length c0_6] 46 (0, 0))) ∧ (w'.heap[s_]? = some (.cells #[.string (⟨#[]⟩ : ByteArray), .int .i64 0, .int .i64 0, .slice none 0 0] 40 (0, 0))) ∧ (w.heap.size ≤ s_) ∧ (w.heap.size ≤ s_) ∧ (gb432 ≠ s_) ∧ (s_ ≠ gb432) ∧ (Below w.heap.size w w')) ?_ ?_
          rotate_left
          ·
           intro hCont
           refine two_ (i := 4) (j := 7) (Ni := some 52) (Nj := some 8) #[true, true, true, true, true, false, false, false, false] #[true, true, true, true, false, false, false, true, false] rfl rfl rfl rfl (two_of HT_.out (by kernel_rfl)) (by decide) (by decide) (fun K hK => ?_) (fun K hK => ?_)
           ·
            skip
            refine goes_ Tryd.func50 (by kernel_rfl) rfl #[.agg #[.slice A0_0 l0_0.length c0_0, .slice A0_1 l0_1.length c0_1, .slice (some ad439) l0_2.length c0_2, .slice A0_3 l0_3.length c0_3, .slice A0_4 l0_4.length c0_4, .slice (some ad437) l0_5.length c0_5, .slice A0_6 l0_6.length c0_6], .int .i64 x43_2] (by rfl) rfl rfl BM ?_
            with_reducible refine (corpus_TextAt.calls k2 _ _ l0_0 _ _ l0_1 _ _ l0_2 _ _ l0_3 _ _ l0_4 _ _ l0_5 _ _ l0_6 x43_2 t438 _ ?side1 ?side2 ?side3 ?side4 ?side5 ?side6 ?side7 ?side8 ?side9 ?side10 ?side11 ?side12 ?side13 ?side14 A23.out).mono ?_
            (case side1 => exact BC HR0_0.out)
            (case side2 => exact HC0_0.out)
            (case side3 => exact BC HR0_1.out)
            (case side4 => exact HC0_1.out)
            (case side5 => exact BC HR0_2.out)
            (case side6 => exact HC0_2.out)
            (case side7 => exact BC HR0_3.out)
            (case side8 => exact HC0_3.out)
            (case side9 => exact BC HR0_4.out)
            (case side10 => exact HC0_4.out)
            (case side11 => exact BC HR0_5.out)
            (case side12 => exact HC0_5.out)
            (case side13 => exact BC HR0_6.out)
            (case side14 => exact HC0_6.out)
            rintro e w28 ⟨rfl, hb⟩
            refine ⟨_, rfl, ?_⟩
            have n0_ := Aside0.mk (Kd.R_below (BR HO_5.out) hb)
            have n1_ := Aside0.mk (blk_below (g := gb432) (o := .cells #[.slice A0_0 l0_0.length c0_0, .slice A0_1 l0_1.length c0_1, .slice (some ad439) l0_2.length c0_2, .slice A0_3 l0_3.length c0_3, .slice A0_4 l0_4.length c0_4, .slice (some ad437) l0_5.length c0_5, .slice A0_6 l0_6.length c0_6] 46 (0, 0)) (by (with_reducible repeat (first | refine blk_drewN ?_ _ | refine blk_drew ?_ | refine blk_alloc ?_ _)); exact BK432.out) hb)
            have n2_ := Aside0.mk (below_step (BS GE432.out) hb)
            clear HO_5
            clear BK432
            clear HB
            have HO_5 := n0_
            have BK432 := n1_
            have HB := n2_
            clear n0_ n1_ n2_
            (try clear hb)
            (try clear hb2)
            (try clear hk)
            (try clear hi)
            refine hK.out _ _ ⟨(blk_cell BK432.out 0).trans rfl, (blk_cell BK432.out 1).trans rfl, (blk_cell BK432.out 2).trans rfl, (blk_cell BK432.out 3).trans rfl, (blk_cell BK432.out 4).trans rfl, (blk_cell BK432.out 5).trans rfl, (blk_cell BK432.out 6).trans rfl, ((HB.out.cell (World.block_lt_of_cell? w _ hw439_0)).trans hw439_0), ((HB.out.cell (World.block_lt_of_cell? w _ hw439_1)).trans hw439_1), ((HB.out.cell (World.block_lt_of_cell? w _ hw439_2)).trans hw439_2), ((HB.out.cell (World.block_lt_of_cell? w _ hw439_3)).trans hw439_3)⟩ (fun hHeld => ?_)
            clear hK K
            refine norm_ (a' := ?_) ?_ ?_
            rotate_left
            ·
             show Act.put _ (some 52) _ = _
             simp only [Act.put, List.setIfInBounds_toArray, List.set_cons_zero, List.set_cons_succ, i64_w, i32_w]
             rfl
            refine pure_ (i := 5) (N := some 53) (v := ?_) (a' := ?_) #[true, true, true, true, true, true, false, false, false] rfl rfl (any_of HT_.out (by kernel_rfl)) (fun _ _ _ h => h) (Or.inl ⟨by rfl, ?_⟩) ?_ ?_
            rotate_left
            ·
             intro w'
             go_simp
             with_reducible rfl
            rotate_left
            ·
             simp only [Act.put, List.setIfInBounds_toArray, List.set_cons_zero, List.set_cons_succ, i64_w, i32_w]
             rfl
            refine take_ (i := 6) (N := some 54) (v := ?_) (a' := ?_) #[true, true, true, true, true, true, true, false, false] rfl rfl (take_ofW HT_.out HW_.out (by kernel_rfl)) (fun _ _ _ h => h) (Or.inl ⟨by rfl, ?_⟩) hHeld ?_ ?_
            rotate_left
            ·
             rintro w' ⟨s0, s1, s2, s3, s4, s5, s6, s7, s8, s9, s10⟩
             go_simp
             with_reducible rfl
            rotate_left
            ·
             simp only [Act.put, List.setIfInBounds_toArray, List.set_cons_zero, List.set_cons_succ, i64_w, i32_w]
             rfl
            refine one_ (i := 7) (N := some 8) #[true, true, true, true, true, true, true, true, false] rfl rfl (one_of HT_.out (by kernel_rfl)) (by decide) (fun K hK => ?_)
            refine box_step ?hg (N := 8) ?hd (cs := #[.string (⟨#[]⟩ : ByteArray), .int .i64 0, .int .i64 0, .slice none 0 0]) (t := 40) ?hr ?_; (case hd => rfl); (case hg => rfl); (case hr => first | (go_simp; done) | (go_simp; rfl))
            intro gb440 hg w29 hbox hb
            have n0_ := Aside0.mk (Kd.R_below (BR HO_5.out) hb)
            have n1_ := Aside0.mk (blk_below (g := gb432) (o := .cells #[.slice A0_0 l0_0.length c0_0, .slice A0_1 l0_1.length c0_1, .slice (some ad439) l0_2.length c0_2, .slice A0_3 l0_3.length c0_3, .slice A0_4 l0_4.length c0_4, .slice (some ad437) l0_5.length c0_5, .slice A0_6 l0_6.length c0_6] 46 (0, 0)) (by (with_reducible repeat (first | refine blk_drewN ?_ _ | refine blk_drew ?_ | refine blk_alloc ?_ _)); exact BK432.out) hb)
            have n2_ := Aside0.mk (below_step (BS GE432.out) hb)
            have n3_ := Aside0.mk (hbox)
            have n4_ := Aside0.mk ((by rw [hg]; exact (below_size (BS GE432.out)) : w.heap.size ≤ gb440))
            have n5_ := Aside0.mk ((by rw [hg]; exact (below_size (BS GE432.out)) : w.heap.size ≤ gb440))
            have n6_ := Aside0.mk ((by rw [hg]; exact Nat.ne_of_lt (blk_lt (g := gb432) (o := .cells #[.slice A0_0 l0_0.length c0_0, .slice A0_1 l0_1.length c0_1, .slice (some ad439) l0_2.length c0_2, .slice A0_3 l0_3.length c0_3, .slice A0_4 l0_4.length c0_4, .slice (some ad437) l0_5.length c0_5, .slice A0_6 l0_6.length c0_6] 46 (0, 0)) (by (with_reducible repeat (first | refine blk_drewN ?_ _ | refine blk_drew ?_ | refine blk_alloc ?_ _)); exact BK432.out)) : gb432 ≠ gb440))
            have n7_ := Aside0.mk ((by rw [hg]; exact Nat.ne_of_gt (blk_lt (g := gb432) (o := .cells #[.slice A0_0 l0_0.length c0_0, .slice A0_1 l0_1.length c0_1, .slice (some ad439) l0_2.length c0_2, .slice A0_3 l0_3.length c0_3, .slice A0_4 l0_4.length c0_4, .slice (some ad437) l0_5.length c0_5, .slice A0_6 l0_6.length c0_6] 46 (0, 0)) (by (with_reducible repeat (first | refine blk_drewN ?_ _ | refine blk_drew ?_ | refine blk_alloc ?_ _)); exact BK432.out)) : gb440 ≠ gb432))
            clear HO_5
            clear BK432
            clear HB
            have HO_5 := n0_
            have BK432 := n1_
            have HB := n2_
            have BK440 := n3_
            have GW440 := n4_
            have GE440 := n5_
            have NB432_440 := n6_
            have NB440_432 := n7_
            clear n0_ n1_ n2_ n3_ n4_ n5_ n6_ n7_
            clear hb hbox hg
            refine hK.out _ _ ⟨(blk_cell BK432.out 0).trans rfl, (blk_cell BK432.out 1).trans rfl, (blk_cell BK432.out 2).trans rfl, (blk_cell BK432.out 3).trans rfl, (blk_cell BK432.out 4).trans rfl, (blk_cell BK432.out 5).trans rfl, (blk_cell BK432.out 6).trans rfl, ((HB.out.cell (World.block_lt_of_cell? w _ hw439_0)).trans hw439_0), ((HB.out.cell (World.block_lt_of_cell? w _ hw439_1)).trans hw439_1), ((HB.out.cell (World.block_lt_of_cell? w _ hw439_2)).trans hw439_2), ((HB.out.cell (World.block_lt_of_cell? w _ hw439_3)).trans hw439_3)⟩ (fun hHeld => ?_)
            clear hK K
            refine norm_ (a' := ?_) ?_ ?_
            rotate_left
            ·
             show Act.put _ (some 8) _ = _
             simp only [Act.put, List.setIfInBounds_toArray, List.set_cons_zero, List.set_cons_succ, i64_w, i32_w]
             rfl
            exact norm_ (by simp only [putAll, Act.put, List.setIfInBounds_toArray, List.set_cons_zero, List.set_cons_succ]) (hCont (gb440) _ ⟨hHeld, (BR HO_5.out), (by (with_reducible repeat (first | refine blk_drewN ?_ _ | refine blk_drew ?_ | refine blk_alloc ?_ _)); exact BK432.out), (by (with_reducible repeat (first | refine blk_drewN ?_ _ | refine blk_drew ?_ | refine blk_alloc ?_ _)); exact BK440.out), GW440.out, GE440.out, NB432_440.out, NB440_432.out, (BS2 GE432.out GE440.out)⟩)
           ·
            skip
            refine box_step ?hg (N := 8) ?hd (cs := #[.string (⟨#[]⟩ : ByteArray), .int .i64 0, .int .i64 0, .slice none 0 0]) (t := 40) ?hr ?_; (case hd => rfl); (case hg => rfl); (case hr => first | (go_simp; done) | (go_simp; rfl))
            intro gb440 hg w28 hbox hb
            have n0_ := Aside0.mk (Kd.R_below (BR HO_5.out) hb)
            have n1_ := Aside0.mk (blk_below (g := gb432) (o := .cells #[.slice A0_0 l0_0.length c0_0, .slice A0_1 l0_1.length c0_1, .slice (some ad439) l0_2.length c0_2, .slice A0_3 l0_3.length c0_3, .slice A0_4 l0_4.length c0_4, .slice (some ad437) l0_5.length c0_5, .slice A0_6 l0_6.length c0_6] 46 (0, 0)) (by (with_reducible repeat (first | refine blk_drewN ?_ _ | refine blk_drew ?_ | refine blk_alloc ?_ _)); exact BK432.out) hb)
            have n2_ := Aside0.mk (below_step (BS GE432.out) hb)
            have n3_ := Aside0.mk (hbox)
            have n4_ := Aside0.mk ((by rw [hg]; exact (below_size (BS GE432.out)) : w.heap.size ≤ gb440))
            have n5_ := Aside0.mk ((by rw [hg]; exact (below_size (BS GE432.out)) : w.heap.size ≤ gb440))
            have n6_ := Aside0.mk ((by rw [hg]; exact Nat.ne_of_lt (blk_lt (g := gb432) (o := .cells #[.slice A0_0 l0_0.length c0_0, .slice A0_1 l0_1.length c0_1, .slice (some ad439) l0_2.length c0_2, .slice A0_3 l0_3.length c0_3, .slice A0_4 l0_4.length c0_4, .slice (some ad437) l0_5.length c0_5, .slice A0_6 l0_6.length c0_6] 46 (0, 0)) (by (with_reducible repeat (first | refine blk_drewN ?_ _ | refine blk_drew ?_ | refine blk_alloc ?_ _)); exact BK432.out)) : gb432 ≠ gb440))
            have n7_ := Aside0.mk ((by rw [hg]; exact Nat.ne_of_gt (blk_lt (g := gb432) (o := .cells #[.slice A0_0 l0_0.length c0_0, .slice A0_1 l0_1.length c0_1, .slice (some ad439) l0_2.length c0_2, .slice A0_3 l0_3.length c0_3, .slice A0_4 l0_4.length c0_4, .slice (some ad437) l0_5.length c0_5, .slice A0_6 l0_6.length c0_6] 46 (0, 0)) (by (with_reducible repeat (first | refine blk_drewN ?_ _ | refine blk_drew ?_ | refine blk_alloc ?_ _)); exact BK432.out)) : gb440 ≠ gb432))
            clear HO_5
            clear BK432
            clear HB
            have HO_5 := n0_
            have BK432 := n1_
            have HB := n2_
            have BK440 := n3_
            have GW440 := n4_
            have GE440 := n5_
            have NB432_440 := n6_
            have NB440_432 := n7_
            clear n0_ n1_ n2_ n3_ n4_ n5_ n6_ n7_
            clear hb hbox hg
            refine hK.out _ _ ⟨(blk_cell BK432.out 0).trans rfl, (blk_cell BK432.out 1).trans rfl, (blk_cell BK432.out 2).trans rfl, (blk_cell BK432.out 3).trans rfl, (blk_cell BK432.out 4).trans rfl, (blk_cell BK432.out 5).trans rfl, (blk_cell BK432.out 6).trans rfl, ((HB.out.cell (World.block_lt_of_cell? w _ hw439_0)).trans hw439_0), ((HB.out.cell (World.block_lt_of_cell? w _ hw439_1)).trans hw439_1), ((HB.out.cell (World.block_lt_of_cell? w _ hw439_2)).trans hw439_2), ((HB.out.cell (World.block_lt_of_cell? w _ hw439_3)).trans hw439_3)⟩ (fun hHeld => ?_)
            clear hK K
            refine norm_ (a' := ?_) ?_ ?_
            rotate_left
            ·
             show Act.put _ (some 8) _ = _
             simp only [Act.put, List.setIfInBounds_toArray, List.set_cons_zero, List.set_cons_succ, i64_w, i32_w]
             rfl
            refine one_ (i := 4) (N := some 52) #[true, true, true, true, true, false, false, true, false] rfl rfl (one_of HT_.out (by kernel_rfl)) (by decide) (fun K hK => ?_)
            refine goes_ Tryd.func50 (by kernel_rfl) rfl #[.agg #[.slice A0_0 l0_0.length c0_0, .slice A0_1 l0_1.length c0_1, .slice (some ad439) l0_2.length c0_2, .slice A0_3 l0_3.length c0_3, .slice A0_4 l0_4.length c0_4, .slice (some ad437) l0_5.length c0_5, .slice A0_6 l0_6.length c0_6], .int .i64 x43_2] (by rfl) rfl rfl BM ?_
            with_reducible refine (corpus_TextAt.calls k2 _ _ l0_0 _ _ l0_1 _ _ l0_2 _ _ l0_3 _ _ l0_4 _ _ l0_5 _ _ l0_6 x43_2 t438 _ ?side1 ?side2 ?side3 ?side4 ?side5 ?side6 ?side7 ?side8 ?side9 ?side10 ?side11 ?side12 ?side13 ?side14 A23.out).mono ?_
            (case side1 => exact BC HR0_0.out)
            (case side2 => exact HC0_0.out)
            (case side3 => exact BC HR0_1.out)
            (case side4 => exact HC0_1.out)
            (case side5 => exact BC HR0_2.out)
            (case side6 => exact HC0_2.out)
            (case side7 => exact BC HR0_3.out)
            (case side8 => exact HC0_3.out)
            (case side9 => exact BC HR0_4.out)
            (case side10 => exact HC0_4.out)
            (case side11 => exact BC HR0_5.out)
            (case side12 => exact HC0_5.out)
            (case side13 => exact BC HR0_6.out)
            (case side14 => exact HC0_6.out)
            rintro e w29 ⟨rfl, hb⟩
            refine ⟨_, rfl, ?_⟩
            have n0_ := Aside0.mk (Kd.R_below (BR HO_5.out) hb)
            have n1_ := Aside0.mk (blk_below (g := gb432) (o := .cells #[.slice A0_0 l0_0.length c0_0, .slice A0_1 l0_1.length c0_1, .slice (some ad439) l0_2.length c0_2, .slice A0_3 l0_3.length c0_3, .slice A0_4 l0_4.length c0_4, .slice (some ad437) l0_5.length c0_5, .slice A0_6 l0_6.length c0_6] 46 (0, 0)) (by (with_reducible repeat (first | refine blk_drewN ?_ _ | refine blk_drew ?_ | refine blk_alloc ?_ _)); exact BK432.out) hb)
            have n2_ := Aside0.mk (blk_below (g := gb440) (o := .cells #[.string (⟨#[]⟩ : ByteArray), .int .i64 0, .int .i64 0, .slice none 0 0] 40 (0, 0)) (by (with_reducible repeat (first | refine blk_drewN ?_ _ | refine blk_drew ?_ | refine blk_alloc ?_ _)); exact BK440.out) hb)
            have n3_ := Aside0.mk (below_step (BS2 GE432.out GE440.out) hb)
            clear HO_5
            clear BK432
            clear BK440
            clear HB
            have HO_5 := n0_
            have BK432 := n1_
            have BK440 := n2_
            have HB := n3_
            clear n0_ n1_ n2_ n3_
            (try clear hb)
            (try clear hb2)
            (try clear hk)
            (try clear hi)
            refine hK.out _ _ ⟨(blk_cell BK432.out 0).trans rfl, (blk_cell BK432.out 1).trans rfl, (blk_cell BK432.out 2).trans rfl, (blk_cell BK432.out 3).trans rfl, (blk_cell BK432.out 4).trans rfl, (blk_cell BK432.out 5).trans rfl, (blk_cell BK432.out 6).trans rfl, ((HB.out.cell (World.block_lt_of_cell? w _ hw439_0)).trans hw439_0), ((HB.out.cell (World.block_lt_of_cell? w _ hw439_1)).trans hw439_1), ((HB.out.cell (World.block_lt_of_cell? w _ hw439_2)).trans hw439_2), ((HB.out.cell (World.block_lt_of_cell? w _ hw439_3)).trans hw439_3)⟩ (fun hHeld => ?_)
            clear hK K
            refine norm_ (a' := ?_) ?_ ?_
            rotate_left
            ·
             show Act.put _ (some 52) _ = _
             simp only [Act.put, List.setIfInBounds_toArray, List.set_cons_zero, List.set_cons_succ, i64_w, i32_w]
             rfl
            refine pure_ (i := 5) (N := some 53) (v := ?_) (a' := ?_) #[true, true, true, true, true, true, false, true, false] rfl rfl (any_of HT_.out (by kernel_rfl)) (fun _ _ _ h => h) (Or.inl ⟨by rfl, ?_⟩) ?_ ?_
            rotate_left
            ·
             intro w'
             go_simp
             with_reducible rfl
            rotate_left
            ·
             simp only [Act.put, List.setIfInBounds_toArray, List.set_cons_zero, List.set_cons_succ, i64_w, i32_w]
             rfl
            refine take_ (i := 6) (N := some 54) (v := ?_) (a' := ?_) #[true, true, true, true, true, true, true, true, false] rfl rfl (take_ofW HT_.out HW_.out (by kernel_rfl)) (fun _ _ _ h => h) (Or.inl ⟨by rfl, ?_⟩) hHeld ?_ ?_
            rotate_left
            ·
             rintro w' ⟨s0, s1, s2, s3, s4, s5, s6, s7, s8, s9, s10⟩
             go_simp
             with_reducible rfl
            rotate_left
            ·
             simp only [Act.put, List.setIfInBounds_toArray, List.set_cons_zero, List.set_cons_succ, i64_w, i32_w]
             rfl
            exact norm_ (by simp only [putAll, Act.put, List.setIfInBounds_toArray, List.set_cons_zero, List.set_cons_succ]) (hCont (gb440) _ ⟨hHeld, (BR HO_5.out), (by (with_reducible repeat (first | refine blk_drewN ?_ _ | refine blk_drew ?_ | refine blk_alloc ?_ _)); exact BK432.out), (by (with_reducible repeat (first | refine blk_drewN ?_ _ | refine blk_drew ?_ | refine blk_alloc ?_ _)); exact BK440.out), GW440.out, GE440.out, NB432_440.out, NB440_432.out, (BS2 GE432.out GE440.out)⟩)
          rintro gb440 w30 ⟨hS_, h0_, h1_, h2_, h3_, h4_, h5_, h6_, h7_⟩
          have n0_ : Aside0 (Kd.R Kd.bool 4 w30 w.heap.size (fun _ => True) v435 t434) := ⟨h0_⟩
          have n1_ : Aside0 (w30.heap[gb432]? = some (.cells #[.slice A0_0 l0_0.length c0_0, .slice A0_1 l0_1.length c0_1, .slice (some ad439) l0_2.length c0_2, .slice A0_3 l0_3.length c0_3, .slice A0_4 l0_4.length c0_4, .slice (some ad437) l0_5.length c0_5, .slice A0_6 l0_6.length c0_6] 46 (0, 0))) := ⟨h1_⟩
          have n2_ : Aside0 (w30.heap[gb440]? = some (.cells #[.string (⟨#[]⟩ : ByteArray), .int .i64 0, .int .i64 0, .slice none 0 0] 40 (0, 0))) := ⟨h2_⟩
          have n3_ : Aside0 (w.heap.size ≤ gb440) := ⟨h3_⟩
          have n4_ : Aside0 (w.heap.size ≤ gb440) := ⟨h4_⟩
          have n5_ : Aside0 (gb432 ≠ gb440) := ⟨h5_⟩
          have n6_ : Aside0 (gb440 ≠ gb432) := ⟨h6_⟩
          have n7_ : Aside0 (Below w.heap.size w w30) := ⟨h7_⟩
          clear HO_5
          clear BK432
          clear HB
          clear h0_ h1_ h2_ h3_ h4_ h5_ h6_ h7_
          have HO_5 := n0_
          have BK432 := n1_
          have BK440 := n2_
          have GW440 := n3_
          have GE440 := n4_
          have NB432_440 := n5_
          have NB440_432 := n6_
          have HB := n7_
          clear n0_ n1_ n2_ n3_ n4_ n5_ n6_ n7_
          have hHeld : w30.cell? ⟨gb432, 0, none⟩ = some (.slice A0_0 l0_0.length c0_0) ∧ w30.cell? ⟨gb432, 1, none⟩ = some (.slice A0_1 l0_1.length c0_1) ∧ w30.cell? ⟨gb432, 2, none⟩ = some (.slice (some ad439) l0_2.length c0_2) ∧ w30.cell? ⟨gb432, 3, none⟩ = some (.slice A0_3 l0_3.length c0_3) ∧ w30.cell? ⟨gb432, 4, none⟩ = some (.slice A0_4 l0_4.length c0_4) ∧ w30.cell? ⟨gb432, 5, none⟩ = some (.slice (some ad437) l0_5.length c0_5) ∧ w30.cell? ⟨gb432, 6, none⟩ = some (.slice A0_6 l0_6.length c0_6) ∧ w30.cell? (ad439.add ((t438).toNat * 4)) = some (.string ((rd_T40 l0_2 t438).f0)) ∧ w30.cell? ⟨(ad439.add ((t438).toNat * 4)).block, (ad439.add ((t438).toNat * 4)).off + 1, none⟩ = some (.int .i64 ((rd_T40 l0_2 t438).f1)) ∧ w30.cell? ⟨(ad439.add ((t438).toNat * 4)).block, (ad439.add ((t438).toNat * 4)).off + 2, none⟩ = some (.int .i64 ((rd_T40 l0_2 t438).f2)) ∧ w30.cell? ⟨(ad439.add ((t438).toNat * 4)).block, (ad439.add ((t438).toNat * 4)).off + 3, none⟩ = some (.slice A439_3 ((rd_T40 l0_2 t438).f3).length c439_3) := hS_
          refine norm_ (a' := ?_) ?_ ?_
          rotate_left
          ·
           simp only [putAll, Act.put, List.setIfInBounds_toArray, List.set_cons_zero, List.set_cons_succ]
           rfl
          refine one_ (i := 8) (N := none) #[true, true, true, true, true, true, true, true, true] rfl rfl (one_of HT_.out (by kernel_rfl)) (by decide) (fun K hK => ?_)
          have hs31 : w30.cell? ⟨gb440, 0, none⟩ = some (.string (⟨#[]⟩ : ByteArray)) := (blk_cell BK440.out 0).trans rfl
          have hfs31 := blk_frozen BK440.out 0
          have hns31_0 := NB432_440.out
          have hms31_0 := NB440_432.out
          have hs32 : w30.cell? ⟨gb440, 1, none⟩ = some (.int .i64 0) := (blk_cell BK440.out 1).trans rfl
          have hfs32 := blk_frozen BK440.out 1
          have hns32_0 := NB432_440.out
          have hms32_0 := NB440_432.out
          have hs33 : w30.cell? ⟨gb440, 2, none⟩ = some (.int .i64 0) := (blk_cell BK440.out 2).trans rfl
          have hfs33 := blk_frozen BK440.out 2
          have hns33_0 := NB432_440.out
          have hms33_0 := NB440_432.out
          have hs34 : w30.cell? ⟨gb440, 3, none⟩ = some (.slice none 0 0) := (blk_cell BK440.out 3).trans rfl
          have hfs34 := blk_frozen BK440.out 3
          have hns34_0 := NB432_440.out
          have hms34_0 := NB440_432.out
          refine skip_ (w1 := ?_) (by rfl) rfl ?_ ?_
          rotate_left
          ·
           go_simp
           rfl
          refine hK.out _ _ ⟨((cell_far (p := ⟨gb440, _, none⟩) NB432_440.out _).trans (((cell_far (p := ⟨gb440, _, none⟩) NB432_440.out _).trans (((cell_far (p := ⟨gb440, _, none⟩) NB432_440.out _).trans (((cell_far (p := ⟨gb440, _, none⟩) NB432_440.out _).trans (hHeld.1)))))))), ((cell_far (p := ⟨gb440, _, none⟩) NB432_440.out _).trans (((cell_far (p := ⟨gb440, _, none⟩) NB432_440.out _).trans (((cell_far (p := ⟨gb440, _, none⟩) NB432_440.out _).trans (((cell_far (p := ⟨gb440, _, none⟩) NB432_440.out _).trans (hHeld.2.1)))))))), ((cell_far (p := ⟨gb440, _, none⟩) NB432_440.out _).trans (((cell_far (p := ⟨gb440, _, none⟩) NB432_440.out _).trans (((cell_far (p := ⟨gb440, _, none⟩) NB432_440.out _).trans (((cell_far (p := ⟨gb440, _, none⟩) NB432_440.out _).trans (hHeld.2.2.1)))))))), ((cell_far (p := ⟨gb440, _, none⟩) NB432_440.out _).trans (((cell_far (p := ⟨gb440, _, none⟩) NB432_440.out _).trans (((cell_far (p := ⟨gb440, _, none⟩) NB432_440.out _).trans (((cell_far (p := ⟨gb440, _, none⟩) NB432_440.out _).trans (hHeld.2.2.2.1)))))))), ((cell_far (p := ⟨gb440, _, none⟩) NB432_440.out _).trans (((cell_far (p := ⟨gb440, _, none⟩) NB432_440.out _).trans (((cell_far (p := ⟨gb440, _, none⟩) NB432_440.out _).trans (((cell_far (p := ⟨gb440, _, none⟩) NB432_440.out _).trans (hHeld.2.2.2.2.1)))))))), ((cell_far (p := ⟨gb440, _, none⟩) NB432_440.out _).trans (((cell_far (p := ⟨gb440, _, none⟩) NB432_440.out _).trans (((cell_far (p := ⟨gb440, _, none⟩) NB432_440.out _).trans (((cell_far (p := ⟨gb440, _, none⟩) NB432_440.out _).trans (hHeld.2.2.2.2.2.1)))))))), ((cell_far (p := ⟨gb440, _, none⟩) NB432_440.out _).trans (((cell_far (p := ⟨gb440, _, none⟩) NB432_440.out _).trans (((cell_far (p := ⟨gb440, _, none⟩) NB432_440.out _).trans (((cell_far (p := ⟨gb440, _, none⟩) NB432_440.out _).trans (hHeld.2.2.2.2.2.2.1)))))))), ((cell_far (p := ⟨gb440, _, none⟩) (by first | exact Nat.ne_of_lt (Nat.lt_of_lt_of_le (by have := World.block_lt_of_cell? _ _ hw439_0; first | rwa [add_block] at this | exact this) GW440.out) | (rw [add_block]; exact Nat.ne_of_lt (Nat.lt_of_lt_of_le (by have := World.block_lt_of_cell? _ _ hw439_0; first | rwa [add_block] at this | exact this) GW440.out)) | (show (Addr.add _ _).block ≠ _; rw [add_block]; exact Nat.ne_of_lt (Nat.lt_of_lt_of_le (by have := World.block_lt_of_cell? _ _ hw439_0; first | rwa [add_block] at this | exact this) GW440.out)) | (dsimp only; exact Nat.ne_of_lt (Nat.lt_of_lt_of_le (by have := World.block_lt_of_cell? _ _ hw439_0; first | rwa [add_block] at this | exact this) GW440.out))) _).trans (((cell_far (p := ⟨gb440, _, none⟩) (by first | exact Nat.ne_of_lt (Nat.lt_of_lt_of_le (by have := World.block_lt_of_cell? _ _ hw439_0; first | rwa [add_block] at this | exact this) GW440.out) | (rw [add_block]; exact Nat.ne_of_lt (Nat.lt_of_lt_of_le (by have := World.block_lt_of_cell? _ _ hw439_0; first | rwa [add_block] at this | exact this) GW440.out)) | (show (Addr.add _ _).block ≠ _; rw [add_block]; exact Nat.ne_of_lt (Nat.lt_of_lt_of_le (by have := World.block_lt_of_cell? _ _ hw439_0; first | rwa [add_block] at this | exact this) GW440.out)) | (dsimp only; exact Nat.ne_of_lt (Nat.lt_of_lt_of_le (by have := World.block_lt_of_cell? _ _ hw439_0; first | rwa [add_block] at this | exact this) GW440.out))) _).trans (((cell_far (p := ⟨gb440, _, none⟩) (by first | exact Nat.ne_of_lt (Nat.lt_of_lt_of_le (by have := World.block_lt_of_cell? _ _ hw439_0; first | rwa [add_block] at this | exact this) GW440.out) | (rw [add_block]; exact Nat.ne_of_lt (Nat.lt_of_lt_of_le (by have := World.block_lt_of_cell? _ _ hw439_0; first | rwa [add_block] at this | exact this) GW440.out)) | (show (Addr.add _ _).block ≠ _; rw [add_block]; exact Nat.ne_of_lt (Nat.lt_of_lt_of_le (by have := World.block_lt_of_cell? _ _ hw439_0; first | rwa [add_block] at this | exact this) GW440.out)) | (dsimp only; exact Nat.ne_of_lt (Nat.lt_of_lt_of_le (by have := World.block_lt_of_cell? _ _ hw439_0; first | rwa [add_block] at this | exact this) GW440.out))) _).trans (((cell_far (p := ⟨gb440, _, none⟩) (by first | exact Nat.ne_of_lt (Nat.lt_of_lt_of_le (by have := World.block_lt_of_cell? _ _ hw439_0; first | rwa [add_block] at this | exact this) GW440.out) | (rw [add_block]; exact Nat.ne_of_lt (Nat.lt_of_lt_of_le (by have := World.block_lt_of_cell? _ _ hw439_0; first | rwa [add_block] at this | exact this) GW440.out)) | (show (Addr.add _ _).block ≠ _; rw [add_block]; exact Nat.ne_of_lt (Nat.lt_of_lt_of_le (by have := World.block_lt_of_cell? _ _ hw439_0; first | rwa [add_block] at this | exact this) GW440.out)) | (dsimp only; exact Nat.ne_of_lt (Nat.lt_of_lt_of_le (by have := World.block_lt_of_cell? _ _ hw439_0; first | rwa [add_block] at this | exact this) GW440.out))) _).trans (hHeld.2.2.2.2.2.2.2.1)))))))), ((cell_far (p := ⟨gb440, _, none⟩) (by first | exact Nat.ne_of_lt (Nat.lt_of_lt_of_le (by have := World.block_lt_of_cell? _ _ hw439_1; first | rwa [add_block] at this | exact this) GW440.out) | (rw [add_block]; exact Nat.ne_of_lt (Nat.lt_of_lt_of_le (by have := World.block_lt_of_cell? _ _ hw439_1; first | rwa [add_block] at this | exact this) GW440.out)) | (show (Addr.add _ _).block ≠ _; rw [add_block]; exact Nat.ne_of_lt (Nat.lt_of_lt_of_le (by have := World.block_lt_of_cell? _ _ hw439_1; first | rwa [add_block] at this | exact this) GW440.out)) | (dsimp only; exact Nat.ne_of_lt (Nat.lt_of_lt_of_le (by have := World.block_lt_of_cell? _ _ hw439_1; first | rwa [add_block] at this | exact this) GW440.out))) _).trans (((cell_far (p := ⟨gb440, _, none⟩) (by first | exact Nat.ne_of_lt (Nat.lt_of_lt_of_le (by have := World.block_lt_of_cell? _ _ hw439_1; first | rwa [add_block] at this | exact this) GW440.out) | (rw [add_block]; exact Nat.ne_of_lt (Nat.lt_of_lt_of_le (by have := World.block_lt_of_cell? _ _ hw439_1; first | rwa [add_block] at this | exact this) GW440.out)) | (show (Addr.add _ _).block ≠ _; rw [add_block]; exact Nat.ne_of_lt (Nat.lt_of_lt_of_le (by have := World.block_lt_of_cell? _ _ hw439_1; first | rwa [add_block] at this | exact this) GW440.out)) | (dsimp only; exact Nat.ne_of_lt (Nat.lt_of_lt_of_le (by have := World.block_lt_of_cell? _ _ hw439_1; first | rwa [add_block] at this | exact this) GW440.out))) _).trans (((cell_far (p := ⟨gb440, _, none⟩) (by first | exact Nat.ne_of_lt (Nat.lt_of_lt_of_le (by have := World.block_lt_of_cell? _ _ hw439_1; first | rwa [add_block] at this | exact this) GW440.out) | (rw [add_block]; exact Nat.ne_of_lt (Nat.lt_of_lt_of_le (by have := World.block_lt_of_cell? _ _ hw439_1; first | rwa [add_block] at this | exact this) GW440.out)) | (show (Addr.add _ _).block ≠ _; rw [add_block]; exact Nat.ne_of_lt (Nat.lt_of_lt_of_le (by have := World.block_lt_of_cell? _ _ hw439_1; first | rwa [add_block] at this | exact this) GW440.out)) | (dsimp only; exact Nat.ne_of_lt (Nat.lt_of_lt_of_le (by have := World.block_lt_of_cell? _ _ hw439_1; first | rwa [add_block] at this | exact this) GW440.out))) _).trans (((cell_far (p := ⟨gb440, _, none⟩) (by first | exact Nat.ne_of_lt (Nat.lt_of_lt_of_le (by have := World.block_lt_of_cell? _ _ hw439_1; first | rwa [add_block] at this | exact this) GW440.out) | (rw [add_block]; exact Nat.ne_of_lt (Nat.lt_of_lt_of_le (by have := World.block_lt_of_cell? _ _ hw439_1; first | rwa [add_block] at this | exact this) GW440.out)) | (show (Addr.add _ _).block ≠ _; rw [add_block]; exact Nat.ne_of_lt (Nat.lt_of_lt_of_le (by have := World.block_lt_of_cell? _ _ hw439_1; first | rwa [add_block] at this | exact this) GW440.out)) | (dsimp only; exact Nat.ne_of_lt (Nat.lt_of_lt_of_le (by have := World.block_lt_of_cell? _ _ hw439_1; first | rwa [add_block] at this | exact this) GW440.out))) _).trans (hHeld.2.2.2.2.2.2.2.2.1)))))))), ((cell_far (p := ⟨gb440, _, none⟩) (by first | exact Nat.ne_of_lt (Nat.lt_of_lt_of_le (by have := World.block_lt_of_cell? _ _ hw439_2; first | rwa [add_block] at this | exact this) GW440.out) | (rw [add_block]; exact Nat.ne_of_lt (Nat.lt_of_lt_of_le (by have := World.block_lt_of_cell? _ _ hw439_2; first | rwa [add_block] at this | exact this) GW440.out)) | (show (Addr.add _ _).block ≠ _; rw [add_block]; exact Nat.ne_of_lt (Nat.lt_of_lt_of_le (by have := World.block_lt_of_cell? _ _ hw439_2; first | rwa [add_block] at this | exact this) GW440.out)) | (dsimp only; exact Nat.ne_of_lt (Nat.lt_of_lt_of_le (by have := World.block_lt_of_cell? _ _ hw439_2; first | rwa [add_block] at this | exact this) GW440.out))) _).trans (((cell_far (p := ⟨gb440, _, none⟩) (by first | exact Nat.ne_of_lt (Nat.lt_of_lt_of_le (by have := World.block_lt_of_cell? _ _ hw439_2; first | rwa [add_block] at this | exact this) GW440.out) | (rw [add_block]; exact Nat.ne_of_lt (Nat.lt_of_lt_of_le (by have := World.block_lt_of_cell? _ _ hw439_2; first | rwa [add_block] at this | exact this) GW440.out)) | (show (Addr.add _ _).block ≠ _; rw [add_block]; exact Nat.ne_of_lt (Nat.lt_of_lt_of_le (by have := World.block_lt_of_cell? _ _ hw439_2; first | rwa [add_block] at this | exact this) GW440.out)) | (dsimp only; exact Nat.ne_of_lt (Nat.lt_of_lt_of_le (by have := World.block_lt_of_cell? _ _ hw439_2; first | rwa [add_block] at this | exact this) GW440.out))) _).trans (((cell_far (p := ⟨gb440, _, none⟩) (by first | exact Nat.ne_of_lt (Nat.lt_of_lt_of_le (by have := World.block_lt_of_cell? _ _ hw439_2; first | rwa [add_block] at this | exact this) GW440.out) | (rw [add_block]; exact Nat.ne_of_lt (Nat.lt_of_lt_of_le (by have := World.block_lt_of_cell? _ _ hw439_2; first | rwa [add_block] at this | exact this) GW440.out)) | (show (Addr.add _ _).block ≠ _; rw [add_block]; exact Nat.ne_of_lt (Nat.lt_of_lt_of_le (by have := World.block_lt_of_cell? _ _ hw439_2; first | rwa [add_block] at this | exact this) GW440.out)) | (dsimp only; exact Nat.ne_of_lt (Nat.lt_of_lt_of_le (by have := World.block_lt_of_cell? _ _ hw439_2; first | rwa [add_block] at this | exact this) GW440.out))) _).trans (((cell_far (p := ⟨gb440, _, none⟩) (by first | exact Nat.ne_of_lt (Nat.lt_of_lt_of_le (by have := World.block_lt_of_cell? _ _ hw439_2; first | rwa [add_block] at this | exact this) GW440.out) | (rw [add_block]; exact Nat.ne_of_lt (Nat.lt_of_lt_of_le (by have := World.block_lt_of_cell? _ _ hw439_2; first | rwa [add_block] at this | exact this) GW440.out)) | (show (Addr.add _ _).block ≠ _; rw [add_block]; exact Nat.ne_of_lt (Nat.lt_of_lt_of_le (by have := World.block_lt_of_cell? _ _ hw439_2; first | rwa [add_block] at this | exact this) GW440.out)) | (dsimp only; exact Nat.ne_of_lt (Nat.lt_of_lt_of_le (by have := World.block_lt_of_cell? _ _ hw439_2; first | rwa [add_block] at this | exact this) GW440.out))) _).trans (hHeld.2.2.2.2.2.2.2.2.2.1)))))))), ((cell_far (p := ⟨gb440, _, none⟩) (by first | exact Nat.ne_of_lt (Nat.lt_of_lt_of_le (by have := World.block_lt_of_cell? _ _ hw439_3; first | rwa [add_block] at this | exact this) GW440.out) | (rw [add_block]; exact Nat.ne_of_lt (Nat.lt_of_lt_of_le (by have := World.block_lt_of_cell? _ _ hw439_3; first | rwa [add_block] at this | exact this) GW440.out)) | (show (Addr.add _ _).block ≠ _; rw [add_block]; exact Nat.ne_of_lt (Nat.lt_of_lt_of_le (by have := World.block_lt_of_cell? _ _ hw439_3; first | rwa [add_block] at this | exact this) GW440.out)) | (dsimp only; exact Nat.ne_of_lt (Nat.lt_of_lt_of_le (by have := World.block_lt_of_cell? _ _ hw439_3; first | rwa [add_block] at this | exact this) GW440.out))) _).trans (((cell_far (p := ⟨gb440, _, none⟩) (by first | exact Nat.ne_of_lt (Nat.lt_of_lt_of_le (by have := World.block_lt_of_cell? _ _ hw439_3; first | rwa [add_block] at this | exact this) GW440.out) | (rw [add_block]; exact Nat.ne_of_lt (Nat.lt_of_lt_of_le (by have := World.block_lt_of_cell? _ _ hw439_3; first | rwa [add_block] at this | exact this) GW440.out)) | (show (Addr.add _ _).block ≠ _; rw [add_block]; exact Nat.ne_of_lt (Nat.lt_of_lt_of_le (by have := World.block_lt_of_cell? _ _ hw439_3; first | rwa [add_block] at this | exact this) GW440.out)) | (dsimp only; exact Nat.ne_of_lt (Nat.lt_of_lt_of_le (by have := World.block_lt_of_cell? _ _ hw439_3; first | rwa [add_block] at this | exact this) GW440.out))) _).trans (((cell_far (p := ⟨gb440, _, none⟩) (by first | exact Nat.ne_of_lt (Nat.lt_of_lt_of_le (by have := World.block_lt_of_cell? _ _ hw439_3; first | rwa [add_block] at this | exact this) GW440.out) | (rw [add_block]; exact Nat.ne_of_lt (Nat.lt_of_lt_of_le (by have := World.block_lt_of_cell? _ _ hw439_3; first | rwa [add_block] at this | exact this) GW440.out)) | (show (Addr.add _ _).block ≠ _; rw [add_block]; exact Nat.ne_of_lt (Nat.lt_of_lt_of_le (by have := World.block_lt_of_cell? _ _ hw439_3; first | rwa [add_block] at this | exact this) GW440.out)) | (dsimp only; exact Nat.ne_of_lt (Nat.lt_of_lt_of_le (by have := World.block_lt_of_cell? _ _ hw439_3; first | rwa [add_block] at this | exact this) GW440.out))) _).trans (((cell_far (p := ⟨gb440, _, none⟩) (by first | exact Nat.ne_of_lt (Nat.lt_of_lt_of_le (by have := World.block_lt_of_cell? _ _ hw439_3; first | rwa [add_block] at this | exact this) GW440.out) | (rw [add_block]; exact Nat.ne_of_lt (Nat.lt_of_lt_of_le (by have := World.block_lt_of_cell? _ _ hw439_3; first | rwa [add_block] at this | exact this) GW440.out)) | (show (Addr.add _ _).block ≠ _; rw [add_block]; exact Nat.ne_of_lt (Nat.lt_of_lt_of_le (by have := World.block_lt_of_cell? _ _ hw439_3; first | rwa [add_block] at this | exact this) GW440.out)) | (dsimp only; exact Nat.ne_of_lt (Nat.lt_of_lt_of_le (by have := World.block_lt_of_cell? _ _ hw439_3; first | rwa [add_block] at this | exact this) GW440.out))) _).trans (hHeld.2.2.2.2.2.2.2.2.2.2))))))))⟩ (fun hHeld => ?_)
          clear hK K
          refine done_ (done_of HT_.out (by kernel_rfl)) ?_
          go_upto_region 12 with (fail)
          go_cut [55] (fun v55 wc => ∃ (kq : Nat) (x55_25 : Bool), v55 = .bool x55_25 ∧ Aside0 (corpus_heads.j3 kq t434 x43_2 l0_5 (l0_5.length : Int) x43_2 x55_25 l0_0 l0_1 l0_2 l0_3 l0_4 l0_5 l0_6 = some (r1, r2)) ∧ Aside0 (kq ≤ k2) ∧ Aside0 (Kd.R Kd.bool 4 wc w.heap.size (fun _ => True) v435 t434) ∧ Aside0 (wc.heap[gb432]? = some (.cells #[(.slice A0_0 l0_0.length c0_0), (.slice A0_1 l0_1.length c0_1), (.slice (some ad439) l0_2.length c0_2), (.slice A0_3 l0_3.length c0_3), (.slice A0_4 l0_4.length c0_4), (.slice (some ad437) l0_5.length c0_5), (.slice A0_6 l0_6.length c0_6)] 46 (0, 0))) ∧ Aside0 (wc.heap[gb440]? = some (.cells #[.string ((rd_T40 l0_2 t438).f0), .int .i64 ((rd_T40 l0_2 t438).f1), .int .i64 ((rd_T40 l0_2 t438).f2), (.slice A439_3 ((rd_T40 l0_2 t438).f3).length c439_3)] 40 (0, 0))) ∧ Aside0 (Below w.heap.size w wc))
          case first =>
           have H := HC26.out
           clear HC26
           by_cases c35 : (rd l0_5 x43_2) = (-1)
           ·
            rw [if_pos c35] at H
            have c35b0 : ((rd l0_5 x43_2) == (-1)) = true := beq_iff_eq.mpr c35
            have c35b1 : ((rd l0_5 x43_2) != (-1)) = false := bne_eq_false_iff_eq.mpr c35
            clear c35
            (first | rw [c35b0] | rw [c35b1] | (simp only [i64_w, i32_w]; rw [c35b0]) | skip)
            have H' := Aside0.mk H
            clear H
            go_wp2
            go_meet
            case rel => exact ⟨_, (false), (BE), H', ⟨by have := HJ1.out; have := HK2.out; first | omega | exact Nat.le_refl _⟩, ⟨by (with_reducible repeat (first | apply Kd.R_alloc | apply Kd.R_drewN | apply Kd.R_drew)); exact Kd.R_mono (Kd.R_far (p := ⟨gb440, 3, none⟩) (Kd.R_far (p := ⟨gb440, 2, none⟩) (Kd.R_far (p := ⟨gb440, 1, none⟩) (Kd.R_far (p := ⟨gb440, 0, none⟩) (Kd.R_types HO_5.out BK440.out (by decide)) (fun _ hk => hk.2) (.string ((rd_T40 l0_2 t438).f0))) (fun _ hk => hk.2) (.int .i64 ((rd_T40 l0_2 t438).f1))) (fun _ hk => hk.2) (.int .i64 ((rd_T40 l0_2 t438).f2))) (fun _ hk => hk.2) (.slice A439_3 ((rd_T40 l0_2 t438).f3).length c439_3)) (fun _ hk => trivial)⟩, ⟨by (with_reducible repeat (first | refine blk_drewN ?_ _ | refine blk_drew ?_ | refine blk_alloc ?_ _)); refine blk_far ?_ NB432_440.out _; (with_reducible repeat (first | refine blk_drewN ?_ _ | refine blk_drew ?_ | refine blk_alloc ?_ _)); refine blk_far ?_ NB432_440.out _; (with_reducible repeat (first | refine blk_drewN ?_ _ | refine blk_drew ?_ | refine blk_alloc ?_ _)); refine blk_far ?_ NB432_440.out _; (with_reducible repeat (first | refine blk_drewN ?_ _ | refine blk_drew ?_ | refine blk_alloc ?_ _)); refine blk_far ?_ NB432_440.out _; (with_reducible repeat (first | refine blk_drewN ?_ _ | refine blk_drew ?_ | refine blk_alloc ?_ _)); exact BK432.out⟩, ⟨by (with_reducible repeat (first | refine blk_drewN ?_ _ | refine blk_drew ?_ | refine blk_alloc ?_ _)); refine blk_put (cs := #[.string ((rd_T40 l0_2 t438).f0), .int .i64 ((rd_T40 l0_2 t438).f1), .int .i64 ((rd_T40 l0_2 t438).f2), .slice none 0 0]) ?_ 3 _ rfl; (with_reducible repeat (first | refine blk_drewN ?_ _ | refine blk_drew ?_ | refine blk_alloc ?_ _)); refine blk_put (cs := #[.string ((rd_T40 l0_2 t438).f0), .int .i64 ((rd_T40 l0_2 t438).f1), .int .i64 0, .slice none 0 0]) ?_ 2 _ rfl; (with_reducible repeat (first | refine blk_drewN ?_ _ | refine blk_drew ?_ | refine blk_alloc ?_ _)); refine blk_put (cs := #[.string ((rd_T40 l0_2 t438).f0), .int .i64 0, .int .i64 0, .slice none 0 0]) ?_ 1 _ rfl; (with_reducible repeat (first | refine blk_drewN ?_ _ | refine blk_drew ?_ | refine blk_alloc ?_ _)); refine blk_put (cs := #[.string (⟨#[]⟩ : ByteArray), .int .i64 0, .int .i64 0, .slice none 0 0]) ?_ 0 _ rfl; (with_reducible repeat (first | refine blk_drewN ?_ _ | refine blk_drew ?_ | refine blk_alloc ?_ _)); exact BK440.out⟩, ⟨BS2 GE432.out GE440.out⟩⟩
           ·
            rw [if_neg c35] at H
            have c35b0 : ((rd l0_5 x43_2) == (-1)) = false := beq_eq_false_iff_ne.mpr c35
            have c35b1 : ((rd l0_5 x43_2) != (-1)) = true := bne_iff_ne.mpr c35
            (first | rw [c35b0] | rw [c35b1] | (simp only [i64_w, i32_w]; rw [c35b0]) | skip)
            by_cases c36 : (rd l0_5 x43_2) < ((rd_T40 l0_2 t438).f1)
            ·
             rw [if_pos c36] at H
             have c36b0 : decide ((rd l0_5 x43_2) < ((rd_T40 l0_2 t438).f1)) = true := decide_eq_true c36
             clear c36
             have H' := Aside0.mk H
             clear H
             have hnb37 := NB440_432.out
             have hnc37 := NB432_440.out
             have hcz38_0 : w30.cell? ⟨gb440, 0, none⟩ = some (.string (⟨#[]⟩ : ByteArray)) := (blk_cell BK440.out 0).trans rfl
             have hcz38_1 : w30.cell? ⟨gb440, 1, none⟩ = some (.int .i64 0) := (blk_cell BK440.out 1).trans rfl
             have hcz38_2 : w30.cell? ⟨gb440, 2, none⟩ = some (.int .i64 0) := (blk_cell BK440.out 2).trans rfl
             have hcz38_3 : w30.cell? ⟨gb440, 3, none⟩ = some (.slice none 0 0) := (blk_cell BK440.out 3).trans rfl
             have hfz38_0 := blk_frozen BK440.out 0
             have hfz38_1 := blk_frozen BK440.out 1
             have hfz38_2 := blk_frozen BK440.out 2
             have hfz38_3 := blk_frozen BK440.out 3
             go_wp2
             go_meet
             case rel => exact ⟨_, (true), (BE), H', ⟨by have := HJ1.out; have := HK2.out; first | omega | exact Nat.le_refl _⟩, ⟨by (with_reducible repeat (first | apply Kd.R_alloc | apply Kd.R_drewN | apply Kd.R_drew)); exact Kd.R_mono (Kd.R_far (p := ⟨gb440, 3, none⟩) (Kd.R_far (p := ⟨gb440, 2, none⟩) (Kd.R_far (p := ⟨gb440, 1, none⟩) (Kd.R_far (p := ⟨gb440, 0, none⟩) (Kd.R_types HO_5.out BK440.out (by decide)) (fun _ hk => hk.2) (.string ((rd_T40 l0_2 t438).f0))) (fun _ hk => hk.2) (.int .i64 ((rd_T40 l0_2 t438).f1))) (fun _ hk => hk.2) (.int .i64 ((rd_T40 l0_2 t438).f2))) (fun _ hk => hk.2) (.slice A439_3 ((rd_T40 l0_2 t438).f3).length c439_3)) (fun _ hk => trivial)⟩, ⟨by (with_reducible repeat (first | refine blk_drewN ?_ _ | refine blk_drew ?_ | refine blk_alloc ?_ _)); refine blk_far ?_ NB432_440.out _; (with_reducible repeat (first | refine blk_drewN ?_ _ | refine blk_drew ?_ | refine blk_alloc ?_ _)); refine blk_far ?_ NB432_440.out _; (with_reducible repeat (first | refine blk_drewN ?_ _ | refine blk_drew ?_ | refine blk_alloc ?_ _)); refine blk_far ?_ NB432_440.out _; (with_reducible repeat (first | refine blk_drewN ?_ _ | refine blk_drew ?_ | refine blk_alloc ?_ _)); refine blk_far ?_ NB432_440.out _; (with_reducible repeat (first | refine blk_drewN ?_ _ | refine blk_drew ?_ | refine blk_alloc ?_ _)); exact BK432.out⟩, ⟨by (with_reducible repeat (first | refine blk_drewN ?_ _ | refine blk_drew ?_ | refine blk_alloc ?_ _)); refine blk_put (cs := #[.string ((rd_T40 l0_2 t438).f0), .int .i64 ((rd_T40 l0_2 t438).f1), .int .i64 ((rd_T40 l0_2 t438).f2), .slice none 0 0]) ?_ 3 _ rfl; (with_reducible repeat (first | refine blk_drewN ?_ _ | refine blk_drew ?_ | refine blk_alloc ?_ _)); refine blk_put (cs := #[.string ((rd_T40 l0_2 t438).f0), .int .i64 ((rd_T40 l0_2 t438).f1), .int .i64 0, .slice none 0 0]) ?_ 2 _ rfl; (with_reducible repeat (first | refine blk_drewN ?_ _ | refine blk_drew ?_ | refine blk_alloc ?_ _)); refine blk_put (cs := #[.string ((rd_T40 l0_2 t438).f0), .int .i64 0, .int .i64 0, .slice none 0 0]) ?_ 1 _ rfl; (with_reducible repeat (first | refine blk_drewN ?_ _ | refine blk_drew ?_ | refine blk_alloc ?_ _)); refine blk_put (cs := #[.string (⟨#[]⟩ : ByteArray), .int .i64 0, .int .i64 0, .slice none 0 0]) ?_ 0 _ rfl; (with_reducible repeat (first | refine blk_drewN ?_ _ | refine blk_drew ?_ | refine blk_alloc ?_ _)); exact BK440.out⟩, ⟨BS2 GE432.out GE440.out⟩⟩
            ·
             rw [if_neg c36] at H
             have c36b0 : decide ((rd l0_5 x43_2) < ((rd_T40 l0_2 t438).f1)) = false := decide_eq_false c36
             clear c36
             have H' := Aside0.mk H
             clear H
             have hnb39 := NB440_432.out
             have hnc39 := NB432_440.out
             have hcz40_0 : w30.cell? ⟨gb440, 0, none⟩ = some (.string (⟨#[]⟩ : ByteArray)) := (blk_cell BK440.out 0).trans rfl
             have hcz40_1 : w30.cell? ⟨gb440, 1, none⟩ = some (.int .i64 0) := (blk_cell BK440.out 1).trans rfl
             have hcz40_2 : w30.cell? ⟨gb440, 2, none⟩ = some (.int .i64 0) := (blk_cell BK440.out 2).trans rfl
             have hcz40_3 : w30.cell? ⟨gb440, 3, none⟩ = some (.slice none 0 0) := (blk_cell BK440.out 3).trans rfl
             have hfz40_0 := blk_frozen BK440.out 0
             have hfz40_1 := blk_frozen BK440.out 1
             have hfz40_2 := blk_frozen BK440.out 2
             have hfz40_3 := blk_frozen BK440.out 3
             go_wp2
             go_meet
             case rel => exact ⟨_, (decide ((rd l0_5 x43_2) ≥ ((rd_T40 l0_2 t438).f2))), (BE), H', ⟨by have := HJ1.out; have := HK2.out; first | omega | exact Nat.le_refl _⟩, ⟨by (with_reducible repeat (first | apply Kd.R_alloc | apply Kd.R_drewN | apply Kd.R_drew)); exact Kd.R_mono (Kd.R_far (p := ⟨gb440, 3, none⟩) (Kd.R_far (p := ⟨gb440, 2, none⟩) (Kd.R_far (p := ⟨gb440, 1, none⟩) (Kd.R_far (p := ⟨gb440, 0, none⟩) (Kd.R_types HO_5.out BK440.out (by decide)) (fun _ hk => hk.2) (.string ((rd_T40 l0_2 t438).f0))) (fun _ hk => hk.2) (.int .i64 ((rd_T40 l0_2 t438).f1))) (fun _ hk => hk.2) (.int .i64 ((rd_T40 l0_2 t438).f2))) (fun _ hk => hk.2) (.slice A439_3 ((rd_T40 l0_2 t438).f3).length c439_3)) (fun _ hk => trivial)⟩, ⟨by (with_reducible repeat (first | refine blk_drewN ?_ _ | refine blk_drew ?_ | refine blk_alloc ?_ _)); refine blk_far ?_ NB432_440.out _; (with_reducible repeat (first | refine blk_drewN ?_ _ | refine blk_drew ?_ | refine blk_alloc ?_ _)); refine blk_far ?_ NB432_440.out _; (with_reducible repeat (first | refine blk_drewN ?_ _ | refine blk_drew ?_ | refine blk_alloc ?_ _)); refine blk_far ?_ NB432_440.out _; (with_reducible repeat (first | refine blk_drewN ?_ _ | refine blk_drew ?_ | refine blk_alloc ?_ _)); refine blk_far ?_ NB432_440.out _; (with_reducible repeat (first | refine blk_drewN ?_ _ | refine blk_drew ?_ | refine blk_alloc ?_ _)); exact BK432.out⟩, ⟨by (with_reducible repeat (first | refine blk_drewN ?_ _ | refine blk_drew ?_ | refine blk_alloc ?_ _)); refine blk_put (cs := #[.string ((rd_T40 l0_2 t438).f0), .int .i64 ((rd_T40 l0_2 t438).f1), .int .i64 ((rd_T40 l0_2 t438).f2), .slice none 0 0]) ?_ 3 _ rfl; (with_reducible repeat (first | refine blk_drewN ?_ _ | refine blk_drew ?_ | refine blk_alloc ?_ _)); refine blk_put (cs := #[.string ((rd_T40 l0_2 t438).f0), .int .i64 ((rd_T40 l0_2 t438).f1), .int .i64 0, .slice none 0 0]) ?_ 2 _ rfl; (with_reducible repeat (first | refine blk_drewN ?_ _ | refine blk_drew ?_ | refine blk_alloc ?_ _)); refine blk_put (cs := #[.string ((rd_T40 l0_2 t438).f0), .int .i64 0, .int .i64 0, .slice none 0 0]) ?_ 1 _ rfl; (with_reducible repeat (first | refine blk_drewN ?_ _ | refine blk_drew ?_ | refine blk_alloc ?_ _)); refine blk_put (cs := #[.string (⟨#[]⟩ : ByteArray), .int .i64 0, .int .i64 0, .slice none 0 0]) ?_ 0 _ rfl; (with_reducible repeat (first | refine blk_drewN ?_ _ | refine blk_drew ?_ | refine blk_alloc ?_ _)); exact BK440.out⟩, ⟨BS2 GE432.out GE440.out⟩⟩
          case rest =>
           clear HC26
           (try clear c1); (try clear c2); (try clear p2); (try clear c3); (try clear c4); (try clear p4); (try clear q4); (try clear hx4); (try clear c5); (try clear c7); (try clear c7b0); (try clear c7b1); (try clear c7b2)
           (try clear c8); (try clear c8b0); (try clear c8b1); (try clear c10); (try clear c11); (try clear c11b0); (try clear c11b1); (try clear c13); (try clear c20); (try clear c20b0); (try clear c21); (try clear c21b0)
           (try clear c22); (try clear c22b0); (try clear c24); (try clear c24b0); (try clear c25); (try clear c25b0); (try clear c35); (try clear c35b0); (try clear c35b1); (try clear c36); (try clear c36b0); (try clear c37)
           (try clear c39); (try clear hcz14_0); (try clear hcz14_1); (try clear hcz14_2); (try clear hcz14_3); (try clear hcz14_4); (try clear hcz14_5); (try clear hcz14_6); (try clear hcz15_0); (try clear hcz15_1)
           (try clear hcz15_2); (try clear hcz15_3); (try clear hcz15_4); (try clear hcz15_5); (try clear hcz15_6); (try clear hcz17_0); (try clear hcz17_1); (try clear hcz17_2); (try clear hcz17_3); (try clear hcz17_4)
           (try clear hcz17_5); (try clear hcz17_6); (try clear hcz19_0); (try clear hcz19_1); (try clear hcz19_2); (try clear hcz19_3); (try clear hcz19_4); (try clear hcz19_5); (try clear hcz19_6); (try clear hcz38_0)
           (try clear hcz38_1); (try clear hcz38_2); (try clear hcz38_3); (try clear hcz40_0); (try clear hcz40_1); (try clear hcz40_2); (try clear hcz40_3); (try clear hcz4_0); (try clear hcz4_1); (try clear hcz4_2)
           (try clear hcz4_3); (try clear hcz4_4); (try clear hcz4_5); (try clear hcz4_6); (try clear hcz6_0); (try clear hcz6_1); (try clear hcz6_2); (try clear hcz6_3); (try clear hcz6_4); (try clear hcz6_5)
           (try clear hcz6_6); (try clear hcz9_0); (try clear hcz9_1); (try clear hcz9_2); (try clear hcz9_3); (try clear hcz9_4); (try clear hcz9_5); (try clear hcz9_6); (try clear hfz14_0); (try clear hfz14_1)
           (try clear hfz14_2); (try clear hfz14_3); (try clear hfz14_4); (try clear hfz14_5); (try clear hfz14_6); (try clear hfz15_0); (try clear hfz15_1); (try clear hfz15_2); (try clear hfz15_3); (try clear hfz15_4)
           (try clear hfz15_5); (try clear hfz15_6); (try clear hfz17_0); (try clear hfz17_1); (try clear hfz17_2); (try clear hfz17_3); (try clear hfz17_4); (try clear hfz17_5); (try clear hfz17_6); (try clear hfz19_0)
           (try clear hfz19_1); (try clear hfz19_2); (try clear hfz19_3); (try clear hfz19_4); (try clear hfz19_5); (try clear hfz19_6); (try clear hfz38_0); (try clear hfz38_1); (try clear hfz38_2); (try clear hfz38_3)
           (try clear hfz40_0); (try clear hfz40_1); (try clear hfz40_2); (try clear hfz40_3); (try clear hfz4_0); (try clear hfz4_1); (try clear hfz4_2); (try clear hfz4_3); (try clear hfz4_4); (try clear hfz4_5)
           (try clear hfz4_6); (try clear hfz6_0); (try clear hfz6_1); (try clear hfz6_2); (try clear hfz6_3); (try clear hfz6_4); (try clear hfz6_5); (try clear hfz6_6); (try clear hfz9_0); (try clear hfz9_1)
           (try clear hfz9_2); (try clear hfz9_3); (try clear hfz9_4); (try clear hfz9_5); (try clear hfz9_6); (try clear hx437_0); (try clear hx439_0); (try clear hx439_1); (try clear hx439_2); (try clear hx439_3)
           (try clear p2); (try clear p437); (try clear p439); (try clear q437); (try clear q439)
           obtain ⟨kq, x55_25, rfl, HA, HJ25, HO_5, BK432, BK440, HB⟩ := hcut
           cases kq with
           | zero => exact absurd HA.out (by simp [corpus_heads.j3])
           | succ kj25 =>
            have H := HA.out
            clear HA
            simp only [corpus_heads.j3] at H
            by_cases c41 : x55_25 = true
            ·
             subst c41
             have H1 : (some (x43_2, 8)) = some (r1, r2) := by rw [if_pos rfl] at H; exact H
             clear H
             have H := H1
             clear H1
             simp only [Option.some.injEq, Prod.mk.injEq] at H
             obtain ⟨rfl, rfl⟩ := H
             go_wp2
             go_ret2
             exact ⟨BX, BS2 GE432.out GE440.out⟩
            ·
             replace c41 := Bool.eq_false_iff.mpr c41
             subst c41
             have H1 : (if 0 ≤ x43_2 then (if x43_2 < (l0_6.length : Int) then (if (rdOf ByteArray.empty l0_6 x43_2).toList = ([] : List UInt8) then (corpus_heads.j4 kj25 t434 x43_2 l0_5 (l0_5.length : Int) x43_2 false l0_0 l0_1 l0_2 l0_3 l0_4 l0_5 l0_6) else ((markup_ValidName.f kj25 (rdOf ByteArray.empty l0_6 x43_2)).bind fun t443 => (corpus_heads.j4 kj25 t434 x43_2 l0_5 (l0_5.length : Int) x43_2 (!t443) l0_0 l0_1 l0_2 l0_3 l0_4 l0_5 l0_6))) else (none)) else (none)) = some (r1, r2) := by rw [if_neg (show ¬ (false = true) by decide)] at H; exact H
             clear H
             have H := H1
             clear H1
             have HC42 := Aside0.mk H
             clear H
             go_upto_region 14 with (fail)
             go_cut [71] (fun v71 wc => ∃ (kq : Nat) (x71_41 : Bool), v71 = .bool x71_41 ∧ Aside0 (corpus_heads.j4 kq t434 x43_2 l0_5 (l0_5.length : Int) x43_2 x71_41 l0_0 l0_1 l0_2 l0_3 l0_4 l0_5 l0_6 = some (r1, r2)) ∧ Aside0 (kq ≤ kj25) ∧ Aside0 (Kd.R Kd.bool 4 wc w.heap.size (fun _ => True) v435 t434) ∧ Aside0 (wc.heap[gb432]? = some (.cells #[(.slice A0_0 l0_0.length c0_0), (.slice A0_1 l0_1.length c0_1), (.slice (some ad439) l0_2.length c0_2), (.slice A0_3 l0_3.length c0_3), (.slice A0_4 l0_4.length c0_4), (.slice (some ad437) l0_5.length c0_5), (.slice A0_6 l0_6.length c0_6)] 46 (0, 0))) ∧ Aside0 (wc.heap[gb440]? = some (.cells #[.string ((rd_T40 l0_2 t438).f0), .int .i64 ((rd_T40 l0_2 t438).f1), .int .i64 ((rd_T40 l0_2 t438).f2), (.slice A439_3 ((rd_T40 l0_2 t438).f3).length c439_3)] 40 (0, 0))) ∧ Aside0 (Below w.heap.size w wc))
             case first =>
              have H := HC42.out
              clear HC42
              by_cases c43 : 0 ≤ x43_2
              ·
               rw [if_pos c43] at H
               have c43b0 : decide (0 ≤ x43_2) = true := decide_eq_true c43
               clear c43
               (first | rw [c43b0] | (simp only [i64_w, i32_w]; rw [c43b0]) | skip)
               by_cases c44 : x43_2 < (l0_6.length : Int)
               ·
                rw [if_pos c44] at H
                have c44b0 : decide (x43_2 < (l0_6.length : Int)) = true := decide_eq_true c44
                clear c44
                by_cases c45 : (rdOf ByteArray.empty l0_6 x43_2).toList = ([] : List UInt8)
                ·
                 rw [if_pos c45] at H
                 have c45b0 : ((rdOf ByteArray.empty l0_6 x43_2).toList == ([] : List UInt8)) = true := beq_iff_eq.mpr c45
                 have c45b1 : ((rdOf ByteArray.empty l0_6 x43_2).toList != ([] : List UInt8)) = false := bne_eq_false_iff_eq.mpr c45
                 clear c45
                 have H' := Aside0.mk H
                 clear H
                 have hnb46 := NB432_440.out
                 have hnc46 := NB440_432.out
                 have hcz47_0 : wc.cell? ⟨gb432, 0, none⟩ = some (.slice A0_0 l0_0.length c0_0) := (blk_cell BK432.out 0).trans rfl
                 have hcz47_1 : wc.cell? ⟨gb432, 1, none⟩ = some (.slice A0_1 l0_1.length c0_1) := (blk_cell BK432.out 1).trans rfl
                 have hcz47_2 : wc.cell? ⟨gb432, 2, none⟩ = some (.slice (some ad439) l0_2.length c0_2) := (blk_cell BK432.out 2).trans rfl
                 have hcz47_3 : wc.cell? ⟨gb432, 3, none⟩ = some (.slice A0_3 l0_3.length c0_3) := (blk_cell BK432.out 3).trans rfl
                 have hcz47_4 : wc.cell? ⟨gb432, 4, none⟩ = some (.slice A0_4 l0_4.length c0_4) := (blk_cell BK432.out 4).trans rfl
                 have hcz47_5 : wc.cell? ⟨gb432, 5, none⟩ = some (.slice (some ad437) l0_5.length c0_5) := (blk_cell BK432.out 5).trans rfl
                 have hcz47_6 : wc.cell? ⟨gb432, 6, none⟩ = some (.slice A0_6 l0_6.length c0_6) := (blk_cell BK432.out 6).trans rfl
                 have hfz47_0 := blk_frozen BK432.out 0
                 have hfz47_1 := blk_frozen BK432.out 1
                 have hfz47_2 := blk_frozen BK432.out 2
                 have hfz47_3 := blk_frozen BK432.out 3
                 have hfz47_4 := blk_frozen BK432.out 4
                 have hfz47_5 := blk_frozen BK432.out 5
                 have hfz47_6 := blk_frozen BK432.out 6
                 have p441 : 0 ≤ (x43_2 : Int) := OD
                 have q441 : x43_2 < (l0_6.length : Int) := OD
                 obtain ⟨ad441, e441, hx441_0⟩ := Kd.at_string HR0_6.out x43_2 p441 q441
                 cases e441
                 replace hx441_0 := (HB.out.cell (World.block_lt_of_cell? w _ hx441_0)).trans hx441_0
                 replace p441 := eq_true p441
                 replace q441 := eq_true q441
                 go_wp2
                 go_meet
                 case rel => exact ⟨_, (false), (BE), H', ⟨by have := HJ1.out; have := HK2.out; have := HJ25.out; first | omega | exact Nat.le_refl _⟩, ⟨BR HO_5.out⟩, ⟨by (with_reducible repeat (first | refine blk_drewN ?_ _ | refine blk_drew ?_ | refine blk_alloc ?_ _)); exact BK432.out⟩, ⟨by (with_reducible repeat (first | refine blk_drewN ?_ _ | refine blk_drew ?_ | refine blk_alloc ?_ _)); exact BK440.out⟩, ⟨BS2 GE432.out GE440.out⟩⟩
                ·
                 rw [if_neg c45] at H
                 have c45b0 : ((rdOf ByteArray.empty l0_6 x43_2).toList == ([] : List UInt8)) = false := beq_eq_false_iff_ne.mpr c45
                 have c45b1 : ((rdOf ByteArray.empty l0_6 x43_2).toList != ([] : List UInt8)) = true := bne_iff_ne.mpr c45
                 replace H := Option.bind_eq_some_iff.mp H
                 obtain ⟨t443, A480, H⟩ := H
                 replace H : (corpus_heads.j4 kj25 t434 x43_2 l0_5 (l0_5.length : Int) x43_2 (!t443) l0_0 l0_1 l0_2 l0_3 l0_4 l0_5 l0_6) = some (r1, r2) := H
                 have A48 := Aside0.mk A480
                 clear A480
                 have H' := Aside0.mk H
                 clear H
                 have hnb49 := NB432_440.out
                 have hnc49 := NB440_432.out
                 have hcz50_0 : wc.cell? ⟨gb432, 0, none⟩ = some (.slice A0_0 l0_0.length c0_0) := (blk_cell BK432.out 0).trans rfl
                 have hcz50_1 : wc.cell? ⟨gb432, 1, none⟩ = some (.slice A0_1 l0_1.length c0_1) := (blk_cell BK432.out 1).trans rfl
                 have hcz50_2 : wc.cell? ⟨gb432, 2, none⟩ = some (.slice (some ad439) l0_2.length c0_2) := (blk_cell BK432.out 2).trans rfl
                 have hcz50_3 : wc.cell? ⟨gb432, 3, none⟩ = some (.slice A0_3 l0_3.length c0_3) := (blk_cell BK432.out 3).trans rfl
                 have hcz50_4 : wc.cell? ⟨gb432, 4, none⟩ = some (.slice A0_4 l0_4.length c0_4) := (blk_cell BK432.out 4).trans rfl
                 have hcz50_5 : wc.cell? ⟨gb432, 5, none⟩ = some (.slice (some ad437) l0_5.length c0_5) := (blk_cell BK432.out 5).trans rfl
                 have hcz50_6 : wc.cell? ⟨gb432, 6, none⟩ = some (.slice A0_6 l0_6.length c0_6) := (blk_cell BK432.out 6).trans rfl
                 have hfz50_0 := blk_frozen BK432.out 0
                 have hfz50_1 := blk_frozen BK432.out 1
                 have hfz50_2 := blk_frozen BK432.out 2
                 have hfz50_3 := blk_frozen BK432.out 3
                 have hfz50_4 := blk_frozen BK432.out 4
                 have hfz50_5 := blk_frozen BK432.out 5
                 have hfz50_6 := blk_frozen BK432.out 6
                 have p441 : 0 ≤ (x43_2 : Int) := OD
                 have q441 : x43_2 < (l0_6.length : Int) := OD
                 obtain ⟨ad441, e441, hx441_0⟩ := Kd.at_string HR0_6.out x43_2 p441 q441
                 cases e441
                 replace hx441_0 := (HB.out.cell (World.block_lt_of_cell? w _ hx441_0)).trans hx441_0
                 replace p441 := eq_true p441
                 replace q441 := eq_true q441
                 have p442 : 0 ≤ (x43_2 : Int) := OD
                 have q442 : x43_2 < (l0_6.length : Int) := OD
                 obtain ⟨ad442, e442, hx442_0⟩ := Kd.at_string HR0_6.out x43_2 p442 q442
                 obtain rfl : ad441 = ad442 := (by injection e442)
                 replace hx442_0 := (HB.out.cell (World.block_lt_of_cell? w _ hx442_0)).trans hx442_0
                 replace p442 := eq_true p442
                 replace q442 := eq_true q442
                 go_wp2_with (first | (go_at_call 14; (with_reducible refine (markup_ValidName.calls kj25 (rdOf ByteArray.empty l0_6 x43_2) t443 _ A48.out).mono ?_); rintro e w' ⟨rfl, ⟨nd, rfl⟩⟩))
                 go_meet
                 case rel => exact ⟨_, (!t443), (BE), H', ⟨by have := HJ1.out; have := HK2.out; have := HJ25.out; first | omega | exact Nat.le_refl _⟩, ⟨BR HO_5.out⟩, ⟨by (with_reducible repeat (first | refine blk_drewN ?_ _ | refine blk_drew ?_ | refine blk_alloc ?_ _)); exact BK432.out⟩, ⟨by (with_reducible repeat (first | refine blk_drewN ?_ _ | refine blk_drew ?_ | refine blk_alloc ?_ _)); exact BK440.out⟩, ⟨BS2 GE432.out GE440.out⟩⟩
               ·
                rw [if_neg c44] at H
                exact absurd H (by simp)
              ·
               rw [if_neg c43] at H
               exact absurd H (by simp)
             case rest =>
              clear HC42
              (try clear c1); (try clear c2); (try clear p2); (try clear c3); (try clear c4); (try clear p4); (try clear q4); (try clear hx4); (try clear c5); (try clear c7); (try clear c7b0); (try clear c7b1)
              (try clear c7b2); (try clear c8); (try clear c8b0); (try clear c8b1); (try clear c10); (try clear c11); (try clear c11b0); (try clear c11b1); (try clear c13); (try clear c20); (try clear c20b0)
              (try clear c21); (try clear c21b0); (try clear c22); (try clear c22b0); (try clear c24); (try clear c24b0); (try clear c25); (try clear c25b0); (try clear c35); (try clear c35b0); (try clear c35b1)
              (try clear c36); (try clear c36b0); (try clear c37); (try clear c39); (try clear c41); (try clear c43); (try clear c43b0); (try clear p43); (try clear q43); (try clear hx43); (try clear c44); (try clear c44b0)
              (try clear p44); (try clear q44); (try clear hx44); (try clear c45); (try clear c45b0); (try clear c45b1); (try clear c46); (try clear c49); (try clear c50); (try clear hcz14_0); (try clear hcz14_1)
              (try clear hcz14_2); (try clear hcz14_3); (try clear hcz14_4); (try clear hcz14_5); (try clear hcz14_6); (try clear hcz15_0); (try clear hcz15_1); (try clear hcz15_2); (try clear hcz15_3); (try clear hcz15_4)
              (try clear hcz15_5); (try clear hcz15_6); (try clear hcz17_0); (try clear hcz17_1); (try clear hcz17_2); (try clear hcz17_3); (try clear hcz17_4); (try clear hcz17_5); (try clear hcz17_6); (try clear hcz19_0)
              (try clear hcz19_1); (try clear hcz19_2); (try clear hcz19_3); (try clear hcz19_4); (try clear hcz19_5); (try clear hcz19_6); (try clear hcz38_0); (try clear hcz38_1); (try clear hcz38_2); (try clear hcz38_3)
              (try clear hcz40_0); (try clear hcz40_1); (try clear hcz40_2); (try clear hcz40_3); (try clear hcz47_0); (try clear hcz47_1); (try clear hcz47_2); (try clear hcz47_3); (try clear hcz47_4); (try clear hcz47_5)
              (try clear hcz47_6); (try clear hcz4_0); (try clear hcz4_1); (try clear hcz4_2); (try clear hcz4_3); (try clear hcz4_4); (try clear hcz4_5); (try clear hcz4_6); (try clear hcz50_0); (try clear hcz50_1)
              (try clear hcz50_2); (try clear hcz50_3); (try clear hcz50_4); (try clear hcz50_5); (try clear hcz50_6); (try clear hcz6_0); (try clear hcz6_1); (try clear hcz6_2); (try clear hcz6_3); (try clear hcz6_4)
              (try clear hcz6_5); (try clear hcz6_6); (try clear hcz9_0); (try clear hcz9_1); (try clear hcz9_2); (try clear hcz9_3); (try clear hcz9_4); (try clear hcz9_5); (try clear hcz9_6); (try clear hfz14_0)
              (try clear hfz14_1); (try clear hfz14_2); (try clear hfz14_3); (try clear hfz14_4); (try clear hfz14_5); (try clear hfz14_6); (try clear hfz15_0); (try clear hfz15_1); (try clear hfz15_2); (try clear hfz15_3)
              (try clear hfz15_4); (try clear hfz15_5); (try clear hfz15_6); (try clear hfz17_0); (try clear hfz17_1); (try clear hfz17_2); (try clear hfz17_3); (try clear hfz17_4); (try clear hfz17_5); (try clear hfz17_6)
              (try clear hfz19_0); (try clear hfz19_1); (try clear hfz19_2); (try clear hfz19_3); (try clear hfz19_4); (try clear hfz19_5); (try clear hfz19_6); (try clear hfz38_0); (try clear hfz38_1); (try clear hfz38_2)
              (try clear hfz38_3); (try clear hfz40_0); (try clear hfz40_1); (try clear hfz40_2); (try clear hfz40_3); (try clear hfz47_0); (try clear hfz47_1); (try clear hfz47_2); (try clear hfz47_3); (try clear hfz47_4)
              (try clear hfz47_5); (try clear hfz47_6); (try clear hfz4_0); (try clear hfz4_1); (try clear hfz4_2); (try clear hfz4_3); (try clear hfz4_4); (try clear hfz4_5); (try clear hfz4_6); (try clear hfz50_0)
              (try clear hfz50_1); (try clear hfz50_2); (try clear hfz50_3); (try clear hfz50_4); (try clear hfz50_5); (try clear hfz50_6); (try clear hfz6_0); (try clear hfz6_1); (try clear hfz6_2); (try clear hfz6_3)
              (try clear hfz6_4); (try clear hfz6_5); (try clear hfz6_6); (try clear hfz9_0); (try clear hfz9_1); (try clear hfz9_2); (try clear hfz9_3); (try clear hfz9_4); (try clear hfz9_5); (try clear hfz9_6)
              (try clear hx437_0); (try clear hx439_0); (try clear hx439_1); (try clear hx439_2); (try clear hx439_3); (try clear hx441_0); (try clear hx442_0); (try clear p2); (try clear p4); (try clear p437)
              (try clear p439); (try clear p441); (try clear p442); (try clear q4); (try clear q437); (try clear q439); (try clear q441); (try clear q442)
              obtain ⟨kq, x71_41, rfl, HA, HJ41, HO_5, BK432, BK440, HB⟩ := hcut
              cases kq with
              | zero => exact absurd HA.out (by simp [corpus_heads.j4])
              | succ kj41 =>
               have H := HA.out
               clear HA
               simp only [corpus_heads.j4] at H
               by_cases c51 : x71_41 = true
               ·
                subst c51
                have H1 : (some (x43_2, 4)) = some (r1, r2) := by rw [if_pos rfl] at H; exact H
                clear H
                have H := H1
                clear H1
                simp only [Option.some.injEq, Prod.mk.injEq] at H
                obtain ⟨rfl, rfl⟩ := H
                go_wp2
                go_ret2
                exact ⟨BX, BS2 GE432.out GE440.out⟩
               ·
                replace c51 := Bool.eq_false_iff.mpr c51
                subst c51
                have H1 : (if 0 ≤ x43_2 then (if x43_2 < (t434.length : Int) then (if rdOf false t434 x43_2 = true then (some (x43_2, 12)) else (corpus_heads.l0 kj41 t434 l0_5 (l0_5.length : Int) (wrap64 (x43_2 + 1)) l0_0 l0_1 l0_2 l0_3 l0_4 l0_5 l0_6)) else (none)) else (none)) = some (r1, r2) := by rw [if_neg (show ¬ (false = true) by decide)] at H; exact H
                clear H
                have H := H1
                clear H1
                by_cases c52 : 0 ≤ x43_2
                ·
                 rw [if_pos c52] at H
                 have c52b0 : decide (0 ≤ x43_2) = true := decide_eq_true c52
                 clear c52
                 by_cases c53 : x43_2 < (t434.length : Int)
                 ·
                  rw [if_pos c53] at H
                  have c53b0 : decide (x43_2 < (t434.length : Int)) = true := decide_eq_true c53
                  clear c53
                  obtain ⟨bq54, hbq54⟩ : ∃ b_ : Bool, b_ = (rdOf false t434 x43_2) := ⟨_, rfl⟩
                  replace H : (if bq54 = true then (some (x43_2, 12)) else (corpus_heads.l0 kj41 t434 l0_5 (l0_5.length : Int) (wrap64 (x43_2 + 1)) l0_0 l0_1 l0_2 l0_3 l0_4 l0_5 l0_6)) = some (r1, r2) := by rw [← hbq54] at H; exact H
                  have Nbq54 := Aside0.mk hbq54
                  clear hbq54
                  by_cases c55 : bq54 = true
                  ·
                   subst c55
                   have H1 : (some (x43_2, 12)) = some (r1, r2) := by rw [if_pos rfl] at H; exact H
                   clear H
                   have H := H1
                   clear H1
                   simp only [Option.some.injEq, Prod.mk.injEq] at H
                   obtain ⟨rfl, rfl⟩ := H
                   obtain ⟨Ao56, co56, eo56⟩ := Kd.R_slice HO_5.out
                   subst eo56
                   have p444 : 0 ≤ (x43_2 : Int) := OD
                   have q444 : x43_2 < (t434.length : Int) := OD
                   obtain ⟨ad444, e444, hx444_0⟩ := Kd.at_bool (Kd.R_reads' HO_5.out).2.2 x43_2 p444 q444
                   (try rw [← Nbq54.out] at hx444_0)
                   cases e444
                   replace p444 := eq_true p444
                   replace q444 := eq_true q444
                   go_wp2
                   go_ret2
                   exact ⟨BX, BS2 GE432.out GE440.out⟩
                  ·
                   replace c55 := Bool.eq_false_iff.mpr c55
                   subst c55
                   have H1 : (corpus_heads.l0 kj41 t434 l0_5 (l0_5.length : Int) (wrap64 (x43_2 + 1)) l0_0 l0_1 l0_2 l0_3 l0_4 l0_5 l0_6) = some (r1, r2) := by rw [if_neg (show ¬ (false = true) by decide)] at H; exact H
                   clear H
                   have H := H1
                   clear H1
                   have H' := Aside0.mk H
                   clear H
                   obtain ⟨Ao57, co57, eo57⟩ := Kd.R_slice HO_5.out
                   subst eo57
                   have p444 : 0 ≤ (x43_2 : Int) := OD
                   have q444 : x43_2 < (t434.length : Int) := OD
                   obtain ⟨ad444, e444, hx444_0⟩ := Kd.at_bool (Kd.R_reads' HO_5.out).2.2 x43_2 p444 q444
                   (try rw [← Nbq54.out] at hx444_0)
                   cases e444
                   replace p444 := eq_true p444
                   replace q444 := eq_true q444
                   go_wp2
                   go_roundg kj41
                   case measure => have := HJ1.out; have := HK2.out; have := HJ25.out; have := HJ41.out; omega
                   case rel => exact ⟨(wrap64 (x43_2 + 1)), (BE), H', ⟨by have := HJ1.out; have := HK2.out; have := HJ25.out; have := HJ41.out; omega⟩, ⟨BR HO_5.out⟩, ⟨by (with_reducible repeat (first | refine blk_drewN ?_ _ | refine blk_drew ?_ | refine blk_alloc ?_ _)); exact BK432.out⟩, ⟨BS2 GE432.out GE440.out⟩⟩
                 ·
                  rw [if_neg c53] at H
                  exact absurd H (by simp)
                ·
                 rw [if_neg c52] at H
                 exact absurd H (by simp)
         ·
          rw [if_neg c25] at H
          exact absurd H (by simp)
        ·
         rw [if_neg c24] at H
         exact absurd H (by simp)
       ·
        rw [if_neg c22] at H
        exact absurd H (by simp)
      ·
       rw [if_neg c21] at H
       exact absurd H (by simp)
     ·
      rw [if_neg c20] at H
      have c20b0 : decide (x43_2 < (l0_5.length : Int)) = false := decide_eq_false c20
      clear c20
      simp only [Option.some.injEq, Prod.mk.injEq] at H
      obtain ⟨rfl, rfl⟩ := H
      go_wp2
      go_ret2
      exact ⟨BX, BS GE432.out⟩

end Go.Proofs.YtkanmafjjejpmaaDoor.P
