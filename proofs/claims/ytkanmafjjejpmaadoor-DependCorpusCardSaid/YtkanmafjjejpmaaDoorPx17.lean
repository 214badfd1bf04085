-- Written by a program of this session (wip/doprint.sh) out of the translation; Lean checks it.
import Derived.Test.YtkanmafjjejpmaaDoorPx0
namespace Go.Proofs.YtkanmafjjejpmaaDoor.P
open Go.Proofs.YtkanmafjjejpmaaDoor.S
open Go.Proofs.YtkanmafjjejpmaaDoor.X
open Go.RowKit Go.Proofs.YtkanmafjjejpmaaDoorW.PrintWords Go.Proofs.YtkanmafjjejpmaaDoorW.PrintLast Go.Proofs.YtkanmafjjejpmaaDoorW.PrintMore
attribute [local go_sem] max2_int min2_int max_two min_two max_three min_three max_four min_four   -- for this text's walks alone
set_option linter.unusedVariables false
set_option linter.unusedSimpArgs false

/-! ### depend_numbers: function 39 -/
mutual
def depend_numbers.l0 : Nat → List Int → List (List Int) → List Int → List Int → Int → Int → Option (List Int × List Int)
  | 0, _, _, _, _, _, _ => none
  | k + 1, x0, x4, x5, x15, x16, x17 => if x17 < x16 then (if 0 ≤ x17 then (if x17 < (x15.length : Int) then (if (rd x15 x17) ≥ 0 then (if 0 ≤ (rd x15 x17) then (if (rd x15 x17) < (x4.length : Int) then (if (rd_L3 x4 (rd x15 x17)).length < 17592186044416 then (depend_numbers.l0 k x0 (x4.set ((rd x15 x17) : Int).toNat ((rd_L3 x4 (rd x15 x17)) ++ [x17])) x5 x15 x16 (wrap64 (x17 + 1))) else (none)) else (none)) else (none)) else (if x5.length < 17592186044416 then (depend_numbers.l0 k x0 x4 (x5 ++ [x17]) x15 x16 (wrap64 (x17 + 1))) else (none))) else (none)) else (none)) else (if 0 ≤ (x0.length : Int) then (if ((x0.length : Int) : Int).toNat ≤ 35184372088832 then (depend_numbers.l1 k x0 (List.replicate ((x0.length : Int) : Int).toNat 0) (List.replicate ((x0.length : Int) : Int).toNat 0) x4 x5 ([] : List Int)) else (none)) else (none))
def depend_numbers.l1 : Nat → List Int → List Int → List Int → List (List Int) → List Int → List Int → Option (List Int × List Int)
  | 0, _, _, _, _, _, _ => none
  | k + 1, x0, x2, x3, x4, x5, x8 => if (x5.length : Int) > 0 then (if 0 ≤ (wrap64 ((x5.length : Int) - 1)) then (if (wrap64 ((x5.length : Int) - 1)) < (x5.length : Int) then (if (wrap64 ((x5.length : Int) - 1)) ≤ (x5.length : Int) then ((some (x5.take ((wrap64 ((x5.length : Int) - 1)) : Int).toNat : List Int)).bind fun y260 => (if 0 ≤ (rd x5 (wrap64 ((x5.length : Int) - 1))) then (if (rd x5 (wrap64 ((x5.length : Int) - 1))) < (x4.length : Int) then (if y260.length + (rd_L3 x4 (rd x5 (wrap64 ((x5.length : Int) - 1)))).length < 17592186044416 then (if (rd x5 (wrap64 ((x5.length : Int) - 1))) < (x2.length : Int) then (if (rd x5 (wrap64 ((x5.length : Int) - 1))) < (x3.length : Int) then (if x8.length < 17592186044416 then (depend_numbers.l1 k x0 (x2.set ((rd x5 (wrap64 ((x5.length : Int) - 1))) : Int).toNat (x8.length : Int)) (x3.set ((rd x5 (wrap64 ((x5.length : Int) - 1))) : Int).toNat (x8.length : Int)) x4 (y260 ++ (rd_L3 x4 (rd x5 (wrap64 ((x5.length : Int) - 1))))) (x8 ++ [rd x5 (wrap64 ((x5.length : Int) - 1))])) else (none)) else (none)) else (none)) else (none)) else (none)) else (none))) else (none)) else (none)) else (none)) else (depend_numbers.l2 k x0 x2 x3 x8 (wrap64 ((x8.length : Int) - 1)))
def depend_numbers.l2 : Nat → List Int → List Int → List Int → List Int → Int → Option (List Int × List Int)
  | 0, _, _, _, _, _ => none
  | k + 1, x0, x2, x3, x8, x10 => if x10 ≥ 0 then (if 0 ≤ x10 then (if x10 < (x8.length : Int) then (if 0 ≤ (rd x8 x10) then (if (rd x8 x10) < (x0.length : Int) then (if (rd x0 (rd x8 x10)) ≥ 0 then (if 0 ≤ (rd x0 (rd x8 x10)) then (if (rd x0 (rd x8 x10)) < (x3.length : Int) then (if (rd x8 x10) < (x3.length : Int) then (depend_numbers.l2 k x0 x2 (x3.set ((rd x0 (rd x8 x10)) : Int).toNat (mx (rd x3 (rd x0 (rd x8 x10))) (rd x3 (rd x8 x10)))) x8 (wrap64 (x10 - 1))) else (none)) else (none)) else (none)) else (depend_numbers.l2 k x0 x2 x3 x8 (wrap64 (x10 - 1)))) else (none)) else (none)) else (none)) else (none)) else (some (x2, x3))
end
def depend_numbers.f (k : Nat) (l0 : List Int) : Option (List Int × List Int) := if 0 ≤ (l0.length : Int) then (if ((l0.length : Int) : Int).toNat ≤ 11728124029610 then (depend_numbers.l0 k l0 (List.replicate ((l0.length : Int) : Int).toNat []) ([] : List Int) l0 (l0.length : Int) 0) else (none)) else (none)
theorem depend_numbers.mono_l : ∀ k, (∀ y0 y1 y2 y3 y4 y5, LeO (depend_numbers.l0 k y0 y1 y2 y3 y4 y5) (depend_numbers.l0 (k + 1) y0 y1 y2 y3 y4 y5)) ∧ (∀ y0 y1 y2 y3 y4 y5, LeO (depend_numbers.l1 k y0 y1 y2 y3 y4 y5) (depend_numbers.l1 (k + 1) y0 y1 y2 y3 y4 y5)) ∧ (∀ y0 y1 y2 y3 y4, LeO (depend_numbers.l2 k y0 y1 y2 y3 y4) (depend_numbers.l2 (k + 1) y0 y1 y2 y3 y4))
 | 0 => ⟨fun _ _ _ _ _ _ r h => by simp [depend_numbers.l0] at h, fun _ _ _ _ _ _ r h => by simp [depend_numbers.l1] at h, fun _ _ _ _ _ r h => by simp [depend_numbers.l2] at h⟩
 | k + 1 => by
  obtain ⟨ih0, ih1, ih2⟩ := depend_numbers.mono_l k
  refine ⟨?_, ?_, ?_⟩
  ·
   intro y0 y1 y2 y3 y4 y5
   unfold depend_numbers.l0
   with_reducible repeat' first | exact ih0 _ _ _ _ _ _ | exact ih1 _ _ _ _ _ _ | exact ih2 _ _ _ _ _ | exact LeO.refl _ | exact LeO.none _ | refine LeO.ite ?_ ?_ | refine LeO.bind ?_ (fun _ => ?_)
  ·
   intro y0 y1 y2 y3 y4 y5
   unfold depend_numbers.l1
   with_reducible repeat' first | exact ih0 _ _ _ _ _ _ | exact ih1 _ _ _ _ _ _ | exact ih2 _ _ _ _ _ | exact LeO.refl _ | exact LeO.none _ | refine LeO.ite ?_ ?_ | refine LeO.bind ?_ (fun _ => ?_)
  ·
   intro y0 y1 y2 y3 y4
   unfold depend_numbers.l2
   with_reducible repeat' first | exact ih0 _ _ _ _ _ _ | exact ih1 _ _ _ _ _ _ | exact ih2 _ _ _ _ _ | exact LeO.refl _ | exact LeO.none _ | refine LeO.ite ?_ ?_ | refine LeO.bind ?_ (fun _ => ?_)
theorem depend_numbers.mono : ∀ a0 k, LeO (depend_numbers.f k a0) (depend_numbers.f (k + 1) a0) := by
 intro a0 k
 obtain ⟨ih0, ih1, ih2⟩ := depend_numbers.mono_l k
 unfold depend_numbers.f
 with_reducible repeat' first | exact ih0 _ _ _ _ _ _ | exact ih1 _ _ _ _ _ _ | exact ih2 _ _ _ _ _ | exact LeO.refl _ | exact LeO.none _ | refine LeO.ite ?_ ?_ | refine LeO.bind ?_ (fun _ => ?_)
def depend_numbers.T10 : Bool × List (List Nat × List Nat) := (true, [([], []), ([0], [0]), ([1, 1], [1]), ([], []), ([3], [3]), ([4, 4], [4]), ([2, 0, 1, 2], [2]), ([5, 6, 0, 1, 2, 3, 4, 5, 6], [5])])
def depend_numbers.B10 : List Nat := [0, 1, 3, 0, 8, 24, 7, 127]
theorem depend_numbers.tab10 : rtab .any (opsOf Tryd.f39 10) = depend_numbers.T10 := by kernel_rfl
theorem depend_numbers.bits10 : waitsOk depend_numbers.T10.2 depend_numbers.B10 = true := by kernel_rfl
def depend_numbers.T14 : Bool × List (List Nat × List Nat) := (true, [([], []), ([], []), ([1], [1]), ([2], [2]), ([0, 3], [0, 3]), ([], []), ([], []), ([5, 6], [5, 6]), ([7], [7]), ([4, 8], [4, 8]), ([9, 9, 0, 1, 2, 3, 4, 5, 6, 7, 8, 9], [0, 1, 9])])
def depend_numbers.B14 : List Nat := [0, 0, 2, 6, 15, 0, 0, 96, 224, 511, 1023]
theorem depend_numbers.tab14 : rtab .any (opsOf Tryd.f39 14) = depend_numbers.T14 := by kernel_rfl
theorem depend_numbers.bits14 : waitsOk depend_numbers.T14.2 depend_numbers.B14 = true := by kernel_rfl
def depend_numbers.T22 : Bool × List (List Nat × List Nat) := (true, [([], []), ([], []), ([], []), ([], []), ([2, 3], [2, 3]), ([4], [4]), ([], []), ([], []), ([], []), ([7, 8], [7, 8]), ([9], [9]), ([6, 10], [6, 10]), ([11], [11]), ([5, 12], [5, 12]), ([0, 1, 0, 1, 2, 3, 4, 5, 6, 7, 8, 9, 10, 11, 12, 13], [0, 1]), ([14, 13, 0, 1, 2, 3, 4, 5, 6, 7, 8, 9, 10, 11, 12, 13], [13, 14])])
def depend_numbers.B22 : List Nat := [0, 0, 0, 0, 12, 28, 0, 0, 0, 384, 896, 1984, 4032, 8188, 16383, 32767]
theorem depend_numbers.tab22 : rtab .any (opsOf Tryd.f39 22) = depend_numbers.T22 := by kernel_rfl
theorem depend_numbers.bits22 : waitsOk depend_numbers.T22.2 depend_numbers.B22 = true := by kernel_rfl
set_option maxHeartbeats 8000000 in
set_option maxRecDepth 100000 in
theorem depend_numbers.calls (k : Nat) (A0 : Option Addr) (c0 : Nat) (l0 : List Int) (r1 : List Int) (r2 : List Int) (w : World) (hr0 : Kd.C (Kd.int .i64) w A0 l0.length l0) (hc0 : l0.length ≤ c0) (h : depend_numbers.f k l0 = some (r1, r2)) :
 Calls Tryd.prog 39 #[.slice A0 l0.length c0] w fun e w' => ∃ v0_ v1_ : Value, e = .returned (.tuple #[v0_, v1_]) ∧ Kd.R (Kd.int .i64) 3 w' w.heap.size (fun k_ => some k_ ≠ (v1_ : Value).ownBlock) v0_ r1 ∧ Kd.R (Kd.int .i64) 3 w' w.heap.size (fun k_ => some k_ ≠ (v0_ : Value).ownBlock) v1_ r2 ∧ Below w.heap.size w w' := by
 have HR0 := Aside0.mk hr0
 have HC0 := Aside0.mk hc0
 clear hr0 hc0
 have HB := Aside0.mk (Below.refl w.heap.size w)
 have H : (if 0 ≤ (l0.length : Int) then (if ((l0.length : Int) : Int).toNat ≤ 11728124029610 then (depend_numbers.l0 k l0 (List.replicate ((l0.length : Int) : Int).toNat []) ([] : List Int) l0 (l0.length : Int) 0) else (none)) else (none)) = some (r1, r2) := h
 clear h
 by_cases c2 : 0 ≤ (l0.length : Int)
 ·
  rw [if_pos c2] at H
  have c2b0 := eq_true c2
  have c2b1 : decide (0 ≤ (l0.length : Int)) = true := decide_eq_true c2
  clear c2
  by_cases c3 : ((l0.length : Int) : Int).toNat ≤ 11728124029610
  ·
   rw [if_pos c3] at H
   have c3b0 := eq_true c3
   have c3b1 : decide (((l0.length : Int) : Int).toNat ≤ 11728124029610) = true := decide_eq_true c3
   clear c3
   obtain ⟨y241, hy241⟩ : ∃ y_ : List (List Int), y_ = (List.replicate ((l0.length : Int) : Int).toNat []) := ⟨_, rfl⟩
   replace H : (depend_numbers.l0 k l0 y241 ([] : List Int) l0 (l0.length : Int) 0) = some (r1, r2) := by first | (rw [hy241]; with_reducible exact H) | (have H2_ := (Option.bind_some _ _).symm.trans H; rw [hy241]; with_reducible exact H2_) | (have H2_ := (Option.bind_some _ _).symm.trans H; with_reducible exact H2_) | with_reducible exact H | (rw [hy241]; exact H) | exact H
   have Ny241 := Aside0.mk hy241
   clear hy241
   have H' := Aside0.mk H
   clear H
   go_enter Tryd.func39, Tryd.ntmps39
   go_wp2_with (first | ((with_reducible refine gate_dst (N := 14) rfl ?_); refine Kd.S_make (Kd.slice 3 (Kd.int .i64)) _ 22 rfl (N := 14) rfl 89 _ _ rfl (l0.length : Int) rfl rfl Tryd.underlying89 (.slice none 0 0) 24 info22 rfl (by decide) (by omega) [] (ok := fun _ => True) (okp := fun _ => True) ⟨_, rfl, Kd.R_nil _ _ _ _ _⟩ (fun _ hk => hk) trivial (OD) (Nat.le_trans (Nat.mul_le_mul_right _ (OD : (l0.length : Int).toNat ≤ 11728124029610)) (by omega)) (Below.refl _ _) (Nat.le_refl _) ?_; intro v242 w4 ho5 hb hg_ hnew_; clear hg_ hnew_; (first | rw [← Ny241.out] at ho5 | (simp only [Int.reduceToNat] at ho5; rw [← Ny241.out] at ho5)); have n0_ := Aside0.mk (Kd.S_lower ho5 (below_size (BB))); have n1_ := Aside0.mk (below_step (BB) hb); clear HB; have HO243 := n0_; have HB := n1_; clear n0_ n1_; clear hb ho5))
   go_loopg [5, 17] k (fun kq v5 v17 w' => ∃ (x4_1 : List (List Int)) (x5_1 : List Int) (x17_1 : Int), v17 = .int .i64 x17_1 ∧ Aside0 (depend_numbers.l0 kq l0 x4_1 x5_1 l0 (l0.length : Int) x17_1 = some (r1, r2)) ∧ Aside0 (kq ≤ k) ∧ Aside0 (Kd.S (Kd.slice 3 (Kd.int .i64)) 22 w' w.heap.size (fun k_ => some k_ ≠ (v5 : Value).ownBlock) v242 x4_1) ∧ Aside0 (Kd.R (Kd.int .i64) 3 w' w.heap.size (fun _ => True) v5 x5_1) ∧ Aside0 (Below w.heap.size w w'))
   case atStart => exact ⟨(y241), (([] : List Int)), (0), (BE), H', ⟨Nat.le_refl _⟩, ⟨by (with_reducible repeat (first | apply Kd.S_alloc | apply Kd.S_drewN | apply Kd.S_drew)); exact Kd.S_mono HO243.out (fun _ hk => (by simp [Value.ownBlock]))⟩, ⟨by first | exact Kd.R_nil _ _ _ _ _ | exact Kd.N_nil _ _ _ _ _ | exact Kd.V_nil _ _ _ _ _ | exact Kd.Q_nil _ _ _ _ _ | exact Kd.S_nil _ _ _ _ _⟩, ⟨BB⟩⟩
   case round =>
    clear H'
    (try clear c2); (try clear c2b0); (try clear c2b1); (try clear p2); (try clear c3); (try clear c3b0); (try clear c3b1)
    obtain ⟨x4_1, x5_1, x17_1, rfl, HA, HK1, HO_4, HO_5, HB⟩ := hrel
    cases gk with
    | zero => exact absurd HA.out (by simp [depend_numbers.l0])
    | succ k1 =>
     have H := HA.out
     clear HA
     simp only [depend_numbers.l0] at H
     by_cases c6 : x17_1 < (l0.length : Int)
     ·
      rw [if_pos c6] at H
      have c6b0 : decide (x17_1 < (l0.length : Int)) = true := decide_eq_true c6
      clear c6
      by_cases c7 : 0 ≤ x17_1
      ·
       rw [if_pos c7] at H
       have c7b0 : decide (0 ≤ x17_1) = true := decide_eq_true c7
       clear c7
       by_cases c8 : x17_1 < (l0.length : Int)
       ·
        rw [if_pos c8] at H
        have c8b0 : decide (x17_1 < (l0.length : Int)) = true := decide_eq_true c8
        clear c8
        by_cases c9 : (rd l0 x17_1) ≥ 0
        ·
         rw [if_pos c9] at H
         have c9b0 : decide (0 ≤ (rd l0 x17_1)) = true := decide_eq_true c9
         clear c9
         by_cases c10 : 0 ≤ (rd l0 x17_1)
         ·
          rw [if_pos c10] at H
          have c10b0 : decide (0 ≤ (rd l0 x17_1)) = true := decide_eq_true c10
          clear c10
          by_cases c11 : (rd l0 x17_1) < (x4_1.length : Int)
          ·
           rw [if_pos c11] at H
           have c11b0 : decide ((rd l0 x17_1) < (x4_1.length : Int)) = true := decide_eq_true c11
           clear c11
           by_cases c12 : (rd_L3 x4_1 (rd l0 x17_1)).length < 17592186044416
           ·
            rw [if_pos c12] at H
            have LMc12 := Aside0.mk c12
            clear c12
            obtain ⟨y246, hy246⟩ : ∃ y_ : List Int, y_ = ((rd_L3 x4_1 (rd l0 x17_1)) ++ [x17_1]) := ⟨_, rfl⟩
            replace H : (depend_numbers.l0 k1 l0 (x4_1.set ((rd l0 x17_1) : Int).toNat y246) x5_1 l0 (l0.length : Int) (wrap64 (x17_1 + 1))) = some (r1, r2) := by first | (rw [hy246]; with_reducible exact H) | (have H2_ := (Option.bind_some _ _).symm.trans H; rw [hy246]; with_reducible exact H2_) | (have H2_ := (Option.bind_some _ _).symm.trans H; with_reducible exact H2_) | with_reducible exact H | (rw [hy246]; exact H) | exact H
            have Ny246 := Aside0.mk hy246
            clear hy246
            obtain ⟨y249, hy249⟩ : ∃ y_ : List (List Int), y_ = (x4_1.set ((rd l0 x17_1) : Int).toNat y246) := ⟨_, rfl⟩
            replace H : (depend_numbers.l0 k1 l0 y249 x5_1 l0 (l0.length : Int) (wrap64 (x17_1 + 1))) = some (r1, r2) := by first | (rw [hy249]; with_reducible exact H) | (have H2_ := (Option.bind_some _ _).symm.trans H; rw [hy249]; with_reducible exact H2_) | (have H2_ := (Option.bind_some _ _).symm.trans H; with_reducible exact H2_) | with_reducible exact H | (rw [hy249]; exact H) | exact H
            have Ny249 := Aside0.mk hy249
            clear hy249
            have H' := Aside0.mk H
            clear H
            have p244 : 0 ≤ (x17_1 : Int) := OD
            have q244 : x17_1 < (l0.length : Int) := OD
            obtain ⟨ad244, e244, hx244_0⟩ := Kd.at_int HR0.out x17_1 p244 q244
            cases e244
            replace hx244_0 := (HB.out.cell (World.block_lt_of_cell? w _ hx244_0)).trans hx244_0
            replace p244 := eq_true p244
            replace q244 := eq_true q244
            obtain ⟨Ao14, co14, eo14⟩ := Kd.S_slice HO_4.out
            subst eo14
            have p245 : 0 ≤ ((rd l0 x17_1) : Int) := OD
            have q245 : (rd l0 x17_1) < (x4_1.length : Int) := OD
            obtain ⟨ad245, A245_0, c245_0, e245, hx245_0, hl245_0, hi245_0⟩ := at_L3 (Kd.S_reads' HO_4.out).2.2 (rd l0 x17_1) p245 q245
            cases e245
            obtain ⟨ce245, hce245, hMe245, hcc245⟩ := Kd.S_get HO_4.out [] (rd l0 x17_1) p245 (by first | exact q245 | exact OD | (have e_ := (Kd.S_reads' HO_4.out).1; omega))
            obtain ⟨ve245_0, rfl, ge245_0⟩ := hMe245
            have hv245_0 := hcc245 0 _ rfl
            rw [Nat.add_zero, show ((Kd.slice 3 (Kd.int .i64))).sz = 1 from rfl, Nat.mul_one] at hv245_0
            replace hv245_0 := Option.some.inj (hv245_0.symm.trans hx245_0)
            rw [hv245_0] at ge245_0
            have HL245_0 := Aside0.mk (show Kd.R (Kd.int .i64) 3 _ _ _ _ (rd_L3 x4_1 (rd l0 x17_1)) from ge245_0)
            clear hv245_0 ge245_0
            have HX245_0 := Aside0.mk hx245_0
            clear hcc245 hce245
            have HR245_0 := Aside0.mk hi245_0
            have HC245_0 := Aside0.mk hl245_0
            clear hi245_0 hl245_0
            replace p245 := eq_true p245
            replace q245 := eq_true q245
            obtain ⟨go15, co15, eo15, gb15, gl15, cl15, HG15⟩ := Kd.S_form HO_4.out (by have h_ : ((rd l0 x17_1) : Int) < ((x4_1.length : Int) : Int) := OD; have h2_ : 0 ≤ ((rd l0 x17_1) : Int) := (OD); omega)
            (first | cases eo15 | (injection eo15 with ea_ en_ ec_; (first | subst ea_ | (injection ea_ with ea_; subst ea_)); subst ec_; clear en_))
            have GB15 := Aside0.mk gb15
            have GG15 := Aside0.mk HG15
            clear gb15 gl15 HG15
            (first | simp only [add_plain] at hx245_0 | skip)
            obtain ⟨oki15, ce15, hcl15, hM15, hcc15, _, _, hH15⟩ := Kd.S_elem HO_4.out [] ((rd l0 x17_1) : Int) (OD) (by have h_ : ((rd l0 x17_1) : Int) < ((x4_1.length : Int) : Int) := OD; first | exact h_ | (have e_ := (Kd.S_reads' HO_4.out).1; omega) | simpa using h_)
            obtain ⟨ve15_0, rfl, ge15_0⟩ := hM15
            have hv15 := hcc15 0 _ rfl
            have hX15 := HX245_0.out
            (try simp only [add_plain] at hX15)
            (try simp only [Nat.add_zero] at hv15)
            (try rw [show ((Kd.slice 3 (Kd.int .i64))).sz = 1 from rfl, Nat.mul_one] at hv15)
            replace hv15 := Option.some.inj (hv15.symm.trans hX15)
            subst hv15
            clear hX15 hcc15 hcl15
            have UU15 := Aside0.mk (show Kd.R (Kd.int .i64) 3 _ w.heap.size oki15 (.slice A245_0 (rd_L3 x4_1 (rd l0 x17_1)).length c245_0) (rd_L3 x4_1 (rd l0 x17_1)) from ge15_0)
            have HH15 := Aside0.mk hH15
            have HN15 := Aside0.mk (Kd.S_reads' HO_4.out).1
            clear hH15 ge15_0
            go_wp2_with (first | ((with_reducible refine gate_builtin (b := .append) (xs := #[.tmp 29, .tmp 31]) rfl ?_); at_builtin; refine Kd.R_append (Kd.int .i64) (w0 := w) w.heap.size rfl (.tmp 29) (.tmp 31) 22 3 (.int .i64 0) 8 rfl Tryd.underlying22 info3 rfl (by decide) (by omega) (.slice A245_0 (rd_L3 x4_1 (rd l0 x17_1)).length c245_0) (rd_L3 x4_1 (rd l0 x17_1)) x17_1 [.int .i64 x17_1] (fun k_ => oki15 k_ ∨ ((fun k_ => some k_ ≠ (u5 : Value).ownBlock)) k_ ∧ wr.heap.size ≤ k_) (fun _ => False) rfl rfl ?aP (fun _ hk => hk.elim) ?aF ?aO ?aB ?aS ?aL ?_; (case aP => exact rfl); (case aB => exact (BB)); (case aF => exact (fun k_ hk => .inr ⟨Kd.fresh' (Kd.R_lt (BR HO_5.out)) k_ hk, hk⟩)); (case aO => exact (by (with_reducible repeat (first | apply Kd.R_alloc | apply Kd.R_drewN | apply Kd.R_drew)); exact Kd.R_mono UU15.out (fun _ hk => .inl hk))); (case aS => exact (below_size (BB))); (case aL => have := LMc12.out; omega); intro v247 w16 ho hb hg hat; rw [← Ny246.out] at ho; have n0_ := Aside0.mk (Kd.R_grown2 (BR HO_5.out) rfl hg (fun k_ e_ => (HL245_0.out.1 k_ e_).1)); have n1_ := Aside0.mk (hb); have n2_ := Aside0.mk (Kd.H_grown (Kd.H_widen (by repeat (first | exact HH15.out | refine Kd.H_alloc ?_ _ | refine Kd.H_drewN ?_ _ | refine Kd.H_drew ?_))) hg (fun k_ e_ => .inl (UU15.out.1 k_ e_))); have n3_ := Aside0.mk (ho); clear HO_5; clear HB; clear HH15; clear HO_4; clear UU15; clear HL245_0; have HO_5 := n0_; have HB := n1_; have HH15 := n2_; have HO248 := n3_; clear n0_ n1_ n2_ n3_; clear ho hb hg hat; have p13 : 0 ≤ ((rd l0 x17_1) : Int) := OD; have q13 : ((rd l0 x17_1) : Int) < ((x4_1.length : Int) : Int) := OD; replace p13 := eq_true p13; replace q13 := eq_true q13; obtain ⟨Ao19, co19, eo19⟩ := Kd.R_slice HO248.out; subst eo19; obtain ⟨_, _, hraw17, _, _, hcc17, _⟩ := Kd.H_raw HH15.out (OD) (by have h_ : ((rd l0 x17_1) : Int) < ((x4_1.length : Int) : Int) := OD; first | exact h_ | (have e_ := (HN15.out); omega) | simpa using h_); obtain ⟨_, hfr17⟩ := Kd.H_at HH15.out (OD) (by have h_ : ((rd l0 x17_1) : Int) < ((x4_1.length : Int) : Int) := OD; first | exact h_ | (have e_ := (HN15.out); omega) | simpa using h_); have hx17_0 := hcc17 0 _ rfl; have hf17_0 := hfr17 0; (try simp only [Nat.add_zero] at hx17_0 hf17_0); (try rw [show ((Kd.slice 3 (Kd.int .i64))).sz = 1 from rfl, Nat.mul_one] at hx17_0); (try rw [show ((Kd.slice 3 (Kd.int .i64))).sz = 1 from rfl, Nat.mul_one] at hf17_0); have HP17 := Kd.S_seg0 HH15.out (OD) (by have h_ : ((rd l0 x17_1) : Int) < ((x4_1.length : Int) : Int) := OD; first | exact h_ | (have e_ := (HN15.out); omega) | simpa using h_) (seg := [.slice Ao19 y246.length co19]) (j := 0) (show 1 ≤ 1 from by decide) (x' := y246) (Kd.M_row HO248.out) (fun _ hk => hk); (try simp only [show ((Kd.slice 3 (Kd.int .i64))).sz = 1 from rfl, Nat.mul_one, Nat.add_zero] at HP17); clear hcc17 hfr17) | ((with_reducible refine gate_store (t := 22) (p := 33) rfl ?_); refine store_event (t := 22) (p := 33) (v := ?vo_w18) (w1 := (w16.setCell ⟨go15, ((rd l0 x17_1) : Int).toNat, none⟩ (.slice Ao19 y246.length co19))) ?hg ?ho ?hn ?hr ?_; (case ho => rfl); (case hg => rfl); (case hn => rfl); (case hr => first | (go_simp; done) | (go_simp; rfl)); intro w18 hw; have hg : w16.grownBy w18 (some go15) := (by rw [hw]; exact HP17.2); have hp_ : Kd.S (Kd.slice 3 (Kd.int .i64)) 22 w18 w.heap.size (fun k_ => some k_ ≠ (u5 : Value).ownBlock) (.slice (some ⟨go15, 0, none⟩) x4_1.length co14) y249 := (by rw [hw, Ny249.out]; exact HP17.1); clear HP17; have n0_ := Aside0.mk (Kd.R_over' (v := (.slice (some ⟨go15, 0, none⟩) x4_1.length co14)) (BR HO_5.out) (Kd.R_typed hraw17) (by decide) hg); have n1_ := Aside0.mk ((by rw [hw]; exact below_set HB.out GB15.out : Below w.heap.size w w18)); have n2_ := Aside0.mk (hp_); clear HO_5; clear HB; clear HO248; clear HH15; have HO_5 := n0_; have HB := n1_; have HO_4 := n2_; clear n0_ n1_ n2_; clear hg hw hp_ hraw17))
            go_roundg k1
            case measure => have := HK1.out; omega
            case rel => exact ⟨(y249), (x5_1), (wrap64 (x17_1 + 1)), (BE), H', ⟨by have := HK1.out; omega⟩, ⟨by (with_reducible repeat (first | apply Kd.S_alloc | apply Kd.S_drewN | apply Kd.S_drew)); exact HO_4.out⟩, ⟨BR HO_5.out⟩, ⟨BB⟩⟩
           ·
            rw [if_neg c12] at H
            exact absurd H (by simp)
          ·
           rw [if_neg c11] at H
           exact absurd H (by simp)
         ·
          rw [if_neg c10] at H
          exact absurd H (by simp)
        ·
         rw [if_neg c9] at H
         have c9b0 : decide (0 ≤ (rd l0 x17_1)) = false := decide_eq_false c9
         clear c9
         by_cases c20 : x5_1.length < 17592186044416
         ·
          rw [if_pos c20] at H
          have LMc20 := Aside0.mk c20
          clear c20
          obtain ⟨y250, hy250⟩ : ∃ y_ : List Int, y_ = (x5_1 ++ [x17_1]) := ⟨_, rfl⟩
          replace H : (depend_numbers.l0 k1 l0 x4_1 y250 l0 (l0.length : Int) (wrap64 (x17_1 + 1))) = some (r1, r2) := by first | (rw [hy250]; with_reducible exact H) | (have H2_ := (Option.bind_some _ _).symm.trans H; rw [hy250]; with_reducible exact H2_) | (have H2_ := (Option.bind_some _ _).symm.trans H; with_reducible exact H2_) | with_reducible exact H | (rw [hy250]; exact H) | exact H
          have Ny250 := Aside0.mk hy250
          clear hy250
          have H' := Aside0.mk H
          clear H
          have p244 : 0 ≤ (x17_1 : Int) := OD
          have q244 : x17_1 < (l0.length : Int) := OD
          obtain ⟨ad244, e244, hx244_0⟩ := Kd.at_int HR0.out x17_1 p244 q244
          cases e244
          replace hx244_0 := (HB.out.cell (World.block_lt_of_cell? w _ hx244_0)).trans hx244_0
          replace p244 := eq_true p244
          replace q244 := eq_true q244
          go_wp2_with (first | ((with_reducible refine gate_builtin (b := .append) (xs := #[.tmp 34, .tmp 36]) rfl ?_); at_builtin; refine Kd.R_append (Kd.int .i64) (w0 := w) w.heap.size rfl (.tmp 34) (.tmp 36) 22 3 (.int .i64 0) 8 rfl Tryd.underlying22 info3 rfl (by decide) (by omega) u5 x5_1 x17_1 [.int .i64 x17_1] (fun _ => True) (fun _ => False) rfl rfl ?aP (fun _ hk => hk.elim) ?aF ?aO ?aB ?aS ?aL ?_; (case aP => exact rfl); (case aB => exact (BB)); (case aF => exact (fun _ _ => trivial)); (case aO => exact (BR HO_5.out)); (case aS => exact (below_size (BB))); (case aL => have := LMc20.out; omega); intro v251 w21 ho hb hg hat; rw [← Ny250.out] at ho; have n0_ := Aside0.mk (Kd.S_after (ok := (fun _ => True)) (by (with_reducible repeat (first | apply Kd.S_alloc | apply Kd.S_drewN | apply Kd.S_drew)); exact Kd.S_mono HO_4.out (fun _ hk => ⟨trivial, hk⟩)) hg hat); have n1_ := Aside0.mk (hb); have n2_ := Aside0.mk (ho); clear HO_4; clear HB; clear HO_5; have HO_4 := n0_; have HB := n1_; have HO252 := n2_; clear n0_ n1_ n2_; clear ho hb hg hat))
          go_roundg k1
          case measure => have := HK1.out; omega
          case rel => exact ⟨(x4_1), (y250), (wrap64 (x17_1 + 1)), (BE), H', ⟨by have := HK1.out; omega⟩, ⟨by (with_reducible repeat (first | apply Kd.S_alloc | apply Kd.S_drewN | apply Kd.S_drew)); exact Kd.S_mono HO_4.out (fun _ hk => hk.2)⟩, ⟨BR HO252.out⟩, ⟨BB⟩⟩
         ·
          rw [if_neg c20] at H
          exact absurd H (by simp)
       ·
        rw [if_neg c8] at H
        exact absurd H (by simp)
      ·
       rw [if_neg c7] at H
       exact absurd H (by simp)
     ·
      rw [if_neg c6] at H
      have c6b0 : decide (x17_1 < (l0.length : Int)) = false := decide_eq_false c6
      clear c6
      by_cases c22 : 0 ≤ (l0.length : Int)
      ·
       rw [if_pos c22] at H
       have c22b0 := eq_true c22
       have c22b1 : decide (0 ≤ (l0.length : Int)) = true := decide_eq_true c22
       clear c22
       by_cases c23 : ((l0.length : Int) : Int).toNat ≤ 35184372088832
       ·
        rw [if_pos c23] at H
        have c23b0 := eq_true c23
        have c23b1 : decide (((l0.length : Int) : Int).toNat ≤ 35184372088832) = true := decide_eq_true c23
        clear c23
        obtain ⟨y253, hy253⟩ : ∃ y_ : List Int, y_ = (List.replicate ((l0.length : Int) : Int).toNat 0) := ⟨_, rfl⟩
        replace H : (depend_numbers.l1 k1 l0 y253 (List.replicate ((l0.length : Int) : Int).toNat 0) x4_1 x5_1 ([] : List Int)) = some (r1, r2) := by first | (rw [hy253]; with_reducible exact H) | (have H2_ := (Option.bind_some _ _).symm.trans H; rw [hy253]; with_reducible exact H2_) | (have H2_ := (Option.bind_some _ _).symm.trans H; with_reducible exact H2_) | with_reducible exact H | (rw [hy253]; exact H) | exact H
        have Ny253 := Aside0.mk hy253
        clear hy253
        obtain ⟨y256, hy256⟩ : ∃ y_ : List Int, y_ = (List.replicate ((l0.length : Int) : Int).toNat 0) := ⟨_, rfl⟩
        replace H : (depend_numbers.l1 k1 l0 y253 y256 x4_1 x5_1 ([] : List Int)) = some (r1, r2) := by first | (rw [hy256]; with_reducible exact H) | (have H2_ := (Option.bind_some _ _).symm.trans H; rw [hy256]; with_reducible exact H2_) | (have H2_ := (Option.bind_some _ _).symm.trans H; with_reducible exact H2_) | with_reducible exact H | (rw [hy256]; exact H) | exact H
        have Ny256 := Aside0.mk hy256
        clear hy256
        have H' := Aside0.mk H
        clear H
        try go_wp2
        have n0_ := Aside0.mk (Kd.S_drew HO_4.out)
        have n1_ := Aside0.mk (Kd.R_drew HO_5.out)
        have n2_ := Aside0.mk (below_drew1 HB.out)
        clear HO_4
        clear HO_5
        clear HB
        have HO_4 := n0_
        have HO_5 := n1_
        have HB := n2_
        clear n0_ n1_ n2_
        refine start_ (n := 8) (S := fun w' => True) (ds := []) #[false, false, false, false, false, false, false, false] (by kernel_rfl) rfl rfl trivial (fun hHeld => ?_); refine with_tabW depend_numbers.tab10 depend_numbers.bits10 (fun HT_ HW_ => ?_)
        generalize wr.drew = w24 at HO_4 HO_5 HB hHeld ⊢
        refine pure_ (i := 0) (N := some 39) (v := ?_) (a' := ?_) #[true, false, false, false, false, false, false, false] rfl rfl (any_of HT_.out (by kernel_rfl)) (fun _ _ _ h => h) (Or.inl ⟨by rfl, ?_⟩) ?_ ?_
        rotate_left
        ·
         intro w'
         go_simp
         with_reducible rfl
        rotate_left
        ·
         simp only [Act.put, List.setIfInBounds_toArray, List.set_cons_zero, List.set_cons_succ, i64_w, i32_w]
         rfl
        refine pure_ (i := 1) (N := some 40) (v := ?_) (a' := ?_) #[true, true, false, false, false, false, false, false] rfl rfl (any_of HT_.out (by kernel_rfl)) (fun _ _ _ h => h) (Or.inl ⟨by rfl, ?_⟩) ?_ ?_
        rotate_left
        ·
         intro w'
         go_simp
         with_reducible rfl
        rotate_left
        ·
         simp only [Act.put, List.setIfInBounds_toArray, List.set_cons_zero, List.set_cons_succ, i64_w, i32_w]
         rfl
        refine pure_ (i := 3) (N := some 42) (v := ?_) (a' := ?_) #[true, true, false, true, false, false, false, false] rfl rfl (any_of HT_.out (by kernel_rfl)) (fun _ _ _ h => h) (Or.inl ⟨by rfl, ?_⟩) ?_ ?_
        rotate_left
        ·
         intro w'
         go_simp
         with_reducible rfl
        rotate_left
        ·
         simp only [Act.put, List.setIfInBounds_toArray, List.set_cons_zero, List.set_cons_succ, i64_w, i32_w]
         rfl
        refine pure_ (i := 4) (N := some 43) (v := ?_) (a' := ?_) #[true, true, false, true, true, false, false, false] rfl rfl (any_of HT_.out (by kernel_rfl)) (fun _ _ _ h => h) (Or.inl ⟨by rfl, ?_⟩) ?_ ?_
        rotate_left
        ·
         intro w'
         go_simp
         with_reducible rfl
        rotate_left
        ·
         simp only [Act.put, List.setIfInBounds_toArray, List.set_cons_zero, List.set_cons_succ, i64_w, i32_w]
         rfl
        refine join_ (σ := Value × Value) 1 #[true, true, true, true, true, true, true, false] (fun s_ => [(41, s_.1), (44, s_.2), (2, s_.1)]) (fun s_ w' => (Kd.R (Kd.int .i64) 3 w' w.heap.size (fun k_ => some k_ ≠ (s_.2 : Value).ownBlock ∧ some k_ ≠ (u5 : Value).ownBlock) s_.1 y253) ∧ (Kd.R (Kd.int .i64) 3 w' w.heap.size (fun k_ => some k_ ≠ (s_.1 : Value).ownBlock ∧ some k_ ≠ (u5 : Value).ownBlock) s_.2 y256) ∧ (Kd.S (Kd.slice 3 (Kd.int .i64)) 22 w' w.heap.size (fun k_ => some k_ ≠ (s_.1 : Value).ownBlock ∧ some k_ ≠ (s_.2 : Value).ownBlock ∧ some k_ ≠ (u5 : Value).ownBlock) v242 x4_1) ∧ (Kd.R (Kd.int .i64) 3 w' w.heap.size (fun k_ => some k_ ≠ (s_.1 : Value).ownBlock ∧ some k_ ≠ (s_.2 : Value).ownBlock) u5 x5_1) ∧ (Below w.heap.size w w')) ?_ ?_
        rotate_left
        ·
         intro hCont
         refine two_ (i := 2) (j := 5) (Ni := some 41) (Nj := some 44) #[true, true, true, true, true, false, false, false] #[true, true, false, true, true, true, false, false] rfl rfl rfl rfl (two_of HT_.out (by kernel_rfl)) (by decide) (by decide) (fun K hK => ?_) (fun K hK => ?_)
         ·
          skip
          refine Kd.R_make_step (Kd.int .i64) _ 3 (by rfl) (N := 41) rfl 22 _ _ rfl (l0.length : Int) rfl rfl Tryd.underlying22 (.int .i64 0) 8 info3 rfl (by decide) (by omega) 0 (ok := fun _ => True) (okp := fun _ => True) rfl (fun _ hk => hk) trivial (OD) (Nat.le_trans (Nat.mul_le_mul_right _ (OD : (l0.length : Int).toNat ≤ 35184372088832)) (by omega)) (Below.refl _ _) (Nat.le_refl _) ?_
          intro v254 w25 ho26 hb hg_ hnew_
          clear hg_ hnew_
          (first | rw [← Ny253.out] at ho26 | (simp only [Int.reduceToNat] at ho26; rw [← Ny253.out] at ho26))
          have n0_ := Aside0.mk (Kd.S_elder' (by (with_reducible repeat (first | apply Kd.S_alloc | apply Kd.S_drewN | apply Kd.S_drew)); exact HO_4.out) (Kd.R_base ho26) hb)
          have n1_ := Aside0.mk (Kd.R_elder' (BR HO_5.out) (Kd.R_base ho26) hb)
          have n2_ := Aside0.mk (Kd.R_lower (Kd.R_new' ho26 (Kd.R_lt (BR HO_5.out))) (below_size (BB)))
          have n3_ := Aside0.mk (below_step (BB) hb)
          clear HO_4
          clear HO_5
          clear HB
          have HO_4 := n0_
          have HO_5 := n1_
          have HO255 := n2_
          have HB := n3_
          clear n0_ n1_ n2_ n3_
          clear hb ho26
          refine hK.out _ _ trivial (fun hHeld => ?_)
          clear hK K
          refine norm_ (a' := ?_) ?_ ?_
          rotate_left
          ·
           show Act.put _ (some 41) _ = _
           simp only [Act.put, List.setIfInBounds_toArray, List.set_cons_zero, List.set_cons_succ, i64_w, i32_w]
           rfl
          refine pure_ (i := 6) (N := some 2) (v := ?_) (a' := ?_) #[true, true, true, true, true, false, true, false] rfl rfl (any_of HT_.out (by kernel_rfl)) (fun _ _ _ h => h) (Or.inl ⟨by rfl, ?_⟩) ?_ ?_
          rotate_left
          ·
           intro w'
           go_simp
           with_reducible rfl
          rotate_left
          ·
           simp only [Act.put, List.setIfInBounds_toArray, List.set_cons_zero, List.set_cons_succ, i64_w, i32_w]
           rfl
          refine one_ (i := 5) (N := some 44) #[true, true, true, true, true, true, true, false] rfl rfl (one_of HT_.out (by kernel_rfl)) (by decide) (fun K hK => ?_)
          refine Kd.R_make_step (Kd.int .i64) _ 3 (by rfl) (N := 44) rfl 22 _ _ rfl (l0.length : Int) rfl rfl Tryd.underlying22 (.int .i64 0) 8 info3 rfl (by decide) (by omega) 0 (ok := fun _ => True) (okp := fun _ => True) rfl (fun _ hk => hk) trivial (OD) (Nat.le_trans (Nat.mul_le_mul_right _ (OD : (l0.length : Int).toNat ≤ 35184372088832)) (by omega)) (Below.refl _ _) (Nat.le_refl _) ?_
          intro v257 w27 ho28 hb hg_ hnew_
          clear hg_ hnew_
          (first | rw [← Ny256.out] at ho28 | (simp only [Int.reduceToNat] at ho28; rw [← Ny256.out] at ho28))
          have n0_ := Aside0.mk (Kd.S_elder' (by (with_reducible repeat (first | apply Kd.S_alloc | apply Kd.S_drewN | apply Kd.S_drew)); exact HO_4.out) (Kd.R_base ho28) hb)
          have n1_ := Aside0.mk (Kd.R_elder' (BR HO_5.out) (Kd.R_base ho28) hb)
          have n2_ := Aside0.mk (Kd.R_elder' (BR HO255.out) (Kd.R_base ho28) hb)
          have n3_ := Aside0.mk (Kd.R_lower (Kd.R_new' (Kd.R_new' ho28 (Kd.R_lt (BR HO_5.out))) (Kd.R_lt (BR HO255.out))) (below_size (BB)))
          have n4_ := Aside0.mk (below_step (BB) hb)
          clear HO_4
          clear HO_5
          clear HO255
          clear HB
          have HO_4 := n0_
          have HO_5 := n1_
          have HO255 := n2_
          have HO258 := n3_
          have HB := n4_
          clear n0_ n1_ n2_ n3_ n4_
          clear hb ho28
          refine hK.out _ _ trivial (fun hHeld => ?_)
          clear hK K
          refine norm_ (a' := ?_) ?_ ?_
          rotate_left
          ·
           show Act.put _ (some 44) _ = _
           simp only [Act.put, List.setIfInBounds_toArray, List.set_cons_zero, List.set_cons_succ, i64_w, i32_w]
           rfl
          exact norm_ (by simp only [putAll, Act.put, List.setIfInBounds_toArray, List.set_cons_zero, List.set_cons_succ]) (hCont (v254, v257) _ ⟨(by (with_reducible repeat (first | apply Kd.R_alloc | apply Kd.R_drewN | apply Kd.R_drew)); exact Kd.R_mono HO255.out (fun _ hk => ⟨hk.2, hk.1.2⟩)), (by (with_reducible repeat (first | apply Kd.R_alloc | apply Kd.R_drewN | apply Kd.R_drew)); exact Kd.R_mono HO258.out (fun _ hk => ⟨hk.2, hk.1.2⟩)), (by (with_reducible repeat (first | apply Kd.S_alloc | apply Kd.S_drewN | apply Kd.S_drew)); exact Kd.S_mono HO_4.out (fun _ hk => ⟨hk.1.2, ⟨hk.2, hk.1.1⟩⟩)), (by (with_reducible repeat (first | apply Kd.R_alloc | apply Kd.R_drewN | apply Kd.R_drew)); exact Kd.R_mono HO_5.out (fun _ hk => ⟨hk.1.2, hk.2⟩)), (BB)⟩)
         ·
          skip
          refine Kd.R_make_step (Kd.int .i64) _ 3 (by rfl) (N := 44) rfl 22 _ _ rfl (l0.length : Int) rfl rfl Tryd.underlying22 (.int .i64 0) 8 info3 rfl (by decide) (by omega) 0 (ok := fun _ => True) (okp := fun _ => True) rfl (fun _ hk => hk) trivial (OD) (Nat.le_trans (Nat.mul_le_mul_right _ (OD : (l0.length : Int).toNat ≤ 35184372088832)) (by omega)) (Below.refl _ _) (Nat.le_refl _) ?_
          intro v257 w25 ho26 hb hg_ hnew_
          clear hg_ hnew_
          (first | rw [← Ny256.out] at ho26 | (simp only [Int.reduceToNat] at ho26; rw [← Ny256.out] at ho26))
          have n0_ := Aside0.mk (Kd.S_elder' (by (with_reducible repeat (first | apply Kd.S_alloc | apply Kd.S_drewN | apply Kd.S_drew)); exact HO_4.out) (Kd.R_base ho26) hb)
          have n1_ := Aside0.mk (Kd.R_elder' (BR HO_5.out) (Kd.R_base ho26) hb)
          have n2_ := Aside0.mk (Kd.R_lower (Kd.R_new' ho26 (Kd.R_lt (BR HO_5.out))) (below_size (BB)))
          have n3_ := Aside0.mk (below_step (BB) hb)
          clear HO_4
          clear HO_5
          clear HB
          have HO_4 := n0_
          have HO_5 := n1_
          have HO258 := n2_
          have HB := n3_
          clear n0_ n1_ n2_ n3_
          clear hb ho26
          refine hK.out _ _ trivial (fun hHeld => ?_)
          clear hK K
          refine norm_ (a' := ?_) ?_ ?_
          rotate_left
          ·
           show Act.put _ (some 44) _ = _
           simp only [Act.put, List.setIfInBounds_toArray, List.set_cons_zero, List.set_cons_succ, i64_w, i32_w]
           rfl
          refine one_ (i := 2) (N := some 41) #[true, true, true, true, true, true, false, false] rfl rfl (one_of HT_.out (by kernel_rfl)) (by decide) (fun K hK => ?_)
          refine Kd.R_make_step (Kd.int .i64) _ 3 (by rfl) (N := 41) rfl 22 _ _ rfl (l0.length : Int) rfl rfl Tryd.underlying22 (.int .i64 0) 8 info3 rfl (by decide) (by omega) 0 (ok := fun _ => True) (okp := fun _ => True) rfl (fun _ hk => hk) trivial (OD) (Nat.le_trans (Nat.mul_le_mul_right _ (OD : (l0.length : Int).toNat ≤ 35184372088832)) (by omega)) (Below.refl _ _) (Nat.le_refl _) ?_
          intro v254 w27 ho28 hb hg_ hnew_
          clear hg_ hnew_
          (first | rw [← Ny253.out] at ho28 | (simp only [Int.reduceToNat] at ho28; rw [← Ny253.out] at ho28))
          have n0_ := Aside0.mk (Kd.S_elder' (by (with_reducible repeat (first | apply Kd.S_alloc | apply Kd.S_drewN | apply Kd.S_drew)); exact HO_4.out) (Kd.R_base ho28) hb)
          have n1_ := Aside0.mk (Kd.R_elder' (BR HO_5.out) (Kd.R_base ho28) hb)
          have n2_ := Aside0.mk (Kd.R_elder' (BR HO258.out) (Kd.R_base ho28) hb)
          have n3_ := Aside0.mk (Kd.R_lower (Kd.R_new' (Kd.R_new' ho28 (Kd.R_lt (BR HO_5.out))) (Kd.R_lt (BR HO258.out))) (below_size (BB)))
          have n4_ := Aside0.mk (below_step (BB) hb)
          clear HO_4
          clear HO_5
          clear HO258
          clear HB
          have HO_4 := n0_
          have HO_5 := n1_
          have HO258 := n2_
          have HO255 := n3_
          have HB := n4_
          clear n0_ n1_ n2_ n3_ n4_
          clear hb ho28
          refine hK.out _ _ trivial (fun hHeld => ?_)
          clear hK K
          refine norm_ (a' := ?_) ?_ ?_
          rotate_left
          ·
           show Act.put _ (some 41) _ = _
           simp only [Act.put, List.setIfInBounds_toArray, List.set_cons_zero, List.set_cons_succ, i64_w, i32_w]
           rfl
          refine pure_ (i := 6) (N := some 2) (v := ?_) (a' := ?_) #[true, true, true, true, true, true, true, false] rfl rfl (any_of HT_.out (by kernel_rfl)) (fun _ _ _ h => h) (Or.inl ⟨by rfl, ?_⟩) ?_ ?_
          rotate_left
          ·
           intro w'
           go_simp
           with_reducible rfl
          rotate_left
          ·
           simp only [Act.put, List.setIfInBounds_toArray, List.set_cons_zero, List.set_cons_succ, i64_w, i32_w]
           rfl
          exact norm_ (by simp only [putAll, Act.put, List.setIfInBounds_toArray, List.set_cons_zero, List.set_cons_succ]) (hCont (v254, v257) _ ⟨(by (with_reducible repeat (first | apply Kd.R_alloc | apply Kd.R_drewN | apply Kd.R_drew)); exact Kd.R_mono HO255.out (fun _ hk => ⟨hk.2, hk.1.2⟩)), (by (with_reducible repeat (first | apply Kd.R_alloc | apply Kd.R_drewN | apply Kd.R_drew)); exact Kd.R_mono HO258.out (fun _ hk => ⟨hk.2, hk.1.2⟩)), (by (with_reducible repeat (first | apply Kd.S_alloc | apply Kd.S_drewN | apply Kd.S_drew)); exact Kd.S_mono HO_4.out (fun _ hk => ⟨hk.2, ⟨hk.1.2, hk.1.1⟩⟩)), (by (with_reducible repeat (first | apply Kd.R_alloc | apply Kd.R_drewN | apply Kd.R_drew)); exact Kd.R_mono HO_5.out (fun _ hk => ⟨hk.2, hk.1.2⟩)), (BB)⟩)
        rintro ⟨v254, v257⟩ w29 ⟨h0_, h1_, h2_, h3_, h4_⟩
        have n0_ : Aside0 (Kd.R (Kd.int .i64) 3 w29 w.heap.size (fun k_ => some k_ ≠ (v257 : Value).ownBlock ∧ some k_ ≠ (u5 : Value).ownBlock) v254 y253) := ⟨h0_⟩
        have n1_ : Aside0 (Kd.R (Kd.int .i64) 3 w29 w.heap.size (fun k_ => some k_ ≠ (v254 : Value).ownBlock ∧ some k_ ≠ (u5 : Value).ownBlock) v257 y256) := ⟨h1_⟩
        have n2_ : Aside0 (Kd.S (Kd.slice 3 (Kd.int .i64)) 22 w29 w.heap.size (fun k_ => some k_ ≠ (v254 : Value).ownBlock ∧ some k_ ≠ (v257 : Value).ownBlock ∧ some k_ ≠ (u5 : Value).ownBlock) v242 x4_1) := ⟨h2_⟩
        have n3_ : Aside0 (Kd.R (Kd.int .i64) 3 w29 w.heap.size (fun k_ => some k_ ≠ (v254 : Value).ownBlock ∧ some k_ ≠ (v257 : Value).ownBlock) u5 x5_1) := ⟨h3_⟩
        have n4_ : Aside0 (Below w.heap.size w w29) := ⟨h4_⟩
        clear HO_4
        clear HO_5
        clear HB
        clear h0_ h1_ h2_ h3_ h4_
        have HO255 := n0_
        have HO258 := n1_
        have HO_4 := n2_
        have HO_5 := n3_
        have HB := n4_
        clear n0_ n1_ n2_ n3_ n4_
        have hHeld := trivial
        refine norm_ (a' := ?_) ?_ ?_
        rotate_left
        ·
         simp only [putAll, Act.put, List.setIfInBounds_toArray, List.set_cons_zero, List.set_cons_succ]
         rfl
        refine pure_ (i := 7) (N := some 3) (v := ?_) (a' := ?_) #[true, true, true, true, true, true, true, true] rfl rfl (any_of HT_.out (by kernel_rfl)) (fun _ _ _ h => h) (Or.inl ⟨by rfl, ?_⟩) ?_ ?_
        rotate_left
        ·
         intro w'
         go_simp
         with_reducible rfl
        rotate_left
        ·
         simp only [Act.put, List.setIfInBounds_toArray, List.set_cons_zero, List.set_cons_succ, i64_w, i32_w]
         rfl
        refine done_ (done_of HT_.out (by kernel_rfl)) ?_
        try go_wp2
        go_loopg [5, 8] k1 (fun kq v5 v8 w' => ∃ (x2_2 : List Int) (x3_2 : List Int) (x5_2 : List Int) (x8_2 : List Int), Aside0 (depend_numbers.l1 kq l0 x2_2 x3_2 x4_1 x5_2 x8_2 = some (r1, r2)) ∧ Aside0 (kq ≤ k1) ∧ Aside0 (Kd.R (Kd.int .i64) 3 w' w.heap.size (fun k_ => some k_ ≠ (v257 : Value).ownBlock ∧ some k_ ≠ (v5 : Value).ownBlock ∧ some k_ ≠ (v8 : Value).ownBlock) v254 x2_2) ∧ Aside0 (Kd.R (Kd.int .i64) 3 w' w.heap.size (fun k_ => some k_ ≠ (v254 : Value).ownBlock ∧ some k_ ≠ (v5 : Value).ownBlock ∧ some k_ ≠ (v8 : Value).ownBlock) v257 x3_2) ∧ Aside0 (Kd.S (Kd.slice 3 (Kd.int .i64)) 22 w' w.heap.size (fun k_ => some k_ ≠ (v254 : Value).ownBlock ∧ some k_ ≠ (v257 : Value).ownBlock ∧ some k_ ≠ (v5 : Value).ownBlock ∧ some k_ ≠ (v8 : Value).ownBlock) v242 x4_1) ∧ Aside0 (Kd.R (Kd.int .i64) 3 w' w.heap.size (fun k_ => some k_ ≠ (v254 : Value).ownBlock ∧ some k_ ≠ (v257 : Value).ownBlock ∧ some k_ ≠ (v8 : Value).ownBlock) v5 x5_2) ∧ Aside0 (Kd.R (Kd.int .i64) 3 w' w.heap.size (fun k_ => some k_ ≠ (v254 : Value).ownBlock ∧ some k_ ≠ (v257 : Value).ownBlock ∧ some k_ ≠ (v5 : Value).ownBlock) v8 x8_2) ∧ Aside0 (Below w.heap.size w w'))
        case atStart => exact ⟨(y253), (y256), (x5_1), (([] : List Int)), H', ⟨Nat.le_refl _⟩, ⟨by (with_reducible repeat (first | apply Kd.R_alloc | apply Kd.R_drewN | apply Kd.R_drew)); exact Kd.R_mono HO255.out (fun _ hk => ⟨hk.1, ⟨hk.2, (by simp [Value.ownBlock])⟩⟩)⟩, ⟨by (with_reducible repeat (first | apply Kd.R_alloc | apply Kd.R_drewN | apply Kd.R_drew)); exact Kd.R_mono HO258.out (fun _ hk => ⟨hk.1, ⟨hk.2, (by simp [Value.ownBlock])⟩⟩)⟩, ⟨by (with_reducible repeat (first | apply Kd.S_alloc | apply Kd.S_drewN | apply Kd.S_drew)); exact Kd.S_mono HO_4.out (fun _ hk => ⟨hk.1, ⟨hk.2.1, ⟨hk.2.2, (by simp [Value.ownBlock])⟩⟩⟩)⟩, ⟨by (with_reducible repeat (first | apply Kd.R_alloc | apply Kd.R_drewN | apply Kd.R_drew)); exact Kd.R_mono HO_5.out (fun _ hk => ⟨hk.1, ⟨hk.2, (by simp [Value.ownBlock])⟩⟩)⟩, ⟨by first | exact Kd.R_nil _ _ _ _ _ | exact Kd.N_nil _ _ _ _ _ | exact Kd.V_nil _ _ _ _ _ | exact Kd.Q_nil _ _ _ _ _ | exact Kd.S_nil _ _ _ _ _⟩, ⟨BB⟩⟩
        case round =>
         clear H'
         (try clear c1); (try clear p1); (try clear q1); (try clear hx1); (try clear hf1); (try clear c2); (try clear c2b0); (try clear c2b1); (try clear p2); (try clear q2); (try clear hx2); (try clear c3); (try clear c3b0)
         (try clear c3b1); (try clear c6); (try clear c6b0); (try clear p6); (try clear c7); (try clear c7b0); (try clear c8); (try clear c8b0); (try clear c9); (try clear c9b0); (try clear c10); (try clear c10b0)
         (try clear c11); (try clear c11b0); (try clear c12); (try clear p13); (try clear q13); (try clear c15); (try clear c17); (try clear hx17); (try clear hf17); (try clear c20); (try clear c22); (try clear c22b0)
         (try clear c22b1); (try clear c23); (try clear c23b0); (try clear c23b1); (try clear c24); (try clear p24); (try clear q24); (try clear hx24); (try clear hx17_0); (try clear hx244_0); (try clear hx245_0)
         (try clear p13); (try clear p2); (try clear p244); (try clear p245); (try clear q13); (try clear q244); (try clear q245)
         obtain ⟨x2_2, x3_2, x5_2, x8_2, HA, HK2, HO_2, HO_3, HO_4, HO_5, HO_8, HB⟩ := hrel
         cases gk with
         | zero => exact absurd HA.out (by simp [depend_numbers.l1])
         | succ k2 =>
          have H := HA.out
          clear HA
          simp only [depend_numbers.l1] at H
          by_cases c30 : (x5_2.length : Int) > 0
          ·
           rw [if_pos c30] at H
           have c30b0 : decide (0 < (x5_2.length : Int)) = true := decide_eq_true c30
           have c30b1 : decide (0 < x5_2.length) = true := decide_eq_true (by omega)
           clear c30
           obtain ⟨ji31, hji31⟩ : ∃ j_ : Int, (wrap64 ((x5_2.length : Int) - 1)) = j_ := ⟨_, rfl⟩
           replace H : (if 0 ≤ (ji31) then (if (ji31) < (x5_2.length : Int) then (if (ji31) ≤ (x5_2.length : Int) then ((some (x5_2.take ((ji31) : Int).toNat : List Int)).bind fun y260 => (if 0 ≤ (rd x5_2 (ji31)) then (if (rd x5_2 (ji31)) < (x4_1.length : Int) then (if y260.length + (rd_L3 x4_1 (rd x5_2 (ji31))).length < 17592186044416 then (if (rd x5_2 (ji31)) < (x2_2.length : Int) then (if (rd x5_2 (ji31)) < (x3_2.length : Int) then (if x8_2.length < 17592186044416 then (depend_numbers.l1 k2 l0 (x2_2.set ((rd x5_2 (ji31)) : Int).toNat (x8_2.length : Int)) (x3_2.set ((rd x5_2 (ji31)) : Int).toNat (x8_2.length : Int)) x4_1 (y260 ++ (rd_L3 x4_1 (rd x5_2 (ji31)))) (x8_2 ++ [rd x5_2 (ji31)])) else (none)) else (none)) else (none)) else (none)) else (none)) else (none))) else (none)) else (none)) else (none)) = some (r1, r2) := by first | (rw [hji31] at H; exact H) | (simp only [hji31] at H ⊢; exact H)
           have hji31w : (IntKind.i64.wrap ((x5_2.length : Int) - 1)) = ji31 := (i64_w _).trans hji31
           by_cases c32 : 0 ≤ (ji31)
           ·
            rw [if_pos c32] at H
            have c32b0 : decide (0 ≤ (ji31)) = true := decide_eq_true c32
            clear c32
            by_cases c33 : (ji31) < (x5_2.length : Int)
            ·
             rw [if_pos c33] at H
             have c33b0 : decide ((ji31) < (x5_2.length : Int)) = true := decide_eq_true c33
             clear c33
             by_cases c34 : (ji31) ≤ (x5_2.length : Int)
             ·
              rw [if_pos c34] at H
              have c34b0 := eq_true c34
              have c34b1 : decide ((ji31) ≤ (x5_2.length : Int)) = true := decide_eq_true c34
              clear c34
              obtain ⟨y260, hy260⟩ : ∃ y_ : List Int, y_ = (x5_2.take ((ji31) : Int).toNat) := ⟨_, rfl⟩
              replace H : (if 0 ≤ (rd x5_2 (ji31)) then (if (rd x5_2 (ji31)) < (x4_1.length : Int) then (if y260.length + (rd_L3 x4_1 (rd x5_2 (ji31))).length < 17592186044416 then (if (rd x5_2 (ji31)) < (x2_2.length : Int) then (if (rd x5_2 (ji31)) < (x3_2.length : Int) then (if x8_2.length < 17592186044416 then (depend_numbers.l1 k2 l0 (x2_2.set ((rd x5_2 (ji31)) : Int).toNat (x8_2.length : Int)) (x3_2.set ((rd x5_2 (ji31)) : Int).toNat (x8_2.length : Int)) x4_1 (y260 ++ (rd_L3 x4_1 (rd x5_2 (ji31)))) (x8_2 ++ [rd x5_2 (ji31)])) else (none)) else (none)) else (none)) else (none)) else (none)) else (none)) = some (r1, r2) := by first | (rw [hy260]; with_reducible exact H) | (have H2_ := (Option.bind_some _ _).symm.trans H; rw [hy260]; with_reducible exact H2_) | (have H2_ := (Option.bind_some _ _).symm.trans H; with_reducible exact H2_) | with_reducible exact H | (rw [hy260]; exact H) | exact H
              have Ny260 := Aside0.mk hy260
              clear hy260
              by_cases c35 : 0 ≤ (rd x5_2 (ji31))
              ·
               rw [if_pos c35] at H
               have c35b0 : decide (0 ≤ (rd x5_2 (ji31))) = true := decide_eq_true c35
               clear c35
               by_cases c36 : (rd x5_2 (ji31)) < (x4_1.length : Int)
               ·
                rw [if_pos c36] at H
                have c36b0 : decide ((rd x5_2 (ji31)) < (x4_1.length : Int)) = true := decide_eq_true c36
                clear c36
                by_cases c37 : y260.length + (rd_L3 x4_1 (rd x5_2 (ji31))).length < 17592186044416
                ·
                 rw [if_pos c37] at H
                 have LMc37 := Aside0.mk c37
                 clear c37
                 obtain ⟨y264, hy264⟩ : ∃ y_ : List Int, y_ = (y260 ++ (rd_L3 x4_1 (rd x5_2 (ji31)))) := ⟨_, rfl⟩
                 replace H : (if (rd x5_2 (ji31)) < (x2_2.length : Int) then (if (rd x5_2 (ji31)) < (x3_2.length : Int) then (if x8_2.length < 17592186044416 then (depend_numbers.l1 k2 l0 (x2_2.set ((rd x5_2 (ji31)) : Int).toNat (x8_2.length : Int)) (x3_2.set ((rd x5_2 (ji31)) : Int).toNat (x8_2.length : Int)) x4_1 y264 (x8_2 ++ [rd x5_2 (ji31)])) else (none)) else (none)) else (none)) = some (r1, r2) := by first | (rw [hy264]; with_reducible exact H) | (have H2_ := (Option.bind_some _ _).symm.trans H; rw [hy264]; with_reducible exact H2_) | (have H2_ := (Option.bind_some _ _).symm.trans H; with_reducible exact H2_) | with_reducible exact H | (rw [hy264]; exact H) | exact H
                 have Ny264 := Aside0.mk hy264
                 clear hy264
                 by_cases c38 : (rd x5_2 (ji31)) < (x2_2.length : Int)
                 ·
                  rw [if_pos c38] at H
                  have c38b0 : decide ((rd x5_2 (ji31)) < (x2_2.length : Int)) = true := decide_eq_true c38
                  clear c38
                  obtain ⟨y267, hy267⟩ : ∃ y_ : List Int, y_ = (x2_2.set ((rd x5_2 (ji31)) : Int).toNat (x8_2.length : Int)) := ⟨_, rfl⟩
                  replace H : (if (rd x5_2 (ji31)) < (x3_2.length : Int) then (if x8_2.length < 17592186044416 then (depend_numbers.l1 k2 l0 y267 (x3_2.set ((rd x5_2 (ji31)) : Int).toNat (x8_2.length : Int)) x4_1 y264 (x8_2 ++ [rd x5_2 (ji31)])) else (none)) else (none)) = some (r1, r2) := by first | (rw [hy267]; with_reducible exact H) | (have H2_ := (Option.bind_some _ _).symm.trans H; rw [hy267]; with_reducible exact H2_) | (have H2_ := (Option.bind_some _ _).symm.trans H; with_reducible exact H2_) | with_reducible exact H | (rw [hy267]; exact H) | exact H
                  have Ny267 := Aside0.mk hy267
                  clear hy267
                  by_cases c40 : (rd x5_2 (ji31)) < (x3_2.length : Int)
                  ·
                   rw [if_pos c40] at H
                   have c40b0 : decide ((rd x5_2 (ji31)) < (x3_2.length : Int)) = true := decide_eq_true c40
                   clear c40
                   obtain ⟨y268, hy268⟩ : ∃ y_ : List Int, y_ = (x3_2.set ((rd x5_2 (ji31)) : Int).toNat (x8_2.length : Int)) := ⟨_, rfl⟩
                   replace H : (if x8_2.length < 17592186044416 then (depend_numbers.l1 k2 l0 y267 y268 x4_1 y264 (x8_2 ++ [rd x5_2 (ji31)])) else (none)) = some (r1, r2) := by first | (rw [hy268]; with_reducible exact H) | (have H2_ := (Option.bind_some _ _).symm.trans H; rw [hy268]; with_reducible exact H2_) | (have H2_ := (Option.bind_some _ _).symm.trans H; with_reducible exact H2_) | with_reducible exact H | (rw [hy268]; exact H) | exact H
                   have Ny268 := Aside0.mk hy268
                   clear hy268
                   by_cases c42 : x8_2.length < 17592186044416
                   ·
                    rw [if_pos c42] at H
                    have LMc42 := Aside0.mk c42
                    clear c42
                    obtain ⟨y269, hy269⟩ : ∃ y_ : List Int, y_ = (x8_2 ++ [rd x5_2 (ji31)]) := ⟨_, rfl⟩
                    replace H : (depend_numbers.l1 k2 l0 y267 y268 x4_1 y264 y269) = some (r1, r2) := by first | (rw [hy269]; with_reducible exact H) | (have H2_ := (Option.bind_some _ _).symm.trans H; rw [hy269]; with_reducible exact H2_) | (have H2_ := (Option.bind_some _ _).symm.trans H; with_reducible exact H2_) | with_reducible exact H | (rw [hy269]; exact H) | exact H
                    have Ny269 := Aside0.mk hy269
                    clear hy269
                    have H' := Aside0.mk H
                    clear H
                    obtain ⟨Ao43, co43, eo43⟩ := Kd.R_slice HO_5.out
                    subst eo43
                    have p259 : 0 ≤ ((ji31) : Int) := OD
                    have q259 : (ji31) < (x5_2.length : Int) := OD
                    obtain ⟨ad259, e259, hx259_0⟩ := Kd.at_int (Kd.R_reads' HO_5.out).2.2 (ji31) p259 q259
                    cases e259
                    replace p259 := eq_true p259
                    replace q259 := eq_true q259
                    try go_wp2
                    have n0_ := Aside0.mk (Kd.R_drew HO_2.out)
                    have n1_ := Aside0.mk (Kd.R_drew HO_3.out)
                    have n2_ := Aside0.mk (Kd.S_drew HO_4.out)
                    have n3_ := Aside0.mk (Kd.R_drew HO_5.out)
                    have n4_ := Aside0.mk (Kd.R_drew HO_8.out)
                    have n5_ := Aside0.mk (below_drew1 HB.out)
                    clear HO_2
                    clear HO_3
                    clear HO_4
                    clear HO_5
                    clear HO_8
                    clear HB
                    have HO_2 := n0_
                    have HO_3 := n1_
                    have HO_4 := n2_
                    have HO_5 := n3_
                    have HO_8 := n4_
                    have HB := n5_
                    clear n0_ n1_ n2_ n3_ n4_ n5_
                    have q45 : ((ji31) : Int) ≤ ((x5_2.length : Int) : Int) := OD
                    obtain ⟨i045, hi045, _, hsz45, _⟩ := info_parts info3
                    have hcut45 := cut_to (P := Tryd.prog) 22 3 .i64 Tryd.underlying22 hi045 (some ad259) x5_2.length co43 (ji31) (OD) q45 (Kd.R_reads' HO_5.out).2.1
                    have hr45 := Kd.R_take (m := ((ji31) : Int).toNat) HO_5.out (by omega)
                    have hy45 : y260.length = ((ji31) : Int).toNat := (by rw [Ny260.out, List.length_take]; omega)
                    rw [← Ny260.out] at hr45
                    rw [← hy45] at hr45 hcut45
                    clear hy45 hi045 hsz45 HO_5
                    have HO262 := Aside0.mk hr45
                    clear hr45
                    replace q45 := eq_true q45
                    obtain ⟨Ao46, co46, eo46⟩ := Kd.S_slice HO_4.out
                    (first | subst eo46 | (injection eo46 with f1_ f2_ f3_; have f4_ := f1_.symm; have f5_ := f3_.symm; clear f1_ f2_ f3_; subst f4_; subst f5_))
                    have p263 : 0 ≤ ((rd x5_2 (ji31)) : Int) := OD
                    have q263 : (rd x5_2 (ji31)) < (x4_1.length : Int) := OD
                    obtain ⟨ad263, A263_0, c263_0, e263, hx263_0, hl263_0, hi263_0⟩ := at_L3 (Kd.S_reads' HO_4.out).2.2 (rd x5_2 (ji31)) p263 q263
                    cases e263
                    obtain ⟨ce263, hce263, hMe263, hcc263⟩ := Kd.S_get HO_4.out [] (rd x5_2 (ji31)) p263 (by first | exact q263 | exact OD | (have e_ := (Kd.S_reads' HO_4.out).1; omega))
                    obtain ⟨ve263_0, rfl, ge263_0⟩ := hMe263
                    have hv263_0 := hcc263 0 _ rfl
                    rw [Nat.add_zero, show ((Kd.slice 3 (Kd.int .i64))).sz = 1 from rfl, Nat.mul_one] at hv263_0
                    replace hv263_0 := Option.some.inj (hv263_0.symm.trans hx263_0)
                    rw [hv263_0] at ge263_0
                    have HL263_0 := Aside0.mk (show Kd.R (Kd.int .i64) 3 _ _ _ _ (rd_L3 x4_1 (rd x5_2 (ji31))) from ge263_0)
                    clear hv263_0 ge263_0
                    have HX263_0 := Aside0.mk hx263_0
                    clear hcc263 hce263
                    have HR263_0 := Aside0.mk hi263_0
                    have HC263_0 := Aside0.mk hl263_0
                    clear hi263_0 hl263_0
                    replace p263 := eq_true p263
                    replace q263 := eq_true q263
                    refine start_ (n := 11) (S := fun w' => w'.cell? (ad263.add ((rd x5_2 (ji31))).toNat) = some (.slice A263_0 (rd_L3 x4_1 (rd x5_2 (ji31))).length c263_0)) (ds := [9]) #[false, false, false, false, false, false, false, false, false, false, false] (by kernel_rfl) rfl rfl (hx263_0) (fun hHeld => ?_); refine with_tabW depend_numbers.tab14 depend_numbers.bits14 (fun HT_ HW_ => ?_)
                    generalize wr.drew = w44 at HO_2 HO_3 HO_4 HO_5 HO_8 HB HL263_0 HO262 HR263_0 HX263_0 hx263_0 hHeld ⊢
                    refine pure_ (i := 0) (N := some 54) (v := ?_) (a' := ?_) #[true, false, false, false, false, false, false, false, false, false, false] rfl rfl (any_of HT_.out (by kernel_rfl)) (fun _ _ _ h => h) (Or.inl ⟨by rfl, ?_⟩) ?_ ?_
                    rotate_left
                    ·
                     intro w'
                     go_simp
                     with_reducible rfl
                    rotate_left
                    ·
                     simp only [Act.put, List.setIfInBounds_toArray, List.set_cons_zero, List.set_cons_succ, i64_w, i32_w]
                     rfl
                    refine pure_ (i := 1) (N := some 55) (v := ?_) (a' := ?_) #[true, true, false, false, false, false, false, false, false, false, false] rfl rfl (any_of HT_.out (by kernel_rfl)) (fun _ _ _ h => h) (Or.inl ⟨by rfl, ?_⟩) ?_ ?_
                    rotate_left
                    ·
                     intro w'
                     go_simp
                     with_reducible rfl
                    rotate_left
                    ·
                     simp only [Act.put, List.setIfInBounds_toArray, List.set_cons_zero, List.set_cons_succ, i64_w, i32_w]
                     rfl
                    refine pure_ (i := 2) (N := some 56) (v := ?_) (a' := ?_) #[true, true, true, false, false, false, false, false, false, false, false] rfl rfl (any_of HT_.out (by kernel_rfl)) (fun _ _ _ h => h) (Or.inl ⟨by rfl, ?_⟩) ?_ ?_
                    rotate_left
                    ·
                     intro w'
                     go_simp
                     with_reducible rfl
                    rotate_left
                    ·
                     simp only [Act.put, List.setIfInBounds_toArray, List.set_cons_zero, List.set_cons_succ, i64_w, i32_w]
                     rfl
                    refine pure_ (i := 3) (N := some 57) (v := ?_) (a' := ?_) #[true, true, true, true, false, false, false, false, false, false, false] rfl rfl (any_of HT_.out (by kernel_rfl)) (fun _ _ _ h => h) (Or.inl ⟨by rfl, ?_⟩) ?_ ?_
                    rotate_left
                    ·
                     intro w'
                     go_simp
                     with_reducible rfl
                    rotate_left
                    ·
                     simp only [Act.put, List.setIfInBounds_toArray, List.set_cons_zero, List.set_cons_succ, i64_w, i32_w]
                     rfl
                    refine pure_ (i := 4) (N := some 58) (v := ?_) (a' := ?_) #[true, true, true, true, true, false, false, false, false, false, false] rfl rfl (any_of HT_.out (by kernel_rfl)) (fun _ _ _ h => h) (Or.inl ⟨by rfl, ?_⟩) ?_ ?_
                    rotate_left
                    ·
                     intro w'
                     go_simp
                     with_reducible rfl
                    rotate_left
                    ·
                     simp only [Act.put, List.setIfInBounds_toArray, List.set_cons_zero, List.set_cons_succ, i64_w, i32_w]
                     rfl
                    refine pure_ (i := 5) (N := some 59) (v := ?_) (a' := ?_) #[true, true, true, true, true, true, false, false, false, false, false] rfl rfl (any_of HT_.out (by kernel_rfl)) (fun _ _ _ h => h) (Or.inl ⟨by rfl, ?_⟩) ?_ ?_
                    rotate_left
                    ·
                     intro w'
                     go_simp
                     with_reducible rfl
                    rotate_left
                    ·
                     simp only [Act.put, List.setIfInBounds_toArray, List.set_cons_zero, List.set_cons_succ, i64_w, i32_w]
                     rfl
                    refine pure_ (i := 6) (N := some 60) (v := ?_) (a' := ?_) #[true, true, true, true, true, true, true, false, false, false, false] rfl rfl (any_of HT_.out (by kernel_rfl)) (fun _ _ _ h => h) (Or.inl ⟨by rfl, ?_⟩) ?_ ?_
                    rotate_left
                    ·
                     intro w'
                     go_simp
                     with_reducible rfl
                    rotate_left
                    ·
                     simp only [Act.put, List.setIfInBounds_toArray, List.set_cons_zero, List.set_cons_succ, i64_w, i32_w]
                     rfl
                    refine pure_ (i := 7) (N := some 61) (v := ?_) (a' := ?_) #[true, true, true, true, true, true, true, true, false, false, false] rfl rfl (any_of HT_.out (by kernel_rfl)) (fun _ _ _ h => h) (Or.inl ⟨by rfl, ?_⟩) ?_ ?_
                    rotate_left
                    ·
                     intro w'
                     go_simp
                     with_reducible rfl
                    rotate_left
                    ·
                     simp only [Act.put, List.setIfInBounds_toArray, List.set_cons_zero, List.set_cons_succ, i64_w, i32_w]
                     rfl
                    refine take_ (i := 8) (N := some 62) (v := ?_) (a' := ?_) #[true, true, true, true, true, true, true, true, true, false, false] rfl rfl (take_ofW HT_.out HW_.out (by kernel_rfl)) (fun _ _ _ h => h) (Or.inl ⟨by rfl, ?_⟩) hHeld ?_ ?_
                    rotate_left
                    ·
                     intro w' s0
                     go_simp
                     with_reducible rfl
                    rotate_left
                    ·
                     simp only [Act.put, List.setIfInBounds_toArray, List.set_cons_zero, List.set_cons_succ, i64_w, i32_w]
                     rfl
                    refine last_ (i := 9) (N := some 63) #[true, true, true, true, true, true, true, true, true, true, false] rfl rfl (one_of HT_.out (by kernel_rfl)) (by decide) (fun K hK => ?_)
                    refine Kd.R_append_rows_step (Kd.int .i64) (w0 := w) w.heap.size (by rfl) (.tmp 58) (.tmp 62) 22 3 (.int .i64 0) 8 rfl Tryd.underlying22 info3 rfl (by decide) (by omega) (.slice (some ad259) y260.length co43) y260 (rd_L3 x4_1 (rd x5_2 (ji31))) _ _ _ (fun k_ => some k_ ≠ (v254 : Value).ownBlock ∧ some k_ ≠ (v257 : Value).ownBlock ∧ some k_ ≠ (u8 : Value).ownBlock) (fun _ => False) rfl rfl ?aO ?aR (fun _ _ h => h) (fun _ h => h.elim) ?aF ?aB ?aS ?aL ?_
                    (case aR => repeat (first | exact (by repeat (first | (with_reducible exact HR263_0.out) | (with_reducible refine Kd.C_alloc ?_ _) | (with_reducible refine Kd.C_drewN ?_ _) | (with_reducible refine Kd.C_drew ?_) | exact HR263_0.out)) | (with_reducible refine Kd.C_alloc ?_ _) | (with_reducible refine Kd.C_drewN ?_ _) | (with_reducible refine Kd.C_drew ?_)))
                    (case aB => exact (BB))
                    (case aF => exact (fun k_ hk => ⟨Kd.fresh' (Kd.R_lt (BR HO_2.out)) k_ hk, Kd.fresh' (Kd.R_lt (BR HO_3.out)) k_ hk, Kd.fresh' (Kd.R_lt (BR HO_8.out)) k_ hk⟩))
                    (case aO => exact (BR HO262.out))
                    (case aS => exact (below_size (BB)))
                    (case aL => have := LMc37.out; omega)
                    intro v265 w47 ho hb hg hat
                    rw [← Ny264.out] at ho
                    have n0_ := Aside0.mk (Kd.R_after (ok := (fun k_ => some k_ ≠ (v257 : Value).ownBlock ∧ some k_ ≠ (u8 : Value).ownBlock)) (by (with_reducible repeat (first | apply Kd.R_alloc | apply Kd.R_drewN | apply Kd.R_drew)); exact Kd.R_mono HO_2.out (fun _ hk => ⟨⟨hk.1, hk.2.2⟩, hk.2.1⟩)) hg hat)
                    have n1_ := Aside0.mk (Kd.R_after (ok := (fun k_ => some k_ ≠ (v254 : Value).ownBlock ∧ some k_ ≠ (u8 : Value).ownBlock)) (by (with_reducible repeat (first | apply Kd.R_alloc | apply Kd.R_drewN | apply Kd.R_drew)); exact Kd.R_mono HO_3.out (fun _ hk => ⟨⟨hk.1, hk.2.2⟩, hk.2.1⟩)) hg hat)
                    have n2_ := Aside0.mk (Kd.S_after (ok := (fun k_ => some k_ ≠ (v254 : Value).ownBlock ∧ some k_ ≠ (v257 : Value).ownBlock ∧ some k_ ≠ (u8 : Value).ownBlock)) (by (with_reducible repeat (first | apply Kd.S_alloc | apply Kd.S_drewN | apply Kd.S_drew)); exact Kd.S_mono HO_4.out (fun _ hk => ⟨⟨hk.1, ⟨hk.2.1, hk.2.2.2⟩⟩, hk.2.2.1⟩)) hg hat)
                    have n3_ := Aside0.mk (Kd.R_after (ok := (fun k_ => some k_ ≠ (v254 : Value).ownBlock ∧ some k_ ≠ (v257 : Value).ownBlock)) (by (with_reducible repeat (first | apply Kd.R_alloc | apply Kd.R_drewN | apply Kd.R_drew)); exact Kd.R_mono HO_8.out (fun _ hk => ⟨⟨hk.1, hk.2.1⟩, hk.2.2⟩)) hg hat)
                    have n4_ := Aside0.mk (Kd.R_after (ok := (fun k_ => some k_ ≠ (v254 : Value).ownBlock ∧ some k_ ≠ (v257 : Value).ownBlock ∧ some k_ ≠ (.slice (some ad263) x4_1.length co46 : Value).ownBlock ∧ some k_ ≠ (u8 : Value).ownBlock)) (by (with_reducible repeat (first | apply Kd.R_alloc | apply Kd.R_drewN | apply Kd.R_drew)); exact Kd.R_mono HL263_0.out (fun _ hk => ⟨⟨hk.1.1, ⟨hk.1.2.1, ⟨hk.2, hk.1.2.2.2⟩⟩⟩, hk.1.2.2.1⟩)) hg hat)
                    have n5_ := Aside0.mk (hb)
                    have n6_ := Aside0.mk (ho)
                    clear HO_2
                    clear HO_3
                    clear HO_4
                    clear HO_8
                    clear HL263_0
                    clear HB
                    clear HO262
                    have HO_2 := n0_
                    have HO_3 := n1_
                    have HO_4 := n2_
                    have HO_8 := n3_
                    have HL263_0 := n4_
                    have HB := n5_
                    have HO266 := n6_
                    clear n0_ n1_ n2_ n3_ n4_ n5_ n6_
                    clear ho hb hg hat
                    refine hK.out _ _ ?_
                    clear hK K
                    refine norm_ (a' := ?_) ?_ ?_
                    rotate_left
                    ·
                     show Act.put _ (some 63) _ = _
                     simp only [Act.put, List.setIfInBounds_toArray, List.set_cons_zero, List.set_cons_succ, i64_w, i32_w]
                     rfl
                    refine pure_ (i := 10) (N := some 5) (v := ?_) (a' := ?_) #[true, true, true, true, true, true, true, true, true, true, true] rfl rfl (any_of HT_.out (by kernel_rfl)) (fun _ _ _ h => h) (Or.inl ⟨by rfl, ?_⟩) ?_ ?_
                    rotate_left
                    ·
                     intro w'
                     go_simp
                     with_reducible rfl
                    rotate_left
                    ·
                     simp only [Act.put, List.setIfInBounds_toArray, List.set_cons_zero, List.set_cons_succ, i64_w, i32_w]
                     rfl
                    refine done_ (done_of HT_.out (by kernel_rfl)) ?_
                    obtain ⟨Ao48, co48, eo48⟩ := Kd.R_slice HO_8.out
                    subst eo48
                    have p39 : 0 ≤ ((rd x5_2 (ji31)) : Int) := OD
                    have q39 : ((rd x5_2 (ji31)) : Int) < ((x2_2.length : Int) : Int) := OD
                    obtain ⟨go39, co39, eo39, gb39, gl39, cl39, HG39⟩ := Kd.R_form HO_2.out (by omega)
                    (first | cases eo39 | (injection eo39 with ea_ en_ ec_; (first | subst ea_ | (injection ea_ with ea_; subst ea_)); subst ec_; clear en_))
                    have GB39 := Aside0.mk gb39
                    have GG39 := Aside0.mk HG39
                    clear gb39 gl39 HG39
                    obtain ⟨hx39_0, hf39_0⟩ := Kd.R_celln 0 HO_2.out ((rd x5_2 (ji31)) : Int) p39 q39
                    replace p39 := eq_true p39
                    replace q39 := eq_true q39
                    have n_ := Aside0.mk (Kd.R_mono (ok' := (fun k_ => some k_ ≠ (v257 : Value).ownBlock ∧ some k_ ≠ (.slice Ao48 x8_2.length co48 : Value).ownBlock ∧ some k_ ≠ (v265 : Value).ownBlock)) HO_2.out (fun k_ hk => ⟨hk.1.1, ⟨hk.1.2, hk.2⟩⟩))
                    clear HO_2
                    have HO_2 := n_
                    clear n_
                    obtain ⟨hy49_, hz49_⟩ := Kd.R_celln 0 HO_2.out ((rd x5_2 (ji31)) : Int) (OD) (OD)
                    have HP49 := Kd.R_putg HO_2.out ((rd x5_2 (ji31)) : Int) (x8_2.length : Int)
                    try go_wp2_with (first | ((with_reducible refine gate_store (t := 3) (p := 72) rfl ?_); refine store_event (t := 3) (p := 72) (v := ?vo_w50) (w1 := (w47.setCell ⟨go39, ((rd x5_2 (ji31)) : Int).toNat, none⟩ (.int .i64 (x8_2.length : Int)))) ?hg ?ho ?hn ?hr ?_; (case ho => rfl); (case hg => rfl); (case hn => rfl); (case hr => first | (go_simp; done) | (go_simp; rfl)); intro w50 hw; have hg : w47.grownBy w50 (some go39) := (by rw [hw]; exact HP49.2); have hp_ : Kd.R (Kd.int .i64) 3 w50 w.heap.size (fun k_ => some k_ ≠ (v257 : Value).ownBlock ∧ some k_ ≠ (.slice Ao48 x8_2.length co48 : Value).ownBlock ∧ some k_ ≠ (v265 : Value).ownBlock) (.slice (some ⟨go39, 0, none⟩) x2_2.length co39) y267 := (by rw [hw, Ny267.out]; exact HP49.1); clear HP49; have n0_ := Aside0.mk (hp_); have n1_ := Aside0.mk (Kd.R_after (v := (.slice (some ⟨go39, 0, none⟩) x2_2.length co39)) (v1 := (.slice (some ⟨go39, 0, none⟩) x2_2.length co39)) (ok := (fun k_ => some k_ ≠ (.slice Ao48 x8_2.length co48 : Value).ownBlock ∧ some k_ ≠ (v265 : Value).ownBlock)) (by (with_reducible repeat (first | apply Kd.R_alloc | apply Kd.R_drewN | apply Kd.R_drew)); exact Kd.R_mono HO_3.out (fun _ hk => ⟨⟨hk.1.2, hk.2⟩, hk.1.1⟩)) hg (.inl rfl)); have n2_ := Aside0.mk (Kd.S_after (v := (.slice (some ⟨go39, 0, none⟩) x2_2.length co39)) (v1 := (.slice (some ⟨go39, 0, none⟩) x2_2.length co39)) (ok := (fun k_ => some k_ ≠ (v257 : Value).ownBlock ∧ some k_ ≠ (.slice Ao48 x8_2.length co48 : Value).ownBlock ∧ some k_ ≠ (v265 : Value).ownBlock)) (by (with_reducible repeat (first | apply Kd.S_alloc | apply Kd.S_drewN | apply Kd.S_drew)); exact Kd.S_mono HO_4.out (fun _ hk => ⟨⟨hk.1.2.1, ⟨hk.1.2.2, hk.2⟩⟩, hk.1.1⟩)) hg (.inl rfl)); have n3_ := Aside0.mk (Kd.R_after (v := (.slice (some ⟨go39, 0, none⟩) x2_2.length co39)) (v1 := (.slice (some ⟨go39, 0, none⟩) x2_2.length co39)) (ok := (fun k_ => some k_ ≠ (v257 : Value).ownBlock ∧ some k_ ≠ (v265 : Value).ownBlock)) (by (with_reducible repeat (first | apply Kd.R_alloc | apply Kd.R_drewN | apply Kd.R_drew)); exact Kd.R_mono HO_8.out (fun _ hk => ⟨⟨hk.1.2, hk.2⟩, hk.1.1⟩)) hg (.inl rfl)); have n4_ := Aside0.mk (Kd.R_after (v := (.slice (some ⟨go39, 0, none⟩) x2_2.length co39)) (v1 := (.slice (some ⟨go39, 0, none⟩) x2_2.length co39)) (ok := (fun k_ => some k_ ≠ (v257 : Value).ownBlock ∧ some k_ ≠ (.slice (some ad263) x4_1.length co46 : Value).ownBlock ∧ some k_ ≠ (.slice Ao48 x8_2.length co48 : Value).ownBlock ∧ some k_ ≠ (v265 : Value).ownBlock)) (by (with_reducible repeat (first | apply Kd.R_alloc | apply Kd.R_drewN | apply Kd.R_drew)); exact Kd.R_mono HL263_0.out (fun _ hk => ⟨⟨hk.1.2.1, ⟨hk.1.2.2.1, ⟨hk.1.2.2.2, hk.2⟩⟩⟩, hk.1.1⟩)) hg (.inl rfl)); have n5_ := Aside0.mk (Kd.R_after (v := (.slice (some ⟨go39, 0, none⟩) x2_2.length co39)) (v1 := (.slice (some ⟨go39, 0, none⟩) x2_2.length co39)) (ok := (fun k_ => some k_ ≠ (v257 : Value).ownBlock ∧ some k_ ≠ (.slice Ao48 x8_2.length co48 : Value).ownBlock)) (by (with_reducible repeat (first | apply Kd.R_alloc | apply Kd.R_drewN | apply Kd.R_drew)); exact Kd.R_mono HO266.out (fun _ hk => ⟨⟨hk.2.1, hk.2.2⟩, hk.1⟩)) hg (.inl rfl)); have n6_ := Aside0.mk ((by rw [hw]; exact below_set (HB.out) GB39.out : Below w.heap.size w w50)); clear HO_2; clear HO_3; clear HO_4; clear HO_8; clear HL263_0; clear HO266; clear HB; have HO_2 := n0_; have HO_3 := n1_; have HO_4 := n2_; have HO_8 := n3_; have HL263_0 := n4_; have HO266 := n5_; have HB := n6_; clear n0_ n1_ n2_ n3_ n4_ n5_ n6_; clear hg hw hp_; have p41 : 0 ≤ ((rd x5_2 (ji31)) : Int) := OD; have q41 : ((rd x5_2 (ji31)) : Int) < ((x3_2.length : Int) : Int) := OD; obtain ⟨go41, co41, eo41, gb41, gl41, cl41, HG41⟩ := Kd.R_form HO_3.out (by omega); (first | cases eo41 | (injection eo41 with ea_ en_ ec_; (first | subst ea_ | (injection ea_ with ea_; subst ea_)); subst ec_; clear en_)); have GB41 := Aside0.mk gb41; have GG41 := Aside0.mk HG41; clear gb41 gl41 HG41; obtain ⟨hx41_0, hf41_0⟩ := Kd.R_celln 0 HO_3.out ((rd x5_2 (ji31)) : Int) p41 q41; replace p41 := eq_true p41; replace q41 := eq_true q41; have n_ := Aside0.mk (Kd.R_mono (ok' := (fun k_ => some k_ ≠ (.slice (some ⟨go39, 0, none⟩) x2_2.length co39 : Value).ownBlock ∧ some k_ ≠ (.slice Ao48 x8_2.length co48 : Value).ownBlock ∧ some k_ ≠ (v265 : Value).ownBlock)) HO_3.out (fun k_ hk => ⟨hk.2, ⟨hk.1.1, hk.1.2⟩⟩)); clear HO_3; have HO_3 := n_; clear n_; obtain ⟨hy51_, hz51_⟩ := Kd.R_celln 0 HO_3.out ((rd x5_2 (ji31)) : Int) (OD) (OD); have HP51 := Kd.R_putg HO_3.out ((rd x5_2 (ji31)) : Int) (x8_2.length : Int)) | ((with_reducible refine gate_store (t := 3) (p := 73) rfl ?_); refine store_event (t := 3) (p := 73) (v := ?vo_w52) (w1 := (w50.setCell ⟨go41, ((rd x5_2 (ji31)) : Int).toNat, none⟩ (.int .i64 (x8_2.length : Int)))) ?hg ?ho ?hn ?hr ?_; (case ho => rfl); (case hg => rfl); (case hn => rfl); (case hr => first | (go_simp; done) | (go_simp; rfl)); intro w52 hw; have hg : w50.grownBy w52 (some go41) := (by rw [hw]; exact HP51.2); have hp_ : Kd.R (Kd.int .i64) 3 w52 w.heap.size (fun k_ => some k_ ≠ (.slice (some ⟨go39, 0, none⟩) x2_2.length co39 : Value).ownBlock ∧ some k_ ≠ (.slice Ao48 x8_2.length co48 : Value).ownBlock ∧ some k_ ≠ (v265 : Value).ownBlock) (.slice (some ⟨go41, 0, none⟩) x3_2.length co41) y268 := (by rw [hw, Ny268.out]; exact HP51.1); clear HP51; have n0_ := Aside0.mk (Kd.R_after (v := (.slice (some ⟨go41, 0, none⟩) x3_2.length co41)) (v1 := (.slice (some ⟨go41, 0, none⟩) x3_2.length co41)) (ok := (fun k_ => some k_ ≠ (.slice Ao48 x8_2.length co48 : Value).ownBlock ∧ some k_ ≠ (v265 : Value).ownBlock)) (by (with_reducible repeat (first | apply Kd.R_alloc | apply Kd.R_drewN | apply Kd.R_drew)); exact Kd.R_mono HO_2.out (fun _ hk => ⟨⟨hk.2.1, hk.2.2⟩, hk.1⟩)) hg (.inl rfl)); have n1_ := Aside0.mk (hp_); have n2_ := Aside0.mk (Kd.S_after (v := (.slice (some ⟨go41, 0, none⟩) x3_2.length co41)) (v1 := (.slice (some ⟨go41, 0, none⟩) x3_2.length co41)) (ok := (fun k_ => some k_ ≠ (.slice (some ⟨go39, 0, none⟩) x2_2.length co39 : Value).ownBlock ∧ some k_ ≠ (.slice Ao48 x8_2.length co48 : Value).ownBlock ∧ some k_ ≠ (v265 : Value).ownBlock)) (by (with_reducible repeat (first | apply Kd.S_alloc | apply Kd.S_drewN | apply Kd.S_drew)); exact Kd.S_mono HO_4.out (fun _ hk => ⟨⟨hk.2, ⟨hk.1.2.1, hk.1.2.2⟩⟩, hk.1.1⟩)) hg (.inl rfl)); have n3_ := Aside0.mk (Kd.R_after (v := (.slice (some ⟨go41, 0, none⟩) x3_2.length co41)) (v1 := (.slice (some ⟨go41, 0, none⟩) x3_2.length co41)) (ok := (fun k_ => some k_ ≠ (.slice (some ⟨go39, 0, none⟩) x2_2.length co39 : Value).ownBlock ∧ some k_ ≠ (v265 : Value).ownBlock)) (by (with_reducible repeat (first | apply Kd.R_alloc | apply Kd.R_drewN | apply Kd.R_drew)); exact Kd.R_mono HO_8.out (fun _ hk => ⟨⟨hk.2, hk.1.2⟩, hk.1.1⟩)) hg (.inl rfl)); have n4_ := Aside0.mk (Kd.R_after (v := (.slice (some ⟨go41, 0, none⟩) x3_2.length co41)) (v1 := (.slice (some ⟨go41, 0, none⟩) x3_2.length co41)) (ok := (fun k_ => some k_ ≠ (.slice (some ⟨go39, 0, none⟩) x2_2.length co39 : Value).ownBlock ∧ some k_ ≠ (.slice (some ad263) x4_1.length co46 : Value).ownBlock ∧ some k_ ≠ (.slice Ao48 x8_2.length co48 : Value).ownBlock ∧ some k_ ≠ (v265 : Value).ownBlock)) (by (with_reducible repeat (first | apply Kd.R_alloc | apply Kd.R_drewN | apply Kd.R_drew)); exact Kd.R_mono HL263_0.out (fun _ hk => ⟨⟨hk.2, ⟨hk.1.2.1, ⟨hk.1.2.2.1, hk.1.2.2.2⟩⟩⟩, hk.1.1⟩)) hg (.inl rfl)); have n5_ := Aside0.mk (Kd.R_after (v := (.slice (some ⟨go41, 0, none⟩) x3_2.length co41)) (v1 := (.slice (some ⟨go41, 0, none⟩) x3_2.length co41)) (ok := (fun k_ => some k_ ≠ (.slice (some ⟨go39, 0, none⟩) x2_2.length co39 : Value).ownBlock ∧ some k_ ≠ (.slice Ao48 x8_2.length co48 : Value).ownBlock)) (by (with_reducible repeat (first | apply Kd.R_alloc | apply Kd.R_drewN | apply Kd.R_drew)); exact Kd.R_mono HO266.out (fun _ hk => ⟨⟨hk.2, hk.1.2⟩, hk.1.1⟩)) hg (.inl rfl)); have n6_ := Aside0.mk ((by rw [hw]; exact below_set (HB.out) GB41.out : Below w.heap.size w w52)); clear HO_2; clear HO_3; clear HO_4; clear HO_8; clear HL263_0; clear HO266; clear HB; have HO_2 := n0_; have HO_3 := n1_; have HO_4 := n2_; have HO_8 := n3_; have HL263_0 := n4_; have HO266 := n5_; have HB := n6_; clear n0_ n1_ n2_ n3_ n4_ n5_ n6_; clear hg hw hp_) | ((with_reducible refine gate_builtin (b := .append) (xs := #[.tmp 74, .tmp 76]) rfl ?_); at_builtin; refine Kd.R_append (Kd.int .i64) (w0 := w) w.heap.size rfl (.tmp 74) (.tmp 76) 22 3 (.int .i64 0) 8 rfl Tryd.underlying22 info3 rfl (by decide) (by omega) (.slice Ao48 x8_2.length co48) x8_2 (rd x5_2 (ji31)) [.int .i64 (rd x5_2 (ji31))] (fun k_ => some k_ ≠ (.slice (some ⟨go39, 0, none⟩) x2_2.length co39 : Value).ownBlock ∧ some k_ ≠ (.slice (some ⟨go41, 0, none⟩) x3_2.length co41 : Value).ownBlock ∧ some k_ ≠ (v265 : Value).ownBlock) (fun _ => False) rfl rfl ?aP (fun _ hk => hk.elim) ?aF ?aO ?aB ?aS ?aL ?_; (case aP => exact rfl); (case aB => exact (BB)); (case aF => exact (fun k_ hk => ⟨Kd.fresh' (Kd.R_lt (BR HO_2.out)) k_ hk, Kd.fresh' (Kd.R_lt (BR HO_3.out)) k_ hk, Kd.fresh' (Kd.R_lt (BR HO266.out)) k_ hk⟩)); (case aO => exact (by (with_reducible repeat (first | apply Kd.R_alloc | apply Kd.R_drewN | apply Kd.R_drew)); exact Kd.R_mono HO_8.out (fun _ hk => ⟨hk.1.1, ⟨hk.2, hk.1.2⟩⟩))); (case aS => exact (below_size (BB))); (case aL => have := LMc42.out; omega); intro v270 w53 ho hb hg hat; rw [← Ny269.out] at ho; have n0_ := Aside0.mk (Kd.R_after (ok := (fun k_ => some k_ ≠ (.slice (some ⟨go41, 0, none⟩) x3_2.length co41 : Value).ownBlock ∧ some k_ ≠ (v265 : Value).ownBlock)) (by (with_reducible repeat (first | apply Kd.R_alloc | apply Kd.R_drewN | apply Kd.R_drew)); exact Kd.R_mono HO_2.out (fun _ hk => ⟨⟨hk.2, hk.1.2⟩, hk.1.1⟩)) hg hat); have n1_ := Aside0.mk (Kd.R_after (ok := (fun k_ => some k_ ≠ (.slice (some ⟨go39, 0, none⟩) x2_2.length co39 : Value).ownBlock ∧ some k_ ≠ (v265 : Value).ownBlock)) (by (with_reducible repeat (first | apply Kd.R_alloc | apply Kd.R_drewN | apply Kd.R_drew)); exact Kd.R_mono HO_3.out (fun _ hk => ⟨⟨hk.1, hk.2.2⟩, hk.2.1⟩)) hg hat); have n2_ := Aside0.mk (Kd.S_after (ok := (fun k_ => some k_ ≠ (.slice (some ⟨go39, 0, none⟩) x2_2.length co39 : Value).ownBlock ∧ some k_ ≠ (.slice (some ⟨go41, 0, none⟩) x3_2.length co41 : Value).ownBlock ∧ some k_ ≠ (v265 : Value).ownBlock)) (by (with_reducible repeat (first | apply Kd.S_alloc | apply Kd.S_drewN | apply Kd.S_drew)); exact Kd.S_mono HO_4.out (fun _ hk => ⟨⟨hk.1.1, ⟨hk.2, hk.1.2.2⟩⟩, hk.1.2.1⟩)) hg hat); have n3_ := Aside0.mk (Kd.R_after (ok := (fun k_ => some k_ ≠ (.slice (some ⟨go39, 0, none⟩) x2_2.length co39 : Value).ownBlock ∧ some k_ ≠ (.slice (some ⟨go41, 0, none⟩) x3_2.length co41 : Value).ownBlock ∧ some k_ ≠ (.slice (some ad263) x4_1.length co46 : Value).ownBlock ∧ some k_ ≠ (v265 : Value).ownBlock)) (by (with_reducible repeat (first | apply Kd.R_alloc | apply Kd.R_drewN | apply Kd.R_drew)); exact Kd.R_mono HL263_0.out (fun _ hk => ⟨⟨hk.1.1, ⟨hk.2, ⟨hk.1.2.1, hk.1.2.2.2⟩⟩⟩, hk.1.2.2.1⟩)) hg hat); have n4_ := Aside0.mk (Kd.R_after (ok := (fun k_ => some k_ ≠ (.slice (some ⟨go39, 0, none⟩) x2_2.length co39 : Value).ownBlock ∧ some k_ ≠ (.slice (some ⟨go41, 0, none⟩) x3_2.length co41 : Value).ownBlock)) (by (with_reducible repeat (first | apply Kd.R_alloc | apply Kd.R_drewN | apply Kd.R_drew)); exact Kd.R_mono HO266.out (fun _ hk => ⟨⟨hk.1.1, hk.2⟩, hk.1.2⟩)) hg hat); have n5_ := Aside0.mk (hb); have n6_ := Aside0.mk (ho); clear HO_2; clear HO_3; clear HO_4; clear HL263_0; clear HO266; clear HB; clear HO_8; have HO_2 := n0_; have HO_3 := n1_; have HO_4 := n2_; have HL263_0 := n3_; have HO266 := n4_; have HB := n5_; have HO271 := n6_; clear n0_ n1_ n2_ n3_ n4_ n5_ n6_; clear ho hb hg hat))
                    go_roundg k2
                    case measure => have := HK1.out; have := HK2.out; omega
                    case rel => exact ⟨(y267), (y268), (y264), (y269), H', ⟨by have := HK1.out; have := HK2.out; omega⟩, ⟨by (with_reducible repeat (first | apply Kd.R_alloc | apply Kd.R_drewN | apply Kd.R_drew)); exact Kd.R_mono HO_2.out (fun _ hk => ⟨hk.1.1, ⟨hk.1.2, hk.2⟩⟩)⟩, ⟨by (with_reducible repeat (first | apply Kd.R_alloc | apply Kd.R_drewN | apply Kd.R_drew)); exact Kd.R_mono HO_3.out (fun _ hk => ⟨hk.1.1, ⟨hk.1.2, hk.2⟩⟩)⟩, ⟨by (with_reducible repeat (first | apply Kd.S_alloc | apply Kd.S_drewN | apply Kd.S_drew)); exact Kd.S_mono HO_4.out (fun _ hk => ⟨hk.1.1, ⟨hk.1.2.1, ⟨hk.1.2.2, hk.2⟩⟩⟩)⟩, ⟨by (with_reducible repeat (first | apply Kd.R_alloc | apply Kd.R_drewN | apply Kd.R_drew)); exact Kd.R_mono HO266.out (fun _ hk => ⟨hk.1.1, ⟨hk.1.2, hk.2⟩⟩)⟩, ⟨BR HO271.out⟩, ⟨BB⟩⟩
                   ·
                    rw [if_neg c42] at H
                    exact absurd H (by simp)
                  ·
                   rw [if_neg c40] at H
                   exact absurd H (by simp)
                 ·
                  rw [if_neg c38] at H
                  exact absurd H (by simp)
                ·
                 rw [if_neg c37] at H
                 exact absurd H (by simp)
               ·
                rw [if_neg c36] at H
                exact absurd H (by simp)
              ·
               rw [if_neg c35] at H
               exact absurd H (by simp)
             ·
              rw [if_neg c34] at H
              exact absurd H (by simp)
            ·
             rw [if_neg c33] at H
             exact absurd H (by simp)
           ·
            rw [if_neg c32] at H
            exact absurd H (by simp)
          ·
           rw [if_neg c30] at H
           have c30b0 : decide (0 < (x5_2.length : Int)) = false := decide_eq_false c30
           have c30b1 : decide (0 < x5_2.length) = false := decide_eq_false (by omega)
           clear c30
           have H' := Aside0.mk H
           clear H
           obtain ⟨Ao54, co54, eo54⟩ := Kd.R_slice HO_5.out
           subst eo54
           obtain ⟨Ao55, co55, eo55⟩ := Kd.R_slice HO_8.out
           subst eo55
           go_wp2
           go_loopg [10] k2 (fun kq v10 w' => ∃ (x3_3 : List Int) (x10_3 : Int), v10 = .int .i64 x10_3 ∧ Aside0 (depend_numbers.l2 kq l0 x2_2 x3_3 x8_2 x10_3 = some (r1, r2)) ∧ Aside0 (kq ≤ k2) ∧ Aside0 (Kd.R (Kd.int .i64) 3 w' w.heap.size (fun k_ => some k_ ≠ (v257 : Value).ownBlock ∧ some k_ ≠ ((.slice Ao55 x8_2.length co55) : Value).ownBlock) v254 x2_2) ∧ Aside0 (Kd.R (Kd.int .i64) 3 w' w.heap.size (fun k_ => some k_ ≠ (v254 : Value).ownBlock ∧ some k_ ≠ ((.slice Ao55 x8_2.length co55) : Value).ownBlock) v257 x3_3) ∧ Aside0 (Kd.R (Kd.int .i64) 3 w' w.heap.size (fun k_ => some k_ ≠ (v254 : Value).ownBlock ∧ some k_ ≠ (v257 : Value).ownBlock) (.slice Ao55 x8_2.length co55) x8_2) ∧ Aside0 (Below w.heap.size w w'))
           case atStart => exact ⟨(x3_2), (wrap64 ((x8_2.length : Int) - 1)), (BE), H', ⟨Nat.le_refl _⟩, ⟨by (with_reducible repeat (first | apply Kd.R_alloc | apply Kd.R_drewN | apply Kd.R_drew)); exact Kd.R_mono HO_2.out (fun _ hk => ⟨hk.1, hk.2.2⟩)⟩, ⟨by (with_reducible repeat (first | apply Kd.R_alloc | apply Kd.R_drewN | apply Kd.R_drew)); exact Kd.R_mono HO_3.out (fun _ hk => ⟨hk.1, hk.2.2⟩)⟩, ⟨by (with_reducible repeat (first | apply Kd.R_alloc | apply Kd.R_drewN | apply Kd.R_drew)); exact Kd.R_mono HO_8.out (fun _ hk => ⟨hk.1, hk.2.1⟩)⟩, ⟨BB⟩⟩
           case round =>
            clear H'
            (try clear c1); (try clear p1); (try clear q1); (try clear hx1); (try clear hf1); (try clear c2); (try clear c2b0); (try clear c2b1); (try clear p2); (try clear q2); (try clear hx2); (try clear c3)
            (try clear c3b0); (try clear c3b1); (try clear p3); (try clear q3); (try clear hx3); (try clear hf3); (try clear c4); (try clear p4); (try clear q4); (try clear hx4); (try clear hf4); (try clear c6)
            (try clear c6b0); (try clear p6); (try clear c7); (try clear c7b0); (try clear c8); (try clear c8b0); (try clear c9); (try clear c9b0); (try clear c10); (try clear c10b0); (try clear c11); (try clear c11b0)
            (try clear c12); (try clear p13); (try clear q13); (try clear c15); (try clear c17); (try clear hx17); (try clear hf17); (try clear c20); (try clear c22); (try clear c22b0); (try clear c22b1); (try clear c23)
            (try clear c23b0); (try clear c23b1); (try clear c24); (try clear p24); (try clear q24); (try clear hx24); (try clear p25); (try clear q25); (try clear hx25); (try clear c26); (try clear p26); (try clear q26)
            (try clear hx26); (try clear c30); (try clear c30b0); (try clear c30b1); (try clear c32); (try clear c32b0); (try clear c33); (try clear c33b0); (try clear c34); (try clear c34b0); (try clear c34b1)
            (try clear c35); (try clear c35b0); (try clear c36); (try clear c36b0); (try clear c37); (try clear c38); (try clear c38b0); (try clear p39); (try clear q39); (try clear hx39); (try clear hf39); (try clear c40)
            (try clear c40b0); (try clear p41); (try clear q41); (try clear hx41); (try clear hf41); (try clear c42); (try clear q45); (try clear hx17_0); (try clear hx244_0); (try clear hx245_0); (try clear hx259_0)
            (try clear hx263_0); (try clear hx39_0); (try clear hx41_0); (try clear p1); (try clear p13); (try clear p2); (try clear p24); (try clear p244); (try clear p245); (try clear p259); (try clear p263)
            (try clear p39); (try clear p41); (try clear p6); (try clear q1); (try clear q13); (try clear q2); (try clear q24); (try clear q244); (try clear q245); (try clear q259); (try clear q263); (try clear q39)
            (try clear q41); (try clear q45)
            obtain ⟨x3_3, x10_3, rfl, HA, HK3, HO_2, HO_3, HO_8, HB⟩ := hrel
            cases gk with
            | zero => exact absurd HA.out (by simp [depend_numbers.l2])
            | succ k3 =>
             have H := HA.out
             clear HA
             simp only [depend_numbers.l2] at H
             by_cases c56 : x10_3 ≥ 0
             ·
              rw [if_pos c56] at H
              have c56b0 : decide (0 ≤ x10_3) = true := decide_eq_true c56
              clear c56
              by_cases c57 : 0 ≤ x10_3
              ·
               rw [if_pos c57] at H
               have c57b0 : decide (0 ≤ x10_3) = true := decide_eq_true c57
               clear c57
               by_cases c58 : x10_3 < (x8_2.length : Int)
               ·
                rw [if_pos c58] at H
                have c58b0 : decide (x10_3 < (x8_2.length : Int)) = true := decide_eq_true c58
                clear c58
                by_cases c59 : 0 ≤ (rd x8_2 x10_3)
                ·
                 rw [if_pos c59] at H
                 have c59b0 : decide (0 ≤ (rd x8_2 x10_3)) = true := decide_eq_true c59
                 clear c59
                 by_cases c60 : (rd x8_2 x10_3) < (l0.length : Int)
                 ·
                  rw [if_pos c60] at H
                  have c60b0 : decide ((rd x8_2 x10_3) < (l0.length : Int)) = true := decide_eq_true c60
                  clear c60
                  by_cases c61 : (rd l0 (rd x8_2 x10_3)) ≥ 0
                  ·
                   rw [if_pos c61] at H
                   have c61b0 : decide (0 ≤ (rd l0 (rd x8_2 x10_3))) = true := decide_eq_true c61
                   clear c61
                   by_cases c62 : 0 ≤ (rd l0 (rd x8_2 x10_3))
                   ·
                    rw [if_pos c62] at H
                    have c62b0 : decide (0 ≤ (rd l0 (rd x8_2 x10_3))) = true := decide_eq_true c62
                    clear c62
                    by_cases c63 : (rd l0 (rd x8_2 x10_3)) < (x3_3.length : Int)
                    ·
                     rw [if_pos c63] at H
                     have c63b0 : decide ((rd l0 (rd x8_2 x10_3)) < (x3_3.length : Int)) = true := decide_eq_true c63
                     clear c63
                     by_cases c64 : (rd x8_2 x10_3) < (x3_3.length : Int)
                     ·
                      rw [if_pos c64] at H
                      have c64b0 : decide ((rd x8_2 x10_3) < (x3_3.length : Int)) = true := decide_eq_true c64
                      clear c64
                      obtain ⟨ji65, hji65⟩ : ∃ j_ : Int, (mx (rd x3_3 (rd l0 (rd x8_2 x10_3))) (rd x3_3 (rd x8_2 x10_3))) = j_ := ⟨_, rfl⟩
                      replace H : (depend_numbers.l2 k3 l0 x2_2 (x3_3.set ((rd l0 (rd x8_2 x10_3)) : Int).toNat (ji65)) x8_2 (wrap64 (x10_3 - 1))) = some (r1, r2) := by first | (rw [hji65] at H; exact H) | (simp only [hji65] at H ⊢; exact H)
                      have hji65_ : (if (rd x3_3 (rd l0 (rd x8_2 x10_3))) < (rd x3_3 (rd x8_2 x10_3)) then (rd x3_3 (rd x8_2 x10_3)) else (rd x3_3 (rd l0 (rd x8_2 x10_3)))) = ji65 := hji65
                      obtain ⟨y277, hy277⟩ : ∃ y_ : List Int, y_ = (x3_3.set ((rd l0 (rd x8_2 x10_3)) : Int).toNat (ji65)) := ⟨_, rfl⟩
                      replace H : (depend_numbers.l2 k3 l0 x2_2 y277 x8_2 (wrap64 (x10_3 - 1))) = some (r1, r2) := by first | (rw [hy277]; with_reducible exact H) | (have H2_ := (Option.bind_some _ _).symm.trans H; rw [hy277]; with_reducible exact H2_) | (have H2_ := (Option.bind_some _ _).symm.trans H; with_reducible exact H2_) | with_reducible exact H | (rw [hy277]; exact H) | exact H
                      have Ny277 := Aside0.mk hy277
                      clear hy277
                      have H' := Aside0.mk H
                      clear H
                      have p272 : 0 ≤ (x10_3 : Int) := OD
                      have q272 : x10_3 < (x8_2.length : Int) := OD
                      obtain ⟨ad272, e272, hx272_0⟩ := Kd.at_int (Kd.R_reads' HO_8.out).2.2 x10_3 p272 q272
                      cases e272
                      replace p272 := eq_true p272
                      replace q272 := eq_true q272
                      have p273 : 0 ≤ ((rd x8_2 x10_3) : Int) := OD
                      have q273 : (rd x8_2 x10_3) < (l0.length : Int) := OD
                      obtain ⟨ad273, e273, hx273_0⟩ := Kd.at_int HR0.out (rd x8_2 x10_3) p273 q273
                      cases e273
                      replace hx273_0 := (HB.out.cell (World.block_lt_of_cell? w _ hx273_0)).trans hx273_0
                      replace p273 := eq_true p273
                      replace q273 := eq_true q273
                      try go_wp2
                      have n0_ := Aside0.mk (Kd.R_drew HO_2.out)
                      have n1_ := Aside0.mk (Kd.R_drew HO_3.out)
                      have n2_ := Aside0.mk (Kd.R_drew HO_8.out)
                      have n3_ := Aside0.mk (below_drew1 HB.out)
                      clear HO_2
                      clear HO_3
                      clear HO_8
                      clear HB
                      have HO_2 := n0_
                      have HO_3 := n1_
                      have HO_8 := n2_
                      have HB := n3_
                      clear n0_ n1_ n2_ n3_
                      obtain ⟨Ao68, co68, eo68⟩ := Kd.R_slice HO_3.out
                      (first | subst eo68 | (injection eo68 with f1_ f2_ f3_; have f4_ := f1_.symm; have f5_ := f3_.symm; clear f1_ f2_ f3_; subst f4_; subst f5_))
                      have p274 : 0 ≤ ((rd l0 (rd x8_2 x10_3)) : Int) := OD
                      have q274 : (rd l0 (rd x8_2 x10_3)) < (x3_3.length : Int) := OD
                      obtain ⟨ad274, e274, hx274_0⟩ := Kd.at_int (Kd.R_reads' HO_3.out).2.2 (rd l0 (rd x8_2 x10_3)) p274 q274
                      cases e274
                      replace p274 := eq_true p274
                      replace q274 := eq_true q274
                      have p275 : 0 ≤ (x10_3 : Int) := OD
                      have q275 : x10_3 < (x8_2.length : Int) := OD
                      obtain ⟨ad275, e275, hx275_0⟩ := Kd.at_int (Kd.R_reads' HO_8.out).2.2 x10_3 p275 q275
                      obtain rfl : ad272 = ad275 := (by injection e275)
                      replace p275 := eq_true p275
                      replace q275 := eq_true q275
                      have p276 : 0 ≤ ((rd x8_2 x10_3) : Int) := OD
                      have q276 : (rd x8_2 x10_3) < (x3_3.length : Int) := OD
                      obtain ⟨ad276, e276, hx276_0⟩ := Kd.at_int (Kd.R_reads' HO_3.out).2.2 (rd x8_2 x10_3) p276 q276
                      obtain rfl : ad274 = ad276 := (by injection e276)
                      replace p276 := eq_true p276
                      replace q276 := eq_true q276
                      have p66 : 0 ≤ ((rd l0 (rd x8_2 x10_3)) : Int) := OD
                      have q66 : ((rd l0 (rd x8_2 x10_3)) : Int) < ((x3_3.length : Int) : Int) := OD
                      obtain ⟨go66, co66, eo66, gb66, gl66, cl66, HG66⟩ := Kd.R_form HO_3.out (by omega)
                      (first | cases eo66 | (injection eo66 with ea_ en_ ec_; (first | subst ea_ | (injection ea_ with ea_; subst ea_)); subst ec_; clear en_))
                      have GB66 := Aside0.mk gb66
                      have GG66 := Aside0.mk HG66
                      clear gb66 gl66 HG66
                      (first | simp only [add_plain] at hx274_0 | skip)
                      (first | simp only [add_plain] at hx276_0 | skip)
                      obtain ⟨hx66_0, hf66_0⟩ := Kd.R_celln 0 HO_3.out ((rd l0 (rd x8_2 x10_3)) : Int) p66 q66
                      replace p66 := eq_true p66
                      replace q66 := eq_true q66
                      have HP69 := Kd.R_putn HO_3.out ((rd l0 (rd x8_2 x10_3)) : Int) ji65
                      rw [← Ny277.out] at HP69
                      have HQ69 := Aside0.mk HP69
                      clear HP69
                      refine start_ (n := 16) (S := fun w' => w'.cell? ⟨go66, ((rd l0 (rd x8_2 x10_3))).toNat, none⟩ = some (.int .i64 (rd x3_3 (rd l0 (rd x8_2 x10_3)))) ∧ w'.cell? (ad272.add (x10_3).toNat) = some (.int .i64 (rd x8_2 x10_3)) ∧ w'.cell? ⟨go66, ((rd x8_2 x10_3)).toNat, none⟩ = some (.int .i64 (rd x3_3 (rd x8_2 x10_3)))) (ds := [15]) #[false, false, false, false, false, false, false, false, false, false, false, false, false, false, false, false] (by kernel_rfl) rfl rfl ⟨hx274_0, hx275_0, hx276_0⟩ (fun hHeld => ?_); refine with_tabW depend_numbers.tab22 depend_numbers.bits22 (fun HT_ HW_ => ?_)
                      generalize wr.drew = w67 at HO_2 HO_3 HO_8 HB GG66 HQ69 hf66_0 hx274_0 hx275_0 hx276_0 hx66_0 hHeld ⊢
                      refine pure_ (i := 0) (N := some 94) (v := ?_) (a' := ?_) #[true, false, false, false, false, false, false, false, false, false, false, false, false, false, false, false] rfl rfl (any_of HT_.out (by kernel_rfl)) (fun _ _ _ h => h) (Or.inl ⟨by rfl, ?_⟩) ?_ ?_
                      rotate_left
                      ·
                       intro w'
                       go_simp
                       with_reducible rfl
                      rotate_left
                      ·
                       simp only [Act.put, List.setIfInBounds_toArray, List.set_cons_zero, List.set_cons_succ, i64_w, i32_w]
                       rfl
                      refine pure_ (i := 1) (N := some 95) (v := ?_) (a' := ?_) #[true, true, false, false, false, false, false, false, false, false, false, false, false, false, false, false] rfl rfl (any_of HT_.out (by kernel_rfl)) (fun _ _ _ h => h) (Or.inl ⟨by rfl, ?_⟩) ?_ ?_
                      rotate_left
                      ·
                       intro w'
                       go_simp
                       with_reducible rfl
                      rotate_left
                      ·
                       simp only [Act.put, List.setIfInBounds_toArray, List.set_cons_zero, List.set_cons_succ, i64_w, i32_w]
                       rfl
                      refine pure_ (i := 2) (N := some 96) (v := ?_) (a' := ?_) #[true, true, true, false, false, false, false, false, false, false, false, false, false, false, false, false] rfl rfl (any_of HT_.out (by kernel_rfl)) (fun _ _ _ h => h) (Or.inl ⟨by rfl, ?_⟩) ?_ ?_
                      rotate_left
                      ·
                       intro w'
                       go_simp
                       with_reducible rfl
                      rotate_left
                      ·
                       simp only [Act.put, List.setIfInBounds_toArray, List.set_cons_zero, List.set_cons_succ, i64_w, i32_w]
                       rfl
                      refine pure_ (i := 3) (N := some 97) (v := ?_) (a' := ?_) #[true, true, true, true, false, false, false, false, false, false, false, false, false, false, false, false] rfl rfl (any_of HT_.out (by kernel_rfl)) (fun _ _ _ h => h) (Or.inl ⟨by rfl, ?_⟩) ?_ ?_
                      rotate_left
                      ·
                       intro w'
                       go_simp
                       with_reducible rfl
                      rotate_left
                      ·
                       simp only [Act.put, List.setIfInBounds_toArray, List.set_cons_zero, List.set_cons_succ, i64_w, i32_w]
                       rfl
                      refine pure_ (i := 4) (N := some 98) (v := ?_) (a' := ?_) #[true, true, true, true, true, false, false, false, false, false, false, false, false, false, false, false] rfl rfl (any_of HT_.out (by kernel_rfl)) (fun _ _ _ h => h) (Or.inl ⟨by rfl, ?_⟩) ?_ ?_
                      rotate_left
                      ·
                       intro w'
                       go_simp
                       with_reducible rfl
                      rotate_left
                      ·
                       simp only [Act.put, List.setIfInBounds_toArray, List.set_cons_zero, List.set_cons_succ, i64_w, i32_w]
                       rfl
                      refine pure_ (i := 6) (N := some 100) (v := ?_) (a' := ?_) #[true, true, true, true, true, false, true, false, false, false, false, false, false, false, false, false] rfl rfl (any_of HT_.out (by kernel_rfl)) (fun _ _ _ h => h) (Or.inl ⟨by rfl, ?_⟩) ?_ ?_
                      rotate_left
                      ·
                       intro w'
                       go_simp
                       with_reducible rfl
                      rotate_left
                      ·
                       simp only [Act.put, List.setIfInBounds_toArray, List.set_cons_zero, List.set_cons_succ, i64_w, i32_w]
                       rfl
                      refine pure_ (i := 7) (N := some 101) (v := ?_) (a' := ?_) #[true, true, true, true, true, false, true, true, false, false, false, false, false, false, false, false] rfl rfl (any_of HT_.out (by kernel_rfl)) (fun _ _ _ h => h) (Or.inl ⟨by rfl, ?_⟩) ?_ ?_
                      rotate_left
                      ·
                       intro w'
                       go_simp
                       with_reducible rfl
                      rotate_left
                      ·
                       simp only [Act.put, List.setIfInBounds_toArray, List.set_cons_zero, List.set_cons_succ, i64_w, i32_w]
                       rfl
                      refine pure_ (i := 8) (N := some 102) (v := ?_) (a' := ?_) #[true, true, true, true, true, false, true, true, true, false, false, false, false, false, false, false] rfl rfl (any_of HT_.out (by kernel_rfl)) (fun _ _ _ h => h) (Or.inl ⟨by rfl, ?_⟩) ?_ ?_
                      rotate_left
                      ·
                       intro w'
                       go_simp
                       with_reducible rfl
                      rotate_left
                      ·
                       simp only [Act.put, List.setIfInBounds_toArray, List.set_cons_zero, List.set_cons_succ, i64_w, i32_w]
                       rfl
                      refine pure_ (i := 9) (N := some 103) (v := ?_) (a' := ?_) #[true, true, true, true, true, false, true, true, true, true, false, false, false, false, false, false] rfl rfl (any_of HT_.out (by kernel_rfl)) (fun _ _ _ h => h) (Or.inl ⟨by rfl, ?_⟩) ?_ ?_
                      rotate_left
                      ·
                       intro w'
                       go_simp
                       with_reducible rfl
                      rotate_left
                      ·
                       simp only [Act.put, List.setIfInBounds_toArray, List.set_cons_zero, List.set_cons_succ, i64_w, i32_w]
                       rfl
                      refine take_ (i := 5) (N := some 99) (v := ?_) (a' := ?_) #[true, true, true, true, true, true, true, true, true, true, false, false, false, false, false, false] rfl rfl (take_ofW HT_.out HW_.out (by kernel_rfl)) (fun _ _ _ h => h) (Or.inl ⟨by rfl, ?_⟩) hHeld ?_ ?_
                      rotate_left
                      ·
                       rintro w' ⟨s0, s1, s2⟩
                       go_simp
                       with_reducible rfl
                      rotate_left
                      ·
                       simp only [Act.put, List.setIfInBounds_toArray, List.set_cons_zero, List.set_cons_succ, i64_w, i32_w]
                       rfl
                      refine take_ (i := 10) (N := some 104) (v := ?_) (a' := ?_) #[true, true, true, true, true, true, true, true, true, true, true, false, false, false, false, false] rfl rfl (take_ofW HT_.out HW_.out (by kernel_rfl)) (fun _ _ _ h => h) (Or.inl ⟨by rfl, ?_⟩) hHeld ?_ ?_
                      rotate_left
                      ·
                       rintro w' ⟨s0, s1, s2⟩
                       go_simp
                       with_reducible rfl
                      rotate_left
                      ·
                       simp only [Act.put, List.setIfInBounds_toArray, List.set_cons_zero, List.set_cons_succ, i64_w, i32_w]
                       rfl
                      refine pure_ (i := 11) (N := some 105) (v := ?_) (a' := ?_) #[true, true, true, true, true, true, true, true, true, true, true, true, false, false, false, false] rfl rfl (any_of HT_.out (by kernel_rfl)) (fun _ _ _ h => h) (Or.inl ⟨by rfl, ?_⟩) ?_ ?_
                      rotate_left
                      ·
                       intro w'
                       go_simp
                       with_reducible rfl
                      rotate_left
                      ·
                       simp only [Act.put, List.setIfInBounds_toArray, List.set_cons_zero, List.set_cons_succ, i64_w, i32_w]
                       rfl
                      refine take_ (i := 12) (N := some 106) (v := ?_) (a' := ?_) #[true, true, true, true, true, true, true, true, true, true, true, true, true, false, false, false] rfl rfl (take_ofW HT_.out HW_.out (by kernel_rfl)) (fun _ _ _ h => h) (Or.inl ⟨by rfl, ?_⟩) hHeld ?_ ?_
                      rotate_left
                      ·
                       rintro w' ⟨s0, s1, s2⟩
                       go_simp
                       with_reducible rfl
                      rotate_left
                      ·
                       simp only [Act.put, List.setIfInBounds_toArray, List.set_cons_zero, List.set_cons_succ, i64_w, i32_w]
                       rfl
                      refine pure_ (i := 13) (N := some 107) (v := ?_) (a' := ?_) #[true, true, true, true, true, true, true, true, true, true, true, true, true, true, false, false] rfl rfl (any_of HT_.out (by kernel_rfl)) (fun _ _ _ h => h) (Or.inl ⟨by rfl, ?_⟩) ?_ ?_
                      rotate_left
                      ·
                       intro w'
                       go_simp
                       with_reducible rfl
                      rotate_left
                      ·
                       simp only [Act.put, List.setIfInBounds_toArray, List.set_cons_zero, List.set_cons_succ, i64_w, i32_w]
                       rfl
                      refine pure_ (i := 14) (N := some 108) (v := ?_) (a' := ?_) #[true, true, true, true, true, true, true, true, true, true, true, true, true, true, true, false] rfl rfl (any_of HT_.out (by kernel_rfl)) (fun _ _ _ h => h) (Or.inl ⟨by rfl, ?_⟩) ?_ ?_
                      rotate_left
                      ·
                       intro w'
                       go_simp
                       with_reducible rfl
                      rotate_left
                      ·
                       simp only [Act.put, List.setIfInBounds_toArray, List.set_cons_zero, List.set_cons_succ, i64_w, i32_w]
                       rfl
                      refine last_ (i := 15) (N := none) #[true, true, true, true, true, true, true, true, true, true, true, true, true, true, true, true] rfl rfl (one_of HT_.out (by kernel_rfl)) (by decide) (fun K hK => ?_)
                      refine skip_ (w1 := ?_) (by rfl) rfl ?_ ?_
                      rotate_left
                      ·
                       go_simp
                       rfl
                      refine hK.out _ _ ?_
                      clear hK K
                      refine done_ (done_of HT_.out (by kernel_rfl)) ?_
                      try go_wp2
                      go_roundg k3
                      case measure => have := HK1.out; have := HK2.out; have := HK3.out; omega
                      case rel => exact ⟨(y277), (wrap64 (x10_3 - 1)), (BE), H', ⟨by have := HK1.out; have := HK2.out; have := HK3.out; omega⟩, ⟨by (with_reducible repeat (first | apply Kd.R_alloc | apply Kd.R_drewN | apply Kd.R_drew)); exact Kd.R_mono (Kd.R_far (p := ⟨go66, ((rd l0 (rd x8_2 x10_3)) : Int).toNat, none⟩) (Kd.R_mono HO_2.out (fun k_ hk => (⟨hk, fun e_ => hk.1 (by rw [e_]; rfl)⟩ : _ ∧ k_ ≠ go66))) (fun _ hk => hk.2) (.int .i64 ji65)) (fun _ hk => ⟨hk.1.1, hk.1.2⟩)⟩, ⟨by (with_reducible repeat (first | apply Kd.R_alloc | apply Kd.R_drewN | apply Kd.R_drew)); exact HQ69.out⟩, ⟨by (with_reducible repeat (first | apply Kd.R_alloc | apply Kd.R_drewN | apply Kd.R_drew)); exact Kd.R_mono (Kd.R_far (p := ⟨go66, ((rd l0 (rd x8_2 x10_3)) : Int).toNat, none⟩) (Kd.R_mono HO_8.out (fun k_ hk => (⟨hk, fun e_ => hk.2 (by rw [e_]; rfl)⟩ : _ ∧ k_ ≠ go66))) (fun _ hk => hk.2) (.int .i64 ji65)) (fun _ hk => ⟨hk.1.1, hk.1.2⟩)⟩, ⟨by repeat (first | (with_reducible first | exact HB.out | apply below_alloc | apply pw_below_drewN | apply below_drew1 | refine below_set ?_ GB66.out) | exact HB.out)⟩⟩
                     ·
                      rw [if_neg c64] at H
                      exact absurd H (by simp)
                    ·
                     rw [if_neg c63] at H
                     exact absurd H (by simp)
                   ·
                    rw [if_neg c62] at H
                    exact absurd H (by simp)
                  ·
                   rw [if_neg c61] at H
                   have c61b0 : decide (0 ≤ (rd l0 (rd x8_2 x10_3))) = false := decide_eq_false c61
                   clear c61
                   have H' := Aside0.mk H
                   clear H
                   have p272 : 0 ≤ (x10_3 : Int) := OD
                   have q272 : x10_3 < (x8_2.length : Int) := OD
                   obtain ⟨ad272, e272, hx272_0⟩ := Kd.at_int (Kd.R_reads' HO_8.out).2.2 x10_3 p272 q272
                   cases e272
                   replace p272 := eq_true p272
                   replace q272 := eq_true q272
                   have p273 : 0 ≤ ((rd x8_2 x10_3) : Int) := OD
                   have q273 : (rd x8_2 x10_3) < (l0.length : Int) := OD
                   obtain ⟨ad273, e273, hx273_0⟩ := Kd.at_int HR0.out (rd x8_2 x10_3) p273 q273
                   cases e273
                   replace hx273_0 := (HB.out.cell (World.block_lt_of_cell? w _ hx273_0)).trans hx273_0
                   replace p273 := eq_true p273
                   replace q273 := eq_true q273
                   go_wp2
                   go_roundg k3
                   case measure => have := HK1.out; have := HK2.out; have := HK3.out; omega
                   case rel => exact ⟨(x3_3), (wrap64 (x10_3 - 1)), (BE), H', ⟨by have := HK1.out; have := HK2.out; have := HK3.out; omega⟩, ⟨BR HO_2.out⟩, ⟨BR HO_3.out⟩, ⟨BR HO_8.out⟩, ⟨BB⟩⟩
                 ·
                  rw [if_neg c60] at H
                  exact absurd H (by simp)
                ·
                 rw [if_neg c59] at H
                 exact absurd H (by simp)
               ·
                rw [if_neg c58] at H
                exact absurd H (by simp)
              ·
               rw [if_neg c57] at H
               exact absurd H (by simp)
             ·
              rw [if_neg c56] at H
              have c56b0 : decide (0 ≤ x10_3) = false := decide_eq_false c56
              clear c56
              simp only [Option.some.injEq, Prod.mk.injEq] at H
              obtain ⟨rfl, rfl⟩ := H
              go_wp2
              go_ret2
              exact ⟨_, _, BX, by (with_reducible repeat (first | apply Kd.R_alloc | apply Kd.R_drewN | apply Kd.R_drew)); exact Kd.R_mono HO_2.out (fun _ hk => hk.1), by (with_reducible repeat (first | apply Kd.R_alloc | apply Kd.R_drewN | apply Kd.R_drew)); exact Kd.R_mono HO_3.out (fun _ hk => hk.1), BB⟩
       ·
        rw [if_neg c23] at H
        exact absurd H (by simp)
      ·
       rw [if_neg c22] at H
       exact absurd H (by simp)
  ·
   rw [if_neg c3] at H
   exact absurd H (by simp)
 ·
  rw [if_neg c2] at H
  exact absurd H (by simp)

end Go.Proofs.YtkanmafjjejpmaaDoor.P
