-- Written by a program of this session (wip/doprint.sh) out of the translation; Lean checks it.
import Derived.Test.YtkanmafjjejpmaaDoorPx0
import Derived.Test.YtkanmafjjejpmaaDoorPx2
import Derived.Test.YtkanmafjjejpmaaDoorPx4
import Derived.Test.YtkanmafjjejpmaaDoorX4
namespace Go.Proofs.YtkanmafjjejpmaaDoor.P
open Go.Proofs.YtkanmafjjejpmaaDoor.S
open Go.Proofs.YtkanmafjjejpmaaDoor.X
open Go.RowKit Go.Proofs.YtkanmafjjejpmaaDoorW.PrintWords Go.Proofs.YtkanmafjjejpmaaDoorW.PrintLast Go.Proofs.YtkanmafjjejpmaaDoorW.PrintMore
attribute [local go_sem] max2_int min2_int max_two min_two max_three min_three max_four min_four   -- for this text's walks alone
set_option linter.unusedVariables false
set_option linter.unusedSimpArgs false

/-! ### depend_Format: function 6 -/
def depend_Format.l0 : Nat → List Int → List Int → List ByteArray → Int → Int → Option (ByteArray × Int)
  | 0, _, _, _, _, _ => none
  | k + 1, x0, x8, x24, x25, x26 => if x26 < x25 then (if 0 ≤ x26 then (if x26 < (x24.length : Int) then (if (rdOf ByteArray.empty x24 x26).toList = ([] : List UInt8) then (if x26 < (x0.length : Int) then (if x8.length + 21 < 140737488355328 then ((some (x8 ++ bytesOf (itoaS (wrap64 ((rd x0 x26) + 1))) : List Int)).bind fun y144 => (if y144.length < 140737488355328 then ((some (y144 ++ [9] : List Int)).bind fun y147 => (if y147.length + (rdOf ByteArray.empty x24 x26).size < 140737488355328 then ((some (y147 ++ bytesOf (rdOf ByteArray.empty x24 x26) : List Int)).bind fun y150 => (if y150.length < 140737488355328 then (depend_Format.l0 k x0 (y150 ++ [10]) x24 x25 (wrap64 (x26 + 1))) else (none))) else (none))) else (none))) else (none)) else (none)) else ((markup_ValidName.f k (rdOf ByteArray.empty x24 x26)).bind fun t156 => (if t156 = true then (if x26 < (x0.length : Int) then (if x8.length + 21 < 140737488355328 then ((some (x8 ++ bytesOf (itoaS (wrap64 ((rd x0 x26) + 1))) : List Int)).bind fun y158 => (if y158.length < 140737488355328 then ((some (y158 ++ [9] : List Int)).bind fun y161 => (if y161.length + (rdOf ByteArray.empty x24 x26).size < 140737488355328 then ((some (y161 ++ bytesOf (rdOf ByteArray.empty x24 x26) : List Int)).bind fun y164 => (if y164.length < 140737488355328 then (depend_Format.l0 k x0 (y164 ++ [10]) x24 x25 (wrap64 (x26 + 1))) else (none))) else (none))) else (none))) else (none)) else (none)) else (some ((⟨#[]⟩ : ByteArray), 4))))) else (none)) else (none)) else (some (strOfNums x8, 0))
def depend_Format.f (k : Nat) (l0 : List Int) (l1 : List ByteArray) : Option (ByteArray × Int) := (depend_Check.f k l0).bind fun bt140 => (if bt140.2 = 0 then (if (l0.length : Int) = (l1.length : Int) then (depend_Format.l0 k l0 ([] : List Int) l1 (l1.length : Int) 0) else (some ((⟨#[]⟩ : ByteArray), 15))) else (some ((⟨#[]⟩ : ByteArray), bt140.2)))
theorem depend_Format.mono_l : ∀ k, (∀ y0 y1 y2 y3 y4, LeO (depend_Format.l0 k y0 y1 y2 y3 y4) (depend_Format.l0 (k + 1) y0 y1 y2 y3 y4))
 | 0 => fun _ _ _ _ _ r h => by simp [depend_Format.l0] at h
 | k + 1 => by
  have ih0 := depend_Format.mono_l k
  ·
   intro y0 y1 y2 y3 y4
   unfold depend_Format.l0
   with_reducible repeat' first | exact ih0 _ _ _ _ _ | exact depend_Check.mono _ _ | exact markup_ValidName.mono _ _ | exact LeO.refl _ | exact LeO.none _ | refine LeO.ite ?_ ?_ | refine LeO.bind ?_ (fun _ => ?_)
theorem depend_Format.mono : ∀ a0 a1 k, LeO (depend_Format.f k a0 a1) (depend_Format.f (k + 1) a0 a1) := by
 intro a0 a1 k
 have ih0 := depend_Format.mono_l k
 unfold depend_Format.f
 with_reducible repeat' first | exact ih0 _ _ _ _ _ | exact depend_Check.mono _ _ | exact markup_ValidName.mono _ _ | exact LeO.refl _ | exact LeO.none _ | refine LeO.ite ?_ ?_ | refine LeO.bind ?_ (fun _ => ?_)
set_option maxHeartbeats 8000000 in
set_option maxRecDepth 100000 in
theorem depend_Format.calls (k : Nat) (A0 : Option Addr) (c0 : Nat) (l0 : List Int) (A1 : Option Addr) (c1 : Nat) (l1 : List ByteArray) (r1 : ByteArray) (r2 : Int) (w : World) (htab : Tab10 w) (hr0 : Kd.C (Kd.int .i64) w A0 l0.length l0) (hc0 : l0.length ≤ c0) (hr1 : Kd.C Kd.string w A1 l1.length l1) (hc1 : l1.length ≤ c1) (h : depend_Format.f k l0 l1 = some (r1, r2)) :
 Calls Tryd.prog 6 #[.slice A0 l0.length c0, .slice A1 l1.length c1] w fun e w' => e = .returned (.tuple #[.string r1, .int .i64 r2]) ∧ Below w.heap.size w w' := by
 have HR0 := Aside0.mk hr0
 have HC0 := Aside0.mk hc0
 clear hr0 hc0
 have HR1 := Aside0.mk hr1
 have HC1 := Aside0.mk hc1
 clear hr1 hc1
 have HB := Aside0.mk (Below.refl w.heap.size w)
 have H : ((depend_Check.f k l0).bind fun bt140 => (if bt140.2 = 0 then (if (l0.length : Int) = (l1.length : Int) then (depend_Format.l0 k l0 ([] : List Int) l1 (l1.length : Int) 0) else (some ((⟨#[]⟩ : ByteArray), 15))) else (some ((⟨#[]⟩ : ByteArray), bt140.2)))) = some (r1, r2) := h
 clear h
 replace H := Option.bind_eq_some_iff.mp H
 obtain ⟨⟨t140, t141⟩, A30, H⟩ := H
 replace H : (if t141 = 0 then (if (l0.length : Int) = (l1.length : Int) then (depend_Format.l0 k l0 ([] : List Int) l1 (l1.length : Int) 0) else (some ((⟨#[]⟩ : ByteArray), 15))) else (some ((⟨#[]⟩ : ByteArray), t141))) = some (r1, r2) := H
 have A3 := Aside0.mk A30
 clear A30
 by_cases c4 : t141 = 0
 ·
  rw [if_pos c4] at H
  have c4b0 : (t141 == 0) = true := beq_iff_eq.mpr c4
  have c4b1 : (t141 != 0) = false := bne_eq_false_iff_eq.mpr c4
  clear c4
  by_cases c5 : (l0.length : Int) = (l1.length : Int)
  ·
   rw [if_pos c5] at H
   have c5b0 : ((l0.length : Int) == (l1.length : Int)) = true := beq_iff_eq.mpr c5
   have c5b1 : ((l0.length : Int) != (l1.length : Int)) = false := bne_eq_false_iff_eq.mpr c5
   have c5b2 : (l0.length == l1.length) = true := by first | simpa using c5 | (simp at c5 ⊢; omega)
   clear c5
   have H' := Aside0.mk H
   clear H
   go_enter Tryd.func6, Tryd.ntmps6
   go_wp2_with (first | ((with_reducible refine gate_callee (f := 13) rfl ?_); refine goesL_ (some 13) rfl rfl Tryd.func13 (by kernel_rfl) rfl #[.slice A0 l0.length c0] rfl BM ?_; (with_reducible refine (depend_Check.calls k _ _ l0 t140 t141 _ ?side1 ?side2 A3.out).mono ?_); (case side1 => exact BK HR0.out); (case side2 => exact HC0.out); rintro e w6 ⟨rfl, hb⟩; refine ⟨_, rfl, ?_⟩; have n0_ := Aside0.mk (below_step (BB) hb); clear HB; have HB := n0_; clear n0_; (try clear hb); (try clear hb2); (try clear hk); (try clear hi)))
   go_loopg [8, 26] k (fun kq v8 v26 w' => ∃ (x8_1 : List Int) (x26_1 : Int), v26 = .int .i64 x26_1 ∧ Aside0 (depend_Format.l0 kq l0 x8_1 l1 (l1.length : Int) x26_1 = some (r1, r2)) ∧ Aside0 (kq ≤ k) ∧ Aside0 (Kd.R (Kd.int .u8) 5 w' w.heap.size (fun _ => True) v8 x8_1) ∧ Aside0 (Below w.heap.size w w'))
   case atStart => exact ⟨(([] : List Int)), (0), (BE), H', ⟨Nat.le_refl _⟩, ⟨by first | exact Kd.R_nil _ _ _ _ _ | exact Kd.N_nil _ _ _ _ _ | exact Kd.V_nil _ _ _ _ _ | exact Kd.Q_nil _ _ _ _ _ | exact Kd.S_nil _ _ _ _ _⟩, ⟨BB⟩⟩
   case round =>
    clear H'
    (try clear c1); (try clear p2); (try clear c4); (try clear c4b0); (try clear c4b1); (try clear c5); (try clear c5b0); (try clear c5b1); (try clear c5b2); (try clear c6)
    obtain ⟨x8_1, x26_1, rfl, HA, HK1, HO_8, HB⟩ := hrel
    cases gk with
    | zero => exact absurd HA.out (by simp [depend_Format.l0])
    | succ k1 =>
     have H := HA.out
     clear HA
     simp only [depend_Format.l0] at H
     by_cases c7 : x26_1 < (l1.length : Int)
     ·
      rw [if_pos c7] at H
      have c7b0 : decide (x26_1 < (l1.length : Int)) = true := decide_eq_true c7
      clear c7
      by_cases c8 : 0 ≤ x26_1
      ·
       rw [if_pos c8] at H
       have c8b0 : decide (0 ≤ x26_1) = true := decide_eq_true c8
       clear c8
       by_cases c9 : x26_1 < (l1.length : Int)
       ·
        rw [if_pos c9] at H
        have c9b0 : decide (x26_1 < (l1.length : Int)) = true := decide_eq_true c9
        clear c9
        by_cases c10 : (rdOf ByteArray.empty l1 x26_1).toList = ([] : List UInt8)
        ·
         rw [if_pos c10] at H
         have c10b0 : ((rdOf ByteArray.empty l1 x26_1).toList == ([] : List UInt8)) = true := beq_iff_eq.mpr c10
         have c10b1 : ((rdOf ByteArray.empty l1 x26_1).toList != ([] : List UInt8)) = false := bne_eq_false_iff_eq.mpr c10
         clear c10
         by_cases c11 : x26_1 < (l0.length : Int)
         ·
          rw [if_pos c11] at H
          have c11b0 : decide (x26_1 < (l0.length : Int)) = true := decide_eq_true c11
          clear c11
          by_cases c12 : x8_1.length + 21 < 140737488355328
          ·
           rw [if_pos c12] at H
           have LMc12 := Aside0.mk c12
           clear c12
           obtain ⟨y144, hy144⟩ : ∃ y_ : List Int, y_ = (x8_1 ++ bytesOf (itoaS (wrap64 ((rd l0 x26_1) + 1)))) := ⟨_, rfl⟩
           replace H : (if y144.length < 140737488355328 then ((some (y144 ++ [9] : List Int)).bind fun y147 => (if y147.length + (rdOf ByteArray.empty l1 x26_1).size < 140737488355328 then ((some (y147 ++ bytesOf (rdOf ByteArray.empty l1 x26_1) : List Int)).bind fun y150 => (if y150.length < 140737488355328 then (depend_Format.l0 k1 l0 (y150 ++ [10]) l1 (l1.length : Int) (wrap64 (x26_1 + 1))) else (none))) else (none))) else (none)) = some (r1, r2) := by first | (rw [hy144]; with_reducible exact H) | (have H2_ := (Option.bind_some _ _).symm.trans H; rw [hy144]; with_reducible exact H2_) | (have H2_ := (Option.bind_some _ _).symm.trans H; with_reducible exact H2_) | with_reducible exact H | (rw [hy144]; exact H) | exact H
           have Ny144 := Aside0.mk hy144
           clear hy144
           by_cases c13 : y144.length < 140737488355328
           ·
            rw [if_pos c13] at H
            have LMc13 := Aside0.mk c13
            clear c13
            obtain ⟨y147, hy147⟩ : ∃ y_ : List Int, y_ = (y144 ++ [9]) := ⟨_, rfl⟩
            replace H : (if y147.length + (rdOf ByteArray.empty l1 x26_1).size < 140737488355328 then ((some (y147 ++ bytesOf (rdOf ByteArray.empty l1 x26_1) : List Int)).bind fun y150 => (if y150.length < 140737488355328 then (depend_Format.l0 k1 l0 (y150 ++ [10]) l1 (l1.length : Int) (wrap64 (x26_1 + 1))) else (none))) else (none)) = some (r1, r2) := by first | (rw [hy147]; with_reducible exact H) | (have H2_ := (Option.bind_some _ _).symm.trans H; rw [hy147]; with_reducible exact H2_) | (have H2_ := (Option.bind_some _ _).symm.trans H; with_reducible exact H2_) | with_reducible exact H | (rw [hy147]; exact H) | exact H
            have Ny147 := Aside0.mk hy147
            clear hy147
            by_cases c14 : y147.length + (rdOf ByteArray.empty l1 x26_1).size < 140737488355328
            ·
             rw [if_pos c14] at H
             have LMc14 := Aside0.mk c14
             clear c14
             obtain ⟨y150, hy150⟩ : ∃ y_ : List Int, y_ = (y147 ++ bytesOf (rdOf ByteArray.empty l1 x26_1)) := ⟨_, rfl⟩
             replace H : (if y150.length < 140737488355328 then (depend_Format.l0 k1 l0 (y150 ++ [10]) l1 (l1.length : Int) (wrap64 (x26_1 + 1))) else (none)) = some (r1, r2) := by first | (rw [hy150]; with_reducible exact H) | (have H2_ := (Option.bind_some _ _).symm.trans H; rw [hy150]; with_reducible exact H2_) | (have H2_ := (Option.bind_some _ _).symm.trans H; with_reducible exact H2_) | with_reducible exact H | (rw [hy150]; exact H) | exact H
             have Ny150 := Aside0.mk hy150
             clear hy150
             by_cases c15 : y150.length < 140737488355328
             ·
              rw [if_pos c15] at H
              have LMc15 := Aside0.mk c15
              clear c15
              obtain ⟨y153, hy153⟩ : ∃ y_ : List Int, y_ = (y150 ++ [10]) := ⟨_, rfl⟩
              replace H : (depend_Format.l0 k1 l0 y153 l1 (l1.length : Int) (wrap64 (x26_1 + 1))) = some (r1, r2) := by first | (rw [hy153]; with_reducible exact H) | (have H2_ := (Option.bind_some _ _).symm.trans H; rw [hy153]; with_reducible exact H2_) | (have H2_ := (Option.bind_some _ _).symm.trans H; with_reducible exact H2_) | with_reducible exact H | (rw [hy153]; exact H) | exact H
              have Ny153 := Aside0.mk hy153
              clear hy153
              have H' := Aside0.mk H
              clear H
              have p142 : 0 ≤ (x26_1 : Int) := OD
              have q142 : x26_1 < (l1.length : Int) := OD
              obtain ⟨ad142, e142, hx142_0⟩ := Kd.at_string HR1.out x26_1 p142 q142
              cases e142
              replace hx142_0 := (HB.out.cell (World.block_lt_of_cell? w _ hx142_0)).trans hx142_0
              replace p142 := eq_true p142
              replace q142 := eq_true q142
              have p143 : 0 ≤ (x26_1 : Int) := OD
              have q143 : x26_1 < (l0.length : Int) := OD
              obtain ⟨ad143, e143, hx143_0⟩ := Kd.at_int HR0.out x26_1 p143 q143
              cases e143
              replace hx143_0 := (HB.out.cell (World.block_lt_of_cell? w _ hx143_0)).trans hx143_0
              replace p143 := eq_true p143
              replace q143 := eq_true q143
              go_wp2_with (first | ((with_reducible refine gate_callee (f := 15) rfl ?_); refine append_int.step (w0 := w) rfl rfl (.tmp 38) (.tmp 43) rfl htab u8 x8_1 (wrap64 ((rd l0 x26_1) + 1)) rfl rfl (by first | exact append_int.in_ _ | omega) ?aO ?aB ?aS ?aL ?_; (case aB => exact (BB)); (case aO => exact (Kd.own_of_R (BR HO_8.out))); (case aS => exact (below_size (BB))); (case aL => have := LMc12.out; omega); intro v145 w16 ho0 hb hg; have ho := Kd.R_of_own (h1 := fun _ => rfl) (ok := fun _ => True) ho0 (fun _ _ => trivial); clear ho0; have hat := True.intro; rw [← Ny144.out] at ho; change Kd.R (Kd.int .u8) 5 w16 w.heap.size (fun _ => True) v145 y144 at ho; have n0_ := Aside0.mk (hb); have n1_ := Aside0.mk (ho); clear HB; clear HO_8; have HB := n0_; have HO146 := n1_; clear n0_ n1_; clear ho hb hg hat) | ((with_reducible refine gate_builtin (b := .append) (xs := #[.tmp 45, .tmp 46]) rfl ?_); at_builtin; refine Kd.R_append (Kd.int .u8) (w0 := w) w.heap.size rfl (.tmp 45) (.tmp 46) 51 5 (.int .u8 0) 1 rfl Tryd.underlying51 info5 rfl (by decide) (by omega) v145 y144 9 [.int .u8 9] (fun _ => True) (fun _ => False) rfl rfl ?aP (fun _ hk => hk.elim) ?aF ?aO ?aB ?aS ?aL ?_; (case aP => exact rfl); (case aB => exact (BB)); (case aF => exact (fun _ _ => trivial)); (case aO => exact (BR HO146.out)); (case aS => exact (below_size (BB))); (case aL => have := LMc13.out; omega); intro v148 w17 ho hb hg hat; rw [← Ny147.out] at ho; have n0_ := Aside0.mk (hb); have n1_ := Aside0.mk (ho); clear HB; clear HO146; have HB := n0_; have HO149 := n1_; clear n0_ n1_; clear ho hb hg hat) | (at_builtin; refine print_append_str (w0 := w) w.heap.size rfl (.tmp 47) _ 51 9 5 rfl Tryd.underlying51 Tryd.underlying9 info5 v148 y147 (rdOf ByteArray.empty l1 x26_1) rfl rfl ?aO ?aB ?aS ?aL ?_; (case aB => exact (BB)); (case aO => exact (Kd.own_of_R (BR HO149.out))); (case aS => exact (below_size (BB))); (case aL => have := LMc14.out; omega); intro v151 w18 ho0 hb hg; have ho := Kd.R_of_own (h1 := fun _ => rfl) (ok := fun _ => True) ho0 (fun _ _ => trivial); clear ho0; have hat := True.intro; rw [← Ny150.out] at ho; change Kd.R (Kd.int .u8) 5 w18 w.heap.size (fun _ => True) v151 y150 at ho; have n0_ := Aside0.mk (hb); have n1_ := Aside0.mk (ho); clear HB; clear HO149; have HB := n0_; have HO152 := n1_; clear n0_ n1_; clear ho hb hg hat) | ((with_reducible refine gate_builtin (b := .append) (xs := #[.tmp 49, .tmp 50]) rfl ?_); at_builtin; refine Kd.R_append (Kd.int .u8) (w0 := w) w.heap.size rfl (.tmp 49) (.tmp 50) 51 5 (.int .u8 0) 1 rfl Tryd.underlying51 info5 rfl (by decide) (by omega) v151 y150 10 [.int .u8 10] (fun _ => True) (fun _ => False) rfl rfl ?aP (fun _ hk => hk.elim) ?aF ?aO ?aB ?aS ?aL ?_; (case aP => exact rfl); (case aB => exact (BB)); (case aF => exact (fun _ _ => trivial)); (case aO => exact (BR HO152.out)); (case aS => exact (below_size (BB))); (case aL => have := LMc15.out; omega); intro v154 w19 ho hb hg hat; rw [← Ny153.out] at ho; have n0_ := Aside0.mk (hb); have n1_ := Aside0.mk (ho); clear HB; clear HO152; have HB := n0_; have HO155 := n1_; clear n0_ n1_; clear ho hb hg hat))
              go_roundg k1
              case measure => have := HK1.out; omega
              case rel => exact ⟨(y153), (wrap64 (x26_1 + 1)), (BE), H', ⟨by have := HK1.out; omega⟩, ⟨BR HO155.out⟩, ⟨BB⟩⟩
             ·
              rw [if_neg c15] at H
              exact absurd H (by simp)
            ·
             rw [if_neg c14] at H
             exact absurd H (by simp)
           ·
            rw [if_neg c13] at H
            exact absurd H (by simp)
          ·
           rw [if_neg c12] at H
           exact absurd H (by simp)
         ·
          rw [if_neg c11] at H
          exact absurd H (by simp)
        ·
         rw [if_neg c10] at H
         have c10b0 : ((rdOf ByteArray.empty l1 x26_1).toList == ([] : List UInt8)) = false := beq_eq_false_iff_ne.mpr c10
         have c10b1 : ((rdOf ByteArray.empty l1 x26_1).toList != ([] : List UInt8)) = true := bne_iff_ne.mpr c10
         replace H := Option.bind_eq_some_iff.mp H
         obtain ⟨t156, A200, H⟩ := H
         replace H : (if t156 = true then (if x26_1 < (l0.length : Int) then (if x8_1.length + 21 < 140737488355328 then ((some (x8_1 ++ bytesOf (itoaS (wrap64 ((rd l0 x26_1) + 1))) : List Int)).bind fun y158 => (if y158.length < 140737488355328 then ((some (y158 ++ [9] : List Int)).bind fun y161 => (if y161.length + (rdOf ByteArray.empty l1 x26_1).size < 140737488355328 then ((some (y161 ++ bytesOf (rdOf ByteArray.empty l1 x26_1) : List Int)).bind fun y164 => (if y164.length < 140737488355328 then (depend_Format.l0 k1 l0 (y164 ++ [10]) l1 (l1.length : Int) (wrap64 (x26_1 + 1))) else (none))) else (none))) else (none))) else (none)) else (none)) else (some ((⟨#[]⟩ : ByteArray), 4))) = some (r1, r2) := H
         have A20 := Aside0.mk A200
         clear A200
         by_cases c21 : t156 = true
         ·
          subst c21
          have H1 : (if x26_1 < (l0.length : Int) then (if x8_1.length + 21 < 140737488355328 then ((some (x8_1 ++ bytesOf (itoaS (wrap64 ((rd l0 x26_1) + 1))) : List Int)).bind fun y158 => (if y158.length < 140737488355328 then ((some (y158 ++ [9] : List Int)).bind fun y161 => (if y161.length + (rdOf ByteArray.empty l1 x26_1).size < 140737488355328 then ((some (y161 ++ bytesOf (rdOf ByteArray.empty l1 x26_1) : List Int)).bind fun y164 => (if y164.length < 140737488355328 then (depend_Format.l0 k1 l0 (y164 ++ [10]) l1 (l1.length : Int) (wrap64 (x26_1 + 1))) else (none))) else (none))) else (none))) else (none)) else (none)) = some (r1, r2) := by rw [if_pos rfl] at H; exact H
          clear H
          have H := H1
          clear H1
          by_cases c22 : x26_1 < (l0.length : Int)
          ·
           rw [if_pos c22] at H
           have c22b0 : decide (x26_1 < (l0.length : Int)) = true := decide_eq_true c22
           clear c22
           by_cases c23 : x8_1.length + 21 < 140737488355328
           ·
            rw [if_pos c23] at H
            have LMc23 := Aside0.mk c23
            clear c23
            obtain ⟨y158, hy158⟩ : ∃ y_ : List Int, y_ = (x8_1 ++ bytesOf (itoaS (wrap64 ((rd l0 x26_1) + 1)))) := ⟨_, rfl⟩
            replace H : (if y158.length < 140737488355328 then ((some (y158 ++ [9] : List Int)).bind fun y161 => (if y161.length + (rdOf ByteArray.empty l1 x26_1).size < 140737488355328 then ((some (y161 ++ bytesOf (rdOf ByteArray.empty l1 x26_1) : List Int)).bind fun y164 => (if y164.length < 140737488355328 then (depend_Format.l0 k1 l0 (y164 ++ [10]) l1 (l1.length : Int) (wrap64 (x26_1 + 1))) else (none))) else (none))) else (none)) = some (r1, r2) := by first | (rw [hy158]; with_reducible exact H) | (have H2_ := (Option.bind_some _ _).symm.trans H; rw [hy158]; with_reducible exact H2_) | (have H2_ := (Option.bind_some _ _).symm.trans H; with_reducible exact H2_) | with_reducible exact H | (rw [hy158]; exact H) | exact H
            have Ny158 := Aside0.mk hy158
            clear hy158
            by_cases c24 : y158.length < 140737488355328
            ·
             rw [if_pos c24] at H
             have LMc24 := Aside0.mk c24
             clear c24
             obtain ⟨y161, hy161⟩ : ∃ y_ : List Int, y_ = (y158 ++ [9]) := ⟨_, rfl⟩
             replace H : (if y161.length + (rdOf ByteArray.empty l1 x26_1).size < 140737488355328 then ((some (y161 ++ bytesOf (rdOf ByteArray.empty l1 x26_1) : List Int)).bind fun y164 => (if y164.length < 140737488355328 then (depend_Format.l0 k1 l0 (y164 ++ [10]) l1 (l1.length : Int) (wrap64 (x26_1 + 1))) else (none))) else (none)) = some (r1, r2) := by first | (rw [hy161]; with_reducible exact H) | (have H2_ := (Option.bind_some _ _).symm.trans H; rw [hy161]; with_reducible exact H2_) | (have H2_ := (Option.bind_some _ _).symm.trans H; with_reducible exact H2_) | with_reducible exact H | (rw [hy161]; exact H) | exact H
             have Ny161 := Aside0.mk hy161
             clear hy161
             by_cases c25 : y161.length + (rdOf ByteArray.empty l1 x26_1).size < 140737488355328
             ·
              rw [if_pos c25] at H
              have LMc25 := Aside0.mk c25
              clear c25
              obtain ⟨y164, hy164⟩ : ∃ y_ : List Int, y_ = (y161 ++ bytesOf (rdOf ByteArray.empty l1 x26_1)) := ⟨_, rfl⟩
              replace H : (if y164.length < 140737488355328 then (depend_Format.l0 k1 l0 (y164 ++ [10]) l1 (l1.length : Int) (wrap64 (x26_1 + 1))) else (none)) = some (r1, r2) := by first | (rw [hy164]; with_reducible exact H) | (have H2_ := (Option.bind_some _ _).symm.trans H; rw [hy164]; with_reducible exact H2_) | (have H2_ := (Option.bind_some _ _).symm.trans H; with_reducible exact H2_) | with_reducible exact H | (rw [hy164]; exact H) | exact H
              have Ny164 := Aside0.mk hy164
              clear hy164
              by_cases c26 : y164.length < 140737488355328
              ·
               rw [if_pos c26] at H
               have LMc26 := Aside0.mk c26
               clear c26
               obtain ⟨y167, hy167⟩ : ∃ y_ : List Int, y_ = (y164 ++ [10]) := ⟨_, rfl⟩
               replace H : (depend_Format.l0 k1 l0 y167 l1 (l1.length : Int) (wrap64 (x26_1 + 1))) = some (r1, r2) := by first | (rw [hy167]; with_reducible exact H) | (have H2_ := (Option.bind_some _ _).symm.trans H; rw [hy167]; with_reducible exact H2_) | (have H2_ := (Option.bind_some _ _).symm.trans H; with_reducible exact H2_) | with_reducible exact H | (rw [hy167]; exact H) | exact H
               have Ny167 := Aside0.mk hy167
               clear hy167
               have H' := Aside0.mk H
               clear H
               have p142 : 0 ≤ (x26_1 : Int) := OD
               have q142 : x26_1 < (l1.length : Int) := OD
               obtain ⟨ad142, e142, hx142_0⟩ := Kd.at_string HR1.out x26_1 p142 q142
               cases e142
               replace hx142_0 := (HB.out.cell (World.block_lt_of_cell? w _ hx142_0)).trans hx142_0
               replace p142 := eq_true p142
               replace q142 := eq_true q142
               go_wp2_with (first | (go_at_call 14; (with_reducible refine (markup_ValidName.calls k1 (rdOf ByteArray.empty l1 x26_1) true _ A20.out).mono ?_); rintro e w' ⟨rfl, ⟨nd, rfl⟩⟩; have p157 : 0 ≤ (x26_1 : Int) := OD; have q157 : x26_1 < (l0.length : Int) := OD; obtain ⟨ad157, e157, hx157_0⟩ := Kd.at_int HR0.out x26_1 p157 q157; cases e157; replace hx157_0 := (HB.out.cell (World.block_lt_of_cell? w _ hx157_0)).trans hx157_0; replace p157 := eq_true p157; replace q157 := eq_true q157) | ((with_reducible refine gate_callee (f := 15) rfl ?_); refine append_int.step (w0 := w) rfl rfl (.tmp 38) (.tmp 43) rfl htab u8 x8_1 (wrap64 ((rd l0 x26_1) + 1)) rfl rfl (by first | exact append_int.in_ _ | omega) ?aO ?aB ?aS ?aL ?_; (case aB => exact (BB)); (case aO => exact (Kd.own_of_R (BR HO_8.out))); (case aS => exact (below_size (BB))); (case aL => have := LMc23.out; omega); intro v159 w27 ho0 hb hg; have ho := Kd.R_of_own (h1 := fun _ => rfl) (ok := fun _ => True) ho0 (fun _ _ => trivial); clear ho0; have hat := True.intro; rw [← Ny158.out] at ho; change Kd.R (Kd.int .u8) 5 w27 w.heap.size (fun _ => True) v159 y158 at ho; have n0_ := Aside0.mk (hb); have n1_ := Aside0.mk (ho); clear HB; clear HO_8; have HB := n0_; have HO160 := n1_; clear n0_ n1_; clear ho hb hg hat) | ((with_reducible refine gate_builtin (b := .append) (xs := #[.tmp 45, .tmp 46]) rfl ?_); at_builtin; refine Kd.R_append (Kd.int .u8) (w0 := w) w.heap.size rfl (.tmp 45) (.tmp 46) 51 5 (.int .u8 0) 1 rfl Tryd.underlying51 info5 rfl (by decide) (by omega) v159 y158 9 [.int .u8 9] (fun _ => True) (fun _ => False) rfl rfl ?aP (fun _ hk => hk.elim) ?aF ?aO ?aB ?aS ?aL ?_; (case aP => exact rfl); (case aB => exact (BB)); (case aF => exact (fun _ _ => trivial)); (case aO => exact (BR HO160.out)); (case aS => exact (below_size (BB))); (case aL => have := LMc24.out; omega); intro v162 w28 ho hb hg hat; rw [← Ny161.out] at ho; have n0_ := Aside0.mk (hb); have n1_ := Aside0.mk (ho); clear HB; clear HO160; have HB := n0_; have HO163 := n1_; clear n0_ n1_; clear ho hb hg hat) | (at_builtin; refine print_append_str (w0 := w) w.heap.size rfl (.tmp 47) _ 51 9 5 rfl Tryd.underlying51 Tryd.underlying9 info5 v162 y161 (rdOf ByteArray.empty l1 x26_1) rfl rfl ?aO ?aB ?aS ?aL ?_; (case aB => exact (BB)); (case aO => exact (Kd.own_of_R (BR HO163.out))); (case aS => exact (below_size (BB))); (case aL => have := LMc25.out; omega); intro v165 w29 ho0 hb hg; have ho := Kd.R_of_own (h1 := fun _ => rfl) (ok := fun _ => True) ho0 (fun _ _ => trivial); clear ho0; have hat := True.intro; rw [← Ny164.out] at ho; change Kd.R (Kd.int .u8) 5 w29 w.heap.size (fun _ => True) v165 y164 at ho; have n0_ := Aside0.mk (hb); have n1_ := Aside0.mk (ho); clear HB; clear HO163; have HB := n0_; have HO166 := n1_; clear n0_ n1_; clear ho hb hg hat) | ((with_reducible refine gate_builtin (b := .append) (xs := #[.tmp 49, .tmp 50]) rfl ?_); at_builtin; refine Kd.R_append (Kd.int .u8) (w0 := w) w.heap.size rfl (.tmp 49) (.tmp 50) 51 5 (.int .u8 0) 1 rfl Tryd.underlying51 info5 rfl (by decide) (by omega) v165 y164 10 [.int .u8 10] (fun _ => True) (fun _ => False) rfl rfl ?aP (fun _ hk => hk.elim) ?aF ?aO ?aB ?aS ?aL ?_; (case aP => exact rfl); (case aB => exact (BB)); (case aF => exact (fun _ _ => trivial)); (case aO => exact (BR HO166.out)); (case aS => exact (below_size (BB))); (case aL => have := LMc26.out; omega); intro v168 w30 ho hb hg hat; rw [← Ny167.out] at ho; have n0_ := Aside0.mk (hb); have n1_ := Aside0.mk (ho); clear HB; clear HO166; have HB := n0_; have HO169 := n1_; clear n0_ n1_; clear ho hb hg hat))
               go_roundg k1
               case measure => have := HK1.out; omega
               case rel => exact ⟨(y167), (wrap64 (x26_1 + 1)), (BE), H', ⟨by have := HK1.out; omega⟩, ⟨BR HO169.out⟩, ⟨BB⟩⟩
              ·
               rw [if_neg c26] at H
               exact absurd H (by simp)
             ·
              rw [if_neg c25] at H
              exact absurd H (by simp)
            ·
             rw [if_neg c24] at H
             exact absurd H (by simp)
           ·
            rw [if_neg c23] at H
            exact absurd H (by simp)
          ·
           rw [if_neg c22] at H
           exact absurd H (by simp)
         ·
          replace c21 := Bool.eq_false_iff.mpr c21
          subst c21
          have H1 : (some ((⟨#[]⟩ : ByteArray), 4)) = some (r1, r2) := by rw [if_neg (show ¬ (false = true) by decide)] at H; exact H
          clear H
          have H := H1
          clear H1
          simp only [Option.some.injEq, Prod.mk.injEq] at H
          obtain ⟨rfl, rfl⟩ := H
          have p142 : 0 ≤ (x26_1 : Int) := OD
          have q142 : x26_1 < (l1.length : Int) := OD
          obtain ⟨ad142, e142, hx142_0⟩ := Kd.at_string HR1.out x26_1 p142 q142
          cases e142
          replace hx142_0 := (HB.out.cell (World.block_lt_of_cell? w _ hx142_0)).trans hx142_0
          replace p142 := eq_true p142
          replace q142 := eq_true q142
          go_wp2_with (first | (go_at_call 14; (with_reducible refine (markup_ValidName.calls k1 (rdOf ByteArray.empty l1 x26_1) false _ A20.out).mono ?_); rintro e w' ⟨rfl, ⟨nd, rfl⟩⟩))
          go_ret2
          exact ⟨BX, BB⟩
       ·
        rw [if_neg c9] at H
        exact absurd H (by simp)
      ·
       rw [if_neg c8] at H
       exact absurd H (by simp)
     ·
      rw [if_neg c7] at H
      have c7b0 : decide (x26_1 < (l1.length : Int)) = false := decide_eq_false c7
      clear c7
      simp only [Option.some.injEq, Prod.mk.injEq] at H
      obtain ⟨rfl, rfl⟩ := H
      have hcv31 := own_string (P := Tryd.prog) Tryd.underlying51 Tryd.underlying5 Tryd.underlying9 (Kd.own_of_R HO_8.out)
      go_wp2
      go_ret2
      exact ⟨BX, BB⟩
  ·
   rw [if_neg c5] at H
   have c5b0 : ((l0.length : Int) == (l1.length : Int)) = false := beq_eq_false_iff_ne.mpr c5
   have c5b1 : ((l0.length : Int) != (l1.length : Int)) = true := bne_iff_ne.mpr c5
   have c5b2 : (l0.length == l1.length) = false := by first | simpa using c5 | (simp at c5 ⊢; omega)
   simp only [Option.some.injEq, Prod.mk.injEq] at H
   obtain ⟨rfl, rfl⟩ := H
   go_enter Tryd.func6, Tryd.ntmps6
   go_wp2_with (first | ((with_reducible refine gate_callee (f := 13) rfl ?_); refine goesL_ (some 13) rfl rfl Tryd.func13 (by kernel_rfl) rfl #[.slice A0 l0.length c0] rfl BM ?_; (with_reducible refine (depend_Check.calls k _ _ l0 t140 t141 _ ?side1 ?side2 A3.out).mono ?_); (case side1 => exact BK HR0.out); (case side2 => exact HC0.out); rintro e w32 ⟨rfl, hb⟩; refine ⟨_, rfl, ?_⟩; have n0_ := Aside0.mk (below_step (BB) hb); clear HB; have HB := n0_; clear n0_; (try clear hb); (try clear hb2); (try clear hk); (try clear hi)))
   go_ret2
   exact ⟨BX, BB⟩
 ·
  rw [if_neg c4] at H
  have c4b0 : (t141 == 0) = false := beq_eq_false_iff_ne.mpr c4
  have c4b1 : (t141 != 0) = true := bne_iff_ne.mpr c4
  simp only [Option.some.injEq, Prod.mk.injEq] at H
  obtain ⟨rfl, rfl⟩ := H
  go_enter Tryd.func6, Tryd.ntmps6
  go_wp2_with (first | ((with_reducible refine gate_callee (f := 13) rfl ?_); refine goesL_ (some 13) rfl rfl Tryd.func13 (by kernel_rfl) rfl #[.slice A0 l0.length c0] rfl BM ?_; (with_reducible refine (depend_Check.calls k _ _ l0 t140 t141 _ ?side1 ?side2 A3.out).mono ?_); (case side1 => exact BK HR0.out); (case side2 => exact HC0.out); rintro e w33 ⟨rfl, hb⟩; refine ⟨_, rfl, ?_⟩; have n0_ := Aside0.mk (below_step (BB) hb); clear HB; have HB := n0_; clear n0_; (try clear hb); (try clear hb2); (try clear hk); (try clear hi)))
  go_ret2
  exact ⟨BX, BB⟩

end Go.Proofs.YtkanmafjjejpmaaDoor.P
