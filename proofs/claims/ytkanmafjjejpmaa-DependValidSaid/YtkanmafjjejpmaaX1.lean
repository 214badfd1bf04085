/- The contract of corporaref01.Units, whose range over a string the print does not take. No condition. -/
import Derived.Test.YtkanmafjjejpmaaPx0
namespace Go.Proofs.Ytkanmafjjejpmaa.P
open Go.Proofs.Ytkanmafjjejpmaa.S
open Go.Proofs.Ytkanmafjjejpmaa.X
open Go.RowKit Go.Proofs.YtkanmafjjejpmaaW.PrintWords Go.Proofs.YtkanmafjjejpmaaW.PrintLast Go.Proofs.YtkanmafjjejpmaaW.PrintMore
attribute [local go_sem] max2_int min2_int max_two min_two max_three min_three max_four min_four   -- for this text's walks alone
set_option linter.unusedVariables false
set_option linter.unusedSimpArgs false


theorem iter_ne {α : Type} {d : Kd α} {e : Nat} {w : World} {base : Nat} {ok : Nat → Prop} {v : Value} {xs : List α} {g : Nat} {s : ByteArray} {n : Nat} (h : d.R e w base ok v xs) (hi : w.heap[g]? = some (.stringIter s n)) : some g ≠ v.ownBlock := fun he => by
 obtain ⟨c, hc⟩ := Kd.R_typed h g he.symm
 rw [hi] at hc
 cases hc
theorem iter_grownBy (w : World) (k : Nat) (s : ByteArray) (p : Nat) : w.grownBy (w.iterAt k s p) (some k) := ⟨rfl, rfl, rfl, Nat.le_of_eq (Lib.iterAt_size _ _ _ _).symm, fun j _ hj => Lib.iterAt_other _ _ _ _ _ (fun e => hj (by rw [e]))⟩
theorem iter_kept {α : Type} {d : Kd α} {e : Nat} {w w2 : World} {base : Nat} {ok : Nat → Prop} {v : Value} {xs : List α} {g : Nat} {s : ByteArray} {n : Nat} (hg : w.grownBy w2 v.ownBlock) (h : d.R e w base ok v xs) (hi : w.heap[g]? = some (.stringIter s n)) : w2.heap[g]? = some (.stringIter s n) := blk_grown hi hg (iter_ne h hi)
theorem info58 : (Try.prog.info? 58).map (fun i => (i.zero, i.size, i.bytes)) = some (some (.agg #[(.int .i32 0), (.int .i64 0), (.int .i64 0), (.bool false)]), 4, 32) := by kernel_rfl
/-! ### corporaref01_Units: function 38 -/
mutual
def corporaref01_Units.l0 : Nat → ByteArray → List (S58) → ByteArray → Int → Option ((List (S58)))
  | 0, _, _, _, _ => none
  | k + 1, x0, x3, x7, x102000 => if x102000 < (x7.size : Int) then (if (x3.length : Int) > 0 then (if 0 ≤ (wrap64 ((x3.length : Int) - 1)) then (if (wrap64 ((x3.length : Int) - 1)) < (x3.length : Int) then ((some (x3.set ((wrap64 ((x3.length : Int) - 1)) : Int).toNat (⟨(rd_T58 x3 (wrap64 ((x3.length : Int) - 1))).f0, (rd_T58 x3 (wrap64 ((x3.length : Int) - 1))).f1, wrap64 (x102000 - ((rd_T58 x3 (wrap64 ((x3.length : Int) - 1))).f1)), (rd_T58 x3 (wrap64 ((x3.length : Int) - 1))).f3⟩ : S58) : List (S58))).bind fun y103 => (if y103.length < 4398046511104 then (corporaref01_Units.l0 k x0 (y103 ++ [(⟨runeAt x7 x102000, x102000, 0, false⟩ : S58)]) x7 (x102000 + widthAt x7 x102000)) else (none))) else (none)) else (none)) else (if x3.length < 4398046511104 then (corporaref01_Units.l0 k x0 (x3 ++ [(⟨runeAt x7 x102000, x102000, 0, false⟩ : S58)]) x7 (x102000 + widthAt x7 x102000)) else (none))) else (if (x3.length : Int) > 0 then (if 0 ≤ (wrap64 ((x3.length : Int) - 1)) then (if (wrap64 ((x3.length : Int) - 1)) < (x3.length : Int) then (corporaref01_Units.j1 k (x3.set ((wrap64 ((x3.length : Int) - 1)) : Int).toNat (⟨(rd_T58 x3 (wrap64 ((x3.length : Int) - 1))).f0, (rd_T58 x3 (wrap64 ((x3.length : Int) - 1))).f1, wrap64 ((x0.size : Int) - ((rd_T58 x3 (wrap64 ((x3.length : Int) - 1))).f1)), (rd_T58 x3 (wrap64 ((x3.length : Int) - 1))).f3⟩ : S58))) else (none)) else (none)) else (corporaref01_Units.j1 k x3))
def corporaref01_Units.j1 : Nat → List (S58) → Option ((List (S58)))
  | 0, _ => none
  | k + 1, x3 => corporaref01_Units.l1 k x3 (x3.length : Int) 0
def corporaref01_Units.l1 : Nat → List (S58) → Int → Int → Option ((List (S58)))
  | 0, _, _, _ => none
  | k + 1, x3, x57, x58 => if x58 < x57 then (if 0 ≤ x58 then (if x58 < (x3.length : Int) then (if ((rd_T58 x3 x58).f0) = 65533 then (corporaref01_Units.l1 k (x3.set (x58 : Int).toNat (⟨(rd_T58 x3 x58).f0, (rd_T58 x3 x58).f1, (rd_T58 x3 x58).f2, (((rd_T58 x3 x58).f2) == 3)⟩ : S58)) x57 (wrap64 (x58 + 1))) else (corporaref01_Units.l1 k (x3.set (x58 : Int).toNat (⟨(rd_T58 x3 x58).f0, (rd_T58 x3 x58).f1, (rd_T58 x3 x58).f2, true⟩ : S58)) x57 (wrap64 (x58 + 1)))) else (none)) else (none)) else (some x3)
end
def corporaref01_Units.f (k : Nat) (a0 : ByteArray) : Option ((List (S58))) := corporaref01_Units.l0 k a0 ([] : List (S58)) a0 0
theorem corporaref01_Units.mono_l : ∀ k, (∀ y0 y1 y2 y3, LeO (corporaref01_Units.l0 k y0 y1 y2 y3) (corporaref01_Units.l0 (k + 1) y0 y1 y2 y3)) ∧ (∀ y0, LeO (corporaref01_Units.j1 k y0) (corporaref01_Units.j1 (k + 1) y0)) ∧ (∀ y0 y1 y2, LeO (corporaref01_Units.l1 k y0 y1 y2) (corporaref01_Units.l1 (k + 1) y0 y1 y2))
 | 0 => ⟨fun _ _ _ _ r h => by simp [corporaref01_Units.l0] at h, fun _ r h => by simp [corporaref01_Units.j1] at h, fun _ _ _ r h => by simp [corporaref01_Units.l1] at h⟩
 | k + 1 => by
  obtain ⟨ih0, ih1, ih2⟩ := corporaref01_Units.mono_l k
  refine ⟨?_, ?_, ?_⟩
  ·
   intro y0 y1 y2 y3
   unfold corporaref01_Units.l0
   with_reducible repeat' first | exact ih0 _ _ _ _ | exact ih1 _ | exact ih2 _ _ _ | exact LeO.refl _ | exact LeO.none _ | refine LeO.ite ?_ ?_ | refine LeO.bind ?_ (fun _ => ?_)
  ·
   intro y0
   unfold corporaref01_Units.j1
   with_reducible repeat' first | exact ih0 _ _ _ _ | exact ih1 _ | exact ih2 _ _ _ | exact LeO.refl _ | exact LeO.none _ | refine LeO.ite ?_ ?_ | refine LeO.bind ?_ (fun _ => ?_)
  ·
   intro y0 y1 y2
   unfold corporaref01_Units.l1
   with_reducible repeat' first | exact ih0 _ _ _ _ | exact ih1 _ | exact ih2 _ _ _ | exact LeO.refl _ | exact LeO.none _ | refine LeO.ite ?_ ?_ | refine LeO.bind ?_ (fun _ => ?_)
theorem corporaref01_Units.mono : ∀ a0 k, LeO (corporaref01_Units.f k a0) (corporaref01_Units.f (k + 1) a0) := by
 intro a0 k
 obtain ⟨ih0, ih1, ih2⟩ := corporaref01_Units.mono_l k
 unfold corporaref01_Units.f
 with_reducible repeat' first | exact ih0 _ _ _ _ | exact ih1 _ | exact ih2 _ _ _ | exact LeO.refl _ | exact LeO.none _ | refine LeO.ite ?_ ?_ | refine LeO.bind ?_ (fun _ => ?_)
set_option maxHeartbeats 8000000 in
set_option maxRecDepth 100000 in
theorem corporaref01_Units.calls (k : Nat) (a0 : ByteArray) (r : List (S58)) (w : World) (h : corporaref01_Units.f k a0 = some r) :
 Calls Try.prog 38 #[.string a0] w fun e w' => ∃ v0_ : Value, e = .returned (v0_) ∧ Kd.R k58 58 w' w.heap.size (fun _ => True) v0_ r ∧ Below w.heap.size w w' := by
 have hu58 := Try.underlying58
 have HB := Aside0.mk (Below.refl w.heap.size w)
 have H : (corporaref01_Units.l0 k a0 ([] : List (S58)) a0 0) = some r := h
 clear h
 have H' := Aside0.mk H
 clear H
 go_enter Try.func38, Try.ntmps38
 go_wp2
 go_loopg [3] k (fun kq v3 w' => ∃ (x3_1 : List (S58)) (x102000_1 : Int), Aside0 (corporaref01_Units.l0 kq a0 x3_1 a0 x102000_1 = some r) ∧ Aside0 (kq ≤ k) ∧ Aside0 (Kd.R k58 58 w' w.heap.size (fun _ => True) v3 x3_1) ∧ Aside0 (w'.heap[w.heap.size]? = some (.stringIter a0 x102000_1.toNat)) ∧ Aside0 (0 ≤ x102000_1) ∧ Aside0 (Below w.heap.size w w'))
 case atStart => exact ⟨(([] : List (S58))), (0), H', ⟨Nat.le_refl _⟩, ⟨by first | exact Kd.R_nil _ _ _ _ _ | exact Kd.N_nil _ _ _ _ _ | exact Kd.V_nil _ _ _ _ _ | exact Kd.Q_nil _ _ _ _ _ | exact Kd.S_nil _ _ _ _ _⟩, ⟨blk_new w _⟩, ⟨Int.le_refl _⟩, ⟨below_alloc HB.out _⟩⟩
 case round =>
  clear H'
  obtain ⟨x3_1, x102000_1, HA, HK1, HO_3, HI, HN, HB⟩ := hrel
  cases gk with
  | zero => exact absurd HA.out (by simp [corporaref01_Units.l0])
  | succ k1 =>
   have H := HA.out
   clear HA
   simp only [corporaref01_Units.l0] at H
   by_cases c2 : x102000_1 < (a0.size : Int)
   ·
    rw [if_pos c2] at H
    have c2b0 : decide (x102000_1 < (a0.size : Int)) = true := decide_eq_true c2
    have hlt : x102000_1.toNat < a0.size := by have := HN.out; omega
    obtain ⟨W2, hW2⟩ : ∃ W2, W2 = wr.iterAt w.heap.size a0 (x102000_1.toNat + (Utf8.decode a0 x102000_1.toNat).2) := ⟨_, rfl⟩
    have hcast : ((x102000_1.toNat : Nat) : Int) = x102000_1 := Int.toNat_of_nonneg HN.out
    have hnx : ∀ ty, (Instr.next (.pointer (some ⟨w.heap.size, 0, none⟩)) true ty).run Try.prog wr = .ok (.tuple #[.bool true, .int .i64 x102000_1, .int .i32 (runeAt a0 x102000_1)]) W2 := fun ty => by have h_ := Lib.run_next_any_at (P := Try.prog) wr w.heap.size a0 x102000_1.toNat ty HI.out hlt; rw [hcast] at h_; rw [hW2]; exact h_
    have HO_3n := Aside0.mk (Kd.R_grown1 HO_3.out rfl (by rw [hW2]; exact iter_grownBy wr w.heap.size a0 _) (iter_ne HO_3.out HI.out) : Kd.R k58 58 W2 w.heap.size (fun _ => True) _ x3_1)
    have HBn := Aside0.mk (by rw [hW2]; exact Lib.below_iterAt HB.out (Nat.le_refl _) _ _ : Below w.heap.size w W2)
    have HIn := Aside0.mk (by rw [hW2, show (x102000_1 + widthAt a0 x102000_1).toNat = x102000_1.toNat + (Utf8.decode a0 x102000_1.toNat).2 from by unfold widthAt; have := HN.out; omega]; exact Lib.iterAt_heap _ _ _ _ _ HI.out : W2.heap[w.heap.size]? = some (.stringIter a0 (x102000_1 + widthAt a0 x102000_1).toNat))
    have HNn := Aside0.mk (by unfold widthAt; have := HN.out; omega : 0 ≤ x102000_1 + widthAt a0 x102000_1)
    clear hW2 HO_3 HB HI HN hlt hcast
    have HO_3 := HO_3n
    have HB := HBn
    have HI := HIn
    have HN := HNn
    clear HO_3n HBn HIn HNn
    clear c2
    by_cases c3 : (x3_1.length : Int) > 0
    ·
     rw [if_pos c3] at H
     have c3b0 : decide (0 < (x3_1.length : Int)) = true := decide_eq_true c3
     have c3b1 : decide (0 < x3_1.length) = true := decide_eq_true (by omega)
     clear c3
     obtain ⟨ji4, hji4⟩ : ∃ j_ : Int, (wrap64 ((x3_1.length : Int) - 1)) = j_ := ⟨_, rfl⟩
     replace H : (if 0 ≤ (ji4) then (if (ji4) < (x3_1.length : Int) then ((some (x3_1.set ((ji4) : Int).toNat (⟨(rd_T58 x3_1 (ji4)).f0, (rd_T58 x3_1 (ji4)).f1, wrap64 (x102000_1 - ((rd_T58 x3_1 (ji4)).f1)), (rd_T58 x3_1 (ji4)).f3⟩ : S58) : List (S58))).bind fun y103 => (if y103.length < 4398046511104 then (corporaref01_Units.l0 k1 a0 (y103 ++ [(⟨runeAt a0 x102000_1, x102000_1, 0, false⟩ : S58)]) a0 (x102000_1 + widthAt a0 x102000_1)) else (none))) else (none)) else (none)) = some r := by first | (rw [hji4] at H; exact H) | (simp only [hji4] at H ⊢; exact H)
     have hji4w : (IntKind.i64.wrap ((x3_1.length : Int) - 1)) = ji4 := (i64_w _).trans hji4
     by_cases c5 : 0 ≤ (ji4)
     ·
      rw [if_pos c5] at H
      have c5b0 : decide (0 ≤ (ji4)) = true := decide_eq_true c5
      clear c5
      by_cases c6 : (ji4) < (x3_1.length : Int)
      ·
       rw [if_pos c6] at H
       have c6b0 : decide ((ji4) < (x3_1.length : Int)) = true := decide_eq_true c6
       clear c6
       obtain ⟨y103, hy103⟩ : ∃ y_ : List (S58), y_ = (x3_1.set ((ji4) : Int).toNat (⟨(rd_T58 x3_1 (ji4)).f0, (rd_T58 x3_1 (ji4)).f1, wrap64 (x102000_1 - ((rd_T58 x3_1 (ji4)).f1)), (rd_T58 x3_1 (ji4)).f3⟩ : S58)) := ⟨_, rfl⟩
       replace H : (if y103.length < 4398046511104 then (corporaref01_Units.l0 k1 a0 (y103 ++ [(⟨runeAt a0 x102000_1, x102000_1, 0, false⟩ : S58)]) a0 (x102000_1 + widthAt a0 x102000_1)) else (none)) = some r := by first | (rw [hy103]; with_reducible exact H) | (have H2_ := (Option.bind_some _ _).symm.trans H; rw [hy103]; with_reducible exact H2_) | (have H2_ := (Option.bind_some _ _).symm.trans H; with_reducible exact H2_) | with_reducible exact H | (rw [hy103]; exact H) | exact H
       have Ny103 := Aside0.mk hy103
       clear hy103
       by_cases c8 : y103.length < 4398046511104
       ·
        rw [if_pos c8] at H
        have LMc8 := Aside0.mk c8
        clear c8
        obtain ⟨y104, hy104⟩ : ∃ y_ : List (S58), y_ = (y103 ++ [(⟨runeAt a0 x102000_1, x102000_1, 0, false⟩ : S58)]) := ⟨_, rfl⟩
        replace H : (corporaref01_Units.l0 k1 a0 y104 a0 (x102000_1 + widthAt a0 x102000_1)) = some r := by first | (rw [hy104]; with_reducible exact H) | (have H2_ := (Option.bind_some _ _).symm.trans H; rw [hy104]; with_reducible exact H2_) | (have H2_ := (Option.bind_some _ _).symm.trans H; with_reducible exact H2_) | with_reducible exact H | (rw [hy104]; exact H) | exact H
        have Ny104 := Aside0.mk hy104
        clear hy104
        have H' := Aside0.mk H
        clear H
        obtain ⟨Ao9, co9, eo9⟩ := Kd.R_slice HO_3.out
        subst eo9
        have p102 : 0 ≤ ((ji4) : Int) := OD
        have q102 : (ji4) < (x3_1.length : Int) := OD
        obtain ⟨ad102, e102, hx102_0, hx102_1, hx102_2, hx102_3⟩ := at_T58 (Kd.R_reads' HO_3.out).2.2 (ji4) p102 q102
        cases e102
        replace p102 := eq_true p102
        replace q102 := eq_true q102
        have p7 : 0 ≤ ((ji4) : Int) := OD
        have q7 : ((ji4) : Int) < ((x3_1.length : Int) : Int) := OD
        obtain ⟨go7, co7, eo7, gb7, gl7, cl7, HG7⟩ := Kd.R_form HO_3.out (by omega)
        (first | cases eo7 | (injection eo7 with ea_ en_ ec_; (first | subst ea_ | (injection ea_ with ea_; subst ea_)); subst ec_; clear en_))
        have GB7 := Aside0.mk gb7
        have GG7 := Aside0.mk HG7
        clear gb7 gl7 HG7
        (first | simp only [add_plain] at hx102_0 | skip)
        (first | simp only [add_plain] at hx102_1 | skip)
        (first | simp only [add_plain] at hx102_2 | skip)
        (first | simp only [add_plain] at hx102_3 | skip)
        obtain ⟨ce7, hcl7, hM7, hcc7, hfr7⟩ := Kd.R_elem HO_3.out z58 ((ji4) : Int) p7 q7
        obtain rfl := k58_openM hM7
        have hx7_0 : W2.cell? ⟨go7, ((ji4) : Int).toNat * 4, none⟩ = some (.int .i32 ((rd_T58 x3_1 (ji4)).f0)) := hcc7 0 _ rfl
        have hx7_1 : W2.cell? ⟨go7, ((ji4) : Int).toNat * 4 + 1, none⟩ = some (.int .i64 ((rd_T58 x3_1 (ji4)).f1)) := hcc7 1 _ rfl
        have hx7_2 : W2.cell? ⟨go7, ((ji4) : Int).toNat * 4 + 2, none⟩ = some (.int .i64 ((rd_T58 x3_1 (ji4)).f2)) := hcc7 2 _ rfl
        have hx7_3 : W2.cell? ⟨go7, ((ji4) : Int).toNat * 4 + 3, none⟩ = some (.bool ((rd_T58 x3_1 (ji4)).f3)) := hcc7 3 _ rfl
        have hf7_0 : W2.frozen? ⟨go7, ((ji4) : Int).toNat * 4, none⟩ = false := hfr7 0
        have hf7_1 : W2.frozen? ⟨go7, ((ji4) : Int).toNat * 4 + 1, none⟩ = false := hfr7 1
        have hf7_2 : W2.frozen? ⟨go7, ((ji4) : Int).toNat * 4 + 2, none⟩ = false := hfr7 2
        have hf7_3 : W2.frozen? ⟨go7, ((ji4) : Int).toNat * 4 + 3, none⟩ = false := hfr7 3
        clear hcl7 hcc7 hfr7 hM7
        replace p7 := eq_true p7
        replace q7 := eq_true q7
        have HX10 := Aside0.mk (show Kd.R k58 58 W2 w.heap.size (fun _ => True) (.slice (some ⟨go7, 0, none⟩) x3_1.length co9) x3_1 from (BR HO_3.out))
        obtain ⟨ce10, hcl10, hM10, hcc10, hfr10⟩ := Kd.R_elem HX10.out z58 ((ji4) : Int) (OD) (by have h_ : ((ji4) : Int) < ((x3_1.length : Int) : Int) := OD; first | exact h_ | (have e_ := (Kd.R_reads' HO_3.out).1; omega) | simpa using h_)
        obtain rfl := k58_openM hM10
        have HP10 := Kd.R_seg HX10.out ((ji4) : Int) (OD) (by have h_ : ((ji4) : Int) < ((x3_1.length : Int) : Int) := OD; first | exact h_ | (have e_ := (Kd.R_reads' HO_3.out).1; omega) | simpa using h_) (seg := [.int .i64 (wrap64 (x102000_1 - ((rd_T58 x3_1 (ji4)).f1)))]) (j := 2) hcl10 hcc10 (show 3 ≤ 4 from by decide) (x' := (⟨(rd_T58 x3_1 (ji4)).f0, (rd_T58 x3_1 (ji4)).f1, wrap64 (x102000_1 - ((rd_T58 x3_1 (ji4)).f1)), (rd_T58 x3_1 (ji4)).f3⟩ : S58)) (k58_mkM _ _ _ (⟨(rd_T58 x3_1 (ji4)).f0, (rd_T58 x3_1 (ji4)).f1, wrap64 (x102000_1 - ((rd_T58 x3_1 (ji4)).f1)), (rd_T58 x3_1 (ji4)).f3⟩ : S58) ) (fun _ hk => hk)
        have hx10_2 := hcc10 2 _ rfl
        (try simp only [show (k58).sz = 4 from rfl, Nat.mul_one, Nat.add_zero] at hx10_2)
        have hf10_2 := hfr10 2
        (try simp only [show (k58).sz = 4 from rfl, Nat.mul_one, Nat.add_zero] at hf10_2)
        clear hcl10 hcc10 hfr10 hM10
        go_wp2_with (first | ((with_reducible refine gate_store (t := 3) (p := 30) rfl ?_); refine store_event (t := 3) (p := 30) (v := ?vo_w11) (w1 := (W2.setCell ⟨go7, ((ji4) : Int).toNat * 4 + 2, none⟩ (.int .i64 (wrap64 (x102000_1 - ((rd_T58 x3_1 (ji4)).f1)))))) ?hg ?ho ?hn ?hr ?_; (case ho => rfl); (case hg => rfl); (case hn => rfl); (case hr => first | (go_simp; done) | (go_simp; rfl)); intro w11 hw; have hg : W2.grownBy w11 (some go7) := (by rw [hw]; exact HP10.2); have hp_ : Kd.R k58 58 w11 w.heap.size (fun _ => True) (.slice (some ⟨go7, 0, none⟩) x3_1.length co9) y103 := (by rw [hw, Ny103.out]; exact HP10.1); clear HP10; have HI := Aside0.mk (iter_kept hg HX10.out HI.out); have n0_ := Aside0.mk (hp_); have n1_ := Aside0.mk ((by rw [hw]; exact below_set (HB.out) GB7.out : Below w.heap.size w w11)); clear HO_3; clear HB; have HO_3 := n0_; have HB := n1_; clear n0_ n1_; clear hg hw hp_) | ((with_reducible refine gate_builtin (b := .append) (xs := #[.tmp 31, .tmp 35]) rfl ?_); at_builtin; refine Kd.R_append k58 (w0 := w) w.heap.size rfl (.tmp 31) (.tmp 35) 55 58 (.agg #[(.int .i32 0), (.int .i64 0), (.int .i64 0), (.bool false)]) 32 rfl Try.underlying55 info58 rfl (by decide) (by omega) (.slice (some ⟨go7, 0, none⟩) x3_1.length co9) y103 (⟨runeAt a0 x102000_1, x102000_1, 0, false⟩ : S58) [.int .i32 (runeAt a0 x102000_1), .int .i64 x102000_1, .int .i64 0, .bool false] (fun _ => True) (fun _ => False) rfl rfl ?aP (fun _ hk => hk.elim) ?aF ?aO ?aB ?aS ?aL ?_; (case aP => exact k58_mkM _ _ _ (⟨runeAt a0 x102000_1, x102000_1, 0, false⟩ : S58)); (case aB => exact (BB)); (case aF => exact (fun _ _ => trivial)); (case aO => exact (BR HO_3.out)); (case aS => exact (below_size (BB))); (case aL => have := LMc8.out; omega); intro v105 w12 ho hb hg hat; have HI := Aside0.mk (iter_kept hg (BR HO_3.out) (by repeat (first | exact HI.out | apply blk_alloc | apply blk_drewN | apply blk_drew))); rw [← Ny104.out] at ho; have n0_ := Aside0.mk (hb); have n1_ := Aside0.mk (ho); clear HB; clear HO_3; have HB := n0_; have HO106 := n1_; clear n0_ n1_; clear ho hb hg hat))
        go_roundg k1
        case measure => have := HK1.out; omega
        case rel => exact ⟨(y104), (x102000_1 + widthAt a0 x102000_1), H', ⟨by have := HK1.out; omega⟩, ⟨BR HO106.out⟩, ⟨by repeat (first | exact HI.out | apply blk_alloc | apply blk_drewN | apply blk_drew)⟩, HN, ⟨BB⟩⟩
       ·
        rw [if_neg c8] at H
        exact absurd H (by simp)
      ·
       rw [if_neg c6] at H
       exact absurd H (by simp)
     ·
      rw [if_neg c5] at H
      exact absurd H (by simp)
    ·
     rw [if_neg c3] at H
     have c3b0 : decide (0 < (x3_1.length : Int)) = false := decide_eq_false c3
     have c3b1 : decide (0 < x3_1.length) = false := decide_eq_false (by omega)
     clear c3
     by_cases c13 : x3_1.length < 4398046511104
     ·
      rw [if_pos c13] at H
      have LMc13 := Aside0.mk c13
      clear c13
      obtain ⟨y107, hy107⟩ : ∃ y_ : List (S58), y_ = (x3_1 ++ [(⟨runeAt a0 x102000_1, x102000_1, 0, false⟩ : S58)]) := ⟨_, rfl⟩
      replace H : (corporaref01_Units.l0 k1 a0 y107 a0 (x102000_1 + widthAt a0 x102000_1)) = some r := by first | (rw [hy107]; with_reducible exact H) | (have H2_ := (Option.bind_some _ _).symm.trans H; rw [hy107]; with_reducible exact H2_) | (have H2_ := (Option.bind_some _ _).symm.trans H; with_reducible exact H2_) | with_reducible exact H | (rw [hy107]; exact H) | exact H
      have Ny107 := Aside0.mk hy107
      clear hy107
      have H' := Aside0.mk H
      clear H
      obtain ⟨Ao14, co14, eo14⟩ := Kd.R_slice HO_3.out
      subst eo14
      go_wp2_with (first | ((with_reducible refine gate_builtin (b := .append) (xs := #[.tmp 31, .tmp 35]) rfl ?_); at_builtin; refine Kd.R_append k58 (w0 := w) w.heap.size rfl (.tmp 31) (.tmp 35) 55 58 (.agg #[(.int .i32 0), (.int .i64 0), (.int .i64 0), (.bool false)]) 32 rfl Try.underlying55 info58 rfl (by decide) (by omega) (.slice Ao14 x3_1.length co14) x3_1 (⟨runeAt a0 x102000_1, x102000_1, 0, false⟩ : S58) [.int .i32 (runeAt a0 x102000_1), .int .i64 x102000_1, .int .i64 0, .bool false] (fun _ => True) (fun _ => False) rfl rfl ?aP (fun _ hk => hk.elim) ?aF ?aO ?aB ?aS ?aL ?_; (case aP => exact k58_mkM _ _ _ (⟨runeAt a0 x102000_1, x102000_1, 0, false⟩ : S58)); (case aB => exact (BB)); (case aF => exact (fun _ _ => trivial)); (case aO => exact (BR HO_3.out)); (case aS => exact (below_size (BB))); (case aL => have := LMc13.out; omega); intro v108 w15 ho hb hg hat; have HI := Aside0.mk (iter_kept hg (BR HO_3.out) (by repeat (first | exact HI.out | apply blk_alloc | apply blk_drewN | apply blk_drew))); rw [← Ny107.out] at ho; have n0_ := Aside0.mk (hb); have n1_ := Aside0.mk (ho); clear HB; clear HO_3; have HB := n0_; have HO109 := n1_; clear n0_ n1_; clear ho hb hg hat))
      go_roundg k1
      case measure => have := HK1.out; omega
      case rel => exact ⟨(y107), (x102000_1 + widthAt a0 x102000_1), H', ⟨by have := HK1.out; omega⟩, ⟨BR HO109.out⟩, ⟨by repeat (first | exact HI.out | apply blk_alloc | apply blk_drewN | apply blk_drew)⟩, HN, ⟨BB⟩⟩
     ·
      rw [if_neg c13] at H
      exact absurd H (by simp)
   ·
    rw [if_neg c2] at H
    have c2b0 : decide (x102000_1 < (a0.size : Int)) = false := decide_eq_false c2
    have hge : ¬ x102000_1.toNat < a0.size := by have := HN.out; omega
    have hnx : ∀ ty, (Instr.next (.pointer (some ⟨w.heap.size, 0, none⟩)) true ty).run Try.prog wr = .ok (.tuple #[.bool false]) wr := fun ty => Lib.run_next_end_at wr w.heap.size a0 x102000_1.toNat ty HI.out hge
    clear HI HN hge
    clear c2
    have HC16 := Aside0.mk H
    clear H
    obtain ⟨Ao17, co17, eo17⟩ := Kd.R_slice HO_3.out
    subst eo17
    go_upto_if 39 with (fail)
    go_cut [] (fun wc => ∃ (kq : Nat) (x3_15 : List (S58)), Aside0 (corporaref01_Units.j1 kq x3_15 = some r) ∧ Aside0 (kq ≤ k1) ∧ Aside0 (Kd.R k58 58 wc w.heap.size (fun _ => True) (.slice Ao17 x3_1.length co17) x3_15) ∧ Aside0 (Below w.heap.size w wc))
    case first =>
     have H := HC16.out
     clear HC16
     by_cases c18 : (x3_1.length : Int) > 0
     ·
      rw [if_pos c18] at H
      have c18b0 : decide (0 < (x3_1.length : Int)) = true := decide_eq_true c18
      have c18b1 : decide (0 < x3_1.length) = true := decide_eq_true (by omega)
      clear c18
      (first | rw [c18b0] | rw [c18b1] | (simp only [i64_w, i32_w]; rw [c18b0]) | skip)
      obtain ⟨ji19, hji19⟩ : ∃ j_ : Int, (wrap64 ((x3_1.length : Int) - 1)) = j_ := ⟨_, rfl⟩
      replace H : (if 0 ≤ (ji19) then (if (ji19) < (x3_1.length : Int) then (corporaref01_Units.j1 k1 (x3_1.set ((ji19) : Int).toNat (⟨(rd_T58 x3_1 (ji19)).f0, (rd_T58 x3_1 (ji19)).f1, wrap64 ((a0.size : Int) - ((rd_T58 x3_1 (ji19)).f1)), (rd_T58 x3_1 (ji19)).f3⟩ : S58))) else (none)) else (none)) = some r := by first | (rw [hji19] at H; exact H) | (simp only [hji19] at H ⊢; exact H)
      have hji19w : (IntKind.i64.wrap ((x3_1.length : Int) - 1)) = ji19 := (i64_w _).trans hji19
      by_cases c20 : 0 ≤ (ji19)
      ·
       rw [if_pos c20] at H
       have c20b0 : decide (0 ≤ (ji19)) = true := decide_eq_true c20
       clear c20
       by_cases c21 : (ji19) < (x3_1.length : Int)
       ·
        rw [if_pos c21] at H
        have c21b0 : decide ((ji19) < (x3_1.length : Int)) = true := decide_eq_true c21
        clear c21
        obtain ⟨y111, hy111⟩ : ∃ y_ : List (S58), y_ = (x3_1.set ((ji19) : Int).toNat (⟨(rd_T58 x3_1 (ji19)).f0, (rd_T58 x3_1 (ji19)).f1, wrap64 ((a0.size : Int) - ((rd_T58 x3_1 (ji19)).f1)), (rd_T58 x3_1 (ji19)).f3⟩ : S58)) := ⟨_, rfl⟩
        replace H : (corporaref01_Units.j1 k1 y111) = some r := by first | (rw [hy111]; with_reducible exact H) | (have H2_ := (Option.bind_some _ _).symm.trans H; rw [hy111]; with_reducible exact H2_) | (have H2_ := (Option.bind_some _ _).symm.trans H; with_reducible exact H2_) | with_reducible exact H | (rw [hy111]; exact H) | exact H
        have Ny111 := Aside0.mk hy111
        clear hy111
        have H' := Aside0.mk H
        clear H
        have p110 : 0 ≤ ((ji19) : Int) := OD
        have q110 : (ji19) < (x3_1.length : Int) := OD
        obtain ⟨ad110, e110, hx110_0, hx110_1, hx110_2, hx110_3⟩ := at_T58 (Kd.R_reads' HO_3.out).2.2 (ji19) p110 q110
        cases e110
        replace p110 := eq_true p110
        replace q110 := eq_true q110
        have p22 : 0 ≤ ((ji19) : Int) := OD
        have q22 : ((ji19) : Int) < ((x3_1.length : Int) : Int) := OD
        obtain ⟨go22, co22, eo22, gb22, gl22, cl22, HG22⟩ := Kd.R_form HO_3.out (by omega)
        (first | cases eo22 | (injection eo22 with ea_ en_ ec_; (first | subst ea_ | (injection ea_ with ea_; subst ea_)); subst ec_; clear en_))
        have GB22 := Aside0.mk gb22
        have GG22 := Aside0.mk HG22
        clear gb22 gl22 HG22
        (first | simp only [add_plain] at hx110_0 | skip)
        (first | simp only [add_plain] at hx110_1 | skip)
        (first | simp only [add_plain] at hx110_2 | skip)
        (first | simp only [add_plain] at hx110_3 | skip)
        obtain ⟨ce22, hcl22, hM22, hcc22, hfr22⟩ := Kd.R_elem HO_3.out z58 ((ji19) : Int) p22 q22
        obtain rfl := k58_openM hM22
        have hx22_0 : wr.cell? ⟨go22, ((ji19) : Int).toNat * 4, none⟩ = some (.int .i32 ((rd_T58 x3_1 (ji19)).f0)) := hcc22 0 _ rfl
        have hx22_1 : wr.cell? ⟨go22, ((ji19) : Int).toNat * 4 + 1, none⟩ = some (.int .i64 ((rd_T58 x3_1 (ji19)).f1)) := hcc22 1 _ rfl
        have hx22_2 : wr.cell? ⟨go22, ((ji19) : Int).toNat * 4 + 2, none⟩ = some (.int .i64 ((rd_T58 x3_1 (ji19)).f2)) := hcc22 2 _ rfl
        have hx22_3 : wr.cell? ⟨go22, ((ji19) : Int).toNat * 4 + 3, none⟩ = some (.bool ((rd_T58 x3_1 (ji19)).f3)) := hcc22 3 _ rfl
        have hf22_0 : wr.frozen? ⟨go22, ((ji19) : Int).toNat * 4, none⟩ = false := hfr22 0
        have hf22_1 : wr.frozen? ⟨go22, ((ji19) : Int).toNat * 4 + 1, none⟩ = false := hfr22 1
        have hf22_2 : wr.frozen? ⟨go22, ((ji19) : Int).toNat * 4 + 2, none⟩ = false := hfr22 2
        have hf22_3 : wr.frozen? ⟨go22, ((ji19) : Int).toNat * 4 + 3, none⟩ = false := hfr22 3
        clear hcl22 hcc22 hfr22 hM22
        replace p22 := eq_true p22
        replace q22 := eq_true q22
        have HX23 := Aside0.mk (show Kd.R k58 58 wr w.heap.size (fun _ => True) (.slice (some ⟨go22, 0, none⟩) x3_1.length co17) x3_1 from (BR HO_3.out))
        obtain ⟨ce23, hcl23, hM23, hcc23, hfr23⟩ := Kd.R_elem HX23.out z58 ((ji19) : Int) (OD) (by have h_ : ((ji19) : Int) < ((x3_1.length : Int) : Int) := OD; first | exact h_ | (have e_ := (Kd.R_reads' HO_3.out).1; omega) | simpa using h_)
        obtain rfl := k58_openM hM23
        have HP23 := Kd.R_seg HX23.out ((ji19) : Int) (OD) (by have h_ : ((ji19) : Int) < ((x3_1.length : Int) : Int) := OD; first | exact h_ | (have e_ := (Kd.R_reads' HO_3.out).1; omega) | simpa using h_) (seg := [.int .i64 (wrap64 ((a0.size : Int) - ((rd_T58 x3_1 (ji19)).f1)))]) (j := 2) hcl23 hcc23 (show 3 ≤ 4 from by decide) (x' := (⟨(rd_T58 x3_1 (ji19)).f0, (rd_T58 x3_1 (ji19)).f1, wrap64 ((a0.size : Int) - ((rd_T58 x3_1 (ji19)).f1)), (rd_T58 x3_1 (ji19)).f3⟩ : S58)) (k58_mkM _ _ _ (⟨(rd_T58 x3_1 (ji19)).f0, (rd_T58 x3_1 (ji19)).f1, wrap64 ((a0.size : Int) - ((rd_T58 x3_1 (ji19)).f1)), (rd_T58 x3_1 (ji19)).f3⟩ : S58) ) (fun _ hk => hk)
        have hx23_2 := hcc23 2 _ rfl
        (try simp only [show (k58).sz = 4 from rfl, Nat.mul_one, Nat.add_zero] at hx23_2)
        have hf23_2 := hfr23 2
        (try simp only [show (k58).sz = 4 from rfl, Nat.mul_one, Nat.add_zero] at hf23_2)
        clear hcl23 hcc23 hfr23 hM23
        go_wp2_with (first | ((with_reducible refine gate_store (t := 3) (p := 55) rfl ?_); refine store_event (t := 3) (p := 55) (v := ?vo_w24) (w1 := (wr.setCell ⟨go22, ((ji19) : Int).toNat * 4 + 2, none⟩ (.int .i64 (wrap64 ((a0.size : Int) - ((rd_T58 x3_1 (ji19)).f1)))))) ?hg ?ho ?hn ?hr ?_; (case ho => rfl); (case hg => rfl); (case hn => rfl); (case hr => first | (go_simp; done) | (go_simp; rfl)); intro w24 hw; have hg : wr.grownBy w24 (some go22) := (by rw [hw]; exact HP23.2); have hp_ : Kd.R k58 58 w24 w.heap.size (fun _ => True) (.slice (some ⟨go22, 0, none⟩) x3_1.length co17) y111 := (by rw [hw, Ny111.out]; exact HP23.1); clear HP23; have n0_ := Aside0.mk (hp_); have n1_ := Aside0.mk ((by rw [hw]; exact below_set (HB.out) GB22.out : Below w.heap.size w w24)); clear HO_3; clear HB; have HO_3 := n0_; have HB := n1_; clear n0_ n1_; clear hg hw hp_))
        go_meet
        case rel => exact ⟨_, (y111), H', ⟨by have := HK1.out; first | omega | exact Nat.le_refl _⟩, ⟨BR HO_3.out⟩, ⟨BB⟩⟩
       ·
        rw [if_neg c21] at H
        exact absurd H (by simp)
      ·
       rw [if_neg c20] at H
       exact absurd H (by simp)
     ·
      rw [if_neg c18] at H
      have c18b0 : decide (0 < (x3_1.length : Int)) = false := decide_eq_false c18
      have c18b1 : decide (0 < x3_1.length) = false := decide_eq_false (by omega)
      clear c18
      (first | rw [c18b0] | rw [c18b1] | (simp only [i64_w, i32_w]; rw [c18b0]) | skip)
      have H' := Aside0.mk H
      clear H
      go_wp2
      go_meet
      case rel => exact ⟨_, (x3_1), H', ⟨by have := HK1.out; first | omega | exact Nat.le_refl _⟩, ⟨BR HO_3.out⟩, ⟨BB⟩⟩
    case rest =>
     clear HC16
     (try clear c1); (try clear p1); (try clear q1); (try clear hx1); (try clear hf1); (try clear c2); (try clear c2b0); (try clear p2); (try clear q2); (try clear hx2); (try clear hf2); (try clear c3); (try clear c3b0)
     (try clear c3b1); (try clear c5); (try clear c5b0); (try clear c6); (try clear c6b0); (try clear p6); (try clear c7); (try clear p7); (try clear q7); (try clear hx7); (try clear hf7); (try clear c8); (try clear c10)
     (try clear p10); (try clear q10); (try clear hx10); (try clear hf10); (try clear p11); (try clear q11); (try clear hx11); (try clear c13); (try clear c18); (try clear c18b0); (try clear c18b1); (try clear c20); (try clear c20b0)
     (try clear c21); (try clear c21b0); (try clear c22); (try clear p22); (try clear q22); (try clear hx22); (try clear hf22); (try clear c23); (try clear hx23); (try clear hf23); (try clear hx102_0); (try clear hx102_1)
     (try clear hx102_2); (try clear hx102_3); (try clear hx10_2); (try clear hx110_0); (try clear hx110_1); (try clear hx110_2); (try clear hx110_3); (try clear hx22_0); (try clear hx22_1); (try clear hx22_2); (try clear hx22_3)
     (try clear hx23_2); (try clear hx7_0); (try clear hx7_1); (try clear hx7_2); (try clear hx7_3); (try clear p102); (try clear p110); (try clear p22); (try clear p7); (try clear q102); (try clear q110); (try clear q22)
     (try clear q7)
     obtain ⟨kq, x3_15, HA, HJ15, HO_3, HB⟩ := hcut
     have hl3_15 := (Kd.R_reads' HO_3.out).1
     rw [hl3_15] at HO_3
     (try simp only [hl3_15])
     cases kq with
     | zero => exact absurd HA.out (by simp [corporaref01_Units.j1])
     | succ kj15 =>
      have H := HA.out
      clear HA
      simp only [corporaref01_Units.j1] at H
      have H' := Aside0.mk H
      clear H
      go_wp2
      go_loopg [58] kj15 (fun kq v58 w' => ∃ (x3_3 : List (S58)) (x58_3 : Int), v58 = .int .i64 x58_3 ∧ Aside0 (corporaref01_Units.l1 kq x3_3 (x3_15.length : Int) x58_3 = some r) ∧ Aside0 (kq ≤ kj15) ∧ Aside0 (Kd.R k58 58 w' w.heap.size (fun _ => True) (.slice Ao17 x3_15.length co17) x3_3) ∧ Aside0 (Below w.heap.size w w'))
      case atStart => exact ⟨(x3_15), (0), (BE), H', ⟨Nat.le_refl _⟩, ⟨by (try simp only [hl3_15]); (with_reducible repeat (first | apply Kd.R_alloc | apply Kd.R_drewN | apply Kd.R_drew)); exact HO_3.out⟩, ⟨BB⟩⟩
      case round =>
       clear H'
       (try clear c1); (try clear p1); (try clear q1); (try clear hx1); (try clear hf1); (try clear c2); (try clear c2b0); (try clear p2); (try clear q2); (try clear hx2); (try clear hf2); (try clear c3); (try clear c3b0)
       (try clear c3b1); (try clear c5); (try clear c5b0); (try clear c6); (try clear c6b0); (try clear p6); (try clear c7); (try clear p7); (try clear q7); (try clear hx7); (try clear hf7); (try clear c8); (try clear c10)
       (try clear p10); (try clear q10); (try clear hx10); (try clear hf10); (try clear p11); (try clear q11); (try clear hx11); (try clear c13); (try clear c18); (try clear c18b0); (try clear c18b1); (try clear c20)
       (try clear c20b0); (try clear c21); (try clear c21b0); (try clear c22); (try clear p22); (try clear q22); (try clear hx22); (try clear hf22); (try clear c23); (try clear hx23); (try clear hf23); (try clear hx102_0)
       (try clear hx102_1); (try clear hx102_2); (try clear hx102_3); (try clear hx10_2); (try clear hx110_0); (try clear hx110_1); (try clear hx110_2); (try clear hx110_3); (try clear hx22_0); (try clear hx22_1); (try clear hx22_2)
       (try clear hx22_3); (try clear hx23_2); (try clear hx7_0); (try clear hx7_1); (try clear hx7_2); (try clear hx7_3); (try clear p1); (try clear p10); (try clear p102); (try clear p11); (try clear p110); (try clear p2)
       (try clear p22); (try clear p6); (try clear p7); (try clear q1); (try clear q10); (try clear q102); (try clear q11); (try clear q110); (try clear q2); (try clear q22); (try clear q7)
       obtain ⟨x3_3, x58_3, rfl, HA, HK3, HO_3, HB⟩ := hrel
       have hl3_3 := (Kd.R_reads' HO_3.out).1
       rw [hl3_3] at HO_3
       (try simp only [hl3_3])
       cases gk with
       | zero => exact absurd HA.out (by simp [corporaref01_Units.l1])
       | succ k3 =>
        have H := HA.out
        clear HA
        simp only [corporaref01_Units.l1] at H
        by_cases c25 : x58_3 < (x3_15.length : Int)
        ·
         rw [if_pos c25] at H
         have c25b0 : decide (x58_3 < (x3_15.length : Int)) = true := decide_eq_true c25
         clear c25
         by_cases c26 : 0 ≤ x58_3
         ·
          rw [if_pos c26] at H
          have c26b0 : decide (0 ≤ x58_3) = true := decide_eq_true c26
          clear c26
          by_cases c27 : x58_3 < (x3_3.length : Int)
          ·
           rw [if_pos c27] at H
           have c27b0 : decide (x58_3 < (x3_3.length : Int)) = true := decide_eq_true c27
           clear c27
           by_cases c28 : ((rd_T58 x3_3 x58_3).f0) = 65533
           ·
            rw [if_pos c28] at H
            have c28b0 : (((rd_T58 x3_3 x58_3).f0) == 65533) = true := beq_iff_eq.mpr c28
            have c28b1 : (((rd_T58 x3_3 x58_3).f0) != 65533) = false := bne_eq_false_iff_eq.mpr c28
            clear c28
            obtain ⟨y114, hy114⟩ : ∃ y_ : List (S58), y_ = (x3_3.set (x58_3 : Int).toNat (⟨(rd_T58 x3_3 x58_3).f0, (rd_T58 x3_3 x58_3).f1, (rd_T58 x3_3 x58_3).f2, (((rd_T58 x3_3 x58_3).f2) == 3)⟩ : S58)) := ⟨_, rfl⟩
            replace H : (corporaref01_Units.l1 k3 y114 (x3_15.length : Int) (wrap64 (x58_3 + 1))) = some r := by first | (rw [hy114]; with_reducible exact H) | (have H2_ := (Option.bind_some _ _).symm.trans H; rw [hy114]; with_reducible exact H2_) | (have H2_ := (Option.bind_some _ _).symm.trans H; with_reducible exact H2_) | with_reducible exact H | (rw [hy114]; exact H) | exact H
            have Ny114 := Aside0.mk hy114
            clear hy114
            have H' := Aside0.mk H
            clear H
            have p112 : 0 ≤ (x58_3 : Int) := OD
            have q112 : x58_3 < (x3_3.length : Int) := OD
            obtain ⟨ad112, e112, hx112_0, hx112_1, hx112_2, hx112_3⟩ := at_T58 (Kd.R_reads' HO_3.out).2.2 x58_3 p112 q112
            cases e112
            replace p112 := eq_true p112
            replace q112 := eq_true q112
            have p113 : 0 ≤ (x58_3 : Int) := OD
            have q113 : x58_3 < (x3_3.length : Int) := OD
            obtain ⟨ad113, e113, hx113_0, hx113_1, hx113_2, hx113_3⟩ := at_T58 (Kd.R_reads' HO_3.out).2.2 x58_3 p113 q113
            obtain rfl : ad112 = ad113 := (by injection e113)
            replace p113 := eq_true p113
            replace q113 := eq_true q113
            have p29 : 0 ≤ (x58_3 : Int) := OD
            have q29 : (x58_3 : Int) < ((x3_3.length : Int) : Int) := OD
            obtain ⟨go29, co29, eo29, gb29, gl29, cl29, HG29⟩ := Kd.R_form HO_3.out (by omega)
            (first | cases eo29 | (injection eo29 with ea_ en_ ec_; (first | subst ea_ | (injection ea_ with ea_; subst ea_)); subst ec_; clear en_))
            have GB29 := Aside0.mk gb29
            have GG29 := Aside0.mk HG29
            clear gb29 gl29 HG29
            (first | simp only [add_plain] at hx112_0 | skip)
            (first | simp only [add_plain] at hx112_1 | skip)
            (first | simp only [add_plain] at hx112_2 | skip)
            (first | simp only [add_plain] at hx112_3 | skip)
            (first | simp only [add_plain] at hx113_0 | skip)
            (first | simp only [add_plain] at hx113_1 | skip)
            (first | simp only [add_plain] at hx113_2 | skip)
            (first | simp only [add_plain] at hx113_3 | skip)
            obtain ⟨ce29, hcl29, hM29, hcc29, hfr29⟩ := Kd.R_elem HO_3.out z58 (x58_3 : Int) p29 q29
            obtain rfl := k58_openM hM29
            have hx29_0 : wr.cell? ⟨go29, (x58_3 : Int).toNat * 4, none⟩ = some (.int .i32 ((rd_T58 x3_3 x58_3).f0)) := hcc29 0 _ rfl
            have hx29_1 : wr.cell? ⟨go29, (x58_3 : Int).toNat * 4 + 1, none⟩ = some (.int .i64 ((rd_T58 x3_3 x58_3).f1)) := hcc29 1 _ rfl
            have hx29_2 : wr.cell? ⟨go29, (x58_3 : Int).toNat * 4 + 2, none⟩ = some (.int .i64 ((rd_T58 x3_3 x58_3).f2)) := hcc29 2 _ rfl
            have hx29_3 : wr.cell? ⟨go29, (x58_3 : Int).toNat * 4 + 3, none⟩ = some (.bool ((rd_T58 x3_3 x58_3).f3)) := hcc29 3 _ rfl
            have hf29_0 : wr.frozen? ⟨go29, (x58_3 : Int).toNat * 4, none⟩ = false := hfr29 0
            have hf29_1 : wr.frozen? ⟨go29, (x58_3 : Int).toNat * 4 + 1, none⟩ = false := hfr29 1
            have hf29_2 : wr.frozen? ⟨go29, (x58_3 : Int).toNat * 4 + 2, none⟩ = false := hfr29 2
            have hf29_3 : wr.frozen? ⟨go29, (x58_3 : Int).toNat * 4 + 3, none⟩ = false := hfr29 3
            clear hcl29 hcc29 hfr29 hM29
            replace p29 := eq_true p29
            replace q29 := eq_true q29
            have HX30 := Aside0.mk (show Kd.R k58 58 wr w.heap.size (fun _ => True) (.slice (some ⟨go29, 0, none⟩) x3_3.length co17) x3_3 from (BR HO_3.out))
            obtain ⟨ce30, hcl30, hM30, hcc30, hfr30⟩ := Kd.R_elem HX30.out z58 (x58_3 : Int) (OD) (by have h_ : (x58_3 : Int) < ((x3_3.length : Int) : Int) := OD; first | exact h_ | (have e_ := (Kd.R_reads' HO_3.out).1; omega) | simpa using h_)
            obtain rfl := k58_openM hM30
            have HP30 := Kd.R_seg HX30.out (x58_3 : Int) (OD) (by have h_ : (x58_3 : Int) < ((x3_3.length : Int) : Int) := OD; first | exact h_ | (have e_ := (Kd.R_reads' HO_3.out).1; omega) | simpa using h_) (seg := [.bool (((rd_T58 x3_3 x58_3).f2) == 3)]) (j := 3) hcl30 hcc30 (show 4 ≤ 4 from by decide) (x' := (⟨(rd_T58 x3_3 x58_3).f0, (rd_T58 x3_3 x58_3).f1, (rd_T58 x3_3 x58_3).f2, (((rd_T58 x3_3 x58_3).f2) == 3)⟩ : S58)) (k58_mkM _ _ _ (⟨(rd_T58 x3_3 x58_3).f0, (rd_T58 x3_3 x58_3).f1, (rd_T58 x3_3 x58_3).f2, (((rd_T58 x3_3 x58_3).f2) == 3)⟩ : S58) ) (fun _ hk => hk)
            have hx30_3 := hcc30 3 _ rfl
            (try simp only [show (k58).sz = 4 from rfl, Nat.mul_one, Nat.add_zero] at hx30_3)
            have hf30_3 := hfr30 3
            (try simp only [show (k58).sz = 4 from rfl, Nat.mul_one, Nat.add_zero] at hf30_3)
            clear hcl30 hcc30 hfr30 hM30
            go_wp2_with (first | ((with_reducible refine gate_store (t := 4) (p := 78) rfl ?_); refine store_event (t := 4) (p := 78) (v := ?vo_w31) (w1 := (wr.setCell ⟨go29, (x58_3 : Int).toNat * 4 + 3, none⟩ (.bool (((rd_T58 x3_3 x58_3).f2) == 3)))) ?hg ?ho ?hn ?hr ?_; (case ho => rfl); (case hg => rfl); (case hn => rfl); (case hr => first | (go_simp; done) | (go_simp; rfl)); intro w31 hw; have hg : wr.grownBy w31 (some go29) := (by rw [hw]; exact HP30.2); have hp_ : Kd.R k58 58 w31 w.heap.size (fun _ => True) (.slice (some ⟨go29, 0, none⟩) x3_3.length co17) y114 := (by rw [hw, Ny114.out]; exact HP30.1); clear HP30; have n0_ := Aside0.mk (hp_); have n1_ := Aside0.mk ((by rw [hw]; exact below_set (HB.out) GB29.out : Below w.heap.size w w31)); clear HO_3; clear HB; have HO_3 := n0_; have HB := n1_; clear n0_ n1_; clear hg hw hp_))
            (try simp only [← hl3_3])
            go_roundg k3
            case measure => have := HK1.out; have := HJ15.out; have := HK3.out; omega
            case rel => exact ⟨(y114), (wrap64 (x58_3 + 1)), (BE), H', ⟨by have := HK1.out; have := HJ15.out; have := HK3.out; omega⟩, ⟨by (try simp only [hl3_15]); (try simp only [hl3_3]); (with_reducible repeat (first | apply Kd.R_alloc | apply Kd.R_drewN | apply Kd.R_drew)); exact HO_3.out⟩, ⟨BB⟩⟩
           ·
            rw [if_neg c28] at H
            have c28b0 : (((rd_T58 x3_3 x58_3).f0) == 65533) = false := beq_eq_false_iff_ne.mpr c28
            have c28b1 : (((rd_T58 x3_3 x58_3).f0) != 65533) = true := bne_iff_ne.mpr c28
            obtain ⟨y115, hy115⟩ : ∃ y_ : List (S58), y_ = (x3_3.set (x58_3 : Int).toNat (⟨(rd_T58 x3_3 x58_3).f0, (rd_T58 x3_3 x58_3).f1, (rd_T58 x3_3 x58_3).f2, true⟩ : S58)) := ⟨_, rfl⟩
            replace H : (corporaref01_Units.l1 k3 y115 (x3_15.length : Int) (wrap64 (x58_3 + 1))) = some r := by first | (rw [hy115]; with_reducible exact H) | (have H2_ := (Option.bind_some _ _).symm.trans H; rw [hy115]; with_reducible exact H2_) | (have H2_ := (Option.bind_some _ _).symm.trans H; with_reducible exact H2_) | with_reducible exact H | (rw [hy115]; exact H) | exact H
            have Ny115 := Aside0.mk hy115
            clear hy115
            have H' := Aside0.mk H
            clear H
            have p112 : 0 ≤ (x58_3 : Int) := OD
            have q112 : x58_3 < (x3_3.length : Int) := OD
            obtain ⟨ad112, e112, hx112_0, hx112_1, hx112_2, hx112_3⟩ := at_T58 (Kd.R_reads' HO_3.out).2.2 x58_3 p112 q112
            cases e112
            replace p112 := eq_true p112
            replace q112 := eq_true q112
            have p32 : 0 ≤ (x58_3 : Int) := OD
            have q32 : (x58_3 : Int) < ((x3_3.length : Int) : Int) := OD
            obtain ⟨go32, co32, eo32, gb32, gl32, cl32, HG32⟩ := Kd.R_form HO_3.out (by omega)
            (first | cases eo32 | (injection eo32 with ea_ en_ ec_; (first | subst ea_ | (injection ea_ with ea_; subst ea_)); subst ec_; clear en_))
            have GB32 := Aside0.mk gb32
            have GG32 := Aside0.mk HG32
            clear gb32 gl32 HG32
            (first | simp only [add_plain] at hx112_0 | skip)
            (first | simp only [add_plain] at hx112_1 | skip)
            (first | simp only [add_plain] at hx112_2 | skip)
            (first | simp only [add_plain] at hx112_3 | skip)
            obtain ⟨ce32, hcl32, hM32, hcc32, hfr32⟩ := Kd.R_elem HO_3.out z58 (x58_3 : Int) p32 q32
            obtain rfl := k58_openM hM32
            have hx32_0 : wr.cell? ⟨go32, (x58_3 : Int).toNat * 4, none⟩ = some (.int .i32 ((rd_T58 x3_3 x58_3).f0)) := hcc32 0 _ rfl
            have hx32_1 : wr.cell? ⟨go32, (x58_3 : Int).toNat * 4 + 1, none⟩ = some (.int .i64 ((rd_T58 x3_3 x58_3).f1)) := hcc32 1 _ rfl
            have hx32_2 : wr.cell? ⟨go32, (x58_3 : Int).toNat * 4 + 2, none⟩ = some (.int .i64 ((rd_T58 x3_3 x58_3).f2)) := hcc32 2 _ rfl
            have hx32_3 : wr.cell? ⟨go32, (x58_3 : Int).toNat * 4 + 3, none⟩ = some (.bool ((rd_T58 x3_3 x58_3).f3)) := hcc32 3 _ rfl
            have hf32_0 : wr.frozen? ⟨go32, (x58_3 : Int).toNat * 4, none⟩ = false := hfr32 0
            have hf32_1 : wr.frozen? ⟨go32, (x58_3 : Int).toNat * 4 + 1, none⟩ = false := hfr32 1
            have hf32_2 : wr.frozen? ⟨go32, (x58_3 : Int).toNat * 4 + 2, none⟩ = false := hfr32 2
            have hf32_3 : wr.frozen? ⟨go32, (x58_3 : Int).toNat * 4 + 3, none⟩ = false := hfr32 3
            clear hcl32 hcc32 hfr32 hM32
            replace p32 := eq_true p32
            replace q32 := eq_true q32
            have HX33 := Aside0.mk (show Kd.R k58 58 wr w.heap.size (fun _ => True) (.slice (some ⟨go32, 0, none⟩) x3_3.length co17) x3_3 from (BR HO_3.out))
            obtain ⟨ce33, hcl33, hM33, hcc33, hfr33⟩ := Kd.R_elem HX33.out z58 (x58_3 : Int) (OD) (by have h_ : (x58_3 : Int) < ((x3_3.length : Int) : Int) := OD; first | exact h_ | (have e_ := (Kd.R_reads' HO_3.out).1; omega) | simpa using h_)
            obtain rfl := k58_openM hM33
            have HP33 := Kd.R_seg HX33.out (x58_3 : Int) (OD) (by have h_ : (x58_3 : Int) < ((x3_3.length : Int) : Int) := OD; first | exact h_ | (have e_ := (Kd.R_reads' HO_3.out).1; omega) | simpa using h_) (seg := [.bool true]) (j := 3) hcl33 hcc33 (show 4 ≤ 4 from by decide) (x' := (⟨(rd_T58 x3_3 x58_3).f0, (rd_T58 x3_3 x58_3).f1, (rd_T58 x3_3 x58_3).f2, true⟩ : S58)) (k58_mkM _ _ _ (⟨(rd_T58 x3_3 x58_3).f0, (rd_T58 x3_3 x58_3).f1, (rd_T58 x3_3 x58_3).f2, true⟩ : S58) ) (fun _ hk => hk)
            have hx33_3 := hcc33 3 _ rfl
            (try simp only [show (k58).sz = 4 from rfl, Nat.mul_one, Nat.add_zero] at hx33_3)
            have hf33_3 := hfr33 3
            (try simp only [show (k58).sz = 4 from rfl, Nat.mul_one, Nat.add_zero] at hf33_3)
            clear hcl33 hcc33 hfr33 hM33
            go_wp2_with (first | ((with_reducible refine gate_store (t := 4) (p := 78) rfl ?_); refine store_event (t := 4) (p := 78) (v := ?vo_w34) (w1 := (wr.setCell ⟨go32, (x58_3 : Int).toNat * 4 + 3, none⟩ (.bool true))) ?hg ?ho ?hn ?hr ?_; (case ho => rfl); (case hg => rfl); (case hn => rfl); (case hr => first | (go_simp; done) | (go_simp; rfl)); intro w34 hw; have hg : wr.grownBy w34 (some go32) := (by rw [hw]; exact HP33.2); have hp_ : Kd.R k58 58 w34 w.heap.size (fun _ => True) (.slice (some ⟨go32, 0, none⟩) x3_3.length co17) y115 := (by rw [hw, Ny115.out]; exact HP33.1); clear HP33; have n0_ := Aside0.mk (hp_); have n1_ := Aside0.mk ((by rw [hw]; exact below_set (HB.out) GB32.out : Below w.heap.size w w34)); clear HO_3; clear HB; have HO_3 := n0_; have HB := n1_; clear n0_ n1_; clear hg hw hp_))
            (try simp only [← hl3_3])
            go_roundg k3
            case measure => have := HK1.out; have := HJ15.out; have := HK3.out; omega
            case rel => exact ⟨(y115), (wrap64 (x58_3 + 1)), (BE), H', ⟨by have := HK1.out; have := HJ15.out; have := HK3.out; omega⟩, ⟨by (try simp only [hl3_15]); (try simp only [hl3_3]); (with_reducible repeat (first | apply Kd.R_alloc | apply Kd.R_drewN | apply Kd.R_drew)); exact HO_3.out⟩, ⟨BB⟩⟩
          ·
           rw [if_neg c27] at H
           exact absurd H (by simp)
         ·
          rw [if_neg c26] at H
          exact absurd H (by simp)
        ·
         rw [if_neg c25] at H
         have c25b0 : decide (x58_3 < (x3_15.length : Int)) = false := decide_eq_false c25
         (try simp only [hl3_3] at c25b0)
         clear c25
         obtain rfl := Option.some.inj H
         go_wp2
         go_ret
         exact ⟨_, BX, by (with_reducible repeat (first | apply Kd.R_alloc | apply Kd.R_drewN | apply Kd.R_drew)); exact HO_3.out, BB⟩

end Go.Proofs.Ytkanmafjjejpmaa.P
