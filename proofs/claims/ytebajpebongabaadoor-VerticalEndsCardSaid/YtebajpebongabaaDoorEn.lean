/- Several texts in one; each says what it is. No condition beyond theirs. -/
import Derived.WalkKit
import Derived.WalkLawsBesides
import Derived.WalkSpells
import Derived.BigCall
import Derived.IntWalk
import Derived.KernelRfl
import Derived.Lib.Hide
import Derived.Test.YtebajpebongabaaDoorWAll
import Derived.Test.YtebajpebongabaaDoorPs
import Derived.Test.YtebajpebongabaaDoorEq
import Derived.Test.YtebajpebongabaaDoorBo
/- corporalaw07.awake: true. No condition. -/
namespace Go.Proofs.YtebajpebongabaaDoor.V
open Go.RowKit Go.Proofs.YtebajpebongabaaDoorW.PrintWords Go.Proofs.YtebajpebongabaaDoorW.PrintMore Go.Proofs.YtebajpebongabaaDoor.P Go.Proofs.YtebajpebongabaaDoor.X
set_option linter.unusedVariables false
set_option linter.unusedSimpArgs false

theorem eqPos (d : Nat) (w : World) (x0 x1 y0 y1 : Int) :
    (Op.equalIn (d + 2) 32 (.agg #[.int .i64 x0, .int .i64 x1]) (.agg #[.int .i64 y0, .int .i64 y1])).run Tryd.prog w = .ok ((x0 == y0) && (x1 == y1)) w := by
  refine eqA_of Tryd.underlying32 (by kernel_rfl) ?_
  refine eqf_cons (by rfl) (by go_simp; rfl) (by go_simp; rfl) (by go_simp) ?_
  exact eqf_last (by rfl) (by go_simp; rfl) (by go_simp; rfl) (by go_simp)
attribute [local go_sem high] eqPos

abbrev exB : ByteArray := ⟨#[60, 116, 101, 120, 116, 32, 105, 100, 61, 34, 116, 34, 62, 10, 60, 115, 32, 110, 61, 34, 49, 34, 62, 10, 97, 10, 60, 110, 112, 62, 10, 98, 32, 38, 97, 109, 112, 59, 32, 99, 10, 60, 47, 115, 62, 10, 60, 47, 110, 112, 62, 10, 60, 47, 116, 101, 120, 116, 62, 10]⟩
def wordA : List S55 := [⟨⟨#[119, 111, 114, 100]⟩, false⟩]
theorem ex0 : (parseR exB wordA).err = 0 := by kernel_rfl
theorem ex1 : (parseR exB wordA).line = 0 := by kernel_rfl
theorem ex2 : (parseR exB wordA).col = 0 := by kernel_rfl
theorem ex3 : (parseR exB wordA).toks.length = 2 := by kernel_rfl
theorem ex4 : (parseR exB wordA).regs.length = 2 := by kernel_rfl
theorem ex5 : ((parseR exB wordA).regs.getD 1 z58).f0.toList = [110, 112] := by kernel_rfl
theorem ex6 : (parseR ⟨#[97]⟩ wordA).err = 17 := by kernel_rfl
theorem ex7 : (parseR ⟨#[97]⟩ wordA).line = 1 := by kernel_rfl
theorem ex8 : (parseR ⟨#[97]⟩ wordA).col = 1 := by kernel_rfl

theorem word_C {w : World} {g : Nat} (h : w.heap[g]? = some (.cells #[.string ⟨#[119, 111, 114, 100]⟩, .bool false] 55 (0, 0))) : Kd.C k55 w (some ⟨g, 0, none⟩) 1 wordA := by
  refine ⟨rfl, by decide, fun _ => ⟨⟨g, 0, none⟩, rfl, fun j p hj => ?_⟩⟩
  cases j with
  | succ j => simp [wordA] at hj
  | zero =>
    have hp : (⟨⟨#[119, 111, 114, 100]⟩, false⟩ : S55) = p := Option.some.inj hj
    subst hp
    refine ⟨[.string ⟨#[119, 111, 114, 100]⟩, .bool false], rfl, k55_mk _ _, fun i u hi => ?_⟩
    have hadd : (⟨g, 0, none⟩ : Addr).add (0 * k55.sz + i) = ⟨g, i, none⟩ := by
      have e : 0 * k55.sz + i = i := by omega
      rw [e]
      unfold Addr.add
      split <;> simp_all
    rw [hadd, blk_cell h i]
    simpa using hi
theorem parse_b (data : ByteArray) (attrs : List S55) (A : Option Addr) (n c : Nat) (hn : n = attrs.length) (hc : n ≤ c) (w : World) (hds : data.size ≤ 140737488351232) (hK : Kd.C k55 w A n attrs) (r : PRes) (hr : Hid (r = parseR data attrs)) :
    Calls Tryd.prog 5 #[.string data, .slice A n c] w (PPost w r) := by
  subst hn
  rw [hr.out]
  exact parse_any data attrs A c hc w hds hK

set_option maxHeartbeats 16000000 in
set_option maxRecDepth 100000 in
theorem awake_b (w : World) : Calls Tryd.prog 7 #[] w fun e w' => e = .returned (.bool true) ∧ Below w.heap.size w w' := by
  have hu30 := Tryd.underlying30
  have hu32 := Tryd.underlying32
  obtain ⟨r1, hr1⟩ : ∃ r, r = parseR exB wordA := ⟨_, rfl⟩
  obtain ⟨r2, hr2⟩ : ∃ r, r = parseR ⟨#[97]⟩ wordA := ⟨_, rfl⟩
  have E : Hid (r1.err = 0 ∧ r1.line = 0 ∧ r1.col = 0 ∧ r1.toks.length = 2 ∧ r1.regs.length = 2 ∧ (r1.regs.getD 1 z58).f0.toList = [110, 112] ∧ r2.err = 17 ∧ r2.line = 1 ∧ r2.col = 1) := by
    rw [hr1, hr2]
    exact ⟨ex0, ex1, ex2, ex3, ex4, ex5, ex6, ex7, ex8⟩
  have H1 := Lib.hid hr1
  have H2 := Lib.hid hr2
  clear hr1 hr2
  go_enter Tryd.func7, Tryd.ntmps7
  have hwb := blk_new w (.cells #[.string ⟨#[119, 111, 114, 100]⟩, .bool false] 55)
  have HWB := Lib.hid hwb
  clear hwb
  go_upto_region 2 with (fail)
  go_wp2_with (go_at_call 5; (with_reducible refine (parse_b exB wordA _ 1 1 rfl (Nat.le_refl _) _ (by decide) (word_C HWB.out) r1 H1).mono ?_); go_loud (rintro e w1 ⟨va, vt, vx, vr, rfl, ra, rt, rx, rr, hb1⟩; obtain ⟨Aa, ca, rfl⟩ := Kd.R_slice ra; obtain ⟨At, ct, rfl⟩ := Kd.R_slice rt; obtain ⟨Ax, cx, rfl⟩ := Kd.R_slice rx; obtain ⟨Ar, cr, rfl⟩ := Kd.R_slice rr; rw [E.out.1, E.out.2.1, E.out.2.2.1]))
  generalize hW2 : (w1.alloc _).alloc _ = W2
  have hb2 : Below w1.heap.size w1 W2 := by rw [← hW2]; exact below_alloc (below_alloc (Below.refl _ _) _) _
  have hT2 : W2.heap[w1.heap.size]? = some (coObj (.slice Aa r1.att.length ca) (.slice At r1.toks.length ct) (.slice Ax r1.texts.length cx) (.slice Ar r1.regs.length cr)) := by rw [← hW2]; exact blk_alloc (blk_new w1 _) _
  have hT3 : W2.heap[w1.heap.size + 1]? = some (poObj 0 0) := by
    rw [← hW2]
    exact (by simp : (w1.alloc _).heap.size = w1.heap.size + 1) ▸ blk_new (w1.alloc _) _
  have hwb2 := blk_below (blk_below HWB.out hb1) hb2
  have hrr2 := Kd.R_below rr hb2
  have hbA : Below w.heap.size w W2 := ((below_alloc (Below.refl _ _) _).trans (hb1.mono (by simp))).trans (hb2.mono (by have := hb1.size; simp at this; omega))
  have HT := Lib.hid (⟨hT2, hT3⟩ : _ ∧ _)
  have HW2 := Lib.hid hwb2
  have HRR := Lib.hid hrr2
  have HBA := Lib.hid hbA
  clear hW2 hb2 hT2 hT3 hwb2 hrr2 hbA ra rt rx rr hb1
  go_wp2_with (go_at_call 5; (with_reducible refine (parse_b ⟨#[97]⟩ wordA _ 1 1 rfl (Nat.le_refl _) _ (by decide) (word_C HW2.out) r2 H2).mono ?_); go_loud (rintro e w3 ⟨ua, ut, ux, ur, rfl, sa, st, sx, sr, hb3⟩; obtain ⟨Ba, da, rfl⟩ := Kd.R_slice sa; obtain ⟨Bt, dt, rfl⟩ := Kd.R_slice st; obtain ⟨Bx, dx, rfl⟩ := Kd.R_slice sx; obtain ⟨Br, dr, rfl⟩ := Kd.R_slice sr; rw [E.out.2.2.2.2.2.2.1, E.out.2.2.2.2.2.2.2.1, E.out.2.2.2.2.2.2.2.2]; have hT2 := blk_below HT.out.1 hb3; have hT3 := blk_below HT.out.2 hb3; have hl2 : r1.regs.length = 2 := E.out.2.2.2.2.1; obtain ⟨g, cp, hv, -, hcp, -⟩ := R_form (Kd.R_below HRR.out hb3) (by rw [hl2]; decide); injection hv with hA _ hcc; subst hA hcc; obtain ⟨_, how⟩ := Kd.R_own (Kd.R_below HRR.out hb3); have hgl : g < w3.heap.size := own_lt how g rfl; have ngs : ¬ g = w3.heap.size := (by omega); have ngs1 : ¬ g = w3.heap.size + 1 := (by omega); have k1 : w3.cell? ⟨w1.heap.size, 1, none⟩ = some (.slice At 2 ct) := (by rw [← E.out.2.2.2.1]; exact blk_cell hT2 1); have k3 : w3.cell? ⟨w1.heap.size, 3, none⟩ = some (.slice (some ⟨g, 0, none⟩) 2 cr) := (by rw [← hl2]; exact blk_cell hT2 3); have p0 : w3.cell? ⟨w1.heap.size + 1, 0, none⟩ = some (.int .i64 0) := blk_cell hT3 0; have p1 : w3.cell? ⟨w1.heap.size + 1, 1, none⟩ = some (.int .i64 0) := blk_cell hT3 1; obtain ⟨cy, hMy, hcy⟩ := R_at (Kd.R_below HRR.out hb3) rfl 1 (by rw [hl2]; decide); obtain ⟨v3, hcy3, hR3⟩ := k58_openM hMy; obtain ⟨y, hy⟩ : ∃ y, y = r1.regs[1]'(by rw [hl2]; decide) := ⟨_, rfl⟩; rw [← hy] at hcy3; have q4 : w3.cell? ⟨g, 4, none⟩ = some (.string y.f0) := hcy 0 _ (by rw [hcy3]; rfl); have hnp : (y.f0.toList == [110, 112]) = true := (by have h := E.out.2.2.2.2.2.1; rw [List.getD_eq_getElem?_getD, List.getElem?_eq_getElem (by rw [hl2]; decide), Option.getD_some, ← hy] at h; rw [h]; rfl); have hs1 := blk_lt hT2; have hs2 := blk_lt hT3; have HB3 := Lib.hid hb3; clear hT2 hT3 hMy hcy hcy3 hR3 hy hl2 sa st sx sr hb3))
  go_ret
  exact ⟨rfl, below_alloc (below_alloc (HBA.out.trans (HB3.out.mono HBA.out.size)) _) _⟩
end Go.Proofs.YtebajpebongabaaDoor.V
/- corporalaw07.VerticalEnds, walked: true. No condition. -/
namespace Go.Proofs.YtebajpebongabaaDoor.V
open Go.RowKit Go.Proofs.YtebajpebongabaaDoorW.PrintWords Go.Proofs.YtebajpebongabaaDoorW.PrintMore Go.Proofs.YtebajpebongabaaDoor.P Go.Proofs.YtebajpebongabaaDoor.X
set_option linter.unusedVariables false
set_option linter.unusedSimpArgs false
attribute [local go_sem high] eqPos

theorem last_ne {D : ByteArray} {h : D.size - 1 < D.size} (k : ¬ ((D[D.size - 1]'h).toNat : Int) = 10) : D.get! (D.size - 1) ≠ 10 := by
  intro e
  apply k
  have : D[D.size - 1]'h = D.get! (D.size - 1) := by
    rw [get_at]
    show D.data[D.size - 1]'h = _
    rw [List.getD_eq_getElem?_getD, Array.getElem?_toList, Array.getElem?_eq_getElem (by exact h)]
    rfl
  rw [this, e]
  rfl

set_option maxHeartbeats 16000000 in
set_option maxRecDepth 100000 in
theorem ends_walk (data : ByteArray) (attrs : List S55) (A : Option Addr) (c : Nat) (hc : attrs.length ≤ c) (w : World) (hK : Kd.C k55 w A attrs.length attrs) :
    Calls Tryd.prog 4 #[.string data, .slice A attrs.length c] w fun e w' => e = .returned (.bool true) ∧ Below w.heap.size w w' := by
  have hu32 := Tryd.underlying32
  obtain ⟨r1, hr1⟩ : ∃ r, r = parseR data attrs := ⟨_, rfl⟩
  have HK := Lib.hid hK
  have H1 := Lib.hid hr1
  clear hK hr1
  by_cases h0 : data.size = 0
  · have e0 : data = ByteArray.empty := ba_ext (by simpa [← ByteArray.size_data] using h0)
    subst e0
    go_enter Tryd.func4, Tryd.ntmps4
    go_wp2
    go_ret
    exact ⟨rfl, Below.refl _ _⟩
  have hpos : 0 < data.size := by omega
  go_enter Tryd.func4, Tryd.ntmps4
  go_wp2_with (go_at_call 5; (with_reducible refine (parse_b data attrs A attrs.length c rfl hc _ (by omega) HK.out r1 H1).mono ?_); go_loud (rintro e w1 ⟨va, vt, vx, vr, rfl, ra, rt, rx, rr, hb1⟩; obtain ⟨Aa, ca, rfl⟩ := Kd.R_slice ra; obtain ⟨At, ct, rfl⟩ := Kd.R_slice rt; obtain ⟨Ax, cx, rfl⟩ := Kd.R_slice rx; obtain ⟨Ar, cr, rfl⟩ := Kd.R_slice rr; have HE := Lib.hid (ends_same data attrs (by omega) (by omega) (last_ne (by assumption))); have HB := Lib.hid hb1; have hsz : data.size ≤ 3000 := (by omega); have HR := Lib.hid (⟨ra, rt, rx, rr⟩ : _ ∧ _ ∧ _ ∧ _); clear ra rt rx rr hb1))
  all_goals try (go_ret; exact ⟨rfl, Below.refl _ _⟩)
  all_goals try (exfalso; omega)
  generalize hW2 : (w1.alloc _).alloc _ = W2
  have hb2 : Below w1.heap.size w1 W2 := by rw [← hW2]; exact below_alloc (below_alloc (Below.refl _ _) _) _
  have hT2 : W2.heap[w1.heap.size]? = some (coObj (.slice Aa r1.att.length ca) (.slice At r1.toks.length ct) (.slice Ax r1.texts.length cx) (.slice Ar r1.regs.length cr)) := by rw [← hW2]; exact blk_alloc (blk_new w1 _) _
  have hT3 : W2.heap[w1.heap.size + 1]? = some (poObj r1.line r1.col) := by
    rw [← hW2]
    exact (by simp : (w1.alloc _).heap.size = w1.heap.size + 1) ▸ blk_new (w1.alloc _) _
  have hR2 : _ ∧ _ ∧ _ ∧ _ := ⟨Kd.R_below HR.out.1 hb2, Kd.R_below HR.out.2.1 hb2, Kd.R_below HR.out.2.2.1 hb2, Kd.R_below HR.out.2.2.2 hb2⟩
  have hbA : Below w.heap.size w W2 := HB.out.trans (hb2.mono HB.out.size)
  have HR2 := Lib.hid hR2
  have HT := Lib.hid (⟨hT2, hT3⟩ : _ ∧ _)
  have HBA := Lib.hid hbA
  clear hW2 hb2 hT2 hT3 hbA hR2 HR HB
  have hds2 : (data ++ lf).size ≤ 140737488351232 := by rw [lf_size]; omega
  rcases HE.out with E | ⟨E2, E1⟩
  · have H2 : Hid (r1 = parseR (data ++ lf) attrs) := Lib.hid (H1.out.trans E.symm)
    clear HE E
    (with_reducible refine (parse_b (data ++ lf) attrs A attrs.length c rfl hc _ hds2 (Kd.C_below HK.out HBA.out) r1 H2).mono ?_)
    rintro e w3 ⟨ua, ut, ux, ur, rfl, sa, st, sx, sr, hb3⟩
    obtain ⟨Ba, da, rfl, lda, sa⟩ := Kd.R_reads sa
    obtain ⟨Bt, dt, rfl, ldt, st⟩ := Kd.R_reads st
    obtain ⟨Bx, dx, rfl, ldx, sx⟩ := Kd.R_reads sx
    obtain ⟨Br, dr, rfl, ldr, sr⟩ := Kd.R_reads sr
    obtain ⟨Aa', ca', e1, lca, ra⟩ := Kd.R_reads (Kd.R_below HR2.out.1 hb3)
    obtain ⟨At', ct', e2, lct, rt⟩ := Kd.R_reads (Kd.R_below HR2.out.2.1 hb3)
    obtain ⟨Ax', cx', e3, lcx, rx⟩ := Kd.R_reads (Kd.R_below HR2.out.2.2.1 hb3)
    obtain ⟨Ar', cr', e4, lcr, rr⟩ := Kd.R_reads (Kd.R_below HR2.out.2.2.2 hb3)
    injection e1 with e1 _ e1'
    injection e2 with e2 _ e2'
    injection e3 with e3 _ e3'
    injection e4 with e4 _ e4'
    subst e1 e1' e2 e2' e3 e3' e4 e4'
    have SM := Lib.hid (H1.out ▸ parse_small data attrs : Small r1)
    have RA := Lib.hid (⟨ra, rt, rx, rr⟩ : _ ∧ _ ∧ _ ∧ _)
    have RB := Lib.hid (⟨sa, st, sx, sr⟩ : _ ∧ _ ∧ _ ∧ _)
    have ka := blk_below HT.out.1 hb3
    have kp := blk_below HT.out.2 hb3
    have p0 : w3.cell? ⟨w1.heap.size + 1, 0, none⟩ = some (.int .i64 r1.line) := blk_cell kp 0
    have p1 : w3.cell? ⟨w1.heap.size + 1, 1, none⟩ = some (.int .i64 r1.col) := blk_cell kp 1
    have a0 : w3.cell? ⟨w1.heap.size, 0, none⟩ = some (.slice Aa r1.att.length ca) := blk_cell ka 0
    have a1 : w3.cell? ⟨w1.heap.size, 1, none⟩ = some (.slice At r1.toks.length ct) := blk_cell ka 1
    have a2 : w3.cell? ⟨w1.heap.size, 2, none⟩ = some (.slice Ax r1.texts.length cx) := blk_cell ka 2
    have a3 : w3.cell? ⟨w1.heap.size, 3, none⟩ = some (.slice Ar r1.regs.length cr) := blk_cell ka 3
    have a4 : w3.cell? ⟨w1.heap.size, 4, none⟩ = some (.slice none 0 0) := blk_cell ka 4
    have a5 : w3.cell? ⟨w1.heap.size, 5, none⟩ = some (.slice none 0 0) := blk_cell ka 5
    have a6 : w3.cell? ⟨w1.heap.size, 6, none⟩ = some (.slice none 0 0) := blk_cell ka 6
    have hs1 := blk_lt ka
    have hs2 := blk_lt kp
    have HB3 := Lib.hid (HBA.out.trans (hb3.mono HBA.out.size))
    clear ka kp hb3 ra rt rx rr sa st sx sr HR2 HT
    by_cases e10 : r1.err = 10
    · have t10 : (r1.err == 10) = true := by rw [e10]; rfl
      go_wp2_with (go_at_call 7; refine (awake_b _).mono ?_; rintro e w4 ⟨rfl, hb4⟩)
      go_ret
      exact ⟨rfl, (below_alloc (below_alloc HB3.out _) _).trans (hb4.mono (by have := HB3.out.size; simp; omega))⟩
    · have t10 : (r1.err == 10) = false := beq_false_of_ne e10
      have tp : ((r1.line == r1.line) && (r1.col == r1.col)) = true := by simp
      have tl : (r1.line == r1.line) = true := by simp
      have tc : (r1.col == r1.col) = true := by simp
      have te : (r1.err == r1.err) = true := by simp
      go_wp2_with (go_at_call 9; refine (equal_same r1.att r1.toks r1.texts r1.regs (by have := SM.out.att; omega) SM.out.row SM.out.meta_ SM.out.keys SM.out.toks SM.out.texts SM.out.regs Aa At Ax Ar Ba Bt Bx Br ca ct cx cr da dt dx dr lca lda _ (Kd.C_alloc (Kd.C_alloc RA.out.1 _) _) (Kd.C_alloc (Kd.C_alloc RB.out.1 _) _) (Kd.C_alloc (Kd.C_alloc RA.out.2.1 _) _) (Kd.C_alloc (Kd.C_alloc RB.out.2.1 _) _) (Kd.C_alloc (Kd.C_alloc RA.out.2.2.1 _) _) (Kd.C_alloc (Kd.C_alloc RB.out.2.2.1 _) _) (Kd.C_alloc (Kd.C_alloc RA.out.2.2.2 _) _) (Kd.C_alloc (Kd.C_alloc RB.out.2.2.2 _) _)).mono ?_; rintro e w5 ⟨rfl, hb5⟩)
      have hb6 := (below_alloc (below_alloc HB3.out (coObj (.slice Ba r1.att.length da) (.slice Bt r1.toks.length dt) (.slice Bx r1.texts.length dx) (.slice Br r1.regs.length dr))) (poObj r1.line r1.col)).trans (hb5.mono (by have := HB3.out.size; simp; omega))
      have HB6 := Lib.hid hb6
      clear hb5 hb6
      go_wp2_with (go_at_call 7; refine (awake_b _).mono ?_; rintro e w4 ⟨rfl, hb4⟩)
      go_ret
      exact ⟨rfl, HB6.out.trans (hb4.mono HB6.out.size)⟩
  · obtain ⟨r2, hr2⟩ : ∃ r, r = parseR (data ++ lf) attrs := ⟨_, rfl⟩
    rw [← hr2] at E2
    rw [← H1.out] at E1
    have H2 := Lib.hid hr2
    clear HE hr2
    (with_reducible refine (parse_b (data ++ lf) attrs A attrs.length c rfl hc _ hds2 (Kd.C_below HK.out HBA.out) r2 H2).mono ?_)
    rintro e w3 ⟨ua, ut, ux, ur, rfl, sa, st, sx, sr, hb3⟩
    obtain ⟨Ba, da, rfl⟩ := Kd.R_slice sa
    obtain ⟨Bt, dt, rfl⟩ := Kd.R_slice st
    obtain ⟨Bx, dx, rfl⟩ := Kd.R_slice sx
    obtain ⟨Br, dr, rfl⟩ := Kd.R_slice sr
    have ka := blk_below HT.out.1 hb3
    have kp := blk_below HT.out.2 hb3
    have p0 : w3.cell? ⟨w1.heap.size + 1, 0, none⟩ = some (.int .i64 r1.line) := blk_cell kp 0
    have p1 : w3.cell? ⟨w1.heap.size + 1, 1, none⟩ = some (.int .i64 r1.col) := blk_cell kp 1
    have a0 : w3.cell? ⟨w1.heap.size, 0, none⟩ = some (.slice Aa r1.att.length ca) := blk_cell ka 0
    have a1 : w3.cell? ⟨w1.heap.size, 1, none⟩ = some (.slice At r1.toks.length ct) := blk_cell ka 1
    have a2 : w3.cell? ⟨w1.heap.size, 2, none⟩ = some (.slice Ax r1.texts.length cx) := blk_cell ka 2
    have a3 : w3.cell? ⟨w1.heap.size, 3, none⟩ = some (.slice Ar r1.regs.length cr) := blk_cell ka 3
    have a4 : w3.cell? ⟨w1.heap.size, 4, none⟩ = some (.slice none 0 0) := blk_cell ka 4
    have a5 : w3.cell? ⟨w1.heap.size, 5, none⟩ = some (.slice none 0 0) := blk_cell ka 5
    have a6 : w3.cell? ⟨w1.heap.size, 6, none⟩ = some (.slice none 0 0) := blk_cell ka 6
    have hs1 := blk_lt ka
    have hs2 := blk_lt kp
    have HB3 := Lib.hid (HBA.out.trans (hb3.mono HBA.out.size))
    clear ka kp hb3 sa st sx sr HR2 HT
    have t10 : (r1.err == 10) = true := by rw [E1]; rfl
    have t11 : (r2.err == 10) = true := by rw [E2]; rfl
    go_wp2_with (go_at_call 7; refine (awake_b _).mono ?_; rintro e w4 ⟨rfl, hb4⟩)
    go_ret
    exact ⟨rfl, (below_alloc (below_alloc HB3.out _) _).trans (hb4.mono (by have := HB3.out.size; simp; omega))⟩
end Go.Proofs.YtebajpebongabaaDoor.V
