/- Several texts in one; each says what it is. No condition beyond theirs. -/
import Derived.WalkKit
import Derived.WalkLawsBesides
import Derived.WalkSpells
import Derived.Deep.LoopGhost
import Derived.Deep.QuietTactic
import Derived.BigQuiet
import Derived.BigCall
import Derived.Deep.RegionHeld3
import Derived.IntWalk
import Derived.Lib.Hide
import Derived.Test.YtebajpebongabaaDoorProg
import Derived.Test.YtebajpebongabaaDoorWAll
import Derived.Test.YtebajpebongabaaDoorVal
import Derived.Test.YtebajpebongabaaDoorEs
import Derived.Test.YtebajpebongabaaDoorPx24
/- The scanner of a tag (package markup): what each method answers, by plain functions of the text and the place. No condition. -/
namespace Go.Proofs.YtebajpebongabaaDoor.V
open Go.RowKit Go.Proofs.YtebajpebongabaaDoorW.PrintWords
set_option linter.unusedVariables false
set_option linter.unusedSimpArgs false

/-! ### what is read -/
/-- How a method of the scanner ends: a value and the next place, or a fault. -/
inductive Sr (α : Type) where
  | ok : α → Nat → Sr α
  | bad : Int → Int → Sr α
/-- The scanner's cells. -/
abbrev scObj (s : ByteArray) (p : Nat) : Obj := .cells #[.string s, .int .i64 p] 97 (0, 0)
/-- What the call of a method leaves. -/
def ScPost {α : Type} (X : Nat) (s : ByteArray) (w : World) (R : World → Value → α → Prop) (r : Sr α) (e : Ending) (w' : World) : Prop :=
  match r with
  | .ok v p => (∃ u, e = .returned u ∧ R w' u v) ∧ w'.heap[X]? = some (scObj s p) ∧ w.grownBy w' (some X)
  | .bad p c => e = .panicked [{ v := .iface 94 (.agg #[.int .i64 p, .int .i64 c]), recovered := false }] ∧ w.grownBy w' (some X)

theorem grown_drewN (w : World) (n : Nat) (row : Option Nat) : w.grownBy (w.drewN n) row := ⟨rfl, rfl, rfl, Nat.le_refl _, fun _ _ _ => rfl⟩
theorem sc_lt {w : World} {X : Nat} {s : ByteArray} {p : Nat} (h : w.heap[X]? = some (scObj s p)) : X < w.heap.size := (Array.getElem?_eq_some_iff.1 h).1
theorem grown_alloc {w w1 : World} {row : Option Nat} (h : w.grownBy w1 row) (o : Obj) : w.grownBy (w1.alloc o) row := h.trans (World.grownBy_alloc w1 o row)
theorem grown_set {w w1 : World} {X : Nat} (h : w.grownBy w1 (some X)) (j : Nat) (v : Value) : w.grownBy (w1.setCell ⟨X, j, none⟩ v) (some X) :=
  h.trans ⟨rfl, rfl, rfl, by simp [World.setCell], fun k hk hn => Below.heap_setCell _ _ _ _ (fun e => hn (by rw [e]))⟩
theorem grown_set_new {w w1 : World} {row : Option Nat} (h : w.grownBy w1 row) {g : Nat} (hg : w.heap.size ≤ g) (j : Nat) (v : Value) : w.grownBy (w1.setCell ⟨g, j, none⟩ v) row :=
  ⟨h.os, h.tape, h.output, by simpa [World.setCell] using h.size, fun k hk hn => (Below.heap_setCell _ _ _ _ (by simp; omega)).trans (h.block k hk hn)⟩
theorem grown_below {w w1 w2 : World} {row : Option Nat} (h : w.grownBy w1 row) (hb : Below w1.heap.size w1 w2) : w.grownBy w2 row :=
  h.trans ⟨hb.os, hb.tape, hb.output, hb.size, fun k hk _ => hb.block k hk⟩
theorem grown_refl (w : World) (row : Option Nat) : w.grownBy w row := ⟨rfl, rfl, rfl, Nat.le_refl _, fun _ _ _ => rfl⟩

/-! ### sees, eat -/
def seesB (s : ByteArray) (p : Nat) (c : Nat) : Bool := decide (p < s.size) && bA s p == c

theorem sees_any (X : Nat) (s : ByteArray) (p c : Nat) (hp : p ≤ s.size) (hs : s.size ≤ 1099511627776) (w : World) (hX : w.heap[X]? = some (scObj s p)) :
    Calls Tryd.prog 64 #[.pointer (some ⟨X, 0, none⟩), .int .u8 c] w fun e w' => e = .returned (.bool (seesB s p c)) ∧ ∃ n, w' = w.drewN n := by
  have x0 : w.cell? ⟨X, 0, none⟩ = some (.string s) := blk_cell hX 0
  have x1 : w.cell? ⟨X, 1, none⟩ = some (.int .i64 p) := blk_cell hX 1
  have hba := bA_at s p
  by_cases hlt : p < s.size
  · have hd : decide ((p : Int) < (s.size : Int)) = true := decide_eq_true (by omega)
    have h0 : (0 : Int) ≤ (p : Int) := by omega
    have h1 : (p : Int) < (s.size : Int) := by omega
    have e : seesB s p c = (((bA s p : Nat) : Int) == (c : Int)) := by unfold seesB; rw [decide_eq_true hlt, Bool.true_and]; exact (Bool.eq_iff_iff.2 (by rw [beq_iff_eq, beq_iff_eq]; omega)).symm
    rw [e]
    go_enter Tryd.func64, Tryd.ntmps64
    go_wp2
    go_quiet (fail)
    go_wp2
    go_ret
    exact ⟨rfl, _, rfl⟩
  · have hd : decide ((p : Int) < (s.size : Int)) = false := decide_eq_false (by omega)
    have e : seesB s p c = false := by unfold seesB; rw [decide_eq_false hlt]; rfl
    rw [e]
    go_enter Tryd.func64, Tryd.ntmps64
    go_wp2
    go_quiet (fail)
    go_wp2
    go_ret
    exact ⟨rfl, _, rfl⟩

def eatR (s : ByteArray) (p : Nat) (c : Nat) : Sr Unit := if seesB s p c then .ok () (p + 1) else .bad p 3
theorem seesB_lt {s : ByteArray} {p c : Nat} (h : seesB s p c = true) : p < s.size := by
  unfold seesB at h
  simp only [Bool.and_eq_true, decide_eq_true_eq] at h
  exact h.1

theorem eat_any (X : Nat) (s : ByteArray) (p c : Nat) (hp : p ≤ s.size) (hs : s.size ≤ 1099511627776) (w : World) (hX : w.heap[X]? = some (scObj s p)) :
    Calls Tryd.prog 63 #[.pointer (some ⟨X, 0, none⟩), .int .u8 c] w (ScPost X s w (fun _ _ _ => True) (eatR s p c)) := by
  have x1 : w.cell? ⟨X, 1, none⟩ = some (.int .i64 p) := blk_cell hX 1
  have f1 := blk_frozen hX 1
  unfold eatR
  cases hb : seesB s p c with
  | true =>
    have hlt := seesB_lt hb
    have hnb : (!seesB s p c) = false := by rw [hb]; rfl
    rw [if_pos rfl]
    have HB := Lib.hid hb
    clear hb
    go_enter Tryd.func63, Tryd.ntmps63
    go_wp2_with (go_at_call 64; refine (sees_any X s p c hp hs w hX).mono ?_; rw [HB.out]; rintro e w1 ⟨rfl, m, rfl⟩)
    go_end0
    refine ⟨⟨_, rfl, trivial⟩, ?_, grown_set (grown_drewN _ _ _) _ _⟩
    exact blk_put (blk_drewN hX m) 1 _ rfl
  | false =>
    rw [if_neg (by simp)]
    have HB := Lib.hid hb
    clear hb
    go_enter Tryd.func63, Tryd.ntmps63
    go_wp2_with (go_at_call 64; refine (sees_any X s p c hp hs w hX).mono ?_; rw [HB.out]; rintro e w1 ⟨rfl, m, rfl⟩)
    exact ⟨rfl, rfl, grown_drewN _ _ _⟩

/-! ### name -/
/-- The scanner's place. -/
def posIn (w : World) (X : Nat) : Nat := match w.cell? ⟨X, 1, none⟩ with | some (.int _ n) => n.toNat | _ => 0
theorem posIn_of {w : World} {X : Nat} {s : ByteArray} {p : Nat} (h : w.heap[X]? = some (scObj s p)) : posIn w X = p := by
  have e : w.cell? ⟨X, 1, none⟩ = some (.int .i64 p) := blk_cell h 1
  unfold posIn
  rw [e]
  rfl
/-- Where a name ends that goes on at p. -/
def nameEnd (s : ByteArray) : Nat → Nat → Nat
  | 0, p => p
  | b + 1, p => if p < s.size then (if goB (bA s p) then nameEnd s b (p + 1) else p) else p
theorem nameEnd_le (s : ByteArray) : ∀ (b p : Nat), p ≤ s.size → p ≤ nameEnd s b p ∧ nameEnd s b p ≤ s.size
  | 0, p, h => ⟨Nat.le_refl _, h⟩
  | b + 1, p, h => by
    unfold nameEnd
    split
    · split
      · have := nameEnd_le s b (p + 1) (by omega)
        omega
      · omega
    · omega
def nameR (s : ByteArray) (p : Nat) : Sr ByteArray :=
  if p < s.size ∧ begB (bA s p) = true then (if 32 < nameEnd s (s.size - p) p - p then .bad p 2 else .ok (s.extract p (nameEnd s (s.size - p) p)) (nameEnd s (s.size - p) p)) else .bad p 3

set_option maxHeartbeats 2000000 in
theorem name_loop (X : Nat) (s : ByteArray) (p : Nat) (hlt : p < s.size) (hbg : begB (bA s p) = true) (hs : s.size ≤ 1099511627776) (w : World) (hX : w.heap[X]? = some (scObj s p)) :
    Calls Tryd.prog 65 #[.pointer (some ⟨X, 0, none⟩)] w (ScPost X s w (fun _ u v => u = .string v) (nameR s p)) := by
  have x0 : w.cell? ⟨X, 0, none⟩ = some (.string s) := blk_cell hX 0
  have x1 : w.cell? ⟨X, 1, none⟩ = some (.int .i64 p) := blk_cell hX 1
  have hba := bA_at s p
  have hne : ((p : Int) == (s.size : Int)) = false := beq_eq_false_iff_ne.2 (by omega)
  have h0 : (0 : Int) ≤ (p : Int) := by omega
  have h1 : (p : Int) < (s.size : Int) := by omega
  obtain ⟨q0, hq0⟩ : ∃ q, q = nameEnd s (s.size - p) p := ⟨_, rfl⟩
  have hR : nameR s p = if 32 < q0 - p then .bad p 2 else .ok (s.extract p q0) q0 := by unfold nameR; rw [if_pos ⟨hlt, hbg⟩, hq0]
  have HRR := Lib.hid hR
  have HQ := Lib.hid hq0
  clear hq0 hR
  go_enter Tryd.func65, Tryd.ntmps65
  go_wp2_with (go_at_call 53; refine (begins_q _ _).mono ?_; rintro e w1 ⟨rfl, m, rfl⟩)
  go_loopw [] (fun wr => ∃ q : Nat, p ≤ q ∧ q ≤ s.size ∧ wr.heap[X]? = some (scObj s q) ∧ w.grownBy wr (some X) ∧ q0 = nameEnd s (s.size - q) q) (fun wr => s.size - posIn wr X)
  case atStart => exact ⟨p, Nat.le_refl _, Nat.le_of_lt hlt, blk_drewN hX _, grown_drewN _ _ _, HQ.out⟩
  case round =>
    obtain ⟨q, hpq, hqs, hX2, hg, hq⟩ := hrel
    clear x0 x1 hba hne h0 h1
    have x0 : wr.cell? ⟨X, 0, none⟩ = some (.string s) := blk_cell hX2 0
    have x1 : wr.cell? ⟨X, 1, none⟩ = some (.int .i64 q) := blk_cell hX2 1
    have f1 := blk_frozen hX2 1
    have HX2 := Lib.hid hX2
    have HQQ := Lib.hid hq
    clear hX2 hq hX
    by_cases hq1 : q < s.size ∧ goB (bA s q) = true
    · obtain ⟨hql, hgo⟩ := hq1
      have hba := bA_at s q
      have hd : decide ((q : Int) < (s.size : Int)) = true := decide_eq_true (by omega)
      have h0 : (0 : Int) ≤ (q : Int) := by omega
      have h1 : (q : Int) < (s.size : Int) := by omega
      go_wp2
      go_quiet ((go_at_call 54; exact Calls.quiet_of (goesOn_q _ _)))
      go_wp2
      go_roundw
      case rel =>
        refine ⟨q + 1, by omega, by omega, blk_put (blk_drewN HX2.out _) 1 _ rfl, grown_set (hg.trans (grown_drewN _ _ _)) _ _, ?_⟩
        have h2 := HQQ.out
        rw [show s.size - q = (s.size - (q + 1)) + 1 by omega] at h2
        rw [h2]
        conv => lhs; unfold nameEnd
        rw [if_pos hql, if_pos hgo]
      case measure =>
        have hx := fun n => posIn_of (w := (wr.drewN n).setCell ⟨X, 1, none⟩ (.int .i64 ((q : Int) + 1))) (s := s) (p := q + 1) (blk_put (blk_drewN HX2.out n) 1 _ rfl)
        rw [posIn_of HX2.out, hx]
        omega
    · have hend : q0 = q := by
        rw [HQQ.out]
        generalize s.size - q = b
        cases b with
        | zero => rfl
        | succ b =>
          unfold nameEnd
          by_cases c : q < s.size
          · rw [if_pos c, if_neg (fun g => hq1 ⟨c, g⟩)]
          · rw [if_neg c]
      have HEND := Lib.hid hend
      clear HQQ HQ hend
      have hw : IntKind.i64.wrap ((q : Int) - (p : Int)) = (q : Int) - (p : Int) := IntWalk.i64_in _ (by omega)
      have hge : (0 : Int) ≤ (q : Int) := by omega
      have hle : (q : Int) ≤ (s.size : Int) := by omega
      have hp0 : (0 : Int) ≤ (p : Int) := by omega
      have hpq2 : (p : Int) ≤ (q : Int) := by omega
      by_cases c32 : 32 < q - p
      · have HS : Hid (nameR s p = .bad p 2) := by have e := HRR.out; rw [HEND.out, if_pos c32] at e; exact e
        have hc32 : (32 : Int) < (q : Int) - (p : Int) := by omega
        by_cases hql : q < s.size
        · have hgo : goB (bA s q) = false := by cases g : goB (bA s q) with | false => rfl | true => exact absurd ⟨hql, g⟩ hq1
          have hba := bA_at s q
          have hd : decide ((q : Int) < (s.size : Int)) = true := decide_eq_true (by omega)
          have h1 : (q : Int) < (s.size : Int) := by omega
          go_wp2
          go_quiet ((go_at_call 54; exact Calls.quiet_of (goesOn_q _ _)))
          go_wp2
          refine ⟨rfl, ?_⟩
          rw [HS.out]
          exact ⟨rfl, hg.trans (grown_drewN _ _ _)⟩
        · have hd : decide ((q : Int) < (s.size : Int)) = false := decide_eq_false (by omega)
          go_wp2
          go_quiet (fail)
          go_wp2
          refine ⟨rfl, ?_⟩
          rw [HS.out]
          exact ⟨rfl, hg.trans (grown_drewN _ _ _)⟩
      · have HS : Hid (nameR s p = .ok (s.extract p q) q) := by have e := HRR.out; rw [HEND.out, if_neg c32] at e; exact e
        have hc32 : ¬ (32 : Int) < (q : Int) - (p : Int) := by omega
        by_cases hql : q < s.size
        · have hgo : goB (bA s q) = false := by cases g : goB (bA s q) with | false => rfl | true => exact absurd ⟨hql, g⟩ hq1
          have hba := bA_at s q
          have hd : decide ((q : Int) < (s.size : Int)) = true := decide_eq_true (by omega)
          have h1 : (q : Int) < (s.size : Int) := by omega
          go_wp2
          go_quiet ((go_at_call 54; exact Calls.quiet_of (goesOn_q _ _)))
          go_wp2
          go_quiet (fail)
          go_wp2
          go_ret
          rw [HS.out]
          exact ⟨⟨_, rfl, rfl⟩, blk_drewN (blk_drewN HX2.out _) _, (hg.trans (grown_drewN _ _ _)).trans (grown_drewN _ _ _)⟩
        · have hd : decide ((q : Int) < (s.size : Int)) = false := decide_eq_false (by omega)
          go_wp2
          go_quiet (fail)
          go_wp2
          go_quiet (fail)
          go_wp2
          go_ret
          rw [HS.out]
          exact ⟨⟨_, rfl, rfl⟩, blk_drewN (blk_drewN HX2.out _) _, (hg.trans (grown_drewN _ _ _)).trans (grown_drewN _ _ _)⟩

theorem name_any (X : Nat) (s : ByteArray) (p : Nat) (hp : p ≤ s.size) (hs : s.size ≤ 1099511627776) (w : World) (hX : w.heap[X]? = some (scObj s p)) :
    Calls Tryd.prog 65 #[.pointer (some ⟨X, 0, none⟩)] w (ScPost X s w (fun _ u v => u = .string v) (nameR s p)) := by
  by_cases hlt : p < s.size
  · by_cases hbg : begB (bA s p) = true
    · exact name_loop X s p hlt hbg hs w hX
    · have hR : nameR s p = .bad p 3 := by unfold nameR; rw [if_neg (fun h => hbg h.2)]
      rw [hR]
      have hbf : begB (bA s p) = false := Bool.eq_false_iff.2 hbg
      have x0 : w.cell? ⟨X, 0, none⟩ = some (.string s) := blk_cell hX 0
      have x1 : w.cell? ⟨X, 1, none⟩ = some (.int .i64 p) := blk_cell hX 1
      have hba := bA_at s p
      have hne : ((p : Int) == (s.size : Int)) = false := beq_eq_false_iff_ne.2 (by omega)
      have h0 : (0 : Int) ≤ (p : Int) := by omega
      have h1 : (p : Int) < (s.size : Int) := by omega
      clear hbg
      go_enter Tryd.func65, Tryd.ntmps65
      go_wp2_with (go_at_call 53; refine (begins_q _ _).mono ?_; rintro e w1 ⟨rfl, m, rfl⟩)
      exact ⟨rfl, rfl, grown_drewN _ _ _⟩
  · have hR : nameR s p = .bad p 3 := by unfold nameR; rw [if_neg (fun h => hlt h.1)]
    rw [hR]
    obtain rfl : p = s.size := by omega
    have x0 : w.cell? ⟨X, 0, none⟩ = some (.string s) := blk_cell hX 0
    have x1 : w.cell? ⟨X, 1, none⟩ = some (.int .i64 s.size) := blk_cell hX 1
    go_enter Tryd.func65, Tryd.ntmps65
    go_wp2
    exact ⟨rfl, rfl, grown_refl _ _⟩

/-! ### value -/
/-- Where a raw value ends that goes on at p. -/
def valEnd (s : ByteArray) : Nat → Nat → Nat
  | 0, p => p
  | b + 1, p => if p < s.size ∧ bA s p ≠ 34 ∧ bA s p ≠ 60 ∧ bA s p ≠ 62 then valEnd s b (p + 1) else p
theorem valEnd_le (s : ByteArray) : ∀ (b p : Nat), p ≤ s.size → p ≤ valEnd s b p ∧ valEnd s b p ≤ s.size
  | 0, p, h => ⟨Nat.le_refl _, h⟩
  | b + 1, p, h => by
    unfold valEnd
    split
    · rename_i c
      have := valEnd_le s b (p + 1) (by omega)
      omega
    · omega
def valR (s : ByteArray) (p : Nat) : Sr ByteArray :=
  match eatR s (valEnd s (s.size - p) p) 34 with
  | .bad q c => .bad q c
  | .ok _ q => if (unescR (s.extract p (q - 1))).2.2 ≠ 0 then .bad (p + (unescR (s.extract p (q - 1))).2.1) (unescR (s.extract p (q - 1))).2.2
    else if valueE (unescR (s.extract p (q - 1))).1 ≠ 0 then .bad p (valueE (unescR (s.extract p (q - 1))).1) else .ok (unescR (s.extract p (q - 1))).1 q

set_option maxHeartbeats 4000000 in
theorem value_sc (X : Nat) (s : ByteArray) (p : Nat) (hp : p ≤ s.size) (hs : s.size ≤ 1099511627776) (w : World) (hX : w.heap[X]? = some (scObj s p)) :
    Calls Tryd.prog 75 #[.pointer (some ⟨X, 0, none⟩)] w (ScPost X s w (fun _ u v => u = .string v) (valR s p)) := by
  have x0 : w.cell? ⟨X, 0, none⟩ = some (.string s) := blk_cell hX 0
  have x1 : w.cell? ⟨X, 1, none⟩ = some (.int .i64 p) := blk_cell hX 1
  obtain ⟨q0, hq0⟩ : ∃ q, q = valEnd s (s.size - p) p := ⟨_, rfl⟩
  have HQ := Lib.hid hq0
  clear hq0
  go_enter Tryd.func75, Tryd.ntmps75
  go_wp2
  go_loopw [] (fun wr => ∃ q : Nat, p ≤ q ∧ q ≤ s.size ∧ wr.heap[X]? = some (scObj s q) ∧ w.grownBy wr (some X) ∧ q0 = valEnd s (s.size - q) q) (fun wr => s.size - posIn wr X)
  case atStart => exact ⟨p, Nat.le_refl _, hp, hX, grown_refl _ _, HQ.out⟩
  case round =>
    obtain ⟨q, hpq, hqs, hX2, hg, hq⟩ := hrel
    clear x0 x1
    have x0 : wr.cell? ⟨X, 0, none⟩ = some (.string s) := blk_cell hX2 0
    have x1 : wr.cell? ⟨X, 1, none⟩ = some (.int .i64 q) := blk_cell hX2 1
    have f1 := blk_frozen hX2 1
    have HX2 := Lib.hid hX2
    have HQQ := Lib.hid hq
    clear hX2 hq hX
    have h0 : (0 : Int) ≤ (q : Int) := by omega
    by_cases hq1 : q < s.size ∧ bA s q ≠ 34 ∧ bA s q ≠ 60 ∧ bA s q ≠ 62
    · obtain ⟨hql, c1, c2, c3⟩ := hq1
      have hba := bA_at s q
      have hd : decide ((q : Int) < (s.size : Int)) = true := decide_eq_true (by omega)
      have h1 : (q : Int) < (s.size : Int) := by omega
      have b1 : (((bA s q : Nat) : Int) != 34) = true := bne_iff_ne.2 (by omega)
      have b2 : (((bA s q : Nat) : Int) != 60) = true := bne_iff_ne.2 (by omega)
      have b3 : (((bA s q : Nat) : Int) != 62) = true := bne_iff_ne.2 (by omega)
      have HC := Lib.hid (⟨c1, c2, c3⟩ : bA s q ≠ 34 ∧ bA s q ≠ 60 ∧ bA s q ≠ 62)
      clear c1 c2 c3
      go_wp2
      go_quiet (fail)
      go_wp2
      go_roundw
      case rel =>
        refine ⟨q + 1, by omega, by omega, blk_put (blk_drewN HX2.out _) 1 _ rfl, grown_set (hg.trans (grown_drewN _ _ _)) _ _, ?_⟩
        have h2 := HQQ.out
        rw [show s.size - q = (s.size - (q + 1)) + 1 by omega] at h2
        rw [h2]
        conv => lhs; unfold valEnd
        rw [if_pos ⟨hql, HC.out⟩]
      case measure =>
        have hx := fun n => posIn_of (w := (wr.drewN n).setCell ⟨X, 1, none⟩ (.int .i64 ((q : Int) + 1))) (s := s) (p := q + 1) (blk_put (blk_drewN HX2.out n) 1 _ rfl)
        rw [posIn_of HX2.out, hx]
        omega
    · have hend : q0 = q := by
        rw [HQQ.out]
        generalize s.size - q = b
        cases b with
        | zero => rfl
        | succ b => unfold valEnd; rw [if_neg hq1]
      have HEND := Lib.hid hend
      clear hend
      by_cases hql : q < s.size
      case neg =>
        have hd : decide ((q : Int) < (s.size : Int)) = false := decide_eq_false (by omega)
        have hsb : seesB s q 34 = false := by unfold seesB; first | (rw [decide_eq_false hql]; rfl) | (rw [decide_eq_true hql, hc]; rfl)
        have HE : Hid (eatR s q 34 = .bad q 3) := by unfold eatR; rw [if_neg (by rw [hsb]; simp)]; exact rfl
        have HS : Hid (valR s p = .bad q 3) := by unfold valR; rw [← HQ.out, HEND.out, HE.out]; exact rfl
        clear hsb
        go_wp2
        go_quiet (fail)
        go_wp2_with (go_at_call 63; refine (eat_any X s q 34 hqs hs _ (blk_drewN HX2.out _)).mono ?_; rw [HE.out]; rintro e w1 ⟨rfl, hg1⟩)
        refine ⟨rfl, ?_⟩
        rw [HS.out]
        exact ⟨rfl, (hg.trans (grown_drewN _ _ _)).trans hg1⟩
      by_cases hc34 : bA s q = 34
      case neg =>
        by_cases hc : bA s q = 60
        case' pos => have b2 : (((bA s q : Nat) : Int) != 60) = false := by rw [hc]; rfl
        case' neg =>
          have hc62 : bA s q = 62 := by omega
          have b2 : (((bA s q : Nat) : Int) != 60) = true := bne_iff_ne.2 (by omega)
          have b3 : (((bA s q : Nat) : Int) != 62) = false := by rw [hc62]; rfl
        all_goals
          have hba := bA_at s q
          have hd : decide ((q : Int) < (s.size : Int)) = true := decide_eq_true (by omega)
          have h1 : (q : Int) < (s.size : Int) := by omega
          have b1 : (((bA s q : Nat) : Int) != 34) = true := bne_iff_ne.2 (by omega)
          have hsb : seesB s q 34 = false := by unfold seesB; rw [decide_eq_true hql, Bool.true_and]; exact beq_eq_false_iff_ne.2 hc34
          have HE : Hid (eatR s q 34 = .bad q 3) := by unfold eatR; rw [if_neg (by rw [hsb]; simp)]; exact rfl
          have HS : Hid (valR s p = .bad q 3) := by unfold valR; rw [← HQ.out, HEND.out, HE.out]; exact rfl
          clear hsb
          go_wp2
          go_quiet (fail)
          go_wp2_with (go_at_call 63; refine (eat_any X s q 34 hqs hs _ (blk_drewN HX2.out _)).mono ?_; rw [HE.out]; rintro e w1 ⟨rfl, hg1⟩)
          refine ⟨rfl, ?_⟩
          rw [HS.out]
          exact ⟨rfl, (hg.trans (grown_drewN _ _ _)).trans hg1⟩
      have hba := bA_at s q
      have hd : decide ((q : Int) < (s.size : Int)) = true := decide_eq_true (by omega)
      have h1 : (q : Int) < (s.size : Int) := by omega
      have b1 : (((bA s q : Nat) : Int) != 34) = false := by rw [hc34]; rfl
      have hsb : seesB s q 34 = true := by unfold seesB; rw [decide_eq_true hql, hc34]; rfl
      have HE : Hid (eatR s q 34 = .ok () (q + 1)) := by unfold eatR; rw [if_pos hsb]; exact rfl
      clear hsb
      obtain ⟨r, hr⟩ : ∃ r, r = unescR (s.extract p q) := ⟨_, rfl⟩
      have HR : Hid (r = unescR (s.extract p q)) := hr
      have hpos := unescR_pos (s.extract p q)
      rw [← hr, ByteArray.size_extract] at hpos
      obtain ⟨hpos1, hpos2⟩ := hpos
      have hpos2' : r.2.1 ≤ s.size := by omega
      obtain ⟨e0, he0⟩ : ∃ e, e = valueE r.1 := ⟨_, rfl⟩
      have HE0 : Hid (e0 = valueE r.1) := he0
      have HS : Hid (valR s p = if r.2.2 ≠ 0 then .bad (p + r.2.1) r.2.2 else if e0 ≠ 0 then .bad p e0 else .ok r.1 (q + 1)) := by
        unfold valR
        rw [← HQ.out, HEND.out, HE.out]
        simp only [Nat.add_sub_cancel]
        rw [← hr, ← he0]
        exact rfl
      have hex : (s.extract p q).size ≤ 1099511627776 := by rw [ByteArray.size_extract]; omega
      have hw1 : IntKind.i64.wrap (((q : Int) + 1) - 1) = (q : Int) := by rw [Int.add_sub_cancel]; exact IntWalk.i64_in _ (by omega)
      have hw2 : IntKind.i64.wrap (q : Int) = (q : Int) := IntWalk.i64_in _ (by omega)
      have hp0 : (0 : Int) ≤ (p : Int) := by omega
      have hpq' : (p : Int) ≤ (q : Int) := by omega
      have hqs' : (q : Int) ≤ (s.size : Int) := by omega
      clear hr he0 hpos2
      go_wp2
      go_quiet (fail)
      go_wp2_with (go_at_call 63; refine (eat_any X s q 34 hqs hs _ (blk_drewN HX2.out _)).mono ?_; rw [HE.out]; rintro e w1 ⟨⟨u, rfl, -⟩, hX1, hg1⟩; have y0 : w1.cell? ⟨X, 0, none⟩ = some (.string s) := blk_cell hX1 0; have y1 : w1.cell? ⟨X, 1, none⟩ = some (.int .i64 ((q : Int) + 1)) := blk_cell hX1 1; have HX1 := Lib.hid hX1; clear hX1)
      go_region_held3 (fun w' => w'.cell? ⟨X, 0, none⟩ = some (.string s) ∧ w'.cell? ⟨X, 1, none⟩ = some (.int .i64 ((q : Int) + 1))) (first | exact ⟨pw_cell_below hb2 y0, pw_cell_below hb2 y1⟩ | go_keep) ((go_at_call 45; refine (unescape_r _ hex _ r HR).mono ?_; rintro e w2 ⟨rfl, hb2⟩))
      have hb2 : Below w1.heap.size w1 w2 := (below_drew (Below.refl _ _)).trans hb2
      have hgA := grown_below ((hg.trans (grown_drewN _ _ _)).trans hg1) hb2
      have hXA := blk_below HX1.out hb2
      have HXA := Lib.hid hXA
      clear hXA x0 x1 y0 y1 hba b1 hd
      by_cases c1 : r.2.2 = 0
      case neg =>
        have hcb : (r.2.2 != 0) = true := bne_iff_ne.2 c1
        have HS2 : Hid (valR s p = .bad (p + r.2.1) r.2.2) := by rw [HS.out, if_pos c1]; exact rfl
        clear c1
        go_wp2
        refine ⟨rfl, ?_⟩
        rw [HS2.out]
        exact ⟨rfl, hgA⟩
      have hcb : (r.2.2 != 0) = false := by rw [c1]; rfl
      have HS2 : Hid (valR s p = if e0 ≠ 0 then .bad p e0 else .ok r.1 (q + 1)) := by rw [HS.out, if_neg (fun h => h c1)]; exact rfl
      clear c1
      by_cases c2 : e0 = 0
      case neg =>
        have hcb2 : (e0 != 0) = true := bne_iff_ne.2 c2
        have HS3 : Hid (valR s p = .bad p e0) := by rw [HS2.out, if_pos c2]; exact rfl
        clear c2
        go_wp2_with (go_at_call 55; refine (value_r _ _ e0 HE0).mono ?_; rintro e w3 ⟨rfl, hb3⟩)
        refine ⟨rfl, ?_⟩
        rw [HS3.out]
        exact ⟨rfl, grown_below hgA hb3⟩
      have hcb2 : (e0 != 0) = false := by rw [c2]; rfl
      have HS3 : Hid (valR s p = .ok r.1 (q + 1)) := by rw [HS2.out, if_neg (fun h => h c2)]; exact rfl
      clear c2
      go_wp2_with (go_at_call 55; refine (value_r _ _ e0 HE0).mono ?_; rintro e w3 ⟨rfl, hb3⟩)
      go_ret
      rw [HS3.out]
      exact ⟨⟨_, rfl, rfl⟩, blk_below HXA.out hb3, grown_below hgA hb3⟩

end Go.Proofs.YtebajpebongabaaDoor.V
/- The scanner's key: one attribute of a tag. Condition: the text is at most 2^40 bytes long. -/
namespace Go.Proofs.YtebajpebongabaaDoor.V
open Go.RowKit Go.Proofs.YtebajpebongabaaDoorW.PrintWords Go.Proofs.YtebajpebongabaaDoorW.PrintMore Go.Proofs.YtebajpebongabaaDoor.P Go.Proofs.YtebajpebongabaaDoor.X
set_option linter.unusedVariables false
set_option linter.unusedSimpArgs false

/-! ### has -/
def hasB (l : List S88) (a : ByteArray) : Bool := l.any fun x => decide (x.f0.toList = a.toList)
theorem has_l0 {l : List S88} {a : ByteArray} (hl : l.length ≤ 1099511627776) : ∀ (b : Nat) (i : Int), 0 ≤ i → i + b = l.length →
    Ev (fun k => markup_has.l0 k a l (l.length : Int) i) (hasB (l.drop i.toNat) a)
  | 0, i, h0, hb => by
    have e : hasB (l.drop i.toNat) a = false := by rw [List.drop_eq_nil_of_le (by omega)]; rfl
    rw [e]
    refine ev_step (Ev.now _) fun k => ?_
    simp only [markup_has.l0]
    rw [if_neg (by omega)]
  | b + 1, i, h0, hb => by
    have ih := has_l0 (a := a) hl b (i + 1) (by omega) (by omega)
    have hlt : i.toNat < l.length := by omega
    have ed : l.drop i.toNat = rd_T88 l i :: l.drop (i + 1).toNat := by
      rw [List.drop_eq_getElem_cons hlt, show (i + 1).toNat = i.toNat + 1 by omega]
      congr 1
      unfold rd_T88
      simp [List.getD, hlt]
    by_cases c : ((rd_T88 l i).f0).toList = a.toList
    · have e : hasB (l.drop i.toNat) a = true := by rw [ed]; unfold hasB; rw [List.any_cons, decide_eq_true c]; rfl
      rw [e]
      refine ev_step (Ev.now _) fun k => ?_
      simp only [markup_has.l0]
      rw [if_pos (by omega), if_pos h0, if_pos (by omega), if_pos c]
    · have e : hasB (l.drop i.toNat) a = hasB (l.drop (i + 1).toNat) a := by rw [ed]; unfold hasB; rw [List.any_cons, decide_eq_false c]; rfl
      rw [e]
      refine ev_step ih fun k => ?_
      simp only [markup_has.l0]
      rw [if_pos (by omega), if_pos h0, if_pos (by omega), if_neg c, w64 (by omega) (by omega)]
theorem has_b (l : List S88) (a : ByteArray) (hl : l.length ≤ 1099511627776) (A : Option Addr) (c : Nat) (hc : l.length ≤ c) (w : World) (h : Kd.C k88 w A l.length l) :
    Calls Tryd.prog 74 #[.slice A l.length c, .string a] w fun e w' => e = .returned (.bool (hasB l a)) ∧ Below w.heap.size w w' := by
  obtain ⟨k, hk⟩ := (has_l0 (a := a) hl l.length 0 (Int.le_refl _) (by omega)).rounds
  exact markup_has.calls k A c l a _ w h hc hk

/-! ### key -/
theorem nameR_le {s v : ByteArray} {p q : Nat} (h : nameR s p = .ok v q) : p ≤ q ∧ q ≤ s.size := by
  unfold nameR at h
  split at h
  · rename_i c
    split at h
    · cases h
    · injection h with h1 h2
      rw [← h2]
      exact nameEnd_le s _ p (by omega)
  · cases h
theorem eatR_le {s : ByteArray} {u : Unit} {p c q : Nat} (h : eatR s p c = .ok u q) : q = p + 1 ∧ p < s.size := by
  unfold eatR at h
  split at h
  · rename_i hb
    injection h with h1 h2
    exact ⟨h2.symm, seesB_lt hb⟩
  · cases h
theorem valR_le {s v : ByteArray} {p q : Nat} (hp : p ≤ s.size) (h : valR s p = .ok v q) : p ≤ q ∧ q ≤ s.size := by
  unfold valR at h
  split at h
  · cases h
  · rename_i u q' he
    obtain ⟨e1, e2⟩ := eatR_le he
    have hq := valEnd_le s (s.size - p) p hp
    split at h
    · cases h
    · split at h
      · cases h
      · injection h with h1 h2
        omega
def keyR (s : ByteArray) (p : Nat) (l : List S88) : Sr S88 :=
  match nameR s p with
  | .bad q c => .bad q c
  | .ok n q => if hasB l n = true then .bad p 5 else if l.length = 8 then .bad p 2 else
    match eatR s q 61 with
    | .bad q c => .bad q c
    | .ok _ q => match eatR s q 34 with
      | .bad q c => .bad q c
      | .ok _ q => match valR s q with
        | .bad q c => .bad q c
        | .ok v q => .ok ⟨n, v⟩ q
theorem keyR_le {s : ByteArray} {p q : Nat} {l : List S88} {v : S88} (h : keyR s p l = .ok v q) : p < q ∧ q ≤ s.size ∧ l.length ≠ 8 := by
  unfold keyR at h
  split at h
  · cases h
  · rename_i n q1 e1
    have h1 := nameR_le e1
    split at h
    · cases h
    · split at h
      · cases h
      · rename_i h8
        split at h
        · cases h
        · rename_i u2 q2 e2
          have h2 := eatR_le e2
          split at h
          · cases h
          · rename_i u3 q3 e3
            have h3 := eatR_le e3
            split at h
            · cases h
            · rename_i v4 q4 e4
              have h4 := valR_le (by omega) e4
              injection h with h5 h6
              omega

set_option maxHeartbeats 4000000 in
set_option maxRecDepth 100000 in
theorem key_sc (X : Nat) (s : ByteArray) (p : Nat) (hp : p ≤ s.size) (hs : s.size ≤ 1099511627776) (l : List S88) (hl : l.length ≤ 8) (A : Option Addr) (cap : Nat) (hcap : l.length ≤ cap) (w : World)
    (hX : w.heap[X]? = some (scObj s p)) (hK : ∀ w', w.grownBy w' (some X) → Kd.C k88 w' A l.length l) :
    Calls Tryd.prog 66 #[.pointer (some ⟨X, 0, none⟩), .slice A l.length cap] w (ScPost X s w (fun _ u v => u = .agg #[.string v.f0, .string v.f1]) (keyR s p l)) := by
  have hu := Tryd.underlying88
  have hXlt := sc_lt hX
  have x0 : w.cell? ⟨X, 0, none⟩ = some (.string s) := blk_cell hX 0
  have x1 : w.cell? ⟨X, 1, none⟩ = some (.int .i64 p) := blk_cell hX 1
  have HK := Lib.hid hK
  have HX0 := Lib.hid hX
  clear hK
  cases hr1 : nameR s p with
  | bad q c =>
    have HS : Hid (keyR s p l = .bad q c) := by unfold keyR; rw [hr1]; exact rfl
    go_enter Tryd.func66, Tryd.ntmps66
    go_wp2_with (go_at_call 65; refine (name_any X s p hp hs _ (blk_alloc hX _)).mono ?_; rw [hr1]; rintro e w1 ⟨rfl, hg1⟩)
    refine ⟨rfl, ?_⟩
    rw [HS.out]
    exact ⟨rfl, (World.grownBy_alloc w _ _).trans hg1⟩
  | ok n q =>
    have hq := nameR_le hr1
    obtain ⟨b, hb⟩ : ∃ b, b = hasB l n := ⟨_, rfl⟩
    have HB := Lib.hid hb
    have HS : Hid (keyR s p l = if b = true then .bad p 5 else if l.length = 8 then .bad p 2 else
      match eatR s q 61 with
      | .bad q c => .bad q c
      | .ok _ q => match eatR s q 34 with
        | .bad q c => .bad q c
        | .ok _ q => match valR s q with
          | .bad q c => .bad q c
          | .ok v q => .ok ⟨n, v⟩ q) := by unfold keyR; rw [hr1, hb]; exact rfl
    have HR1 := Lib.hid hr1
    clear hr1 hb
    cases b with
    | true =>
    have HS2 : Hid (keyR s p l = .bad p 5) := by rw [HS.out, if_pos rfl]; exact rfl
    go_enter Tryd.func66, Tryd.ntmps66
    go_wp2_with (first | (go_at_call 74; refine (has_b l n (by omega) A cap hcap w1 (HK.out w1 gw)).mono ?_; rw [← HB.out]; rintro e w2 ⟨rfl, hb2⟩; have gw2 : w.grownBy w2 (some X) := grown_below gw hb2; have hX2 := blk_below HX1.out hb2; have hF2 := blk_below HF1.out hb2; have HX2 := Lib.hid hX2; have HF2 := Lib.hid hF2; clear hX2 hF2 hb2) | (go_at_call 65; refine (name_any X s p hp hs _ (blk_alloc hX _)).mono ?_; rw [HR1.out]; rintro e w1 ⟨⟨u, rfl, rfl⟩, hX1, hg1⟩; have gw : w.grownBy w1 (some X) := (World.grownBy_alloc w _ _).trans hg1; have hF1 : w1.heap[w.heap.size]? = some (.cells #[.string ⟨#[]⟩, .string ⟨#[]⟩] 88 (0, 0)) := blk_grown (blk_new w _) hg1 (by simp; omega); have HX1 := Lib.hid hX1; have HF1 := Lib.hid hF1; clear hX1 hF1 hg1))
    refine ⟨rfl, ?_⟩
    rw [HS2.out]
    exact ⟨rfl, gw2⟩
    | false =>
    by_cases h8 : l.length = 8
    case pos =>
      have HS2 : Hid (keyR s p l = .bad p 2) := by rw [HS.out, if_neg (by simp), if_pos h8]; exact rfl
      have hd : ((l.length : Int) == 8) = true := beq_iff_eq.2 (by omega)
      have H8 := Lib.hid h8
      clear h8
      go_enter Tryd.func66, Tryd.ntmps66
      go_wp2_with (first | (go_at_call 74; refine (has_b l n (by omega) A cap hcap w1 (HK.out w1 gw)).mono ?_; rw [← HB.out]; rintro e w2 ⟨rfl, hb2⟩; have gw2 : w.grownBy w2 (some X) := grown_below gw hb2; have hX2 := blk_below HX1.out hb2; have hF2 := blk_below HF1.out hb2; have HX2 := Lib.hid hX2; have HF2 := Lib.hid hF2; clear hX2 hF2 hb2) | (go_at_call 65; refine (name_any X s p hp hs _ (blk_alloc hX _)).mono ?_; rw [HR1.out]; rintro e w1 ⟨⟨u, rfl, rfl⟩, hX1, hg1⟩; have gw : w.grownBy w1 (some X) := (World.grownBy_alloc w _ _).trans hg1; have hF1 : w1.heap[w.heap.size]? = some (.cells #[.string ⟨#[]⟩, .string ⟨#[]⟩] 88 (0, 0)) := blk_grown (blk_new w _) hg1 (by simp; omega); have HX1 := Lib.hid hX1; have HF1 := Lib.hid hF1; clear hX1 hF1 hg1))
      refine ⟨rfl, ?_⟩
      rw [HS2.out]
      exact ⟨rfl, gw2⟩
    have hd : ((l.length : Int) == 8) = false := beq_eq_false_iff_ne.2 (by omega)
    cases hr2 : eatR s q 61 with
    | bad q1 c1 =>
    have HS2 : Hid (keyR s p l = .bad q1 c1) := by rw [HS.out, if_neg (by simp), if_neg h8, hr2]; exact rfl
    have HR2 := Lib.hid hr2
    clear hr2 h8
    go_enter Tryd.func66, Tryd.ntmps66
    go_wp2_with (first | (go_at_call 63; refine (eat_any X s q 61 hq.2 hs _ HX2.out).mono ?_; rw [HR2.out]; rintro e w3 ⟨rfl, hg3⟩) | (go_at_call 74; refine (has_b l n (by omega) A cap hcap w1 (HK.out w1 gw)).mono ?_; rw [← HB.out]; rintro e w2 ⟨rfl, hb2⟩; have gw2 : w.grownBy w2 (some X) := grown_below gw hb2; have hX2 := blk_below HX1.out hb2; have hF2 := blk_below HF1.out hb2; have HX2 := Lib.hid hX2; have HF2 := Lib.hid hF2; clear hX2 hF2 hb2) | (go_at_call 65; refine (name_any X s p hp hs _ (blk_alloc hX _)).mono ?_; rw [HR1.out]; rintro e w1 ⟨⟨u, rfl, rfl⟩, hX1, hg1⟩; have gw : w.grownBy w1 (some X) := (World.grownBy_alloc w _ _).trans hg1; have hF1 : w1.heap[w.heap.size]? = some (.cells #[.string ⟨#[]⟩, .string ⟨#[]⟩] 88 (0, 0)) := blk_grown (blk_new w _) hg1 (by simp; omega); have HX1 := Lib.hid hX1; have HF1 := Lib.hid hF1; clear hX1 hF1 hg1))
    refine ⟨rfl, ?_⟩
    rw [HS2.out]
    exact ⟨rfl, gw2.trans hg3⟩
    | ok u1 q1 =>
    have hq1 := eatR_le hr2
    have hq1s : q1 ≤ s.size := by omega
    cases hr3 : eatR s q1 34 with
    | bad q2 c2 =>
    have HS2 : Hid (keyR s p l = .bad q2 c2) := by rw [HS.out, if_neg (by simp), if_neg h8, hr2]; simp only [hr3]; exact trivial
    have HR2 := Lib.hid hr2
    have HR3 := Lib.hid hr3
    clear hr2 hr3 h8
    go_enter Tryd.func66, Tryd.ntmps66
    go_wp2_with (first | (go_at_call 63; refine (eat_any X s q1 34 hq1s hs _ HX3.out).mono ?_; rw [HR3.out]; rintro e w4 ⟨rfl, hg4⟩) | (go_at_call 63; refine (eat_any X s q 61 hq.2 hs _ HX2.out).mono ?_; rw [HR2.out]; rintro e w3 ⟨⟨u, rfl, -⟩, hX3, hg3⟩; have HX3 := Lib.hid hX3; clear hX3) | (go_at_call 74; refine (has_b l n (by omega) A cap hcap w1 (HK.out w1 gw)).mono ?_; rw [← HB.out]; rintro e w2 ⟨rfl, hb2⟩; have gw2 : w.grownBy w2 (some X) := grown_below gw hb2; have hX2 := blk_below HX1.out hb2; have hF2 := blk_below HF1.out hb2; have HX2 := Lib.hid hX2; have HF2 := Lib.hid hF2; clear hX2 hF2 hb2) | (go_at_call 65; refine (name_any X s p hp hs _ (blk_alloc hX _)).mono ?_; rw [HR1.out]; rintro e w1 ⟨⟨u, rfl, rfl⟩, hX1, hg1⟩; have gw : w.grownBy w1 (some X) := (World.grownBy_alloc w _ _).trans hg1; have hF1 : w1.heap[w.heap.size]? = some (.cells #[.string ⟨#[]⟩, .string ⟨#[]⟩] 88 (0, 0)) := blk_grown (blk_new w _) hg1 (by simp; omega); have HX1 := Lib.hid hX1; have HF1 := Lib.hid hF1; clear hX1 hF1 hg1))
    refine ⟨rfl, ?_⟩
    rw [HS2.out]
    exact ⟨rfl, (gw2.trans hg3).trans hg4⟩
    | ok u2 q2 =>
    have hq2 := eatR_le hr3
    have hq2s : q2 ≤ s.size := by omega
    cases hr4 : valR s q2 with
    | bad q3 c3 =>
    have HS2 : Hid (keyR s p l = .bad q3 c3) := by rw [HS.out, if_neg (by simp), if_neg h8, hr2]; simp only [hr3, hr4]; exact trivial
    have HR2 := Lib.hid hr2
    have HR3 := Lib.hid hr3
    have HR4 := Lib.hid hr4
    clear hr2 hr3 hr4 h8
    go_enter Tryd.func66, Tryd.ntmps66
    go_wp2_with (first | (go_at_call 75; refine (value_sc X s q2 hq2s hs _ HX4.out).mono ?_; rw [HR4.out]; rintro e w5 ⟨rfl, hg5⟩) | (go_at_call 63; refine (eat_any X s q1 34 hq1s hs _ HX3.out).mono ?_; rw [HR3.out]; rintro e w4 ⟨⟨u, rfl, -⟩, hX4, hg4⟩; have HX4 := Lib.hid hX4; clear hX4) | (go_at_call 63; refine (eat_any X s q 61 hq.2 hs _ HX2.out).mono ?_; rw [HR2.out]; rintro e w3 ⟨⟨u, rfl, -⟩, hX3, hg3⟩; have HX3 := Lib.hid hX3; clear hX3) | (go_at_call 74; refine (has_b l n (by omega) A cap hcap w1 (HK.out w1 gw)).mono ?_; rw [← HB.out]; rintro e w2 ⟨rfl, hb2⟩; have gw2 : w.grownBy w2 (some X) := grown_below gw hb2; have hX2 := blk_below HX1.out hb2; have hF2 := blk_below HF1.out hb2; have HX2 := Lib.hid hX2; have HF2 := Lib.hid hF2; clear hX2 hF2 hb2) | (go_at_call 65; refine (name_any X s p hp hs _ (blk_alloc hX _)).mono ?_; rw [HR1.out]; rintro e w1 ⟨⟨u, rfl, rfl⟩, hX1, hg1⟩; have gw : w.grownBy w1 (some X) := (World.grownBy_alloc w _ _).trans hg1; have hF1 : w1.heap[w.heap.size]? = some (.cells #[.string ⟨#[]⟩, .string ⟨#[]⟩] 88 (0, 0)) := blk_grown (blk_new w _) hg1 (by simp; omega); have HX1 := Lib.hid hX1; have HF1 := Lib.hid hF1; clear hX1 hF1 hg1))
    refine ⟨rfl, ?_⟩
    rw [HS2.out]
    exact ⟨rfl, ((gw2.trans hg3).trans hg4).trans hg5⟩
    | ok v q3 =>
    have HS2 : Hid (keyR s p l = .ok ⟨n, v⟩ q3) := by rw [HS.out, if_neg (by simp), if_neg h8, hr2]; simp only [hr3, hr4]; exact trivial
    have HR2 := Lib.hid hr2
    have HR3 := Lib.hid hr3
    have HR4 := Lib.hid hr4
    clear hr2 hr3 hr4 h8
    go_enter Tryd.func66, Tryd.ntmps66
    go_wp2_with (first | (go_at_call 75; refine (value_sc X s q2 hq2s hs _ HX4.out).mono ?_; rw [HR4.out]; rintro e w5 ⟨⟨u, rfl, rfl⟩, hX5, hg5⟩; have hg25 := (hg3.trans hg4).trans hg5; have hF5 := blk_grown HF2.out hg25 (by simp; omega); have y0 : w5.cell? ⟨w.heap.size, 0, none⟩ = some (.string ⟨#[]⟩) := blk_cell hF5 0; have y1 : w5.cell? ⟨w.heap.size, 1, none⟩ = some (.string ⟨#[]⟩) := blk_cell hF5 1; have z0 := blk_frozen hF5 0; have z1 := blk_frozen hF5 1; have HX5 := Lib.hid hX5; clear hX5 hF5) | (go_at_call 63; refine (eat_any X s q1 34 hq1s hs _ HX3.out).mono ?_; rw [HR3.out]; rintro e w4 ⟨⟨u, rfl, -⟩, hX4, hg4⟩; have HX4 := Lib.hid hX4; clear hX4) | (go_at_call 63; refine (eat_any X s q 61 hq.2 hs _ HX2.out).mono ?_; rw [HR2.out]; rintro e w3 ⟨⟨u, rfl, -⟩, hX3, hg3⟩; have HX3 := Lib.hid hX3; clear hX3) | (go_at_call 74; refine (has_b l n (by omega) A cap hcap w1 (HK.out w1 gw)).mono ?_; rw [← HB.out]; rintro e w2 ⟨rfl, hb2⟩; have gw2 : w.grownBy w2 (some X) := grown_below gw hb2; have hX2 := blk_below HX1.out hb2; have hF2 := blk_below HF1.out hb2; have HX2 := Lib.hid hX2; have HF2 := Lib.hid hF2; clear hX2 hF2 hb2) | (go_at_call 65; refine (name_any X s p hp hs _ (blk_alloc hX _)).mono ?_; rw [HR1.out]; rintro e w1 ⟨⟨u, rfl, rfl⟩, hX1, hg1⟩; have gw : w.grownBy w1 (some X) := (World.grownBy_alloc w _ _).trans hg1; have hF1 : w1.heap[w.heap.size]? = some (.cells #[.string ⟨#[]⟩, .string ⟨#[]⟩] 88 (0, 0)) := blk_grown (blk_new w _) hg1 (by simp; omega); have HX1 := Lib.hid hX1; have HF1 := Lib.hid hF1; clear hX1 hF1 hg1))
    refine bodyPost_ret (results_cell_row rfl _ _ w.heap.size 88 #[.string n, .string v] (0, 0) _ rfl (blk_put (blk_put (blk_grown HF2.out hg25 (by simp; omega)) 0 _ rfl) 1 _ rfl) Tryd.underlying88 rfl (by kernel_rfl)) rfl ?_
    rw [HS2.out]
    refine ⟨⟨_, rfl, rfl⟩, ?_, ?_⟩
    · exact (Below.heap_setCell _ _ _ _ (by simp; omega)).trans ((Below.heap_setCell _ _ _ _ (by simp; omega)).trans HX5.out)
    · exact grown_set_new (grown_set_new (gw2.trans hg25) (Nat.le_refl _) _ _) (Nat.le_refl _) _ _
end Go.Proofs.YtebajpebongabaaDoor.V
