/- Several texts in one; each says what it is. No condition beyond theirs. -/
import Derived.Test.YtebajpebongabaaDoorWAll
import Derived.Test.YtebajpebongabaaDoorPx3
import Derived.Test.YtebajpebongabaaDoorPx4
import Derived.Test.YtebajpebongabaaDoorVal
import Derived.Lib.IndexLaws
import Derived.Lib.IndexBytes
import Derived.Test.YtebajpebongabaaDoorPx22
import Derived.WalkKit
import Derived.WalkLawsBesides
import Derived.WalkSpells
import Derived.Deep.LoopGhost
import Derived.BigCall
import Derived.IntWalk
import Derived.Laws.Runes
import Derived.Lib.Hide
import Derived.Test.YtebajpebongabaaDoorProg
import Derived.Test.YtebajpebongabaaDoorPx23
/- Names: what markup.ValidName and its parts answer. No condition. -/
namespace Go.Proofs.YtebajpebongabaaDoor.V
open Go.RowKit Go.Proofs.YtebajpebongabaaDoorW.PrintWords Go.Proofs.YtebajpebongabaaDoorW.PrintMore Go.Proofs.YtebajpebongabaaDoor.P Go.Proofs.YtebajpebongabaaDoor.X
set_option linter.unusedVariables false
set_option linter.unusedSimpArgs false

theorem w64 {x : Int} (h1 : -9223372036854775808 ≤ x) (h2 : x ≤ 9223372036854775807) : wrap64 x = x := by unfold wrap64; omega

theorem ev_step {α : Type} {g f : Nat → Option α} {r : α} (k : Ev f r) (h : ∀ k, g (k + 1) = f k) : Ev g r := Ev.step h k
theorem ev_pos {α : Type} {c : Prop} [Decidable c] {f g : Nat → Option α} {r : α} (hc : c) (h : Ev f r) : Ev (fun k => if c then f k else g k) r := by
  simpa only [if_pos hc] using h
theorem ev_neg {α : Type} {c : Prop} [Decidable c] {f g : Nat → Option α} {r : α} (hc : ¬ c) (h : Ev g r) : Ev (fun k => if c then f k else g k) r := by
  simpa only [if_neg hc] using h
theorem ev_const {α : Type} {o : Option α} {r : α} (h : o = some r) : Ev (fun _ => o) r := by rw [h]; exact Ev.now r
theorem ev_one {α : Type} {g : Nat → Option α} {r : α} (h : ∃ k, g k = some r) (hm : ∀ k, LeO (g k) (g (k + 1))) : Ev g r := h.elim fun _ e => Ev.of hm e

def begB (c : Int) : Bool := decide ((65 ≤ c ∧ c ≤ 90) ∨ (97 ≤ c ∧ c ≤ 122) ∨ c = 95)
def goB (c : Int) : Bool := begB c || decide ((48 ≤ c ∧ c ≤ 57) ∨ c = 45)

theorem ite_some {c : Prop} [Decidable c] {a b : Bool} : (if c then some a else some b) = some (if c then a else b) := by split <;> rfl
theorem begins_eq (c : Int) : markup_begins.f c = some (begB c) := by
  unfold markup_begins.f begB
  simp only [ite_some]
  congr 1
  rw [Bool.eq_iff_iff, decide_eq_true_iff]
  repeat' split
  all_goals simp
  all_goals omega
theorem goesOn_eq (c : Int) : markup_goesOn.f c = some (goB c) := by
  unfold markup_goesOn.f
  rw [begins_eq]
  simp only [Option.bind_some, ite_some]
  congr 1
  unfold goB
  cases begB c
  · rw [Bool.eq_iff_iff]
    simp only [Bool.false_eq_true, if_false, Bool.false_or, decide_eq_true_iff]
    repeat' split
    all_goals simp
    all_goals omega
  · simp
/-- A name. -/
def NameOk (s : ByteArray) : Prop := 1 ≤ s.size ∧ s.size ≤ 32 ∧ begB (bt s 0) = true ∧ ∀ i : Int, 0 ≤ i → i < s.size → goB (bt s i) = true

theorem name_l0 {s : ByteArray} (hs : s.size ≤ 32) (e : Nat) : ∀ i : Int, 0 ≤ i → i + e = s.size → ∃ b : Bool, (b = true ↔ ∀ j : Int, i ≤ j → j < s.size → goB (bt s j) = true) ∧ Ev (fun k => markup_ValidName.l0 k s s.size i) b := by
  induction e with
  | zero =>
    intro i h0 hi
    refine ⟨true, ⟨fun _ j a b => by omega, fun _ => rfl⟩, ev_step (Ev.now _) fun k => ?_⟩
    simp only [markup_ValidName.l0]
    rw [if_neg (by omega)]
  | succ e ih =>
    intro i h0 hi
    by_cases c : goB (bt s i) = true
    · obtain ⟨b, hb, he⟩ := ih (i + 1) (by omega) (by omega)
      refine ⟨b, hb.trans ⟨fun p j a d => ?_, fun p j a d => p j (by omega) d⟩, ev_step he fun k => ?_⟩
      · by_cases ej : j = i
        · rw [ej]; exact c
        · exact p j (by omega) d
      · simp only [markup_ValidName.l0, goesOn_eq, c, Option.bind_some, if_true]
        rw [if_pos (by omega), if_pos h0, if_pos (by omega), w64 (by omega) (by omega)]
    · refine ⟨false, ⟨fun p => (by cases p), fun p => absurd (p i (Int.le_refl _) (by omega)) c⟩, ev_step (Ev.now _) fun k => ?_⟩
      simp only [markup_ValidName.l0, goesOn_eq, Option.bind_some]
      rw [if_pos (by omega), if_pos h0, if_pos (by omega), if_neg c]
theorem name_no (s : ByteArray) : Ev (fun k => markup_ValidName.j0 k s true) false := ev_step (Ev.now _) fun k => by simp only [markup_ValidName.j0, if_true]
theorem begB_goB {c : Int} (h : begB c = true) : goB c = true := by unfold goB; rw [h]; rfl


theorem name_ev (s : ByteArray) : ∃ b : Bool, (b = true ↔ NameOk s) ∧ Ev (fun k => markup_ValidName.f k s) b := by
  unfold markup_ValidName.f
  by_cases c1 : (s.size : Int) < 1
  · exact ⟨false, ⟨fun p => (by cases p), fun p => by have := p.1; omega⟩, ev_pos c1 (name_no s)⟩
  · by_cases c2 : (s.size : Int) > 32
    · exact ⟨false, ⟨fun p => (by cases p), fun p => by have := p.2.1; omega⟩, ev_neg c1 (ev_pos c2 (name_no s))⟩
    · by_cases c3 : begB (bt s 0) = true
      · obtain ⟨b, hb, he⟩ := name_l0 (s := s) (by omega) s.size 0 (by omega) (by omega)
        refine ⟨b, ⟨fun p => ⟨by omega, by omega, c3, hb.1 p⟩, fun p => hb.2 p.2.2.2⟩, ev_neg c1 (ev_neg c2 (ev_pos (by omega) ?_))⟩
        simp only [begins_eq, c3, Option.bind_some, Bool.not_true]
        exact ev_step he fun k => by simp only [markup_ValidName.j0, Bool.false_eq_true, if_false]
      · refine ⟨false, ⟨fun p => (by cases p), fun p => absurd p.2.2.1 c3⟩, ev_neg c1 (ev_neg c2 (ev_pos (by omega) ?_))⟩
        simp only [begins_eq, Option.bind_some, Bool.not_eq_true _ ▸ c3, Bool.not_false]
        exact name_no s

/-- Byte i of a string; 0 behind its end. -/
def bA (s : ByteArray) (i : Nat) : Nat := if h : i < s.size then (s[i]'h).toNat else 0
theorem bA_at (s : ByteArray) (i : Nat) : ∀ h : i < s.size, ((s[i]'h).toNat : Int) = (bA s i : Int) := fun h => by simp [bA, h]
theorem bA_le (s : ByteArray) (i : Nat) : bA s i ≤ 255 := by
  unfold bA
  split
  · rename_i h; have := (s[i]'h).toNat_lt; omega
  · omega
theorem bt_bA (s : ByteArray) (i : Nat) : bt s i = (bA s i : Int) := by
  unfold bt bA
  simp only [Int.toNat_natCast]
  split <;> rfl
/-- A name. -/
def nameB (s : ByteArray) : Bool := decide (1 ≤ s.size) && decide (s.size ≤ 32) && begB (bA s 0) && (List.range s.size).all fun i => goB (bA s i)
theorem nameB_iff (s : ByteArray) : nameB s = true ↔ NameOk s := by
  unfold nameB NameOk
  simp only [Bool.and_eq_true, decide_eq_true_eq, List.all_eq_true, List.mem_range]
  have e0 : bt s 0 = (bA s 0 : Int) := bt_bA s 0
  rw [e0]
  constructor
  · rintro ⟨⟨⟨a, b⟩, c⟩, d⟩
    refine ⟨a, b, c, fun i i0 i1 => ?_⟩
    have := d i.toNat (by omega)
    rw [← bt_bA, Int.toNat_of_nonneg i0] at this
    exact this
  · rintro ⟨a, b, c, d⟩
    refine ⟨⟨⟨a, b⟩, c⟩, fun i hi => ?_⟩
    have := d i (by omega) (by omega)
    rwa [bt_bA] at this

theorem begins_q (c : Int) (w : World) : Calls Tryd.prog 53 #[.int .u8 c] w fun e w' => e = .returned (.bool (begB c)) ∧ ∃ m, w' = w.drewN m :=
  (markup_begins.calls c _ w (begins_eq c)).mono fun _ _ ⟨h, d⟩ => ⟨h, d.out⟩
theorem goesOn_q (c : Int) (w : World) : Calls Tryd.prog 54 #[.int .u8 c] w fun e w' => e = .returned (.bool (goB c)) ∧ ∃ m, w' = w.drewN m :=
  (markup_goesOn.calls c _ w (goesOn_eq c)).mono fun _ _ ⟨h, d⟩ => ⟨h, d.out⟩
theorem name_q (s : ByteArray) (w : World) : Calls Tryd.prog 32 #[.string s] w fun e w' => e = .returned (.bool (nameB s)) ∧ ∃ m, w' = w.drewN m := by
  obtain ⟨b, hb, he⟩ := name_ev s
  obtain ⟨k, hk⟩ := he.rounds
  have e : b = nameB s := by
    have h := nameB_iff s
    cases b <;> cases hn : nameB s <;> simp_all
  rw [e] at hk
  exact (markup_ValidName.calls k s _ w hk).mono fun _ _ ⟨h, d⟩ => ⟨h, d.out⟩
end Go.Proofs.YtebajpebongabaaDoor.V
/- strings.HasPrefix, strings.Cut at a line feed: what they answer. Condition: as said. -/
namespace Go.Proofs.YtebajpebongabaaDoor.V
open Go.RowKit Go.Proofs.YtebajpebongabaaDoorW.PrintWords Go.Proofs.YtebajpebongabaaDoorW.PrintMore Go.Proofs.YtebajpebongabaaDoor.P Go.Proofs.YtebajpebongabaaDoor.X
set_option linter.unusedVariables false
set_option linter.unusedSimpArgs false

/-- p begins s. -/
def preB (s p : ByteArray) : Bool := decide (p.size ≤ s.size) && ((s.extract 0 p.size).toList == p.toList)
theorem prefix_eq (s p : ByteArray) : strings_HasPrefix.f s p = some (preB s p) := by
  unfold strings_HasPrefix.f stringslite_HasPrefix.f preB
  by_cases c : p.size ≤ s.size
  · rw [if_pos (by omega), if_pos (by omega), if_pos (by omega), decide_eq_true c]
    simp
  · rw [if_neg (by omega), decide_eq_false c]
    rfl
theorem prefix_q (s p : ByteArray) (w : World) : Calls Tryd.prog 23 #[.string s, .string p] w fun e w' => e = .returned (.bool (preB s p)) ∧ ∃ m, w' = w.drewN m :=
  (strings_HasPrefix.calls s p _ w (prefix_eq s p)).mono fun _ _ ⟨h, d⟩ => ⟨h, d.out⟩

/-- A line's end within s. -/
def lineN (s : ByteArray) : Nat := if Lib.indexByte s.data.toList 10 < 0 then s.size else (Lib.indexByte s.data.toList 10).toNat
theorem indexByte_lt : ∀ (l : List UInt8) (c : UInt8), Lib.indexByte l c < l.length
  | [], c => by simp [Lib.indexByte]
  | a :: l, c => by
    have := indexByte_lt l c
    simp only [Lib.indexByte]
    split
    · simp only [List.length_cons]; omega
    · split <;> simp only [List.length_cons] <;> omega
theorem lineN_le (s : ByteArray) : lineN s ≤ s.size := by
  unfold lineN
  have h := indexByte_lt s.data.toList 10
  split
  · exact Nat.le_refl _
  · have e : s.data.toList.length = s.size := Array.length_toList
    omega
theorem cut_q (s : ByteArray) (hs : s.size ≤ 140737488351232) (w : World) : Calls Tryd.prog 11 #[.string s, .string ⟨#[10]⟩] w fun e w' => ∃ (a : ByteArray) (b : Bool), e = .returned (.tuple #[.string (s.extract 0 (lineN s)), .string a, .bool b]) ∧ ∃ m, w' = w.drewN m := by
  have h := indexByte_lt s.data.toList 10
  have e : s.data.toList.length = s.size := Array.length_toList
  have key : ∃ (a : ByteArray) (b : Bool), strings_Cut.f s ⟨#[10]⟩ = some (s.extract 0 (lineN s), a, b) := by
    unfold strings_Cut.f stringslite_Cut.f stringslite_Index.f lineN
    simp only [Option.bind_some]
    by_cases c : Lib.indexByte s.data.toList 10 < 0
    · rw [if_neg (by omega), if_pos c]
      exact ⟨⟨#[]⟩, false, by simp [ByteArray.extract_zero_size]⟩
    · have hw : wrap64 (Lib.indexByte s.data.toList 10 + ((⟨#[10]⟩ : ByteArray).size : Int)) = Lib.indexByte s.data.toList 10 + 1 := w64 (x := Lib.indexByte s.data.toList 10 + 1) (by omega) (by omega)
      rw [if_pos (by omega), if_pos (by omega), if_pos (by omega), if_neg c, hw, if_pos (by omega), if_pos (by omega)]
      exact ⟨_, _, rfl⟩
  obtain ⟨a, b, hk⟩ := key
  exact (strings_Cut.calls s ⟨#[10]⟩ _ _ _ w hk).mono fun _ _ ⟨h, d⟩ => ⟨a, b, h, d.out⟩
end Go.Proofs.YtebajpebongabaaDoor.V
/- markup.escape, markup.Unescape: what they answer, by plain functions of the string. Condition: the string is at most 2^40 bytes long. -/
namespace Go.Proofs.YtebajpebongabaaDoor.V
open Go.RowKit Go.Proofs.YtebajpebongabaaDoorW.PrintWords Go.Proofs.YtebajpebongabaaDoorW.PrintMore Go.Proofs.YtebajpebongabaaDoorW.PrintLast Go.Proofs.YtebajpebongabaaDoor.P Go.Proofs.YtebajpebongabaaDoor.X
set_option linter.unusedVariables false
set_option linter.unusedSimpArgs false

/-! ### escape -/
def escNum (s : ByteArray) : Nat → Nat → Nat → Nat × Nat
  | 0, i, n => (i, n)
  | b + 1, i, n => if i < s.size ∧ i < 9 ∧ 48 ≤ bA s i ∧ bA s i ≤ 57 then escNum s b (i + 1) (10 * n + (bA s i - 48)) else (i, n)
def escEnd (s : ByteArray) (i n : Nat) : Nat × Nat :=
  if i = 2 ∨ i = s.size ∨ bA s i ≠ 59 then (0, 0) else if bA s 2 = 48 ∧ 3 < i then (0, 0) else if (55296 ≤ n ∧ n ≤ 57343) ∨ 1114111 < n then (0, 0) else (n, i + 1)
/-- The code point of the escape that begins s, and its length. -/
def escR (s : ByteArray) : Nat × Nat :=
  if preB s ⟨#[38, 97, 109, 112, 59]⟩ then (38, 5) else if preB s ⟨#[38, 108, 116, 59]⟩ then (60, 4) else if preB s ⟨#[38, 103, 116, 59]⟩ then (62, 4) else
  if preB s ⟨#[38, 113, 117, 111, 116, 59]⟩ then (34, 6) else if preB s ⟨#[38, 35]⟩ then escEnd s (escNum s 8 2 0).1 (escNum s 8 2 0).2 else (0, 0)

theorem escEnd_ev (s : ByteArray) (i n : Nat) (hi : 2 ≤ i) (hs : i ≤ s.size) (h9 : i ≤ 9) (hn : n ≤ 9999999) : Ev (fun k => markup_escape.j1 k s n i) (((escEnd s i n).1 : Int), ((escEnd s i n).2 : Int)) := by
  have no : Ev (fun k => markup_escape.j2 k s n i true) (0, 0) := ev_step (Ev.now _) fun k => by simp only [markup_escape.j2, if_true]
  have e1 : ((i : Int) == 2) = decide (i = 2) := by rw [Bool.eq_iff_iff, beq_iff_eq, decide_eq_true_iff]; omega
  by_cases c1 : i = 2
  · have hr : escEnd s i n = (0, 0) := by unfold escEnd; rw [if_pos (.inl c1)]
    rw [hr]
    refine ev_step no fun k => ?_
    simp only [markup_escape.j1]
    rw [if_pos (by omega), e1, decide_eq_true c1]
  by_cases c2 : i = s.size
  · have hr : escEnd s i n = (0, 0) := by unfold escEnd; rw [if_pos (.inr (.inl c2))]
    rw [hr]
    refine ev_step no fun k => ?_
    simp only [markup_escape.j1]
    rw [if_neg (by omega), if_pos (by omega), show ((i : Int) == (s.size : Int)) = true from beq_iff_eq.2 (by omega)]
  by_cases c3 : bA s i = 59
  case neg =>
    have hr : escEnd s i n = (0, 0) := by unfold escEnd; rw [if_pos (.inr (.inr c3))]
    rw [hr]
    refine ev_step no fun k => ?_
    simp only [markup_escape.j1]
    rw [if_neg (by omega), if_neg (by omega), if_pos (by omega), if_pos (by omega), bt_bA, show (((bA s i : Nat) : Int) != 59) = true from bne_iff_ne.2 (by omega)]
  have j1 : ∀ r, Ev (fun k => markup_escape.j2 k s n i false) r → Ev (fun k => markup_escape.j1 k s n i) r := fun r h => ev_step h fun k => by
    simp only [markup_escape.j1]
    rw [if_neg (by omega), if_neg (by omega), if_pos (by omega), if_pos (by omega), bt_bA, c3]
    rfl
  have b2 : bt s 2 = (bA s 2 : Int) := bt_bA s 2
  by_cases c4 : bA s 2 = 48 ∧ 3 < i
  · have hr : escEnd s i n = (0, 0) := by unfold escEnd; rw [if_neg (by omega), if_pos c4]
    rw [hr]
    refine j1 _ (ev_step (f := fun k => markup_escape.j3 k n i true) (ev_step (Ev.now _) fun k => by simp only [markup_escape.j3, if_true]; rfl) fun k => ?_)
    simp only [markup_escape.j2, Bool.false_eq_true, if_false]
    rw [if_pos (by omega), b2, if_pos (by omega), show decide ((i : Int) > 3) = true from decide_eq_true (by omega)]
  have j2 : ∀ r, Ev (fun k => markup_escape.j3 k n i false) r → Ev (fun k => markup_escape.j1 k s n i) r := fun r h => j1 _ (ev_step h fun k => by
    simp only [markup_escape.j2, Bool.false_eq_true, if_false]
    rw [if_pos (by omega), b2]
    by_cases c5 : bA s 2 = 48
    · rw [if_pos (by omega), show decide ((i : Int) > 3) = false from decide_eq_false (by omega)]
    · rw [if_neg (by omega)])
  by_cases c5 : 55296 ≤ n ∧ n ≤ 57343
  · have hr : escEnd s i n = (0, 0) := by unfold escEnd; rw [if_neg (by omega), if_neg c4, if_pos (.inl c5)]
    rw [hr]
    refine j2 _ (ev_step (f := fun k => markup_escape.j4 k n i true) (ev_step (Ev.now _) fun k => by simp only [markup_escape.j4, if_true]; rfl) fun k => ?_)
    simp only [markup_escape.j3, Bool.false_eq_true, if_false]
    rw [if_pos (by omega), show decide ((n : Int) ≤ 57343) = true from decide_eq_true (by omega)]
  have j3 : ∀ r, Ev (fun k => markup_escape.j4 k n i false) r → Ev (fun k => markup_escape.j1 k s n i) r := fun r h => j2 _ (ev_step h fun k => by
    simp only [markup_escape.j3, Bool.false_eq_true, if_false]
    by_cases c6 : 55296 ≤ n
    · rw [if_pos (by omega), show decide ((n : Int) ≤ 57343) = false from decide_eq_false (by omega)]
    · rw [if_neg (by omega)])
  by_cases c6 : 1114111 < n
  · have hr : escEnd s i n = (0, 0) := by unfold escEnd; rw [if_neg (by omega), if_neg c4, if_pos (.inr c6)]
    rw [hr]
    refine j3 _ (ev_step (Ev.now _) fun k => ?_)
    simp only [markup_escape.j4, Bool.false_eq_true, if_false]
    rw [if_pos (by omega)]
    rfl
  · have hr : escEnd s i n = (n, i + 1) := by unfold escEnd; rw [if_neg (by omega), if_neg c4, if_neg (by omega)]
    rw [hr]
    refine j3 _ (ev_step (Ev.now _) fun k => ?_)
    simp only [markup_escape.j4, Bool.false_eq_true, if_false]
    rw [if_neg (by omega), show wrap32 (n : Int) = (n : Int) by unfold wrap32; omega, w64 (by omega) (by omega)]
    rfl

theorem escNum_ev (s : ByteArray) : ∀ (b i n : Nat), 2 ≤ i → i ≤ s.size → 10 ≤ i + b → i ≤ 9 → n + 1 ≤ 10 ^ (i - 2) → Ev (fun k => markup_escape.l0 k s n i) (((escEnd s (escNum s b i n).1 (escNum s b i n).2).1 : Int), ((escEnd s (escNum s b i n).1 (escNum s b i n).2).2 : Int))
  | 0, i, n, h2, hs, hb, h9, hn => by omega
  | b + 1, i, n, h2, hs, hb, h9, hn => by
    have hp : (10 : Nat) ^ (i - 2) ≤ 10 ^ 7 := Nat.pow_le_pow_right (by omega) (by omega)
    by_cases c : i < s.size ∧ i < 9 ∧ 48 ≤ bA s i ∧ bA s i ≤ 57
    · have e : escNum s (b + 1) i n = escNum s b (i + 1) (10 * n + (bA s i - 48)) := by
        conv => lhs; unfold escNum
        rw [if_pos c]
      rw [e]
      have hp2 : (10 : Nat) ^ (i + 1 - 2) = 10 ^ (i - 2) * 10 := by rw [show i + 1 - 2 = (i - 2) + 1 by omega, Nat.pow_succ]
      refine ev_step (escNum_ev s b (i + 1) (10 * n + (bA s i - 48)) (by omega) (by omega) (by omega) (by omega) (by rw [hp2]; omega)) fun k => ?_
      simp only [markup_escape.l0]
      rw [if_pos (by omega), if_pos (by omega), if_pos (by omega), bt_bA, if_pos (by omega), if_pos (by omega)]
      have e1 : wrap64 (10 * (n : Int)) = 10 * (n : Int) := w64 (by omega) (by omega)
      have e2 : ((bA s i : Int) - 48) % 256 = ((bA s i - 48 : Nat) : Int) := by omega
      have e3 : wrap64 (10 * (n : Int) + ((bA s i - 48 : Nat) : Int)) = ((10 * n + (bA s i - 48) : Nat) : Int) := by rw [w64 (by omega) (by omega)]; omega
      have e4 : wrap64 ((i : Int) + 1) = ((i + 1 : Nat) : Int) := by rw [w64 (by omega) (by omega)]; omega
      rw [e1, e2, e3, e4]
    · have e : escNum s (b + 1) i n = (i, n) := by unfold escNum; rw [if_neg c]
      rw [e]
      refine ev_step (escEnd_ev s i n h2 hs h9 (by omega)) fun k => ?_
      simp only [markup_escape.l0]
      by_cases c1 : i < s.size
      · rw [if_pos (by omega)]
        by_cases c2 : i < 9
        · rw [if_pos (by omega), if_pos (by omega), bt_bA]
          by_cases c3 : 48 ≤ bA s i
          · rw [if_pos (by omega), if_neg (by omega)]
          · rw [if_neg (by omega)]
        · rw [if_neg (by omega)]
      · rw [if_neg (by omega)]

theorem escape_ev (s : ByteArray) : Ev (fun k => markup_escape.f k s) (((escR s).1 : Int), ((escR s).2 : Int)) := by
  unfold markup_escape.f
  simp only [prefix_eq, Option.bind_some]
  unfold escR
  by_cases c1 : preB s ⟨#[38, 97, 109, 112, 59]⟩ = true
  · rw [if_pos c1]; exact ev_pos c1 (Ev.now _)
  refine ev_neg c1 ?_
  rw [if_neg c1]
  by_cases c2 : preB s ⟨#[38, 108, 116, 59]⟩ = true
  · rw [if_pos c2]; exact ev_pos c2 (Ev.now _)
  refine ev_neg c2 ?_
  rw [if_neg c2]
  by_cases c3 : preB s ⟨#[38, 103, 116, 59]⟩ = true
  · rw [if_pos c3]; exact ev_pos c3 (Ev.now _)
  refine ev_neg c3 ?_
  rw [if_neg c3]
  by_cases c4 : preB s ⟨#[38, 113, 117, 111, 116, 59]⟩ = true
  · rw [if_pos c4]; exact ev_pos c4 (Ev.now _)
  refine ev_neg c4 ?_
  rw [if_neg c4]
  by_cases c5 : preB s ⟨#[38, 35]⟩ = true
  · rw [if_pos c5]
    refine ev_pos c5 (escNum_ev s 8 2 0 (Nat.le_refl _) ?_ (by omega) (by omega) (by simp))
    unfold preB at c5
    simp only [Bool.and_eq_true, decide_eq_true_eq] at c5
    exact c5.1
  · rw [if_neg c5]; exact ev_neg c5 (Ev.now _)
theorem escape_q (s : ByteArray) (w : World) : Calls Tryd.prog 62 #[.string s] w fun e w' => e = .returned (.tuple #[.int .i32 ((escR s).1 : Int), .int .i64 ((escR s).2 : Int)]) ∧ ∃ m, w' = w.drewN m := by
  obtain ⟨k, hk⟩ := (escape_ev s).rounds
  exact (markup_escape.calls k s _ _ w hk).mono fun _ _ ⟨h, d⟩ => ⟨h, d.out⟩

theorem escNum_i (s : ByteArray) : ∀ (b i n : Nat), i ≤ s.size → i ≤ (escNum s b i n).1 ∧ (escNum s b i n).1 ≤ s.size
  | 0, i, n, h => ⟨Nat.le_refl _, h⟩
  | b + 1, i, n, h => by
    unfold escNum
    split
    · rename_i c
      have := escNum_i s b (i + 1) (10 * n + (bA s i - 48)) c.1
      omega
    · exact ⟨Nat.le_refl _, h⟩
theorem preB_size {s p : ByteArray} (h : preB s p = true) : p.size ≤ s.size := by
  unfold preB at h
  simp only [Bool.and_eq_true, decide_eq_true_eq] at h
  exact h.1
/-- An escape lies within the string. -/
theorem escR_le (s : ByteArray) : (escR s).2 ≤ s.size := by
  unfold escR
  split
  · rename_i c; exact preB_size c
  split
  · rename_i c; exact preB_size c
  split
  · rename_i c; exact preB_size c
  split
  · rename_i c; exact preB_size c
  split
  · rename_i c
    have h2 := preB_size c
    have := escNum_i s 8 2 0 h2
    unfold escEnd
    repeat' split
    all_goals first | (simp only []; omega) | omega
  · exact Nat.zero_le _
theorem escR_rune (s : ByteArray) : (escR s).1 ≤ 1114111 := by
  unfold escR escEnd
  repeat' split
  all_goals first | (simp only []; omega) | omega

/-! ### Unescape -/
/-- From place i on, out having been written: the text, or the place of what is no escape. -/
def unescL (s : ByteArray) : Nat → Nat → List Int → ByteArray × Int × Int
  | 0, i, out => (strOfNums out, 0, 0)
  | b + 1, i, out =>
    if i < s.size then
      (if bA s i ≠ 38 then unescL s b (i + 1) (out ++ [(bA s i : Int)])
       else if (escR (s.extract i s.size)).2 = 0 then (⟨#[]⟩, (i : Int), 3)
       else unescL s b (i + (escR (s.extract i s.size)).2) (out ++ bytesOf (Utf8.encode (escR (s.extract i s.size)).1)))
    else (strOfNums out, 0, 0)
def unescR (s : ByteArray) : ByteArray × Int × Int := unescL s s.size 0 []

theorem unescL_end (s : ByteArray) (b i : Nat) (out : List Int) (h : ¬ i < s.size) : unescL s b i out = (strOfNums out, 0, 0) := by
  cases b with
  | zero => rfl
  | succ b => unfold unescL; rw [if_neg h]
theorem encode_size (r : Int) : (Utf8.encode r).size ≤ 4 := by
  simp only [Utf8.encode]
  generalize (if Utf8.valid r = true then r.toNat else Utf8.runeError) = c
  by_cases h1 : c < 128
  · rw [if_pos h1]; exact (show (1 : Nat) ≤ 4 by omega)
  rw [if_neg h1]
  by_cases h2 : c < 2048
  · rw [if_pos h2]; exact (show (2 : Nat) ≤ 4 by omega)
  rw [if_neg h2]
  by_cases h3 : c < 65536
  · rw [if_pos h3]; exact (show (3 : Nat) ≤ 4 by omega)
  rw [if_neg h3]
  exact Nat.le_refl 4
theorem escape_r (s : ByteArray) (w : World) (r : Nat × Nat) (hr : Hid (r = escR s)) : Calls Tryd.prog 62 #[.string s] w fun e w' => e = .returned (.tuple #[.int .i32 (r.1 : Int), .int .i64 (r.2 : Int)]) ∧ ∃ m, w' = w.drewN m := by
  rw [hr.out]
  exact escape_q s w

theorem info5 : (Tryd.prog.info? 5).map (fun i => (i.zero, i.size, i.bytes)) = some (some (.int .u8 0), 1, 1) := by kernel_rfl

set_option maxRecDepth 100000 in
set_option maxHeartbeats 4000000 in
theorem unescape_any (s : ByteArray) (hs : s.size ≤ 1099511627776) (w : World) : Calls Tryd.prog 45 #[.string s] w fun e w' => e = .returned (.tuple #[.string (unescR s).1, .int .i64 (unescR s).2.1, .int .i64 (unescR s).2.2]) ∧ Below w.heap.size w w' := by
  go_enter Tryd.func45, Tryd.ntmps45
  go_wp2
  go_loopw [5, 6] (fun v ii wr => ∃ (i b : Nat) (out : List Int), ii = .int .i64 i ∧ i ≤ s.size ∧ s.size ≤ i + b ∧ out.length ≤ 4 * i ∧ wr.ownsRow w.heap.size 5 1 v out.length (nums .u8 out) ∧ Below w.heap.size w wr ∧ unescR s = unescL s b i out) (fun _ ii _ => s.size - (intOf ii).toNat)
  case atStart => exact ⟨0, s.size, [], rfl, Nat.zero_le _, by omega, by simp, own_nil _ _ _ _, Below.refl _ _, rfl⟩
  case round =>
    obtain ⟨i, b, out, rfl, hi, hb, hol, hown, hB, hu⟩ := hrel
    by_cases hlt : i < s.size
    · obtain ⟨b, rfl⟩ : ∃ c, b = c + 1 := ⟨b - 1, by omega⟩
      have hba := bA_at s i
      have h0 : (0 : Int) ≤ (i : Int) := by omega
      have h1 : (i : Int) < (s.size : Int) := by omega
      have h1' : (i : Int) ≤ (s.size : Int) := by omega
      unfold unescL at hu
      rw [if_pos hlt] at hu
      by_cases hc : bA s i ≠ 38
      · rw [if_pos hc] at hu
        have HU := Lib.hid hu
        have HO := Lib.hid hown
        have hne : (((bA s i : Nat) : Int) != 38) = true := bne_iff_ne.2 (by omega)
        clear hu hown hc
        go_wp2_with (at_builtin; refine print_append_num (w0 := w) w.heap.size rfl (.tmp 17) (.tmp 21) 111 5 .u8 1 rfl Tryd.underlying111 info5 (by omega) _ out (bA s i) rfl rfl HO.out hB hB.size (by omega) ?_; intro v1 w1 hown1 hB1 hg1 hat1; have HO1 := Lib.hid hown1; have HG1 := Lib.hid hg1; have HA1 := Lib.hid hat1; clear hown1 hg1 hat1)
        go_roundw
        case rel => exact ⟨i + 1, b, _, by go_num, by omega, by omega, by simp; omega, HO1.out, hB1, HU.out⟩
        case measure => simp [intOf]; omega
      · have hc38 : bA s i = 38 := by omega
        rw [if_neg hc] at hu
        have hne : (((bA s i : Nat) : Int) != 38) = false := by rw [hc38]; rfl
        have hle := escR_le (s.extract i s.size)
        have hrn := escR_rune (s.extract i s.size)
        have hsz : (s.extract i s.size).size = s.size - i := by rw [ByteArray.size_extract]; omega
        rw [hsz] at hle
        have henc := encode_size ((escR (s.extract i s.size)).1 : Int)
        obtain ⟨r, hr⟩ : ∃ r, r = escR (s.extract i s.size) := ⟨_, rfl⟩
        rw [← hr] at hu hle hrn henc
        have HR : Hid (r = escR (s.extract i s.size)) := hr
        have HO := Lib.hid hown
        have HC := Lib.hid hc38
        by_cases hz : r.2 = 0
        · rw [if_pos hz] at hu
          have HU := Lib.hid hu
          have hz0 : ((r.2 : Int) == 0) = true := beq_iff_eq.2 (by omega)
          have HS := Lib.hid hsz
          clear hu hown hc hc38 hr hz hsz
          go_wp2_with (go_at_call 62; refine (escape_r _ _ r HR).mono ?_; rintro e w1 ⟨rfl, m, rfl⟩)
          go_ret3
          rw [HU.out]
          exact ⟨rfl, pw_below_drewN hB _⟩
        · rw [if_neg hz] at hu
          have HU := Lib.hid hu
          have hz0 : ((r.2 : Int) == 0) = false := beq_eq_false_iff_ne.2 (by omega)
          have HS := Lib.hid hsz
          have hr1 : (r.1 : Int) ≤ 1114111 := by omega
          clear hu hown hc hc38 hr hsz
          go_wp2_with (first | (go_at_call 62; refine (escape_r _ _ r HR).mono ?_; rintro e w1 ⟨rfl, m, rfl⟩) | (at_builtin; refine print_append_str (w0 := w) w.heap.size rfl (.tmp 35) (.tmp 37) 111 9 5 rfl Tryd.underlying111 Tryd.underlying9 info5 _ out (Utf8.encode (r.1 : Int)) rfl rfl (pw_own_below HO.out (pw_below_drewN (Below.refl _ _) _)) (pw_below_drewN hB _) hB.size (by omega) ?_; intro v1 w1 hown1 hB1 hg1; have HO1 := Lib.hid hown1; have HG1 := Lib.hid hg1; clear hown1 hg1))
          go_roundw
          case rel =>
            have hlen : (out ++ bytesOf (Utf8.encode (r.1 : Int))).length ≤ 4 * (i + r.2) := by rw [List.length_append, bytesOf_length]; omega
            exact ⟨i + r.2, b, _, by go_num, by omega, by omega, hlen, HO1.out, hB1, HU.out⟩
          case measure => simp [intOf]; omega
    · rw [unescL_end _ _ _ _ hlt] at hu
      have HU := Lib.hid hu
      have hge : ¬ (i : Int) < (s.size : Int) := by omega
      have hcv1 := own_string (src := 111) (dst := 9) Tryd.underlying111 Tryd.underlying5 Tryd.underlying9 hown
      clear hu
      go_wp2
      go_ret3
      rw [HU.out]
      exact ⟨rfl, hB⟩


theorem unescL_pos (s : ByteArray) : ∀ (b i : Nat) (out : List Int), i ≤ s.size → 0 ≤ (unescL s b i out).2.1 ∧ (unescL s b i out).2.1 ≤ s.size
  | 0, i, out, h => by unfold unescL; exact ⟨Int.le_refl _, by simp⟩
  | b + 1, i, out, h => by
    unfold unescL
    split
    · rename_i c
      split
      · exact unescL_pos s b (i + 1) _ c
      · split
        · simp only []; omega
        · have h1 := escR_le (s.extract i s.size)
          have h2 : (s.extract i s.size).size = s.size - i := by rw [ByteArray.size_extract]; omega
          exact unescL_pos s b _ _ (by omega)
    · exact ⟨Int.le_refl _, by simp⟩
theorem unescR_pos (s : ByteArray) : 0 ≤ (unescR s).2.1 ∧ (unescR s).2.1 ≤ s.size := unescL_pos s _ _ _ (Nat.zero_le _)
theorem unescape_r (s : ByteArray) (hs : s.size ≤ 1099511627776) (w : World) (r : ByteArray × Int × Int) (hr : Hid (r = unescR s)) : Calls Tryd.prog 45 #[.string s] w fun e w' => e = .returned (.tuple #[.string r.1, .int .i64 r.2.1, .int .i64 r.2.2]) ∧ Below w.heap.size w w' := by
  rw [hr.out]
  exact unescape_any s hs w
theorem value_r (s : ByteArray) (w : World) (r : Int) (hr : Hid (r = valueE s)) : Calls Tryd.prog 55 #[.string s] w fun e w' => e = .returned (.int .i64 r) ∧ Below w.heap.size w w' := by
  rw [hr.out]
  exact value_any s w
end Go.Proofs.YtebajpebongabaaDoor.V
