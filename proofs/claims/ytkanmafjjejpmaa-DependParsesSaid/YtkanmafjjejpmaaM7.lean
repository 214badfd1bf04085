/- depend.Parse and its reference give one result: positions, names, lines, the loop. Condition: at most 2^20 bytes are read by both. -/
import Derived.Test.YtkanmafjjejpmaaM0
import Derived.Test.YtkanmafjjejpmaaPx28
import Derived.Test.YtkanmafjjejpmaaPx13
import Derived.Test.YtkanmafjjejpmaaPx26
import Derived.Test.YtkanmafjjejpmaaM2
import Derived.Test.YtkanmafjjejpmaaPx15
import Derived.Test.YtkanmafjjejpmaaPx27
import Derived.Test.YtkanmafjjejpmaaPx29
import Derived.Test.YtkanmafjjejpmaaPx30
namespace Go.Proofs.Ytkanmafjjejpmaa.M
open Go.RowKit Go.Proofs.YtkanmafjjejpmaaW.PrintWords Go.Proofs.YtkanmafjjejpmaaW.PrintMore Go.Proofs.Ytkanmafjjejpmaa.P Go.Proofs.Ytkanmafjjejpmaa.X

/-- Offsets and code points of units. -/
def us (l : List S58) : List (Int × Int) := l.map fun u => (u.f1, u.f0)

theorem us_set {l : List S58} {i : Int} (h0 : 0 ≤ i) (h1 : i < l.length) {v : S58} (e1 : v.f1 = (rd_T58 l i).f1) (e0 : v.f0 = (rd_T58 l i).f0) : us (l.set i.toNat v) = us l := by
  unfold us
  rw [List.map_set]
  have hr : rd_T58 l i = l[i.toNat]'(by omega) := by
    unfold rd_T58
    rw [List.getD_eq_getElem?_getD, List.getElem?_eq_getElem (by omega)]
    rfl
  have : (v.f1, v.f0) = (l.map fun u => (u.f1, u.f0))[i.toNat]'(by rw [List.length_map]; omega) := by
    rw [List.getElem_map, e1, e0, hr]
  rw [this, List.set_getElem_self]

theorem us_set1 {l : List S58} {i a b c : Int} {d : Bool} (h0 : 0 ≤ i) (h1 : i < l.length) (e1 : b = (rd_T58 l i).f1) (e0 : a = (rd_T58 l i).f0) : us (l.set i.toNat ⟨a, b, c, d⟩) = us l := us_set h0 h1 e1 e0

theorem units_l1 (e : Nat) : ∀ (l : List S58) (i : Int), l.length ≤ 1000000000000 → 0 ≤ i → i + e = l.length → ∃ r, us r = us l ∧ r.length = l.length ∧ Ev (fun k => corporaref01_Units.l1 k l l.length i) r := by
  induction e with
  | zero =>
    intro l i hl h0 hi
    refine ⟨l, rfl, rfl, ev_step (Ev.now _) fun k => ?_⟩
    simp only [corporaref01_Units.l1]
    rw [if_neg (by omega)]
  | succ e ih =>
    intro l i hl h0 hi
    by_cases c : (rd_T58 l i).f0 = 65533
    · obtain ⟨r, h1, h2, h3⟩ := ih (l.set i.toNat ⟨(rd_T58 l i).f0, (rd_T58 l i).f1, (rd_T58 l i).f2, ((rd_T58 l i).f2) == 3⟩) (i + 1) (by simpa using hl) (by omega) (by rw [List.length_set]; omega)
      rw [us_set1 h0 (by omega) (by rfl) (by rfl)] at h1
      rw [List.length_set] at h2 h3
      refine ⟨r, h1, h2, ev_step h3 fun k => ?_⟩
      simp only [corporaref01_Units.l1]
      rw [if_pos (by omega), if_pos h0, if_pos (by omega), if_pos c, w64 (by omega) (by omega)]
    · obtain ⟨r, h1, h2, h3⟩ := ih (l.set i.toNat ⟨(rd_T58 l i).f0, (rd_T58 l i).f1, (rd_T58 l i).f2, true⟩) (i + 1) (by simpa using hl) (by omega) (by rw [List.length_set]; omega)
      rw [us_set1 h0 (by omega) (by rfl) (by rfl)] at h1
      rw [List.length_set] at h2 h3
      refine ⟨r, h1, h2, ev_step h3 fun k => ?_⟩
      simp only [corporaref01_Units.l1]
      rw [if_pos (by omega), if_pos h0, if_pos (by omega), if_neg c, w64 (by omega) (by omega)]
theorem units_j1 {l : List S58} (hl : l.length ≤ 1000000000000) : ∃ r, us r = us l ∧ r.length = l.length ∧ Ev (fun k => corporaref01_Units.j1 k l) r := by
  obtain ⟨r, h1, h2, h3⟩ := units_l1 l.length l 0 hl (by omega) (by omega)
  exact ⟨r, h1, h2, ev_step h3 fun k => by simp only [corporaref01_Units.j1]⟩

theorem units_l0 {s : ByteArray} (hs : s.size ≤ 1000000000) (b : Nat) : ∀ (l : List S58) (p : Nat), l.length ≤ p → p ≤ s.size + 4 → s.size ≤ p + b →
    ∃ r, us r = us l ++ runes s b p ∧ r.length ≤ 1000000004 ∧ Ev (fun k => corporaref01_Units.l0 k s l s p) r := by
  have fin : ∀ (l : List S58) (p : Nat), l.length ≤ p → p ≤ s.size + 4 → ¬ p < s.size → ∃ r, us r = us l ∧ r.length ≤ 1000000004 ∧ Ev (fun k => corporaref01_Units.l0 k s l s p) r := by
    intro l p hl hp hge
    by_cases c : l.length = 0
    · obtain ⟨r, h1, h2, h3⟩ := units_j1 (l := l) (by omega)
      refine ⟨r, h1, by omega, ev_step h3 fun k => ?_⟩
      simp only [corporaref01_Units.l0]
      rw [if_neg (by omega), if_neg (by omega)]
    · obtain ⟨v, hv⟩ : ∃ v : S58, v = ⟨(rd_T58 l ((l.length : Int) - 1)).f0, (rd_T58 l ((l.length : Int) - 1)).f1, wrap64 ((s.size : Int) - (rd_T58 l ((l.length : Int) - 1)).f1), (rd_T58 l ((l.length : Int) - 1)).f3⟩ := ⟨_, rfl⟩
      obtain ⟨r, h1, h2, h3⟩ := units_j1 (l := l.set ((l.length : Int) - 1).toNat v) (by rw [List.length_set]; omega)
      rw [us_set (by omega) (by omega) (by rw [hv]) (by rw [hv])] at h1
      rw [List.length_set] at h2
      refine ⟨r, h1, by omega, ev_step h3 fun k => ?_⟩
      simp only [corporaref01_Units.l0]
      rw [w64 (x := (l.length : Int) - 1) (by omega) (by omega), if_neg (by omega), if_pos (by omega), if_pos (by omega), if_pos (by omega), hv]
  induction b with
  | zero =>
    intro l p hl hp hb
    obtain ⟨r, h1, h2, h3⟩ := fin l p hl hp (by omega)
    exact ⟨r, by rw [h1]; simp [runes], h2, h3⟩
  | succ b ih =>
    intro l p hl hp hb
    by_cases c : p < s.size
    · have hw := width_pos s p c
      have hw4 : (Utf8.decode s p).2 ≤ 4 := by
        simp only [Utf8.decode]
        repeat' split
        all_goals simp_all
      have hrw : runes s (b + 1) p = ((p : Int), ((Utf8.decode s p).1 : Int)) :: runes s b (p + (Utf8.decode s p).2) := by simp [runes, c]
      have hra : runeAt s p = ((Utf8.decode s p).1 : Int) := by unfold runeAt; rw [Int.toNat_natCast]
      have hwa : (p : Int) + widthAt s p = ((p + (Utf8.decode s p).2 : Nat) : Int) := by unfold widthAt; rw [Int.toNat_natCast]; omega
      by_cases c0 : l.length = 0
      · obtain ⟨r, h1, h2, h3⟩ := ih (l ++ [⟨runeAt s p, p, 0, false⟩]) (p + (Utf8.decode s p).2) (by simp; omega) (by omega) (by omega)
        refine ⟨r, ?_, h2, ev_step h3 fun k => ?_⟩
        · rw [h1, hrw]
          unfold us
          rw [List.map_append, hra]
          simp
        · simp only [corporaref01_Units.l0]
          rw [if_pos (by omega), if_neg (by omega), if_pos (by omega), hwa]
      · obtain ⟨v, hv⟩ : ∃ v : S58, v = ⟨(rd_T58 l ((l.length : Int) - 1)).f0, (rd_T58 l ((l.length : Int) - 1)).f1, wrap64 ((p : Int) - (rd_T58 l ((l.length : Int) - 1)).f1), (rd_T58 l ((l.length : Int) - 1)).f3⟩ := ⟨_, rfl⟩
        obtain ⟨r, h1, h2, h3⟩ := ih (l.set ((l.length : Int) - 1).toNat v ++ [⟨runeAt s p, p, 0, false⟩]) (p + (Utf8.decode s p).2) (by simp; omega) (by omega) (by omega)
        refine ⟨r, ?_, h2, ev_step h3 fun k => ?_⟩
        · rw [h1, hrw]
          have := us_set (l := l) (i := (l.length : Int) - 1) (by omega) (by omega) (v := v) (by rw [hv]) (by rw [hv])
          unfold us at this ⊢
          rw [List.map_append, this, hra]
          simp
        · simp only [corporaref01_Units.l0]
          rw [w64 (x := (l.length : Int) - 1) (by omega) (by omega), if_pos (by omega), if_pos (by omega), if_pos (by omega), if_pos (by omega), ← hv]
          simp only [Option.bind_some]
          rw [if_pos (by rw [List.length_set]; omega), hwa]
    · obtain ⟨r, h1, h2, h3⟩ := fin l p hl hp c
      exact ⟨r, by rw [h1, runes_end _ _ _ c, List.append_nil], h2, h3⟩

theorem units_ev {s : ByteArray} (hs : s.size ≤ 1000000000) : ∃ r, us r = runes s s.size 0 ∧ r.length ≤ 1000000004 ∧ Ev (fun k => corporaref01_Units.f k s) r := by
  obtain ⟨r, h1, h2, h3⟩ := units_l0 hs s.size [] 0 (Nat.le_refl _) (by omega) (by omega)
  exact ⟨r, by simpa [us] using h1, h2, h3⟩

theorem rpos_l0 {r : List S58} (hr : r.length ≤ 1000000004) (a : Int) (e : Nat) : ∀ (j l c : Int), 0 ≤ j → j + e = r.length → Ev (fun k => corporaref01_Position.l0 k a r r.length j l c) (posOf a ((us r).drop j.toNat) l c) := by
  induction e with
  | zero =>
    intro j l c h0 hj
    have hd : (us r).drop j.toNat = [] := List.drop_eq_nil_of_le (by unfold us; rw [List.length_map]; omega)
    rw [hd]
    refine ev_step (Ev.now _) fun k => ?_
    simp only [corporaref01_Position.l0]
    rw [if_neg (by omega)]
    rfl
  | succ e ih =>
    intro j l c h0 hj
    have hlen : j.toNat < (us r).length := by unfold us; rw [List.length_map]; omega
    have hd : (us r).drop j.toNat = ((rd_T58 r j).f1, (rd_T58 r j).f0) :: (us r).drop (j + 1).toNat := by
      rw [List.drop_eq_getElem_cons hlen, show (j + 1).toNat = j.toNat + 1 by omega]
      congr 1
      have hr : rd_T58 r j = r[j.toNat]'(by omega) := by
        unfold rd_T58
        rw [List.getD_eq_getElem?_getD, List.getElem?_eq_getElem (by omega)]
        rfl
      rw [hr]
      simp only [us, List.getElem_map]
    rw [hd]
    simp only [posOf]
    by_cases c1 : (rd_T58 r j).f1 ≥ a
    · rw [if_pos c1]
      refine ev_step (Ev.now _) fun k => ?_
      simp only [corporaref01_Position.l0]
      rw [if_pos (by omega), if_pos h0, if_pos (by omega), if_pos c1]
    · rw [if_neg c1]
      by_cases c2 : (rd_T58 r j).f0 = 10
      · rw [if_pos c2]
        refine ev_step (ih (j + 1) (wrap64 (l + 1)) 1 (by omega) (by omega)) fun k => ?_
        simp only [corporaref01_Position.l0]
        rw [if_pos (by omega), if_pos h0, if_pos (by omega), if_neg c1, if_pos c2, w64 (x := j + 1) (by omega) (by omega)]
      · rw [if_neg c2]
        refine ev_step (ih (j + 1) l (wrap64 (c + 1)) (by omega) (by omega)) fun k => ?_
        simp only [corporaref01_Position.l0]
        rw [if_pos (by omega), if_pos h0, if_pos (by omega), if_neg c1, if_neg c2, w64 (x := j + 1) (by omega) (by omega)]

/-- The line and the column of an offset. -/
def posn (s : ByteArray) (a : Int) : Int × Int := posOf a (runes s s.size 0) 1 1
theorem pos_ev (s : ByteArray) (a : Int) : Ev (fun _ => codepoint_Position.f s a) (posn s a) := Ev.now _
theorem rpos_ev {s : ByteArray} (hs : s.size ≤ 1000000000) {a : Int} (h0 : 0 ≤ a) (h1 : a ≤ s.size) : Ev (fun k => corporaref01_Position.f k s a) (posn s a) := by
  obtain ⟨r, e1, e2, e3⟩ := units_ev hs
  have hm : mn (mx a 0) (s.size : Int) = a := by
    unfold mn mx
    split <;> split <;> omega
  unfold corporaref01_Position.f
  refine e3.bind ?_
  have := rpos_l0 e2 a r.length 0 1 1 (by omega) (by omega)
  rw [show (0 : Int).toNat = 0 from rfl, List.drop_zero, e1] at this
  rw [hm]
  exact this
end Go.Proofs.Ytkanmafjjejpmaa.M

namespace Go.Proofs.Ytkanmafjjejpmaa.M
open Go.RowKit Go.Proofs.YtkanmafjjejpmaaW.PrintWords Go.Proofs.YtkanmafjjejpmaaW.PrintMore Go.Proofs.Ytkanmafjjejpmaa.P

def begB (c : Int) : Bool := decide ((65 ≤ c ∧ c ≤ 90) ∨ (97 ≤ c ∧ c ≤ 122) ∨ c = 95)
def goB (c : Int) : Bool := begB c || decide ((48 ≤ c ∧ c ≤ 57) ∨ c = 45)

theorem ite_some {c : Prop} [Decidable c] {a b : Bool} : (if c then some a else some b) = some (if c then a else b) := by split <;> rfl
theorem begins_eq (c : Int) : markup_begins.f c = some (begB c) := by
  unfold markup_begins.f begB
  simp only [ite_some]
  congr 1
  rw [Bool.eq_iff_iff, decide_eq_true_iff]
  repeat' split
  all_goals simp
  all_goals omega
theorem first_eq (c : Int) : corporaref04_First.f c = some (begB c) := by
  unfold corporaref04_First.f begB
  simp only [ite_some]
  congr 1
  rw [Bool.eq_iff_iff, decide_eq_true_iff]
  repeat' split
  all_goals simp
  all_goals omega
theorem goesOn_eq (c : Int) : markup_goesOn.f c = some (goB c) := by
  unfold markup_goesOn.f
  rw [begins_eq]
  simp only [Option.bind_some, ite_some]
  congr 1
  unfold goB
  cases begB c
  · rw [Bool.eq_iff_iff]
    simp only [Bool.false_eq_true, if_false, Bool.false_or, decide_eq_true_iff]
    repeat' split
    all_goals simp
    all_goals omega
  · simp
theorem next_eq (c : Int) : corporaref04_Next.f c = some (goB c) := by
  unfold corporaref04_Next.f
  rw [first_eq]
  simp only [Option.bind_some, ite_some]
  congr 1
  unfold goB
  cases begB c
  · rw [Bool.eq_iff_iff]
    simp only [Bool.false_eq_true, if_false, Bool.false_or, decide_eq_true_iff]
    repeat' split
    all_goals simp
    all_goals omega
  · simp

/-- A name. -/
def NameOk (s : ByteArray) : Prop := 1 ≤ s.size ∧ s.size ≤ 32 ∧ begB (bt s 0) = true ∧ ∀ i : Int, 0 ≤ i → i < s.size → goB (bt s i) = true

theorem name_l0 {s : ByteArray} (hs : s.size ≤ 32) (e : Nat) : ∀ i : Int, 0 ≤ i → i + e = s.size → ∃ b : Bool, (b = true ↔ ∀ j : Int, i ≤ j → j < s.size → goB (bt s j) = true) ∧ Ev (fun k => markup_ValidName.l0 k s s.size i) b := by
  induction e with
  | zero =>
    intro i h0 hi
    refine ⟨true, ⟨fun _ j a b => by omega, fun _ => rfl⟩, ev_step (Ev.now _) fun k => ?_⟩
    simp only [markup_ValidName.l0]
    rw [if_neg (by omega)]
  | succ e ih =>
    intro i h0 hi
    by_cases c : goB (bt s i) = true
    · obtain ⟨b, hb, he⟩ := ih (i + 1) (by omega) (by omega)
      refine ⟨b, hb.trans ⟨fun p j a d => ?_, fun p j a d => p j (by omega) d⟩, ev_step he fun k => ?_⟩
      · by_cases ej : j = i
        · rw [ej]; exact c
        · exact p j (by omega) d
      · simp only [markup_ValidName.l0, goesOn_eq, c, Option.bind_some, if_true]
        rw [if_pos (by omega), if_pos h0, if_pos (by omega), w64 (by omega) (by omega)]
    · refine ⟨false, ⟨fun p => (by cases p), fun p => absurd (p i (Int.le_refl _) (by omega)) c⟩, ev_step (Ev.now _) fun k => ?_⟩
      simp only [markup_ValidName.l0, goesOn_eq, Option.bind_some]
      rw [if_pos (by omega), if_pos h0, if_pos (by omega), if_neg c]
theorem rname_l0 {s : ByteArray} (hs : s.size ≤ 32) (e : Nat) : ∀ i : Int, 0 ≤ i → i + e = s.size → ∃ b : Bool, (b = true ↔ ∀ j : Int, i ≤ j → j < s.size → goB (bt s j) = true) ∧ Ev (fun k => corporaref04_ValidName.l0 k s i) b := by
  induction e with
  | zero =>
    intro i h0 hi
    refine ⟨true, ⟨fun _ j a b => by omega, fun _ => rfl⟩, ev_step (Ev.now _) fun k => ?_⟩
    simp only [corporaref04_ValidName.l0]
    rw [if_neg (by omega)]
  | succ e ih =>
    intro i h0 hi
    by_cases c : goB (bt s i) = true
    · obtain ⟨b, hb, he⟩ := ih (i + 1) (by omega) (by omega)
      refine ⟨b, hb.trans ⟨fun p j a d => ?_, fun p j a d => p j (by omega) d⟩, ev_step he fun k => ?_⟩
      · by_cases ej : j = i
        · rw [ej]; exact c
        · exact p j (by omega) d
      · simp only [corporaref04_ValidName.l0, next_eq, c, Option.bind_some, if_true]
        rw [if_pos (by omega), if_pos h0, w64 (by omega) (by omega)]
    · refine ⟨false, ⟨fun p => (by cases p), fun p => absurd (p i (Int.le_refl _) (by omega)) c⟩, ev_step (Ev.now _) fun k => ?_⟩
      simp only [corporaref04_ValidName.l0, next_eq, Option.bind_some]
      rw [if_pos (by omega), if_pos h0, if_neg c]

theorem name_no (s : ByteArray) : Ev (fun k => markup_ValidName.j0 k s true) false := ev_step (Ev.now _) fun k => by simp only [markup_ValidName.j0, if_true]
theorem rname_no (s : ByteArray) : Ev (fun k => corporaref04_ValidName.j0 k s true) false := ev_step (Ev.now _) fun k => by simp only [corporaref04_ValidName.j0, if_true]

theorem begB_goB {c : Int} (h : begB c = true) : goB c = true := by unfold goB; rw [h]; rfl

/-- Both give one answer. -/
theorem name_ev (s : ByteArray) : ∃ b : Bool, (b = true ↔ NameOk s) ∧ Ev (fun k => markup_ValidName.f k s) b ∧ Ev (fun k => corporaref04_ValidName.f k s) b := by
  unfold markup_ValidName.f corporaref04_ValidName.f
  by_cases c1 : (s.size : Int) < 1
  · exact ⟨false, ⟨fun p => (by cases p), fun p => by have := p.1; omega⟩, ev_pos c1 (name_no s), ev_pos c1 (rname_no s)⟩
  · by_cases c2 : (s.size : Int) > 32
    · exact ⟨false, ⟨fun p => (by cases p), fun p => by have := p.2.1; omega⟩, ev_neg c1 (ev_pos c2 (name_no s)), ev_neg c1 (ev_pos c2 (rname_no s))⟩
    · by_cases c3 : begB (bt s 0) = true
      · obtain ⟨b, hb, he⟩ := name_l0 (s := s) (by omega) s.size 0 (by omega) (by omega)
        obtain ⟨b', hb', he'⟩ := rname_l0 (s := s) (by omega) (s.size - 1) 1 (by omega) (by omega)
        have ebb : b' = b := by
          have : b' = true ↔ b = true := by
            rw [hb, hb']
            refine ⟨fun p j h0 h1 => ?_, fun p j h0 h1 => p j (by omega) h1⟩
            by_cases ej : j = 0
            · rw [ej]; exact begB_goB c3
            · exact p j (by omega) h1
          cases b <;> cases b' <;> simp_all
        subst ebb
        refine ⟨b', ⟨fun p => ⟨by omega, by omega, c3, hb.1 p⟩, fun p => hb.2 p.2.2.2⟩, ev_neg c1 (ev_neg c2 (ev_pos (by omega) ?_)), ev_neg c1 (ev_neg c2 (ev_pos (by omega) ?_))⟩
        · simp only [begins_eq, c3, Option.bind_some, Bool.not_true]
          exact ev_step he fun k => by simp only [markup_ValidName.j0, Bool.false_eq_true, if_false]
        · simp only [first_eq, c3, Option.bind_some, Bool.not_true]
          exact ev_step he' fun k => by simp only [corporaref04_ValidName.j0, Bool.false_eq_true, if_false]
      · refine ⟨false, ⟨fun p => (by cases p), fun p => absurd p.2.2.1 c3⟩, ev_neg c1 (ev_neg c2 (ev_pos (by omega) ?_)), ev_neg c1 (ev_neg c2 (ev_pos (by omega) ?_))⟩
        · simp only [begins_eq, Option.bind_some, Bool.not_eq_true _ ▸ c3, Bool.not_false]
          exact name_no s
        · simp only [first_eq, Option.bind_some, Bool.not_eq_true _ ▸ c3, Bool.not_false]
          exact rname_no s
end Go.Proofs.Ytkanmafjjejpmaa.M

namespace Go.Proofs.Ytkanmafjjejpmaa.M
open Go.RowKit Go.Proofs.YtkanmafjjejpmaaW.PrintWords Go.Proofs.YtkanmafjjejpmaaW.PrintMore Go.Proofs.Ytkanmafjjejpmaa.P Go.Proofs.Ytkanmafjjejpmaa.X

theorem bt_extract {s : ByteArray} {a b : Nat} {i : Int} (hb : b ≤ s.size) (h0 : 0 ≤ i) (h1 : i < (b : Int) - a) : bt (s.extract a b) i = bt s (a + i) := by
  unfold bt
  have hs : (s.extract a b).size = b - a := by rw [ByteArray.size_extract, Nat.min_eq_left hb]
  rw [dif_pos (show i.toNat < (s.extract a b).size by omega), dif_pos (show ((a : Int) + i).toNat < s.size by omega), ByteArray.getElem_extract]
  congr 3
  omega
theorem size_extract' {s : ByteArray} {a b : Nat} (hb : b ≤ s.size) : (s.extract a b).size = b - a := by rw [ByteArray.size_extract, Nat.min_eq_left hb]

/-- A line from 'from' ends at 'tt'. -/
def Eol (s : ByteArray) (fr tt : Int) : Prop := fr ≤ tt ∧ tt ≤ s.size ∧ (∀ j, fr ≤ j → j < tt → bt s j ≠ 10) ∧ (tt = s.size ∨ bt s tt = 10)

theorem eol_ex (s : ByteArray) (e : Nat) : ∀ fr : Int, 0 ≤ fr → fr + e = s.size → ∃ tt, Eol s fr tt := by
  induction e with
  | zero => intro fr h0 h; exact ⟨fr, by omega, by omega, fun j a b => by omega, .inl (by omega)⟩
  | succ e ih =>
    intro fr h0 h
    by_cases c : bt s fr = 10
    · exact ⟨fr, by omega, by omega, fun j a b => by omega, .inr c⟩
    · obtain ⟨tt, a, b, d, f⟩ := ih (fr + 1) (by omega) (by omega)
      refine ⟨tt, by omega, b, fun j g i => ?_, f⟩
      by_cases ej : j = fr
      · rw [ej]; exact c
      · exact d j (by omega) i

/-! ### strings.Cut -/

set_option linter.unusedSectionVars false
set_option linter.unusedVariables false
theorem index_spec (l : List UInt8) (c : UInt8) : (Lib.indexByte l c = -1 ∧ ∀ x ∈ l, x ≠ c) ∨ ∃ i : Nat, Lib.indexByte l c = i ∧ l[i]? = some c ∧ ∀ j, j < i → l[j]? ≠ some c := by
  induction l with
  | nil => left; exact ⟨rfl, fun x hx => by cases hx⟩
  | cons b l ih =>
    unfold Lib.indexByte
    by_cases h : b = c
    · right
      refine ⟨0, ?_, by simp [h], fun j hj => by omega⟩
      rw [if_pos (by simp [h])]; rfl
    · rw [if_neg (by simpa using h)]
      rcases ih with ⟨e, hn⟩ | ⟨i, e, h1, h2⟩
      · left
        rw [if_pos (by rw [e]; rfl)]
        refine ⟨rfl, fun x hx => ?_⟩
        rcases List.mem_cons.1 hx with e2 | e2
        · rw [e2]; exact h
        · exact hn x e2
      · right
        refine ⟨i + 1, ?_, by simpa using h1, fun j hj => ?_⟩
        · rw [if_neg (by rw [e]; simp), e]; try rfl
        · cases j with
          | zero => simp_all
          | succ j => simpa using h2 j (by omega)

theorem bt_getElem? {s : ByteArray} {i : Nat} {c : UInt8} : s.data.toList[i]? = some c ↔ i < s.size ∧ bt s i = c.toNat := by
  unfold bt
  rw [Array.getElem?_toList]
  constructor
  · intro h
    obtain ⟨hi, e⟩ := Array.getElem?_eq_some_iff.1 h
    have hi' : i < s.size := hi
    refine ⟨hi', ?_⟩
    rw [dif_pos (by rw [Int.toNat_natCast]; exact hi')]
    simp only [Int.toNat_natCast]
    rw [ByteArray.getElem_eq_getElem_data, e]
  · rintro ⟨hi, e⟩
    rw [dif_pos (by rw [Int.toNat_natCast]; exact hi)] at e
    simp only [Int.toNat_natCast] at e
    rw [Array.getElem?_eq_some_iff]
    refine ⟨hi, ?_⟩
    rw [ByteArray.getElem_eq_getElem_data] at e
    exact UInt8.toNat_inj.1 (by omega)

theorem cut_line {s : ByteArray} (hs : s.size ≤ 1000000000) {fr tt : Int} (h0 : 0 ≤ fr) (h1 : fr < s.size) (he : Eol s fr tt) :
    ∃ a b, strings_Cut.f (s.extract fr.toNat s.size) ⟨#[10]⟩ = some (s.extract fr.toNat tt.toNat, a, b) := by
  obtain ⟨e1, e2, e3, e4⟩ := he
  have hsz := size_extract' (s := s) (a := fr.toNat) (Nat.le_refl s.size)
  have hidx : stringslite_Index.f (s.extract fr.toNat s.size) ⟨#[10]⟩ = some (Lib.indexByte (s.extract fr.toNat s.size).data.toList 10) := rfl
  unfold strings_Cut.f stringslite_Cut.f
  rw [hidx]
  simp only [Option.bind_some]
  rcases index_spec (s.extract fr.toNat s.size).data.toList 10 with ⟨ei, hn⟩ | ⟨i, ei, hi, hm⟩
  · -- no line feed
    have htt : tt = s.size := by
      rcases e4 with e4 | e4
      · exact e4
      · exfalso
        by_cases c : tt < s.size
        · have : (s.extract fr.toNat s.size).data.toList[(tt - fr).toNat]? = some 10 := by
            rw [bt_getElem?]
            refine ⟨by omega, ?_⟩
            rw [bt_extract (Nat.le_refl _) (by omega) (by omega), show (fr.toNat : Int) + ((tt - fr).toNat : Int) = tt by omega, e4]
            rfl
          exact hn 10 (List.mem_of_getElem? this) rfl
        · have : bt s tt = 0 := by unfold bt; rw [dif_neg (by omega)]
          omega
    rw [ei, if_neg (by omega)]
    refine ⟨⟨#[]⟩, false, ?_⟩
    simp only [Option.bind_some]
    rw [htt, Int.toNat_natCast]
  · obtain ⟨hi1, hi2⟩ := bt_getElem?.1 hi
    rw [hsz] at hi1
    rw [bt_extract (Nat.le_refl _) (by omega) (by omega)] at hi2
    have hlt : ∀ j : Int, fr ≤ j → j < fr + i → bt s j ≠ 10 := fun j a b e => by
      refine hm (j - fr).toNat (by omega) ?_
      rw [bt_getElem?, hsz]
      refine ⟨by omega, ?_⟩
      rw [bt_extract (Nat.le_refl _) (by omega) (by omega), show (fr.toNat : Int) + ((j - fr).toNat : Int) = j by omega, e]
      rfl
    have htt : tt = fr + i := by
      have c1 : ¬ tt < fr + i := fun c => by
        rcases e4 with e4 | e4
        · omega
        · exact hlt tt e1 c e4
      have c2 : ¬ fr + i < tt := fun c => e3 (fr + i) (by omega) c (by rw [← show (fr.toNat : Int) + (i : Int) = fr + i by omega, hi2]; rfl)
      omega
    have h2 : (⟨#[10]⟩ : ByteArray).size = 1 := rfl
    rw [ei, hsz, h2, w64 (by omega) (by omega), if_pos (by omega), if_pos (by omega), if_pos (by omega), if_pos (by omega), if_pos (by omega)]
    refine ⟨(s.extract fr.toNat s.size).extract ((i : Int) + ((1 : Nat) : Int)).toNat (s.size - fr.toNat), true, ?_⟩
    simp only [Option.bind_some]
    rw [ByteArray.extract_extract, Int.toNat_natCast, Nat.add_zero, Nat.min_eq_left (by omega), show fr.toNat + i = tt.toNat by omega]

/-! ### A line -/

def dig (c : Int) : Prop := 48 ≤ c ∧ c ≤ 57
/-- The number of m digits. -/
def num (s : ByteArray) (fr : Int) : Nat → Int
  | 0 => 0
  | m + 1 => 10 * num s fr m + (bt s (fr + m) - 48)
/-- m digits, and no more. -/
def Digits (s : ByteArray) (fr tt : Int) (m : Nat) : Prop := fr + m ≤ tt ∧ (∀ j : Nat, j < m → dig (bt s (fr + j))) ∧ (fr + m = tt ∨ ¬ dig (bt s (fr + m)))

theorem digits_ex (s : ByteArray) {fr tt : Int} (e : Nat) : ∀ m : Nat, fr + m + e = tt → (∀ j : Nat, j < m → dig (bt s (fr + j))) → ∃ m, Digits s fr tt m := by
  induction e with
  | zero => intro m h hd; exact ⟨m, by omega, hd, .inl (by omega)⟩
  | succ e ih =>
    intro m h hd
    by_cases c : dig (bt s (fr + m))
    · refine ih (m + 1) (by omega) fun j hj => ?_
      by_cases ej : j = m
      · rw [ej]; exact c
      · exact hd j (by omega)
    · exact ⟨m, by omega, hd, .inr c⟩
theorem num_nonneg {s : ByteArray} {fr : Int} : ∀ m : Nat, (∀ j : Nat, j < m → dig (bt s (fr + j))) → 0 ≤ num s fr m
  | 0, _ => Int.le_refl _
  | m + 1, hd => by
    have h1 := num_nonneg m (fun j hj => hd j (by omega))
    have h2 := (hd m (by omega)).1
    simp only [num]; omega
theorem mn_cap {x d c : Int} (hx : 0 ≤ x) (hd : 0 ≤ d) (hc : 0 ≤ c) : mn (10 * mn x c + d) c = mn (10 * x + d) c := by
  unfold mn
  by_cases h : c < x
  · rw [if_pos h, if_pos (show c < 10 * x + d by omega)]
    by_cases h2 : c < 10 * c + d
    · rw [if_pos h2]
    · rw [if_neg h2]; omega
  · rw [if_neg h]
theorem mn_le {x c : Int} (hx : 0 ≤ x) (hc : 0 ≤ c) : 0 ≤ mn x c ∧ mn x c ≤ c := by unfold mn; split <;> omega

section
variable {s : ByteArray} (hs : s.size ≤ 1000000000) {fr tt : Int} (h0 : 0 ≤ fr) (he : Eol s fr tt) {tk : Int} (ht0 : 0 ≤ tk) (ht : tk ≤ 4096)
include hs h0 he ht0 ht

theorem line_sz : (s.extract fr.toNat tt.toNat).size = (tt - fr).toNat := by
  have := he.1; have := he.2.1
  rw [size_extract' (by omega)]; omega
theorem line_bt {j : Int} (hj0 : 0 ≤ j) (hj : j < tt - fr) : bt (s.extract fr.toNat tt.toNat) j = bt s (fr + j) := by
  have := he.1; have := he.2.1
  rw [bt_extract (by omega) hj0 (by omega)]
  congr 1; omega

theorem line_l0 {m0 : Nat} (hd : Digits s fr tt m0) {r : Int × ByteArray × Int × Int} (next : Ev (fun k => depend_line.j1 k (s.extract fr.toNat tt.toNat) tk (mn (num s fr m0) (tk + 1)) m0) r) (e : Nat) :
    ∀ m : Nat, m + e = m0 → Ev (fun k => depend_line.l0 k (s.extract fr.toNat tt.toNat) tk (mn (num s fr m) (tk + 1)) m) r := by
  have hsz := line_sz hs h0 he ht0 ht
  have h1 := he.1; have h2 := he.2.1
  obtain ⟨d1, d2, d3⟩ := hd
  induction e with
  | zero =>
    intro m hm
    obtain rfl : m = m0 := by omega
    refine ev_step next fun k => ?_
    simp only [depend_line.l0]
    by_cases c : (m : Int) < tt - fr
    · rw [if_pos (by omega), if_pos (by omega), line_bt hs h0 he ht0 ht (by omega) c]
      have hnd : ¬ dig (bt s (fr + m)) := d3.resolve_left (by omega)
      unfold dig at hnd
      by_cases c2 : bt s (fr + m) ≥ 48
      · rw [if_pos c2, if_neg (by omega)]
      · rw [if_neg c2]
    · rw [if_neg (by omega)]
  | succ e ih =>
    intro m hm
    have hdm := d2 m (by omega)
    have hn := num_nonneg m (fun j hj => d2 j (by omega))
    have hcap := mn_le hn (c := tk + 1) (by omega)
    refine ev_step (ih (m + 1) (by omega)) fun k => ?_
    simp only [depend_line.l0]
    unfold dig at hdm
    rw [if_pos (by omega), if_pos (by omega), line_bt hs h0 he ht0 ht (by omega) (by omega), if_pos (by omega), if_pos (by omega)]
    rw [w64 (x := 10 * mn (num s fr m) (tk + 1)) (by omega) (by omega), Int.emod_eq_of_lt (by omega) (by omega), w64 (x := 10 * mn (num s fr m) (tk + 1) + (bt s (fr + m) - 48)) (by omega) (by omega), w64 (x := tk + 1) (by omega) (by omega), w64 (x := (m : Int) + 1) (by omega) (by omega), mn_cap hn (by omega) (by omega)]
    rfl

/-- The reference's digits; a second one behind a zero stops it. -/
theorem rline_l2 {hd ln : List Int} {rl : List ByteArray} {m0 : Nat} (hm : Digits s fr tt m0) (hz : ¬ (2 ≤ m0 ∧ bt s fr = 48)) {r : List Int × List ByteArray × Int × Int}
    (next : Ev (fun k => corporaref09_parse.j4 k s tk hd ln rl fr tt (mn (num s fr m0) 1099511627776) (fr + m0) false) r) (e : Nat) :
    ∀ m : Nat, m + e = m0 → Ev (fun k => corporaref09_parse.l2 k s tk hd ln rl fr tt (mn (num s fr m) 1099511627776) (fr + m)) r := by
  have h1 := he.1; have h2 := he.2.1
  obtain ⟨d1, d2, d3⟩ := hm
  induction e with
  | zero =>
    intro m hm
    obtain rfl : m = m0 := by omega
    refine ev_step next fun k => ?_
    simp only [corporaref09_parse.l2]
    by_cases c : fr + m < tt
    · rw [if_pos c, if_pos (by omega), if_pos (by omega)]
      have hnd : ¬ dig (bt s (fr + m)) := d3.resolve_left (by omega)
      unfold dig at hnd
      by_cases c2 : bt s (fr + m) ≥ 48
      · rw [if_pos c2, show decide (bt s (fr + m) ≤ 57) = false from decide_eq_false (by omega)]
      · rw [if_neg c2]
    · rw [if_neg c]
  | succ e ih =>
    intro m hm
    have hdm := d2 m (by omega)
    have hn := num_nonneg m (fun j hj => d2 j (by omega))
    have hcap := mn_le hn (c := 1099511627776) (by omega)
    unfold dig at hdm
    refine ev_step (f := fun k => corporaref09_parse.j4 k s tk hd ln rl fr tt (mn (num s fr m) 1099511627776) (fr + m) true) (ev_step (ih (m + 1) (by omega)) fun k => ?_) fun k => ?_
    · simp only [corporaref09_parse.j4, if_true]
      have e1 : wrap64 (wrap64 (10 * mn (num s fr m) 1099511627776) + (bt s (fr + m) - 48) % 256) = 10 * mn (num s fr m) 1099511627776 + (bt s (fr + m) - 48) := by
        rw [w64 (x := 10 * mn (num s fr m) 1099511627776) (by omega) (by omega), Int.emod_eq_of_lt (by omega) (by omega), w64 (by omega) (by omega)]
      rw [e1, mn_cap hn (by omega) (by omega), w64 (x := fr + 1) (by omega) (by omega), w64 (x := fr + m + 1) (by omega) (by omega)]
      by_cases c : fr + (m : Int) = fr + 1
      · rw [if_pos c, if_pos h0, if_pos (by omega), if_neg (fun e => hz ⟨by omega, e⟩), if_pos (by omega), if_pos (by omega), show fr + (m : Int) + 1 = fr + ((m + 1 : Nat) : Int) by omega]
        rfl
      · rw [if_neg c, if_pos (by omega), if_pos (by omega), show fr + (m : Int) + 1 = fr + ((m + 1 : Nat) : Int) by omega]
        rfl
    · simp only [corporaref09_parse.l2]
      rw [if_pos (by omega), if_pos (by omega), if_pos (by omega), if_pos (by omega), show decide (bt s (fr + m) ≤ 57) = true from decide_eq_true (by omega)]

/-- What both make of a line. -/
def LineR (s : ByteArray) (fr tt tk : Int) : Prop :=
  (∃ n r, Ev (fun k => depend_line.f k (s.extract fr.toNat tt.toNat) tk) (n, r, 0, 0) ∧ -1 ≤ n ∧ n < tk ∧ (r.size = 0 ∨ NameOk r) ∧
    ∀ (hd ln : List Int) (rl : List ByteArray) R, (hd.length : Int) < tk → ln.length = hd.length → rl.length = hd.length → Ev (fun k => corporaref09_parse.l0 k s tk (hd ++ [n]) (ln ++ [fr]) (rl ++ [r]) (tt + 1)) R → Ev (fun k => corporaref09_parse.j2 k s tk hd ln rl fr tt) R) ∨
  (∃ off code, code ≠ 0 ∧ 0 ≤ off ∧ fr + off ≤ tt ∧ Ev (fun k => depend_line.f k (s.extract fr.toNat tt.toNat) tk) (0, ⟨#[]⟩, off, code) ∧
    ∀ (hd ln : List Int) (rl : List ByteArray), (hd.length : Int) < tk → ln.length = hd.length → rl.length = hd.length → Ev (fun k => corporaref09_parse.j2 k s tk hd ln rl fr tt) ([], [], fr + off, code))

theorem line_r : LineR s fr tt tk := by
  have hsz := line_sz hs h0 he ht0 ht
  have h1 := he.1; have h2 := he.2.1
  obtain ⟨m0, hm⟩ := digits_ex s (fr := fr) (tt := tt) (tt - fr).toNat 0 (by omega) (fun j hj => by omega)
  have hmm := hm
  obtain ⟨d1, d2, d3⟩ := hmm
  -- the facts of the last step, before it
  have q1 : fr + m0 ≤ tt := d1
  have qz : ∀ n : Nat, (n : Int) < tk → n < 8796093022208 ∧ n < 17592186044416 := fun n hn => by omega
  have w1 : wrap64 ((m0 : Int) + 1) = m0 + 1 := w64 (by omega) (by omega)
  have w2 : wrap64 (fr + m0 + 1) = fr + m0 + 1 := w64 (by omega) (by omega)
  have w4 : wrap64 (tt + 1) = tt + 1 := w64 (by omega) (by omega)
  have q2 : (0 : Int) ≤ (m0 : Int) + 1 := by omega
  have q4 : 0 ≤ fr + (m0 : Int) + 1 := by omega
  have hn := num_nonneg m0 d2
  have cp := mn_le hn (c := tk + 1) (by omega)
  have cr := mn_le hn (c := 1099511627776) (by omega)
  -- the program, up tt behind the digits
  have P : ∀ r, Ev (fun k => depend_line.j1 k (s.extract fr.toNat tt.toNat) tk (mn (num s fr m0) (tk + 1)) m0) r → Ev (fun k => depend_line.f k (s.extract fr.toNat tt.toNat) tk) r := fun r hr => by
    have := line_l0 hs h0 he ht0 ht hm hr m0 0 (by omega)
    rwa [show mn (num s fr 0) (tk + 1) = 0 by unfold mn num; rw [if_neg (by omega)]] at this
  have R0 : ∀ (hd ln : List Int) (rl : List ByteArray) r, (hd.length : Int) < tk → Ev (fun k => corporaref09_parse.l2 k s tk hd ln rl fr tt 0 fr) r → Ev (fun k => corporaref09_parse.j2 k s tk hd ln rl fr tt) r := fun hd ln rl r hl hr => by
    refine ev_step hr fun k => ?_
    simp only [corporaref09_parse.j2]
    rw [if_neg (by omega)]
  by_cases cA : m0 = 0
  · subst cA
    right
    refine ⟨0, 3, by omega, by omega, by omega, P _ (ev_step (Ev.now _) fun k => by simp [depend_line.j1]), fun hd ln rl hl _ _ => R0 hd ln rl _ hl ?_⟩
    have := rline_l2 hs h0 he ht0 ht (hd := hd) (ln := ln) (rl := rl) hm (fun c => by omega) (r := ([], [], fr + 0, 3)) (ev_step (f := fun k => corporaref09_parse.j5 k s tk hd ln rl fr tt (mn (num s fr 0) 1099511627776) (fr + ((0 : Nat) : Int)) true) (ev_step (Ev.now _) fun k => by simp [corporaref09_parse.j5]) fun k => ?_) 0 0 rfl
    · rwa [show mn (num s fr 0) 1099511627776 = 0 by unfold mn num; rw [if_neg (by omega)], show fr + ((0 : Nat) : Int) = fr by omega] at this
    · simp only [corporaref09_parse.j4, Bool.false_eq_true, if_false]
      rw [if_pos (by omega)]
  by_cases cB : 2 ≤ m0 ∧ bt s fr = 48
  · right
    refine ⟨1, 3, by omega, by omega, by omega, P _ ?_, fun hd ln rl hl _ _ => R0 hd ln rl _ hl ?_⟩
    · refine ev_step (f := fun k => depend_line.j2 k (s.extract fr.toNat tt.toNat) tk (mn (num s fr m0) (tk + 1)) m0 true) (ev_step (Ev.now _) fun k => by simp only [depend_line.j2, if_true]) fun k => ?_
      simp only [depend_line.j1]
      rw [if_neg (by omega), if_pos (by omega), line_bt hs h0 he ht0 ht (by omega) (by omega), show fr + 0 = fr by omega, if_pos cB.2, show decide ((m0 : Int) > 1) = true from decide_eq_true (by omega)]
    · -- two digits: the second one behind a zero
      have g0 := d2 0 (by omega)
      have g1 := d2 1 (by omega)
      rw [show fr + ((0 : Nat) : Int) = fr by omega] at g0
      rw [show fr + ((1 : Nat) : Int) = fr + 1 by omega] at g1
      unfold dig at g0 g1
      refine ev_step (f := fun k => corporaref09_parse.j4 k s tk hd ln rl fr tt 0 fr true) (ev_step (f := fun k => corporaref09_parse.l2 k s tk hd ln rl fr tt (mn (wrap64 (wrap64 (10 * 0) + (bt s fr - 48) % 256)) 1099511627776) (fr + 1)) (ev_step (f := fun k => corporaref09_parse.j4 k s tk hd ln rl fr tt (mn (wrap64 (wrap64 (10 * 0) + (bt s fr - 48) % 256)) 1099511627776) (fr + 1) true) (ev_step (Ev.now _) fun k => ?_) fun k => ?_) fun k => ?_) fun k => ?_
      · simp only [corporaref09_parse.j4, if_true]
        rw [w64 (x := fr + 1) (by omega) (by omega), if_pos rfl, if_pos h0, if_pos (by omega), if_pos cB.2]
      · simp only [corporaref09_parse.l2]
        rw [if_pos (by omega), if_pos (by omega), if_pos (by omega), if_pos (by omega), show decide (bt s (fr + 1) ≤ 57) = true from decide_eq_true (by omega)]
      · simp only [corporaref09_parse.j4, if_true]
        rw [w64 (x := fr + 1) (by omega) (by omega), if_neg (by omega), if_pos h0, if_pos (by omega)]
      · simp only [corporaref09_parse.l2]
        rw [if_pos (by omega), if_pos h0, if_pos (by omega), if_pos (by omega), show decide (bt s fr ≤ 57) = true from decide_eq_true (by omega)]
  -- the digits are fine
  have P2 : ∀ r, Ev (fun k => depend_line.j2 k (s.extract fr.toNat tt.toNat) tk (mn (num s fr m0) (tk + 1)) m0 false) r → Ev (fun k => depend_line.f k (s.extract fr.toNat tt.toNat) tk) r := fun r hr => by
    refine P _ (ev_step hr fun k => ?_)
    simp only [depend_line.j1]
    rw [if_neg (by omega), if_pos (by omega), line_bt hs h0 he ht0 ht (by omega) (by omega), show fr + 0 = fr by omega]
    by_cases c : bt s fr = 48
    · rw [if_pos c, show decide ((m0 : Int) > 1) = false from decide_eq_false (by
        by_cases c2 : 2 ≤ m0
        · exact absurd ⟨c2, c⟩ cB
        · omega)]
    · rw [if_neg c]
  have R2 : ∀ (hd ln : List Int) (rl : List ByteArray) r, (hd.length : Int) < tk → Ev (fun k => corporaref09_parse.j4 k s tk hd ln rl fr tt (mn (num s fr m0) 1099511627776) (fr + m0) false) r → Ev (fun k => corporaref09_parse.j2 k s tk hd ln rl fr tt) r := fun hd ln rl r hl hr => by
    refine R0 hd ln rl _ hl ?_
    have := rline_l2 hs h0 he ht0 ht (hd := hd) (ln := ln) (rl := rl) hm cB hr m0 0 (by omega)
    rwa [show mn (num s fr 0) 1099511627776 = 0 by unfold mn num; rw [if_neg (by omega)], show fr + ((0 : Nat) : Int) = fr by omega] at this
  by_cases cC : fr + m0 = tt ∨ bt s (fr + m0) ≠ 9
  · right
    refine ⟨m0, 3, by omega, by omega, by omega, P2 _ ?_, fun hd ln rl hl _ _ => R2 hd ln rl _ hl ?_⟩
    · refine ev_step (f := fun k => depend_line.j3 k (s.extract fr.toNat tt.toNat) tk (mn (num s fr m0) (tk + 1)) m0 true) (ev_step (Ev.now _) fun k => by simp only [depend_line.j3, if_true]) fun k => ?_
      simp only [depend_line.j2, Bool.false_eq_true, if_false]
      by_cases c : fr + m0 = tt
      · rw [if_pos (by omega)]
      · rw [if_neg (by omega), if_pos (by omega), if_pos (by omega), line_bt hs h0 he ht0 ht (by omega) (by omega), show (bt s (fr + m0) != 9) = true from bne_iff_ne.mpr (cC.resolve_left c)]
    · refine ev_step (f := fun k => corporaref09_parse.j5 k s tk hd ln rl fr tt (mn (num s fr m0) 1099511627776) (fr + m0) true) (ev_step (Ev.now _) fun k => by simp only [corporaref09_parse.j5, if_true]) fun k => ?_
      simp only [corporaref09_parse.j4, Bool.false_eq_true, if_false]
      rw [if_neg (by omega)]
      by_cases c : fr + m0 = tt
      · rw [if_pos (by omega)]
      · rw [if_neg (by omega), if_pos (by omega), if_pos (by omega), show (bt s (fr + m0) != 9) = true from bne_iff_ne.mpr (cC.resolve_left c)]
  have ctab : bt s (fr + m0) = 9 := by
    by_cases c : bt s (fr + m0) = 9
    · exact c
    · exact absurd (.inr c) cC
  have cne : fr + m0 ≠ tt := fun c => cC (.inl c)
  have q5 : fr + (m0 : Int) + 1 ≤ tt := by omega
  have q3 : (m0 : Int) + 1 ≤ ((s.extract fr.toNat tt.toNat).size : Int) := by omega
  have P3 : ∀ r, Ev (fun k => depend_line.j3 k (s.extract fr.toNat tt.toNat) tk (mn (num s fr m0) (tk + 1)) m0 false) r → Ev (fun k => depend_line.f k (s.extract fr.toNat tt.toNat) tk) r := fun r hr => by
    refine P2 _ (ev_step hr fun k => ?_)
    simp only [depend_line.j2, Bool.false_eq_true, if_false]
    rw [if_neg (by omega), if_pos (by omega), if_pos (by omega), line_bt hs h0 he ht0 ht (by omega) (by omega), ctab]
    rfl
  have R3 : ∀ (hd ln : List Int) (rl : List ByteArray) r, (hd.length : Int) < tk → Ev (fun k => corporaref09_parse.j5 k s tk hd ln rl fr tt (mn (num s fr m0) 1099511627776) (fr + m0) false) r → Ev (fun k => corporaref09_parse.j2 k s tk hd ln rl fr tt) r := fun hd ln rl r hl hr => by
    refine R2 hd ln rl _ hl (ev_step hr fun k => ?_)
    simp only [corporaref09_parse.j4, Bool.false_eq_true, if_false]
    rw [if_neg (by omega), if_neg (by omega), if_pos (by omega), if_pos (by omega), ctab]
    rfl
  by_cases cN : num s fr m0 > tk
  · right
    have e1 : mn (num s fr m0) (tk + 1) > tk := by unfold mn; split <;> omega
    have e2 : mn (num s fr m0) 1099511627776 > tk := by unfold mn; split <;> omega
    refine ⟨0, 8, by omega, by omega, by omega, P3 _ (ev_step (Ev.now _) fun k => ?_), fun hd ln rl hl _ _ => R3 hd ln rl _ hl (ev_step (Ev.now _) fun k => ?_)⟩
    · simp only [depend_line.j3, Bool.false_eq_true, if_false]
      rw [if_pos e1]
    · simp only [corporaref09_parse.j5, Bool.false_eq_true, if_false]
      rw [if_pos e2]
      simp
  have w3 : wrap64 (num s fr m0 - 1) = num s fr m0 - 1 := w64 (by omega) (by omega)
  have q6 : -1 ≤ num s fr m0 - 1 := by omega
  have q7 : num s fr m0 - 1 < tk := by omega
  have q8 : fr + ((m0 : Int) + 1) ≤ tt := by omega
  have q9 : (s.extract fr.toNat tt.toNat).extract ((m0 : Int) + 1).toNat (s.extract fr.toNat tt.toNat).size = s.extract (fr + m0 + 1).toNat tt.toNat := by
    rw [hsz, ByteArray.extract_extract]
    congr 1 <;> omega
  have e1 : mn (num s fr m0) (tk + 1) = num s fr m0 := by unfold mn; rw [if_neg (by omega)]
  have e2 : mn (num s fr m0) 1099511627776 = num s fr m0 := by unfold mn; rw [if_neg (by omega)]
  rw [e1] at P3
  rw [e2] at R3
  obtain ⟨rel, hrel⟩ : ∃ rel, rel = s.extract (fr + m0 + 1).toNat tt.toNat := ⟨_, rfl⟩
  have er : (s.extract fr.toNat tt.toNat).extract ((m0 : Int) + 1).toNat (s.extract fr.toNat tt.toNat).size = rel := by
    rw [q9, hrel]
  -- the program's last step
  have P4 : ∀ r, Ev (fun k => if rel.toList = ([] : List UInt8) then some (num s fr m0 - 1, rel, 0, 0) else (markup_ValidName.f k rel).bind fun t => if t = true then some (num s fr m0 - 1, rel, 0, 0) else some (0, ⟨#[]⟩, (m0 : Int) + 1, 4)) r → Ev (fun k => depend_line.f k (s.extract fr.toNat tt.toNat) tk) r := fun r hr => by
    refine P3 _ (ev_step hr fun k => ?_)
    simp only [depend_line.j3, Bool.false_eq_true, if_false]
    rw [if_neg cN, w1, w3, if_pos q2, if_pos q3, er]
  have R4 : ∀ (hd ln : List Int) (rl : List ByteArray) r, (hd.length : Int) < tk → ln.length = hd.length → rl.length = hd.length →
      Ev (fun k => if rel.toList = ([] : List UInt8) then corporaref09_parse.l0 k s tk (hd ++ [num s fr m0 - 1]) (ln ++ [fr]) (rl ++ [rel]) (tt + 1) else (corporaref04_ValidName.f k rel).bind fun t => if t = true then corporaref09_parse.l0 k s tk (hd ++ [num s fr m0 - 1]) (ln ++ [fr]) (rl ++ [rel]) (tt + 1) else some ([], [], fr + m0 + 1, 4)) r →
      Ev (fun k => corporaref09_parse.j2 k s tk hd ln rl fr tt) r := fun hd ln rl r hl hl1 hl2 hr => by
    refine R3 hd ln rl _ hl (ev_step hr fun k => ?_)
    simp only [corporaref09_parse.j5, Bool.false_eq_true, if_false]
    rw [if_neg cN, w2, w3, w4, if_pos q4, if_pos q5, if_pos h2, ← hrel]
    rw [if_pos (qz hd.length hl).2, if_pos (qz rl.length (hl2 ▸ hl)).1, if_pos (qz ln.length (hl1 ▸ hl)).2]
  obtain ⟨b, hb, hb1, hb2⟩ := name_ev rel
  have hl0 : rel.toList = ([] : List UInt8) ↔ rel.size = 0 := by
    rw [ByteArray.toList_eq]
    constructor
    · intro h
      have h2 : rel.data.toList.length = 0 := by rw [h]; rfl
      rwa [Array.length_toList] at h2
    · intro h
      have h2 : rel.data.toList.length = 0 := by rw [Array.length_toList]; exact h
      exact List.length_eq_zero_iff.1 h2
  by_cases cE : rel.toList = ([] : List UInt8)
  · left
    exact ⟨num s fr m0 - 1, rel, P4 _ (ev_pos cE (Ev.now _)), q6, q7, .inl (hl0.1 cE), fun hd ln rl R hl hl1 hl2 hR => R4 hd ln rl R hl hl1 hl2 (ev_pos cE hR)⟩
  cases b with
  | true =>
    left
    exact ⟨num s fr m0 - 1, rel, P4 _ (ev_neg cE (hb1.bind (ev_pos rfl (Ev.now _)))), q6, q7, .inr (hb.1 rfl), fun hd ln rl R hl hl1 hl2 hR => R4 hd ln rl R hl hl1 hl2 (ev_neg cE (hb2.bind (ev_pos rfl hR)))⟩
  | false =>
    right
    exact ⟨m0 + 1, 4, by decide, q2, q8, P4 _ (ev_neg cE (hb1.bind (ev_neg (by simp) (Ev.now _)))), by
      intro hd ln rl hl hl1 hl2
      refine R4 hd ln rl _ hl hl1 hl2 (ev_neg cE (hb2.bind (ev_neg (by simp) ?_)))
      rw [Int.add_assoc]
      exact Ev.now _⟩
end
end Go.Proofs.Ytkanmafjjejpmaa.M

namespace Go.Proofs.Ytkanmafjjejpmaa.M
open Go.RowKit Go.Proofs.YtkanmafjjejpmaaW.PrintWords Go.Proofs.YtkanmafjjejpmaaW.PrintMore Go.Proofs.Ytkanmafjjejpmaa.P Go.Proofs.Ytkanmafjjejpmaa.X
set_option linter.unusedSectionVars false

/-- The result of the reference's own loop. -/
abbrev PR := List Int × List ByteArray × Int × Int
/-- That result with the position for the offset. -/
def posR (s : ByteArray) (R : PR) : List Int × List ByteArray × Int × Int × Int :=
  if R.2.2.2 = 0 then (R.1, R.2.1, 0, 0, 0) else ([], [], (posn s R.2.2.1).1, (posn s R.2.2.1).2, R.2.2.2)
/-- What is to be known of it. -/
def GoodR (s : ByteArray) (tk : Int) (R : PR) : Prop :=
  (R.2.2.2 = 0 ∧ (R.1.length : Int) = tk ∧ (R.2.1.length : Int) = tk ∧ Ok R.1) ∨ (R.2.2.2 ≠ 0 ∧ R.1 = [] ∧ R.2.1 = [] ∧ 0 ≤ R.2.2.1 ∧ R.2.2.1 ≤ s.size)

theorem chk_in {h : List Int} {r : Int × Int} (hr : Chk h r) (h0 : r.2 ≠ 0) : 0 ≤ r.1 ∧ r.1 < h.length := by
  rcases hr with ⟨j, a, b, _, _, rfl⟩ | ⟨_, j, c, _, rfl⟩ | ⟨_, _, rfl⟩
  · exact ⟨a, b⟩
  · exact ⟨c.1, c.2.1⟩
  · exact absurd rfl h0

section
variable {s : ByteArray} (hs : s.size ≤ 1048576) {tk : Int} (ht0 : 0 ≤ tk) (ht : tk ≤ 4096)
include hs ht0 ht

theorem l1_ev {hd ln : List Int} {rl : List ByteArray} {fr tt : Int} (h0 : 0 ≤ fr) (he : Eol s fr tt) {R : PR} (next : Ev (fun k => corporaref09_parse.j2 k s tk hd ln rl fr tt) R) (e : Nat) :
    ∀ i : Int, fr ≤ i → i + e = tt → Ev (fun k => corporaref09_parse.l1 k s tk hd ln rl fr i) R := by
  obtain ⟨h1, h2, h3, h4⟩ := he
  induction e with
  | zero =>
    intro i hi hj
    obtain rfl : i = tt := by omega
    refine ev_step next fun k => ?_
    simp only [corporaref09_parse.l1]
    by_cases c : i < s.size
    · rw [if_pos c, if_pos (by omega), if_pos (h4.resolve_left (by omega))]
    · rw [if_neg c]
  | succ e ih =>
    intro i hi hj
    refine ev_step (ih (i + 1) (by omega) (by omega)) fun k => ?_
    simp only [corporaref09_parse.l1]
    rw [if_pos (by omega), if_pos (by omega), if_neg (h3 i hi (by omega)), w64 (by omega) (by omega)]

theorem parse_loop (e : Nat) : ∀ (at' : Int) (hd ln : List Int) (rl : List ByteArray), 0 ≤ at' → at' ≤ s.size + 1 → s.size + 1 ≤ at' + e → (hd.length : Int) ≤ tk → ln.length = hd.length → rl.length = hd.length →
    (∀ i : Int, 0 ≤ i → i < ln.length → 0 ≤ rd ln i ∧ rd ln i ≤ s.size) →
    ∃ R : PR, GoodR s tk R ∧ Ev (fun k => corporaref09_parse.l0 k s tk hd ln rl at') R ∧ Ev (fun k => depend_Parse.l0 k s tk hd rl ln at') (posR s R) := by
  -- at the end
  have fin : ∀ (at' : Int) (hd ln : List Int) (rl : List ByteArray), ¬ at' < s.size → (hd.length : Int) ≤ tk → ln.length = hd.length → rl.length = hd.length →
      (∀ i : Int, 0 ≤ i → i < ln.length → 0 ≤ rd ln i ∧ rd ln i ≤ s.size) →
      ∃ R : PR, GoodR s tk R ∧ Ev (fun k => corporaref09_parse.l0 k s tk hd ln rl at') R ∧ Ev (fun k => depend_Parse.l0 k s tk hd rl ln at') (posR s R) := by
    intro a hd ln rl ha hl hl1 hl2 hln
    by_cases c : (hd.length : Int) < tk
    · refine ⟨([], [], s.size, 15), .inr ⟨show (15 : Int) ≠ 0 by decide, rfl, rfl, show (0 : Int) ≤ s.size by omega, show (s.size : Int) ≤ s.size by omega⟩, ev_step (Ev.now _) fun k => ?_, ev_step (Ev.now _) fun k => ?_⟩
      · simp only [corporaref09_parse.l0]
        rw [if_neg ha, if_pos c]
      · simp only [depend_Parse.l0]
        rw [if_neg ha, if_pos c]
        rfl
    · have RE : ∀ R : PR, Ev (fun k => (corporaref09_Check.f k hd).bind fun b => if b.2 = 0 then some (hd, rl, 0, 0) else if 0 ≤ b.1 then if b.1 < (ln.length : Int) then some ([], [], rd ln b.1, b.2) else none else none) R → Ev (fun k => corporaref09_parse.l0 k s tk hd ln rl a) R := fun R hR => by
        refine ev_step hR fun k => ?_
        simp only [corporaref09_parse.l0]
        rw [if_neg ha, if_neg c]
      have PE : ∀ R : List Int × List ByteArray × Int × Int × Int, Ev (fun k => (depend_Check.f k hd).bind fun b => if b.2 = 0 then some (hd, rl, 0, 0, 0) else if 0 ≤ b.1 then if b.1 < (ln.length : Int) then (codepoint_Position.f s (rd ln b.1)).bind fun q => some ([], [], q.1, q.2, b.2) else none else none) R → Ev (fun k => depend_Parse.l0 k s tk hd rl ln a) R := fun R hR => by
        refine ev_step hR fun k => ?_
        simp only [depend_Parse.l0]
        rw [if_neg ha, if_neg c]
      obtain ⟨r, hr, h1, h2⟩ := checks_ev (h := hd) (by omega)
      have hk := chk_ok (h := hd) (by omega) hr
      by_cases c0 : r.2 = 0
      · exact ⟨(hd, rl, 0, 0), .inl ⟨rfl, show (hd.length : Int) = tk by omega, show (rl.length : Int) = tk by omega, hk.1 c0⟩, RE _ (h2.bind (ev_pos c0 (Ev.now _))), PE _ (h1.bind (ev_pos c0 (Ev.now _)))⟩
      · obtain ⟨q1, q2⟩ := chk_in hr c0
        have q3 := hln r.1 q1 (by omega)
        refine ⟨([], [], rd ln r.1, r.2), .inr ⟨c0, rfl, rfl, q3.1, q3.2⟩, RE _ (h2.bind (ev_neg c0 (ev_pos q1 (ev_pos (by omega) (Ev.now _))))), PE _ (h1.bind (ev_neg c0 (ev_pos q1 (ev_pos (by omega) ?_))))⟩
        unfold posR
        rw [if_neg (show ¬ (([], [], rd ln r.1, r.2) : PR).2.2.2 = 0 from c0)]
        exact Ev.bind (pos_ev s (rd ln r.1)) (Ev.now (([] : List Int), ([] : List ByteArray), (posn s (rd ln r.1)).1, (posn s (rd ln r.1)).2, r.2))
  induction e with
  | zero => intro a hd ln rl h0 h1 h2 hl hl1 hl2 hln; exact fin a hd ln rl (by omega) hl hl1 hl2 hln
  | succ e ih =>
    intro a hd ln rl h0 h1 h2 hl hl1 hl2 hln
    by_cases ca : a < s.size
    · have hs' : s.size ≤ 1000000000 := by omega
      obtain ⟨tt, he⟩ := eol_ex s (s.size - a.toNat) a h0 (by omega)
      have e1 := he.1; have e2 := he.2.1
      have hsz := line_sz hs' h0 he ht0 ht
      obtain ⟨ba, bb, hcut⟩ := cut_line hs' h0 ca he
      have L0 : ∀ R : PR, Ev (fun k => corporaref09_parse.j2 k s tk hd ln rl a tt) R → Ev (fun k => corporaref09_parse.l0 k s tk hd ln rl a) R := fun R hR => by
        refine ev_step (l1_ev hs ht0 ht h0 he hR (tt - a).toNat a (by omega) (by omega)) fun k => ?_
        simp only [corporaref09_parse.l0]
        rw [if_pos ca]
      have w1 : wrap64 (a + wrap64 (((s.extract a.toNat tt.toNat).size : Int) + 1)) = tt + 1 := by
        rw [hsz, w64 (x := (((tt - a).toNat : Nat) : Int) + 1) (by omega) (by omega), w64 (by omega) (by omega)]
        omega
      have z1 : hd.length < 17592186044416 := by omega
      have z2 : rl.length < 8796093022208 := by omega
      have z3 : ln.length < 17592186044416 := by omega
      have PL : ∀ R : List Int × List ByteArray × Int × Int × Int, Ev (fun k => if (hd.length : Int) = tk then some ([], [], (posn s a).1, (posn s a).2, 15) else (depend_line.f k (s.extract a.toNat tt.toNat) tk).bind fun b => if b.2.2.2 = 0 then depend_Parse.l0 k s tk (hd ++ [b.1]) (rl ++ [b.2.1]) (ln ++ [a]) (tt + 1) else (codepoint_Position.f s (wrap64 (a + b.2.2.1))).bind fun q => some ([], [], q.1, q.2, b.2.2.2)) R → Ev (fun k => depend_Parse.l0 k s tk hd rl ln a) R := fun R hR => by
        refine ev_step hR fun k => ?_
        simp only [depend_Parse.l0]
        rw [if_pos ca, if_pos h0, if_pos (by omega), hcut]
        simp only [Option.bind_some]
        simp only [w1, z1, z2, z3, if_true]
        rfl
      by_cases c : (hd.length : Int) = tk
      · refine ⟨([], [], a, 15), .inr ⟨show (15 : Int) ≠ 0 by decide, rfl, rfl, h0, show a ≤ s.size by omega⟩, L0 _ (ev_step (Ev.now _) fun k => ?_), PL _ (ev_pos c (Ev.now _))⟩
        simp only [corporaref09_parse.j2]
        rw [if_pos (by omega)]
      · rcases line_r hs' h0 he ht0 ht with ⟨n, r, g1, g2, g3, g4, g5⟩ | ⟨off, code, g1, g2, g3, g4, g5⟩
        · obtain ⟨R, r1, r2, r3⟩ := ih (tt + 1) (hd ++ [n]) (ln ++ [a]) (rl ++ [r]) (by omega) (by omega) (by omega) (by rw [List.length_append]; simp only [List.length_singleton]; omega)
            (by simp [hl1]) (by simp [hl2]) (fun i i0 i1 => by
              rw [List.length_append, List.length_singleton] at i1
              by_cases ci : i < ln.length
              · have : rd (ln ++ [a]) i = rd ln i := by
                  unfold rd
                  rw [List.getD_eq_getElem?_getD, List.getD_eq_getElem?_getD, List.getElem?_append_left (by omega)]
                rw [this]
                exact hln i i0 ci
              · have : rd (ln ++ [a]) i = a := by
                  unfold rd
                  rw [show i.toNat = ln.length by omega, List.getD_eq_getElem?_getD, List.getElem?_append_right (Nat.le_refl _), Nat.sub_self]
                  rfl
                rw [this]
                omega)
          exact ⟨R, r1, L0 _ (g5 hd ln rl R (by omega) hl1 hl2 r2), PL _ (ev_neg c (g1.bind (ev_pos rfl r3)))⟩
        · refine ⟨([], [], a + off, code), .inr ⟨g1, rfl, rfl, show 0 ≤ a + off by omega, show a + off ≤ s.size by omega⟩, L0 _ (g5 hd ln rl (by omega) hl1 hl2), PL _ (ev_neg c (g4.bind (ev_neg g1 ?_)))⟩
          unfold posR
          rw [if_neg g1, w64 (by simp only; omega) (by simp only; omega)]
          exact (pos_ev s (a + off)).bind (Ev.now _)
    · exact fin a hd ln rl ca hl hl1 hl2 hln
end

/-- Both parsers give one result. -/
theorem parses_ev (s : ByteArray) (tk : Int) : ∃ R : List Int × List ByteArray × Int × Int × Int,
    Ev (fun k => depend_Parse.f k s tk) R ∧ Ev (fun k => corporaref09_Parse.f k s tk) R ∧
    ((R.2.2.2.2 = 0 ∧ 0 ≤ tk ∧ tk ≤ 4096 ∧ (R.1.length : Int) = tk ∧ (R.2.1.length : Int) = tk ∧ R.2.2.1 = 0 ∧ R.2.2.2.1 = 0 ∧ Ok R.1) ∨
     (R.2.2.2.2 ≠ 0 ∧ R.1 = [] ∧ R.2.1 = [] ∧ ((R.2.2.1, R.2.2.2.1) = (0, 0) ∧ (tk < 0 ∨ tk > 4096 ∨ (s.size : Int) > 1048576) ∨ ∃ a : Int, 0 ≤ a ∧ a ≤ s.size ∧ (R.2.2.1, R.2.2.2.1) = posn s a))) := by
  by_cases c1 : tk < 0
  · refine ⟨([], [], 0, 0, 1), ev_pos c1 (ev_step (Ev.now _) fun k => ?_), ev_pos c1 (ev_step (Ev.now _) fun k => ?_), .inr ⟨show (_ : Int) ≠ 0 by decide, rfl, rfl, .inl ⟨rfl, .inl c1⟩⟩⟩
    · simp [depend_Parse.j0]
    · simp [corporaref09_Parse.j0]
  by_cases c2 : tk > 4096
  · refine ⟨([], [], 0, 0, 1), ev_neg c1 (ev_step (Ev.now _) fun k => ?_), ev_neg c1 (ev_step (Ev.now _) fun k => ?_), .inr ⟨show (_ : Int) ≠ 0 by decide, rfl, rfl, .inl ⟨rfl, .inr (.inl c2)⟩⟩⟩
    · simp [depend_Parse.j0, c2]
    · simp [corporaref09_Parse.j0, c2]
  by_cases c3 : (s.size : Int) > 1048576
  · refine ⟨([], [], 0, 0, 2), ev_neg c1 (ev_step (Ev.now _) fun k => ?_), ev_neg c1 (ev_step (Ev.now _) fun k => ?_), .inr ⟨show (_ : Int) ≠ 0 by decide, rfl, rfl, .inl ⟨rfl, .inr (.inr c3)⟩⟩⟩
    · simp only [depend_Parse.j0]
      rw [if_neg (by simpa using c2), if_pos c3]
    · simp only [corporaref09_Parse.j0]
      rw [if_neg (by simpa using c2), if_pos c3]
  obtain ⟨R, r1, r2, r3⟩ := parse_loop (s := s) (by omega) (tk := tk) (by omega) (by omega) (s.size + 1) 0 [] [] [] (by omega) (by omega) (by omega) (by simp only [List.length_nil]; omega) rfl rfl (fun i a b => by simp only [List.length_nil] at b; omega)
  refine ⟨posR s R, ev_neg c1 (ev_step r3 fun k => ?_), ev_neg c1 (ev_step (f := fun k => (corporaref09_parse.f k s tk).bind fun b => if b.2.2.2 = 0 then some (b.1, b.2.1, 0, 0, 0) else (corporaref01_Position.f k s b.2.2.1).bind fun q => some ([], [], q.1, q.2, b.2.2.2)) (r2.bind ?_) fun k => ?_), ?_⟩
  · simp only [depend_Parse.j0]
    rw [if_neg (by simpa using c2), if_neg c3]
  · rcases r1 with ⟨a, b, c, d⟩ | ⟨a, b, c, d, e⟩
    · unfold posR
      rw [if_pos a]
      exact ev_pos a (Ev.now _)
    · unfold posR
      rw [if_neg a]
      exact ev_neg a ((rpos_ev (by omega) d e).bind (Ev.now _))
  · simp only [corporaref09_Parse.j0]
    rw [if_neg (by simpa using c2), if_neg c3]
  · unfold posR
    rcases r1 with ⟨a, b, c, d⟩ | ⟨a, b, c, d, e⟩
    · rw [if_pos a]
      exact .inl ⟨rfl, by omega, by omega, b, c, rfl, rfl, d⟩
    · rw [if_neg a]
      exact .inr ⟨a, rfl, rfl, .inr ⟨_, d, e, rfl⟩⟩

theorem same_strings {l : List ByteArray} (hl : l.length ≤ 1000000000000) : Ev (fun k => corporaref09_SameStrings.f k l l) true := by
  have key : ∀ (e : Nat) (i : Int), 0 ≤ i → i + e = l.length → Ev (fun k => corporaref09_SameStrings.l0 k l l l.length i) true := by
    intro e
    induction e with
    | zero =>
      intro i h0 hi
      refine ev_step (Ev.now _) fun k => ?_
      simp only [corporaref09_SameStrings.l0]
      rw [if_neg (by omega)]
    | succ e ih =>
      intro i h0 hi
      refine ev_step (ih (i + 1) (by omega) (by omega)) fun k => ?_
      simp only [corporaref09_SameStrings.l0]
      rw [if_pos (by omega), if_pos h0, if_pos (by omega), if_pos (by omega), if_pos trivial, w64 (by omega) (by omega)]
  exact ev_pos rfl (key l.length 0 (by omega) (by omega))
end Go.Proofs.Ytkanmafjjejpmaa.M
