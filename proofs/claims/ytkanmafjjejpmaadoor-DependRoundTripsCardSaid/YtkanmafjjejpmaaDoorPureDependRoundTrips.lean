/- For any heads and relations that have a text, depend.Parse reads them back from it, with its last line feed and without. Conditions: none beyond the statement's own. -/
import Derived.Test.YtkanmafjjejpmaaDoorM3
import Derived.Test.YtkanmafjjejpmaaDoorPx17
import Derived.Test.YtkanmafjjejpmaaDoorPx27
namespace Go.Proofs.YtkanmafjjejpmaaDoor.M
open Go.RowKit Go.Proofs.YtkanmafjjejpmaaDoorW.PrintWords Go.Proofs.YtkanmafjjejpmaaDoorW.PrintMore Go.Proofs.YtkanmafjjejpmaaDoor.P Go.Proofs.YtkanmafjjejpmaaDoor.X

theorem bt_extract {s : ByteArray} {a b : Nat} {i : Int} (hb : b ≤ s.size) (h0 : 0 ≤ i) (h1 : i < (b : Int) - a) : bt (s.extract a b) i = bt s (a + i) := by
  unfold bt
  have hs : (s.extract a b).size = b - a := by rw [ByteArray.size_extract, Nat.min_eq_left hb]
  rw [dif_pos (show i.toNat < (s.extract a b).size by omega), dif_pos (show ((a : Int) + i).toNat < s.size by omega), ByteArray.getElem_extract]
  congr 3
  omega
theorem size_extract' {s : ByteArray} {a b : Nat} (hb : b ≤ s.size) : (s.extract a b).size = b - a := by rw [ByteArray.size_extract, Nat.min_eq_left hb]

/-- A line from 'from' ends at 'tt'. -/
def Eol (s : ByteArray) (fr tt : Int) : Prop := fr ≤ tt ∧ tt ≤ s.size ∧ (∀ j, fr ≤ j → j < tt → bt s j ≠ 10) ∧ (tt = s.size ∨ bt s tt = 10)

theorem eol_ex (s : ByteArray) (e : Nat) : ∀ fr : Int, 0 ≤ fr → fr + e = s.size → ∃ tt, Eol s fr tt := by
  induction e with
  | zero => intro fr h0 h; exact ⟨fr, by omega, by omega, fun j a b => by omega, .inl (by omega)⟩
  | succ e ih =>
    intro fr h0 h
    by_cases c : bt s fr = 10
    · exact ⟨fr, by omega, by omega, fun j a b => by omega, .inr c⟩
    · obtain ⟨tt, a, b, d, f⟩ := ih (fr + 1) (by omega) (by omega)
      refine ⟨tt, by omega, b, fun j g i => ?_, f⟩
      by_cases ej : j = fr
      · rw [ej]; exact c
      · exact d j (by omega) i

/-! ### strings.Cut -/

set_option linter.unusedSectionVars false
set_option linter.unusedVariables false
theorem index_spec (l : List UInt8) (c : UInt8) : (Lib.indexByte l c = -1 ∧ ∀ x ∈ l, x ≠ c) ∨ ∃ i : Nat, Lib.indexByte l c = i ∧ l[i]? = some c ∧ ∀ j, j < i → l[j]? ≠ some c := by
  induction l with
  | nil => left; exact ⟨rfl, fun x hx => by cases hx⟩
  | cons b l ih =>
    unfold Lib.indexByte
    by_cases h : b = c
    · right
      refine ⟨0, ?_, by simp [h], fun j hj => by omega⟩
      rw [if_pos (by simp [h])]; rfl
    · rw [if_neg (by simpa using h)]
      rcases ih with ⟨e, hn⟩ | ⟨i, e, h1, h2⟩
      · left
        rw [if_pos (by rw [e]; rfl)]
        refine ⟨rfl, fun x hx => ?_⟩
        rcases List.mem_cons.1 hx with e2 | e2
        · rw [e2]; exact h
        · exact hn x e2
      · right
        refine ⟨i + 1, ?_, by simpa using h1, fun j hj => ?_⟩
        · rw [if_neg (by rw [e]; simp), e]; try rfl
        · cases j with
          | zero => simp_all
          | succ j => simpa using h2 j (by omega)

theorem bt_getElem? {s : ByteArray} {i : Nat} {c : UInt8} : s.data.toList[i]? = some c ↔ i < s.size ∧ bt s i = c.toNat := by
  unfold bt
  rw [Array.getElem?_toList]
  constructor
  · intro h
    obtain ⟨hi, e⟩ := Array.getElem?_eq_some_iff.1 h
    have hi' : i < s.size := hi
    refine ⟨hi', ?_⟩
    rw [dif_pos (by rw [Int.toNat_natCast]; exact hi')]
    simp only [Int.toNat_natCast]
    rw [ByteArray.getElem_eq_getElem_data, e]
  · rintro ⟨hi, e⟩
    rw [dif_pos (by rw [Int.toNat_natCast]; exact hi)] at e
    simp only [Int.toNat_natCast] at e
    rw [Array.getElem?_eq_some_iff]
    refine ⟨hi, ?_⟩
    rw [ByteArray.getElem_eq_getElem_data] at e
    exact UInt8.toNat_inj.1 (by omega)

theorem cut_line {s : ByteArray} (hs : s.size ≤ 1000000000) {fr tt : Int} (h0 : 0 ≤ fr) (h1 : fr < s.size) (he : Eol s fr tt) :
    ∃ a b, strings_Cut.f (s.extract fr.toNat s.size) ⟨#[10]⟩ = some (s.extract fr.toNat tt.toNat, a, b) := by
  obtain ⟨e1, e2, e3, e4⟩ := he
  have hsz := size_extract' (s := s) (a := fr.toNat) (Nat.le_refl s.size)
  have hidx : stringslite_Index.f (s.extract fr.toNat s.size) ⟨#[10]⟩ = some (Lib.indexByte (s.extract fr.toNat s.size).data.toList 10) := rfl
  unfold strings_Cut.f stringslite_Cut.f
  rw [hidx]
  simp only [Option.bind_some]
  rcases index_spec (s.extract fr.toNat s.size).data.toList 10 with ⟨ei, hn⟩ | ⟨i, ei, hi, hm⟩
  · -- no line feed
    have htt : tt = s.size := by
      rcases e4 with e4 | e4
      · exact e4
      · exfalso
        by_cases c : tt < s.size
        · have : (s.extract fr.toNat s.size).data.toList[(tt - fr).toNat]? = some 10 := by
            rw [bt_getElem?]
            refine ⟨by omega, ?_⟩
            rw [bt_extract (Nat.le_refl _) (by omega) (by omega), show (fr.toNat : Int) + ((tt - fr).toNat : Int) = tt by omega, e4]
            rfl
          exact hn 10 (List.mem_of_getElem? this) rfl
        · have : bt s tt = 0 := by unfold bt; rw [dif_neg (by omega)]
          omega
    rw [ei, if_neg (by omega)]
    refine ⟨⟨#[]⟩, false, ?_⟩
    simp only [Option.bind_some]
    rw [htt, Int.toNat_natCast]
  · obtain ⟨hi1, hi2⟩ := bt_getElem?.1 hi
    rw [hsz] at hi1
    rw [bt_extract (Nat.le_refl _) (by omega) (by omega)] at hi2
    have hlt : ∀ j : Int, fr ≤ j → j < fr + i → bt s j ≠ 10 := fun j a b e => by
      refine hm (j - fr).toNat (by omega) ?_
      rw [bt_getElem?, hsz]
      refine ⟨by omega, ?_⟩
      rw [bt_extract (Nat.le_refl _) (by omega) (by omega), show (fr.toNat : Int) + ((j - fr).toNat : Int) = j by omega, e]
      rfl
    have htt : tt = fr + i := by
      have c1 : ¬ tt < fr + i := fun c => by
        rcases e4 with e4 | e4
        · omega
        · exact hlt tt e1 c e4
      have c2 : ¬ fr + i < tt := fun c => e3 (fr + i) (by omega) c (by rw [← show (fr.toNat : Int) + (i : Int) = fr + i by omega, hi2]; rfl)
      omega
    have h2 : (⟨#[10]⟩ : ByteArray).size = 1 := rfl
    rw [ei, hsz, h2, w64 (by omega) (by omega), if_pos (by omega), if_pos (by omega), if_pos (by omega), if_pos (by omega), if_pos (by omega)]
    refine ⟨(s.extract fr.toNat s.size).extract ((i : Int) + ((1 : Nat) : Int)).toNat (s.size - fr.toNat), true, ?_⟩
    simp only [Option.bind_some]
    rw [ByteArray.extract_extract, Int.toNat_natCast, Nat.add_zero, Nat.min_eq_left (by omega), show fr.toNat + i = tt.toNat by omega]

/-! ### A line that was written -/

theorem bt_left {a b : ByteArray} {i : Int} (h0 : 0 ≤ i) (h1 : i < a.size) : bt (a ++ b) i = bt a i := by
  unfold bt
  rw [dif_pos (show i.toNat < (a ++ b).size by rw [ByteArray.size_append]; omega), dif_pos (show i.toNat < a.size by omega), ByteArray.getElem_append_left (by omega)]
theorem bt_right {a b : ByteArray} {i : Int} (h0 : 0 ≤ i) (h1 : i < b.size) : bt (a ++ b) (a.size + i) = bt b i := by
  unfold bt
  rw [dif_pos (show ((a.size : Int) + i).toNat < (a ++ b).size by rw [ByteArray.size_append]; omega), dif_pos (show i.toNat < b.size by omega), ByteArray.getElem_append_right (by omega)]
  congr 3
  omega

/-- A line without its line feed. -/
def bodyOf (x : Int) (r : ByteArray) : ByteArray := (itoaS (x + 1) ++ (⟨#[9]⟩ : ByteArray)) ++ r

def digS (n : Nat) : ByteArray := ⟨(Lib.decDigits n).toArray⟩
theorem digS_size (n : Nat) : (digS n).size = (Lib.decDigits n).length := by unfold digS; simp [ByteArray.size]
theorem digS_small {n : Nat} (h : n < 10) : digS n = ⟨#[UInt8.ofNat (48 + n)]⟩ := by unfold digS; rw [Lib.decDigits_one h]
theorem digS_big {n : Nat} (h : ¬ n < 10) : digS n = digS (n / 10) ++ ⟨#[UInt8.ofNat (48 + n % 10)]⟩ := by
  unfold digS
  rw [show Lib.decDigits n = Lib.decDigits (n / 10) ++ [UInt8.ofNat (48 + n % 10)] by rw [Lib.decDigits, dif_neg h]]
  apply ByteArray.ext
  simp [ByteArray.data_append]
theorem itoaS_dig {x : Int} (h : 0 ≤ x) : itoaS x = digS x.toNat := by
  unfold itoaS Lib.itoa digS
  rw [if_neg (by omega)]
theorem bt_one (c : UInt8) : bt (⟨#[c]⟩ : ByteArray) 0 = (c.toNat : Int) := by
  unfold bt
  rw [dif_pos (show (0 : Int).toNat < (⟨#[c]⟩ : ByteArray).size from Nat.zero_lt_one)]
  rfl
theorem dig_nat {d : Nat} (h : d < 10) : ((UInt8.ofNat (48 + d)).toNat : Int) = 48 + d := by
  rw [UInt8.toNat_ofNat']
  omega
theorem digS_pos (n : Nat) : 1 ≤ (digS n).size := by
  rw [digS_size, Lib.decDigits_length]; exact Lib.nDigits_pos n

/-- Each of the bytes is a digit, the first is a zero in "0" alone. -/
theorem digS_bytes : ∀ n : Nat, (∀ i : Int, 0 ≤ i → i < (digS n).size → 48 ≤ bt (digS n) i ∧ bt (digS n) i ≤ 57) ∧ (bt (digS n) 0 = 48 → n = 0) := by
  intro n
  induction n using Nat.strongRecOn with
  | ind n ih =>
    by_cases c : n < 10
    · rw [digS_small c]
      refine ⟨fun i h0 h1 => ?_, fun h => ?_⟩
      · obtain rfl : i = 0 := by
          have : ((⟨#[UInt8.ofNat (48 + n)]⟩ : ByteArray).size : Int) = 1 := rfl
          omega
        rw [bt_one, dig_nat c]; omega
      · rw [bt_one, dig_nat c] at h; omega
    · obtain ⟨p, q⟩ := ih (n / 10) (by omega)
      have hp := digS_pos (n / 10)
      rw [digS_big c]
      refine ⟨fun i h0 h1 => ?_, fun h => ?_⟩
      · by_cases ci : i < (digS (n / 10)).size
        · rw [bt_left h0 ci]; exact p i h0 ci
        · rw [ByteArray.size_append] at h1
          have e1 : ((⟨#[UInt8.ofNat (48 + n % 10)]⟩ : ByteArray).size : Int) = 1 := rfl
          obtain rfl : i = (digS (n / 10)).size + 0 := by omega
          rw [bt_right (by omega) (by omega), bt_one, dig_nat (by omega)]; omega
      · rw [bt_left (by omega) (by omega)] at h
        have := q h
        omega

section
variable {tk : Int} (ht0 : 0 ≤ tk) (ht : tk ≤ 4096)
include ht0 ht

/-- The program's loop over the digits of a number. -/
theorem digits_read : ∀ (n : Nat), (n : Int) ≤ tk → ∀ (b : ByteArray) (r : Int × ByteArray × Int × Int), (digS n ++ b).size ≤ 1000000 →
    Ev (fun k => depend_line.l0 k (digS n ++ b) tk n (digS n).size) r → Ev (fun k => depend_line.l0 k (digS n ++ b) tk 0 0) r := by
  intro n
  induction n using Nat.strongRecOn with
  | ind n ih =>
    intro hn b r hb hr
    have step : ∀ (s : ByteArray) (v d j : Int), 0 ≤ v → 0 ≤ d → d ≤ 9 → 10 * v + d ≤ tk → 0 ≤ j → j < s.size → s.size ≤ 2000000 → bt s j = 48 + d → Ev (fun k => depend_line.l0 k s tk (10 * v + d) (j + 1)) r → Ev (fun k => depend_line.l0 k s tk v j) r := by
      intro s v d j hv hd0 hd hle hj hjs hs e next
      refine ev_step next fun k => ?_
      simp only [depend_line.l0]
      rw [if_pos hjs, if_pos hj, if_pos (by omega), if_pos (by omega), e]
      rw [w64 (x := 10 * v) (by omega) (by omega), show (48 + d - 48) % 256 = d by omega, w64 (x := 10 * v + d) (by omega) (by omega), w64 (x := tk + 1) (by omega) (by omega), w64 (x := j + 1) (by omega) (by omega)]
      rw [show mn (10 * v + d) (tk + 1) = 10 * v + d by unfold mn; rw [if_neg (by omega)]]
    by_cases c : n < 10
    · have es := digS_small c
      have e1 : ((digS n).size : Int) = 1 := by rw [es]; rfl
      refine step _ 0 n 0 (by omega) (by omega) (by omega) (by omega) (by omega) (by rw [ByteArray.size_append]; omega) (by omega) ?_ ?_
      · rw [bt_left (by omega) (by omega), es, bt_one, dig_nat c]
      · rw [show 10 * (0 : Int) + n = n by omega, show (0 : Int) + 1 = (digS n).size by omega]
        exact hr
    · have es := digS_big c
      have e1 : ((⟨#[UInt8.ofNat (48 + n % 10)]⟩ : ByteArray).size) = 1 := rfl
      have hsz : (digS n).size = (digS (n / 10)).size + 1 := by rw [es, ByteArray.size_append, e1]
      have hl : (digS n).size ≤ 21 := by
        rw [digS_size, Lib.decDigits_length]
        have := Lib.nDigits_le20 n (by omega)
        omega
      rw [es, ByteArray.append_assoc]
      refine ih (n / 10) (by omega) (by omega) (⟨#[UInt8.ofNat (48 + n % 10)]⟩ ++ b) r (by rw [ByteArray.size_append, hsz] at hb; rw [ByteArray.size_append, ByteArray.size_append, e1]; omega) ?_
      have hb2 : (digS (n / 10) ++ (⟨#[UInt8.ofNat (48 + n % 10)]⟩ ++ b)).size ≤ 1000000 := by rw [ByteArray.size_append, hsz] at hb; rw [ByteArray.size_append, ByteArray.size_append, e1]; omega
      refine step _ ((n / 10 : Nat) : Int) ((n % 10 : Nat) : Int) (digS (n / 10)).size (by omega) (by omega) (by omega) (by omega) (by omega) (by rw [ByteArray.size_append, ByteArray.size_append, e1]; omega) (by omega) ?_ ?_
      · have := bt_right (a := digS (n / 10)) (b := ⟨#[UInt8.ofNat (48 + n % 10)]⟩ ++ b) (i := 0) (by omega) (by rw [ByteArray.size_append, e1]; omega)
        rw [Int.add_zero] at this
        rw [this, bt_left (by omega) (by rw [e1]; omega), bt_one, dig_nat (by omega)]
      · rw [show 10 * ((n / 10 : Nat) : Int) + ((n % 10 : Nat) : Int) = n by omega, show ((digS (n / 10)).size : Int) + 1 = (digS n).size by omega, ← ByteArray.append_assoc, ← es]
        exact hr

/-- A line that was written is read. -/
theorem line_read {x : Int} {rel : ByteArray} (hx0 : -1 ≤ x) (hx : x < tk) (hr : RelOk rel) : Ev (fun k => depend_line.f k (bodyOf x rel) tk) (x, rel, 0, 0) := by
  have e9 : ((⟨#[9]⟩ : ByteArray).size) = 1 := rfl
  have hrs := relOk_size hr
  obtain ⟨n, hn⟩ : ∃ n : Nat, x + 1 = n := ⟨(x + 1).toNat, by omega⟩
  have hS : itoaS (x + 1) = digS n := by rw [itoaS_dig (by omega), hn]; rfl
  have hp := digS_pos n
  have hl : (digS n).size ≤ 21 := by
    rw [digS_size, Lib.decDigits_length]
    exact Nat.le_succ_of_le (Lib.nDigits_le20 n (by omega))
  obtain ⟨hd, hz⟩ := digS_bytes n
  have eb : bodyOf x rel = digS n ++ ((⟨#[9]⟩ : ByteArray) ++ rel) := by unfold bodyOf; rw [hS, ByteArray.append_assoc]
  have hsz : (bodyOf x rel).size = (digS n).size + (1 + rel.size) := by rw [eb, ByteArray.size_append, ByteArray.size_append, e9]
  have hw1 : wrap64 (((digS n).size : Int) + 1) = (digS n).size + 1 := w64 (by omega) (by omega)
  have hw2 : wrap64 ((n : Int) - 1) = x := by rw [w64 (by omega) (by omega)]; omega
  have q1 : ¬ ((n : Int) > tk) := by omega
  have q2 : 0 ≤ ((digS n).size : Int) + 1 := by omega
  have q3 : ((digS n).size : Int) + 1 ≤ ((bodyOf x rel).size : Int) := by omega
  have q4 : ¬ ((digS n).size : Int) = 0 := by omega
  have q5 : 0 < ((bodyOf x rel).size : Int) := by omega
  have q6 : ¬ ((digS n).size : Int) = ((bodyOf x rel).size : Int) := by omega
  have q7 : 0 ≤ ((digS n).size : Int) := by omega
  have q8 : ((digS n).size : Int) < ((bodyOf x rel).size : Int) := by omega
  have q9 : (n : Int) ≤ tk := by omega
  have q10 : (digS n ++ ((⟨#[9]⟩ : ByteArray) ++ rel)).size ≤ 1000000 := by rw [← eb, hsz]; omega
  have q12 : (((digS n).size : Int) + 1).toNat = (digS n ++ (⟨#[9]⟩ : ByteArray)).size := by rw [ByteArray.size_append, e9]; omega
  have q13 : (digS n).size + (1 + rel.size) = (digS n ++ (⟨#[9]⟩ : ByteArray)).size + rel.size := by rw [ByteArray.size_append, e9]; omega
  have q14 : 0 < (((⟨#[9]⟩ : ByteArray) ++ rel).size : Int) := by rw [ByteArray.size_append, e9]; omega
  have q15 : (0 : Int) < ((⟨#[9]⟩ : ByteArray).size : Int) := by rw [e9]; omega
  have q16 : (0 : Int) < ((digS n).size : Int) := by omega
  have htab : bt (bodyOf x rel) (digS n).size = 9 := by
    have := bt_right (a := digS n) (b := (⟨#[9]⟩ : ByteArray) ++ rel) (i := 0) (Int.le_refl 0) q14
    rw [Int.add_zero] at this
    rw [eb, this, bt_left (Int.le_refl 0) q15, bt_one]
    rfl
  have hfst : bt (bodyOf x rel) 0 = bt (digS n) 0 := by rw [eb, bt_left (Int.le_refl 0) q16]
  have hext : (bodyOf x rel).extract (((digS n).size : Int) + 1).toNat (bodyOf x rel).size = rel := by
    rw [hsz, eb, ← ByteArray.append_assoc]
    exact ByteArray.extract_append_eq_right q12 q13
  have last : Ev (fun k => depend_line.j3 k (bodyOf x rel) tk n (digS n).size false) (x, rel, 0, 0) := by
    by_cases c : rel.toList = ([] : List UInt8)
    · refine ev_step (Ev.now _) fun k => ?_
      simp only [depend_line.j3, Bool.false_eq_true, if_false]
      rw [if_neg q1, hw1, if_pos q2, if_pos q3, hext, if_pos c, hw2]
    · obtain ⟨b, hb0, hb1, _⟩ := name_ev rel
      have hok : NameOk rel := hr.resolve_left fun h => c (toList_nil.2 h)
      obtain rfl : b = true := hb0.2 hok
      refine ev_step (hb1.bind (f := fun k t => if t = true then some (x, rel, 0, 0) else some (0, (⟨#[]⟩ : ByteArray), wrap64 (((digS n).size : Int) + 1), 4)) (ev_pos rfl (Ev.now _))) fun k => ?_
      simp only [depend_line.j3, Bool.false_eq_true, if_false]
      rw [if_neg q1, hw1, if_pos q2, if_pos q3, hext, if_neg c, hw2]
  have mid : Ev (fun k => depend_line.j2 k (bodyOf x rel) tk n (digS n).size false) (x, rel, 0, 0) := by
    refine ev_step last fun k => ?_
    simp only [depend_line.j2, Bool.false_eq_true, if_false]
    rw [if_neg q6, if_pos q7, if_pos q8, htab]
    rfl
  have beg : Ev (fun k => depend_line.j1 k (bodyOf x rel) tk n (digS n).size) (x, rel, 0, 0) := by
    refine ev_step mid fun k => ?_
    simp only [depend_line.j1]
    rw [if_neg q4, if_pos q5, hfst]
    by_cases c : bt (digS n) 0 = 48
    · have h0 := hz c
      subst h0
      have e1 : ((digS 0).size : Int) = 1 := by rw [digS_small (by omega)]; rfl
      rw [if_pos c, show decide (((digS 0).size : Int) > 1) = false from decide_eq_false (by omega)]
    · rw [if_neg c]
  have all : Ev (fun k => depend_line.l0 k (bodyOf x rel) tk n (digS n).size) (x, rel, 0, 0) := by
    refine ev_step beg fun k => ?_
    simp only [depend_line.l0]
    rw [if_pos q8, if_pos q7, htab, if_neg (show ¬ (9 : Int) ≥ 48 by decide)]
  have hfin := digits_read ht0 ht n q9 ((⟨#[9]⟩ : ByteArray) ++ rel) (x, rel, 0, 0) q10 (by rw [← eb]; exact all)
  rw [← eb] at hfin
  exact hfin

/-- None of a line's bytes is a line feed. -/
theorem body_bytes {x : Int} {rel : ByteArray} (hx0 : -1 ≤ x) (hr : RelOk rel) (i : Int) (h0 : 0 ≤ i) (h1 : i < (bodyOf x rel).size) : bt (bodyOf x rel) i ≠ 10 := by
  have e9 : ((⟨#[9]⟩ : ByteArray).size) = 1 := rfl
  obtain ⟨n, hn⟩ : ∃ n : Nat, x + 1 = n := ⟨(x + 1).toNat, by omega⟩
  have hS : itoaS (x + 1) = digS n := by rw [itoaS_dig (by omega), hn]; rfl
  obtain ⟨hd, _⟩ := digS_bytes n
  have eb : bodyOf x rel = digS n ++ ((⟨#[9]⟩ : ByteArray) ++ rel) := by unfold bodyOf; rw [hS, ByteArray.append_assoc]
  have hsz : (bodyOf x rel).size = (digS n).size + (1 + rel.size) := by rw [eb, ByteArray.size_append, ByteArray.size_append, e9]
  rw [eb]
  by_cases c1 : i < (digS n).size
  · rw [bt_left h0 c1]
    have := hd i h0 c1
    omega
  · obtain ⟨j, rfl⟩ : ∃ j, i = (digS n).size + j := ⟨i - (digS n).size, by omega⟩
    rw [bt_right (by omega) (by rw [ByteArray.size_append, e9]; omega)]
    by_cases c2 : j < 1
    · rw [bt_left (by omega) (by rw [e9]; omega), show j = 0 by omega, bt_one]
      decide
    · obtain ⟨m, rfl⟩ : ∃ m, j = ((⟨#[9]⟩ : ByteArray).size : Int) + m := ⟨j - 1, by rw [e9]; omega⟩
      have m0 : 0 ≤ m := by rw [e9] at c2; omega
      have m1 : m < rel.size := by rw [e9] at h1; omega
      rw [bt_right m0 m1]
      rcases hr with hr | hr
      · omega
      · have := hr.2.2.2 m m0 m1
        intro e
        rw [e] at this
        exact absurd this (by decide)
end

/-! ### The text -/

theorem parse_step {s A B R : ByteArray} (hs : s.size ≤ 1000000) (es : s = A ++ (B ++ R)) (hB : 1 ≤ B.size) (hb : ∀ i : Int, 0 ≤ i → i < B.size → bt B i ≠ 10) (hR : R.size = 0 ∨ ∃ R', R = (⟨#[10]⟩ : ByteArray) ++ R')
    {tk : Int} {hd ln : List Int} {rl : List ByteArray} {x : Int} {r : ByteArray} {Res : List Int × List ByteArray × Int × Int × Int} (hne : ¬ (hd.length : Int) = tk) (z1 : hd.length < 5000) (z2 : rl.length < 5000) (z3 : ln.length < 5000)
    (line : Ev (fun k => depend_line.f k B tk) (x, r, 0, 0))
    (next : Ev (fun k => depend_Parse.l0 k s tk (hd ++ [x]) (rl ++ [r]) (ln ++ [(A.size : Int)]) ((A.size : Int) + B.size + 1)) Res) : Ev (fun k => depend_Parse.l0 k s tk hd rl ln A.size) Res := by
  have hsz : s.size = A.size + (B.size + R.size) := by rw [es, ByteArray.size_append, ByteArray.size_append]
  have a1 : (0 : Int) ≤ (A.size : Int) := by omega
  have a2 : (A.size : Int) < s.size := by omega
  have a3 : (A.size : Int) ≤ s.size := by omega
  have a4 : (A.size : Int) ≤ (A.size : Int) + B.size := by omega
  have a5 : (A.size : Int) + B.size ≤ s.size := by omega
  have a6 : wrap64 ((A.size : Int) + wrap64 ((B.size : Int) + 1)) = (A.size : Int) + B.size + 1 := by rw [w64 (x := (B.size : Int) + 1) (by omega) (by omega), w64 (by omega) (by omega)]; omega
  have a7 : s.size ≤ 1000000000 := by omega
  have a8 : ((A.size : Int) + B.size).toNat = A.size + B.size := by omega
  have n1 : hd.length < 17592186044416 := by omega
  have n2 : rl.length < 8796093022208 := by omega
  have n3 : ln.length < 17592186044416 := by omega
  have he : Eol s A.size ((A.size : Int) + B.size) := by
    refine ⟨a4, a5, fun j j0 j1 => ?_, ?_⟩
    · obtain ⟨m, rfl⟩ : ∃ m, j = A.size + m := ⟨j - A.size, by omega⟩
      have m0 : 0 ≤ m := by omega
      have m1 : m < B.size := by omega
      have m2 : m < ((B ++ R).size : Int) := by rw [ByteArray.size_append]; omega
      rw [es, bt_right m0 m2, bt_left m0 m1]
      exact hb m m0 m1
    · rcases hR with hR | ⟨R', hR⟩
      · left; omega
      · right
        have m0 : (0 : Int) ≤ (B.size : Int) := by omega
        have m2 : (B.size : Int) < ((B ++ R).size : Int) := by rw [hR, ByteArray.size_append, ByteArray.size_append]; have : (⟨#[10]⟩ : ByteArray).size = 1 := rfl; omega
        have m3 : (0 : Int) < (R.size : Int) := by rw [hR, ByteArray.size_append]; have : (⟨#[10]⟩ : ByteArray).size = 1 := rfl; omega
        have m4 : (0 : Int) < ((⟨#[10]⟩ : ByteArray).size : Int) := by have : (⟨#[10]⟩ : ByteArray).size = 1 := rfl; omega
        have e2 := bt_right (a := B) (b := R) (i := 0) (Int.le_refl 0) m3
        rw [Int.add_zero] at e2
        rw [es, bt_right m0 m2, e2, hR, bt_left (Int.le_refl 0) m4, bt_one]
        rfl
  obtain ⟨ba, bb, hcut⟩ := cut_line a7 a1 a2 he
  have hext : s.extract ((A.size : Int)).toNat ((A.size : Int) + B.size).toNat = B := by
    rw [a8, Int.toNat_natCast, es]
    have := ByteArray.extract_append_size_add (a := A) (b := B ++ R) (i := 0) (j := B.size)
    rw [Nat.add_zero] at this
    rw [this]
    exact ByteArray.extract_append_eq_left rfl
  rw [hext] at hcut
  refine ev_step (line.bind (f := fun k b => if b.2.2.2 = 0 then depend_Parse.l0 k s tk (hd ++ [b.1]) (rl ++ [b.2.1]) (ln ++ [(A.size : Int)]) ((A.size : Int) + B.size + 1) else (codepoint_Position.f s (wrap64 ((A.size : Int) + b.2.2.1))).bind fun q => some ([], [], q.1, q.2, b.2.2.2)) (ev_pos rfl next)) fun k => ?_
  simp only [depend_Parse.l0]
  rw [if_pos a2, if_pos a1, if_pos a3, hcut]
  simp only [Option.bind_some, a6, n1, n2, n3, if_true]
  rw [if_neg hne]

/-- All lines but the last e, then the last, with its line feed or without (c). -/
def linesB (c : Bool) (h : List Int) (rl : List ByteArray) : Nat → Int → ByteArray
  | 0, i => if c = true then bodyOf (rd h i) (rdOf ByteArray.empty rl i) else lineOf h rl i
  | e + 1, i => lineOf h rl i ++ linesB c h rl e (i + 1)

theorem lineOf_body (h : List Int) (rl : List ByteArray) (i : Int) : lineOf h rl i = bodyOf (rd h i) (rdOf ByteArray.empty rl i) ++ (⟨#[10]⟩ : ByteArray) := rfl
theorem app_nil (a : ByteArray) : a ++ (⟨#[]⟩ : ByteArray) = a := by
  apply ByteArray.ext
  simp [ByteArray.data_append]
theorem linesB_false (h : List Int) (rl : List ByteArray) : ∀ (e : Nat) (i : Int), linesB false h rl e i = linesOf h rl (e + 1) i
  | 0, i => by simp only [linesB, linesOf, app_nil]; rfl
  | e + 1, i => by rw [linesB, linesB_false h rl e (i + 1)]; rfl
theorem linesB_true (h : List Int) (rl : List ByteArray) : ∀ (e : Nat) (i : Int), linesB true h rl e i ++ (⟨#[10]⟩ : ByteArray) = linesOf h rl (e + 1) i
  | 0, i => by simp only [linesB, linesOf, app_nil]; rfl
  | e + 1, i => by rw [linesB, ByteArray.append_assoc, linesB_true h rl e (i + 1)]; rfl

section
variable {h : List Int} {rl : List ByteArray} (hn : h.length ≤ 100) (hO : Ok h) (hl : rl.length = h.length) (hr : ∀ j : Int, 0 ≤ j → j < h.length → RelOk (rdOf ByteArray.empty rl j))
include hn hO hl hr

theorem parse_fin {s : ByteArray} {ln : List Int} {a : Int} (ha : ¬ a < s.size) : Ev (fun k => depend_Parse.l0 k s h.length h rl ln a) (h, rl, 0, 0, 0) := by
  obtain ⟨r, h1, h2, _⟩ := checks_ev (h := h) (by omega)
  have hk := (chk_ok (h := h) (by omega) h1).2 hO
  refine ev_step (h2.bind (f := fun k b => if b.2 = 0 then some (h, rl, 0, 0, 0) else if 0 ≤ b.1 then if b.1 < (ln.length : Int) then (codepoint_Position.f s (rd ln b.1)).bind fun q => some ([], [], q.1, q.2, b.2) else none else none) (ev_pos hk (Ev.now _))) fun k => ?_
  simp only [depend_Parse.l0]
  rw [if_neg ha, if_neg (by omega)]

theorem take_one {i : Int} (h0 : 0 ≤ i) (hi : i < h.length) : h.take i.toNat ++ [rd h i] = h.take (i + 1).toNat ∧ rl.take i.toNat ++ [rdOf ByteArray.empty rl i] = rl.take (i + 1).toNat := by
  have e : (i + 1).toNat = i.toNat + 1 := by omega
  have l1 : i.toNat < h.length := by omega
  have l2 : i.toNat < rl.length := by omega
  constructor
  · rw [e, List.take_succ_eq_append_getElem l1]
    congr 2
    unfold rd
    rw [List.getD_eq_getElem?_getD, List.getElem?_eq_getElem l1]
    rfl
  · rw [e, List.take_succ_eq_append_getElem l2]
    congr 2
    unfold rdOf
    rw [List.getD_eq_getElem?_getD, List.getElem?_eq_getElem l2]
    rfl

theorem parse_lines (c : Bool) (e : Nat) : ∀ (i : Int) (A s : ByteArray) (ln : List Int), 0 ≤ i → i + e + 1 = h.length → s = A ++ linesB c h rl e i → s.size ≤ 1000000 → ln.length ≤ i.toNat →
    Ev (fun k => depend_Parse.l0 k s h.length (h.take i.toNat) (rl.take i.toNat) ln A.size) (h, rl, 0, 0, 0) := by
  induction e with
  | zero =>
    intro i A s ln h0 hi es hs hln
    have hrd := hO.2.1 i h0 (by omega)
    have hrel := hr i h0 (by omega)
    have hB1 : 1 ≤ (bodyOf (rd h i) (rdOf ByteArray.empty rl i)).size := by
      unfold bodyOf; rw [ByteArray.size_append, ByteArray.size_append]
      have : (⟨#[9]⟩ : ByteArray).size = 1 := rfl
      omega
    obtain ⟨t1, t2⟩ := take_one hn hO hl hr h0 (show i < h.length by omega)
    have tl : (h.take i.toNat).length = i.toNat := by rw [List.length_take]; omega
    have tl2 : (rl.take i.toNat).length = i.toNat := by rw [List.length_take]; omega
    have ea : h.take (i + 1).toNat = h := List.take_of_length_le (by omega)
    have eb : rl.take (i + 1).toNat = rl := List.take_of_length_le (by omega)
    obtain ⟨R, es2, hR⟩ : ∃ R, s = A ++ (bodyOf (rd h i) (rdOf ByteArray.empty rl i) ++ R) ∧ (R.size = 0 ∨ R = (⟨#[10]⟩ : ByteArray)) := by
      cases c with
      | true => exact ⟨⟨#[]⟩, by rw [app_nil]; exact es, .inl rfl⟩
      | false => exact ⟨⟨#[10]⟩, by rw [es]; rfl, .inr rfl⟩
    have hsz : s.size = A.size + ((bodyOf (rd h i) (rdOf ByteArray.empty rl i)).size + R.size) := by rw [es2, ByteArray.size_append, ByteArray.size_append]
    have hRs : R.size ≤ 1 := by
      rcases hR with hR | hR
      · omega
      · rw [hR]; exact Nat.le_refl _
    refine parse_step hs es2 hB1 (fun j j0 j1 => body_bytes (tk := h.length) (by omega) (by omega) hrd.1 hrel j j0 j1) (hR.imp id fun e => ⟨⟨#[]⟩, by rw [e, app_nil]⟩) (by omega) (by omega) (by omega) (by omega) (line_read (tk := h.length) (by omega) (by omega) hrd.1 hrd.2 hrel) ?_
    rw [t1, t2, ea, eb]
    exact parse_fin hn hO hl hr (by omega)
  | succ e ih =>
    intro i A s ln h0 hi es hs hln
    have hrd := hO.2.1 i h0 (by omega)
    have hrel := hr i h0 (by omega)
    have hB1 : 1 ≤ (bodyOf (rd h i) (rdOf ByteArray.empty rl i)).size := by
      unfold bodyOf; rw [ByteArray.size_append, ByteArray.size_append]
      have : (⟨#[9]⟩ : ByteArray).size = 1 := rfl
      omega
    obtain ⟨t1, t2⟩ := take_one hn hO hl hr h0 (show i < h.length by omega)
    have tl : (h.take i.toNat).length = i.toNat := by rw [List.length_take]; omega
    have tl2 : (rl.take i.toNat).length = i.toNat := by rw [List.length_take]; omega
    have es2 : s = A ++ (bodyOf (rd h i) (rdOf ByteArray.empty rl i) ++ ((⟨#[10]⟩ : ByteArray) ++ linesB c h rl e (i + 1))) := by
      rw [es, linesB, lineOf_body, ByteArray.append_assoc]
    refine parse_step hs es2 hB1 (fun j j0 j1 => body_bytes (tk := h.length) (by omega) (by omega) hrd.1 hrel j j0 j1) (.inr ⟨_, rfl⟩) (by omega) (by omega) (by omega) (by omega) (line_read (tk := h.length) (by omega) (by omega) hrd.1 hrd.2 hrel) ?_
    rw [t1, t2]
    have := ih (i + 1) (A ++ lineOf h rl i) s (ln ++ [(A.size : Int)]) (by omega) (by omega) (by rw [es, linesB, ByteArray.append_assoc]) hs (by rw [List.length_append, List.length_singleton]; omega)
    have e3 : ((A ++ lineOf h rl i).size : Int) = (A.size : Int) + (bodyOf (rd h i) (rdOf ByteArray.empty rl i)).size + 1 := by
      rw [lineOf_body, ByteArray.size_append, ByteArray.size_append]
      have : (⟨#[10]⟩ : ByteArray).size = 1 := rfl
      omega
    rw [e3] at this
    exact this
end
end Go.Proofs.YtkanmafjjejpmaaDoor.M
namespace Go.Proofs.YtkanmafjjejpmaaDoor.Pure
open Go.RowKit Go.Proofs.YtkanmafjjejpmaaDoor.P Go.Proofs.YtkanmafjjejpmaaDoorW.PrintWords Go.Proofs.YtkanmafjjejpmaaDoorW.PrintLast Go.Proofs.YtkanmafjjejpmaaDoor.M

theorem linesOf_size {h : List Int} {rl : List ByteArray} (hO : Ok h) (hn : h.length ≤ 100) (hr : ∀ j : Int, 0 ≤ j → j < h.length → RelOk (rdOf ByteArray.empty rl j)) : ∀ (e : Nat) (i : Int), 0 ≤ i → i + e ≤ h.length → (linesOf h rl e i).size ≤ 100 * e
  | 0, i, _, _ => Nat.zero_le _
  | e + 1, i, h0, hi => by
    have hb := hO.2.1 i h0 (by omega)
    have h1 := line_size (h := h) (rl := rl) (i := i) (by omega) (by omega) (hr i h0 (by omega))
    have h2 := linesOf_size hO hn hr e (i + 1) (by omega) (by omega)
    rw [linesOf, ByteArray.size_append]
    omega

theorem parse_f {s : ByteArray} {h : List Int} {R : List Int × List ByteArray × Int × Int × Int} (hn : h.length ≤ 100) (hs : s.size ≤ 1000000) (next : Ev (fun k => depend_Parse.l0 k s h.length [] [] [] 0) R) : Ev (fun k => depend_Parse.f k s h.length) R := by
  refine ev_neg (by omega) (ev_step next fun k => ?_)
  simp only [depend_Parse.j0]
  rw [if_neg (by simp; omega), if_neg (by omega)]

theorem DependRoundTrips (h : List Int) (rl : List ByteArray) : ∃ k, corporalaw09_DependRoundTrips.f k h rl = some true := by
  unfold corporalaw09_DependRoundTrips.f
  have no : Ev (fun k => corporalaw09_DependRoundTrips.j0 k h rl true) true := ev_step (Ev.now _) fun k => by simp [corporalaw09_DependRoundTrips.j0]
  refine Ev.rounds ?_
  by_cases c : (h.length : Int) > 100
  · exact ev_pos c no
  refine ev_neg c ?_
  by_cases c2 : (rl.length : Int) > 110
  · rw [show decide ((rl.length : Int) > 110) = true from decide_eq_true c2]; exact no
  rw [show decide ((rl.length : Int) > 110) = false from decide_eq_false c2]
  have hn : h.length ≤ 100 := by omega
  obtain ⟨R, h1, _, h3⟩ := formats_ev (h := h) (rl := rl) hn
  have start : Ev (fun k => if R.2 = 0 then corporalaw09_DependRoundTrips.j1 k h rl R.1 ((R.1.size : Int) == 0) else corporalaw09_DependRoundTrips.j1 k h rl R.1 true) true → Ev (fun k => corporalaw09_DependRoundTrips.j0 k h rl false) true := fun hR => by
    refine ev_step (h1.bind (f := fun k b => if b.2 = 0 then corporalaw09_DependRoundTrips.j1 k h rl b.1 ((b.1.size : Int) == 0) else corporalaw09_DependRoundTrips.j1 k h rl b.1 true) hR) fun k => ?_
    simp only [corporalaw09_DependRoundTrips.j0, Bool.false_eq_true, if_false]
  have empty : ∀ s : ByteArray, s.size = 0 → Ev (fun k => corporalaw09_DependRoundTrips.j1 k h rl s true) true := fun s hs => by
    refine ev_step (awake_ev.bind (f := fun k t => some t) (Ev.now _)) fun k => ?_
    simp only [corporalaw09_DependRoundTrips.j1, if_true]
    rw [if_pos (toList_nil.2 hs)]
  refine start ?_
  rcases h3 with ⟨hO, hl, hr, e⟩ | ⟨_, e1, e2⟩
  · have hz : R.2 = 0 := by rw [e]
    have hR : R.1 = linesOf h rl h.length 0 := by rw [e]
    refine ev_pos hz ?_
    rw [hR]
    by_cases c0 : h.length = 0
    · rw [c0]
      exact empty ⟨#[]⟩ rfl
    · obtain ⟨m, hm⟩ : ∃ m, h.length = m + 1 := ⟨h.length - 1, by omega⟩
      have hsz := linesOf_size hO hn hr h.length 0 (Int.le_refl _) (by omega)
      have eT : linesOf h rl h.length 0 = linesB false h rl m 0 := by rw [hm]; exact (linesB_false h rl m 0).symm
      have eT2 : linesB true h rl m 0 ++ (⟨#[10]⟩ : ByteArray) = linesOf h rl h.length 0 := by rw [hm]; exact linesB_true h rl m 0
      obtain ⟨T, hT⟩ : ∃ T, T = linesOf h rl h.length 0 := ⟨_, rfl⟩
      obtain ⟨U, hU⟩ : ∃ U, U = linesB true h rl m 0 := ⟨_, rfl⟩
      rw [← hT] at hsz eT eT2 ⊢
      rw [← hU] at eT2
      have s1 : T.size = U.size + 1 := by rw [← eT2, ByteArray.size_append]; rfl
      have p1 : Ev (fun k => depend_Parse.f k T h.length) (h, rl, 0, 0, 0) := by
        refine parse_f hn (by omega) ?_
        exact parse_lines hn hO hl hr false m 0 ⟨#[]⟩ T [] (Int.le_refl _) (by omega) (by rw [eT]; exact ByteArray.empty_append.symm) (by omega) (Nat.le_refl _)
      have p2 : Ev (fun k => depend_Parse.f k U h.length) (h, rl, 0, 0, 0) := by
        refine parse_f hn (by omega) ?_
        exact parse_lines hn hO hl hr true m 0 ⟨#[]⟩ U [] (Int.le_refl _) (by omega) (by rw [hU]; exact ByteArray.empty_append.symm) (by omega) (Nat.le_refl _)
      have w1 : wrap64 ((T.size : Int) - 1) = (T.size : Int) - 1 := w64 (by omega) (by omega)
      have eU : T.extract 0 ((T.size : Int) - 1).toNat = U := by
        rw [← eT2]
        exact ByteArray.extract_append_eq_left (by rw [eT2]; omega)
      have q1 : (0 : Int) ≤ (T.size : Int) - 1 := by omega
      have q2 : (T.size : Int) - 1 ≤ (T.size : Int) := by omega
      have q3 : ((T.size : Int) == 0) = false := by rw [beq_eq_false_iff_ne]; omega
      have si := same_ints (l := h) (by omega)
      have ss := same_strings (l := rl) (by omega)
      rw [q3]
      refine ev_step (p1.bind (f := fun k a => (depend_Parse.f k U h.length).bind fun b => (if a.2.2.2.2 = 0 then (if b.2.2.2.2 = 0 then ((corporaref09_SameInts.f k a.1 h).bind fun t364 => (if t364 = true then ((corporaref09_SameInts.f k b.1 h).bind fun t365 => (if t365 = true then ((corporaref09_SameStrings.f k a.2.1 rl).bind fun t366 => (if t366 = true then ((corporaref09_SameStrings.f k b.2.1 rl).bind fun t367 => (if t367 = true then ((corporalaw09_awake.f k).bind fun t368 => (some t368)) else (some false))) else (some false))) else (some false))) else (some false))) else (some false)) else (some false)))
        (p2.bind (ev_pos rfl (ev_pos rfl (si.bind (ev_pos rfl (si.bind (ev_pos rfl (ss.bind (ev_pos rfl (ss.bind (ev_pos rfl (awake_ev.bind (Ev.now _)))))))))))))) fun k => ?_
      simp only [corporalaw09_DependRoundTrips.j1, Bool.false_eq_true, if_false]
      simp only [w1, q1, q2, if_true, eU]
  · refine ev_neg e2 ?_
    rw [e1]
    exact empty ⟨#[]⟩ rfl
end Go.Proofs.YtkanmafjjejpmaaDoor.Pure
