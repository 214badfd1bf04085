/- depend.Format and its reference give one result, and which. Condition: at most 100 heads. -/
import Derived.Test.YtkanmafjjejpmaaDoorM2
import Derived.Test.YtkanmafjjejpmaaDoorPx7
import Derived.Test.YtkanmafjjejpmaaDoorPx12
namespace Go.Proofs.YtkanmafjjejpmaaDoor.M
open Go.RowKit Go.Proofs.YtkanmafjjejpmaaDoorW.PrintWords Go.Proofs.YtkanmafjjejpmaaDoorW.PrintMore Go.Proofs.YtkanmafjjejpmaaDoor.P Go.Proofs.YtkanmafjjejpmaaDoor.X

theorem bytesOf_append (a b : ByteArray) : bytesOf (a ++ b) = bytesOf a ++ bytesOf b := by
  unfold bytesOf
  rw [ByteArray.data_append, Array.toList_append, List.map_append]
theorem strOf_bytesOf (s : ByteArray) : strOfNums (bytesOf s) = s := by
  have e : ((fun n : Int => UInt8.ofNat n.toNat) ∘ fun b : UInt8 => (b.toNat : Int)) = id := by funext b; simp
  unfold strOfNums bytesOf
  apply ByteArray.ext
  simp [e]
theorem ev_bindc {α : Type} {g : Nat → Option Bool} {F : Nat → Bool → Option α} {r : α} (h : Ev g false) (e : ∀ k, F k false = some r) : Ev (fun k => (g k).bind (F k)) r := h.bind (by simp only [e]; exact Ev.now _)

theorem toList_nil {r : ByteArray} : r.toList = ([] : List UInt8) ↔ r.size = 0 := by
  rw [ByteArray.toList_eq]
  constructor
  · intro h
    have h2 : r.data.toList.length = 0 := by rw [h]; rfl
    rwa [Array.length_toList] at h2
  · intro h
    have h2 : r.data.toList.length = 0 := by rw [Array.length_toList]; exact h
    exact List.length_eq_zero_iff.1 h2

/-- A line of the text. -/
def lineOf (h : List Int) (rl : List ByteArray) (i : Int) : ByteArray := ((itoaS (rd h i + 1) ++ (⟨#[9]⟩ : ByteArray)) ++ rdOf ByteArray.empty rl i) ++ (⟨#[10]⟩ : ByteArray)
/-- e lines from i on. -/
def linesOf (h : List Int) (rl : List ByteArray) : Nat → Int → ByteArray
  | 0, _ => ⟨#[]⟩
  | e + 1, i => lineOf h rl i ++ linesOf h rl e (i + 1)
/-- A relation that may be written. -/
def RelOk (r : ByteArray) : Prop := r.size = 0 ∨ NameOk r

theorem relOk_size {r : ByteArray} (h : RelOk r) : r.size ≤ 32 := by
  rcases h with h | h
  · omega
  · exact h.2.1
theorem itoaS_le {x : Int} (h0 : 0 ≤ x) (h1 : x ≤ 5000) : (itoaS x).size ≤ 21 := by
  rw [itoaS_size]
  exact Lib.itoa_length_le x (by omega) (by omega)
theorem line_size {h : List Int} {rl : List ByteArray} {i : Int} (h0 : 0 ≤ rd h i + 1) (h1 : rd h i + 1 ≤ 5000) (hr : RelOk (rdOf ByteArray.empty rl i)) : (lineOf h rl i).size ≤ 100 := by
  have a := itoaS_le h0 h1
  have b := relOk_size hr
  unfold lineOf
  simp only [ByteArray.size_append]
  have e1 : (⟨#[9]⟩ : ByteArray).size = 1 := rfl
  have e2 : (⟨#[10]⟩ : ByteArray).size = 1 := rfl
  omega

theorem digits_some {x : Int} (h0 : 0 ≤ x) (h1 : x ≤ 5000) : corporaref09_Digits.f x = some (itoaS x) := by
  unfold corporaref09_Digits.f
  rw [if_pos h0, if_pos (by omega)]
  unfold itoaS Lib.itoa
  rw [if_neg (by omega)]

section
variable {h : List Int} {rl : List ByteArray} (hn : h.length ≤ 100) (hO : Ok h) (hl : rl.length = h.length)
include hn hO hl

theorem format_l0 (e : Nat) : ∀ (i : Int) (s : ByteArray), 0 ≤ i → i + e = h.length → (s.size : Int) ≤ 100 * i →
    ∃ R : ByteArray × Int, Ev (fun k => depend_Format.l0 k h (bytesOf s) rl rl.length i) R ∧ Ev (fun k => corporaref09_Format.l0 k rl s h h.length i) R ∧
      (((∀ j : Int, i ≤ j → j < h.length → RelOk (rdOf ByteArray.empty rl j)) ∧ R = (s ++ linesOf h rl e i, 0)) ∨ ((∃ j : Int, i ≤ j ∧ j < h.length ∧ ¬ RelOk (rdOf ByteArray.empty rl j)) ∧ R = (⟨#[]⟩, 4))) := by
  induction e with
  | zero =>
    intro i s h0 hi hs
    refine ⟨(s, 0), ev_step (Ev.now _) fun k => ?_, ev_step (Ev.now _) fun k => ?_, .inl ⟨fun j a b => by omega, ?_⟩⟩
    · simp only [depend_Format.l0]
      rw [if_neg (by omega), strOf_bytesOf]
    · simp only [corporaref09_Format.l0]
      rw [if_neg (by omega)]
    · unfold linesOf
      congr 1
      apply ByteArray.ext
      simp [ByteArray.data_append]
  | succ e ih =>
    intro i s h0 hi hs
    have hb := hO.2.1 i h0 (by omega)
    obtain ⟨rel, hrel⟩ : ∃ rel, rel = rdOf ByteArray.empty rl i := ⟨_, rfl⟩
    have hw : wrap64 (rd h i + 1) = rd h i + 1 := w64 (by omega) (by omega)
    have hd := digits_some (x := rd h i + 1) (by omega) (by omega)
    have hi1 := itoaS_le (x := rd h i + 1) (by omega) (by omega)
    have t1 : (⟨#[9]⟩ : ByteArray).size = 1 := rfl
    have t2 : (⟨#[10]⟩ : ByteArray).size = 1 := rfl
    -- what both do where the relation may be written
    have go : RelOk rel → ∃ R : ByteArray × Int, Ev (fun k => depend_Format.l0 k h (bytesOf (s ++ lineOf h rl i)) rl rl.length (i + 1)) R ∧ Ev (fun k => corporaref09_Format.l0 k rl (s ++ lineOf h rl i) h h.length (i + 1)) R ∧
        (((∀ j : Int, i ≤ j → j < h.length → RelOk (rdOf ByteArray.empty rl j)) ∧ R = (s ++ linesOf h rl (e + 1) i, 0)) ∨ ((∃ j : Int, i ≤ j ∧ j < h.length ∧ ¬ RelOk (rdOf ByteArray.empty rl j)) ∧ R = (⟨#[]⟩, 4))) := fun hr => by
      have hls := line_size (h := h) (rl := rl) (i := i) (by omega) (by omega) (hrel ▸ hr)
      obtain ⟨R, a, b, c⟩ := ih (i + 1) (s ++ lineOf h rl i) (by omega) (by omega) (by rw [ByteArray.size_append]; omega)
      refine ⟨R, a, b, ?_⟩
      rcases c with ⟨c, d⟩ | ⟨⟨j, c1, c2, c3⟩, d⟩
      · refine .inl ⟨fun j j0 j1 => ?_, ?_⟩
        · by_cases ej : j = i
          · rw [ej, ← hrel]; exact hr
          · exact c j (by omega) j1
        · rw [d]
          simp only [linesOf, ByteArray.append_assoc]
      · exact .inr ⟨⟨j, by omega, c2, c3⟩, d⟩
    have pS : ∀ k, RelOk rel → (if (bytesOf s).length + 21 < 140737488355328 then ((some (bytesOf s ++ bytesOf (itoaS (wrap64 ((rd h i) + 1))) : List Int)).bind fun y144 => (if y144.length < 140737488355328 then ((some (y144 ++ [9] : List Int)).bind fun y147 => (if y147.length + rel.size < 140737488355328 then ((some (y147 ++ bytesOf rel : List Int)).bind fun y150 => (if y150.length < 140737488355328 then (depend_Format.l0 k h (y150 ++ [10]) rl rl.length (wrap64 (i + 1))) else (none))) else (none))) else (none))) else none) = depend_Format.l0 k h (bytesOf (s ++ lineOf h rl i)) rl rl.length (i + 1) := fun k hr => by
      have hr2 := relOk_size hr
      have l1 := bytesOf_length s
      rw [if_pos (by omega)]
      simp only [Option.bind_some, hw]
      have l2 : (bytesOf s ++ bytesOf (itoaS (rd h i + 1))).length = s.size + (itoaS (rd h i + 1)).size := by rw [List.length_append, bytesOf_length, bytesOf_length]
      have l3 : (bytesOf s ++ bytesOf (itoaS (rd h i + 1)) ++ [9]).length = s.size + (itoaS (rd h i + 1)).size + 1 := by rw [List.length_append, l2]; rfl
      have l4 : (bytesOf s ++ bytesOf (itoaS (rd h i + 1)) ++ [9] ++ bytesOf rel).length = s.size + (itoaS (rd h i + 1)).size + 1 + rel.size := by rw [List.length_append, l3, bytesOf_length]
      rw [if_pos (by omega), if_pos (by omega), if_pos (by omega), w64 (x := i + 1) (by omega) (by omega)]
      congr 1
      unfold lineOf
      rw [← hrel]
      simp only [bytesOf_append, List.append_assoc]
      rfl
    have rS : ∀ k, RelOk rel → ((corporaref09_Digits.f (wrap64 ((rd h i) + 1))).bind fun t180 => (if t180.size + 1 ≤ 9223372036854775807 then (if (t180 ++ (⟨#[9]⟩ : ByteArray)).size + rel.size ≤ 9223372036854775807 then (if ((t180 ++ (⟨#[9]⟩ : ByteArray)) ++ rel).size + 1 ≤ 9223372036854775807 then (if s.size + (((t180 ++ (⟨#[9]⟩ : ByteArray)) ++ rel) ++ (⟨#[10]⟩ : ByteArray)).size ≤ 9223372036854775807 then (corporaref09_Format.l0 k rl (s ++ (((t180 ++ (⟨#[9]⟩ : ByteArray)) ++ rel) ++ (⟨#[10]⟩ : ByteArray))) h (h.length : Int) (wrap64 (i + 1))) else (none)) else (none)) else (none)) else (none))) = corporaref09_Format.l0 k rl (s ++ lineOf h rl i) h h.length (i + 1) := fun k hr => by
      have hr2 := relOk_size hr
      rw [hw, hd]
      simp only [Option.bind_some, ByteArray.size_append, t1, t2]
      rw [if_pos (by omega), if_pos (by omega), if_pos (by omega), if_pos (by omega), w64 (x := i + 1) (by omega) (by omega)]
      unfold lineOf
      rw [← hrel]
    by_cases c : rel.toList = ([] : List UInt8)
    · have hr : RelOk rel := .inl (toList_nil.1 c)
      obtain ⟨R, a, b, d⟩ := go hr
      refine ⟨R, ev_step a fun k => ?_, ev_step b fun k => ?_, d⟩
      · simp only [depend_Format.l0]
        rw [if_pos (by omega), if_pos h0, if_pos (by omega), ← hrel, if_pos c, if_pos (by omega)]
        exact pS k hr
      · simp only [corporaref09_Format.l0]
        rw [if_pos (by omega), if_pos h0, if_pos (by omega), if_pos (by omega), ← hrel, if_pos c]
        exact rS k hr
    · obtain ⟨b, hb0, hb1, hb2⟩ := name_ev rel
      cases b with
      | true =>
        have hr : RelOk rel := .inr (hb0.1 rfl)
        obtain ⟨R, a, b, d⟩ := go hr
        refine ⟨R, ev_step (hb1.bind (f := fun k t => if t = true then depend_Format.l0 k h (bytesOf (s ++ lineOf h rl i)) rl rl.length (i + 1) else some (⟨#[]⟩, 4)) (ev_pos rfl a)) fun k => ?_, ev_step (hb2.bind (f := fun k t => if t = true then corporaref09_Format.l0 k rl (s ++ lineOf h rl i) h h.length (i + 1) else some (⟨#[]⟩, 4)) (ev_pos rfl b)) fun k => ?_, d⟩
        · simp only [depend_Format.l0]
          rw [if_pos (by omega), if_pos h0, if_pos (by omega), ← hrel, if_neg c]
          refine congrArg _ (funext fun t => ?_)
          by_cases ct : t = true
          · rw [if_pos ct, if_pos ct, if_pos (by omega)]; exact pS k hr
          · rw [if_neg ct, if_neg ct]
        · simp only [corporaref09_Format.l0]
          rw [if_pos (by omega), if_pos h0, if_pos (by omega), if_pos (by omega), ← hrel, if_neg c]
          refine congrArg _ (funext fun t => ?_)
          by_cases ct : t = true
          · rw [if_pos ct, if_pos ct]; exact rS k hr
          · rw [if_neg ct, if_neg ct]
      | false =>
        refine ⟨(⟨#[]⟩, 4), ?_, ?_, .inr ⟨⟨i, by omega, by omega, ?_⟩, rfl⟩⟩
        · refine ev_step (ev_bindc hb1 (F := ?F) ?e) fun k => ?h
          case h =>
            simp only [depend_Format.l0]
            rw [if_pos (by omega), if_pos h0, if_pos (by omega), ← hrel, if_neg c]
          case e => intro k; simp
        · refine ev_step (ev_bindc hb2 (F := ?F2) ?e2) fun k => ?h2
          case h2 =>
            simp only [corporaref09_Format.l0]
            rw [if_pos (by omega), if_pos h0, if_pos (by omega), if_pos (by omega), ← hrel, if_neg c]
          case e2 => intro k; simp
        · rw [← hrel]
          rintro (q | q)
          · exact c (toList_nil.2 q)
          · exact absurd (hb0.2 q) (by simp)
end

/-- Both writers, and what they write. -/
theorem formats_ev {h : List Int} {rl : List ByteArray} (hn : h.length ≤ 100) : ∃ R : ByteArray × Int, Ev (fun k => depend_Format.f k h rl) R ∧ Ev (fun k => corporaref09_Format.f k h rl) R ∧
    ((Ok h ∧ rl.length = h.length ∧ (∀ j : Int, 0 ≤ j → j < h.length → RelOk (rdOf ByteArray.empty rl j)) ∧ R = (linesOf h rl h.length 0, 0)) ∨
      (¬ (Ok h ∧ rl.length = h.length ∧ ∀ j : Int, 0 ≤ j → j < h.length → RelOk (rdOf ByteArray.empty rl j)) ∧ R.1 = ⟨#[]⟩ ∧ R.2 ≠ 0)) := by
  obtain ⟨r, h1, h2, h3⟩ := checks_ev (h := h) (by omega)
  have hk := chk_ok (h := h) (by omega) h1
  by_cases c : r.2 = 0
  · have hO := hk.1 c
    by_cases cl : rl.length = h.length
    · obtain ⟨R, a, b, d⟩ := format_l0 hn hO cl h.length 0 ⟨#[]⟩ (Int.le_refl _) (by omega) (by show ((0 : Nat) : Int) ≤ 100 * 0; omega)
      refine ⟨R, h2.bind (ev_pos c (ev_pos (by omega) a)), h3.bind (ev_pos c (ev_pos (by omega) b)), ?_⟩
      rcases d with ⟨d, e⟩ | ⟨⟨j, d1, d2, d3⟩, e⟩
      · refine .inl ⟨hO, cl, d, ?_⟩
        rw [e]
        congr 1
      · refine .inr ⟨fun q => d3 (q.2.2 j d1 d2), by rw [e], by rw [e]; simp⟩
    · exact ⟨(⟨#[]⟩, 15), h2.bind (ev_pos c (ev_neg (by omega) (Ev.now _))), h3.bind (ev_pos c (ev_neg (by omega) (Ev.now _))), .inr ⟨fun q => cl q.2.1, rfl, by simp⟩⟩
  · exact ⟨(⟨#[]⟩, r.2), h2.bind (ev_neg c (Ev.now _)), h3.bind (ev_neg c (Ev.now _)), .inr ⟨fun q => c (hk.2 q.1), rfl, c⟩⟩
end Go.Proofs.YtkanmafjjejpmaaDoor.M
