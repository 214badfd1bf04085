/- Heads and relations of one text are valid in a corpus exactly if they have a text, unless all are roots without relations. Conditions: none beyond the statement's own. -/
import Derived.Test.YtkanmafjjejpmaaDoorWAll
import Derived.Test.YtkanmafjjejpmaaDoorPx4
import Derived.Test.YtkanmafjjejpmaaDoorPx7
import Derived.Test.YtkanmafjjejpmaaDoorPx20
import Derived.Test.YtkanmafjjejpmaaDoorPx23
import Derived.Test.YtkanmafjjejpmaaDoorPx24
import Derived.Test.YtkanmafjjejpmaaDoorPx25
import Derived.Test.YtkanmafjjejpmaaDoorPx26
import Derived.Test.YtkanmafjjejpmaaDoorPx27
import Derived.Test.YtkanmafjjejpmaaDoorPx28
import Derived.Test.YtkanmafjjejpmaaDoorPx32
import Derived.Test.YtkanmafjjejpmaaDoorPx34
import Derived.Test.YtkanmafjjejpmaaDoorPx35
import Derived.Test.YtkanmafjjejpmaaDoorM9
namespace Go.Proofs.YtkanmafjjejpmaaDoor.M
open Go.RowKit Go.Proofs.YtkanmafjjejpmaaDoor.P Go.Proofs.YtkanmafjjejpmaaDoor.X Go.Proofs.YtkanmafjjejpmaaDoorW.PrintWords Go.Proofs.YtkanmafjjejpmaaDoorW.PrintLast

theorem toList_nil {r : ByteArray} : r.toList = ([] : List UInt8) ↔ r.size = 0 := by
  rw [ByteArray.toList_eq]
  constructor
  · intro h
    have h2 : r.data.toList.length = 0 := by rw [h]; rfl
    rwa [Array.length_toList] at h2
  · intro h
    have h2 : r.data.toList.length = 0 := by rw [Array.length_toList]; exact h
    exact List.length_eq_zero_iff.1 h2

theorem w01 : wrap64 (0 + 1) = 1 := w64 (by omega) (by omega)
theorem w11 : wrap64 (((1 : Nat) : Int) - 1) = 0 := w64 (by omega) (by omega)
/-- A relation that may be written. -/
def RelOk (r : ByteArray) : Prop := r.size = 0 ∨ NameOk r
theorem relOk_size {r : ByteArray} (h : RelOk r) : r.size ≤ 32 := by
  rcases h with h | h
  · omega
  · exact h.2.1
theorem itoaS_le {x : Int} (h0 : 0 ≤ x) (h1 : x ≤ 5000) : (itoaS x).size ≤ 21 := by
  rw [itoaS_size]
  exact Lib.itoa_length_le x (by omega) (by omega)
theorem ev_bindc {α : Type} {g : Nat → Option Bool} {F : Nat → Bool → Option α} {r : α} (h : Ev g false) (e : ∀ k, F k false = some r) : Ev (fun k => (g k).bind (F k)) r := h.bind (by simp only [e]; exact Ev.now _)

/-! ### the writer -/
section
variable {h : List Int} {rl : List ByteArray} (hn : h.length ≤ 100) (hO : Ok h) (hl : rl.length = h.length)
include hn hO hl
theorem form_l0 (e : Nat) : ∀ (i : Int) (xs : List Int), 0 ≤ i → i + e = h.length → (xs.length : Int) ≤ 100 * i →
    ∃ R : ByteArray × Int, Ev (fun k => depend_Format.l0 k h xs rl rl.length i) R ∧ (R.2 = 0 ↔ ∀ j : Int, i ≤ j → j < h.length → RelOk (rdOf ByteArray.empty rl j)) := by
  induction e with
  | zero =>
    intro i xs h0 hi hs
    refine ⟨(strOfNums xs, 0), ev_step (Ev.now _) fun k => ?_, ⟨fun _ j a b => by omega, fun _ => rfl⟩⟩
    simp only [depend_Format.l0]
    rw [if_neg (by omega)]
  | succ e ih =>
    intro i xs h0 hi hs
    have hb := hO.2.1 i h0 (by omega)
    obtain ⟨rel, hrel⟩ : ∃ rel, rel = rdOf ByteArray.empty rl i := ⟨_, rfl⟩
    have hw : wrap64 (rd h i + 1) = rd h i + 1 := w64 (by omega) (by omega)
    have hi1 := itoaS_le (x := rd h i + 1) (by omega) (by omega)
    obtain ⟨ys, hys⟩ : ∃ ys : List Int, ys = xs ++ bytesOf (itoaS (rd h i + 1)) ++ [9] ++ bytesOf rel ++ [10] := ⟨_, rfl⟩
    have l2 : (xs ++ bytesOf (itoaS (rd h i + 1))).length = xs.length + (itoaS (rd h i + 1)).size := by rw [List.length_append, bytesOf_length]
    have l3 : (xs ++ bytesOf (itoaS (rd h i + 1)) ++ [9]).length = xs.length + (itoaS (rd h i + 1)).size + 1 := by rw [List.length_append, l2]; rfl
    have l4 : (xs ++ bytesOf (itoaS (rd h i + 1)) ++ [9] ++ bytesOf rel).length = xs.length + (itoaS (rd h i + 1)).size + 1 + rel.size := by rw [List.length_append, l3, bytesOf_length]
    have l5 : ys.length = xs.length + (itoaS (rd h i + 1)).size + 1 + rel.size + 1 := by rw [hys, List.length_append, l4]; rfl
    have pS : ∀ k, RelOk rel → (if xs.length + 21 < 140737488355328 then ((some (xs ++ bytesOf (itoaS (wrap64 ((rd h i) + 1))) : List Int)).bind fun y144 => (if y144.length < 140737488355328 then ((some (y144 ++ [9] : List Int)).bind fun y147 => (if y147.length + rel.size < 140737488355328 then ((some (y147 ++ bytesOf rel : List Int)).bind fun y150 => (if y150.length < 140737488355328 then (depend_Format.l0 k h (y150 ++ [10]) rl rl.length (wrap64 (i + 1))) else (none))) else (none))) else (none))) else (none)) = depend_Format.l0 k h ys rl rl.length (i + 1) := fun k hr => by
      have hr2 := relOk_size hr
      rw [if_pos (by omega)]
      simp only [Option.bind_some, hw]
      rw [if_pos (by omega), if_pos (by omega), if_pos (by omega), w64 (x := i + 1) (by omega) (by omega), hys]
    have go : RelOk rel → ∃ R : ByteArray × Int, Ev (fun k => depend_Format.l0 k h ys rl rl.length (i + 1)) R ∧ (R.2 = 0 ↔ ∀ j : Int, i ≤ j → j < h.length → RelOk (rdOf ByteArray.empty rl j)) := fun hr => by
      have hr2 := relOk_size hr
      obtain ⟨R, a, b⟩ := ih (i + 1) ys (by omega) (by omega) (by omega)
      refine ⟨R, a, b.trans ⟨fun p j j0 j1 => ?_, fun p j j0 j1 => p j (by omega) j1⟩⟩
      by_cases ej : j = i
      · rw [ej, ← hrel]; exact hr
      · exact p j (by omega) j1
    by_cases c : rel.toList = ([] : List UInt8)
    · have hr : RelOk rel := .inl (toList_nil.1 c)
      obtain ⟨R, a, d⟩ := go hr
      refine ⟨R, ev_step a fun k => ?_, d⟩
      simp only [depend_Format.l0]
      rw [if_pos (by omega), if_pos h0, if_pos (by omega), ← hrel, if_pos c, if_pos (by omega)]
      exact pS k hr
    · obtain ⟨b, hb0, hb1⟩ := name_ev rel
      cases b with
      | true =>
        have hr : RelOk rel := .inr (hb0.1 rfl)
        obtain ⟨R, a, d⟩ := go hr
        refine ⟨R, ev_step (hb1.bind (f := fun k t => if t = true then depend_Format.l0 k h ys rl rl.length (i + 1) else some (⟨#[]⟩, 4)) (ev_pos rfl a)) fun k => ?_, d⟩
        simp only [depend_Format.l0]
        rw [if_pos (by omega), if_pos h0, if_pos (by omega), ← hrel, if_neg c]
        refine congrArg _ (funext fun t => ?_)
        by_cases ct : t = true
        · rw [if_pos ct, if_pos ct, if_pos (by omega)]; exact pS k hr
        · rw [if_neg ct, if_neg ct]
      | false =>
        refine ⟨(⟨#[]⟩, 4), ?_, ⟨fun p => (by cases p), fun p => ?_⟩⟩
        · refine ev_step (ev_bindc hb1 (F := ?F) ?e) fun k => ?h
          case h =>
            simp only [depend_Format.l0]
            rw [if_pos (by omega), if_pos h0, if_pos (by omega), ← hrel, if_neg c]
          case e => intro k; simp
        · have q := p i (Int.le_refl _) (by omega)
          rw [← hrel] at q
          rcases q with q | q
          · exact absurd (toList_nil.2 q) c
          · exact absurd (hb0.2 q) (by simp)
end

theorem form_ev {h : List Int} {rl : List ByteArray} (hn : h.length ≤ 100) : ∃ R : ByteArray × Int, Ev (fun k => depend_Format.f k h rl) R ∧
    (R.2 = 0 ↔ Ok h ∧ rl.length = h.length ∧ ∀ j : Int, 0 ≤ j → j < h.length → RelOk (rdOf ByteArray.empty rl j)) := by
  obtain ⟨r, h1, h2⟩ := check_ev (h := h) (by omega)
  have hk := chk_ok (h := h) (by omega) h1
  by_cases c : r.2 = 0
  · have hO := hk.1 c
    by_cases cl : rl.length = h.length
    · obtain ⟨R, a, d⟩ := form_l0 hn hO cl h.length 0 [] (Int.le_refl _) (by omega) (by simp)
      exact ⟨R, h2.bind (ev_pos c (ev_pos (by omega) a)), d.trans ⟨fun p => ⟨hO, cl, p⟩, fun p => p.2.2⟩⟩
    · exact ⟨(⟨#[]⟩, 15), h2.bind (ev_pos c (ev_neg (by omega) (Ev.now _))), ⟨fun p => (by cases p), fun p => absurd p.2.1 cl⟩⟩
  · exact ⟨(⟨#[]⟩, r.2), h2.bind (ev_neg c (Ev.now _)), ⟨fun p => absurd p c, fun p => absurd (hk.2 p.1) c⟩⟩

/-! ### the parts of the corpus -/
def wordL : List S36 := [⟨(⟨#[119, 111, 114, 100]⟩ : ByteArray), false⟩]
def toksL (n : Nat) : List (List ByteArray) := List.replicate n [(⟨#[]⟩ : ByteArray)]
def textL (n : Int) : List S40 := [⟨(⟨#[116]⟩ : ByteArray), 0, n, ([] : List S95)⟩]

theorem word_name : Ev (fun k => markup_ValidName.f k (⟨#[119, 111, 114, 100]⟩ : ByteArray)) true := Ev.of (fun k => markup_ValidName.mono _ k) (k := 20) (by decide +kernel)
theorem t_name : Ev (fun k => markup_ValidName.f k (⟨#[116]⟩ : ByteArray)) true := Ev.of (fun k => markup_ValidName.mono _ k) (k := 20) (by decide +kernel)

theorem attributes_ev (l1 : List (List ByteArray)) (l2 : List S40) (l3 : List S77) (l4 : List S82) (l5 : List Int) (l6 : List ByteArray) : Ev (fun k => corpus_attributes.f k wordL l1 l2 l3 l4 l5 l6) (0, 0) := by
  unfold corpus_attributes.f
  refine ev_neg (by simp [wordL]) (ev_neg (by simp [wordL]) ?_)
  refine ev_step (f := fun k => (markup_ValidName.f k (⟨#[119, 111, 114, 100]⟩ : ByteArray)).bind fun t => if t = true then corpus_attributes.l1 k 0 wordL 1 0 [] 0 0 wordL l1 l2 l3 l4 l5 l6 (⟨#[119, 111, 114, 100]⟩ : ByteArray) false else some (0, 4)) (word_name.bind (ev_pos rfl ?_)) fun k => ?_
  · refine ev_step (f := fun k => corpus_attributes.l0 k wordL 1 1 wordL l1 l2 l3 l4 l5 l6) ?_ fun k => ?_
    · refine ev_step (Ev.now _) fun k => ?_
      simp only [corpus_attributes.l0]
      rw [if_neg (by omega)]
    · simp only [corpus_attributes.l1]
      rw [if_neg (by omega), w01]
  · simp only [corpus_attributes.l0]
    rw [if_pos (by simp [wordL]), if_pos (by omega), if_pos (by simp [wordL])]
    refine congrArg _ (funext fun t => ?_)
    by_cases ct : t = true
    · rw [if_pos ct, if_pos ct, if_pos (by omega)]
      rfl
    · rw [if_neg ct, if_neg ct]

theorem value_nil : V.valueE (⟨#[]⟩ : ByteArray) = 0 := by decide +kernel

theorem tokens_l0 {n : Nat} (hn : n ≤ 4096) (l2 : List S40) (l3 : List S77) (l4 : List S82) (l5 : List Int) (l6 : List ByteArray) (e : Nat) : ∀ i : Int, 0 ≤ i → i + e = n →
    Ev (fun k => corpus_tokens.l0 k (toksL n) n i wordL (toksL n) l2 l3 l4 l5 l6) (0, 0) := by
  have hlen : (toksL n).length = n := List.length_replicate
  induction e with
  | zero =>
    intro i h0 hi
    refine ev_step (Ev.now _) fun k => ?_
    simp only [corpus_tokens.l0]
    rw [if_neg (by omega)]
  | succ e ih =>
    intro i h0 hi
    have hrd : rd_L6 (toksL n) i = [(⟨#[]⟩ : ByteArray)] := by
      unfold rd_L6 toksL
      rw [List.getD_eq_getElem?_getD, List.getElem?_replicate, if_pos (by omega)]
      rfl
    have hval : ∀ k, corpus_errorOfValue.f k ((rd_T36 wordL 0).f0) ((rd_T36 wordL 0).f1) (rdOf ByteArray.empty [(⟨#[]⟩ : ByteArray)] 0) = some 0 := fun k => by
      unfold corpus_errorOfValue.f
      rw [if_neg (by simp [wordL, rd_T36])]
      show (markup_ValidValue.f (⟨#[]⟩ : ByteArray)).bind (fun t => some t) = some 0
      unfold markup_ValidValue.f
      rw [value_nil]
      rfl
    refine ev_step (f := fun k => corpus_tokens.l1 k i (toksL n) n i [(⟨#[]⟩ : ByteArray)] 1 0 wordL (toksL n) l2 l3 l4 l5 l6) ?_ fun k => ?_
    · refine ev_step (f := fun k => corpus_tokens.l1 k i (toksL n) n i [(⟨#[]⟩ : ByteArray)] 1 1 wordL (toksL n) l2 l3 l4 l5 l6) ?_ fun k => ?_
      · refine ev_step (ih (i + 1) (by omega) (by omega)) fun k => ?_
        simp only [corpus_tokens.l1]
        rw [if_neg (by omega), w64 (by omega) (by omega)]
      · simp only [corpus_tokens.l1]
        rw [if_pos (by omega), if_pos (by omega), if_pos (by simp), if_pos (by simp [wordL]), hval k, w01]
        rfl
    · simp only [corpus_tokens.l0]
      rw [if_pos (by omega), if_pos h0, if_pos (by omega), hrd, if_pos (by simp [wordL])]
      rfl
theorem tokens_ev {n : Nat} (hn : n ≤ 4096) (l2 : List S40) (l3 : List S77) (l4 : List S82) (l5 : List Int) (l6 : List ByteArray) : Ev (fun k => corpus_tokens.f k wordL (toksL n) l2 l3 l4 l5 l6) (0, 0) := by
  have hlen : (toksL n).length = n := List.length_replicate
  unfold corpus_tokens.f
  refine ev_neg (by omega) ?_
  rw [hlen]
  exact tokens_l0 hn l2 l3 l4 l5 l6 n 0 (by omega) (by omega)

theorem texts_ev {n : Nat} (h1 : 1 ≤ n) (hn : n ≤ 4096) (l3 : List S77) (l4 : List S82) (l5 : List Int) (l6 : List ByteArray) : Ev (fun k => corpus_texts.f k wordL (toksL n) (textL n) l3 l4 l5 l6) (0, 0) := by
  have hlen : (toksL n).length = n := List.length_replicate
  have hl2 : (textL (n : Int)).length = 1 := rfl
  unfold corpus_texts.f
  refine ev_neg (by omega) (ev_neg (by rw [hlen, hl2]; simp; omega) ?_)
  have f0 : (rd_T40 (textL n) 0).f0 = (⟨#[116]⟩ : ByteArray) := rfl
  have f1 : (rd_T40 (textL n) 0).f1 = 0 := rfl
  have f2 : (rd_T40 (textL n) 0).f2 = n := rfl
  have f3 : (rd_T40 (textL n) 0).f3 = [] := rfl
  have hfind : Ev (fun k => corpus_FindText.f k wordL (toksL n) (textL n) l3 l4 l5 l6 (⟨#[116]⟩ : ByteArray)) 0 := by
    unfold corpus_FindText.f
    refine ev_step (Ev.now _) fun k => ?_
    simp only [corpus_FindText.l0]
    rw [if_pos (by omega), if_pos (by omega), if_pos (by omega), f0, if_pos rfl]
  have hpairs : Ev (fun k => corpus_errorOfPairs.f k ([] : List S95)) 0 := by
    unfold corpus_errorOfPairs.f
    refine ev_neg (by simp) (ev_step (Ev.now _) fun k => ?_)
    simp only [corpus_errorOfPairs.l0]
    rw [if_neg (by simp)]
  have h1' : Ev (fun k => corpus_texts.j1 k 0 (textL n) 1 0 false wordL (toksL n) (textL n) l3 l4 l5 l6 (⟨#[116]⟩ : ByteArray) 0 n []) (0, 0) := by
    refine ev_step (f := fun k => corpus_texts.j2 k 0 (textL n) 1 0 false wordL (toksL n) (textL n) l3 l4 l5 l6 (⟨#[116]⟩ : ByteArray) 0 n []) ?_ fun k => ?_
    · refine ev_step (f := fun k => (corpus_errorOfPairs.f k ([] : List S95)).bind fun t => if t = 0 then corpus_texts.l0 k n (textL n) 1 1 wordL (toksL n) (textL n) l3 l4 l5 l6 else some (0, t)) (hpairs.bind (ev_pos rfl ?_)) fun k => ?_
      · refine ev_step (Ev.now _) fun k => ?_
        simp only [corpus_texts.l0]
        rw [if_neg (by omega)]
      · simp only [corpus_texts.j2, Bool.false_eq_true, if_false, w01]
    · simp only [corpus_texts.j1, Bool.false_eq_true, if_false]
      rw [hl2, hlen, w11, if_pos rfl, bne_self_eq_false]
  refine ev_step (f := fun k => (markup_ValidName.f k (⟨#[116]⟩ : ByteArray)).bind fun t => if t = true then (corpus_FindText.f k wordL (toksL n) (textL n) l3 l4 l5 l6 (⟨#[116]⟩ : ByteArray)).bind (fun t2 => if t2 < 0 then some (0, 5) else corpus_texts.j1 k 0 (textL n) 1 0 false wordL (toksL n) (textL n) l3 l4 l5 l6 (⟨#[116]⟩ : ByteArray) 0 n []) else some (0, 4)) (t_name.bind (ev_pos rfl (hfind.bind (ev_neg (by omega) h1')))) fun k => ?_
  simp only [corpus_texts.l0]
  rw [hl2, if_pos (by omega), if_pos (by omega), if_pos (by omega), f0, f1, f2, f3]
  refine congrArg _ (funext fun t => ?_)
  by_cases ct : t = true
  · rw [if_pos ct, if_pos ct]
    refine congrArg _ (funext fun t2 => ?_)
    by_cases c2 : t2 < 0
    · rw [if_pos c2, if_pos c2]
    · rw [if_neg c2, if_neg c2, if_pos rfl, if_neg (by omega), hlen, show decide ((n : Int) > (n : Int)) = false from decide_eq_false (by omega)]
      rfl
  · rw [if_neg ct, if_neg ct]

/-! ### heads -/
/-- All are roots without relations. -/
def Bare (h : List Int) (rl : List ByteArray) : Prop := ∀ j : Int, 0 ≤ j → j < h.length → rd h j = -1 ∧ (rdOf ByteArray.empty rl j).toList = ([] : List UInt8)

theorem noHeads_l0 {h : List Int} {rl : List ByteArray} (hn : h.length ≤ 4096) (hl : rl.length = h.length) (e : Nat) : ∀ i : Int, 0 ≤ i → i + e = h.length →
    ∃ b : Bool, (b = true ↔ ∀ j : Int, i ≤ j → j < h.length → rd h j = -1 ∧ (rdOf ByteArray.empty rl j).toList = ([] : List UInt8)) ∧ Ev (fun k => corpus_noHeads.l0 k rl h h.length i) b := by
  induction e with
  | zero =>
    intro i h0 hi
    refine ⟨true, ⟨fun _ j a b => by omega, fun _ => rfl⟩, ev_step (Ev.now _) fun k => ?_⟩
    simp only [corpus_noHeads.l0]
    rw [if_neg (by omega)]
  | succ e ih =>
    intro i h0 hi
    by_cases c1 : rd h i = -1
    · by_cases c2 : (rdOf ByteArray.empty rl i).toList = ([] : List UInt8)
      · obtain ⟨b, hb, he⟩ := ih (i + 1) (by omega) (by omega)
        refine ⟨b, hb.trans ⟨fun p j a d => ?_, fun p j a d => p j (by omega) d⟩, ev_step he fun k => ?_⟩
        · by_cases ej : j = i
          · rw [ej]; exact ⟨c1, c2⟩
          · exact p j (by omega) d
        · simp only [corpus_noHeads.l0]
          rw [if_pos (by omega), if_pos h0, if_pos (by omega), if_pos c1, if_pos (by omega), if_pos c2, w64 (by omega) (by omega)]
      · refine ⟨false, ⟨fun p => (by cases p), fun p => absurd (p i (Int.le_refl _) (by omega)).2 c2⟩, ev_step (Ev.now _) fun k => ?_⟩
        simp only [corpus_noHeads.l0]
        rw [if_pos (by omega), if_pos h0, if_pos (by omega), if_pos c1, if_pos (by omega), if_neg c2]
    · refine ⟨false, ⟨fun p => (by cases p), fun p => absurd (p i (Int.le_refl _) (by omega)).1 c1⟩, ev_step (Ev.now _) fun k => ?_⟩
      simp only [corpus_noHeads.l0]
      rw [if_pos (by omega), if_pos h0, if_pos (by omega), if_neg c1]

theorem textAt_ev {h : List Int} {rl : List ByteArray} (l3 : List S77) (l4 : List S82) {i : Int} (h0 : 0 ≤ i) (h1 : i < h.length) : Ev (fun k => corpus_TextAt.f k wordL (toksL h.length) (textL h.length) l3 l4 h rl i) 0 := by
  unfold corpus_TextAt.f
  refine ev_step (Ev.now _) fun k => ?_
  simp only [corpus_TextAt.l0]
  rw [show (textL (h.length : Int)).length = 1 from rfl, if_pos (by omega), if_pos (by omega), if_pos (by omega), show (rd_T40 (textL (h.length : Int)) 0).f1 = 0 from rfl, show (rd_T40 (textL (h.length : Int)) 0).f2 = h.length from rfl, if_pos h0, if_pos h1]

section
variable {h : List Int} {rl : List ByteArray} (hn : h.length ≤ 4096) (hl : rl.length = h.length) (l3 : List S77) (l4 : List S82)
include hn hl
theorem heads_l0 {cyc : List Bool} (hc : cyc.length = h.length) (e : Nat) : ∀ i : Int, 0 ≤ i → i + e = h.length →
    ∃ r : Int × Int, (r.2 = 0 ↔ ∀ j : Int, i ≤ j → j < h.length → (-1 ≤ rd h j ∧ rd h j < h.length) ∧ RelOk (rdOf ByteArray.empty rl j) ∧ rdOf false cyc j = false) ∧
      Ev (fun k => corpus_heads.l0 k cyc h h.length i wordL (toksL h.length) (textL h.length) l3 l4 h rl) r := by
  induction e with
  | zero =>
    intro i h0 hi
    refine ⟨(0, 0), ⟨fun _ j a b => by omega, fun _ => rfl⟩, ev_step (Ev.now _) fun k => ?_⟩
    simp only [corpus_heads.l0]
    rw [if_neg (by omega)]
  | succ e ih =>
    intro i h0 hi
    have hta := textAt_ev (h := h) (rl := rl) l3 l4 h0 (by omega)
    -- behind the test of the relation
    have h4 : ∃ r : Int × Int, (r.2 = 0 ↔ rdOf false cyc i = false ∧ ∀ j : Int, i + 1 ≤ j → j < h.length → (-1 ≤ rd h j ∧ rd h j < h.length) ∧ RelOk (rdOf ByteArray.empty rl j) ∧ rdOf false cyc j = false) ∧
        Ev (fun k => corpus_heads.j4 k cyc i h h.length i false wordL (toksL h.length) (textL h.length) l3 l4 h rl) r := by
      cases c : rdOf false cyc i with
      | true =>
        refine ⟨(i, 12), ⟨fun p => (by cases p), fun p => (by cases p.1)⟩, ev_step (Ev.now _) fun k => ?_⟩
        simp only [corpus_heads.j4, Bool.false_eq_true, if_false]
        rw [if_pos h0, if_pos (by omega), if_pos c]
      | false =>
        obtain ⟨r, a, b⟩ := ih (i + 1) (by omega) (by omega)
        refine ⟨r, a.trans ⟨fun p => ⟨rfl, p⟩, fun p => p.2⟩, ev_step b fun k => ?_⟩
        simp only [corpus_heads.j4, Bool.false_eq_true, if_false]
        rw [if_pos h0, if_pos (by omega), if_neg (by rw [c]; simp), w64 (by omega) (by omega)]
    -- behind the test of the range
    have h3 : ∃ r : Int × Int, (r.2 = 0 ↔ RelOk (rdOf ByteArray.empty rl i) ∧ rdOf false cyc i = false ∧ ∀ j : Int, i + 1 ≤ j → j < h.length → (-1 ≤ rd h j ∧ rd h j < h.length) ∧ RelOk (rdOf ByteArray.empty rl j) ∧ rdOf false cyc j = false) ∧
        Ev (fun k => corpus_heads.j3 k cyc i h h.length i false wordL (toksL h.length) (textL h.length) l3 l4 h rl) r := by
      obtain ⟨r4, a4, b4⟩ := h4
      obtain ⟨rel, hrel⟩ : ∃ rel, rel = rdOf ByteArray.empty rl i := ⟨_, rfl⟩
      by_cases c : rel.toList = ([] : List UInt8)
      · refine ⟨r4, a4.trans ⟨fun p => ⟨by rw [← hrel]; exact .inl (toList_nil.1 c), p⟩, fun p => p.2⟩, ev_step b4 fun k => ?_⟩
        simp only [corpus_heads.j3, Bool.false_eq_true, if_false]
        rw [if_pos h0, if_pos (by omega), ← hrel, if_pos c]
      · obtain ⟨b, hb0, hb1⟩ := name_ev rel
        cases b with
        | true =>
          refine ⟨r4, a4.trans ⟨fun p => ⟨by rw [← hrel]; exact .inr (hb0.1 rfl), p⟩, fun p => p.2⟩, ev_step (hb1.bind (f := ?FF1) ?bb1) fun k => ?hh1⟩
          case hh1 =>
            simp only [corpus_heads.j3, Bool.false_eq_true, if_false]
            rw [if_pos h0, if_pos (by omega), ← hrel, if_neg c]
          case bb1 => exact b4
        | false =>
          refine ⟨(i, 4), ⟨fun p => (by cases p), fun p => ?_⟩, ev_step (hb1.bind (f := ?FF2) ?bb2) fun k => ?hh2⟩
          case hh2 =>
            simp only [corpus_heads.j3, Bool.false_eq_true, if_false]
            rw [if_pos h0, if_pos (by omega), ← hrel, if_neg c]
          case bb2 =>
            refine ev_step (Ev.now _) fun k => ?_
            simp only [corpus_heads.j4, Bool.not_false, if_true]
          rcases p.1 with q | q
          · exact absurd (toList_nil.2 (hrel ▸ q)) c
          · exact absurd (hb0.2 (hrel ▸ q)) (by simp)
    have hlen1 : (0 : Int) < ((textL (h.length : Int)).length : Int) := by show (0 : Int) < ((1 : Nat) : Int); omega
    have g1 : (rd_T40 (textL (h.length : Int)) 0).f1 = 0 := rfl
    have g2 : (rd_T40 (textL (h.length : Int)) 0).f2 = h.length := rfl
    by_cases cr : -1 ≤ rd h i ∧ rd h i < h.length
    · obtain ⟨r3, a3, b3⟩ := h3
      refine ⟨r3, a3.trans ⟨fun p j j0 j1 => ?_, fun p => ⟨(p i (Int.le_refl _) (by omega)).2.1, (p i (Int.le_refl _) (by omega)).2.2, fun j j0 j1 => p j (by omega) j1⟩⟩, ev_step (hta.bind (f := ?FF3) ?bb3) fun k => ?hh3⟩
      case hh3 =>
        simp only [corpus_heads.l0]
        rw [if_pos (by omega), if_pos h0, if_pos (by omega)]
      case bb3 =>
        refine ev_pos (by omega) (ev_pos hlen1 ?_)
        by_cases c1 : rd h i = -1
        · exact ev_pos c1 b3
        · refine ev_neg c1 (ev_neg (by rw [g1]; omega) ?_)
          rw [g2, show decide (rd h i ≥ (h.length : Int)) = false from decide_eq_false (by omega)]
          exact b3
      by_cases ej : j = i
      · rw [ej]; exact ⟨cr, p.1, p.2.1⟩
      · exact p.2.2 j (by omega) j1
    · have h3t : Ev (fun k => corpus_heads.j3 k cyc i h h.length i true wordL (toksL h.length) (textL h.length) l3 l4 h rl) (i, 8) := by
        refine ev_step (Ev.now _) fun k => ?_
        simp only [corpus_heads.j3, if_true]
      refine ⟨(i, 8), ⟨fun p => (by cases p), fun p => absurd (p i (Int.le_refl _) (by omega)).1 cr⟩, ev_step (hta.bind (f := ?FF4) ?bb4) fun k => ?hh4⟩
      case hh4 =>
        simp only [corpus_heads.l0]
        rw [if_pos (by omega), if_pos h0, if_pos (by omega)]
      case bb4 =>
        refine ev_pos (by omega) (ev_pos hlen1 (ev_neg (by omega) ?_))
        by_cases c1 : rd h i < 0
        · exact ev_pos (by rw [g1]; exact c1) h3t
        · refine ev_neg (by rw [g1]; exact c1) ?_
          rw [g2, show decide (rd h i ≥ (h.length : Int)) = true from decide_eq_true (by omega)]
          exact h3t
end

theorem heads_ev {h : List Int} {rl : List ByteArray} (hn : h.length ≤ 4096) (h1 : 1 ≤ h.length) (l3 : List S77) (l4 : List S82) : ∃ r : Int × Int, Ev (fun k => corpus_heads.f k wordL (toksL h.length) (textL h.length) l3 l4 h rl) r ∧
    (rl.length = h.length → Bare h rl → r.2 = 14) ∧ (¬ (rl.length = h.length ∧ Bare h rl) → (r.2 = 0 ↔ Ok h ∧ rl.length = h.length ∧ ∀ j : Int, 0 ≤ j → j < h.length → RelOk (rdOf ByteArray.empty rl j))) := by
  have hlen : (toksL h.length).length = h.length := List.length_replicate
  unfold corpus_heads.f
  by_cases cl_ : rl.length = h.length
  case neg =>
    refine ⟨(0, 15), ev_neg (by omega) ?_, fun p => absurd p cl_, fun _ => ⟨fun p => (by cases p), fun p => absurd p.2.1 cl_⟩⟩
    rw [show ((h.length : Int) != (rl.length : Int)) = true from bne_iff_ne.mpr (by omega)]
    refine ev_step (Ev.now _) fun k => ?_
    simp only [corpus_heads.j0, if_true]
  have e0 : ((h.length : Int) != ((toksL h.length).length : Int)) = false := by rw [hlen]; exact bne_self_eq_false _
  obtain ⟨b, hb, hbe⟩ := noHeads_l0 hn cl_ h.length 0 (by omega) (by omega)
  have hbe' : Ev (fun k => corpus_noHeads.f k h rl) b := hbe
  cases b with
  | true =>
    have hB : Bare h rl := hb.1 rfl
    refine ⟨(0, 14), ev_pos (by omega) (ev_pos (by omega) ?_), fun _ _ => rfl, fun p => absurd ⟨cl_, hB⟩ p⟩
    rw [e0]
    refine ev_step (hbe'.bind (f := ?FF5) ?bb5) fun k => ?hh5
    case hh5 =>
      simp only [corpus_heads.j0, Bool.false_eq_true, if_false]
      rw [if_pos (by omega)]
    case bb5 => exact ev_pos rfl (Ev.now _)
  | false =>
    have hB : ¬ Bare h rl := fun p => absurd (hb.2 p) (by simp)
    obtain ⟨cyc, ⟨c1, c2⟩, c3⟩ := cycles_ev hn
    obtain ⟨r, a, d⟩ := heads_l0 hn cl_ l3 l4 c1 h.length 0 (by omega) (by omega)
    refine ⟨r, ev_pos (by omega) (ev_pos (by omega) ?_), fun _ p => absurd p hB, fun _ => a.trans ⟨fun p => ?_, fun p j j0 j1 => ?_⟩⟩
    · rw [e0]
      refine ev_step (hbe'.bind (f := ?FF6) ?bb6) fun k => ?hh6
      case hh6 =>
        simp only [corpus_heads.j0, Bool.false_eq_true, if_false]
        rw [if_pos (by omega)]
      case bb6 =>
        refine ev_neg (by simp) (ev_step (c3.bind (f := ?F2) ?b2) fun k => ?h2)
        case h2 =>
          simp only [corpus_heads.j1]
          rfl
        case b2 => exact d
    · have hr : Rng h := fun i i0 i1 => (p i i0 i1).1
      refine ⟨⟨hn, hr, fun x hx => ?_⟩, cl_, fun j j0 j1 => (p j j0 j1).2.1⟩
      have := (p x hx.1 hx.2.1).2.2
      rw [(c2 x hx.1 hx.2.1).2 (by rw [cl_of_rng hr]; exact hx)] at this
      cases this
    · refine ⟨p.1.2.1 j j0 j1, p.2.2 j j0 j1, ?_⟩
      cases q : rdOf false cyc j with
      | false => rfl
      | true =>
        have := (c2 j j0 j1).1 q
        rw [cl_of_rng p.1.2.1] at this
        exact absurd this (p.1.2.2 j)

theorem validate_ev {h : List Int} {rl : List ByteArray} (hn : h.length ≤ 4096) (h1 : 1 ≤ h.length) : ∃ r : Int × Int × Int, Ev (fun k => corpus_Validate.f k wordL (toksL h.length) (textL h.length) [] [] h rl) r ∧
    (rl.length = h.length → Bare h rl → r.2.2 = 14) ∧ (¬ (rl.length = h.length ∧ Bare h rl) → (r.2.2 = 0 ↔ Ok h ∧ rl.length = h.length ∧ ∀ j : Int, 0 ≤ j → j < h.length → RelOk (rdOf ByteArray.empty rl j))) := by
  obtain ⟨r, a, b, c⟩ := heads_ev (rl := rl) hn h1 [] []
  have tail : Ev (fun k => V.chk [emptyE ([] : List S77), emptyE ([] : List S82), corpus_heads.f k wordL (toksL h.length) (textL h.length) [] [] h rl] (0 + 1 + 1 + 1)) (if r.2 = 0 then (0, 0, 0) else (0 + 1 + 1 + 1 + 1 + 1 + 1, r.1, r.2)) := by
    show Ev (fun k => (corpus_heads.f k wordL (toksL h.length) (textL h.length) [] [] h rl).bind fun a => if a.2 = 0 then some (0, 0, 0) else some (0 + 1 + 1 + 1 + 1 + 1 + 1, a.1, a.2)) _
    refine a.bind ?_
    by_cases c0 : r.2 = 0
    · simp only [if_pos c0]; exact Ev.now _
    · simp only [if_neg c0]; exact Ev.now _
  refine ⟨_, (attributes_ev _ _ _ _ _ _).bind (ev_pos rfl ((tokens_ev hn _ _ _ _ _).bind (ev_pos rfl ((texts_ev h1 hn _ _ _ _).bind (ev_pos rfl tail))))), ?_, ?_⟩
  · intro p q
    have := b p q
    rw [if_neg (by omega)]
    exact this
  · intro p
    rw [← c p]
    by_cases c0 : r.2 = 0
    · rw [if_pos c0]; exact ⟨fun _ => c0, fun _ => rfl⟩
    · rw [if_neg c0]

theorem law_l0 {h : List Int} {rl : List ByteArray} (hn : h.length ≤ 60) (r : Bool) (e : Nat) : ∀ (i : Int) (b : Bool), 0 ≤ i → i + e = h.length → (b = true → rl.length = h.length) →
    ∃ b' : Bool, (b' = true ↔ b = true ∧ ∀ j : Int, i ≤ j → j < h.length → rd h j = -1 ∧ (rdOf ByteArray.empty rl j).toList = ([] : List UInt8)) ∧
      (Ev (fun k => corporalaw09_DependCorpus.l0 k h rl b' h h.length h.length wordL (toksL h.length) (textL h.length) h rl) r → Ev (fun k => corporalaw09_DependCorpus.l0 k h rl b h h.length i wordL (toksL i.toNat) (textL h.length) h rl) r) := by
  induction e with
  | zero =>
    intro i b h0 hi hb
    obtain rfl : i = h.length := by omega
    refine ⟨b, ⟨fun p => ⟨p, fun j a d => by omega⟩, fun p => p.1⟩, fun p => ?_⟩
    rw [show ((h.length : Int)).toNat = h.length by omega]
    exact p
  | succ e ih =>
    intro i b h0 hi hb
    have ht : toksL i.toNat ++ [[(⟨#[]⟩ : ByteArray)]] = toksL (i + 1).toNat := by
      unfold toksL
      rw [show (i + 1).toNat = i.toNat + 1 by omega, List.replicate_succ']
    have hl : (toksL i.toNat).length = i.toNat := List.length_replicate
    have step : ∀ b2 : Bool, (b2 = true → rl.length = h.length) → (b2 = true ↔ b = true ∧ rd h i = -1 ∧ (rdOf ByteArray.empty rl i).toList = ([] : List UInt8)) →
        (∀ k, corporalaw09_DependCorpus.l0 (k + 1) h rl b h h.length i wordL (toksL i.toNat) (textL h.length) h rl = corporalaw09_DependCorpus.l0 k h rl b2 h h.length (i + 1) wordL (toksL (i + 1).toNat) (textL h.length) h rl) →
        (∃ b' : Bool, (b' = true ↔ b = true ∧ ∀ j : Int, i ≤ j → j < h.length → rd h j = -1 ∧ (rdOf ByteArray.empty rl j).toList = ([] : List UInt8)) ∧
          (Ev (fun k => corporalaw09_DependCorpus.l0 k h rl b' h h.length h.length wordL (toksL h.length) (textL h.length) h rl) r → Ev (fun k => corporalaw09_DependCorpus.l0 k h rl b h h.length i wordL (toksL i.toNat) (textL h.length) h rl) r)) := fun b2 hb2 hbb hk => by
      obtain ⟨b', p, q⟩ := ih (i + 1) b2 (by omega) (by omega) hb2
      exact ⟨b', p.trans ⟨fun ⟨x, y⟩ => ⟨(hbb.1 x).1, fun j j0 j1 => by
          by_cases ej : j = i
          · rw [ej]; exact (hbb.1 x).2
          · exact y j (by omega) j1⟩, fun ⟨x, y⟩ => ⟨hbb.2 ⟨x, y i (Int.le_refl _) (by omega)⟩, fun j j0 j1 => y j (by omega) j1⟩⟩, fun t => ev_step (q t) hk⟩
    by_cases c1 : b = true
    · by_cases c2 : rd h i = -1
      · refine step ((rdOf ByteArray.empty rl i).toList == ([] : List UInt8)) (fun _ => hb c1) ⟨fun p => ⟨c1, c2, beq_iff_eq.1 p⟩, fun p => beq_iff_eq.2 p.2.2⟩ fun k => ?_
        simp only [corporalaw09_DependCorpus.l0]
        rw [if_pos (by omega), if_pos h0, if_pos (by omega), if_pos (by omega)]
        simp only [Option.bind_some]
        have := hb c1
        rw [if_pos c1, if_pos c2, if_pos (by omega), ht, w64 (by omega) (by omega)]
      · refine step false (fun p => (by cases p)) ⟨fun p => (by cases p), fun p => absurd p.2.1 c2⟩ fun k => ?_
        simp only [corporalaw09_DependCorpus.l0]
        rw [if_pos (by omega), if_pos h0, if_pos (by omega), if_pos (by omega)]
        simp only [Option.bind_some]
        rw [if_pos c1, if_neg c2, ht, w64 (by omega) (by omega)]
    · refine step false (fun p => (by cases p)) ⟨fun p => (by cases p), fun p => absurd p.1 c1⟩ fun k => ?_
      simp only [corporalaw09_DependCorpus.l0]
      rw [if_pos (by omega), if_pos h0, if_pos (by omega), if_pos (by omega)]
      simp only [Option.bind_some]
      rw [if_neg c1, ht, w64 (by omega) (by omega)]
end Go.Proofs.YtkanmafjjejpmaaDoor.M

namespace Go.Proofs.YtkanmafjjejpmaaDoor.Pure
open Go.RowKit Go.Proofs.YtkanmafjjejpmaaDoor.P Go.Proofs.YtkanmafjjejpmaaDoor.X Go.Proofs.YtkanmafjjejpmaaDoorW.PrintWords Go.Proofs.YtkanmafjjejpmaaDoorW.PrintLast Go.Proofs.YtkanmafjjejpmaaDoor.M

theorem DependCorpus (h : List Int) (rl : List ByteArray) : ∃ k, corporalaw09_DependCorpus.f k h rl = some true := by
  unfold corporalaw09_DependCorpus.f
  have no : Ev (fun k => corporalaw09_DependCorpus.j0 k h rl h.length true) true := ev_step (Ev.now _) fun k => by simp [corporalaw09_DependCorpus.j0]
  refine Ev.rounds ?_
  by_cases c : (h.length : Int) = 0
  · exact ev_pos c no
  refine ev_neg c ?_
  by_cases c2 : (h.length : Int) > 60
  · exact ev_pos c2 no
  refine ev_neg c2 ?_
  by_cases c3 : (rl.length : Int) > 70
  · rw [show decide ((rl.length : Int) > 70) = true from decide_eq_true c3]; exact no
  rw [show decide ((rl.length : Int) > 70) = false from decide_eq_false c3]
  obtain ⟨R, f1, f2⟩ := form_ev (h := h) (rl := rl) (by omega)
  obtain ⟨r, v1, v2, v3⟩ := validate_ev (h := h) (rl := rl) (by omega) (by omega)
  obtain ⟨b, l1, l2⟩ := law_l0 (h := h) (rl := rl) (by omega) true h.length 0 ((rl.length : Int) == h.length) (by omega) (by omega) (fun p => by have := beq_iff_eq.1 p; omega)
  have hb : b = true ↔ rl.length = h.length ∧ Bare h rl := l1.trans ⟨fun p => ⟨by have := beq_iff_eq.1 p.1; omega, p.2⟩, fun p => ⟨beq_iff_eq.2 (by omega), p.2⟩⟩
  have body : Ev (fun k => corporalaw09_DependCorpus.l0 k h rl b h h.length h.length wordL (toksL h.length) (textL h.length) h rl) true := by
    refine ev_step (v1.bind (f := ?FF7) ?bb7) fun k => ?hh7
    case hh7 =>
      simp only [corporalaw09_DependCorpus.l0]
      rw [if_neg (by omega)]
    case bb7 =>
      refine f1.bind ?_
      by_cases cb : b = true
      · obtain ⟨q1, q2⟩ := hb.1 cb
        have hbn : R.2 = 0 := f2.2 ⟨⟨by omega, fun i i0 i1 => by rw [(q2 i i0 i1).1]; omega, fun x hx => by
            obtain ⟨x0, x1, m, hm⟩ := hx
            rw [it_succ, nxt, if_neg (by omega), (q2 x x0 x1).1] at hm
            have := it_neg1 h m
            omega⟩, q1, fun j j0 j1 => .inl (toList_nil.1 (q2 j j0 j1).2)⟩
        exact ev_pos cb (ev_pos (v2 q1 q2) (ev_pos hbn (awake_ev.bind (Ev.now _))))
      · have e := v3 (fun p => cb (hb.2 p))
        refine ev_neg cb (ev_pos ?_ (awake_ev.bind (Ev.now _)))
        rw [← f2] at e
        by_cases c0 : r.2.2 = 0
        · rw [c0, e.1 c0]; rfl
        · have d0 : R.2 ≠ 0 := fun p => c0 (e.2 p)
          rw [show (r.2.2 == 0) = false from beq_eq_false_iff_ne.2 c0, show (R.2 == 0) = false from beq_eq_false_iff_ne.2 d0]
          rfl
  refine ev_step (l2 body) fun k => ?_
  simp only [corporalaw09_DependCorpus.j0, Bool.false_eq_true, if_false]
  rfl
end Go.Proofs.YtkanmafjjejpmaaDoor.Pure
