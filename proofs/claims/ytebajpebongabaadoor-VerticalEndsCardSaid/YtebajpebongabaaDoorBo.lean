/- Several texts in one; each says what it is. No condition beyond theirs. -/
import Derived.Test.YtebajpebongabaaDoorLb
/- The line feed at the end of a file: what parseR answers with and without. No condition. -/
namespace Go.Proofs.YtebajpebongabaaDoor.V
open Go.RowKit Go.Proofs.YtebajpebongabaaDoorW.PrintWords Go.Proofs.YtebajpebongabaaDoorW.PrintMore Go.Proofs.YtebajpebongabaaDoor.P Go.Proofs.YtebajpebongabaaDoor.X
set_option linter.unusedVariables false
set_option linter.unusedSimpArgs false

abbrev lf : ByteArray := ⟨#[10]⟩
theorem lf_size (D : ByteArray) : (D ++ lf).size = D.size + 1 := by rw [ByteArray.size_append]; rfl
theorem lf_list (D : ByteArray) : (D ++ lf).data.toList = D.data.toList ++ [10] := by rw [ByteArray.data_append]; simp
theorem get_at (D : ByteArray) (i : Nat) : D.get! i = D.data.toList.getD i 0 := by
  show D.data[i]! = _
  rw [List.getD_eq_getElem?_getD, Array.getElem?_toList, getElem!_def]
  cases D.data[i]? <;> rfl
theorem lf_get (D : ByteArray) (i : Nat) (hi : i < D.size) : (D ++ lf).get! i = D.get! i := by
  rw [get_at, get_at, lf_list, List.getD_eq_getElem?_getD, List.getD_eq_getElem?_getD, List.getElem?_append_left (by simpa using hi)]
theorem lf_end (D : ByteArray) : (D ++ lf).get! D.size = 10 := by
  rw [get_at, lf_list, List.getD_eq_getElem?_getD, List.getElem?_append_right (by simp)]
  simp
theorem lf_cont (D : ByteArray) (i k : Nat) : (decide (i + k < (D ++ lf).size) && ((D ++ lf).get! (i + k)).toNat / 64 == 2) = (decide (i + k < D.size) && (D.get! (i + k)).toNat / 64 == 2) := by
  rw [lf_size]
  by_cases h : i + k < D.size
  · rw [lf_get D _ h, decide_eq_true h, decide_eq_true (by omega : i + k < D.size + 1)]
  · rw [decide_eq_false h]
    by_cases e : i + k = D.size
    · rw [e, lf_end]
      have : ((10 : UInt8).toNat / 64 == 2) = false := by decide
      rw [this]
      simp
    · rw [decide_eq_false (by omega), Bool.false_and, Bool.false_and]
theorem lf_decode (D : ByteArray) (i : Nat) (hi : i < D.size) : Utf8.decode (D ++ lf) i = Utf8.decode D i := by
  have h0 : (D ++ lf).get! (i + 0) = D.get! (i + 0) := lf_get D _ hi
  have h1 := lf_cont D i 1
  have h2 := lf_cont D i 2
  have h3 := lf_cont D i 3
  have g : ∀ k, i + k < D.size → (D ++ lf).get! (i + k) = D.get! (i + k) := fun k h => lf_get D _ h
  unfold Utf8.decode
  simp only [h0, h1, h2, h3]
  by_cases a1 : i + 1 < D.size
  · rw [g 1 a1]
    by_cases a2 : i + 2 < D.size
    · rw [g 2 a2]
      by_cases a3 : i + 3 < D.size
      · rw [g 3 a3]
      · simp only [decide_eq_false a3, Bool.false_and, Bool.and_false, Bool.false_eq_true, if_false]
    · simp only [decide_eq_false a2, Bool.false_and, Bool.and_false, Bool.false_eq_true, if_false]
  · simp only [decide_eq_false a1, Bool.false_and, Bool.and_false, Bool.false_eq_true, if_false]
theorem decode_in (D : ByteArray) (i : Nat) (hi : i < D.size) : i + (Utf8.decode D i).2 ≤ D.size ∧ 1 ≤ (Utf8.decode D i).2 := by
  unfold Utf8.decode
  simp only
  refine ⟨?_, ?_⟩
  · split
    · exact hi
    · split
      · rename_i h; simp only [Bool.and_eq_true, decide_eq_true_eq] at h
        split
        · show i + 2 ≤ _; omega
        · exact hi
      · split
        · rename_i h; simp only [Bool.and_eq_true, decide_eq_true_eq] at h
          split
          · show i + 3 ≤ _; omega
          · exact hi
        · split
          · rename_i h; simp only [Bool.and_eq_true, decide_eq_true_eq] at h
            split
            · show i + 4 ≤ _; omega
            · exact hi
          · exact hi
  · repeat' split
    all_goals simp
/-- The runes with the line feed behind: one rune more. -/
theorem lf_runes (D : ByteArray) : ∀ (b p : Nat), p ≤ D.size → D.size ≤ p + b → runes (D ++ lf) (b + 1) p = runes D b p ++ [((D.size : Int), 10)]
  | 0, p, hp, h => by
    obtain rfl : p = D.size := by omega
    unfold runes
    rw [if_pos (by rw [lf_size]; omega)]
    have : Utf8.decode (D ++ lf) D.size = (10, 1) := by
      unfold Utf8.decode
      simp only [Nat.add_zero, lf_end]
      rw [if_pos (by decide)]
      rfl
    rw [this]
    rfl
  | b + 1, p, hp, h => by
    by_cases hl : p < D.size
    · obtain ⟨h1, h2⟩ := decode_in D p hl
      rw [runes, if_pos (by rw [lf_size]; omega), lf_decode D p hl, lf_runes D b _ h1 (by omega)]
      conv => rhs; rw [runes, if_pos hl]
      rfl
    · obtain rfl : p = D.size := by omega
      rw [runes, if_pos (by rw [lf_size]; omega)]
      have : Utf8.decode (D ++ lf) D.size = (10, 1) := by
        unfold Utf8.decode
        simp only [Nat.add_zero, lf_end]
        rw [if_pos (by decide)]
        rfl
      rw [this]
      conv => rhs; rw [runes, if_neg (Nat.lt_irrefl _)]
      have : runes (D ++ lf) (b + 1) (D.size + (10, 1).2) = [] := by
        rw [runes, if_neg (by rw [lf_size]; simp)]
      rw [this]
      rfl
theorem posOf_more (p q r : Int) (h : p ≤ q) : ∀ (l : List (Int × Int)) (a c : Int), posOf p (l ++ [(q, r)]) a c = posOf p l a c
  | [], a, c => by
    show posOf p [(q, r)] a c = (a, c)
    rw [posOf, if_pos h]
  | (i, x) :: t, a, c => by
    rw [List.cons_append, posOf, posOf]
    split
    · rfl
    · split
      · exact posOf_more p q r h t _ _
      · exact posOf_more p q r h t _ _
theorem posF_lf (D : ByteArray) (p : Int) (hp : p ≤ D.size) : posF (D ++ lf) p = posF D p := by
  unfold posF
  rw [lf_size, lf_runes D D.size 0 (Nat.zero_le _) (by omega), posOf_more p _ _ hp]

/-! ### lines -/
theorem ib_ge : ∀ (l : List UInt8) (c : UInt8), -1 ≤ Lib.indexByte l c
  | [], c => by simp [Lib.indexByte]
  | a :: l, c => by
    have := ib_ge l c
    simp only [Lib.indexByte]
    split
    · omega
    · split <;> omega
theorem ib_cons (a : UInt8) (l : List UInt8) : Lib.indexByte (a :: l) 10 = if a = 10 then 0 else if Lib.indexByte l 10 = -1 then -1 else Lib.indexByte l 10 + 1 := by
  simp [Lib.indexByte]
theorem ib_app : ∀ (l : List UInt8), Lib.indexByte (l ++ [10]) 10 = if Lib.indexByte l 10 < 0 then (l.length : Int) else Lib.indexByte l 10
  | [] => by simp [Lib.indexByte]
  | a :: l => by
    have h := ib_app l
    have hg := ib_ge l 10
    rw [List.cons_append, ib_cons, ib_cons, h, List.length_cons]
    by_cases e : a = 10
    · rw [if_pos e, if_pos e, if_neg (by omega)]
    · rw [if_neg e, if_neg e]
      by_cases k : Lib.indexByte l 10 < 0
      · rw [if_pos k, if_neg (by omega)]
        have e1 : Lib.indexByte l 10 = -1 := by omega
        rw [if_pos e1, if_pos (by omega)]
        rfl
      · rw [if_neg k, if_neg (by omega), if_neg (by omega)]
theorem ib_found : ∀ (l : List UInt8), 0 ≤ Lib.indexByte l 10 → l.getD (Lib.indexByte l 10).toNat 0 = 10
  | [], h => by simp [Lib.indexByte] at h
  | a :: l, h => by
    have hg := ib_ge l 10
    rw [ib_cons] at h ⊢
    by_cases e : a = 10
    · rw [if_pos e]
      exact e
    · rw [if_neg e] at h ⊢
      by_cases k : Lib.indexByte l 10 = -1
      · rw [if_pos k] at h
        omega
      · rw [if_neg k]
        have := ib_found l (by omega)
        rw [show (Lib.indexByte l 10 + 1).toNat = (Lib.indexByte l 10).toNat + 1 by omega]
        simpa using this
theorem tail_list (D : ByteArray) (p : Nat) : (D.extract p D.size).data.toList = D.data.toList.drop p := by
  rw [ByteArray.data_extract, Array.toList_extract]
  simp [List.extract]
  rw [List.take_of_length_le]
  simp
theorem ba_ext {a b : ByteArray} (h : a.data.toList = b.data.toList) : a = b := by
  cases a; cases b; simpa [Array.toList_inj] using h
theorem tail_lf (D : ByteArray) (p : Nat) (hp : p ≤ D.size) : (D ++ lf).extract p (D ++ lf).size = D.extract p D.size ++ lf := ba_ext (by
  rw [tail_list, lf_list, lf_list, tail_list, List.drop_append_of_le_length (by simpa using hp)])
theorem lineN_lf (E : ByteArray) : lineN (E ++ lf) = lineN E := by
  unfold lineN
  rw [lf_list, ib_app]
  by_cases k : Lib.indexByte E.data.toList 10 < 0
  · rw [if_pos k, if_pos k, if_neg (by omega)]
    simp
  · rw [if_neg k, if_neg k, if_neg k]
theorem extract_lf (E : ByteArray) (n : Nat) (hn : n ≤ E.size) : (E ++ lf).extract 0 n = E.extract 0 n := ba_ext (by
  rw [ByteArray.data_extract, ByteArray.data_extract, Array.toList_extract, Array.toList_extract, lf_list]
  simp [List.extract]
  rw [List.take_append_of_le_length (by simpa using hn)])
theorem lineAt_lf (D : ByteArray) (p : Nat) (hp : p ≤ D.size) : lineAt (D ++ lf) p = lineAt D p := by
  unfold lineAt
  rw [tail_lf D p hp, lineN_lf, extract_lf _ _ (lineN_le _)]
/-- Behind a line of a file that ends otherwise: within, or one past the end. -/
theorem line_next (D : ByteArray) (hne : D.get! (D.size - 1) ≠ 10) (p : Nat) (hp : p < D.size) : p + ((lineAt D p).size + 1) ≠ D.size := by
  intro he
  have hle := lineN_le (D.extract p D.size)
  have hsz : (D.extract p D.size).size = D.size - p := by rw [ByteArray.size_extract]; omega
  have e1 : (lineAt D p).size = lineN (D.extract p D.size) := by
    unfold lineAt
    rw [ByteArray.size_extract]
    omega
  rw [e1] at he
  have hl : lineN (D.extract p D.size) = D.size - 1 - p := by omega
  have hlt : lineN (D.extract p D.size) < (D.extract p D.size).size := by omega
  unfold lineN at hl hlt
  by_cases k : Lib.indexByte (D.extract p D.size).data.toList 10 < 0
  · rw [if_pos k] at hlt
    omega
  · rw [if_neg k] at hl
    have := ib_found _ (by omega : (0 : Int) ≤ Lib.indexByte (D.extract p D.size).data.toList 10)
    rw [hl, tail_list, List.getD_eq_getElem?_getD, List.getElem?_drop] at this
    apply hne
    rw [get_at, List.getD_eq_getElem?_getD, show D.size - 1 = p + (D.size - 1 - p) by omega]
    exact this
theorem readL_succ (D : ByteArray) (b p : Nat) (s : St) : readL D (b + 1) p s = if p < D.size then (if (lineR s (lineAt D p)).1.2 = 0 then readL D b (p + ((lineAt D p).size + 1)) (lineR s (lineAt D p)).2 else .bad (p + (lineR s (lineAt D p)).1.1) (lineR s (lineAt D p)).1.2) else .ok s := rfl
theorem readL_lf (D : ByteArray) (hne : D.get! (D.size - 1) ≠ 10) : ∀ (b p : Nat) (s : St), (p < D.size ∨ p = D.size + 1) → D.size ≤ p + b → readL (D ++ lf) (b + 1) p s = readL D b p s
  | 0, p, s, hp, h => by
    rw [readL_end _ _ _ _ (by rw [lf_size]; omega), readL_end _ _ _ _ (by omega)]
  | b + 1, p, s, hp, h => by
    rcases hp with hp | hp
    · have hx := line_next D hne p hp
      have hy := lineAt_size D p (by omega)
      rw [readL_succ, if_pos (by rw [lf_size]; omega), lineAt_lf D p (by omega), readL_succ D b p s, if_pos hp]
      split
      · exact readL_lf D hne b _ _ (by omega) (by omega)
      · rfl
    · rw [readL_end _ _ _ _ (by rw [lf_size]; omega), readL_end _ _ _ _ (by omega)]
theorem readL_pos (D : ByteArray) : ∀ (b p : Nat) (s : St) (q e : Int), p ≤ D.size + 1 → readL D b p s = .bad q e → 0 ≤ q ∧ q ≤ D.size
  | 0, p, s, q, e, hp, h => by cases h
  | b + 1, p, s, q, e, hp, h => by
    rw [readL] at h
    split at h
    · rename_i hl
      have hy := lineAt_size D p (by omega)
      split at h
      · exact readL_pos D b _ _ _ _ (by omega) h
      · injection h with h1 h2
        have := line_pos s (lineAt D p)
        omega
    · cases h
/-- With and without the last line feed: the same, or both end too early. -/
theorem ends_same (D : ByteArray) (attrs : List S55) (h0 : 0 < D.size) (hs : D.size ≤ 3000) (hne : D.get! (D.size - 1) ≠ 10) :
    parseR (D ++ lf) attrs = parseR D attrs ∨ ((parseR (D ++ lf) attrs).err = 10 ∧ (parseR D attrs).err = 10) := by
  unfold parseR
  by_cases ha : attB attrs = false
  · rw [if_pos ha, if_pos ha]
    exact .inl rfl
  · rw [if_neg ha, if_neg ha, if_neg (by rw [lf_size]; omega), if_neg (by omega)]
    have hr := readL_lf D hne D.size 0 (st0 attrs) (.inl h0) (by omega)
    rw [lf_size, hr]
    cases hd : readL D D.size 0 (st0 attrs) with
    | bad q e =>
      have := readL_pos D _ _ _ _ _ (Nat.zero_le _) hd
      left
      show pfail (posF (D ++ lf) q) e = pfail (posF D q) e
      rw [posF_lf D q this.2]
    | ok s =>
      simp only [endR]
      by_cases ht : s.text = true
      · rw [if_pos ht, if_pos ht]
        exact .inr ⟨rfl, rfl⟩
      · rw [if_neg ht, if_neg ht]
        exact .inl rfl
end Go.Proofs.YtebajpebongabaaDoor.V
/- Bounds of what parseR answers. No condition. -/
namespace Go.Proofs.YtebajpebongabaaDoor.V
open Go.RowKit Go.Proofs.YtebajpebongabaaDoorW.PrintWords Go.Proofs.YtebajpebongabaaDoorW.PrintMore Go.Proofs.YtebajpebongabaaDoor.P Go.Proofs.YtebajpebongabaaDoor.X
set_option linter.unusedVariables false
set_option linter.unusedSimpArgs false

structure Lax (k : Nat) (s : St) : Prop where
  att : s.att.length ≤ 8
  toks : s.toks.length ≤ k
  row : ∀ x ∈ s.toks, x.length ≤ 8
  texts : s.texts.length ≤ k
  meta_ : ∀ x ∈ s.texts, x.f3.length ≤ 8
  regs : s.regs.length + s.opens.length ≤ k
  keys : ∀ x ∈ s.regs, x.f3.length ≤ 8
  keyo : ∀ x ∈ s.opens, x.f3.length ≤ 8
theorem Lax.more {k : Nat} {s : St} (h : Lax k s) : Lax (k + 1) s := ⟨h.att, by have := h.toks; omega, h.row, by have := h.texts; omega, h.meta_, by have := h.regs; omega, h.keys, h.keyo⟩
theorem tokL_len (att : List S55) : ∀ (ps vals : List ByteArray) (at_ : Int), vals.length ≤ att.length → (tokL att ps vals at_).2.2.length ≤ att.length
  | [], vals, at_, h => h
  | raw :: ps, vals, at_, h => by
    unfold tokL
    split
    · exact h
    · split
      · exact h
      · split
        · exact h
        · exact tokL_len att ps _ _ (by rw [List.length_append, List.length_singleton]; omega)
theorem line_lax {k : Nat} {s : St} (line : ByteArray) (h : Lax k s) : Lax (k + 1) (lineR s line).2 := by
  have hk := h.toks
  have hx := h.texts
  have hr := h.regs
  unfold lineR
  split
  · cases hT : tagR line 0 with
    | bad q c => exact h.more
    | ok tg p =>
      have hkeys := tagR_keys hT
      show Lax (k + 1) (tagS s tg)
      unfold tagS
      split
      · refine ⟨h.att, by show s.toks.length ≤ _; omega, h.row, by show s.texts.length ≤ _; omega, h.meta_, ?_, h.keys, fun x hx => ?_⟩
        · show s.regs.length + (s.opens ++ [_]).length ≤ _
          rw [List.length_append, List.length_singleton]
          omega
        · rcases List.mem_append.1 hx with hx | hx
          · exact h.keyo x hx
          · rw [List.mem_singleton.1 hx]
            exact hkeys
      · unfold endRegionS
        cases hl : lastOpen s.opens tg.name s.opens.length with
        | none => exact h.more
        | some i =>
          have hi := lastOpen_lt _ _ _ _ hl
          have hm : s.opens.getD i z58 ∈ s.opens := by
            simp only [List.getD, List.getElem?_eq_getElem hi, Option.getD_some]
            exact List.getElem_mem hi
          refine ⟨h.att, by show s.toks.length ≤ _; omega, h.row, by show s.texts.length ≤ _; omega, h.meta_, ?_, fun x hx => ?_, fun x hx => h.keyo x (List.mem_of_mem_eraseIdx hx)⟩
          · show (s.regs ++ [_]).length + (s.opens.eraseIdx i).length ≤ _
            rw [List.length_append, List.length_singleton, List.length_eraseIdx, if_pos hi]
            omega
          · rcases List.mem_append.1 hx with hx | hx
            · exact h.keys x hx
            · rw [List.mem_singleton.1 hx]
              have := h.keyo _ hm
              exact this
      · refine ⟨h.att, by show s.toks.length ≤ _; omega, h.row, ?_, fun x hx => ?_, by show s.regs.length + s.opens.length ≤ _; omega, h.keys, h.keyo⟩
        · show (s.texts ++ [_]).length ≤ _
          rw [List.length_append, List.length_singleton]
          omega
        · rcases List.mem_append.1 hx with hx | hx
          · exact h.meta_ x hx
          · rw [List.mem_singleton.1 hx]
            have := meta_le tg.keys ⟨⟨#[]⟩, false, []⟩
            show (idOf tg.keys).meta_.length ≤ 8
            have e : (idOf tg.keys).meta_.length ≤ ([] : List S88).length + tg.keys.length := this
            simp only [List.length_nil] at e
            omega
      · refine ⟨h.att, by show s.toks.length ≤ _; omega, h.row, ?_, fun x hx => ?_, by show s.regs.length + s.opens.length ≤ _; omega, h.keys, h.keyo⟩
        · show (s.texts.set _ _).length ≤ _
          rw [List.length_set]
          omega
        · rcases List.mem_or_eq_of_mem_set hx with hx | hx
          · exact h.meta_ x hx
          · rw [hx]
            show (lastText s).f3.length ≤ 8
            unfold lastText
            rw [List.getD_eq_getElem?_getD]
            cases hg : s.texts[s.texts.length - 1]? with
            | none => exact Nat.zero_le _
            | some y => exact h.meta_ y (List.mem_of_getElem? hg)
  · refine ⟨h.att, ?_, fun x hx => ?_, by show s.texts.length ≤ _; omega, h.meta_, by show s.regs.length + s.opens.length ≤ _; omega, h.keys, h.keyo⟩
    · show (s.toks ++ [_]).length ≤ _
      rw [List.length_append, List.length_singleton]
      omega
    · rcases List.mem_append.1 hx with hx | hx
      · exact h.row x hx
      · rw [List.mem_singleton.1 hx]
        exact Nat.le_trans (tokL_len _ _ _ _ (Nat.zero_le _)) h.att
theorem readL_lax (D : ByteArray) : ∀ (b p k : Nat) (s s' : St), Lax k s → readL D b p s = .ok s' → Lax (k + b) s'
  | 0, p, k, s, s', h, e => by injection e with e; exact e ▸ h
  | b + 1, p, k, s, s', h, e => by
    rw [readL_succ] at e
    have hup : ∀ c, Lax (k + c) s := fun c => by
      induction c with
      | zero => exact h
      | succ c ih => exact ih.more
    split at e
    · split at e
      · have := readL_lax D b _ _ _ _ (line_lax (lineAt D p) h) e
        rw [show k + (b + 1) = k + 1 + b by omega]
        exact this
      · cases e
    · injection e with e
      exact e ▸ hup _
theorem attB_len {l : List S55} (h : attB l = true) : l.length ≤ 8 := by
  unfold attB attR at h
  split at h
  · omega
  · split at h
    · cases h
    · omega
/-- The lists that parseR answers are small. -/
structure Small (r : PRes) : Prop where
  att : r.att.length ≤ 8
  toks : r.toks.length ≤ 1048576
  row : ∀ x ∈ r.toks, x.length ≤ 1048576
  texts : r.texts.length ≤ 1048576
  meta_ : ∀ x ∈ r.texts, x.f3.length ≤ 1048576
  regs : r.regs.length ≤ 1048576
  keys : ∀ x ∈ r.regs, x.f3.length ≤ 1048576
theorem insL_perm {α : Type} (lt : α → α → Bool) (z : α) (ys : List α) (x : α) : (insL lt z ys x).Perm (x :: ys) := by
  unfold insL
  refine List.perm_middle.trans (List.Perm.cons _ ?_)
  rw [List.take_append_drop]
theorem sortL_perm {α : Type} (lt : α → α → Bool) (z : α) (l : List α) : (sortL lt z l).Perm l := by
  suffices h : ∀ (l acc : List α), (l.foldl (insL lt z) acc).Perm (acc ++ l) by simpa [sortL] using h l []
  intro l
  induction l with
  | nil => intro acc; simp
  | cons x l ih =>
    intro acc
    rw [List.foldl_cons]
    refine (ih _).trans (((insL_perm lt z acc x).append_right l).trans ?_)
    rw [List.cons_append]
    exact List.perm_middle.symm
theorem sortR_perm (l : List S58) : (sortR l).Perm l := sortL_perm _ _ _
theorem parse_small (D : ByteArray) (attrs : List S55) : Small (parseR D attrs) := by
  have hz : ∀ p e, Small (pfail p e) := fun p e => ⟨Nat.zero_le _, Nat.zero_le _, (fun x h => by cases h), Nat.zero_le _, (fun x h => by cases h), Nat.zero_le _, (fun x h => by cases h)⟩
  unfold parseR
  by_cases ha : attB attrs = false
  · rw [if_pos ha]
    exact hz _ _
  · rw [if_neg ha]
    have hl := attB_len (Bool.not_eq_false _ ▸ ha)
    by_cases hs : 1048576 < D.size
    · rw [if_pos hs]
      exact hz _ _
    · rw [if_neg hs]
      cases hd : readL D D.size 0 (st0 attrs) with
      | bad q e => exact hz _ _
      | ok s =>
        have hL := readL_lax D _ _ 0 _ _ (⟨hl, Nat.zero_le _, (fun x h => by cases h), Nat.zero_le _, (fun x h => by cases h), Nat.zero_le _, (fun x h => by cases h), (fun x h => by cases h)⟩ : Lax 0 (st0 attrs)) hd
        simp only [endR]
        by_cases ht : s.text = true
        · rw [if_pos ht]
          exact hz _ _
        · rw [if_neg ht]
          refine ⟨hL.att, ?_, fun x hx => ?_, ?_, fun x hx => ?_, ?_, fun x hx => ?_⟩
          · have := hL.toks; show s.toks.length ≤ _; omega
          · have := hL.row x hx; omega
          · have := hL.texts; show s.texts.length ≤ _; omega
          · have := hL.meta_ x hx; omega
          · have := hL.regs; show (sortR s.regs).length ≤ _; rw [(sortR_perm _).length_eq]; omega
          · have := hL.keys x ((sortR_perm _).mem_iff.1 hx); omega
end Go.Proofs.YtebajpebongabaaDoor.V
