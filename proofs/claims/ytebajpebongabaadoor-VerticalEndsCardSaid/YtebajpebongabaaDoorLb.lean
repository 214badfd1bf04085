/- Several texts in one; each says what it is. No condition beyond theirs. -/
import Derived.Test.YtebajpebongabaaDoorR5
import Derived.Test.YtebajpebongabaaDoorSw
import Derived.Test.YtebajpebongabaaDoorCa
import Derived.Test.YtebajpebongabaaDoorEs
import Derived.Test.YtebajpebongabaaDoorO
/- What vertical.Parse answers, by a plain function of the file and the attributes. No condition. -/
namespace Go.Proofs.YtebajpebongabaaDoor.V
open Go.RowKit Go.Proofs.YtebajpebongabaaDoorW.PrintWords Go.Proofs.YtebajpebongabaaDoorW.PrintMore Go.Proofs.YtebajpebongabaaDoor.P Go.Proofs.YtebajpebongabaaDoor.X
set_option linter.unusedVariables false
set_option linter.unusedSimpArgs false

/-- The line at a place. -/
def lineAt (data : ByteArray) (p : Nat) : ByteArray := (data.extract p data.size).extract 0 (lineN (data.extract p data.size))
theorem lineAt_size (data : ByteArray) (p : Nat) (hp : p ≤ data.size) : p + (lineAt data p).size ≤ data.size := by
  have := lineN_le (data.extract p data.size)
  rw [ByteArray.size_extract] at this
  unfold lineAt
  rw [ByteArray.size_extract, ByteArray.size_extract]
  omega
inductive Rd where
  | ok (s : St)
  | bad (at_ e : Int)
def readL (data : ByteArray) : Nat → Nat → St → Rd
  | 0, _, s => .ok s
  | b + 1, p, s => if p < data.size then (if (lineR s (lineAt data p)).1.2 = 0 then readL data b (p + ((lineAt data p).size + 1)) (lineR s (lineAt data p)).2 else .bad (p + (lineR s (lineAt data p)).1.1) (lineR s (lineAt data p)).1.2) else .ok s
theorem readL_end (data : ByteArray) (b p : Nat) (s : St) (h : ¬ p < data.size) : readL data b p s = .ok s := by
  cases b with
  | zero => rfl
  | succ b => unfold readL; rw [if_neg h]
def st0 (attrs : List S55) : St := ⟨attrs, [], [], [], [], false⟩
/-- What Parse answers: the corpus' rows, the error's position, the error. -/
structure PRes where
  att : List S55
  toks : List (List ByteArray)
  texts : List S61
  regs : List S58
  line : Int
  col : Int
  err : Int
def pfail (p : Int × Int) (e : Int) : PRes := ⟨[], [], [], [], p.1, p.2, e⟩
def posF (data : ByteArray) (p : Int) : Int × Int := posOf p (runes data data.size 0) 1 1
def endR (data : ByteArray) : Rd → PRes
  | .bad p e => pfail (posF data p) e
  | .ok s => if s.text = true then pfail (posF data data.size) 10 else ⟨s.att, s.toks, s.texts, sortR s.regs, 0, 0, 0⟩
def parseR (data : ByteArray) (attrs : List S55) : PRes :=
  if attB attrs = false then pfail (0, 0) 1 else if 1048576 < data.size then pfail (0, 0) 2 else endR data (readL data data.size 0 (st0 attrs))

/-! ### bounds of what is read -/
def Inn (s : St) : Prop := (∀ r ∈ s.regs, (0 ≤ r.f1 ∧ r.f1 ≤ 4096) ∧ (0 ≤ r.f2 ∧ r.f2 ≤ 4096) ∧ r.f3.length ≤ 8) ∧ (∀ r ∈ s.opens, (0 ≤ r.f1 ∧ r.f1 ≤ 4096) ∧ r.f3.length ≤ 8)
theorem inn_st0 (attrs : List S55) : Inn (st0 attrs) := ⟨(fun r h => by cases h), (fun r h => by cases h)⟩
theorem line_inn (s : St) (line : ByteArray) (h : Inn s) (ht : s.toks.length ≤ 4096) : Inn (lineR s line).2 := by
  unfold lineR
  split
  · cases hT : tagR line 0 with
    | bad q c => exact h
    | ok tg p =>
      have hk := tagR_keys hT
      show Inn (tagS s tg)
      unfold tagS
      split
      · refine ⟨h.1, fun r hr => ?_⟩
        rcases List.mem_append.1 hr with hr | hr
        · exact h.2 r hr
        · rw [List.mem_singleton.1 hr]
          exact ⟨⟨by show (0 : Int) ≤ (s.toks.length : Int); omega, by show (s.toks.length : Int) ≤ 4096; omega⟩, hk⟩
      · unfold endRegionS
        cases hl : lastOpen s.opens tg.name s.opens.length with
        | none => exact h
        | some i =>
          have hi := lastOpen_lt _ _ _ _ hl
          have hm : s.opens.getD i z58 ∈ s.opens := by
            simp only [List.getD, List.getElem?_eq_getElem hi, Option.getD_some]
            exact List.getElem_mem hi
          refine ⟨fun r hr => ?_, fun r hr => h.2 r (List.mem_of_mem_eraseIdx hr)⟩
          rcases List.mem_append.1 hr with hr | hr
          · exact h.1 r hr
          · rw [List.mem_singleton.1 hr]
            exact ⟨(h.2 _ hm).1, ⟨by show (0 : Int) ≤ (s.toks.length : Int); omega, by show (s.toks.length : Int) ≤ 4096; omega⟩, (h.2 _ hm).2⟩
      · exact h
      · exact h
  · exact h
theorem inn_ok {s : St} (h : Inn s) : ∀ x ∈ s.regs, RegOk x := fun x hx => by
  obtain ⟨⟨h1, h2⟩, ⟨h3, h4⟩, h5⟩ := h.1 x hx
  exact ⟨w64 (by omega) (by omega), w64 (by omega) (by omega), by omega⟩
end Go.Proofs.YtebajpebongabaaDoor.V
/- Where a line's fault is: within the line. No condition. -/
namespace Go.Proofs.YtebajpebongabaaDoor.V
open Go.RowKit Go.Proofs.YtebajpebongabaaDoorW.PrintWords Go.Proofs.YtebajpebongabaaDoorW.PrintMore Go.Proofs.YtebajpebongabaaDoor.P Go.Proofs.YtebajpebongabaaDoor.X
set_option linter.unusedVariables false
set_option linter.unusedSimpArgs false

theorem eatR_pos {s : ByteArray} {p c : Nat} {q e : Int} (h : eatR s p c = .bad q e) : q = p := by
  unfold eatR at h
  split at h
  · cases h
  · injection h with h _; exact h.symm
theorem nameR_pos {s : ByteArray} {p : Nat} {q e : Int} (h : nameR s p = .bad q e) : q = p := by
  unfold nameR at h
  split at h
  · split at h
    · injection h with h _; exact h.symm
    · cases h
  · injection h with h _; exact h.symm
theorem valR_pos {s : ByteArray} {p : Nat} {q e : Int} (hp : p ≤ s.size) (h : valR s p = .bad q e) : 0 ≤ q ∧ q ≤ s.size := by
  have hv := valEnd_le s (s.size - p) p hp
  unfold valR at h
  split at h
  · rename_i h1
    injection h with h _
    subst h
    have := eatR_pos h1
    omega
  · rename_i q1 h1
    have h2 := eatR_le h1
    have hu := unescR_pos (s.extract p (q1 - 1))
    rw [ByteArray.size_extract] at hu
    split at h
    · injection h with h _
      omega
    · split at h
      · injection h with h _
        omega
      · cases h
theorem keyR_pos {s : ByteArray} {p : Nat} {l : List S88} {q e : Int} (hp : p ≤ s.size) (h : keyR s p l = .bad q e) : 0 ≤ q ∧ q ≤ s.size := by
  unfold keyR at h
  split at h
  · rename_i h1
    injection h with h _
    subst h
    have := nameR_pos h1
    omega
  · rename_i n q1 e1
    have h1 := nameR_le e1
    split at h
    · injection h with h _; omega
    · split at h
      · injection h with h _; omega
      · split at h
        · rename_i h2
          injection h with h _
          subst h
          have := eatR_pos h2
          omega
        · rename_i u2 q2 e2
          have h2 := eatR_le e2
          split at h
          · rename_i h3
            injection h with h _
            subst h
            have := eatR_pos h3
            omega
          · rename_i u3 q3 e3
            have h3 := eatR_le e3
            split at h
            · rename_i h4
              injection h with h5 h6
              have := valR_pos (by omega) h4
              omega
            · cases h
theorem attrsR_pos {s : ByteArray} : ∀ (b p : Nat) (l : List S88) (q e : Int), p ≤ s.size → attrsR s b p l = .bad q e → 0 ≤ q ∧ q ≤ s.size
  | 0, p, l, q, e, hp, h => by cases h
  | b + 1, p, l, q, e, hp, h => by
    rw [attrsR_succ] at h
    have hs := spEnd_le s (s.size - p) p hp
    split at h
    · split at h
      · rename_i h1
        injection h with h2 h3
        have := keyR_pos (by omega) h1
        omega
      · rename_i h1
        have := keyR_le h1
        exact attrsR_pos b _ _ _ _ (by omega) h
    · cases h
theorem attrsR_le {s : ByteArray} : ∀ (b p : Nat) (l l' : List S88) (q : Nat), p ≤ s.size → attrsR s b p l = .ok l' q → q ≤ s.size
  | 0, p, l, l', q, hp, h => by injection h with _ h; omega
  | b + 1, p, l, l', q, hp, h => by
    rw [attrsR_succ] at h
    have hs := spEnd_le s (s.size - p) p hp
    split at h
    · split at h
      · cases h
      · rename_i h1
        have := keyR_le h1
        exact attrsR_le b _ _ _ _ (by omega) h
    · injection h with _ h; omega
theorem tagR_pos {s : ByteArray} {p : Nat} {q e : Int} (hp : p ≤ s.size) (h : tagR s p = .bad q e) : 0 ≤ q ∧ q ≤ s.size := by
  unfold tagR at h
  split at h
  · rename_i h1
    injection h with h _
    subst h
    have := eatR_pos h1
    omega
  · rename_i u p1 e1
    have h1 := eatR_le e1
    have hp2 : (if seesB s p1 47 = true then p1 + 1 else p1) ≤ s.size := by
      split
      · rename_i c
        exact seesB_lt c
      · omega
    split at h
    · rename_i h2
      injection h with h _
      subst h
      have := nameR_pos h2
      omega
    · rename_i n p3 e3
      have h3 := nameR_le e3
      unfold tagEnd at h
      split at h
      · rename_i h4
        injection h with h5 h6
        split at h4
        · cases h4
        · have := attrsR_pos _ _ _ _ _ (by omega) h4
          omega
      · rename_i l p4 h4
        have hp4 : p4 ≤ s.size := by
          split at h4
          · injection h4 with _ h4; omega
          · exact attrsR_le _ _ _ _ _ (by omega) h4
        split at h
        · rename_i h5
          injection h with h6 _
          have := eatR_pos h5
          omega
        · split at h
          · injection h with h _; omega
          · cases h
theorem tokL_pos (att : List S55) (N : Nat) : ∀ (ps : List ByteArray) (vals : List ByteArray) (at_ : Int), 0 ≤ at_ → at_ + ((ps.map fun p => p.size + 1).sum : Nat) = N + 1 → (tokL att ps vals at_).2.1 ≠ 0 → 0 ≤ (tokL att ps vals at_).1 ∧ (tokL att ps vals at_).1 ≤ N
  | [], vals, at_, h0, hs, h => absurd rfl h
  | raw :: ps, vals, at_, h0, hs, h => by
    have hu := unescR_pos raw
    rw [List.map_cons, List.sum_cons] at hs
    unfold tokL at h ⊢
    split
    · simp only
      omega
    · rename_i c1
      rw [if_neg c1] at h
      split
      · simp only
        omega
      · rename_i c2
        rw [if_neg c2] at h
        split
        · simp only
          omega
        · rename_i c3
          rw [if_neg c3] at h
          exact tokL_pos att N ps _ _ (by omega) (by omega) h
theorem tokenE_pos (s : St) (line : ByteArray) : 0 ≤ (tokenE s line).1 ∧ (tokenE s line).1 ≤ line.size := by
  unfold tokenE
  split
  · simp
  · split
    · simp
    · unfold tokEnd
      split
      · rename_i h
        exact tokL_pos s.att line.size _ _ _ (Int.le_refl _) (by rw [pieces_sum]; omega) h
      · split
        · simp
        · simp
theorem line_pos (s : St) (line : ByteArray) : 0 ≤ (lineR s line).1.1 ∧ (lineR s line).1.1 ≤ line.size := by
  unfold lineR
  split
  · cases hT : tagR line 0 with
    | bad q c => exact tagR_pos (Nat.zero_le _) hT
    | ok tg p => exact ⟨Int.le_refl _, by show (0 : Int) ≤ (line.size : Int); omega⟩
  · exact tokenE_pos s line
end Go.Proofs.YtebajpebongabaaDoor.V
