/- feature.Parse and the error of an attribute's value: what they answer, by plain functions of the string. No condition. -/
import Derived.Test.YtebajpebongabaaDoorPx7
import Derived.Test.YtebajpebongabaaDoorPx24
import Derived.Test.YtebajpebongabaaDoorEs
import Derived.Test.YtebajpebongabaaDoorVal
namespace Go.Proofs.YtebajpebongabaaDoor.V
open Go.RowKit Go.Proofs.YtebajpebongabaaDoorW.PrintWords Go.Proofs.YtebajpebongabaaDoorW.PrintMore Go.Proofs.YtebajpebongabaaDoor.P Go.Proofs.YtebajpebongabaaDoor.X
set_option linter.unusedVariables false
set_option linter.unusedSimpArgs false

def featO (l : List ByteArray) : Nat → Nat → Int
  | 0, _ => 0
  | b + 1, i => if i < l.length then (if Op.bytesLess (l.getD (i - 1) ByteArray.empty).toList (l.getD i ByteArray.empty).toList = true then featO l b (i + 1) else 6) else 0
def featL (s : ByteArray) : Nat → List ByteArray → Nat → Nat → Int
  | 0, l, _, _ => featO l l.length 1
  | b + 1, l, p, i => if i < s.size then (if bA s i = 124 then (if i = p then 3 else featL s b (l ++ [s.extract p i]) (i + 1) (i + 1)) else featL s b l p (i + 1)) else featO l l.length 1
def featE (s : ByteArray) : Int :=
  if valueE s ≠ 0 then valueE s else if s.toList = [124] then 0 else if s.size < 2 ∨ bA s 0 ≠ 124 ∨ bA s (s.size - 1) ≠ 124 then 3 else featL s (s.size - 1) [] 1 1

theorem featO_ev (l : List ByteArray) (hl : l.length ≤ 1000) : ∀ (b i : Nat), 1 ≤ i → i ≤ 1001 → l.length ≤ i + b → ∃ r, Ev (fun k => feature_Parse.l1 k l i) (r, featO l b i)
  | 0, i, h1, h2, hb => ⟨l, ev_step (Ev.now _) fun k => by
      simp only [feature_Parse.l1]
      rw [if_neg (by omega)]
      rfl⟩
  | b + 1, i, h1, h2, hb => by
    by_cases c : i < l.length
    · have e1 : wrap64 ((i : Int) - 1) = ((i - 1 : Nat) : Int) := by rw [w64 (by omega) (by omega)]; omega
      have e2 : wrap64 ((i : Int) + 1) = ((i + 1 : Nat) : Int) := by rw [w64 (by omega) (by omega)]; omega
      by_cases d : Op.bytesLess (l.getD (i - 1) ByteArray.empty).toList (l.getD i ByteArray.empty).toList = true
      · obtain ⟨r, ih⟩ := featO_ev l hl b (i + 1) (by omega) (by omega) (by omega)
        refine ⟨r, ?_⟩
        unfold featO
        rw [if_pos c, if_pos d]
        refine ev_step ih fun k => ?_
        simp only [feature_Parse.l1, e1, e2]
        rw [if_pos (by omega), if_pos (by omega), if_pos (by omega), if_pos (by omega), if_pos (by unfold rdOf; simpa using d)]
      · refine ⟨[], ?_⟩
        unfold featO
        rw [if_pos c, if_neg d]
        refine ev_step (Ev.now _) fun k => ?_
        simp only [feature_Parse.l1, e1, e2]
        rw [if_pos (by omega), if_pos (by omega), if_pos (by omega), if_pos (by omega), if_neg (by unfold rdOf; simpa using d)]
    · refine ⟨l, ?_⟩
      unfold featO
      rw [if_neg c]
      refine ev_step (Ev.now _) fun k => ?_
      simp only [feature_Parse.l1]
      rw [if_neg (by omega)]
theorem featL_ev (s : ByteArray) (hs : s.size ≤ 120) : ∀ (b : Nat) (l : List ByteArray) (p i : Nat), 1 ≤ p → p ≤ i → i ≤ 200 → l.length ≤ i → s.size ≤ i + b → i ≤ s.size → ∃ r, Ev (fun k => feature_Parse.l0 k s l p i) (r, featL s b l p i)
  | 0, l, p, i, h1, h2, h3, hl, hb, his => by
    obtain ⟨r, h⟩ := featO_ev l (by omega) l.length 1 (by omega) (by omega) (by omega)
    refine ⟨r, ?_⟩
    unfold featL
    refine ev_step h fun k => ?_
    simp only [feature_Parse.l0]
    rw [if_neg (by omega)]
    rfl
  | b + 1, l, p, i, h1, h2, h3, hl, hb, his => by
    by_cases c : i < s.size
    · have e2 : wrap64 ((i : Int) + 1) = ((i + 1 : Nat) : Int) := by rw [w64 (by omega) (by omega)]; omega
      by_cases d : bA s i = 124
      · have d' : bt s (i : Int) = 124 := by rw [bt_bA]; omega
        by_cases e : i = p
        · refine ⟨[], ?_⟩
          unfold featL
          rw [if_pos c, if_pos d, if_pos e]
          refine ev_step (Ev.now _) fun k => ?_
          simp only [feature_Parse.l0]
          rw [if_pos (by omega), if_pos (by omega), if_pos d', if_pos (by omega)]
        · obtain ⟨r, ih⟩ := featL_ev s hs b (l ++ [s.extract p i]) (i + 1) (i + 1) (by omega) (by omega) (by omega) (by simp; omega) (by omega) (by omega)
          refine ⟨r, ?_⟩
          unfold featL
          rw [if_pos c, if_pos d, if_neg e]
          refine ev_step ih fun k => ?_
          simp only [feature_Parse.l0, e2, Int.toNat_natCast]
          rw [if_pos (by omega), if_pos (by omega), if_pos d', if_neg (by omega), if_pos (by omega), if_pos (by omega), if_pos (by omega), if_pos (by omega)]
      · have d' : ¬ bt s (i : Int) = 124 := by rw [bt_bA]; omega
        obtain ⟨r, ih⟩ := featL_ev s hs b l p (i + 1) (by omega) (by omega) (by omega) (by omega) (by omega) (by omega)
        refine ⟨r, ?_⟩
        unfold featL
        rw [if_pos c, if_neg d]
        refine ev_step ih fun k => ?_
        simp only [feature_Parse.l0, e2]
        rw [if_pos (by omega), if_pos (by omega), if_neg d']
    · obtain ⟨r, h⟩ := featO_ev l (by omega) l.length 1 (by omega) (by omega) (by omega)
      refine ⟨r, ?_⟩
      unfold featL
      rw [if_neg c]
      refine ev_step h fun k => ?_
      simp only [feature_Parse.l0]
      rw [if_neg (by omega)]
      rfl
theorem valueE_size {s : ByteArray} (h : valueE s = 0) : s.size ≤ 120 := by
  unfold valueE at h
  split at h
  · exact absurd h (by decide)
  · omega
theorem feat_ev (s : ByteArray) : ∃ r, Ev (fun k => feature_Parse.f k s) (r, featE s) := by
  by_cases hv : valueE s = 0
  case neg =>
    refine ⟨[], ?_⟩
    unfold featE
    rw [if_pos hv]
    refine Ev.congr (fun k => ?_) (Ev.now _)
    simp only [feature_Parse.f, markup_ValidValue.f, Option.bind_some]
    rw [if_neg hv]
  have hs := valueE_size hv
  unfold featE
  rw [if_neg (by simpa using hv)]
  by_cases h1 : s.toList = [124]
  · refine ⟨[], ?_⟩
    rw [if_pos h1]
    refine Ev.congr (fun k => ?_) (Ev.now _)
    simp only [feature_Parse.f, markup_ValidValue.f, Option.bind_some]
    rw [if_pos hv, if_pos h1]
  rw [if_neg h1]
  have hj : ∃ r, Ev (fun k => feature_Parse.j0 k s true) (r, 3) := ⟨[], ev_step (Ev.now _) fun k => by simp only [feature_Parse.j0, if_true]⟩
  by_cases h2 : s.size < 2
  · rw [if_pos (Or.inl h2)]
    obtain ⟨r, hj⟩ := hj
    refine ⟨r, Ev.congr (fun k => ?_) hj⟩
    simp only [feature_Parse.f, markup_ValidValue.f, Option.bind_some]
    rw [if_pos hv, if_neg h1, if_pos (by omega)]
  by_cases h3 : bA s 0 = 124
  case neg =>
    rw [if_pos (Or.inr (Or.inl h3))]
    obtain ⟨r, hj⟩ := hj
    refine ⟨r, Ev.congr (fun k => ?_) hj⟩
    have d' : ¬ bt s 0 = 124 := by have := bt_bA s 0; simp only [Int.ofNat_zero, Int.natCast_zero] at this; rw [this]; omega
    simp only [feature_Parse.f, markup_ValidValue.f, Option.bind_some]
    rw [if_pos hv, if_neg h1, if_neg (by omega), if_pos (by omega), if_neg d']
  have d0 : bt s 0 = 124 := by have := bt_bA s 0; simp only [Int.ofNat_zero, Int.natCast_zero] at this; rw [this]; omega
  have e1 : wrap64 ((s.size : Int) - 1) = ((s.size - 1 : Nat) : Int) := by rw [w64 (by omega) (by omega)]; omega
  by_cases h4 : bA s (s.size - 1) = 124
  case neg =>
    rw [if_pos (Or.inr (Or.inr h4))]
    obtain ⟨r, hj⟩ := hj
    refine ⟨r, Ev.congr (fun k => ?_) hj⟩
    have d' : (bt s (((s.size - 1 : Nat) : Int)) != 124) = true := by rw [bt_bA]; exact bne_iff_ne.2 (by omega)
    simp only [feature_Parse.f, markup_ValidValue.f, Option.bind_some, e1]
    rw [if_pos hv, if_neg h1, if_neg (by omega), if_pos (by omega), if_pos d0, if_pos (by omega), if_pos (by omega), d']
  rw [if_neg (by rintro (h | h | h); · exact h2 h
                 · exact h h3
                 · exact h h4)]
  obtain ⟨r, hl⟩ := featL_ev s hs (s.size - 1) [] 1 1 (by omega) (by omega) (by omega) (by simp) (by omega) (by omega)
  have hl' : Ev (fun k => feature_Parse.j0 k s false) (r, featL s (s.size - 1) [] 1 1) := ev_step hl fun k => by simp only [feature_Parse.j0]; rfl
  refine ⟨r, Ev.congr (fun k => ?_) hl'⟩
  have d' : (bt s (((s.size - 1 : Nat) : Int)) != 124) = false := by rw [bt_bA]; exact bne_eq_false_iff_eq.2 (by omega)
  simp only [feature_Parse.f, markup_ValidValue.f, Option.bind_some, e1]
  rw [if_pos hv, if_neg h1, if_neg (by omega), if_pos (by omega), if_pos d0, if_pos (by omega), if_pos (by omega), d']

/-- The error of a value of an attribute. -/
def avE (a : S55) (v : ByteArray) : Int := if a.f1 = true then featE v else valueE v
theorem avE_ev (a : S55) (v : ByteArray) : Ev (fun k => vertical_errorOfValue.f k a.f0 a.f1 v) (avE a v) := by
  unfold avE
  by_cases h : a.f1 = true
  · rw [if_pos h]
    obtain ⟨r, hr⟩ := feat_ev v
    refine Ev.congr (fun k => ?_) (Ev.bind (f := fun _ a => some a.2) hr (Ev.now (featE v)))
    simp only [vertical_errorOfValue.f]
    rw [if_pos h]
  · rw [if_neg h]
    refine Ev.congr (fun k => ?_) (Ev.now _)
    simp only [vertical_errorOfValue.f, markup_ValidValue.f, Option.bind_some]
    rw [if_neg h]
theorem avE_b (a : S55) (v : ByteArray) (w : World) : Calls Tryd.prog 46 #[.agg #[.string a.f0, .bool a.f1], .string v] w fun e w' => e = .returned (.int .i64 (avE a v)) ∧ Below w.heap.size w w' := by
  obtain ⟨k, hk⟩ := (avE_ev a v).rounds
  exact vertical_errorOfValue.calls k a.f0 a.f1 v _ w hk
end Go.Proofs.YtebajpebongabaaDoor.V
