/- Heads, names and the writer of heads: what the program answers (no reference). Conditions: at most 4096 heads. -/
import Derived.Test.YtkanmafjjejpmaaDoorWAll
import Derived.Test.YtkanmafjjejpmaaDoorPx2
import Derived.Test.YtkanmafjjejpmaaDoorPx3
import Derived.Test.YtkanmafjjejpmaaDoorPx4
import Derived.Test.YtkanmafjjejpmaaDoorPx19
namespace Go.Proofs.YtkanmafjjejpmaaDoor.M
open Go.RowKit Go.Proofs.YtkanmafjjejpmaaDoorW.PrintWords

theorem w64 {x : Int} (h1 : -9223372036854775808 ≤ x) (h2 : x ≤ 9223372036854775807) : wrap64 x = x := by unfold wrap64; omega

theorem ev_step {α : Type} {g f : Nat → Option α} {r : α} (k : Ev f r) (h : ∀ k, g (k + 1) = f k) : Ev g r := Ev.step h k
theorem ev_pos {α : Type} {c : Prop} [Decidable c] {f g : Nat → Option α} {r : α} (hc : c) (h : Ev f r) : Ev (fun k => if c then f k else g k) r := by
  simpa only [if_pos hc] using h
theorem ev_neg {α : Type} {c : Prop} [Decidable c] {f g : Nat → Option α} {r : α} (hc : ¬ c) (h : Ev g r) : Ev (fun k => if c then f k else g k) r := by
  simpa only [if_neg hc] using h
theorem ev_const {α : Type} {o : Option α} {r : α} (h : o = some r) : Ev (fun _ => o) r := by rw [h]; exact Ev.now r
theorem ev_one {α : Type} {g : Nat → Option α} {r : α} (h : ∃ k, g k = some r) (hm : ∀ k, LeO (g k) (g (k + 1))) : Ev g r := h.elim fun _ e => Ev.of hm e

/-- Every element is -1 or an index. -/
def Rng (h : List Int) : Prop := ∀ i : Int, 0 ≤ i → i < h.length → -1 ≤ rd h i ∧ rd h i < h.length

/-- The head of x; -1 behind a root. -/
def nxt (h : List Int) (x : Int) : Int := if x < 0 then -1 else rd h x
def it (h : List Int) : Nat → Int → Int
  | 0, x => x
  | m + 1, x => nxt h (it h m x)

theorem it_add (h : List Int) (a b : Nat) (x : Int) : it h (a + b) x = it h a (it h b x) := by
  induction a with
  | zero => simp [it]
  | succ a ih => rw [show a + 1 + b = (a + b) + 1 by omega]; simp only [it, ih]
theorem it_one (h : List Int) (x : Int) : it h 1 x = nxt h x := rfl
theorem it_succ (h : List Int) (m : Nat) (x : Int) : it h (m + 1) x = it h m (nxt h x) := it_add h m 1 x
theorem it_neg (h : List Int) (m : Nat) {x : Int} (hx : x < 0) : it h m x < 0 := by
  induction m with
  | zero => exact hx
  | succ m ih => simp only [it, nxt, if_pos ih]; omega
theorem it_neg1 (h : List Int) (m : Nat) : it h m (-1) = -1 := by
  induction m with
  | zero => rfl
  | succ m ih => simp only [it, ih]; rfl
/-- What is not negative at last was not negative before. -/
theorem it_nonneg_of {h : List Int} {a b : Nat} {x : Int} (hb : 0 ≤ it h b x) (hab : a ≤ b) : 0 ≤ it h a x := by
  by_cases c : it h a x < 0
  · have := it_neg h (b - a) c
    rw [← it_add, Nat.sub_add_cancel hab] at this
    omega
  · omega
theorem it_rng {h : List Int} (hr : Rng h) (m : Nat) {x : Int} (h0 : -1 ≤ x) (h1 : x < h.length) : -1 ≤ it h m x ∧ it h m x < h.length := by
  induction m with
  | zero => exact ⟨h0, h1⟩
  | succ m ih =>
    simp only [it, nxt]
    split
    · omega
    · exact hr _ (by omega) ih.2

/-- The way from x leads back to x. -/
def Cyc (h : List Int) (x : Int) : Prop := 0 ≤ x ∧ x < h.length ∧ ∃ m, it h (m + 1) x = x

theorem pigeon (n : Nat) : ∀ f : Nat → Nat, (∀ j, j ≤ n → f j < n) → ∃ a b, a < b ∧ b ≤ n ∧ f a = f b := by
  induction n with
  | zero => intro f hf; exact absurd (hf 0 (Nat.le_refl 0)) (Nat.not_lt_zero _)
  | succ n ih =>
    intro f hf
    by_cases hv : ∃ j, j ≤ n ∧ f j = f (n + 1)
    · obtain ⟨j, hj, e⟩ := hv
      exact ⟨j, n + 1, by omega, Nat.le_refl _, e⟩
    · have hv' : ∀ j, j ≤ n → f j ≠ f (n + 1) := fun j hj e => hv ⟨j, hj, e⟩
      have hlast := hf (n + 1) (Nat.le_refl _)
      obtain ⟨a, b, hab, hb, e⟩ := ih (fun j => if f j = n then f (n + 1) else f j) (fun j hj => by
        have h1 := hf j (by omega)
        have h2 := hv' j hj
        split <;> omega)
      have ha := hv' a (by omega)
      have hb' := hv' b hb
      refine ⟨a, b, hab, by omega, ?_⟩
      by_cases ca : f a = n <;> by_cases cb : f b = n
      · omega
      · rw [if_pos ca, if_neg cb] at e; exact absurd e.symm hb'
      · rw [if_neg ca, if_pos cb] at e; exact absurd e ha
      · rwa [if_neg ca, if_neg cb] at e

/-- Among n + 1 places on a way that ends nowhere two are alike. -/
theorem way_meets {h : List Int} (hr : Rng h) {x : Int} (h0 : 0 ≤ x) (h1 : x < h.length) (hn : 0 ≤ it h h.length x) : ∃ a b, a < b ∧ b ≤ h.length ∧ it h a x = it h b x := by
  obtain ⟨a, b, hab, hb, e⟩ := pigeon h.length (fun j => (it h j x).toNat) (fun j hj => by
    have := it_rng hr j (x := x) (by omega) h1
    have := it_nonneg_of hn hj
    omega)
  have := it_nonneg_of hn (show a ≤ h.length by omega)
  have := it_nonneg_of hn hb
  exact ⟨a, b, hab, hb, by omega⟩

/-- The least number of steps that lead back. -/
theorem cyc_period {h : List Int} (hr : Rng h) {x : Int} (hc : Cyc h x) : ∃ p, 1 ≤ p ∧ p ≤ h.length ∧ it h p x = x ∧ ∀ j, 1 ≤ j → j < p → it h j x ≠ x := by
  obtain ⟨h0, hx, m, hm⟩ := hc
  -- the least such number
  have least : ∀ q, ∀ m, m < q → it h (m + 1) x = x → ∃ p, 1 ≤ p ∧ it h p x = x ∧ ∀ j, 1 ≤ j → j < p → it h j x ≠ x := by
    intro q
    induction q with
    | zero => intro m hm; omega
    | succ q ih =>
      intro m hm e
      by_cases c : ∃ j, j < m ∧ it h (j + 1) x = x
      · obtain ⟨j, hj, e'⟩ := c
        exact ih j (by omega) e'
      · refine ⟨m + 1, by omega, e, fun j hj hjm e' => c ⟨j - 1, by omega, ?_⟩⟩
        rwa [Nat.sub_add_cancel hj]
  obtain ⟨p, hp1, hp, hmin⟩ := least (m + 1) m (Nat.lt_succ_self m) hm
  refine ⟨p, hp1, ?_, hp, hmin⟩
  by_cases c : p ≤ h.length
  · exact c
  · exfalso
    have hnn : 0 ≤ it h h.length x := it_nonneg_of (b := p) (by rw [hp]; exact h0) (by omega)
    obtain ⟨a, b, hab, hb, e⟩ := way_meets hr h0 hx hnn
    -- it a x = it b x: then it (p - (b - a)) x = x
    have e2 : it h (p - b + a) x = x := by
      rw [it_add, e, ← it_add, show p - b + b = p by omega, hp]
    exact hmin (p - b + a) (by omega) (by omega) e2

theorem it_mul {h : List Int} {p : Nat} {y : Int} (hp : it h p y = y) (q : Nat) : it h (q * p) y = y := by
  induction q with
  | zero => simp [it]
  | succ q ih => rw [Nat.succ_mul, it_add, hp, ih]
theorem it_mod {h : List Int} {p : Nat} {y : Int} (hp : it h p y = y) (b : Nat) : it h (b % p) y = it h b y := by
  conv => rhs; rw [← Nat.mod_add_div b p]
  rw [it_add, Nat.mul_comm, it_mul hp]
/-- From any place behind x on its cycle the way leads to x. -/
theorem cyc_back {h : List Int} {x : Int} {m : Nat} (hm : it h (m + 1) x = x) (a : Nat) : ∃ b, it h b (it h a x) = x := by
  refine ⟨(a + 1) * (m + 1) - a, ?_⟩
  rw [← it_add, Nat.sub_add_cancel, it_mul hm]
  have : a + 1 ≤ (a + 1) * (m + 1) := Nat.le_mul_of_pos_right _ (by omega)
  omega
theorem cyc_it {h : List Int} (hr : Rng h) {x : Int} (hc : Cyc h x) (a : Nat) (h0 : 0 ≤ it h a x) : Cyc h (it h a x) := by
  obtain ⟨hx, hx', m, hm⟩ := hc
  exact ⟨h0, (it_rng hr a (by omega) hx').2, m, by rw [← it_add, Nat.add_comm, it_add, hm]⟩
theorem cyc_of_meet {h : List Int} (hr : Rng h) {x : Int} (hx : 0 ≤ x) (hx' : x < h.length) {a b : Nat} (hab : a < b) (e : it h a x = it h b x) (h0 : 0 ≤ it h a x) : Cyc h (it h a x) :=
  ⟨h0, (it_rng hr a (by omega) hx').2, b - a - 1, by rw [← it_add, show b - a - 1 + 1 + a = b by omega, e]⟩
/-- Without cycles a way ends. -/
theorem way_ends {h : List Int} (hr : Rng h) (hc : ∀ x, ¬ Cyc h x) {x : Int} (h0 : 0 ≤ x) (h1 : x < h.length) : it h h.length x = -1 := by
  by_cases c : 0 ≤ it h h.length x
  · obtain ⟨a, b, hab, hb, e⟩ := way_meets hr h0 h1 c
    exact absurd (cyc_of_meet hr h0 h1 hab e (it_nonneg_of c (by omega))) (hc _)
  · have := it_rng hr h.length (x := x) (by omega) h1
    omega
end Go.Proofs.YtkanmafjjejpmaaDoor.M
namespace Go.Proofs.YtkanmafjjejpmaaDoor.M
open Go.RowKit Go.Proofs.YtkanmafjjejpmaaDoorW.PrintWords Go.Proofs.YtkanmafjjejpmaaDoor.P

def bad (h : List Int) (i : Int) : Prop := rd h i < -1 ∨ rd h i ≥ h.length

/-- What Check is to give. -/
def Chk (h : List Int) (r : Int × Int) : Prop :=
  (∃ j : Int, 0 ≤ j ∧ j < h.length ∧ bad h j ∧ (∀ i : Int, 0 ≤ i → i < j → ¬ bad h i) ∧ r = (j, 8)) ∨
  (Rng h ∧ ∃ j, Cyc h j ∧ (∀ i, i < j → ¬ Cyc h i) ∧ r = (j, 12)) ∨
  (Rng h ∧ (∀ x, ¬ Cyc h x) ∧ r = (0, 0))

theorem chk_unique {h : List Int} {r q : Int × Int} (hr : Chk h r) (hq : Chk h q) : r = q := by
  have hb : ∀ j : Int, 0 ≤ j → j < h.length → bad h j → ¬ Rng h := fun j h0 h1 hb hR => by
    have := hR j h0 h1
    unfold bad at hb; omega
  rcases hr with ⟨j, a, b, c, d, rfl⟩ | ⟨R, j, c, d, rfl⟩ | ⟨R, d, rfl⟩ <;> rcases hq with ⟨j', a', b', c', d', rfl⟩ | ⟨R', j', c', d', rfl⟩ | ⟨R', d', rfl⟩
  · have h1 : ¬ j < j' := fun e => d' j a e c
    have h2 : ¬ j' < j := fun e => d j' a' e c'
    rw [show j = j' by omega]
  · exact absurd R' (hb j a b c)
  · exact absurd R' (hb j a b c)
  · exact absurd R (hb j' a' b' c')
  · have h1 : ¬ j < j' := fun e => d' j e c
    have h2 : ¬ j' < j := fun e => d j' e c'
    rw [show j = j' by omega]
  · exact absurd c (d' _)
  · exact absurd R (hb j' a' b' c')
  · exact absurd c' (d _)
  · rfl

theorem rng_of_not_bad {h : List Int} (hb : ∀ i : Int, 0 ≤ i → i < h.length → ¬ bad h i) : Rng h := fun i h0 h1 => by
  have := hb i h0 h1
  unfold bad at this; omega

/-- There is a first bad index, or none. -/
theorem first_bad (h : List Int) : (∃ j : Int, 0 ≤ j ∧ j < h.length ∧ bad h j ∧ ∀ i : Int, 0 ≤ i → i < j → ¬ bad h i) ∨ ∀ i : Int, 0 ≤ i → i < h.length → ¬ bad h i := by
  have key : ∀ d : Nat, (∃ j : Int, 0 ≤ j ∧ j < d ∧ bad h j ∧ ∀ i : Int, 0 ≤ i → i < j → ¬ bad h i) ∨ ∀ i : Int, 0 ≤ i → i < d → ¬ bad h i := by
    intro d
    induction d with
    | zero => right; intro i h0 h1; omega
    | succ d ih =>
      rcases ih with ⟨j, a, b, c, e⟩ | ih
      · exact .inl ⟨j, a, by omega, c, e⟩
      · by_cases c : bad h d
        · exact .inl ⟨d, by omega, by omega, c, ih⟩
        · right
          intro i h0 h1
          by_cases e : i = d
          · rw [e]; exact c
          · exact ih i h0 (by omega)
  exact key h.length

theorem check_l0_ok {h : List Int} (hn : h.length ≤ 4096) {r : Int × Int} (hb : ∀ i : Int, 0 ≤ i → i < h.length → ¬ bad h i)
    (k : Ev (fun k => depend_Check.l1 k h (List.replicate h.length 0) (-1) h.length 0) r) (d : Nat) :
    ∀ i : Int, 0 ≤ i → i ≤ h.length → (h.length : Int) - i = d → Ev (fun k => depend_Check.l0 k h h h.length i) r := by
  induction d with
  | zero =>
    intro i h0 h1 hd
    refine ev_step k fun k => ?_
    simp only [depend_Check.l0]
    rw [if_neg (by omega), if_pos (by omega), if_pos (by omega)]
    simp
  | succ d ih =>
    intro i h0 h1 hd
    have hbi := hb i h0 (by omega)
    unfold bad at hbi
    refine ev_step (ih (i + 1) (by omega) (by omega) (by omega)) fun k => ?_
    simp only [depend_Check.l0]
    rw [if_pos (by omega), if_pos h0, if_pos (by omega), if_neg (by omega), if_neg (by omega), w64 (by omega) (by omega)]
theorem check_l0_bad {h : List Int} (hn : h.length ≤ 4096) {j : Int} (hj : j < h.length) (hb : bad h j) (hf : ∀ i : Int, 0 ≤ i → i < j → ¬ bad h i) (d : Nat) :
    ∀ i : Int, 0 ≤ i → i ≤ j → j - i = d → Ev (fun k => depend_Check.l0 k h h h.length i) (j, 8) := by
  induction d with
  | zero =>
    intro i h0 h1 hd
    obtain rfl : i = j := by omega
    refine ev_step (Ev.now _) fun k => ?_
    simp only [depend_Check.l0]
    rw [if_pos (by omega), if_pos h0, if_pos (by omega)]
    unfold bad at hb
    by_cases c : rd h i < -1
    · rw [if_pos c]
    · rw [if_neg c, if_pos (by omega)]
  | succ d ih =>
    intro i h0 h1 hd
    have hbi := hf i h0 (by omega)
    unfold bad at hbi
    refine ev_step (ih (i + 1) (by omega) (by omega) (by omega)) fun k => ?_
    simp only [depend_Check.l0]
    rw [if_pos (by omega), if_pos h0, if_pos (by omega), if_neg (by omega), if_neg (by omega), w64 (by omega) (by omega)]

theorem nxt_pos {h : List Int} {x : Int} (hx : 0 ≤ x) : nxt h x = rd h x := if_neg (by omega)

theorem rd_set {l : List Int} {a x v : Int} (ha0 : 0 ≤ a) (ha : a < l.length) (hx : 0 ≤ x) : rd (l.set a.toNat v) x = if x = a then v else rd l x := by
  unfold rd
  by_cases e : x = a
  · subst e
    rw [if_pos rfl, List.getD_eq_getElem?_getD, List.getElem?_set_self (by omega)]
    rfl
  · rw [if_neg e, List.getD_eq_getElem?_getD, List.getElem?_set_ne (by omega), ← List.getD_eq_getElem?_getD]

def zeros : List Int → Nat
  | [] => 0
  | x :: l => (if x = 0 then 1 else 0) + zeros l
theorem zeros_set : ∀ (l : List Int) (a : Nat) (v : Int), a < l.length → l.getD a 0 = 0 → v ≠ 0 → zeros (l.set a v) + 1 = zeros l
  | [], a, v, h, _, _ => absurd h (Nat.not_lt_zero _)
  | x :: l, 0, v, _, h0, hv => by
    simp only [List.getD_cons_zero] at h0
    simp only [List.set_cons_zero, zeros]
    rw [if_neg hv, if_pos h0]; omega
  | x :: l, a + 1, v, h, h0, hv => by
    simp only [List.getD_cons_succ] at h0
    simp only [List.set_cons_succ, zeros]
    have := zeros_set l a v (by simpa using h) h0 hv
    omega

structure Inv (h : List Int) (i : Int) (seen : List Int) (least : Int) : Prop where
  len : seen.length = h.length
  mark : ∀ x : Int, 0 ≤ x → x < h.length → 0 ≤ rd seen x ∧ rd seen x ≤ i
  closed : ∀ x : Int, 0 ≤ x → x < h.length → rd seen x ≠ 0 → rd h x < 0 ∨ rd seen (rd h x) ≠ 0
  done : ∀ x : Int, 0 ≤ x → x < i → rd seen x ≠ 0
  low : ∀ x : Int, Cyc h x → rd seen x ≠ 0 → 0 ≤ least ∧ least ≤ x
  is : least = -1 ∨ Cyc h least

theorem closed_it {h seen : List Int} (hr : Rng h) (hc : ∀ x : Int, 0 ≤ x → x < h.length → rd seen x ≠ 0 → rd h x < 0 ∨ rd seen (rd h x) ≠ 0) {y : Int} (h0 : 0 ≤ y) (h1 : y < h.length) (hy : rd seen y ≠ 0) (b : Nat) :
    it h b y < 0 ∨ rd seen (it h b y) ≠ 0 := by
  induction b with
  | zero => exact .inr hy
  | succ b ih =>
    by_cases c : it h b y < 0
    · left; simp only [it, nxt, if_pos c]; omega
    · have hb := it_rng hr b (x := y) (by omega) h1
      simp only [it]
      rw [nxt_pos (by omega)]
      rcases ih with ih | ih
      · exact absurd ih c
      · exact hc _ (by omega) hb.2 ih

/-- Around a cycle. -/
theorem check_l3 {h seen : List Int} (hn : h.length ≤ 4096) (hr : Rng h) {i c : Int} (hi0 : 0 ≤ i) (hi : i < h.length) (hc0 : 0 ≤ c) (hc : c < h.length) {p : Nat} (hp : it h p c = c) (hmin : ∀ j, 1 ≤ j → j < p → it h j c ≠ c) (e : Nat) :
    ∀ (j : Nat) (least : Int), 1 ≤ j → j + e = p → 0 ≤ least → ∃ L, 0 ≤ L ∧ (L = least ∨ ∃ j', L = it h j' c) ∧ L ≤ least ∧ (∀ j', j ≤ j' → j' < p → L ≤ it h j' c) ∧
      ∀ r, Ev (fun k => depend_Check.l1 k h seen L h.length (i + 1)) r → Ev (fun k => depend_Check.l3 k h seen least c (it h j c) false h.length i) r := by
  induction e with
  | zero =>
    intro j least hj hje hl
    refine ⟨least, hl, .inl rfl, Int.le_refl _, fun j' h1 h2 => by omega, fun r hr' => ?_⟩
    refine ev_step (f := fun k => depend_Check.j6 k h seen least c (it h j c) h.length i (it h j c != c)) ?_ fun k => ?_
    · refine ev_step hr' fun k => ?_
      rw [show j = p by omega, hp]
      simp only [depend_Check.j6, bne_self_eq_false, Bool.false_eq_true, if_false]
      rw [w64 (by omega) (by omega)]
    · simp only [depend_Check.l3, Bool.false_eq_true, if_false]
  | succ e ih =>
    intro j least hj hje hl
    have hne := hmin j hj (by omega)
    have hnn : 0 ≤ it h j c := it_nonneg_of (b := p) (by rw [hp]; exact hc0) (by omega)
    have hb := it_rng hr j (x := c) (by omega) hc
    have e1 : it h (j + 1) c = rd h (it h j c) := nxt_pos hnn
    obtain ⟨L, hL0, hL1, hL2, hL3, hL4⟩ := ih (j + 1) (if it h j c < least then it h j c else least) (by omega) (by omega) (by split <;> omega)
    refine ⟨L, hL0, ?_, ?_, ?_, fun r hr' => ?_⟩
    · rcases hL1 with hL1 | hL1
      · split at hL1
        · exact .inr ⟨j, hL1⟩
        · exact .inl hL1
      · exact .inr hL1
    · split at hL2 <;> omega
    · intro j' h1 h2
      by_cases ej : j' = j
      · rw [ej]; split at hL2 <;> omega
      · exact hL3 j' (by omega) h2
    · refine ev_step (f := fun k => depend_Check.j6 k h seen least c (it h j c) h.length i (it h j c != c)) ?_ fun k => ?_
      · refine ev_step (hL4 r hr') fun k => ?_
        rw [show (it h j c != c) = true from bne_iff_ne.mpr hne, e1]
        simp only [depend_Check.j6, if_true]
        rw [if_neg (by omega)]
        by_cases c1 : it h j c < least
        · rw [if_pos c1, if_pos hnn, if_pos (by omega), if_pos c1]
        · rw [if_neg c1, if_pos hnn, if_pos (by omega), if_neg c1]
      · simp only [depend_Check.l3, Bool.false_eq_true, if_false]

theorem check_l3_first {h seen : List Int} (hn : h.length ≤ 4096) (hr : Rng h) {i c : Int} (hi0 : 0 ≤ i) (hi : i < h.length) (hcy : Cyc h c) (least : Int) :
    ∃ L, 0 ≤ L ∧ (L = least ∨ ∃ j', L = it h j' c) ∧ (0 ≤ least → L ≤ least) ∧ (∀ b, L ≤ it h b c) ∧
      ∀ r, Ev (fun k => depend_Check.l1 k h seen L h.length (i + 1)) r → Ev (fun k => depend_Check.l3 k h seen least c c true h.length i) r := by
  obtain ⟨p, hp1, hp2, hp, hmin⟩ := cyc_period hr hcy
  have hc0 := hcy.1
  have hc := hcy.2.1
  obtain ⟨L, hL0, hL1, hL2, hL3, hL4⟩ := check_l3 (seen := seen) hn hr hi0 hi hc0 hc hp hmin (p - 1) 1 (if least < 0 then c else if c < least then c else least) (Nat.le_refl _) (by omega) (by repeat' split <;> omega)
  refine ⟨L, hL0, ?_, ?_, ?_, fun r hr' => ?_⟩
  · rcases hL1 with hL1 | hL1
    · split at hL1
      · exact .inr ⟨0, hL1⟩
      · split at hL1
        · exact .inr ⟨0, hL1⟩
        · exact .inl hL1
    · exact .inr hL1
  · intro hl
    rw [if_neg (by omega)] at hL2
    split at hL2 <;> omega
  · intro b
    rw [← it_mod hp b]
    have hb := Nat.mod_lt b (show p > 0 by omega)
    by_cases e0 : b % p = 0
    · rw [e0]
      show L ≤ c
      split at hL2
      · exact hL2
      · split at hL2 <;> omega
    · exact hL3 _ (by omega) hb
  · refine ev_step (f := fun k => depend_Check.j6 k h seen least c c h.length i true) ?_ fun k => ?_
    · refine ev_step (hL4 r hr') fun k => ?_
      rw [show it h 1 c = rd h c from nxt_pos hc0]
      simp only [depend_Check.j6, if_true]
      by_cases c1 : least < 0
      · rw [if_pos c1, if_pos hc0, if_pos hc, if_pos c1]
      · rw [if_neg c1, if_neg c1]
        by_cases c2 : c < least
        · rw [if_pos c2, if_pos hc0, if_pos hc, if_pos c2]
        · rw [if_neg c2, if_pos hc0, if_pos hc, if_neg c2]
    · simp only [depend_Check.l3, if_true]

/-- Along a way, and what follows it. -/
theorem check_l2 {h : List Int} (hn : h.length ≤ 4096) (hr : Rng h) {i least : Int} (hi0 : 0 ≤ i) (hi : i < h.length) {seen0 : List Int} (hI : Inv h i seen0 least)
    (next : ∀ seen L, Inv h (i + 1) seen L → ∃ r, Chk h r ∧ Ev (fun k => depend_Check.l1 k h seen L h.length (i + 1)) r) (d : Nat) :
    ∀ (m : Nat) (seen : List Int), zeros seen < d → seen.length = h.length → (∀ j, j < m → rd seen (it h j i) = i + 1) → (∀ x : Int, 0 ≤ x → x < h.length → (∀ j, j < m → it h j i ≠ x) → rd seen x = rd seen0 x) →
      (∀ j, j < m → 0 ≤ it h j i ∧ rd seen0 (it h j i) = 0) → ∃ r, Chk h r ∧ Ev (fun k => depend_Check.l2 k h seen least i (it h m i) h.length i) r := by
  induction d with
  | zero => intro m seen hz; omega
  | succ d ih =>
    intro m seen hz hlen S1 S2 S3
    have hb := it_rng hr m (x := i) (by omega) hi
    by_cases c0 : 0 ≤ it h m i ∧ rd seen (it h m i) = 0
    · -- one more
      obtain ⟨h0, hs⟩ := c0
      have hz' := zeros_set seen (it h m i).toNat (i + 1) (by omega) hs (by omega)
      have hnew : ∀ j, j < m → it h j i ≠ it h m i := fun j hj e => by have := S1 j hj; rw [e, hs] at this; omega
      obtain ⟨r, hr1, hr2⟩ := ih (m + 1) (seen.set (it h m i).toNat (i + 1)) (by omega) (by simpa using hlen)
        (fun j hj => by
          by_cases ej : j = m
          · rw [ej, rd_set h0 (by omega) h0, if_pos rfl]
          · rw [rd_set h0 (by omega) (S3 j (by omega)).1, if_neg (hnew j (by omega))]
            exact S1 j (by omega))
        (fun x hx0 hx1 hx => by
          rw [rd_set h0 (by omega) hx0, if_neg (fun e => hx m (by omega) e.symm)]
          exact S2 x hx0 hx1 (fun j hj => hx j (by omega)))
        (fun j hj => by
          by_cases ej : j = m
          · rw [ej]; exact ⟨h0, by rw [← S2 _ h0 hb.2 hnew]; exact hs⟩
          · exact S3 j (by omega))
      refine ⟨r, hr1, ev_step hr2 fun k => ?_⟩
      simp only [depend_Check.l2]
      rw [if_pos (by omega), if_pos h0, if_pos (by omega), if_pos hs, if_pos hb.2, w64 (by omega) (by omega), show it h (m + 1) i = rd h (it h m i) from nxt_pos h0]
    · -- the way ends here
      have hstop : it h m i < 0 ∨ rd seen (it h m i) ≠ 0 := by
        by_cases c1 : it h m i < 0
        · exact .inl c1
        · exact .inr (fun e => c0 ⟨by omega, e⟩)
      have hmk : ∀ x : Int, 0 ≤ x → x < h.length → rd seen x = i + 1 ∨ rd seen x = rd seen0 x := fun x hx0 hx1 => by
        by_cases c1 : ∃ j, j < m ∧ it h j i = x
        · obtain ⟨j, hj, e⟩ := c1
          left; rw [← e]; exact S1 j hj
        · right; exact S2 x hx0 hx1 (fun j hj e => c1 ⟨j, hj, e⟩)
      have base : ∀ L, (∀ x : Int, Cyc h x → rd seen x ≠ 0 → 0 ≤ L ∧ L ≤ x) → (L = -1 ∨ Cyc h L) → Inv h (i + 1) seen L := fun L hlow his =>
        { len := hlen
          mark := fun x hx0 hx1 => by
            have := hI.mark x hx0 hx1
            rcases hmk x hx0 hx1 with e | e <;> rw [e] <;> omega
          closed := fun x hx0 hx1 hx => by
            by_cases c1 : ∃ j, j < m ∧ it h j i = x
            · obtain ⟨j, hj, e⟩ := c1
              have e1 : it h (j + 1) i = rd h x := by rw [← e]; exact nxt_pos (by rw [e]; exact hx0)
              by_cases ej : j + 1 = m
              · rw [← e1, ej]; exact hstop
              · right; rw [← e1, S1 (j + 1) (by omega)]; omega
            · have e := S2 x hx0 hx1 (fun j hj e => c1 ⟨j, hj, e⟩)
              rw [e] at hx
              have hrx := hr x hx0 hx1
              rcases hI.closed x hx0 hx1 hx with h2 | h2
              · exact .inl h2
              · by_cases c2 : rd h x < 0
                · exact .inl c2
                · right
                  rcases hmk (rd h x) (by omega) hrx.2 with e2 | e2 <;> rw [e2]
                  · omega
                  · exact h2
          done := fun x hx0 hx1 => by
            by_cases ex : x = i
            · subst ex
              by_cases em : m = 0
              · subst em
                rcases hstop with h2 | h2
                · exact absurd h2 (by show ¬ x < 0; omega)
                · exact h2
              · have := S1 0 (by omega)
                rw [show it h 0 x = x from rfl] at this
                omega
            · rcases hmk x hx0 (by omega) with e | e <;> rw [e]
              · omega
              · exact hI.done x hx0 (by omega)
          low := hlow
          is := his }
      -- no token of this way is on a cycle, unless the way has come back to itself
      have hexit : ∀ r, Ev (fun k => depend_Check.j3 k h seen least i (it h m i) h.length i) r → Ev (fun k => depend_Check.l2 k h seen least i (it h m i) h.length i) r := fun r hj => by
        refine ev_step hj fun k => ?_
        simp only [depend_Check.l2]
        by_cases c1 : it h m i ≥ 0
        · rw [if_pos c1, if_pos c1, if_pos (by omega), if_neg (fun e => c0 ⟨c1, e⟩)]
        · rw [if_neg c1]
      by_cases cB : 0 ≤ it h m i ∧ rd seen (it h m i) = i + 1
      · obtain ⟨h0, hs⟩ := cB
        have hj0 : ∃ j, j < m ∧ it h j i = it h m i := by
          by_cases c1 : ∃ j, j < m ∧ it h j i = it h m i
          · exact c1
          · have e := S2 _ h0 hb.2 (fun j hj e => c1 ⟨j, hj, e⟩)
            have := hI.mark _ h0 hb.2
            omega
        obtain ⟨j0, hj0, ej0⟩ := hj0
        have hcy : Cyc h (it h m i) := by
          rw [← ej0]
          exact cyc_of_meet hr hi0 hi hj0 ej0 (by rw [ej0]; exact h0)
        obtain ⟨L, hL0, hL1, hL2, hL3, hL4⟩ := check_l3_first (seen := seen) hn hr hi0 hi hcy least
        obtain ⟨r, hr1, hr2⟩ := next seen L (base L (fun x hx hsx => by
            refine ⟨hL0, ?_⟩
            by_cases c1 : ∃ j, j < m ∧ it h j i = x
            · obtain ⟨j, hj, e⟩ := c1
              obtain ⟨_, _, m', hm'⟩ := hx
              obtain ⟨b, hb'⟩ := cyc_back hm' (m - j)
              have e2 : it h (m - j) x = it h m i := by rw [← e, ← it_add, Nat.sub_add_cancel (by omega)]
              rw [e2] at hb'
              rw [← hb']
              exact hL3 b
            · have e := S2 x hx.1 hx.2.1 (fun j hj e => c1 ⟨j, hj, e⟩)
              rw [e] at hsx
              have := hI.low x hx hsx
              have := hL2 this.1
              omega)
          (by
            rcases hL1 with e | ⟨j', e⟩
            · rcases hI.is with e2 | e2
              · omega
              · right; rw [e]; exact e2
            · right; rw [e]; exact cyc_it hr hcy j' (by omega)))
        refine ⟨r, hr1, hexit r (ev_step (f := fun k => depend_Check.j4 k h seen least (it h m i) h.length i false) (ev_step (hL4 r hr2) fun k => ?_) fun k => ?_)⟩
        · simp only [depend_Check.j4, Bool.false_eq_true, if_false]
        · simp only [depend_Check.j3]
          rw [if_neg (by omega), if_pos h0, if_pos (by omega), w64 (by omega) (by omega), hs, bne_self_eq_false]
      · have hno : ∀ j, j < m → ¬ Cyc h (it h j i) := fun j hj hx => by
          have hx0 := hx.1
          obtain ⟨_, _, m', hm'⟩ := hx
          obtain ⟨b, hb'⟩ := cyc_back hm' (m - j)
          rw [← it_add h (m - j) j i, Nat.sub_add_cancel (by omega)] at hb'
          rcases hstop with h2 | h2
          · have := it_neg h b h2
            omega
          · by_cases c1 : it h m i < 0
            · have := it_neg h b c1
              omega
            · have hun : rd seen0 (it h m i) ≠ 0 := by
                rcases hmk _ (by omega) hb.2 with e | e
                · exact absurd ⟨by omega, e⟩ cB
                · rwa [← e]
              rcases closed_it hr hI.closed (by omega) hb.2 hun b with h3 | h3
              · omega
              · rw [hb'] at h3
                exact h3 (S3 j hj).2
        obtain ⟨r, hr1, hr2⟩ := next seen least (base least (fun x hx hsx => by
            have e := S2 x hx.1 hx.2.1 (fun j hj e => hno j hj (by rw [e]; exact hx))
            rw [e] at hsx
            exact hI.low x hx hsx) hI.is)
        refine ⟨r, hr1, hexit r (ev_step (f := fun k => depend_Check.j4 k h seen least (it h m i) h.length i true) (ev_step hr2 fun k => ?_) fun k => ?_)⟩
        · simp only [depend_Check.j4, if_true]
          rw [w64 (by omega) (by omega)]
        · simp only [depend_Check.j3]
          by_cases c1 : it h m i < 0
          · rw [if_pos c1]
          · rw [if_neg c1, if_pos (by omega), if_pos (by omega), w64 (by omega) (by omega), show (rd seen (it h m i) != i + 1) = true from bne_iff_ne.mpr (fun e => cB ⟨by omega, e⟩)]

theorem check_l1 {h : List Int} (hn : h.length ≤ 4096) (hr : Rng h) (d : Nat) :
    ∀ (i : Int) (seen : List Int) (least : Int), 0 ≤ i → i + d = h.length → Inv h i seen least → ∃ r, Chk h r ∧ Ev (fun k => depend_Check.l1 k h seen least h.length i) r := by
  induction d with
  | zero =>
    intro i seen least h0 hi hI
    have hall : ∀ x, Cyc h x → 0 ≤ least ∧ least ≤ x := fun x hx => hI.low x hx (hI.done x hx.1 (by have := hx.2.1; omega))
    by_cases c : least ≥ 0
    · have hc : Cyc h least := hI.is.elim (fun e => by omega) id
      refine ⟨(least, 12), .inr (.inl ⟨hr, least, hc, fun x hx hcx => by have := (hall x hcx).2; omega, rfl⟩), ev_step (Ev.now _) fun k => ?_⟩
      simp only [depend_Check.l1]
      rw [if_neg (by omega), if_pos c]
    · refine ⟨(0, 0), .inr (.inr ⟨hr, fun x hx => by have := (hall x hx).1; omega, rfl⟩), ev_step (Ev.now _) fun k => ?_⟩
      simp only [depend_Check.l1]
      rw [if_neg (by omega), if_neg c]
  | succ d ih =>
    intro i seen least h0 hi hI
    obtain ⟨r, hr1, hr2⟩ := check_l2 hn hr h0 (by omega) hI (fun seen' L hI' => ih (i + 1) seen' L (by omega) (by omega) hI') (zeros seen + 1) 0 seen (by omega) hI.len
      (fun j hj => by omega) (fun _ _ _ _ => rfl) (fun j hj => by omega)
    refine ⟨r, hr1, ev_step hr2 fun k => ?_⟩
    simp only [depend_Check.l1]
    rw [if_pos (by omega)]
    rfl

theorem rd_replicate (n : Nat) (x : Int) : rd (List.replicate n 0) x = 0 := by
  unfold rd
  rw [List.getD_eq_getElem?_getD, List.getElem?_replicate]
  split <;> rfl

theorem check_ev {h : List Int} (hn : h.length ≤ 4096) : ∃ r, Chk h r ∧ Ev (fun k => depend_Check.f k h) r := by
  unfold depend_Check.f
  rcases first_bad h with ⟨j, h0, h1, hb, hf⟩ | hb
  · exact ⟨(j, 8), .inl ⟨j, h0, h1, hb, hf, rfl⟩, ev_neg (by omega) (check_l0_bad hn h1 hb hf j.toNat 0 (by omega) h0 (by omega))⟩
  · have hr := rng_of_not_bad hb
    obtain ⟨r, hr1, he⟩ := check_l1 hn hr h.length 0 (List.replicate h.length 0) (-1) (by omega) (by omega)
      { len := List.length_replicate
        mark := fun x _ _ => by rw [rd_replicate]; omega
        closed := fun x _ _ hx => absurd (rd_replicate _ _) hx
        done := fun x _ _ => by omega
        low := fun x _ hx => absurd (rd_replicate _ _) hx
        is := .inl rfl }
    exact ⟨r, hr1, ev_neg (by omega) (check_l0_ok hn hb he h.length 0 (by omega) (by omega) (by omega))⟩

theorem awake_ev : Ev (fun k => corporalaw09_awake.f k) true := Ev.of corporalaw09_awake.mono (k := 60) (by decide +kernel)
end Go.Proofs.YtkanmafjjejpmaaDoor.M
namespace Go.Proofs.YtkanmafjjejpmaaDoor.M
open Go.RowKit Go.Proofs.YtkanmafjjejpmaaDoorW.PrintWords Go.Proofs.YtkanmafjjejpmaaDoorW.PrintMore Go.Proofs.YtkanmafjjejpmaaDoor.P Go.Proofs.YtkanmafjjejpmaaDoor.X

/-- Valid heads. -/
def Ok (h : List Int) : Prop := h.length ≤ 4096 ∧ Rng h ∧ ∀ x, ¬ Cyc h x

theorem chk_ok {h : List Int} (hn : h.length ≤ 4096) {r : Int × Int} (hr : Chk h r) : r.2 = 0 ↔ Ok h := by
  rcases hr with ⟨j, a, b, c, d, rfl⟩ | ⟨R, j, c, d, rfl⟩ | ⟨R, d, rfl⟩
  · refine ⟨(fun e => by cases e), fun hO => ?_⟩
    have := hO.2.1 j a b
    unfold bad at c; omega
  · exact ⟨fun e => (by cases e), fun hO => absurd c (hO.2.2 _)⟩
  · exact ⟨fun _ => ⟨hn, R, d⟩, fun _ => rfl⟩

def begB (c : Int) : Bool := decide ((65 ≤ c ∧ c ≤ 90) ∨ (97 ≤ c ∧ c ≤ 122) ∨ c = 95)
def goB (c : Int) : Bool := begB c || decide ((48 ≤ c ∧ c ≤ 57) ∨ c = 45)

theorem ite_some {c : Prop} [Decidable c] {a b : Bool} : (if c then some a else some b) = some (if c then a else b) := by split <;> rfl
theorem begins_eq (c : Int) : markup_begins.f c = some (begB c) := by
  unfold markup_begins.f begB
  simp only [ite_some]
  congr 1
  rw [Bool.eq_iff_iff, decide_eq_true_iff]
  repeat' split
  all_goals simp
  all_goals omega
theorem goesOn_eq (c : Int) : markup_goesOn.f c = some (goB c) := by
  unfold markup_goesOn.f
  rw [begins_eq]
  simp only [Option.bind_some, ite_some]
  congr 1
  unfold goB
  cases begB c
  · rw [Bool.eq_iff_iff]
    simp only [Bool.false_eq_true, if_false, Bool.false_or, decide_eq_true_iff]
    repeat' split
    all_goals simp
    all_goals omega
  · simp
/-- A name. -/
def NameOk (s : ByteArray) : Prop := 1 ≤ s.size ∧ s.size ≤ 32 ∧ begB (bt s 0) = true ∧ ∀ i : Int, 0 ≤ i → i < s.size → goB (bt s i) = true

theorem name_l0 {s : ByteArray} (hs : s.size ≤ 32) (e : Nat) : ∀ i : Int, 0 ≤ i → i + e = s.size → ∃ b : Bool, (b = true ↔ ∀ j : Int, i ≤ j → j < s.size → goB (bt s j) = true) ∧ Ev (fun k => markup_ValidName.l0 k s s.size i) b := by
  induction e with
  | zero =>
    intro i h0 hi
    refine ⟨true, ⟨fun _ j a b => by omega, fun _ => rfl⟩, ev_step (Ev.now _) fun k => ?_⟩
    simp only [markup_ValidName.l0]
    rw [if_neg (by omega)]
  | succ e ih =>
    intro i h0 hi
    by_cases c : goB (bt s i) = true
    · obtain ⟨b, hb, he⟩ := ih (i + 1) (by omega) (by omega)
      refine ⟨b, hb.trans ⟨fun p j a d => ?_, fun p j a d => p j (by omega) d⟩, ev_step he fun k => ?_⟩
      · by_cases ej : j = i
        · rw [ej]; exact c
        · exact p j (by omega) d
      · simp only [markup_ValidName.l0, goesOn_eq, c, Option.bind_some, if_true]
        rw [if_pos (by omega), if_pos h0, if_pos (by omega), w64 (by omega) (by omega)]
    · refine ⟨false, ⟨fun p => (by cases p), fun p => absurd (p i (Int.le_refl _) (by omega)) c⟩, ev_step (Ev.now _) fun k => ?_⟩
      simp only [markup_ValidName.l0, goesOn_eq, Option.bind_some]
      rw [if_pos (by omega), if_pos h0, if_pos (by omega), if_neg c]
theorem name_no (s : ByteArray) : Ev (fun k => markup_ValidName.j0 k s true) false := ev_step (Ev.now _) fun k => by simp only [markup_ValidName.j0, if_true]
theorem begB_goB {c : Int} (h : begB c = true) : goB c = true := by unfold goB; rw [h]; rfl


theorem name_ev (s : ByteArray) : ∃ b : Bool, (b = true ↔ NameOk s) ∧ Ev (fun k => markup_ValidName.f k s) b := by
  unfold markup_ValidName.f
  by_cases c1 : (s.size : Int) < 1
  · exact ⟨false, ⟨fun p => (by cases p), fun p => by have := p.1; omega⟩, ev_pos c1 (name_no s)⟩
  · by_cases c2 : (s.size : Int) > 32
    · exact ⟨false, ⟨fun p => (by cases p), fun p => by have := p.2.1; omega⟩, ev_neg c1 (ev_pos c2 (name_no s))⟩
    · by_cases c3 : begB (bt s 0) = true
      · obtain ⟨b, hb, he⟩ := name_l0 (s := s) (by omega) s.size 0 (by omega) (by omega)
        refine ⟨b, ⟨fun p => ⟨by omega, by omega, c3, hb.1 p⟩, fun p => hb.2 p.2.2.2⟩, ev_neg c1 (ev_neg c2 (ev_pos (by omega) ?_))⟩
        simp only [begins_eq, c3, Option.bind_some, Bool.not_true]
        exact ev_step he fun k => by simp only [markup_ValidName.j0, Bool.false_eq_true, if_false]
      · refine ⟨false, ⟨fun p => (by cases p), fun p => absurd p.2.2.1 c3⟩, ev_neg c1 (ev_neg c2 (ev_pos (by omega) ?_))⟩
        simp only [begins_eq, Option.bind_some, Bool.not_eq_true _ ▸ c3, Bool.not_false]
        exact name_no s
end Go.Proofs.YtkanmafjjejpmaaDoor.M
