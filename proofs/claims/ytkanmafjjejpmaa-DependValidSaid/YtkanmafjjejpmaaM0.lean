/- Plain facts on heads: ways, cycles, the pigeonhole. No condition. -/
import Derived.Test.YtkanmafjjejpmaaWMore
namespace Go.Proofs.Ytkanmafjjejpmaa.M
open Go.RowKit Go.Proofs.YtkanmafjjejpmaaW.PrintWords

theorem w64 {x : Int} (h1 : -9223372036854775808 ≤ x) (h2 : x ≤ 9223372036854775807) : wrap64 x = x := by unfold wrap64; omega

theorem ev_step {α : Type} {g f : Nat → Option α} {r : α} (k : Ev f r) (h : ∀ k, g (k + 1) = f k) : Ev g r := Ev.step h k
theorem ev_pos {α : Type} {c : Prop} [Decidable c] {f g : Nat → Option α} {r : α} (hc : c) (h : Ev f r) : Ev (fun k => if c then f k else g k) r := by
  simpa only [if_pos hc] using h
theorem ev_neg {α : Type} {c : Prop} [Decidable c] {f g : Nat → Option α} {r : α} (hc : ¬ c) (h : Ev g r) : Ev (fun k => if c then f k else g k) r := by
  simpa only [if_neg hc] using h
theorem ev_const {α : Type} {o : Option α} {r : α} (h : o = some r) : Ev (fun _ => o) r := by rw [h]; exact Ev.now r
theorem ev_one {α : Type} {g : Nat → Option α} {r : α} (h : ∃ k, g k = some r) (hm : ∀ k, LeO (g k) (g (k + 1))) : Ev g r := h.elim fun _ e => Ev.of hm e

/-- Every element is -1 or an index. -/
def Rng (h : List Int) : Prop := ∀ i : Int, 0 ≤ i → i < h.length → -1 ≤ rd h i ∧ rd h i < h.length

/-- The head of x; -1 behind a root. -/
def nxt (h : List Int) (x : Int) : Int := if x < 0 then -1 else rd h x
def it (h : List Int) : Nat → Int → Int
  | 0, x => x
  | m + 1, x => nxt h (it h m x)

theorem it_add (h : List Int) (a b : Nat) (x : Int) : it h (a + b) x = it h a (it h b x) := by
  induction a with
  | zero => simp [it]
  | succ a ih => rw [show a + 1 + b = (a + b) + 1 by omega]; simp only [it, ih]
theorem it_one (h : List Int) (x : Int) : it h 1 x = nxt h x := rfl
theorem it_succ (h : List Int) (m : Nat) (x : Int) : it h (m + 1) x = it h m (nxt h x) := it_add h m 1 x
theorem it_neg (h : List Int) (m : Nat) {x : Int} (hx : x < 0) : it h m x < 0 := by
  induction m with
  | zero => exact hx
  | succ m ih => simp only [it, nxt, if_pos ih]; omega
theorem it_neg1 (h : List Int) (m : Nat) : it h m (-1) = -1 := by
  induction m with
  | zero => rfl
  | succ m ih => simp only [it, ih]; rfl
/-- What is not negative at last was not negative before. -/
theorem it_nonneg_of {h : List Int} {a b : Nat} {x : Int} (hb : 0 ≤ it h b x) (hab : a ≤ b) : 0 ≤ it h a x := by
  by_cases c : it h a x < 0
  · have := it_neg h (b - a) c
    rw [← it_add, Nat.sub_add_cancel hab] at this
    omega
  · omega
theorem it_rng {h : List Int} (hr : Rng h) (m : Nat) {x : Int} (h0 : -1 ≤ x) (h1 : x < h.length) : -1 ≤ it h m x ∧ it h m x < h.length := by
  induction m with
  | zero => exact ⟨h0, h1⟩
  | succ m ih =>
    simp only [it, nxt]
    split
    · omega
    · exact hr _ (by omega) ih.2

/-- The way from x leads back to x. -/
def Cyc (h : List Int) (x : Int) : Prop := 0 ≤ x ∧ x < h.length ∧ ∃ m, it h (m + 1) x = x

theorem pigeon (n : Nat) : ∀ f : Nat → Nat, (∀ j, j ≤ n → f j < n) → ∃ a b, a < b ∧ b ≤ n ∧ f a = f b := by
  induction n with
  | zero => intro f hf; exact absurd (hf 0 (Nat.le_refl 0)) (Nat.not_lt_zero _)
  | succ n ih =>
    intro f hf
    by_cases hv : ∃ j, j ≤ n ∧ f j = f (n + 1)
    · obtain ⟨j, hj, e⟩ := hv
      exact ⟨j, n + 1, by omega, Nat.le_refl _, e⟩
    · have hv' : ∀ j, j ≤ n → f j ≠ f (n + 1) := fun j hj e => hv ⟨j, hj, e⟩
      have hlast := hf (n + 1) (Nat.le_refl _)
      obtain ⟨a, b, hab, hb, e⟩ := ih (fun j => if f j = n then f (n + 1) else f j) (fun j hj => by
        have h1 := hf j (by omega)
        have h2 := hv' j hj
        split <;> omega)
      have ha := hv' a (by omega)
      have hb' := hv' b hb
      refine ⟨a, b, hab, by omega, ?_⟩
      by_cases ca : f a = n <;> by_cases cb : f b = n
      · omega
      · rw [if_pos ca, if_neg cb] at e; exact absurd e.symm hb'
      · rw [if_neg ca, if_pos cb] at e; exact absurd e ha
      · rwa [if_neg ca, if_neg cb] at e

/-- Among n + 1 places on a way that ends nowhere two are alike. -/
theorem way_meets {h : List Int} (hr : Rng h) {x : Int} (h0 : 0 ≤ x) (h1 : x < h.length) (hn : 0 ≤ it h h.length x) : ∃ a b, a < b ∧ b ≤ h.length ∧ it h a x = it h b x := by
  obtain ⟨a, b, hab, hb, e⟩ := pigeon h.length (fun j => (it h j x).toNat) (fun j hj => by
    have := it_rng hr j (x := x) (by omega) h1
    have := it_nonneg_of hn hj
    omega)
  have := it_nonneg_of hn (show a ≤ h.length by omega)
  have := it_nonneg_of hn hb
  exact ⟨a, b, hab, hb, by omega⟩

/-- The least number of steps that lead back. -/
theorem cyc_period {h : List Int} (hr : Rng h) {x : Int} (hc : Cyc h x) : ∃ p, 1 ≤ p ∧ p ≤ h.length ∧ it h p x = x ∧ ∀ j, 1 ≤ j → j < p → it h j x ≠ x := by
  obtain ⟨h0, hx, m, hm⟩ := hc
  -- the least such number
  have least : ∀ q, ∀ m, m < q → it h (m + 1) x = x → ∃ p, 1 ≤ p ∧ it h p x = x ∧ ∀ j, 1 ≤ j → j < p → it h j x ≠ x := by
    intro q
    induction q with
    | zero => intro m hm; omega
    | succ q ih =>
      intro m hm e
      by_cases c : ∃ j, j < m ∧ it h (j + 1) x = x
      · obtain ⟨j, hj, e'⟩ := c
        exact ih j (by omega) e'
      · refine ⟨m + 1, by omega, e, fun j hj hjm e' => c ⟨j - 1, by omega, ?_⟩⟩
        rwa [Nat.sub_add_cancel hj]
  obtain ⟨p, hp1, hp, hmin⟩ := least (m + 1) m (Nat.lt_succ_self m) hm
  refine ⟨p, hp1, ?_, hp, hmin⟩
  by_cases c : p ≤ h.length
  · exact c
  · exfalso
    have hnn : 0 ≤ it h h.length x := it_nonneg_of (b := p) (by rw [hp]; exact h0) (by omega)
    obtain ⟨a, b, hab, hb, e⟩ := way_meets hr h0 hx hnn
    -- it a x = it b x: then it (p - (b - a)) x = x
    have e2 : it h (p - b + a) x = x := by
      rw [it_add, e, ← it_add, show p - b + b = p by omega, hp]
    exact hmin (p - b + a) (by omega) (by omega) e2

theorem it_mul {h : List Int} {p : Nat} {y : Int} (hp : it h p y = y) (q : Nat) : it h (q * p) y = y := by
  induction q with
  | zero => simp [it]
  | succ q ih => rw [Nat.succ_mul, it_add, hp, ih]
theorem it_mod {h : List Int} {p : Nat} {y : Int} (hp : it h p y = y) (b : Nat) : it h (b % p) y = it h b y := by
  conv => rhs; rw [← Nat.mod_add_div b p]
  rw [it_add, Nat.mul_comm, it_mul hp]
/-- From any place behind x on its cycle the way leads to x. -/
theorem cyc_back {h : List Int} {x : Int} {m : Nat} (hm : it h (m + 1) x = x) (a : Nat) : ∃ b, it h b (it h a x) = x := by
  refine ⟨(a + 1) * (m + 1) - a, ?_⟩
  rw [← it_add, Nat.sub_add_cancel, it_mul hm]
  have : a + 1 ≤ (a + 1) * (m + 1) := Nat.le_mul_of_pos_right _ (by omega)
  omega
theorem cyc_it {h : List Int} (hr : Rng h) {x : Int} (hc : Cyc h x) (a : Nat) (h0 : 0 ≤ it h a x) : Cyc h (it h a x) := by
  obtain ⟨hx, hx', m, hm⟩ := hc
  exact ⟨h0, (it_rng hr a (by omega) hx').2, m, by rw [← it_add, Nat.add_comm, it_add, hm]⟩
theorem cyc_of_meet {h : List Int} (hr : Rng h) {x : Int} (hx : 0 ≤ x) (hx' : x < h.length) {a b : Nat} (hab : a < b) (e : it h a x = it h b x) (h0 : 0 ≤ it h a x) : Cyc h (it h a x) :=
  ⟨h0, (it_rng hr a (by omega) hx').2, b - a - 1, by rw [← it_add, show b - a - 1 + 1 + a = b by omega, e]⟩
/-- Without cycles a way ends. -/
theorem way_ends {h : List Int} (hr : Rng h) (hc : ∀ x, ¬ Cyc h x) {x : Int} (h0 : 0 ≤ x) (h1 : x < h.length) : it h h.length x = -1 := by
  by_cases c : 0 ≤ it h h.length x
  · obtain ⟨a, b, hab, hb, e⟩ := way_meets hr h0 h1 c
    exact absurd (cyc_of_meet hr h0 h1 hab e (it_nonneg_of c (by omega))) (hc _)
  · have := it_rng hr h.length (x := x) (by omega) h1
    omega
end Go.Proofs.Ytkanmafjjejpmaa.M
