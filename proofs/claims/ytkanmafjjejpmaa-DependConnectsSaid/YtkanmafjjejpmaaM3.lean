/- Connections of two tokens, by the program and by the reference. Condition: at most 4096 heads. -/
import Derived.Test.YtkanmafjjejpmaaM2
import Derived.Test.YtkanmafjjejpmaaPx6
import Derived.Test.YtkanmafjjejpmaaPx19
namespace Go.Proofs.Ytkanmafjjejpmaa.M
open Go.RowKit Go.Proofs.YtkanmafjjejpmaaW.PrintWords Go.Proofs.Ytkanmafjjejpmaa.P

/-- The first place i of u that stands in d, there at the first place k. -/
def Meet (u d : List Int) (i k : Int) : Prop :=
  0 ≤ i ∧ i < u.length ∧ 0 ≤ k ∧ k < d.length ∧ rd u i = rd d k ∧ (∀ i' k' : Int, 0 ≤ i' → i' < i → 0 ≤ k' → k' < d.length → rd u i' ≠ rd d k') ∧ ∀ k' : Int, 0 ≤ k' → k' < k → rd u i ≠ rd d k'
def Apart (u d : List Int) : Prop := ∀ i k : Int, 0 ≤ i → i < u.length → 0 ≤ k → k < d.length → rd u i ≠ rd d k

/-- The least number with a property below n. -/
theorem least_or (p : Int → Prop) (n : Nat) : (∃ i : Int, 0 ≤ i ∧ i < n ∧ p i ∧ ∀ j : Int, 0 ≤ j → j < i → ¬ p j) ∨ ∀ i : Int, 0 ≤ i → i < n → ¬ p i := by
  induction n with
  | zero => right; intro i h0 h1; omega
  | succ d ih =>
    rcases ih with ⟨j, a, b, c, e⟩ | ih
    · exact .inl ⟨j, a, by omega, c, e⟩
    · by_cases c : p d
      · exact .inl ⟨d, by omega, by omega, c, ih⟩
      · right
        intro i h0 h1
        by_cases e : i = d
        · rw [e]; exact c
        · exact ih i h0 (by omega)

theorem meet_or (u d : List Int) : (∃ i k, Meet u d i k) ∨ Apart u d := by
  rcases least_or (fun i => ∃ k : Int, 0 ≤ k ∧ k < d.length ∧ rd u i = rd d k) u.length with ⟨i, h0, h1, ⟨k0, hk0, hk1, hk⟩, hf⟩ | hn
  · left
    rcases least_or (fun k => rd u i = rd d k) d.length with ⟨k, g0, g1, g2, g3⟩ | hn
    · exact ⟨i, k, h0, h1, g0, g1, g2, fun i' k' a b c e f => hf i' a b ⟨k', c, e, f⟩, g3⟩
    · exact absurd hk (hn k0 hk0 hk1)
  · right
    exact fun i k a b c e f => hn i a b ⟨k, c, e, f⟩

theorem snoc_take {d : List Int} {j : Int} (h0 : 0 ≤ j) (h1 : j < d.length) : d.take (j + 1).toNat = d.take j.toNat ++ [rd d j] := by
  rw [show (j + 1).toNat = j.toNat + 1 by omega, List.take_succ_eq_append_getElem (by omega)]
  unfold rd
  rw [List.getD_eq_getElem?_getD, List.getElem?_eq_getElem (by omega)]
  rfl

/-- Backwards through what was cut off. -/
theorem path_l2 {d : List Int} (hd : d.length ≤ 5000) (e : Nat) : ∀ (j : Int) (acc : List Int), j + 1 = e → j < d.length → acc.length + e ≤ 10000 →
    Ev (fun k => depend_Path.l2 k acc d j) (acc ++ (d.take (j + 1).toNat).reverse, 0) := by
  induction e with
  | zero =>
    intro j acc hj hl hb
    refine ev_step (Ev.now _) fun k => ?_
    simp only [depend_Path.l2]
    rw [if_neg (by omega), show (j + 1).toNat = 0 by omega]
    simp
  | succ e ih =>
    intro j acc hj hl hb
    have h0 : 0 ≤ j := by omega
    refine ev_step (f := fun k => depend_Path.l2 k (acc ++ [rd d j]) d (j - 1)) ?_ fun k => ?_
    · have := ih (j - 1) (acc ++ [rd d j]) (by omega) (by omega) (by simp; omega)
      rw [show j - 1 + 1 = j by omega] at this
      rw [snoc_take h0 hl, List.reverse_append]
      simpa using this
    · simp only [depend_Path.l2]
      rw [if_pos h0, if_pos h0, if_pos hl, if_pos (by omega), w64 (by omega) (by omega)]
theorem rpath_l2 {d : List Int} (hd : d.length ≤ 5000) (e : Nat) : ∀ (j : Int) (acc : List Int), j + 1 = e → j < d.length → acc.length + e ≤ 10000 →
    Ev (fun k => corporaref09_Path.l2 k d acc j) (acc ++ (d.take (j + 1).toNat).reverse, 0) := by
  induction e with
  | zero =>
    intro j acc hj hl hb
    refine ev_step (Ev.now _) fun k => ?_
    simp only [corporaref09_Path.l2]
    rw [if_neg (by omega), show (j + 1).toNat = 0 by omega]
    simp
  | succ e ih =>
    intro j acc hj hl hb
    have h0 : 0 ≤ j := by omega
    refine ev_step (f := fun k => corporaref09_Path.l2 k d (acc ++ [rd d j]) (j - 1)) ?_ fun k => ?_
    · have := ih (j - 1) (acc ++ [rd d j]) (by omega) (by omega) (by simp; omega)
      rw [show j - 1 + 1 = j by omega] at this
      rw [snoc_take h0 hl, List.reverse_append]
      simpa using this
    · simp only [corporaref09_Path.l2]
      rw [if_pos h0, if_pos h0, if_pos hl, if_pos (by omega), w64 (by omega) (by omega)]

/-- What both give where the ways meet. -/
def joined (u d : List Int) (i k : Int) : List Int := u.take (i + 1).toNat ++ (d.take k.toNat).reverse

section
variable {h u d : List Int} (hu : u.length ≤ 4096) (hd : d.length ≤ 4096)
include hu hd

theorem path_l1_miss {i : Int} {r : List Int × Int} (h0 : 0 ≤ i) (hi : i < u.length) (hm : ∀ k : Int, 0 ≤ k → k < d.length → rd u i ≠ rd d k)
    (next : Ev (fun k => depend_Path.l0 k h u d u u.length (i + 1)) r) (e : Nat) : ∀ k : Int, 0 ≤ k → k + e = d.length → Ev (fun n => depend_Path.l1 n h u d i (rd u i) u u.length i d d.length k) r := by
  induction e with
  | zero =>
    intro k hk0 hk
    refine ev_step next fun n => ?_
    simp only [depend_Path.l1]
    rw [if_neg (by omega), w64 (by omega) (by omega)]
  | succ e ih =>
    intro k hk0 hk
    refine ev_step (ih (k + 1) (by omega) (by omega)) fun n => ?_
    simp only [depend_Path.l1]
    rw [if_pos (by omega), if_pos hk0, if_pos (by omega), if_neg (hm k hk0 (by omega)), w64 (x := k + 1) (by omega) (by omega)]
theorem path_l1_hit {i k0 : Int} {r : List Int × Int} (h0 : 0 ≤ i) (hi : i < u.length) (hk1 : k0 < d.length) (he : rd u i = rd d k0) (hm : ∀ k : Int, 0 ≤ k → k < k0 → rd u i ≠ rd d k)
    (next : Ev (fun n => depend_Path.j3 n h (u.take (i + 1).toNat) (d.take k0.toNat)) r) (e : Nat) : ∀ k : Int, 0 ≤ k → k + e = k0 → Ev (fun n => depend_Path.l1 n h u d i (rd u i) u u.length i d d.length k) r := by
  induction e with
  | zero =>
    intro k hk0 hk
    obtain rfl : k = k0 := by omega
    refine ev_step next fun n => ?_
    simp only [depend_Path.l1]
    rw [if_pos hk1, if_pos hk0, if_pos hk1, if_pos he, w64 (by omega) (by omega), if_pos (by omega), if_pos (by omega), if_pos (by omega)]
  | succ e ih =>
    intro k hk0 hk
    refine ev_step (ih (k + 1) (by omega) (by omega)) fun n => ?_
    simp only [depend_Path.l1]
    rw [if_pos (by omega), if_pos hk0, if_pos (by omega), if_neg (hm k hk0 (by omega)), w64 (x := k + 1) (by omega) (by omega)]
theorem path_l0_miss {r : List Int × Int} (ha : Apart u d) (next : Ev (fun n => depend_Path.j3 n h u d) r) (e : Nat) : ∀ i : Int, 0 ≤ i → i + e = u.length → Ev (fun n => depend_Path.l0 n h u d u u.length i) r := by
  induction e with
  | zero =>
    intro i h0 hi
    refine ev_step next fun n => ?_
    simp only [depend_Path.l0]
    rw [if_neg (by omega)]
  | succ e ih =>
    intro i h0 hi
    refine ev_step (path_l1_miss hu hd h0 (by omega) (fun k a b => ha i k h0 (by omega) a b) (ih (i + 1) (by omega) (by omega)) d.length 0 (by omega) (by omega)) fun n => ?_
    simp only [depend_Path.l0]
    rw [if_pos (by omega), if_pos h0, if_pos (by omega)]
theorem path_l0_hit {i0 k0 : Int} {r : List Int × Int} (hm : Meet u d i0 k0) (next : Ev (fun n => depend_Path.j3 n h (u.take (i0 + 1).toNat) (d.take k0.toNat)) r) (e : Nat) :
    ∀ i : Int, 0 ≤ i → i + e = i0 → Ev (fun n => depend_Path.l0 n h u d u u.length i) r := by
  obtain ⟨a1, a2, a3, a4, a5, a6, a7⟩ := hm
  induction e with
  | zero =>
    intro i h0 hi
    obtain rfl : i = i0 := by omega
    refine ev_step (path_l1_hit hu hd h0 a2 a4 a5 a7 next k0.toNat 0 (by omega) (by omega)) fun n => ?_
    simp only [depend_Path.l0]
    rw [if_pos (by omega), if_pos h0, if_pos (by omega)]
  | succ e ih =>
    intro i h0 hi
    refine ev_step (path_l1_miss hu hd h0 (by omega) (fun k a b => a6 i k h0 (by omega) a b) (ih (i + 1) (by omega) (by omega)) d.length 0 (by omega) (by omega)) fun n => ?_
    simp only [depend_Path.l0]
    rw [if_pos (by omega), if_pos h0, if_pos (by omega)]

theorem rpath_l1_miss {i : Int} {r : List Int × Int} (h0 : 0 ≤ i) (hi : i < u.length) (hm : ∀ k : Int, 0 ≤ k → k < d.length → rd u i ≠ rd d k)
    (next : Ev (fun k => corporaref09_Path.l0 k u d u.length (i + 1)) r) (e : Nat) : ∀ k : Int, 0 ≤ k → k + e = d.length → Ev (fun n => corporaref09_Path.l1 n u d i u.length i d.length k) r := by
  induction e with
  | zero =>
    intro k hk0 hk
    refine ev_step next fun n => ?_
    simp only [corporaref09_Path.l1]
    rw [if_neg (by omega), w64 (by omega) (by omega)]
  | succ e ih =>
    intro k hk0 hk
    refine ev_step (ih (k + 1) (by omega) (by omega)) fun n => ?_
    simp only [corporaref09_Path.l1]
    rw [if_pos (by omega), if_pos h0, if_pos hi, if_pos hk0, if_pos (by omega), if_neg (hm k hk0 (by omega)), w64 (x := k + 1) (by omega) (by omega)]
theorem rpath_l1_hit {i k0 : Int} (h0 : 0 ≤ i) (hi : i < u.length) (hk1 : k0 < d.length) (he : rd u i = rd d k0) (hm : ∀ k : Int, 0 ≤ k → k < k0 → rd u i ≠ rd d k) (e : Nat) :
    ∀ k : Int, 0 ≤ k → k + e = k0 → Ev (fun n => corporaref09_Path.l1 n u d i u.length i d.length k) (joined u d i k0, 0) := by
  induction e with
  | zero =>
    intro k hk0 hk
    obtain rfl : k = k0 := by omega
    refine ev_step (f := fun n => corporaref09_Path.l2 n d (u.take (i + 1).toNat) (k - 1)) ?_ fun n => ?_
    · have := rpath_l2 (d := d) (by omega) k.toNat (k - 1) (u.take (i + 1).toNat) (by omega) (by omega) (by have := List.length_take_le (i + 1).toNat u; omega)
      rw [show k - 1 + 1 = k by omega] at this
      exact this
    · simp only [corporaref09_Path.l1]
      rw [if_pos hk1, if_pos h0, if_pos hi, if_pos hk0, if_pos hk1, if_pos he, w64 (x := i + 1) (by omega) (by omega), if_pos (by omega), if_pos (by omega)]
      simp only [Option.bind_some]
      rw [if_pos (by have := List.length_take_le (i + 1).toNat u; simp only [List.length_nil]; omega), w64 (by omega) (by omega), List.nil_append]
  | succ e ih =>
    intro k hk0 hk
    refine ev_step (ih (k + 1) (by omega) (by omega)) fun n => ?_
    simp only [corporaref09_Path.l1]
    rw [if_pos (by omega), if_pos h0, if_pos hi, if_pos hk0, if_pos (by omega), if_neg (hm k hk0 (by omega)), w64 (x := k + 1) (by omega) (by omega)]
theorem rpath_l0_miss (ha : Apart u d) (e : Nat) : ∀ i : Int, 0 ≤ i → i + e = u.length → Ev (fun n => corporaref09_Path.l0 n u d u.length i) ([], 11) := by
  induction e with
  | zero =>
    intro i h0 hi
    refine ev_step (Ev.now _) fun n => ?_
    simp only [corporaref09_Path.l0]
    rw [if_neg (by omega)]
  | succ e ih =>
    intro i h0 hi
    refine ev_step (rpath_l1_miss hu hd h0 (by omega) (fun k a b => ha i k h0 (by omega) a b) (ih (i + 1) (by omega) (by omega)) d.length 0 (by omega) (by omega)) fun n => ?_
    simp only [corporaref09_Path.l0]
    rw [if_pos (by omega)]
theorem rpath_l0_hit {i0 k0 : Int} (hm : Meet u d i0 k0) (e : Nat) :
    ∀ i : Int, 0 ≤ i → i + e = i0 → Ev (fun n => corporaref09_Path.l0 n u d u.length i) (joined u d i0 k0, 0) := by
  obtain ⟨a1, a2, a3, a4, a5, a6, a7⟩ := hm
  induction e with
  | zero =>
    intro i h0 hi
    obtain rfl : i = i0 := by omega
    refine ev_step (rpath_l1_hit hu hd h0 a2 a4 a5 a7 k0.toNat 0 (by omega) (by omega)) fun n => ?_
    simp only [corporaref09_Path.l0]
    rw [if_pos (by omega)]
  | succ e ih =>
    intro i h0 hi
    refine ev_step (rpath_l1_miss hu hd h0 (by omega) (fun k a b => a6 i k h0 (by omega) a b) (ih (i + 1) (by omega) (by omega)) d.length 0 (by omega) (by omega)) fun n => ?_
    simp only [corporaref09_Path.l0]
    rw [if_pos (by omega)]
end

theorem path_bad {h : List Int} {a b : Int} : Ev (fun k => depend_Path.j0 k h a b true) ([], 1) :=
  ev_step (Ev.now _) fun k => by simp only [depend_Path.j0, if_true]
theorem rpath_bad {h : List Int} {a b : Int} : Ev (fun k => corporaref09_Path.j0 k h a b true) ([], 1) :=
  ev_step (Ev.now _) fun k => by simp only [corporaref09_Path.j0, if_true]

/-- What Path is to give. -/
def Pth (h : List Int) (a b : Int) (r : List Int × Int) : Prop :=
  (¬ (Ok h ∧ idx h a ∧ idx h b) ∧ r = ([], 1)) ∨
  (Ok h ∧ idx h a ∧ idx h b ∧ Apart (way h a) (way h b) ∧ r = ([], 11)) ∨
  (Ok h ∧ idx h a ∧ idx h b ∧ ∃ i k, Meet (way h a) (way h b) i k ∧ r = (joined (way h a) (way h b) i k, 0))

theorem way_len {h : List Int} (hO : Ok h) {x : Int} (hx : idx h x) : 1 ≤ (way h x).length ∧ (way h x).length ≤ 4096 := by
  have := wl_len h h.length x
  have := hO.1
  refine ⟨?_, by unfold way; omega⟩
  rw [way_cons hO hx]; simp
theorem way_rd {h : List Int} {x : Int} {j : Nat} (hj : j < (way h x).length) : rd (way h x) j = it h j x ∧ 0 ≤ it h j x := wl_get h _ x j hj
theorem way_last {h : List Int} (hO : Ok h) {x : Int} (hx : idx h x) : it h (way h x).length x < 0 :=
  wl_end h _ x (by rw [way_ends hO.2.1 hO.2.2 hx.1 hx.2]; omega)

theorem path_j0 {h : List Int} (hO : Ok h) {a b : Int} (ha : idx h a) (hb : idx h b) : ∃ r, Pth h a b r ∧ Ev (fun k => depend_Path.j0 k h a b false) r ∧ Ev (fun k => corporaref09_Path.j0 k h a b false) r := by
  have hla := way_len hO ha
  have hlb := way_len hO hb
  have s1 : ∀ r, Ev (fun n => depend_Path.l0 n h (way h a) (way h b) (way h a) (way h a).length 0) r → Ev (fun k => depend_Path.j0 k h a b false) r := fun r he => by
    refine ev_step (f := fun k => (depend_way.f k h a).bind fun t => (depend_way.f k h b).bind fun t' => depend_Path.l0 k h t t' t t.length 0) ((way_ev hO ha).bind ((way_ev hO hb).bind he)) fun k => ?_
    simp [depend_Path.j0]
  have s2 : ∀ r, Ev (fun n => corporaref09_Path.l0 n (way h a) (way h b) (way h a).length 0) r → Ev (fun k => corporaref09_Path.j0 k h a b false) r := fun r he => by
    refine ev_step (f := fun k => (corporaref09_Way.f k h a).bind fun t => (corporaref09_Way.f k h b).bind fun t' => corporaref09_Path.l0 k t t' t.length 0) ((rway_ev hO ha).bind ((rway_ev hO hb).bind he)) fun k => ?_
    simp [corporaref09_Path.j0]
  rcases meet_or (way h a) (way h b) with ⟨i, k, hm⟩ | hA
  · refine ⟨_, .inr (.inr ⟨hO, ha, hb, i, k, hm, rfl⟩), s1 _ (path_l0_hit hla.2 hlb.2 hm ?_ i.toNat 0 (by omega) (by have := hm.1; omega)), s2 _ (rpath_l0_hit hla.2 hlb.2 hm i.toNat 0 (by omega) (by have := hm.1; omega))⟩
    obtain ⟨a1, a2, a3, a4, a5, a6, a7⟩ := hm
    have hl2 : Ev (fun n => depend_Path.j4 n ((way h a).take (i + 1).toNat) ((way h b).take k.toNat) false) (joined (way h a) (way h b) i k, 0) := by
      have e1 : ((way h b).take k.toNat).length = k.toNat := by rw [List.length_take]; omega
      have := path_l2 (d := (way h b).take k.toNat) (by omega) k.toNat (k - 1) ((way h a).take (i + 1).toNat) (by omega) (by omega) (by have := List.length_take_le (i + 1).toNat (way h a); omega)
      rw [show k - 1 + 1 = k by omega, List.take_take, Nat.min_self] at this
      refine ev_step this fun n => ?_
      simp only [depend_Path.j4, Bool.false_eq_true, if_false]
      rw [e1, w64 (by omega) (by omega), show ((k.toNat : Nat) : Int) - 1 = k - 1 by omega]
    by_cases ck : k = 0
    · refine ev_step hl2 fun n => ?_
      simp only [depend_Path.j3]
      rw [if_neg (by rw [ck]; simp)]
    · refine ev_step hl2 fun n => ?_
      have e1 : ((way h b).take k.toNat).length = k.toNat := by rw [List.length_take]; omega
      have e2 : ((way h a).take (i + 1).toNat).length = (i + 1).toNat := by rw [List.length_take]; omega
      have e3 : rd ((way h b).take k.toNat) (k - 1) = it h (k - 1).toNat b := by
        rw [← (way_rd (h := h) (x := b) (j := (k - 1).toNat) (by omega)).1]
        unfold rd
        rw [List.getD_eq_getElem?_getD, List.getElem?_take, if_pos (by omega), List.getD_eq_getElem?_getD, show ((k - 1).toNat : Int).toNat = (k - 1).toNat by omega]
      have e4 : rd ((way h a).take (i + 1).toNat) i = rd (way h a) i := by
        unfold rd
        rw [List.getD_eq_getElem?_getD, List.getElem?_take, if_pos (by omega), List.getD_eq_getElem?_getD]
      have e5 : 0 ≤ it h (k - 1).toNat b := (way_rd (by omega)).2
      have e6 := it_rng hO.2.1 (k - 1).toNat (x := b) (by have := hb.1; omega) hb.2
      have e7 : rd h (it h (k - 1).toNat b) = rd (way h a) i := by
        rw [a5, ← nxt_pos e5]
        have := (way_rd (h := h) (x := b) (j := k.toNat) (by omega)).1
        rw [show ((k.toNat : Nat) : Int) = k by omega] at this
        rw [this, show k.toNat = (k - 1).toNat + 1 by omega]
        rfl
      simp only [depend_Path.j3]
      rw [e1, e2, w64 (x := ((k.toNat : Nat) : Int) - 1) (by omega) (by omega), w64 (x := (((i + 1).toNat : Nat) : Int) - 1) (by omega) (by omega), show ((k.toNat : Nat) : Int) - 1 = k - 1 by omega, show (((i + 1).toNat : Nat) : Int) - 1 = i by omega, e3, e4, e7, bne_self_eq_false]
      rw [if_pos (by omega), if_pos (by omega), if_pos (by omega), if_pos e5, if_pos (by omega), if_pos a1, if_pos (by omega)]
  · refine ⟨_, .inr (.inl ⟨hO, ha, hb, hA, rfl⟩), s1 _ (path_l0_miss hla.2 hlb.2 hA ?_ (way h a).length 0 (by omega) (by omega)), s2 _ (rpath_l0_miss hla.2 hlb.2 hA (way h a).length 0 (by omega) (by omega))⟩
    refine ev_step (f := fun n => depend_Path.j4 n (way h a) (way h b) true) (ev_step (Ev.now _) fun n => by simp only [depend_Path.j4, if_true]) fun n => ?_
    have e3 := way_rd (h := h) (x := b) (j := (way h b).length - 1) (by omega)
    have e4 := way_rd (h := h) (x := a) (j := (way h a).length - 1) (by omega)
    have e5 := way_last hO hb
    have e6 := it_rng hO.2.1 ((way h b).length - 1) (x := b) (by have := hb.1; omega) hb.2
    have e7 : rd h (it h ((way h b).length - 1) b) < 0 := by
      rw [← nxt_pos e3.2]
      rwa [show (way h b).length = (way h b).length - 1 + 1 by omega] at e5
    rw [show (((way h b).length - 1 : Nat) : Int) = ((way h b).length : Int) - 1 by omega] at e3
    rw [show (((way h a).length - 1 : Nat) : Int) = ((way h a).length : Int) - 1 by omega] at e4
    simp only [depend_Path.j3]
    rw [w64 (x := ((way h b).length : Int) - 1) (by omega) (by omega), w64 (x := ((way h a).length : Int) - 1) (by omega) (by omega), e3.1, e4.1]
    rw [if_pos (by omega), if_pos (by omega), if_pos (by omega), if_pos e3.2, if_pos (by omega), if_pos (by omega), if_pos (by omega)]
    rw [show (rd h (it h ((way h b).length - 1) b) != it h ((way h a).length - 1) a) = true from bne_iff_ne.mpr (by omega)]

theorem path_ev {h : List Int} (hn : h.length ≤ 4096) (a b : Int) : ∃ r, Pth h a b r ∧ Ev (fun k => depend_Path.f k h a b) r ∧ Ev (fun k => corporaref09_Path.f k h a b) r := by
  obtain ⟨t, ht, he⟩ := usable_ev hn a
  obtain ⟨v, hv, hve⟩ := valid_ev hn
  by_cases c : Ok h ∧ idx h a ∧ idx h b
  · obtain ⟨hO, ha, hb⟩ := c
    obtain ⟨r, h1, h2, h3⟩ := path_j0 hO ha hb
    refine ⟨r, h1, ?_, ?_⟩
    · obtain rfl := ht.2 ⟨hO, ha⟩
      refine he.bind (ev_pos rfl (ev_neg (by have := hb.1; omega) ?_))
      rw [show decide (b ≥ (h.length : Int)) = false from decide_eq_false (by have := hb.2; omega)]
      exact h2
    · obtain rfl := hv.2 hO
      refine hve.bind (ev_pos rfl (ev_neg (by have := ha.1; omega) (ev_neg (by have := ha.2; omega) (ev_neg (by have := hb.1; omega) ?_))))
      rw [show decide (b ≥ (h.length : Int)) = false from decide_eq_false (by have := hb.2; omega)]
      exact h3
  · refine ⟨_, .inl ⟨c, rfl⟩, ?_, ?_⟩
    · refine he.bind ?_
      by_cases c1 : t = true
      · refine ev_pos c1 ?_
        by_cases c2 : b < 0
        · exact ev_pos c2 path_bad
        · refine ev_neg c2 ?_
          rw [show decide (b ≥ (h.length : Int)) = true from decide_eq_true (by
            by_cases c3 : b < h.length
            · exact absurd ⟨(ht.1 c1).1, (ht.1 c1).2, by omega, c3⟩ c
            · omega)]
          exact path_bad
      · exact ev_neg c1 path_bad
    · refine hve.bind ?_
      by_cases c1 : v = true
      · refine ev_pos c1 ?_
        by_cases c2 : a < 0
        · exact ev_pos c2 rpath_bad
        · refine ev_neg c2 ?_
          by_cases c3 : a ≥ h.length
          · exact ev_pos c3 rpath_bad
          · refine ev_neg c3 ?_
            by_cases c4 : b < 0
            · exact ev_pos c4 rpath_bad
            · refine ev_neg c4 ?_
              rw [show decide (b ≥ (h.length : Int)) = true from decide_eq_true (by
                by_cases c5 : b < h.length
                · exact absurd ⟨hv.1 c1, ⟨by omega, by omega⟩, by omega, c5⟩ c
                · omega)]
              exact rpath_bad
      · exact ev_neg c1 rpath_bad
end Go.Proofs.Ytkanmafjjejpmaa.M
