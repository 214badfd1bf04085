/- For any heads and two tokens a connection begins and ends at its tokens, consists of arcs, passes no token twice, and is the reverse of the other direction's. Conditions: none beyond the statement's own. -/
import Derived.Test.YtkanmafjjejpmaaPx21
import Derived.Test.YtkanmafjjejpmaaM3
namespace Go.Proofs.Ytkanmafjjejpmaa.Pure
open Go.RowKit Go.Proofs.Ytkanmafjjejpmaa.P Go.Proofs.YtkanmafjjejpmaaW.PrintWords Go.Proofs.YtkanmafjjejpmaaW.PrintLast Go.Proofs.Ytkanmafjjejpmaa.M

theorem rd_append_left {A B : List Int} {j : Int} (h : j.toNat < A.length) : rd (A ++ B) j = rd A j := by
  unfold rd
  rw [List.getD_eq_getElem?_getD, List.getElem?_append_left h, List.getD_eq_getElem?_getD]
theorem rd_append_right {A B : List Int} {j : Int} (h : A.length ≤ j.toNat) : rd (A ++ B) j = rd B (j - A.length) := by
  unfold rd
  rw [List.getD_eq_getElem?_getD, List.getElem?_append_right h, List.getD_eq_getElem?_getD, show (j - (A.length : Int)).toNat = j.toNat - A.length by omega]
theorem rd_take {A : List Int} {n : Nat} {j : Int} (h : j.toNat < n) : rd (A.take n) j = rd A j := by
  unfold rd
  rw [List.getD_eq_getElem?_getD, List.getElem?_take, if_pos h, List.getD_eq_getElem?_getD]
theorem rd_reverse {A : List Int} {j : Int} (h0 : 0 ≤ j) (h : j < A.length) : rd A.reverse j = rd A (A.length - 1 - j) := by
  unfold rd
  rw [List.getD_eq_getElem?_getD, List.getElem?_reverse (by omega), List.getD_eq_getElem?_getD, show ((A.length : Int) - 1 - j).toNat = A.length - 1 - j.toNat by omega]

section
variable {h : List Int} (hO : Ok h) {a b : Int} (ha : idx h a) (hb : idx h b) {i k : Int} (hm : Meet (way h a) (way h b) i k)
include hm

theorem joined_len : (joined (way h a) (way h b) i k).length = (i + 1 + k).toNat := by
  obtain ⟨a1, a2, a3, a4, -⟩ := hm
  simp only [joined, List.length_append, List.length_reverse, List.length_take]
  omega
theorem joined_rd {j : Int} (h0 : 0 ≤ j) (h1 : j < i + 1 + k) : rd (joined (way h a) (way h b) i k) j = if j ≤ i then it h j.toNat a else it h (k + i - j).toNat b := by
  obtain ⟨a1, a2, a3, a4, -⟩ := hm
  have e1 : ((way h a).take (i + 1).toNat).length = (i + 1).toNat := by rw [List.length_take]; omega
  have e2 : ((way h b).take k.toNat).length = k.toNat := by rw [List.length_take]; omega
  unfold joined
  split
  · rw [rd_append_left (by omega), rd_take (by omega), ← (way_rd (h := h) (x := a) (j := j.toNat) (by omega)).1, Int.toNat_of_nonneg h0]
  · rw [rd_append_right (by omega), rd_reverse (by omega) (by omega), rd_take (by omega), e1, e2, ← (way_rd (h := h) (x := b) (j := (k + i - j).toNat) (by omega)).1]
    congr 1
    omega
theorem meet_it : it h i.toNat a = it h k.toNat b := by
  obtain ⟨a1, a2, a3, a4, a5, -⟩ := hm
  rw [← (way_rd (h := h) (x := a) (j := i.toNat) (by omega)).1, ← (way_rd (h := h) (x := b) (j := k.toNat) (by omega)).1, Int.toNat_of_nonneg a1, Int.toNat_of_nonneg a3]
  exact a5

include hO ha hb

theorem meet_swap : Meet (way h b) (way h a) k i := by
  have hmi := meet_it hm
  obtain ⟨a1, a2, a3, a4, a5, a6, a7⟩ := hm
  have r1 : ∀ j : Int, 0 ≤ j → j < (way h a).length → rd (way h a) j = it h j.toNat a ∧ 0 ≤ it h j.toNat a := fun j h0 h1 => by
    have := way_rd (h := h) (x := a) (j := j.toNat) (by omega)
    rwa [Int.toNat_of_nonneg h0] at this
  have r2 : ∀ j : Int, 0 ≤ j → j < (way h b).length → rd (way h b) j = it h j.toNat b ∧ 0 ≤ it h j.toNat b := fun j h0 h1 => by
    have := way_rd (h := h) (x := b) (j := j.toNat) (by omega)
    rwa [Int.toNat_of_nonneg h0] at this
  refine ⟨a3, a4, a1, a2, a5.symm, fun k' i' b1 b2 b3 b4 e => ?_, fun i' b1 b2 e => ?_⟩
  · by_cases c : i' < i
    · exact a6 i' k' b3 c b1 (by omega) e.symm
    · by_cases c2 : i' = i
      · rw [c2] at e
        exact a7 k' b1 b2 e.symm
      · have hr1 := r1 i' b3 b4
        have hr2 := r2 k' b1 (by omega)
        have e3 : it h i'.toNat a = it h ((i' - i).toNat + k.toNat) b := by
          rw [it_add, ← hmi, ← it_add]
          congr 1; omega
        rw [hr1.1, hr2.1, e3] at e
        exact hO.2.2 _ (cyc_of_meet hO.2.1 hb.1 hb.2 (a := k'.toNat) (b := (i' - i).toNat + k.toNat) (by omega) e hr2.2)
  · have hr1 := r1 i a1 a2
    have hr2 := r1 i' b1 (by omega)
    rw [← a5, hr1.1, hr2.1] at e
    exact hO.2.2 _ (cyc_of_meet hO.2.1 ha.1 ha.2 (a := i'.toNat) (b := i.toNat) (by omega) e.symm hr2.2)

/-- All that the statement asks of a connection. -/
theorem joined_facts (l m : List Int) (hl : l = joined (way h a) (way h b) i k) (hm' : m = joined (way h b) (way h a) k i) :
    l.length = (i + 1 + k).toNat ∧ m.length = l.length ∧ l.length ≤ 10000 ∧ 0 < l.length ∧ rd l 0 = a ∧ rd l (l.length - 1) = b ∧
    (∀ j : Int, 0 ≤ j → j < l.length → 0 ≤ rd l j ∧ rd l j < h.length ∧ rd m (m.length - 1 - j) = rd l j) ∧
    (∀ j : Int, 0 < j → j < l.length → rd h (rd l j) = rd l (j - 1) ∨ rd h (rd l (j - 1)) = rd l j) ∧
    (∀ j j' : Int, 0 ≤ j' → j' < j → j < l.length → rd l j' ≠ rd l j) := by
  have hs := meet_swap hO ha hb hm
  have hmi := meet_it hm
  have hll : l.length = (i + 1 + k).toNat := by rw [hl]; exact joined_len hm
  have hml : m.length = (k + 1 + i).toNat := by rw [hm']; exact joined_len hs
  have rl : ∀ j : Int, 0 ≤ j → j < i + 1 + k → rd l j = if j ≤ i then it h j.toNat a else it h (k + i - j).toNat b := fun j h0 h1 => by rw [hl]; exact joined_rd hm h0 h1
  have rm : ∀ j : Int, 0 ≤ j → j < k + 1 + i → rd m j = if j ≤ k then it h j.toNat b else it h (i + k - j).toNat a := fun j h0 h1 => by rw [hm']; exact joined_rd hs h0 h1
  obtain ⟨a1, a2, a3, a4, a5, a6, a7⟩ := hm
  have hla := way_len hO ha
  have hlb := way_len hO hb
  have na : ∀ j : Nat, (j : Int) ≤ i → 0 ≤ it h j a := fun j hj => (way_rd (by omega)).2
  have nb : ∀ j : Nat, (j : Int) ≤ k → 0 ≤ it h j b := fun j hj => (way_rd (by omega)).2
  have ba : ∀ j : Nat, it h j a < h.length := fun j => (it_rng hO.2.1 j (by have := ha.1; omega) ha.2).2
  have bb : ∀ j : Nat, it h j b < h.length := fun j => (it_rng hO.2.1 j (by have := hb.1; omega) hb.2).2
  refine ⟨hll, by omega, by omega, by omega, ?_, ?_, fun j h0 h1 => ?_, fun j h0 h1 => ?_, fun j j' h0 h1 h2 e => ?_⟩
  · rw [rl 0 (by omega) (by omega), if_pos a1]; rfl
  · rw [rl _ (by omega) (by omega)]
    split
    · rw [show ((l.length : Int) - 1).toNat = i.toNat by omega, hmi, show k.toNat = 0 by omega]; rfl
    · rw [show (k + i - ((l.length : Int) - 1)).toNat = 0 by omega]; rfl
  · rw [rl j h0 (by omega), rm _ (by omega) (by omega)]
    have em : (m.length : Int) - 1 - j = i + k - j := by omega
    rw [em]
    by_cases c1 : j ≤ i
    · rw [if_pos c1]
      refine ⟨na _ (by omega), ba _, ?_⟩
      by_cases c2 : i + k - j ≤ k
      · rw [if_pos c2, show j = i by omega, hmi]
        congr 1; omega
      · rw [if_neg c2]
        congr 1; omega
    · rw [if_neg c1]
      refine ⟨nb _ (by omega), bb _, ?_⟩
      rw [if_pos (by omega)]
      congr 1; omega
  · rw [rl j (by omega) (by omega), rl (j - 1) (by omega) (by omega)]
    by_cases c1 : j ≤ i
    · right
      rw [if_pos c1, if_pos (by omega), ← nxt_pos (na _ (by omega)), show j.toNat = (j - 1).toNat + 1 by omega]
      rfl
    · left
      rw [if_neg c1, ← nxt_pos (nb _ (by omega))]
      show it h ((k + i - j).toNat + 1) b = _
      by_cases c2 : j - 1 ≤ i
      · rw [if_pos c2, show (j - 1).toNat = i.toNat by omega, hmi]
        congr 1; omega
      · rw [if_neg c2]
        congr 1; omega
  · rw [rl j (by omega) (by omega), rl j' h0 (by omega)] at e
    by_cases c1 : j ≤ i
    · rw [if_pos c1, if_pos (by omega)] at e
      exact hO.2.2 _ (cyc_of_meet hO.2.1 ha.1 ha.2 (a := j'.toNat) (b := j.toNat) (by omega) e (na _ (by omega)))
    · rw [if_neg c1] at e
      by_cases c2 : j' ≤ i
      · rw [if_pos c2] at e
        have e1 := (way_rd (h := h) (x := a) (j := j'.toNat) (by omega)).1
        have e2 := (way_rd (h := h) (x := b) (j := (k + i - j).toNat) (by omega)).1
        rw [Int.toNat_of_nonneg h0] at e1
        rw [Int.toNat_of_nonneg (by omega)] at e2
        rw [← e1, ← e2] at e
        by_cases c3 : j' = i
        · rw [c3] at e
          exact a7 _ (by omega) (by omega) e
        · exact a6 j' _ h0 (by omega) (by omega) (by omega) e
      · rw [if_neg c2] at e
        exact hO.2.2 _ (cyc_of_meet hO.2.1 hb.1 hb.2 (a := (k + i - j).toNat) (b := (k + i - j').toNat) (by omega) e.symm (nb _ (by omega)))
end

theorem con_l1 {h l m : List Int} (hl : l.length ≤ 10000) {i : Int} (h0 : 0 ≤ i) (hi : i < l.length) (hd : ∀ j' : Int, 0 ≤ j' → j' < i → rd l j' ≠ rd l i)
    (next : Ev (fun k => corporalaw09_DependConnects.l0 k h l m l.length (i + 1)) true) (e : Nat) : ∀ j : Int, 0 ≤ j → j + e = i → Ev (fun k => corporalaw09_DependConnects.l1 k h l m i j l.length i) true := by
  induction e with
  | zero =>
    intro j hj0 hj
    refine ev_step next fun k => ?_
    simp only [corporalaw09_DependConnects.l1]
    rw [if_neg (by omega), w64 (by omega) (by omega)]
  | succ e ih =>
    intro j hj0 hj
    refine ev_step (ih (j + 1) (by omega) (by omega)) fun k => ?_
    simp only [corporalaw09_DependConnects.l1]
    rw [if_pos (by omega), if_pos hj0, if_pos (by omega), if_pos h0, if_pos hi, if_neg (hd j hj0 (by omega)), w64 (x := j + 1) (by omega) (by omega)]

theorem con_l0 {h l m : List Int} (hl : l.length ≤ 10000) (hml : m.length = l.length)
    (F1 : ∀ j : Int, 0 ≤ j → j < l.length → 0 ≤ rd l j ∧ rd l j < h.length ∧ rd m (m.length - 1 - j) = rd l j)
    (F2 : ∀ j : Int, 0 < j → j < l.length → rd h (rd l j) = rd l (j - 1) ∨ rd h (rd l (j - 1)) = rd l j)
    (F3 : ∀ j j' : Int, 0 ≤ j' → j' < j → j < l.length → rd l j' ≠ rd l j) (e : Nat) :
    ∀ i : Int, 0 ≤ i → i + e = l.length → Ev (fun k => corporalaw09_DependConnects.l0 k h l m l.length i) true := by
  induction e with
  | zero =>
    intro i h0 hi
    refine ev_step (f := fun k => (corporalaw09_awake.f k).bind fun t => some t) (awake_ev.bind (Ev.now _)) fun k => ?_
    simp only [corporalaw09_DependConnects.l0]
    rw [if_neg (by omega)]
  | succ e ih =>
    intro i h0 hi
    have f1 := F1 i h0 (by omega)
    have hj3 : Ev (fun k => corporalaw09_DependConnects.j3 k h l m i l.length i false) true := by
      refine ev_step (con_l1 hl h0 (by omega) (fun j' a b => F3 i j' a b (by omega)) (ih (i + 1) (by omega) (by omega)) i.toNat 0 (by omega) (by omega)) fun k => ?_
      simp only [corporalaw09_DependConnects.j3, Bool.false_eq_true, if_false]
    refine ev_step hj3 fun k => ?_
    simp only [corporalaw09_DependConnects.l0]
    rw [if_pos (by omega), if_pos h0, if_pos (by omega), if_neg (by omega), if_neg (by omega), w64 (x := (m.length : Int) - 1) (by omega) (by omega), w64 (x := (m.length : Int) - 1 - i) (by omega) (by omega), if_pos (by omega), if_pos (by omega), if_pos f1.2.2]
    by_cases c : i > 0
    · rw [if_pos c, if_pos f1.1, if_pos f1.2.1, w64 (x := i - 1) (by omega) (by omega), if_pos (by omega), if_pos (by omega)]
      by_cases c2 : rd h (rd l i) = rd l (i - 1)
      · rw [if_pos c2]
      · have f0 := F1 (i - 1) (by omega) (by omega)
        rw [if_neg c2, if_pos f0.1, if_pos f0.2.1, show (rd h (rd l (i - 1)) != rd l i) = false from bne_eq_false_iff_eq.mpr ((F2 i c (by omega)).resolve_left c2)]
    · rw [if_neg c]

theorem con_j0_err {h : List Int} {a b c : Int} (hc : c ≠ 0) : Ev (fun k => corporalaw09_DependConnects.j0 k h a b [] c [] false) true := by
  refine ev_step (f := fun k => (corporalaw09_awake.f k).bind fun t => some t) (awake_ev.bind (Ev.now _)) fun k => ?_
  simp only [corporalaw09_DependConnects.j0, Bool.false_eq_true, if_false]
  rw [if_neg hc]
  simp

theorem pth_unique_err {h : List Int} {a b : Int} {r q : List Int × Int} (hr : Pth h a b r) (hq : Pth h b a q) :
    (r = q ∧ r.1 = [] ∧ r.2 ≠ 0) ∨ (Ok h ∧ idx h a ∧ idx h b ∧ ∃ i k, Meet (way h a) (way h b) i k ∧ r = (joined (way h a) (way h b) i k, 0) ∧ q = (joined (way h b) (way h a) k i, 0)) := by
  have mu : ∀ (u d : List Int) (i k i' k' : Int), Meet u d i k → Meet u d i' k' → i = i' ∧ k = k' := fun u d i k i' k' h1 h2 => by
    obtain ⟨a1, a2, a3, a4, a5, a6, a7⟩ := h1
    obtain ⟨b1, b2, b3, b4, b5, b6, b7⟩ := h2
    have c1 : ¬ i < i' := fun c => b6 i k a1 c a3 a4 a5
    have c2 : ¬ i' < i := fun c => a6 i' k' b1 c b3 b4 b5
    obtain rfl : i = i' := by omega
    have c3 : ¬ k < k' := fun c => b7 k a3 c a5
    have c4 : ¬ k' < k := fun c => a7 k' b3 c b5
    exact ⟨rfl, by omega⟩
  rcases hr with ⟨n, rfl⟩ | ⟨o, x, y, ap, rfl⟩ | ⟨o, x, y, i, k, m, rfl⟩ <;> rcases hq with ⟨n', rfl⟩ | ⟨o', x', y', ap', rfl⟩ | ⟨o', x', y', i', k', m', rfl⟩
  · left; exact ⟨rfl, rfl, by simp⟩
  · exact absurd ⟨o', y', x'⟩ n
  · exact absurd ⟨o', y', x'⟩ n
  · exact absurd ⟨o, y, x⟩ n'
  · left; exact ⟨rfl, rfl, by simp⟩
  · obtain ⟨a1, a2, a3, a4, a5, -⟩ := m'
    exact absurd a5.symm (ap k' i' a3 a4 a1 a2)
  · exact absurd ⟨o, y, x⟩ n'
  · obtain ⟨a1, a2, a3, a4, a5, -⟩ := m
    exact absurd a5.symm (ap' k i a3 a4 a1 a2)
  · right
    obtain ⟨rfl, rfl⟩ := mu _ _ _ _ _ _ (meet_swap o x y m) m'
    exact ⟨o, x, y, i, k, m, rfl, rfl⟩

theorem DependConnects : corporalaw09_DependConnects.Pure := by
  intro h a b _ _ _ _ _
  unfold corporalaw09_DependConnects.f
  by_cases c : (h.length : Int) > 60
  · exact ⟨0, by rw [if_pos c]⟩
  · have hn : h.length ≤ 4096 := by omega
    obtain ⟨r, h1, h2, _⟩ := path_ev hn a b
    obtain ⟨q, g1, g2, _⟩ := path_ev hn b a
    refine Ev.rounds (ev_neg c (h2.bind (g2.bind ?_)))
    rcases pth_unique_err h1 g1 with ⟨rfl, e1, e2⟩ | ⟨hO, ha, hb, i, k, hm, er, eq⟩
    · refine ev_pos rfl ?_
      rw [bne_self_eq_false, e1]
      exact con_j0_err e2
    · obtain ⟨l, hl⟩ : ∃ l, l = joined (way h a) (way h b) i k := ⟨_, rfl⟩
      obtain ⟨m, hm'⟩ : ∃ m, m = joined (way h b) (way h a) k i := ⟨_, rfl⟩
      obtain ⟨f0, f1, f2, f3, f4, f5, f6, f7, f8⟩ := joined_facts hO ha hb hm l m hl hm'
      rw [er, eq, ← hl, ← hm']
      refine ev_pos rfl ?_
      rw [show ((l.length : Int) != (m.length : Int)) = false from bne_eq_false_iff_eq.mpr (by omega)]
      have hj1 : Ev (fun k => corporalaw09_DependConnects.j1 k h l m false) true := by
        refine ev_step (con_l0 f2 f1 f6 f7 f8 l.length 0 (by omega) (by omega)) fun k => ?_
        simp only [corporalaw09_DependConnects.j1, Bool.false_eq_true, if_false]
      refine ev_step hj1 fun k => ?_
      simp only [corporalaw09_DependConnects.j0, Bool.false_eq_true, if_false, if_true]
      rw [w64 (x := (l.length : Int) - 1) (by omega) (by omega), if_neg (by omega), if_pos (by omega), if_pos f4, if_pos (by omega), if_pos (by omega), f5, bne_self_eq_false]

end Go.Proofs.Ytkanmafjjejpmaa.Pure
