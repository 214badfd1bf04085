/- In projective heads no two arcs cross, and heads that are turned around are projective exactly if these are. Conditions: none beyond the statement's own. -/
import Derived.Test.YtkanmafjjejpmaaPx24
import Derived.Test.YtkanmafjjejpmaaM6
namespace Go.Proofs.Ytkanmafjjejpmaa.Pure
open Go.RowKit Go.Proofs.Ytkanmafjjejpmaa.P Go.Proofs.YtkanmafjjejpmaaW.PrintWords Go.Proofs.YtkanmafjjejpmaaW.PrintLast Go.Proofs.YtkanmafjjejpmaaW.PrintMore Go.Proofs.Ytkanmafjjejpmaa.M

/-- t is h turned around. -/
def Turn (h t : List Int) : Prop := t.length = h.length ∧ ∀ x, idx h x → rd t (h.length - 1 - x) = if rd h x ≥ 0 then h.length - 1 - rd h x else -1

theorem idx_turn {h : List Int} {x : Int} (hx : idx h x) : idx h (h.length - 1 - x) := ⟨by have := hx.2; omega, by have := hx.1; omega⟩

theorem turn_rng {h t : List Int} (hr : Rng h) (hT : Turn h t) : Rng t := fun x h0 h1 => by
  rw [hT.1] at h1 ⊢
  have hx : idx h (h.length - 1 - x) := ⟨by omega, by omega⟩
  have e := hT.2 _ hx
  rw [show (h.length : Int) - 1 - (h.length - 1 - x) = x by omega] at e
  have := hr _ hx.1 hx.2
  rw [e]
  split <;> omega
theorem turn_symm {h t : List Int} (hr : Rng h) (hT : Turn h t) : Turn t h := by
  refine ⟨hT.1.symm, fun x hx => ?_⟩
  unfold idx at hx
  rw [hT.1] at hx ⊢
  have hx' : idx h (h.length - 1 - x) := ⟨by omega, by omega⟩
  have e := hT.2 _ hx'
  rw [show (h.length : Int) - 1 - (h.length - 1 - x) = x by omega] at e
  have := hr _ hx'.1 hx'.2
  rw [e]
  split <;> split <;> omega
theorem turn_it {h t : List Int} (hr : Rng h) (hT : Turn h t) {x : Int} (hx : idx h x) (m : Nat) : it t m (h.length - 1 - x) = if it h m x ≥ 0 then h.length - 1 - it h m x else -1 := by
  induction m with
  | zero => show (h.length : Int) - 1 - x = if x ≥ 0 then h.length - 1 - x else -1; rw [if_pos hx.1]
  | succ m ih =>
    show nxt t (it t m _) = if nxt h (it h m x) ≥ 0 then h.length - 1 - nxt h (it h m x) else -1
    rw [ih]
    have hb := it_rng hr m (x := x) (by have := hx.1; omega) hx.2
    by_cases c : it h m x ≥ 0
    · rw [if_pos c, nxt_pos (by omega), nxt_pos c]
      exact hT.2 _ ⟨c, hb.2⟩
    · rw [if_neg c]
      have e1 : ∀ y : Int, y < 0 → nxt h y = -1 := fun y hy => if_pos hy
      have e2 : nxt t (-1) = -1 := rfl
      rw [e1 _ (by omega), e2]
      rfl
theorem turn_ok {h t : List Int} (hO : Ok h) (hT : Turn h t) : Ok t := by
  refine ⟨by rw [hT.1]; exact hO.1, turn_rng hO.2.1 hT, fun x hx => ?_⟩
  obtain ⟨h0, h1, m, e⟩ := hx
  rw [hT.1] at h1
  have hx : idx h (h.length - 1 - x) := ⟨by omega, by omega⟩
  have e2 := turn_it hO.2.1 hT hx (m + 1)
  rw [show (h.length : Int) - 1 - (h.length - 1 - x) = x by omega, e] at e2
  refine hO.2.2 _ ⟨hx.1, hx.2, m, ?_⟩
  split at e2 <;> omega
theorem turn_proj {h t : List Int} (hO : Ok h) (hT : Turn h t) (hP : Proj h) : Proj t := by
  intro d hd h0 x h1 h2
  have hd' : idx h (h.length - 1 - d) := by unfold idx at hd ⊢; rw [hT.1] at hd; omega
  have e := hT.2 _ hd'
  rw [show (h.length : Int) - 1 - (h.length - 1 - d) = d by omega] at e
  have hb := hO.2.1 _ hd'.1 hd'.2
  have hc : rd h (h.length - 1 - d) ≥ 0 := by
    by_cases c : rd h (h.length - 1 - d) ≥ 0
    · exact c
    · rw [if_neg c] at e; omega
  rw [if_pos hc] at e
  have hx : Desc h (h.length - 1 - x) (rd h (h.length - 1 - d)) := by
    refine hP _ hd' hc _ ?_ ?_
    · rw [e] at h2
      unfold mx at h2; unfold mn
      split at h2 <;> split <;> omega
    · rw [e] at h1
      unfold mn at h1; unfold mx
      split at h1 <;> split <;> omega
  obtain ⟨m, em⟩ := hx
  have hxi : idx h (h.length - 1 - x) := by
    refine between hO hd' hc ?_ ?_
    · rw [e] at h2
      unfold mx at h2; unfold mn
      split at h2 <;> split <;> omega
    · rw [e] at h1
      unfold mn at h1; unfold mx
      split at h1 <;> split <;> omega
  refine ⟨m, ?_⟩
  have e2 := turn_it hO.2.1 hT hxi (m + 1)
  rw [show (h.length : Int) - 1 - (h.length - 1 - x) = x by omega, em, if_pos hc] at e2
  rw [e2, e]

theorem desc_cyc {h : List Int} {x y : Int} (hx : idx h x) (h1 : Desc h x y) (h2 : Desc h y x) : Cyc h x := by
  obtain ⟨m, e1⟩ := h1
  obtain ⟨n, e2⟩ := h2
  exact ⟨hx.1, hx.2, n + 1 + m, by rw [show n + 1 + m + 1 = (n + 1) + (m + 1) by omega, it_add, e1, e2]⟩
/-- Behind its head a token has the ancestors of the head. -/
theorem desc_head {h : List Int} {x y : Int} (hx : 0 ≤ x) (h1 : Desc h x y) (hne : rd h x ≠ y) : Desc h (rd h x) y := by
  obtain ⟨m, e⟩ := h1
  rw [it_succ, nxt_pos hx] at e
  cases m with
  | zero => exact absurd e hne
  | succ m => exact ⟨m, e⟩

theorem no_cross {h : List Int} (hO : Ok h) (hP : Proj h) {i k : Int} (hi : idx h i) (hk : idx h k) (hi0 : 0 ≤ rd h i) (hk0 : 0 ≤ rd h k) :
    ¬ (mn i (rd h i) < mn k (rd h k) ∧ mn k (rd h k) < mx i (rd h i) ∧ mx i (rd h i) < mx k (rd h k)) := by
  rintro ⟨a, b, c⟩
  have h1 := hP i hi hi0 (mn k (rd h k)) a b
  have h2 := hP k hk hk0 (mx i (rd h i)) b c
  have hci := between hO hi hi0 a b
  have hbi := between hO hk hk0 b c
  have hyi : idx h (rd h i) := ⟨hi0, (hO.2.1 i hi.1 hi.2).2⟩
  have hyk : idx h (rd h k) := ⟨hk0, (hO.2.1 k hk.1 hk.2).2⟩
  unfold mn at a b h1 hci
  unfold mx at b c h2 hbi
  by_cases ci : i < rd h i
  · rw [if_neg (by omega)] at a
    rw [if_pos ci] at b c h2 hbi
    by_cases ck : rd h k < k
    · rw [if_pos ck] at h1 hci
      exact hO.2.2 _ (desc_cyc hci h1 h2)
    · rw [if_neg ck] at h1 hci a b
      exact hO.2.2 _ (desc_cyc hyk (desc_head hk.1 h1 (by split at c <;> omega)) h2)
  · have cne : rd h i ≠ i := fun e => by
      rw [e] at a b
      split at a <;> split at b <;> omega
    rw [if_pos (by omega)] at a
    rw [if_neg ci] at b c h2 hbi
    by_cases ck : rd h k < k
    · rw [if_pos ck] at h1 hci a b
      exact hO.2.2 _ (desc_cyc hyi (desc_head hi.1 h2 (by omega)) h1)
    · rw [if_neg ck] at h1 hci a b
      have d1 := desc_head hk.1 h1 (by split at c <;> omega)
      have d2 := desc_head hi.1 h2 (by split at c <;> omega)
      exact hO.2.2 _ (desc_cyc hyk d1 d2)

theorem cr_l2 {h : List Int} (hn : h.length ≤ 30) {b : Bool} {i : Int} (hi : idx h i) (hx : b = true → ∀ k, idx h k → 0 ≤ rd h i → 0 ≤ rd h k → ¬ (mn i (rd h i) < mn k (rd h k) ∧ mn k (rd h k) < mx i (rd h i) ∧ mx i (rd h i) < mx k (rd h k)))
    (next : Ev (fun n => corporalaw09_DependCrosses.l1 n h b h h.length (i + 1)) true) (e : Nat) : ∀ k : Int, 0 ≤ k → k + e = h.length → Ev (fun n => corporalaw09_DependCrosses.l2 n h b i (rd h i) h h.length i h h.length k) true := by
  induction e with
  | zero =>
    intro k h0 hk
    refine ev_step next fun n => ?_
    simp only [corporalaw09_DependCrosses.l2]
    rw [if_neg (by omega), w64 (by have := hi.1; omega) (by have := hi.2; omega)]
  | succ e ih =>
    intro k h0 hk
    refine ev_step (ih (k + 1) (by omega) (by omega)) fun n => ?_
    simp only [corporalaw09_DependCrosses.l2]
    rw [if_pos (by omega), if_pos h0, if_pos (by omega), w64 (x := k + 1) (by omega) (by omega)]
    by_cases c1 : b = true
    · rw [if_pos c1]
      by_cases c2 : rd h i ≥ 0
      · rw [if_pos c2]
        by_cases c3 : rd h k ≥ 0
        · rw [if_pos c3]
          have hno := hx c1 k ⟨h0, by omega⟩ c2 c3
          by_cases c4 : mn i (rd h i) < mn k (rd h k)
          · rw [if_pos c4]
            by_cases c5 : mn k (rd h k) < mx i (rd h i)
            · rw [if_pos c5, if_neg (fun c6 => hno ⟨c4, c5, c6⟩)]
            · rw [if_neg c5]
          · rw [if_neg c4]
        · rw [if_neg c3]
      · rw [if_neg c2]
    · rw [if_neg c1]

theorem cr_l1 {h : List Int} (hn : h.length ≤ 30) (hO : Ok h) {b : Bool} (hb : b = true → Proj h) (e : Nat) : ∀ i : Int, 0 ≤ i → i + e = h.length → Ev (fun n => corporalaw09_DependCrosses.l1 n h b h h.length i) true := by
  induction e with
  | zero =>
    intro i h0 hi
    refine ev_step (f := fun n => (corporalaw09_awake.f n).bind fun t => some t) (awake_ev.bind (Ev.now _)) fun n => ?_
    simp only [corporalaw09_DependCrosses.l1]
    rw [if_neg (by omega)]
  | succ e ih =>
    intro i h0 hi
    have hii : idx h i := ⟨h0, by omega⟩
    refine ev_step (cr_l2 hn hii (fun c k hk a b => no_cross hO (hb c) hii hk a b) (ih (i + 1) (by omega) (by omega)) h.length 0 (by omega) (by omega)) fun n => ?_
    simp only [corporalaw09_DependCrosses.l1]
    rw [if_pos (by omega), if_pos h0, if_pos (by omega)]

theorem cr_l0 {h : List Int} (hn : h.length ≤ 30) (hO : Ok h) (e : Nat) : ∀ (i : Int) (t : List Int), 0 ≤ i → i + e = h.length → t.length = h.length →
    (∀ x, idx h x → x < i → rd t (h.length - 1 - x) = if rd h x ≥ 0 then h.length - 1 - rd h x else -1) → Ev (fun n => corporalaw09_DependCrosses.l0 n h h.length t h h.length i) true := by
  induction e with
  | zero =>
    intro i t h0 hi hl ht
    have hT : Turn h t := ⟨hl, fun x hx => ht x hx (by have := hx.2; omega)⟩
    obtain ⟨b, hb, hbe⟩ := projective_ev (h := h) (by omega)
    obtain ⟨b', hb', hbe'⟩ := projective_ev (h := t) (by rw [hl]; omega)
    have hO' := turn_ok hO hT
    have e : b = true ↔ b' = true := by
      rw [hb, hb']
      exact ⟨fun p => ⟨hO', turn_proj hO hT p.2⟩, fun p => ⟨hO, turn_proj hO' (turn_symm hO.2.1 hT) p.2⟩⟩
    have e2 : (b' != b) = false := by cases b <;> cases b' <;> simp_all
    refine ev_step (f := fun n => (depend_Projective.f n h).bind fun t1 => (depend_Projective.f n t).bind fun t2 => if (t2 != t1) = true then some false else corporalaw09_DependCrosses.l1 n h t1 h h.length 0)
      (hbe.bind (hbe'.bind (ev_neg (by rw [e2]; simp) (cr_l1 hn hO (fun c => (hb.1 c).2) h.length 0 (by omega) (by omega))))) fun n => ?_
    simp only [corporalaw09_DependCrosses.l0]
    rw [if_neg (by omega)]
  | succ e ih =>
    intro i t h0 hi hl ht
    have hii : idx h i := ⟨h0, by omega⟩
    have hb := hO.2.1 i hii.1 hii.2
    have s1 : ∀ v x : Int, idx h x → rd (t.set (h.length - 1 - i : Int).toNat v) (h.length - 1 - x) = if x = i then v else rd t (h.length - 1 - x) := fun v x hx => by
      rw [rd_set (by omega) (by rw [hl]; omega) (idx_turn hx).1]
      by_cases ex : x = i
      · rw [if_pos (by omega), if_pos ex]
      · rw [if_neg (by omega), if_neg ex]
    by_cases c : rd h i ≥ 0
    · refine ev_step (ih (i + 1) ((t.set (h.length - 1 - i : Int).toNat (-1)).set (h.length - 1 - i : Int).toNat (h.length - 1 - rd h i)) (by omega) (by omega) (by simpa using hl) fun x hx hxi => ?_) fun n => ?_
      · rw [List.set_set, s1 _ x hx]
        by_cases ex : x = i
        · rw [if_pos ex, ex, if_pos c]
        · rw [if_neg ex]; exact ht x hx (by omega)
      · simp only [corporalaw09_DependCrosses.l0]
        rw [w64 (x := (h.length : Int) - 1) (by omega) (by omega), w64 (x := (h.length : Int) - 1 - i) (by omega) (by omega), w64 (x := (h.length : Int) - 1 - rd h i) (by omega) (by omega), w64 (x := i + 1) (by omega) (by omega)]
        rw [if_pos (by omega), if_pos h0, if_pos (by omega), if_pos (by omega), if_pos (by omega)]
        simp only [Option.bind_some]
        rw [if_pos c]
    · refine ev_step (ih (i + 1) (t.set (h.length - 1 - i : Int).toNat (-1)) (by omega) (by omega) (by simpa using hl) fun x hx hxi => ?_) fun n => ?_
      · rw [s1 _ x hx]
        by_cases ex : x = i
        · rw [if_pos ex, ex, if_neg c]
        · rw [if_neg ex]; exact ht x hx (by omega)
      · simp only [corporalaw09_DependCrosses.l0]
        rw [w64 (x := (h.length : Int) - 1) (by omega) (by omega), w64 (x := (h.length : Int) - 1 - i) (by omega) (by omega), w64 (x := i + 1) (by omega) (by omega)]
        rw [if_pos (by omega), if_pos h0, if_pos (by omega), if_pos (by omega), if_pos (by omega)]
        simp only [Option.bind_some]
        rw [if_neg c]

theorem j0_true {h : List Int} {n : Int} : Ev (fun k => corporalaw09_DependCrosses.j0 k h n true) true := ev_step (Ev.now _) fun k => by simp only [corporalaw09_DependCrosses.j0, if_true]

theorem DependCrosses : corporalaw09_DependCrosses.Pure := by
  intro h _ _ _
  unfold corporalaw09_DependCrosses.f
  by_cases c : (h.length : Int) > 30
  · by_cases c2 : h.length ≤ 4096
    · obtain ⟨r, _, h2⟩ := check_ev c2
      exact Ev.rounds (h2.bind (ev_pos c j0_true))
    · have h2 : Ev (fun k => depend_Check.f k h) (0, 2) := ev_pos (by omega) (Ev.now _)
      exact Ev.rounds (h2.bind (ev_pos c j0_true))
  · have hn : h.length ≤ 4096 := by omega
    obtain ⟨r, h1, h2⟩ := check_ev hn
    refine Ev.rounds (h2.bind (ev_neg c ?_))
    by_cases c1 : r.2 = 0
    · have hO := (chk_ok hn h1).1 c1
      rw [c1]
      refine ev_step (cr_l0 (by omega) hO h.length 0 (List.replicate h.length 0) (by omega) (by omega) List.length_replicate (fun x hx h0 => by have := hx.1; omega)) fun k => ?_
      simp only [corporalaw09_DependCrosses.j0, bne_self_eq_false, Bool.false_eq_true, if_false]
      rw [if_pos (by omega), if_pos (by omega)]
      simp
    · rw [show (r.2 != 0) = true from bne_iff_ne.mpr c1]
      exact j0_true

end Go.Proofs.Ytkanmafjjejpmaa.Pure
