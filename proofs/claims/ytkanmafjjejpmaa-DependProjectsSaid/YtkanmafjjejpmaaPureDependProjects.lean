/- For any heads depend.Projective gives what its reference gives. Conditions: none beyond the statement's own. -/
import Derived.Test.YtkanmafjjejpmaaPx23
import Derived.Test.YtkanmafjjejpmaaPx22
import Derived.Test.YtkanmafjjejpmaaM6
namespace Go.Proofs.Ytkanmafjjejpmaa.Pure
open Go.RowKit Go.Proofs.Ytkanmafjjejpmaa.P Go.Proofs.YtkanmafjjejpmaaW.PrintWords Go.Proofs.YtkanmafjjejpmaaW.PrintLast Go.Proofs.YtkanmafjjejpmaaW.PrintMore Go.Proofs.Ytkanmafjjejpmaa.M

/-- Is y among the ancestors of x? The reference looks through them. -/
theorem rproj_l2 {h : List Int} {d x : Int} {l : List Int} (hl : l.length ≤ 5000) (e : Nat) : ∀ (i : Int) (b0 : Bool), 0 ≤ i → i + e = l.length →
    ∃ b : Bool, (b = true ↔ b0 = true ∨ ∃ j : Int, i ≤ j ∧ j < l.length ∧ rd l j = rd h d) ∧
      ∀ r, (b = true → Ev (fun k => corporaref09_Projective.l1 k h d (rd h d) (wrap64 (x + 1)) h h.length d) r) → (b = false → r = false) →
        Ev (fun k => corporaref09_Projective.l2 k h d (rd h d) x b0 h h.length d l l.length i) r := by
  induction e with
  | zero =>
    intro i b0 h0 hi
    refine ⟨b0, ⟨fun p => .inl p, fun p => p.elim id fun ⟨j, a, b, _⟩ => by omega⟩, fun r h1 h2 => ?_⟩
    cases b0 with
    | true =>
      refine ev_step (h1 rfl) fun k => ?_
      simp only [corporaref09_Projective.l2, if_true]
      rw [if_neg (by omega)]
    | false =>
      obtain rfl := h2 rfl
      refine ev_step (Ev.now _) fun k => ?_
      simp only [corporaref09_Projective.l2, Bool.false_eq_true, if_false]
      rw [if_neg (by omega)]
  | succ e ih =>
    intro i b0 h0 hi
    obtain ⟨b, hb, hr⟩ := ih (i + 1) (if b0 = true then true else rd l i == rd h d) (by omega) (by omega)
    refine ⟨b, hb.trans ⟨fun p => ?_, fun p => ?_⟩, fun r h1 h2 => ev_step (hr r h1 h2) fun k => ?_⟩
    · rcases p with p | ⟨j, a, b, e⟩
      · split at p
        · exact .inl ‹_›
        · exact .inr ⟨i, Int.le_refl _, by omega, beq_iff_eq.1 p⟩
      · exact .inr ⟨j, by omega, b, e⟩
    · rcases p with p | ⟨j, a, b, e⟩
      · left; rw [if_pos p]
      · by_cases ej : j = i
        · left
          split
          · rfl
          · rw [← ej, e]; simp
        · exact .inr ⟨j, by omega, b, e⟩
    · simp only [corporaref09_Projective.l2]
      rw [if_pos (by omega), if_pos h0, if_pos (by omega), w64 (x := i + 1) (by omega) (by omega)]
      cases b0 <;> simp

section
variable {h : List Int} (hO : Ok h)
include hO

theorem rproj_l1 {d : Int} (hd : idx h d) (h0 : 0 ≤ rd h d) {b0 : Bool} (next : Ev (fun k => corporaref09_Projective.l0 k h h h.length (d + 1)) b0) (e : Nat) :
    ∀ x : Int, mn d (rd h d) < x → x + e = mx d (rd h d) ∨ (mx d (rd h d) ≤ x ∧ e = 0) → ∃ b : Bool, (b = true ↔ (∀ z, x ≤ z → z < mx d (rd h d) → Desc h z (rd h d)) ∧ b0 = true) ∧ Ev (fun k => corporaref09_Projective.l1 k h d (rd h d) x h h.length d) b := by
  have hn := hO.1
  have hdl := hd.2
  induction e with
  | zero =>
    intro x hx he
    refine ⟨b0, ⟨fun e => ⟨fun z h1 h2 => by omega, e⟩, fun e => e.2⟩, ev_step next fun k => ?_⟩
    simp only [corporaref09_Projective.l1]
    rw [if_neg (by omega), w64 (by have := hd.1; omega) (by omega)]
  | succ e ih =>
    intro x hx he
    have hxl : x < mx d (rd h d) := by omega
    have hxi := between hO hd h0 hx hxl
    have hlen := way_len hO hxi
    have hdrop : ((way h x).drop 1).length = (way h x).length - 1 := List.length_drop
    obtain ⟨b, hb, hr⟩ := rproj_l2 (h := h) (d := d) (x := x) (l := (way h x).drop 1) (by omega) ((way h x).drop 1).length 0 false (by omega) (by omega)
    have hbD : b = true ↔ Desc h x (rd h d) := by
      rw [hb]
      constructor
      · rintro (p | ⟨j, a, c, e⟩)
        · cases p
        · have e1 : rd ((way h x).drop 1) j = rd (way h x) (j.toNat + 1 : Nat) := by
            unfold rd
            rw [List.getD_eq_getElem?_getD, List.getElem?_drop, List.getD_eq_getElem?_getD, Int.toNat_natCast, Nat.add_comm]
          rw [e1, (way_rd (by omega)).1] at e
          exact ⟨_, e⟩
      · rintro ⟨m, e⟩
        right
        have hm : m + 1 < (way h x).length := by
          by_cases c : m + 1 < (way h x).length
          · exact c
          · have h1 := way_last hO hxi
            have := it_neg h (m + 1 - (way h x).length) h1
            rw [← it_add, Nat.sub_add_cancel (by omega), e] at this
            omega
        refine ⟨m, by omega, by omega, ?_⟩
        rw [← e, ← (way_rd hm).1]
        unfold rd
        rw [List.getD_eq_getElem?_getD, List.getElem?_drop, List.getD_eq_getElem?_getD, Int.toNat_natCast, Int.toNat_natCast, Nat.add_comm]
    have st : ∀ r, Ev (fun k => corporaref09_Projective.l2 k h d (rd h d) x false h h.length d ((way h x).drop 1) ((way h x).drop 1).length 0) r → Ev (fun k => corporaref09_Projective.l1 k h d (rd h d) x h h.length d) r := fun r hr' => by
      refine ev_step (f := fun k => (corporaref09_Way.f k h x).bind fun t => if 1 ≤ (t.length : Int) then ((some (t.drop 1)).bind fun y => corporaref09_Projective.l2 k h d (rd h d) x false h h.length d y y.length 0) else none) ((rway_ev hO hxi).bind (ev_pos (by omega) hr')) fun k => ?_
      simp only [corporaref09_Projective.l1]
      rw [if_pos hxl]
    by_cases c : Desc h x (rd h d)
    · obtain ⟨b', hb1, hb2⟩ := ih (x + 1) (by omega) (by omega)
      refine ⟨b', hb1.trans ⟨fun ⟨p, q⟩ => ⟨fun z h1 h2 => ?_, q⟩, fun ⟨p, q⟩ => ⟨fun z h1 h2 => p z (by omega) h2, q⟩⟩, st _ (hr _ (fun _ => ?_) (fun e => ?_))⟩
      · by_cases ez : z = x
        · rw [ez]; exact c
        · exact p z (by omega) h2
      · rw [w64 (by have := hxi.1; omega) (by have := hxi.2; omega)]; exact hb2
      · rw [hbD.2 c] at e; cases e
    · exact ⟨false, ⟨fun e => (by cases e), fun ⟨p, _⟩ => absurd (p x (Int.le_refl _) hxl) c⟩, st _ (hr _ (fun e => absurd (hbD.1 e) c) (fun _ => rfl))⟩

theorem rproj_l0 (e : Nat) : ∀ d : Int, 0 ≤ d → d + e = h.length → ∃ b : Bool, (b = true ↔ ∀ z, idx h z → d ≤ z → Fits h z) ∧ Ev (fun k => corporaref09_Projective.l0 k h h h.length d) b := by
  have hn := hO.1
  induction e with
  | zero =>
    intro d h0 hd
    refine ⟨true, ⟨fun _ z hz hdz => by have := hz.2; omega, fun _ => rfl⟩, ev_step (Ev.now _) fun k => ?_⟩
    simp only [corporaref09_Projective.l0]
    rw [if_neg (by omega)]
  | succ e ih =>
    intro d h0 hd
    have hdi : idx h d := ⟨h0, by omega⟩
    obtain ⟨b0, hb0, he0⟩ := ih (d + 1) (by omega) (by omega)
    have split : (∀ z, idx h z → d ≤ z → Fits h z) ↔ Fits h d ∧ ∀ z, idx h z → d + 1 ≤ z → Fits h z := by
      constructor
      · exact fun p => ⟨p d hdi (Int.le_refl _), fun z hz h1 => p z hz (by omega)⟩
      · rintro ⟨p, q⟩ z hz h1
        by_cases ez : z = d
        · rw [ez]; exact p
        · exact q z hz (by omega)
    rw [split]
    by_cases c : rd h d < 0
    · refine ⟨b0, hb0.trans ⟨fun p => ⟨fun h1 => absurd h1 (by omega), p⟩, fun p => p.2⟩, ev_step he0 fun k => ?_⟩
      simp only [corporaref09_Projective.l0]
      rw [if_pos (by omega), if_pos h0, if_pos (by omega), if_pos c, w64 (by omega) (by omega)]
    · have hb := (hO.2.1 d hdi.1 hdi.2).2
      obtain ⟨m, em⟩ : ∃ m, m = mn d (rd h d) := ⟨_, rfl⟩
      have hm : 0 ≤ m ∧ m < h.length := by rw [em]; unfold mn; split <;> omega
      have hmx : m ≤ mx d (rd h d) := by rw [em]; unfold mn mx; split <;> split <;> omega
      obtain ⟨b, hb1, hb2⟩ := rproj_l1 hO hdi (by omega) he0 (mx d (rd h d) - (m + 1)).toNat (m + 1) (by omega) (by omega)
      refine ⟨b, hb1.trans ⟨fun ⟨p, q⟩ => ⟨fun _ x h1 h2 => p x (by omega) h2, hb0.1 q⟩, fun ⟨p, q⟩ => ⟨fun z h1 h2 => p (by omega) z (by omega) h2, hb0.2 q⟩⟩, ev_step hb2 fun k => ?_⟩
      simp only [corporaref09_Projective.l0]
      rw [if_pos (by omega), if_pos h0, if_pos (by omega), if_neg c, ← em, w64 (by omega) (by omega)]
end

theorem rprojective_ev {h : List Int} (hn : h.length ≤ 4096) : ∃ b : Bool, (b = true ↔ Ok h ∧ Proj h) ∧ Ev (fun k => corporaref09_Projective.f k h) b := by
  obtain ⟨v, hv, he⟩ := valid_ev hn
  unfold corporaref09_Projective.f
  by_cases c : Ok h
  · obtain rfl := hv.2 c
    obtain ⟨b, hb, hbe⟩ := rproj_l0 c h.length 0 (by omega) (by omega)
    exact ⟨b, hb.trans ⟨fun p => ⟨c, fun d hd => p d hd hd.1⟩, fun p z hz _ => p.2 z hz⟩, he.bind (ev_pos rfl hbe)⟩
  · have : v = false := by cases v; rfl; exact absurd (hv.1 rfl) c
    subst this
    exact ⟨false, ⟨fun e => (by cases e), fun p => absurd p.1 c⟩, he.bind (ev_neg (by simp) (Ev.now _))⟩

theorem DependProjects : corporalaw09_DependProjects.Pure := by
  intro h _ _ _
  unfold corporalaw09_DependProjects.f
  by_cases c : (h.length : Int) > 40
  · exact ⟨0, by rw [if_pos c]⟩
  · obtain ⟨b, hb, hbe⟩ := projective_ev (h := h) (by omega)
    obtain ⟨b', hb', hbe'⟩ := rprojective_ev (h := h) (by omega)
    have e : (b == b') = true := by
      have : b = true ↔ b' = true := hb.trans hb'.symm
      cases b <;> cases b' <;> simp_all
    exact Ev.rounds (ev_neg c (hbe.bind (hbe'.bind (ev_pos e (awake_ev.bind (Ev.now _))))))

end Go.Proofs.Ytkanmafjjejpmaa.Pure
