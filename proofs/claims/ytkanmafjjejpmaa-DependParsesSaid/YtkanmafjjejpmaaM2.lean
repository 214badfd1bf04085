/- Ways to the root, and depths, of the program and of the reference. Condition: at most 4096 heads. -/
import Derived.Test.YtkanmafjjejpmaaM1
import Derived.Test.YtkanmafjjejpmaaPx17
namespace Go.Proofs.Ytkanmafjjejpmaa.M
open Go.RowKit Go.Proofs.YtkanmafjjejpmaaW.PrintWords Go.Proofs.Ytkanmafjjejpmaa.P

/-- Valid heads. -/
def Ok (h : List Int) : Prop := h.length ≤ 4096 ∧ Rng h ∧ ∀ x, ¬ Cyc h x

theorem chk_ok {h : List Int} (hn : h.length ≤ 4096) {r : Int × Int} (hr : Chk h r) : r.2 = 0 ↔ Ok h := by
  rcases hr with ⟨j, a, b, c, d, rfl⟩ | ⟨R, j, c, d, rfl⟩ | ⟨R, d, rfl⟩
  · refine ⟨(fun e => by cases e), fun hO => ?_⟩
    have := hO.2.1 j a b
    unfold bad at c; omega
  · exact ⟨fun e => (by cases e), fun hO => absurd c (hO.2.2 _)⟩
  · exact ⟨fun _ => ⟨hn, R, d⟩, fun _ => rfl⟩

def idx (h : List Int) (x : Int) : Prop := 0 ≤ x ∧ x < h.length

/-- The way from x, at most f tokens of it. -/
def wl (h : List Int) : Nat → Int → List Int
  | 0, _ => []
  | f + 1, x => if 0 ≤ x then x :: wl h f (nxt h x) else []

theorem wl_len (h : List Int) : ∀ f (x : Int), (wl h f x).length ≤ f
  | 0, _ => Nat.le_refl _
  | f + 1, x => by
    unfold wl
    split
    · have := wl_len h f (nxt h x); simp only [List.length_cons]; omega
    · exact Nat.zero_le _
theorem wl_get (h : List Int) : ∀ f (x : Int) (j : Nat), j < (wl h f x).length → rd (wl h f x) j = it h j x ∧ 0 ≤ it h j x
  | 0, _, j, hj => absurd hj (Nat.not_lt_zero _)
  | f + 1, x, j, hj => by
    unfold wl at hj ⊢
    split at hj
    · rename_i hx
      rw [if_pos hx]
      cases j with
      | zero => exact ⟨rfl, hx⟩
      | succ j =>
        have := wl_get h f (nxt h x) j (by simpa using hj)
        rw [it_succ]
        refine ⟨?_, this.2⟩
        rw [← this.1]
        unfold rd
        simp only [Int.toNat_natCast, List.getD_cons_succ]
    · exact absurd hj (Nat.not_lt_zero _)
theorem wl_end (h : List Int) : ∀ f (x : Int), it h f x < 0 → it h (wl h f x).length x < 0
  | 0, x, hx => hx
  | f + 1, x, hx => by
    unfold wl
    split
    · rw [List.length_cons, it_succ]
      exact wl_end h f _ (by rwa [← it_succ])
    · show x < 0; omega
theorem wl_more (h : List Int) : ∀ f (x : Int), it h f x < 0 → wl h (f + 1) x = wl h f x
  | 0, x, hx => by unfold wl; rw [if_neg (by show ¬ 0 ≤ x; have : x < 0 := hx; omega)]
  | f + 1, x, hx => by
    rw [wl]
    conv => rhs; rw [wl]
    split
    · rw [wl_more h f _ (by rwa [← it_succ])]
    · rfl

theorem way_l0 {h : List Int} (hn : h.length ≤ 4096) (hr : Rng h) : ∀ f (x : Int) (acc : List Int), acc.length + f ≤ 100000 → -1 ≤ x → x < h.length → it h f x < 0 →
    Ev (fun k => depend_way.l0 k h x acc) (acc ++ wl h f x)
  | 0, x, acc, hb, h0, h1, hx => by
    have hx : x < 0 := hx
    refine ev_step (Ev.now _) fun k => ?_
    simp only [depend_way.l0]
    rw [if_neg (by omega)]
    simp [wl]
  | f + 1, x, acc, hb, h0, h1, hx => by
    by_cases c : 0 ≤ x
    · have hx' := hr x c h1
      have := way_l0 hn hr f (rd h x) (acc ++ [x]) (by simp; omega) hx'.1 hx'.2 (by rw [← nxt_pos c, ← it_succ]; exact hx)
      refine ev_step (f := fun k => depend_way.l0 k h (rd h x) (acc ++ [x])) ?_ fun k => ?_
      · rw [wl, if_pos c, nxt_pos c]
        simpa using this
      · simp only [depend_way.l0]
        rw [if_pos c, if_pos (by omega), if_pos c, if_pos h1]
    · refine ev_step (Ev.now _) fun k => ?_
      simp only [depend_way.l0]
      rw [if_neg c, wl, if_neg c, List.append_nil]

theorem rway_l0 {h : List Int} (hn : h.length ≤ 4096) (hr : Rng h) : ∀ f (x : Int) (acc : List Int), acc.length + f ≤ 100000 → 0 ≤ x → x < h.length → it h f (nxt h x) < 0 →
    Ev (fun k => corporaref09_Way.l0 k h x acc) (acc ++ wl h f (nxt h x))
  | 0, x, acc, hb, h0, h1, hx => by
    have hx : nxt h x < 0 := hx
    rw [nxt_pos h0] at hx
    refine ev_step (Ev.now _) fun k => ?_
    simp only [corporaref09_Way.l0]
    rw [if_pos h0, if_pos h1, if_neg (by omega)]
    simp [wl]
  | f + 1, x, acc, hb, h0, h1, hx => by
    have hx' := hr x h0 h1
    rw [wl]
    rw [nxt_pos h0] at hx ⊢
    by_cases c : 0 ≤ rd h x
    · have := rway_l0 hn hr f (rd h x) (acc ++ [rd h x]) (by simp; omega) c hx'.2 (by rw [← it_succ]; exact hx)
      refine ev_step (f := fun k => corporaref09_Way.l0 k h (rd h x) (acc ++ [rd h x])) ?_ fun k => ?_
      · rw [if_pos c]
        simpa using this
      · simp only [corporaref09_Way.l0]
        rw [if_pos h0, if_pos h1, if_pos c, if_pos (by omega)]
    · refine ev_step (Ev.now _) fun k => ?_
      simp only [corporaref09_Way.l0]
      rw [if_pos h0, if_pos h1, if_neg c, if_neg c, List.append_nil]

/-- The whole way. -/
def way (h : List Int) (x : Int) : List Int := wl h h.length x

theorem way_ev {h : List Int} (hO : Ok h) {x : Int} (hx : idx h x) : Ev (fun k => depend_way.f k h x) (way h x) := by
  have := way_l0 hO.1 hO.2.1 h.length x [] (by have := hO.1; simp; omega) (by have := hx.1; omega) hx.2 (by rw [way_ends hO.2.1 hO.2.2 hx.1 hx.2]; omega)
  rw [List.nil_append] at this
  exact this
theorem way_cons {h : List Int} (hO : Ok h) {x : Int} (hx : idx h x) : way h x = x :: wl h h.length (nxt h x) := by
  have e := way_ends hO.2.1 hO.2.2 hx.1 hx.2
  unfold way
  rw [← wl_more h h.length x (by omega), wl, if_pos hx.1]
theorem way_nxt {h : List Int} (hO : Ok h) {x : Int} (hx : idx h x) : it h h.length (nxt h x) < 0 := by
  rw [← it_succ, it, nxt, if_pos (by rw [way_ends hO.2.1 hO.2.2 hx.1 hx.2]; omega)]
  omega
theorem rway_ev {h : List Int} (hO : Ok h) {x : Int} (hx : idx h x) : Ev (fun k => corporaref09_Way.f k h x) (way h x) := by
  rw [way_cons hO hx]
  exact rway_l0 hO.1 hO.2.1 h.length x [x] (by have := hO.1; simp; omega) hx.1 hx.2 (way_nxt hO hx)

theorem usable_ev {h : List Int} (hn : h.length ≤ 4096) (a : Int) : ∃ b : Bool, (b = true ↔ Ok h ∧ idx h a) ∧ Ev (fun k => depend_usable.f k h a) b := by
  obtain ⟨r, h1, h2, _⟩ := checks_ev hn
  have hk := chk_ok hn h1
  by_cases c : r.2 = 0
  · by_cases ca : 0 ≤ a
    · refine ⟨decide (a < h.length), ?_, h2.bind (ev_pos c (ev_pos ca (Ev.now _)))⟩
      rw [decide_eq_true_iff]
      exact ⟨fun e => ⟨hk.1 c, ca, e⟩, fun e => e.2.2⟩
    · exact ⟨false, ⟨fun e => (by cases e), fun e => absurd e.2.1 ca⟩, h2.bind (ev_pos c (ev_neg ca (Ev.now _)))⟩
  · exact ⟨false, ⟨fun e => (by cases e), fun e => absurd (hk.2 e.1) c⟩, h2.bind (ev_neg c (Ev.now _))⟩
theorem valid_ev {h : List Int} (hn : h.length ≤ 4096) : ∃ b : Bool, (b = true ↔ Ok h) ∧ Ev (fun k => corporaref09_Valid.f k h) b := by
  obtain ⟨r, h1, _, h2⟩ := checks_ev hn
  have hk := chk_ok hn h1
  refine ⟨r.2 == 0, ?_, h2.bind (Ev.now _)⟩
  rw [beq_iff_eq, hk]

/-- The number of ancestors, or -1. -/
noncomputable def depth (h : List Int) (a : Int) : Int := @ite _ (Ok h ∧ idx h a) (Classical.propDecidable _) ((way h a).length - 1) (-1)

theorem depth_ev {h : List Int} (hn : h.length ≤ 4096) (a : Int) : Ev (fun k => depend_Depth.f k h a) (depth h a) := by
  obtain ⟨b, hb, he⟩ := usable_ev hn a
  unfold depth
  by_cases c : Ok h ∧ idx h a
  · obtain rfl := hb.2 c
    rw [if_pos c]
    have hl := wl_len h h.length a
    refine he.bind (ev_pos rfl ((way_ev c.1 c.2).bind ?_))
    rw [w64 (by omega) (by unfold way; omega)]
    exact Ev.now _
  · have : b = false := by cases b; rfl; exact absurd (hb.1 rfl) c
    subst this
    rw [if_neg c]
    exact he.bind (ev_neg (by simp) (Ev.now _))
theorem rdepth_ev {h : List Int} (hn : h.length ≤ 4096) (a : Int) : Ev (fun k => corporaref09_Depth.f k h a) (depth h a) := by
  obtain ⟨b, hb, he⟩ := valid_ev hn
  unfold depth
  by_cases c : Ok h
  · obtain rfl := hb.2 c
    refine he.bind (ev_pos rfl ?_)
    by_cases ca : a < 0
    · rw [if_neg (fun e => by have := e.2.1; omega)]
      exact ev_pos ca (Ev.now _)
    · by_cases ca' : a ≥ h.length
      · rw [if_neg (fun e => by have := e.2.2; omega)]
        exact ev_neg ca (ev_pos ca' (Ev.now _))
      · have hx : idx h a := ⟨by omega, by omega⟩
        rw [if_pos ⟨c, hx⟩]
        have hl := wl_len h h.length a
        refine ev_neg ca (ev_neg ca' ((rway_ev c hx).bind ?_))
        rw [w64 (by omega) (by unfold way; omega)]
        exact Ev.now _
  · have : b = false := by cases b; rfl; exact absurd (hb.1 rfl) c
    subst this
    rw [if_neg (fun e => c e.1)]
    exact he.bind (ev_neg (by simp) (Ev.now _))
theorem depth_head {h : List Int} (hO : Ok h) {a : Int} (ha : idx h a) (h0 : 0 ≤ rd h a) : depth h (rd h a) = depth h a - 1 := by
  have hb := hO.2.1 a ha.1 ha.2
  unfold depth
  rw [if_pos ⟨hO, h0, hb.2⟩, if_pos ⟨hO, ha⟩, way_cons hO ha, nxt_pos ha.1]
  unfold way
  simp
theorem depth_bound {h : List Int} (hn : h.length ≤ 4096) (a : Int) : -1 ≤ depth h a ∧ depth h a ≤ 4096 := by
  unfold depth
  have hl := wl_len h h.length a
  unfold way
  split <;> omega

theorem way_len {h : List Int} (hO : Ok h) {x : Int} (hx : idx h x) : 1 ≤ (way h x).length ∧ (way h x).length ≤ 4096 := by
  have := wl_len h h.length x
  have := hO.1
  refine ⟨?_, by unfold way; omega⟩
  rw [way_cons hO hx]; simp
theorem way_rd {h : List Int} {x : Int} {j : Nat} (hj : j < (way h x).length) : rd (way h x) j = it h j x ∧ 0 ≤ it h j x := wl_get h _ x j hj
theorem way_last {h : List Int} (hO : Ok h) {x : Int} (hx : idx h x) : it h (way h x).length x < 0 :=
  wl_end h _ x (by rw [way_ends hO.2.1 hO.2.2 hx.1 hx.2]; omega)
end Go.Proofs.Ytkanmafjjejpmaa.M
