/- depend.numbers, and projectivity by the program and by the reference. Condition: at most 4096 heads. -/
import Derived.Test.YtkanmafjjejpmaaM5
import Derived.Test.YtkanmafjjejpmaaPx9
namespace Go.Proofs.Ytkanmafjjejpmaa.M
open Go.RowKit Go.Proofs.YtkanmafjjejpmaaW.PrintWords Go.Proofs.YtkanmafjjejpmaaW.PrintMore Go.Proofs.Ytkanmafjjejpmaa.P

theorem rdL_set {l : List (List Int)} {a x : Int} {v : List Int} (ha0 : 0 ≤ a) (ha : a < l.length) (hx : 0 ≤ x) : rd_L1 (l.set a.toNat v) x = if x = a then v else rd_L1 l x := by
  unfold rd_L1
  by_cases e : x = a
  · subst e
    rw [if_pos rfl, List.getD_eq_getElem?_getD, List.getElem?_set_self (by omega)]
    rfl
  · rw [if_neg e, List.getD_eq_getElem?_getD, List.getElem?_set_ne (by omega), ← List.getD_eq_getElem?_getD]
theorem rdL_replicate (n : Nat) (x : Int) : rd_L1 (List.replicate n []) x = [] := by
  unfold rd_L1
  rw [List.getD_eq_getElem?_getD, List.getElem?_replicate]
  split <;> rfl
theorem rd_concat {S : List Int} {i : Int} : rd (S ++ [i]) S.length = i := by
  unfold rd
  rw [List.getD_eq_getElem?_getD, Int.toNat_natCast, List.getElem?_append_right (Nat.le_refl _), Nat.sub_self]
  rfl
theorem rd_left {A B : List Int} {j : Int} (h : j.toNat < A.length) : rd (A ++ B) j = rd A j := by
  unfold rd
  rw [List.getD_eq_getElem?_getD, List.getElem?_append_left h, List.getD_eq_getElem?_getD]

section
variable {h : List Int} (hO : Ok h)
include hO

/-- Numbers that tell the trees. -/
def Tells (h first last : List Int) : Prop := first.length = h.length ∧ last.length = h.length ∧ ∀ x y, idx h x → idx h y → ((rd first y < rd first x ∧ rd first x ≤ rd last y) ↔ Desc h x y)

theorem tells_of {first last : List Int} (hF : Numbered h first) (hf : first.length = h.length) (hl : last.length = h.length)
    (hA : ∀ y, idx h y → rd first y ≤ rd last y ∧ rd last y ≤ rd first y + (tree h y).length - 1)
    (hB : ∀ z, idx h z → 0 ≤ rd h z → rd last z ≤ rd last (rd h z)) : Tells h first last := by
  refine ⟨hf, hl, fun x y hx hy => ⟨fun ⟨a, b⟩ => ?_, fun ⟨m, e⟩ => ?_⟩⟩
  · have := hA y hy
    obtain ⟨m, e⟩ := (mem_tree hO hx y hy).1 ((num_tree hO hF hx hy).2 ⟨by omega, by omega⟩)
    cases m with
    | zero => have e : x = y := e; subst e; omega
    | succ m => exact ⟨m, e⟩
  · have hm := (num_tree hO hF hx hy).1 ((mem_tree hO hx y hy).2 ⟨m + 1, e⟩)
    have hne : rd first x ≠ rd first y := fun e2 => by
      obtain rfl := num_inj hO hF hx hy e2
      exact hO.2.2 x ⟨hx.1, hx.2, m, e⟩
    refine ⟨by omega, ?_⟩
    have up : ∀ m, 0 ≤ it h m x → rd last x ≤ rd last (it h m x) := by
      intro m
      induction m with
      | zero => intro _; exact Int.le_refl _
      | succ m ih =>
        intro h0
        have h1 : 0 ≤ it h m x := it_nonneg_of h0 (by omega)
        have h2 := (it_rng hO.2.1 m (x := x) (by have := hx.1; omega) hx.2).2
        have e3 : it h (m + 1) x = rd h (it h m x) := nxt_pos h1
        have := ih h1
        have := hB _ ⟨h1, h2⟩ (by rw [← e3]; exact h0)
        rw [e3]
        omega
    have := up (m + 1) (by rw [e]; exact hy.1)
    rw [e] at this
    have := hA x hx
    omega

theorem num_l2 {first : List Int} (hF : Numbered h first) (hf : first.length = h.length) (e : Nat) : ∀ (j : Int) (last : List Int), j + 1 = e → j < (walk h).length → last.length = h.length →
    (∀ y, idx h y → rd first y ≤ rd last y ∧ rd last y ≤ rd first y + (tree h y).length - 1) → (∀ z, idx h z → j < rd first z → 0 ≤ rd h z → rd last z ≤ rd last (rd h z)) →
    ∃ last', Tells h first last' ∧ Ev (fun k => depend_numbers.l2 k h first last (walk h) j) (first, last') := by
  have hwl := walk_len hO
  have hn := hO.1
  induction e with
  | zero =>
    intro j last hj hjl hl hA hB
    refine ⟨last, tells_of hO hF hf hl hA (fun z hz h0 => hB z hz (by have := (num_at hO hF hz).1; omega) h0), ev_step (Ev.now _) fun k => ?_⟩
    simp only [depend_numbers.l2]
    rw [if_neg (by omega)]
  | succ e ih =>
    intro j last hj hjl hl hA hB
    have h0 : 0 ≤ j := by omega
    have hz := (walk_mem hO).1 (rd_mem h0 hjl)
    have hfz := hF j h0 hjl
    obtain ⟨z, ez⟩ : ∃ z, z = rd (walk h) j := ⟨_, rfl⟩
    rw [← ez] at hz hfz
    by_cases c : 0 ≤ rd h z
    · have hy : idx h (rd h z) := ⟨c, (hO.2.1 z hz.1 hz.2).2⟩
      obtain ⟨hh1, hh2⟩ := num_head hO hF hz c
      have hAz := hA z hz
      have hAy := hA _ hy
      have hset : ∀ y, idx h y → rd (last.set (rd h z).toNat (mx (rd last (rd h z)) (rd last z))) y = if y = rd h z then mx (rd last (rd h z)) (rd last z) else rd last y := fun y hy' => rd_set c (by rw [hl]; exact hy.2) hy'.1
      obtain ⟨last', h1, h2⟩ := ih (j - 1) (last.set (rd h z).toNat (mx (rd last (rd h z)) (rd last z))) (by omega) (by omega) (by simpa using hl)
        (fun y hy' => by
          rw [hset y hy']
          by_cases ey : y = rd h z
          · rw [if_pos ey, ey]
            unfold mx
            split <;> omega
          · rw [if_neg ey]; exact hA y hy')
        (fun z' hz' hj' c' => by
          have hy' : idx h (rd h z') := ⟨c', (hO.2.1 z' hz'.1 hz'.2).2⟩
          rw [hset z' hz', hset _ hy']
          by_cases ez' : z' = rd h z
          · exfalso
            rw [ez'] at hj'
            omega
          · rw [if_neg ez']
            by_cases ezz : z' = z
            · subst ezz
              rw [if_pos rfl]
              unfold mx
              split <;> omega
            · have hne : rd first z' ≠ j := fun e2 => ezz (num_inj hO hF hz' hz (by omega))
              have := hB z' hz' (by omega) c'
              split
              · rename_i e3
                rw [e3] at this
                unfold mx
                split <;> omega
              · exact this)
      refine ⟨last', h1, ev_step h2 fun k => ?_⟩
      simp only [depend_numbers.l2]
      rw [← ez, if_pos h0, if_pos h0, if_pos hjl, if_pos hz.1, if_pos hz.2, if_pos c, if_pos c, if_pos (by rw [hl]; exact hy.2), if_pos (by rw [hl]; exact hz.2), w64 (by omega) (by omega)]
    · obtain ⟨last', h1, h2⟩ := ih (j - 1) last (by omega) (by omega) hl hA (fun z' hz' hj' c' => by
        by_cases ezz : z' = z
        · subst ezz; exact absurd c' c
        · have hne : rd first z' ≠ j := fun e2 => ezz (num_inj hO hF hz' hz (by omega))
          exact hB z' hz' (by omega) c')
      refine ⟨last', h1, ev_step h2 fun k => ?_⟩
      simp only [depend_numbers.l2]
      rw [← ez, if_pos h0, if_pos h0, if_pos hjl, if_pos hz.1, if_pos hz.2, if_neg c, w64 (by omega) (by omega)]

theorem num_l1 {deps : List (List Int)} (hdl : deps.length = h.length) (hd : ∀ y, idx h y → rd_L1 deps y = kids h h.length y) (e : Nat) :
    ∀ (S O first last : List Int), (∀ s ∈ S, idx h s) → S.length ≤ h.length * h.length → walk h = O ++ S.reverse.flatMap (tree h) → (S.reverse.flatMap (tree h)).length = e → first.length = h.length → last.length = h.length →
      (∀ j : Int, 0 ≤ j → j < O.length → rd first (rd O j) = j ∧ rd last (rd O j) = j) → (S.length : Int) ≤ h.length * (O.length + 1) →
      ∃ first' last', Tells h first' last' ∧ Ev (fun k => depend_numbers.l1 k h first last deps S O) (first', last') := by
  have hwl := walk_len hO
  have hn := hO.1
  induction e with
  | zero =>
    intro S O first last hS _ hw he hf hl hj _
    have hS0 : S = [] := by
      rcases List.eq_nil_or_concat S with e | ⟨S0, i, rfl⟩
      · exact e
      · rw [List.concat_eq_append, List.reverse_append, List.flatMap_append] at he
        have := hS i (by simp)
        simp [tree_eq hO this] at he
    subst hS0
    simp only [List.reverse_nil, List.flatMap_nil, List.append_nil] at hw
    subst hw
    have hF : Numbered h first := fun j h0 h1 => (hj j h0 h1).1
    obtain ⟨last', h1, h2⟩ := num_l2 hO hF hf (walk h).length ((walk h).length - 1) last (by omega) (by omega) hl
      (fun y hy => by
        obtain ⟨n0, n1, n2⟩ := num_at hO hF hy
        have := (hj _ n0 n1).2
        rw [n2] at this
        have hpos : 0 < (tree h y).length := by rw [tree_eq hO hy]; simp
        omega)
      (fun z hz hlt => by have := (num_at hO hF hz).2.1; omega)
    refine ⟨first, last', h1, ev_step h2 fun k => ?_⟩
    simp only [depend_numbers.l1]
    rw [if_neg (by simp), w64 (by omega) (by omega)]
  | succ e ih =>
    intro S O first last hS hSl hw he hf hl hj hSO
    rcases List.eq_nil_or_concat S with e0 | ⟨S0, i, rfl⟩
    · subst e0; simp at he
    · rw [List.concat_eq_append] at *
      have hi : idx h i := hS i (by simp)
      have hkl := kids_len h i h.length
      have hw' : walk h = (O ++ [i]) ++ (S0 ++ kids h h.length i).reverse.flatMap (tree h) := by
        rw [hw, List.reverse_append, List.reverse_append, List.flatMap_append, List.flatMap_append]
        simp [tree_eq hO hi]
      have hwlen : (walk h).length = O.length + 1 + ((S0 ++ kids h h.length i).reverse.flatMap (tree h)).length := by
        rw [hw', List.length_append, List.length_append]; rfl
      have hwl0 : (walk h).length = O.length + ((S0 ++ [i]).reverse.flatMap (tree h)).length := by rw [hw, List.length_append]
      have hi_at : rd (walk h) O.length = i := by rw [hw', rd_left (by simp)]; exact rd_concat
      have hOne : ∀ j : Int, 0 ≤ j → j < O.length → rd O j ≠ i := fun j h0 h1 e1 => by
        have e2 : rd (walk h) j = rd O j := by rw [hw, rd_left (by omega)]
        have := walk_inj hO h0 (by omega) (by omega) (j' := O.length) (by omega) (by rw [e2, e1, hi_at])
        omega
      have hS0l : (S0 ++ [i]).length = S0.length + 1 := by simp
      have hprod : h.length * (O.length + 1) ≤ 4096 * 4097 := Nat.mul_le_mul hn (by omega)
      obtain ⟨first', last', h1, h2⟩ := ih (S0 ++ kids h h.length i) (O ++ [i]) (first.set i.toNat O.length) (last.set i.toNat O.length)
        (fun s hs => by
          rcases List.mem_append.1 hs with hs | hs
          · exact hS s (by simp [hs])
          · have := (mem_kids _).1 hs
            exact ⟨this.1, this.2.1⟩)
        (by
          have h3 : (S0 ++ kids h h.length i).length ≤ h.length * (O.length + 1) + h.length := by
            rw [List.length_append]
            have : ((S0.length : Int)) ≤ h.length * (O.length + 1) := by have := hSO; rw [hS0l] at this; omega
            have : S0.length ≤ h.length * (O.length + 1) := by
              have h4 : ((h.length * (O.length + 1) : Nat) : Int) = h.length * (O.length + 1) := by simp
              omega
            omega
          by_cases c2 : O.length + 2 ≤ h.length
          · have : h.length * (O.length + 1) + h.length = h.length * (O.length + 2) := by rw [Nat.mul_add, Nat.mul_add]; omega
            rw [this] at h3
            exact Nat.le_trans h3 (Nat.mul_le_mul_left _ c2)
          · -- the last token: nothing is left but what stands already
            have hz : ((S0 ++ kids h h.length i).reverse.flatMap (tree h)).length = 0 := by omega
            have : S0 ++ kids h h.length i = [] := by
              rcases List.eq_nil_or_concat (S0 ++ kids h h.length i) with e3 | ⟨T, t, e3⟩
              · exact e3
              · exfalso
                rw [e3, List.concat_eq_append, List.reverse_append, List.flatMap_append] at hz
                have ht : idx h t := by
                  have : t ∈ S0 ++ kids h h.length i := by rw [e3, List.concat_eq_append]; simp
                  rcases List.mem_append.1 this with hs | hs
                  · exact hS t (by simp [hs])
                  · have := (mem_kids _).1 hs
                    exact ⟨this.1, this.2.1⟩
                simp [tree_eq hO ht] at hz
            rw [this]; simp)
        hw' (by omega) (by simpa using hf) (by simpa using hl)
        (fun j h0 h1 => by
          have h1' : j < (O.length : Int) + 1 := by simpa using h1
          by_cases ej : j = O.length
          · subst ej
            rw [rd_concat, rd_set hi.1 (by rw [hf]; exact hi.2) hi.1, if_pos rfl, rd_set hi.1 (by rw [hl]; exact hi.2) hi.1, if_pos rfl]
            exact ⟨rfl, rfl⟩
          · have hjO : j < (O.length : Int) := by omega
            rw [rd_left (by omega)]
            have hx : idx h (rd O j) := (walk_mem hO).1 (by rw [hw]; exact List.mem_append_left _ (rd_mem h0 hjO))
            rw [rd_set hi.1 (by rw [hf]; exact hi.2) hx.1, if_neg (hOne j h0 hjO), rd_set hi.1 (by rw [hl]; exact hi.2) hx.1, if_neg (hOne j h0 hjO)]
            exact hj j h0 hjO)
        (by
          rw [List.length_append, List.length_append]
          have h5 : ((S0 ++ [i]).length : Int) ≤ h.length * (O.length + 1) := hSO
          rw [hS0l] at h5
          have h6 : (h.length : Int) * (((O.length + [i].length : Nat) : Int) + 1) = h.length * (O.length + 1) + h.length := by
            simp only [List.length_cons, List.length_nil, Nat.zero_add, Int.natCast_add]
            rw [show ((O.length : Int) + ((1 : Nat) : Int) + 1) = (O.length + 1) + 1 by omega, Int.mul_add, Int.mul_one]
          rw [h6]
          omega)
      have hbig : h.length * h.length ≤ 4096 * 4096 := Nat.mul_le_mul hn hn
      refine ⟨first', last', h1, ev_step h2 fun k => ?_⟩
      have e1 : ((S0 ++ [i]).length : Int) - 1 = S0.length := by rw [hS0l]; omega
      simp only [depend_numbers.l1]
      rw [w64 (by omega) (by omega), e1, rd_concat, hd i hi]
      rw [if_pos (by omega), if_pos (by omega), if_pos (by omega), if_pos (by omega)]
      simp only [Option.bind_some, Int.toNat_natCast, List.take_left]
      rw [if_pos hi.1, if_pos (by rw [hdl]; exact hi.2), if_pos (by omega), if_pos (by rw [hf]; exact hi.2), if_pos (by rw [hl]; exact hi.2), if_pos (by omega)]

theorem num_l0 (e : Nat) : ∀ (m : Nat) (deps : List (List Int)), m + e = h.length → deps.length = h.length → (∀ y, idx h y → rd_L1 deps y = kids h m y) →
    ∃ first' last', Tells h first' last' ∧ Ev (fun k => depend_numbers.l0 k h deps (kids h m (-1)) h h.length m) (first', last') := by
  have hn := hO.1
  induction e with
  | zero =>
    intro m deps hm hdl hd
    obtain rfl : m = h.length := by omega
    have hkl := kids_len h (-1) h.length
    have hw : walk h = [] ++ (kids h h.length (-1)).reverse.flatMap (tree h) := rfl
    by_cases c0 : h.length = 0
    · -- no tokens
      have hk : kids h h.length (-1) = [] := by rw [c0]; rfl
      obtain ⟨f, l, h1, h2⟩ := num_l1 hO hdl hd _ (kids h h.length (-1)) [] (List.replicate h.length 0) (List.replicate h.length 0) (fun s hs => by rw [hk] at hs; cases hs) (by rw [hk]; simp) hw rfl List.length_replicate List.length_replicate (fun j h0 h1 => by simp at h1; omega) (by rw [hk]; simp)
      refine ⟨f, l, h1, ev_step h2 fun k => ?_⟩
      simp only [depend_numbers.l0]
      rw [if_neg (by omega), if_pos (by omega), if_pos (by omega)]
      simp
    · have hsq : h.length ≤ h.length * h.length := Nat.le_mul_of_pos_right _ (by omega)
      obtain ⟨f, l, h1, h2⟩ := num_l1 hO hdl hd _ (kids h h.length (-1)) [] (List.replicate h.length 0) (List.replicate h.length 0) (fun s hs => by
          have := (mem_kids _).1 hs
          exact ⟨this.1, this.2.1⟩) (by omega) hw rfl List.length_replicate List.length_replicate (fun j h0 h1 => by simp at h1; omega) (by simp; omega)
      refine ⟨f, l, h1, ev_step h2 fun k => ?_⟩
      simp only [depend_numbers.l0]
      rw [if_neg (by omega), if_pos (by omega), if_pos (by omega)]
      simp
  | succ e ih =>
    intro m deps hm hdl hd
    have hmi : idx h m := ⟨by omega, by omega⟩
    have hb := hO.2.1 m hmi.1 hmi.2
    by_cases c : 0 ≤ rd h m
    · have hy : idx h (rd h m) := ⟨c, hb.2⟩
      have hkl := kids_len h (rd h m) m
      obtain ⟨f, l, h1, h2⟩ := ih (m + 1) (deps.set (rd h m).toNat (rd_L1 deps (rd h m) ++ [(m : Int)])) (by omega) (by simpa using hdl) (fun y hy' => by
        rw [rdL_set c (by rw [hdl]; exact hb.2) hy'.1, kids]
        by_cases ey : y = rd h m
        · rw [if_pos ey, ey, hd _ hy, if_pos rfl]
        · rw [if_neg ey, if_neg (fun e2 => ey e2.symm), List.append_nil]; exact hd y hy')
      refine ⟨f, l, h1, ev_step h2 fun k => ?_⟩
      simp only [depend_numbers.l0]
      rw [if_pos hmi.2, if_pos hmi.1, if_pos hmi.2, if_pos c, if_pos c, if_pos (by rw [hdl]; exact hb.2), if_pos (by rw [hd _ hy]; omega), w64 (by omega) (by omega), kids, if_neg (show ¬ rd h m = -1 by omega), List.append_nil]
      rfl
    · have hkl := kids_len h (-1) m
      obtain ⟨f, l, h1, h2⟩ := ih (m + 1) deps (by omega) hdl (fun y hy' => by
        rw [kids, if_neg (fun e2 => c (by rw [e2]; exact hy'.1)), List.append_nil]; exact hd y hy')
      refine ⟨f, l, h1, ev_step h2 fun k => ?_⟩
      simp only [depend_numbers.l0]
      rw [if_pos hmi.2, if_pos hmi.1, if_pos hmi.2, if_neg c, if_pos (by omega), w64 (by omega) (by omega), kids, if_pos (show rd h m = -1 by omega)]
      rfl

theorem numbers_ev : ∃ first last, Tells h first last ∧ Ev (fun k => depend_numbers.f k h) (first, last) := by
  have hn := hO.1
  obtain ⟨f, l, h1, h2⟩ := num_l0 hO h.length 0 (List.replicate h.length []) (by omega) List.length_replicate (fun y _ => by rw [rdL_replicate]; rfl)
  refine ⟨f, l, h1, ?_⟩
  unfold depend_numbers.f
  exact ev_pos (by omega) (ev_pos (by omega) h2)
end

/-! ### Projectivity -/

/-- The tokens between d and its head are descendants of the head. -/
def Fits (h : List Int) (d : Int) : Prop := 0 ≤ rd h d → ∀ x, mn d (rd h d) < x → x < mx d (rd h d) → Desc h x (rd h d)
def Proj (h : List Int) : Prop := ∀ d, idx h d → Fits h d

section
variable {h : List Int} (hO : Ok h)
include hO

theorem between {d x : Int} (hd : idx h d) (h0 : 0 ≤ rd h d) (h1 : mn d (rd h d) < x) (h2 : x < mx d (rd h d)) : idx h x := by
  have hb := (hO.2.1 d hd.1 hd.2).2
  have := hd.1; have := hd.2
  unfold mn at h1; unfold mx at h2
  unfold idx
  constructor
  · split at h1 <;> omega
  · split at h2 <;> omega

theorem proj_l1 {first last : List Int} (hT : Tells h first last) {d : Int} (hd : idx h d) (h0 : 0 ≤ rd h d) {b0 : Bool} (next : Ev (fun k => depend_Projective.l0 k first last h h.length (d + 1)) b0) (e : Nat) :
    ∀ x : Int, mn d (rd h d) < x → x + e = mx d (rd h d) ∨ (mx d (rd h d) ≤ x ∧ e = 0) → ∃ b : Bool, (b = true ↔ (∀ z, x ≤ z → z < mx d (rd h d) → Desc h z (rd h d)) ∧ b0 = true) ∧ Ev (fun k => depend_Projective.l1 k first last d (rd h d) x h h.length d) b := by
  have hn := hO.1
  have hdl := hd.2
  have hy : idx h (rd h d) := ⟨h0, (hO.2.1 d hd.1 hd.2).2⟩
  obtain ⟨hf, hl, ht⟩ := hT
  induction e with
  | zero =>
    intro x hx he
    refine ⟨b0, ⟨fun e => ⟨fun z h1 h2 => by omega, e⟩, fun e => e.2⟩, ev_step next fun k => ?_⟩
    simp only [depend_Projective.l1]
    rw [if_neg (by omega), w64 (by have := hd.1; omega) (by omega)]
  | succ e ih =>
    intro x hx he
    have hxl : x < mx d (rd h d) := by omega
    have hxi := between hO hd h0 hx hxl
    have htx := ht x (rd h d) hxi hy
    have st : ∀ k, depend_Projective.l1 (k + 1) first last d (rd h d) x h h.length d = if rd first x ≤ rd first (rd h d) then some false else if rd first x > rd last (rd h d) then some false else depend_Projective.l1 k first last d (rd h d) (x + 1) h h.length d := fun k => by
      simp only [depend_Projective.l1]
      rw [if_pos hxl, if_pos hxi.1, if_pos (by rw [hf]; exact hxi.2), if_pos h0, if_pos (by rw [hf]; exact hy.2), if_pos (show rd h d < (last.length : Int) by rw [hl]; exact hy.2), w64 (x := x + 1) (by have := hxi.1; omega) (by have := hxi.2; omega)]
    by_cases c : Desc h x (rd h d)
    · have hc := htx.2 c
      obtain ⟨b, hb1, hb2⟩ := ih (x + 1) (by omega) (by omega)
      refine ⟨b, hb1.trans ⟨fun ⟨p, q⟩ => ⟨fun z h1 h2 => ?_, q⟩, fun ⟨p, q⟩ => ⟨fun z h1 h2 => p z (by omega) h2, q⟩⟩, ev_step hb2 fun k => ?_⟩
      · by_cases ez : z = x
        · rw [ez]; exact c
        · exact p z (by omega) h2
      · rw [st, if_neg (by omega), if_neg (by omega)]
    · refine ⟨false, ⟨fun e => (by cases e), fun ⟨p, _⟩ => absurd (p x (Int.le_refl _) hxl) c⟩, ev_step (Ev.now _) fun k => ?_⟩
      rw [st]
      by_cases c1 : rd first x ≤ rd first (rd h d)
      · rw [if_pos c1]
      · rw [if_neg c1, if_pos]
        by_cases c2 : rd first x > rd last (rd h d)
        · exact c2
        · exact absurd (htx.1 ⟨by omega, by omega⟩) c

theorem proj_l0 {first last : List Int} (hT : Tells h first last) (e : Nat) : ∀ d : Int, 0 ≤ d → d + e = h.length → ∃ b : Bool, (b = true ↔ ∀ z, idx h z → d ≤ z → Fits h z) ∧ Ev (fun k => depend_Projective.l0 k first last h h.length d) b := by
  have hn := hO.1
  induction e with
  | zero =>
    intro d h0 hd
    refine ⟨true, ⟨fun _ z hz hdz => by have := hz.2; omega, fun _ => rfl⟩, ev_step (Ev.now _) fun k => ?_⟩
    simp only [depend_Projective.l0]
    rw [if_neg (by omega)]
  | succ e ih =>
    intro d h0 hd
    have hdi : idx h d := ⟨h0, by omega⟩
    obtain ⟨b0, hb0, he0⟩ := ih (d + 1) (by omega) (by omega)
    have split : (∀ z, idx h z → d ≤ z → Fits h z) ↔ Fits h d ∧ ∀ z, idx h z → d + 1 ≤ z → Fits h z := by
      constructor
      · exact fun p => ⟨p d hdi (Int.le_refl _), fun z hz h1 => p z hz (by omega)⟩
      · rintro ⟨p, q⟩ z hz h1
        by_cases ez : z = d
        · rw [ez]; exact p
        · exact q z hz (by omega)
    rw [split]
    by_cases c : rd h d < 0
    · refine ⟨b0, hb0.trans ⟨fun p => ⟨fun h1 => absurd h1 (by omega), p⟩, fun p => p.2⟩, ev_step he0 fun k => ?_⟩
      simp only [depend_Projective.l0]
      rw [if_pos (by omega), if_pos h0, if_pos (by omega), if_pos c, w64 (by omega) (by omega)]
    · have hb := (hO.2.1 d hdi.1 hdi.2).2
      obtain ⟨m, em⟩ : ∃ m, m = mn d (rd h d) := ⟨_, rfl⟩
      have hm : 0 ≤ m ∧ m < h.length := by rw [em]; unfold mn; split <;> omega
      have hmx : m ≤ mx d (rd h d) := by rw [em]; unfold mn mx; split <;> split <;> omega
      obtain ⟨b, hb1, hb2⟩ := proj_l1 hO hT hdi (by omega) he0 (mx d (rd h d) - (m + 1)).toNat (m + 1) (by omega) (by omega)
      refine ⟨b, hb1.trans ⟨fun ⟨p, q⟩ => ⟨fun _ x h1 h2 => p x (by omega) h2, hb0.1 q⟩, fun ⟨p, q⟩ => ⟨fun z h1 h2 => p (by omega) z (by omega) h2, hb0.2 q⟩⟩, ev_step hb2 fun k => ?_⟩
      simp only [depend_Projective.l0]
      rw [if_pos (by omega), if_pos h0, if_pos (by omega), if_neg c, ← em, w64 (by omega) (by omega)]
end

theorem projective_ev {h : List Int} (hn : h.length ≤ 4096) : ∃ b : Bool, (b = true ↔ Ok h ∧ Proj h) ∧ Ev (fun k => depend_Projective.f k h) b := by
  obtain ⟨r, h1, h2, _⟩ := checks_ev hn
  have hk := chk_ok hn h1
  unfold depend_Projective.f
  by_cases c : r.2 = 0
  · have hO := hk.1 c
    obtain ⟨first, last, hT, he⟩ := numbers_ev hO
    obtain ⟨b, hb, hbe⟩ := proj_l0 hO hT h.length 0 (by omega) (by omega)
    exact ⟨b, hb.trans ⟨fun p => ⟨hO, fun d hd => p d hd hd.1⟩, fun p z hz _ => p.2 z hz⟩, h2.bind (ev_pos c (he.bind hbe))⟩
  · exact ⟨false, ⟨fun e => (by cases e), fun p => absurd (hk.2 p.1) c⟩, h2.bind (ev_neg c (Ev.now _))⟩
end Go.Proofs.Ytkanmafjjejpmaa.M
