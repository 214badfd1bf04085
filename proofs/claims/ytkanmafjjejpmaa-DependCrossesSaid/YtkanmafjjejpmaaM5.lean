/- Descendants in the order in which depend.numbers goes: those of a token follow it directly. No condition. -/
import Derived.Test.YtkanmafjjejpmaaM2
namespace Go.Proofs.Ytkanmafjjejpmaa.M
open Go.RowKit Go.Proofs.YtkanmafjjejpmaaW.PrintWords

/-- y is an ancestor of x. -/
def Desc (h : List Int) (x y : Int) : Prop := ∃ m, it h (m + 1) x = y

/-- The tokens below m with the head y. -/
def kids (h : List Int) : Nat → Int → List Int
  | 0, _ => []
  | m + 1, y => kids h m y ++ (if rd h m = y then [(m : Int)] else [])

theorem mem_kids {h : List Int} {y c : Int} : ∀ m : Nat, c ∈ kids h m y ↔ 0 ≤ c ∧ c < m ∧ rd h c = y
  | 0 => by simp [kids]; omega
  | m + 1 => by
    rw [kids, List.mem_append, mem_kids m]
    constructor
    · rintro (⟨a, b, e⟩ | hc)
      · exact ⟨a, by omega, e⟩
      · split at hc
        · rename_i e
          obtain rfl : c = m := by simpa using hc
          exact ⟨by omega, by omega, e⟩
        · cases hc
    · rintro ⟨a, b, e⟩
      by_cases cm : c = m
      · right; subst cm; rw [if_pos e]; simp
      · left; exact ⟨a, by omega, e⟩
theorem kids_nodup (h : List Int) (y : Int) : ∀ m, (kids h m y).Nodup
  | 0 => List.nodup_nil
  | m + 1 => by
    rw [kids, List.nodup_append]
    refine ⟨kids_nodup h y m, by split <;> simp, fun a ha b hb e => ?_⟩
    have := (mem_kids m).1 ha
    split at hb
    · have : b = m := by simpa using hb
      omega
    · cases hb
theorem kids_len (h : List Int) (y : Int) : ∀ m, (kids h m y).length ≤ m
  | 0 => Nat.le_refl _
  | m + 1 => by
    have := kids_len h y m
    rw [kids, List.length_append]
    split <;> simp <;> omega

def pre (h : List Int) : Nat → Int → List Int
  | 0, _ => []
  | f + 1, y => y :: (kids h h.length y).reverse.flatMap (pre h f)
/-- The tokens of the tree below y, y first. -/
def tree (h : List Int) (y : Int) : List Int := pre h h.length y

theorem nodup_rev {l : List Int} (h : l.Nodup) : l.reverse.Nodup := List.pairwise_reverse.2 (List.Pairwise.imp (fun h e => h e.symm) h)
theorem nodup_inj {l : List Int} (h : l.Nodup) {i j : Nat} (hi : i < l.length) (hj : j < l.length) (e : l[i] = l[j]) : i = j := by
  have hp := List.pairwise_iff_getElem.1 h
  rcases Nat.lt_trichotomy i j with c | c | c
  · exact absurd e (hp i j hi hj c)
  · exact c
  · exact absurd e.symm (hp j i hj hi c)
theorem nodup_flat {P : Int → List Int} : ∀ {S : List Int}, S.Nodup → (∀ s ∈ S, (P s).Nodup) → (∀ s ∈ S, ∀ t ∈ S, s ≠ t → ∀ x ∈ P s, x ∉ P t) → (S.flatMap P).Nodup
  | [], _, _, _ => List.nodup_nil
  | s :: S, hS, h1, h2 => by
    rw [List.flatMap_cons, List.nodup_append]
    rw [List.nodup_cons] at hS
    refine ⟨h1 s (by simp), nodup_flat hS.2 (fun t ht => h1 t (by simp [ht])) (fun a ha b hb => h2 a (by simp [ha]) b (by simp [hb])), fun a ha b hb e => ?_⟩
    obtain ⟨t, ht, hbt⟩ := List.mem_flatMap.1 hb
    exact h2 s (by simp) t (by simp [ht]) (fun e2 => hS.1 (by rw [e2]; exact ht)) a ha (by rw [e]; exact hbt)

theorem flat_split {P : Int → List Int} {S : List Int} {s : Int} (hs : s ∈ S) : ∃ A B, S.flatMap P = A ++ P s ++ B := by
  obtain ⟨S1, S2, rfl⟩ := List.append_of_mem hs
  exact ⟨S1.flatMap P, S2.flatMap P, by simp [List.flatMap_append, List.flatMap_cons]⟩

theorem rd_mem {l : List Int} {j : Int} (h0 : 0 ≤ j) (h1 : j < l.length) : rd l j ∈ l := by
  unfold rd
  rw [List.getD_eq_getElem?_getD, List.getElem?_eq_getElem (by omega)]
  exact List.getElem_mem _
theorem mem_rd {l : List Int} {x : Int} (hx : x ∈ l) : ∃ j : Int, 0 ≤ j ∧ j < l.length ∧ rd l j = x := by
  obtain ⟨i, hi, e⟩ := List.mem_iff_getElem.1 hx
  refine ⟨i, by omega, by omega, ?_⟩
  unfold rd
  rw [List.getD_eq_getElem?_getD, Int.toNat_natCast, List.getElem?_eq_getElem hi, ← e]
  rfl
theorem rd_of_split {l A P B : List Int} {t : Int} (e : l = A ++ P ++ B) (h0 : 0 ≤ t) (h1 : t < P.length) : rd l (A.length + t) = rd P t := by
  subst e
  unfold rd
  rw [List.getD_eq_getElem?_getD, List.append_assoc, List.getElem?_append_right (by omega), List.getElem?_append_left (by omega), List.getD_eq_getElem?_getD]
  congr 2
  omega


section
variable {h : List Int} (hO : Ok h)
include hO

theorem tree_ind {C : Int → Prop} (step : ∀ y, idx h y → (∀ c, idx h c → rd h c = y → C c) → C y) : ∀ y, idx h y → C y := by
  have key : ∀ f y, idx h y → (∀ x, idx h x → it h f x ≠ y) → C y := by
    intro f
    induction f with
    | zero => intro y hy hf; exact absurd rfl (hf y hy)
    | succ f ih =>
      intro y hy hf
      refine step y hy fun c hc e => ih c hc fun x hx e2 => hf x hx ?_
      show nxt h (it h f x) = y
      rw [e2, nxt_pos hc.1, e]
  exact fun y hy => key h.length y hy fun x hx e => by
    rw [way_ends hO.2.1 hO.2.2 hx.1 hx.2] at e
    have := hy.1; omega

theorem tree_eq {y : Int} (hy : idx h y) : tree h y = y :: (kids h h.length y).reverse.flatMap (tree h) := by
  have key : ∀ f y, idx h y → (∀ x, idx h x → it h f x ≠ y) → pre h (f + 1) y = pre h f y := by
    intro f
    induction f with
    | zero => intro y hy hf; exact absurd rfl (hf y hy)
    | succ f ih =>
      intro y hy hf
      rw [pre]
      conv => rhs; rw [pre]
      congr 1
      unfold List.flatMap
      congr 1
      refine List.map_congr_left fun c hc => ?_
      have hc := (mem_kids _).1 (List.mem_reverse.1 hc)
      refine ih c ⟨hc.1, hc.2.1⟩ fun x hx e2 => hf x hx ?_
      show nxt h (it h f x) = y
      rw [e2, nxt_pos hc.1, hc.2.2]
  have := key h.length y hy fun x hx e => by
    rw [way_ends hO.2.1 hO.2.2 hx.1 hx.2] at e
    have := hy.1; omega
  unfold tree
  rw [← this, pre]

theorem mem_tree {x : Int} (hx : idx h x) : ∀ y, idx h y → (x ∈ tree h y ↔ ∃ m, it h m x = y) := by
  refine tree_ind hO fun y hy ih => ?_
  rw [tree_eq hO hy, List.mem_cons, List.mem_flatMap]
  constructor
  · rintro (rfl | ⟨c, hc, hm⟩)
    · exact ⟨0, rfl⟩
    · have hc := (mem_kids _).1 (List.mem_reverse.1 hc)
      obtain ⟨m, e⟩ := (ih c ⟨hc.1, hc.2.1⟩ hc.2.2).1 hm
      exact ⟨m + 1, by show nxt h (it h m x) = y; rw [e, nxt_pos hc.1, hc.2.2]⟩
  · rintro ⟨m, e⟩
    cases m with
    | zero => exact .inl e
    | succ m =>
      right
      have h0 : 0 ≤ it h m x := it_nonneg_of (b := m + 1) (by rw [e]; exact hy.1) (by omega)
      have h1 := (it_rng hO.2.1 m (x := x) (by have := hx.1; omega) hx.2).2
      have e' : rd h (it h m x) = y := by rw [← nxt_pos h0]; exact e
      exact ⟨it h m x, List.mem_reverse.2 ((mem_kids _).2 ⟨h0, h1, e'⟩), (ih _ ⟨h0, h1⟩ e').2 ⟨m, rfl⟩⟩
theorem tree_idx : ∀ y, idx h y → ∀ x ∈ tree h y, idx h x := by
  refine tree_ind hO fun y hy ih x hx => ?_
  rw [tree_eq hO hy, List.mem_cons, List.mem_flatMap] at hx
  rcases hx with rfl | ⟨c, hc, hm⟩
  · exact hy
  · have hc := (mem_kids _).1 (List.mem_reverse.1 hc)
    exact ih c ⟨hc.1, hc.2.1⟩ hc.2.2 x hm

/-- Trees of two tokens with one head have nothing in common. -/
theorem tree_apart {y c c' x : Int} (hc : idx h c) (hc' : idx h c') (e : rd h c = y) (e' : rd h c' = y) (hne : c ≠ c') (hx : x ∈ tree h c) : x ∉ tree h c' := by
  intro hx'
  have hxi := tree_idx hO c hc x hx
  obtain ⟨m, em⟩ := (mem_tree hO hxi c hc).1 hx
  obtain ⟨m', em'⟩ := (mem_tree hO hxi c' hc').1 hx'
  have key : ∀ (m m' : Nat) (c c' : Int), idx h c → idx h c' → rd h c = y → rd h c' = y → it h m x = c → it h m' x = c' → m < m' → False := by
    intro m m' c c' hc hc' e e' em em' hlt
    have e3 : it h (m' - m - 1) y = c' := by
      rw [← em', show m' = (m' - m - 1) + 1 + m by omega, it_add, em, it_succ, nxt_pos hc.1, e, show m' - m - 1 + 1 + m - m - 1 = m' - m - 1 by omega]
    by_cases cy : y < 0
    · have := it_neg h (m' - m - 1) cy
      have := hc'.1
      omega
    · refine hO.2.2 y ⟨by omega, ?_, m' - m - 1, ?_⟩
      · rw [← e]; exact (hO.2.1 c hc.1 hc.2).2
      · show nxt h (it h (m' - m - 1) y) = y
        rw [e3, nxt_pos hc'.1, e']
  rcases Nat.lt_trichotomy m m' with hlt | heq | hgt
  · exact key m m' c c' hc hc' e e' em em' hlt
  · subst heq; exact hne (em.symm.trans em')
  · exact key m' m c' c hc' hc e' e em' em hgt

theorem tree_nodup : ∀ y, idx h y → (tree h y).Nodup := by
  refine tree_ind hO fun y hy ih => ?_
  rw [tree_eq hO hy, List.nodup_cons]
  constructor
  · intro hm
    obtain ⟨c, hc, hyc⟩ := List.mem_flatMap.1 hm
    have hc := (mem_kids _).1 (List.mem_reverse.1 hc)
    obtain ⟨m, em⟩ := (mem_tree hO hy c ⟨hc.1, hc.2.1⟩).1 hyc
    exact hO.2.2 y ⟨hy.1, hy.2, m, by show nxt h (it h m y) = y; rw [em, nxt_pos hc.1, hc.2.2]⟩
  · refine nodup_flat (nodup_rev (kids_nodup h y _)) (fun s hs => ?_) (fun s hs t ht hst x hx => ?_)
    · have hs := (mem_kids _).1 (List.mem_reverse.1 hs)
      exact ih s ⟨hs.1, hs.2.1⟩ hs.2.2
    · have hs := (mem_kids _).1 (List.mem_reverse.1 hs)
      have ht := (mem_kids _).1 (List.mem_reverse.1 ht)
      exact tree_apart hO ⟨hs.1, hs.2.1⟩ ⟨ht.1, ht.2.1⟩ hs.2.2 ht.2.2 hst hx

/-- A tree within a tree stands in one piece. -/
theorem tree_split {y : Int} : ∀ s, idx h s → y ∈ tree h s → ∃ A B, tree h s = A ++ tree h y ++ B := by
  refine tree_ind hO fun s hs ih hy => ?_
  by_cases e : y = s
  · subst e; exact ⟨[], [], by simp⟩
  · rw [tree_eq hO hs, List.mem_cons, List.mem_flatMap] at hy
    rcases hy with hy | ⟨c, hc, hyc⟩
    · exact absurd hy e
    · have hc' := (mem_kids _).1 (List.mem_reverse.1 hc)
      obtain ⟨A, B, e1⟩ := ih c ⟨hc'.1, hc'.2.1⟩ hc'.2.2 hyc
      obtain ⟨A', B', e2⟩ := flat_split (P := tree h) hc
      exact ⟨s :: A' ++ A, B ++ B', by rw [tree_eq hO hs, e2, e1]; simp⟩

/-- The order in which numbers goes. -/
theorem root_of {x : Int} (hx : idx h x) : ∃ r, r ∈ kids h h.length (-1) ∧ x ∈ tree h r := by
  have hend := way_ends hO.2.1 hO.2.2 hx.1 hx.2
  have key : ∀ m, it h m x = -1 → ∃ j, j < m ∧ 0 ≤ it h j x ∧ rd h (it h j x) = -1 := by
    intro m
    induction m with
    | zero => intro e; have := hx.1; have e : x = -1 := e; omega
    | succ m ih =>
      intro e
      by_cases c : it h m x < 0
      · have := it_rng hO.2.1 m (x := x) (by have := hx.1; omega) hx.2
        obtain ⟨j, hj, h1, h2⟩ := ih (by omega)
        exact ⟨j, by omega, h1, h2⟩
      · exact ⟨m, by omega, by omega, by rw [← nxt_pos (by omega)]; exact e⟩
  obtain ⟨j, _, h1, h2⟩ := key _ hend
  have h3 := (it_rng hO.2.1 j (x := x) (by have := hx.1; omega) hx.2).2
  exact ⟨it h j x, (mem_kids _).2 ⟨h1, h3, h2⟩, (mem_tree hO hx _ ⟨h1, h3⟩).2 ⟨j, rfl⟩⟩
end

/-- All tokens, each tree in one piece. -/
def walk (h : List Int) : List Int := (kids h h.length (-1)).reverse.flatMap (tree h)

section
variable {h : List Int} (hO : Ok h)
include hO

theorem walk_nodup : (walk h).Nodup := by
  refine nodup_flat (nodup_rev (kids_nodup h _ _)) (fun s hs => ?_) (fun s hs t ht hst x hx => ?_)
  · have hs := (mem_kids _).1 (List.mem_reverse.1 hs)
    exact tree_nodup hO s ⟨hs.1, hs.2.1⟩
  · have hs := (mem_kids _).1 (List.mem_reverse.1 hs)
    have ht := (mem_kids _).1 (List.mem_reverse.1 ht)
    exact tree_apart hO ⟨hs.1, hs.2.1⟩ ⟨ht.1, ht.2.1⟩ hs.2.2 ht.2.2 hst hx
theorem walk_mem {x : Int} : x ∈ walk h ↔ idx h x := by
  unfold walk
  rw [List.mem_flatMap]
  constructor
  · rintro ⟨r, hr, hx⟩
    have hr := (mem_kids _).1 (List.mem_reverse.1 hr)
    exact tree_idx hO r ⟨hr.1, hr.2.1⟩ x hx
  · intro hx
    obtain ⟨r, hr, hxr⟩ := root_of hO hx
    exact ⟨r, List.mem_reverse.2 hr, hxr⟩
theorem walk_split {y : Int} (hy : idx h y) : ∃ A B, walk h = A ++ tree h y ++ B := by
  obtain ⟨r, hr, hyr⟩ := root_of hO hy
  have hr' := (mem_kids _).1 hr
  obtain ⟨A, B, e⟩ := tree_split hO r ⟨hr'.1, hr'.2.1⟩ hyr
  obtain ⟨A', B', e'⟩ := flat_split (P := tree h) (List.mem_reverse.2 hr)
  exact ⟨A' ++ A, B ++ B', by unfold walk; rw [e', e]; simp⟩

theorem walk_len : (walk h).length ≤ h.length := by
  by_cases c : (walk h).length ≤ h.length
  · exact c
  · exfalso
    obtain ⟨a, b, hab, hb, e⟩ := pigeon h.length (fun j => (rd (walk h) j).toNat) (fun j hj => by
      have hj' := (walk_mem hO).1 (rd_mem (l := walk h) (j := j) (by omega) (by omega))
      have := hj'.1; have := hj'.2
      omega)
    have ha' := (walk_mem hO).1 (rd_mem (l := walk h) (j := a) (by omega) (by omega))
    have hb' := (walk_mem hO).1 (rd_mem (l := walk h) (j := b) (by omega) (by omega))
    have e2 : rd (walk h) a = rd (walk h) b := by have := ha'.1; have := hb'.1; omega
    unfold rd at e2
    rw [List.getD_eq_getElem?_getD, List.getD_eq_getElem?_getD, Int.toNat_natCast, Int.toNat_natCast, List.getElem?_eq_getElem (by omega), List.getElem?_eq_getElem (by omega)] at e2
    have := nodup_inj (walk_nodup hO) _ _ e2
    omega
theorem walk_inj {j j' : Int} (h0 : 0 ≤ j) (h1 : j < (walk h).length) (g0 : 0 ≤ j') (g1 : j' < (walk h).length) (e : rd (walk h) j = rd (walk h) j') : j = j' := by
  unfold rd at e
  rw [List.getD_eq_getElem?_getD, List.getD_eq_getElem?_getD, List.getElem?_eq_getElem (by omega), List.getElem?_eq_getElem (by omega)] at e
  have := nodup_inj (walk_nodup hO) _ _ e
  omega

/-- Numbers by places. -/
def Numbered (h first : List Int) : Prop := ∀ j : Int, 0 ≤ j → j < (walk h).length → rd first (rd (walk h) j) = j

theorem num_at {first : List Int} (hF : Numbered h first) {x : Int} (hx : idx h x) : 0 ≤ rd first x ∧ rd first x < (walk h).length ∧ rd (walk h) (rd first x) = x := by
  obtain ⟨j, h0, h1, e⟩ := mem_rd ((walk_mem hO).2 hx)
  have := hF j h0 h1
  rw [e] at this
  rw [this]
  exact ⟨h0, h1, e⟩
theorem num_tree {first : List Int} (hF : Numbered h first) {x y : Int} (hx : idx h x) (hy : idx h y) : x ∈ tree h y ↔ rd first y ≤ rd first x ∧ rd first x < rd first y + (tree h y).length := by
  obtain ⟨A, B, e⟩ := walk_split hO hy
  have hlen : (walk h).length = A.length + (tree h y).length + B.length := by rw [e, List.length_append, List.length_append]
  have hpos : 0 < (tree h y).length := by rw [tree_eq hO hy]; simp
  have hyA : rd first y = A.length := by
    have := hF A.length (by omega) (by omega)
    have e0 := rd_of_split (t := 0) e (by omega) (by omega)
    rw [show ((A.length : Int) + 0) = A.length by omega] at e0
    rw [e0, tree_eq hO hy] at this
    exact this
  rw [hyA]
  constructor
  · intro hm
    obtain ⟨t, h0, h1, et⟩ := mem_rd hm
    have e1 := rd_of_split e h0 h1
    have := hF (A.length + t) (by omega) (by omega)
    rw [e1, et] at this
    omega
  · rintro ⟨g0, g1⟩
    obtain ⟨n0, n1, n2⟩ := num_at hO hF hx
    have e1 := rd_of_split (t := rd first x - A.length) e (by omega) (by omega)
    rw [show (A.length : Int) + (rd first x - A.length) = rd first x by omega, n2] at e1
    rw [e1]
    exact rd_mem (by omega) (by omega)
theorem num_inj {first : List Int} (hF : Numbered h first) {x y : Int} (hx : idx h x) (hy : idx h y) (e : rd first x = rd first y) : x = y := by
  rw [← (num_at hO hF hx).2.2, ← (num_at hO hF hy).2.2, e]
/-- A head comes first, and its tree reaches beyond that of a dependent. -/
theorem num_head {first : List Int} (hF : Numbered h first) {z : Int} (hz : idx h z) (h0 : 0 ≤ rd h z) :
    rd first (rd h z) < rd first z ∧ rd first z + (tree h z).length ≤ rd first (rd h z) + (tree h (rd h z)).length := by
  have hy : idx h (rd h z) := ⟨h0, (hO.2.1 z hz.1 hz.2).2⟩
  have hm : z ∈ tree h (rd h z) := (mem_tree hO hz _ hy).2 ⟨1, nxt_pos hz.1⟩
  have h1 := (num_tree hO hF hz hy).1 hm
  have hne : rd first z ≠ rd first (rd h z) := fun e => by
    have := num_inj hO hF hz hy e
    exact hO.2.2 z ⟨hz.1, hz.2, 0, by show nxt h z = z; rw [nxt_pos hz.1]; exact this.symm⟩
  obtain ⟨A, B, e⟩ := tree_split hO _ hy hm
  have hpos : 0 < (tree h z).length := by rw [tree_eq hO hz]; simp
  -- the last of z's tree
  have hl := rd_mem (l := tree h z) (j := (tree h z).length - 1) (by omega) (by omega)
  have hli := tree_idx hO z hz _ hl
  obtain ⟨A', B', e'⟩ := walk_split hO hz
  have hlen' : (walk h).length = A'.length + (tree h z).length + B'.length := by rw [e', List.length_append, List.length_append]
  have hzA : rd first z = A'.length := by
    have := hF A'.length (by omega) (by omega)
    have e0 := rd_of_split (t := 0) e' (by omega) (by omega)
    rw [show ((A'.length : Int) + 0) = A'.length by omega] at e0
    rw [e0, tree_eq hO hz] at this
    exact this
  have e1 := rd_of_split (t := (tree h z).length - 1) e' (by omega) (by omega)
  have e2 := hF (A'.length + ((tree h z).length - 1)) (by omega) (by omega)
  rw [e1] at e2
  have hl2 : rd (tree h z) ((tree h z).length - 1) ∈ tree h (rd h z) := by rw [e]; simp [hl]
  have h2 := (num_tree hO hF hli hy).1 hl2
  omega
end
end Go.Proofs.Ytkanmafjjejpmaa.M
