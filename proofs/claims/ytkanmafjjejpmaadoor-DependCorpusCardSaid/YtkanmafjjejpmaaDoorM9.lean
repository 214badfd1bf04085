/- Heads and relations of one text are valid in a corpus exactly if they have a text, unless all are roots without relations. Conditions: none beyond the statement's own. -/
import Derived.Test.YtkanmafjjejpmaaDoorWAll
import Derived.Test.YtkanmafjjejpmaaDoorPx33
import Derived.Test.YtkanmafjjejpmaaDoorM8
namespace Go.Proofs.YtkanmafjjejpmaaDoor.M
open Go.RowKit Go.Proofs.YtkanmafjjejpmaaDoor.P Go.Proofs.YtkanmafjjejpmaaDoor.X Go.Proofs.YtkanmafjjejpmaaDoorW.PrintWords Go.Proofs.YtkanmafjjejpmaaDoorW.PrintLast

/-! ### cycles -/
/-- The heads, what is no index read as -1. -/
def cl (h : List Int) : List Int := h.map fun (y : Int) => if 0 ≤ y ∧ y < (h.length : Int) then y else (-1 : Int)
theorem cl_len (h : List Int) : (cl h).length = h.length := by simp [cl]
theorem rd_cl {h : List Int} {x : Int} (h0 : 0 ≤ x) (h1 : x < h.length) : rd (cl h) x = if 0 ≤ rd h x ∧ rd h x < h.length then rd h x else -1 := by
  unfold rd cl
  have hl : x.toNat < h.length := by omega
  rw [List.getD_eq_getElem?_getD, List.getD_eq_getElem?_getD, List.getElem?_map, List.getElem?_eq_getElem hl]
  rfl
theorem cl_rng (h : List Int) : Rng (cl h) := fun i h0 h1 => by
  rw [cl_len] at h1 ⊢
  rw [rd_cl h0 h1]
  split <;> omega
theorem cl_of_rng {h : List Int} (hr : Rng h) : cl h = h := by
  apply List.ext_getElem
  · exact cl_len h
  · intro i h1 h2
    have := hr i (by omega) (by omega)
    have e : rd h (i : Int) = h[i] := by
      unfold rd
      rw [List.getD_eq_getElem?_getD]
      simp [List.getElem?_eq_getElem h2]
    rw [e] at this
    simp only [cl, List.getElem_map]
    split <;> omega

theorem rdOf_set {l : List Bool} {a x : Int} {v : Bool} (ha0 : 0 ≤ a) (ha : a < l.length) (hx : 0 ≤ x) : rdOf false (l.set a.toNat v) x = if x = a then v else rdOf false l x := by
  unfold rdOf
  by_cases e : x = a
  · subst e
    rw [if_pos rfl, List.getD_eq_getElem?_getD, List.getElem?_set_self (by omega)]
    rfl
  · rw [if_neg e, List.getD_eq_getElem?_getD, List.getElem?_set_ne (by omega), ← List.getD_eq_getElem?_getD]
theorem rdOf_replicate (n : Nat) (x : Int) : rdOf false (List.replicate n false) x = false := by
  unfold rdOf
  rw [List.getD_eq_getElem?_getD, List.getElem?_replicate]
  split <;> rfl

structure CInv (g : List Int) (i : Int) (seen : List Int) (out : List Bool) : Prop where
  len : seen.length = g.length
  leno : out.length = g.length
  mark : ∀ x : Int, 0 ≤ x → x < g.length → 0 ≤ rd seen x ∧ rd seen x ≤ i
  closed : ∀ x : Int, 0 ≤ x → x < g.length → rd seen x ≠ 0 → rd g x < 0 ∨ rd seen (rd g x) ≠ 0
  done : ∀ x : Int, 0 ≤ x → x < i → rd seen x ≠ 0
  sound : ∀ x : Int, 0 ≤ x → x < g.length → rdOf false out x = true → Cyc g x
  full : ∀ x : Int, Cyc g x → rd seen x ≠ 0 → rdOf false out x = true
  old : ∀ x : Int, 0 ≤ x → x < g.length → rdOf false out x = true → rd seen x ≠ 0

/-- Within a period no place comes twice. -/
theorem cyc_apart {g : List Int} {c : Int} {p : Nat} (hp : it g p c = c) (hmin : ∀ j, 1 ≤ j → j < p → it g j c ≠ c) {a b : Nat} (hab : a < b) (hb : b < p) : it g a c ≠ it g b c := fun e => by
  have e1 : it g (p - b + a) c = it g (p - b + b) c := by rw [it_add, it_add, e]
  rw [Nat.sub_add_cancel (by omega), hp] at e1
  exact hmin (p - b + a) (by omega) (by omega) e1

theorem cyc_l2 {h : List Int} (hn : h.length ≤ 4096) {seen : List Int} {out0 : List Bool} {i c : Int} (hi0 : 0 ≤ i) (hi : i < h.length) (hc0 : 0 ≤ c) (hc : c < h.length) {p : Nat} (hp : it (cl h) p c = c) (hp1 : 1 ≤ p)
    (hmin : ∀ j, 1 ≤ j → j < p → it (cl h) j c ≠ c) (hfresh : ∀ j, rdOf false out0 (it (cl h) j c) = false) (e : Nat) :
    ∀ (j : Nat) (out : List Bool), j + e = p → out.length = h.length → (∀ x : Int, 0 ≤ x → x < h.length → (rdOf false out x = true ↔ rdOf false out0 x = true ∨ ∃ a, a < j ∧ it (cl h) a c = x)) →
      ∃ out' : List Bool, out'.length = h.length ∧ (∀ x : Int, 0 ≤ x → x < h.length → (rdOf false out' x = true ↔ rdOf false out0 x = true ∨ ∃ a, a < p ∧ it (cl h) a c = x)) ∧
        ∀ r, Ev (fun k => corpus_cycles.l0 k h out' seen h.length (i + 1)) r → Ev (fun k => corpus_cycles.l2 k h out seen (it (cl h) j c) h.length i) r := by
  induction e with
  | zero =>
    intro j out hj hl ho
    obtain rfl : j = p := by omega
    refine ⟨out, hl, ho, fun r hr => ev_step hr fun k => ?_⟩
    have ht : rdOf false out c = true := (ho c hc0 hc).2 (.inr ⟨0, by omega, rfl⟩)
    simp only [corpus_cycles.l2]
    rw [hp, if_pos hc0, if_pos (by omega), if_pos ht, w64 (by omega) (by omega)]
  | succ e ih =>
    intro j out hj hl ho
    have hnn : 0 ≤ it (cl h) j c := it_nonneg_of (b := p) (by rw [hp]; exact hc0) (by omega)
    have hb := it_rng (cl_rng h) j (x := c) (by omega) (by rw [cl_len]; exact hc)
    rw [cl_len] at hb
    have hnn1 : 0 ≤ it (cl h) (j + 1) c := it_nonneg_of (b := p) (by rw [hp]; exact hc0) (by omega)
    have e1 : it (cl h) (j + 1) c = rd h (it (cl h) j c) := by
      have e2 : it (cl h) (j + 1) c = rd (cl h) (it (cl h) j c) := nxt_pos hnn
      rw [rd_cl hnn hb.2] at e2
      split at e2
      · exact e2
      · omega
    have hf : rdOf false out (it (cl h) j c) = false := by
      cases q : rdOf false out (it (cl h) j c) with
      | false => rfl
      | true =>
        rcases (ho _ hnn hb.2).1 q with q | ⟨a, ha, q⟩
        · rw [hfresh j] at q; cases q
        · exact absurd q (cyc_apart hp hmin ha (by omega))
    obtain ⟨out', h1, h2, h3⟩ := ih (j + 1) (out.set (it (cl h) j c).toNat true) (by omega) (by simpa using hl) (fun x hx0 hx1 => by
      rw [rdOf_set hnn (by omega) hx0]
      by_cases ex : x = it (cl h) j c
      · rw [if_pos ex]
        exact ⟨fun _ => .inr ⟨j, by omega, ex.symm⟩, fun _ => rfl⟩
      · rw [if_neg ex, ho x hx0 hx1]
        refine ⟨fun q => q.imp id fun ⟨a, ha, q⟩ => ⟨a, by omega, q⟩, fun q => q.imp id fun ⟨a, ha, q⟩ => ⟨a, ?_, q⟩⟩
        by_cases ea : a = j
        · exact absurd (ea ▸ q.symm) ex
        · omega)
    refine ⟨out', h1, h2, fun r hr => ev_step (h3 r hr) fun k => ?_⟩
    simp only [corpus_cycles.l2]
    rw [if_pos hnn, if_pos (by omega), if_neg (by rw [hf]; simp), if_pos hb.2, e1]

/-- What the walk stands at, and its place in the clean heads. -/
def Stands (h : List Int) (a b : Int) : Prop := (0 ≤ b ∧ a = b) ∨ (b < 0 ∧ (a < 0 ∨ (h.length : Int) ≤ a))
theorem stands_next {h : List Int} {b : Int} (h0 : 0 ≤ b) (h1 : b < h.length) : Stands h (rd h b) (rd (cl h) b) := by
  rw [rd_cl h0 h1]
  unfold Stands
  split
  · rename_i c; exact .inl ⟨c.1, rfl⟩
  · rename_i c; exact .inr ⟨by omega, by omega⟩

theorem cyc_l1 {h : List Int} (hn : h.length ≤ 4096) {i : Int} (hi0 : 0 ≤ i) (hi : i < h.length) {seen0 : List Int} {out : List Bool} (hI : CInv (cl h) i seen0 out) {P : List Bool → Prop}
    (next : ∀ seen out, CInv (cl h) (i + 1) seen out → ∃ r, P r ∧ Ev (fun k => corpus_cycles.l0 k h out seen h.length (i + 1)) r) (d : Nat) :
    ∀ (m : Nat) (seen : List Int) (at_ : Int), Stands h at_ (it (cl h) m i) → zeros seen < d → seen.length = h.length → (∀ j, j < m → rd seen (it (cl h) j i) = i + 1) → (∀ x : Int, 0 ≤ x → x < h.length → (∀ j, j < m → it (cl h) j i ≠ x) → rd seen x = rd seen0 x) →
      (∀ j, j < m → 0 ≤ it (cl h) j i ∧ rd seen0 (it (cl h) j i) = 0) → ∃ r, P r ∧ Ev (fun k => corpus_cycles.l1 k h out seen i at_ h.length i) r := by
  have hr := cl_rng h
  have hlo := hI.leno
  rw [cl_len] at hlo
  induction d with
  | zero => intro m seen at_ _ hz; omega
  | succ d ih =>
    intro m seen at_ hat hz hlen S1 S2 S3
    have hb := it_rng hr m (x := i) (by omega) (by rw [cl_len]; exact hi)
    rw [cl_len] at hb
    by_cases c0 : 0 ≤ it (cl h) m i ∧ rd seen (it (cl h) m i) = 0
    · -- one more
      obtain ⟨h0, hs⟩ := c0
      obtain rfl : at_ = it (cl h) m i := by rcases hat with q | q <;> omega
      have hz' := zeros_set seen (it (cl h) m i).toNat (i + 1) (by omega) hs (by omega)
      have hnew : ∀ j, j < m → it (cl h) j i ≠ it (cl h) m i := fun j hj e => by have := S1 j hj; rw [e, hs] at this; omega
      obtain ⟨r, hr1, hr2⟩ := ih (m + 1) (seen.set (it (cl h) m i).toNat (i + 1)) (rd h (it (cl h) m i)) (by rw [show it (cl h) (m + 1) i = rd (cl h) (it (cl h) m i) from nxt_pos h0]; exact stands_next h0 hb.2) (by omega) (by simpa using hlen)
        (fun j hj => by
          by_cases ej : j = m
          · rw [ej, rd_set h0 (by omega) h0, if_pos rfl]
          · rw [rd_set h0 (by omega) (S3 j (by omega)).1, if_neg (hnew j (by omega))]
            exact S1 j (by omega))
        (fun x hx0 hx1 hx => by
          rw [rd_set h0 (by omega) hx0, if_neg (fun e => hx m (by omega) e.symm)]
          exact S2 x hx0 hx1 (fun j hj => hx j (by omega)))
        (fun j hj => by
          by_cases ej : j = m
          · rw [ej]; exact ⟨h0, by rw [← S2 _ h0 hb.2 hnew]; exact hs⟩
          · exact S3 j (by omega))
      refine ⟨r, hr1, ev_step hr2 fun k => ?_⟩
      simp only [corpus_cycles.l1]
      rw [if_pos (by omega), if_pos hb.2, if_pos h0, if_pos (by omega), if_pos hs, w64 (by omega) (by omega)]
    · -- the way ends here
      have hstop : it (cl h) m i < 0 ∨ rd seen (it (cl h) m i) ≠ 0 := by
        by_cases c1 : it (cl h) m i < 0
        · exact .inl c1
        · exact .inr (fun e => c0 ⟨by omega, e⟩)
      have hmk : ∀ x : Int, 0 ≤ x → x < h.length → rd seen x = i + 1 ∨ rd seen x = rd seen0 x := fun x hx0 hx1 => by
        by_cases c1 : ∃ j, j < m ∧ it (cl h) j i = x
        · obtain ⟨j, hj, e⟩ := c1
          left; rw [← e]; exact S1 j hj
        · right; exact S2 x hx0 hx1 (fun j hj e => c1 ⟨j, hj, e⟩)
      have base : ∀ out', out'.length = h.length → (∀ x : Int, 0 ≤ x → x < h.length → rdOf false out' x = true → Cyc (cl h) x) → (∀ x : Int, Cyc (cl h) x → rd seen x ≠ 0 → rdOf false out' x = true) → (∀ x : Int, 0 ≤ x → x < h.length → rdOf false out' x = true → rd seen x ≠ 0) → CInv (cl h) (i + 1) seen out' := fun out' ho hs hfu hol =>
        { len := by rw [cl_len]; exact hlen
          leno := by rw [cl_len]; exact ho
          mark := fun x hx0 hx1 => by
            have := hI.mark x hx0 hx1
            rw [cl_len] at hx1
            rcases hmk x hx0 hx1 with e | e <;> rw [e] <;> omega
          closed := fun x hx0 hx1 hx => by
            have hx1' := hx1
            rw [cl_len] at hx1'
            by_cases c1 : ∃ j, j < m ∧ it (cl h) j i = x
            · obtain ⟨j, hj, e⟩ := c1
              have e1 : it (cl h) (j + 1) i = rd (cl h) x := by rw [← e]; exact nxt_pos (by rw [e]; exact hx0)
              by_cases ej : j + 1 = m
              · rw [← e1, ej]; exact hstop
              · right; rw [← e1, S1 (j + 1) (by omega)]; omega
            · have e := S2 x hx0 hx1' (fun j hj e => c1 ⟨j, hj, e⟩)
              rw [e] at hx
              have hrx := hr x hx0 hx1
              rw [cl_len] at hrx
              rcases hI.closed x hx0 hx1 hx with h2 | h2
              · exact .inl h2
              · by_cases c2 : rd (cl h) x < 0
                · exact .inl c2
                · right
                  rcases hmk (rd (cl h) x) (by omega) hrx.2 with e2 | e2 <;> rw [e2]
                  · omega
                  · exact h2
          done := fun x hx0 hx1 => by
            by_cases ex : x = i
            · subst ex
              by_cases em : m = 0
              · subst em
                rcases hstop with h2 | h2
                · exact absurd h2 (by show ¬ x < 0; omega)
                · exact h2
              · have := S1 0 (by omega)
                rw [show it (cl h) 0 x = x from rfl] at this
                omega
            · rcases hmk x hx0 (by omega) with e | e <;> rw [e]
              · omega
              · exact hI.done x hx0 (by omega)
          sound := fun x hx0 hx1 => hs x hx0 (by rwa [cl_len] at hx1)
          full := hfu
          old := fun x hx0 hx1 => hol x hx0 (by rwa [cl_len] at hx1) }
      have hexit : ∀ r, Ev (fun k => corpus_cycles.j2 k h out seen i at_ h.length i) r → Ev (fun k => corpus_cycles.l1 k h out seen i at_ h.length i) r := fun r hj => by
        refine ev_step hj fun k => ?_
        simp only [corpus_cycles.l1]
        by_cases c1 : at_ ≥ 0
        · rw [if_pos c1]
          by_cases c2 : at_ < h.length
          · have e : at_ = it (cl h) m i := by rcases hat with q | q <;> omega
            rw [if_pos c2, if_pos (by omega), if_pos (by omega), if_neg (fun q => c0 ⟨by omega, by rw [← e]; exact q⟩)]
          · rw [if_neg c2]
        · rw [if_neg c1]
      by_cases cB : 0 ≤ it (cl h) m i ∧ rd seen (it (cl h) m i) = i + 1
      · obtain ⟨h0, hs⟩ := cB
        obtain rfl : at_ = it (cl h) m i := by rcases hat with q | q <;> omega
        have hj0 : ∃ j, j < m ∧ it (cl h) j i = it (cl h) m i := by
          by_cases c1 : ∃ j, j < m ∧ it (cl h) j i = it (cl h) m i
          · exact c1
          · have e := S2 _ h0 hb.2 (fun j hj e => c1 ⟨j, hj, e⟩)
            have := hI.mark _ h0 (by rw [cl_len]; exact hb.2)
            omega
        obtain ⟨j0, hj0, ej0⟩ := hj0
        have hcy : Cyc (cl h) (it (cl h) m i) := by
          rw [← ej0]
          exact cyc_of_meet hr hi0 (by rw [cl_len]; exact hi) hj0 ej0 (by rw [ej0]; exact h0)
        obtain ⟨p, hp1, hp2, hp, hmin⟩ := cyc_period hr hcy
        -- the places of the cycle are those of the way
        have hway : ∀ b, 0 ≤ it (cl h) b (it (cl h) m i) ∧ rd seen0 (it (cl h) b (it (cl h) m i)) = 0 ∧ rd seen (it (cl h) b (it (cl h) m i)) ≠ 0 := fun b => by
          have key : ∀ b, ∃ j, j < m ∧ it (cl h) j i = it (cl h) b (it (cl h) m i) := by
            intro b
            induction b with
            | zero => exact ⟨j0, hj0, ej0⟩
            | succ b ihb =>
              obtain ⟨j, hj, e⟩ := ihb
              by_cases ej : j + 1 = m
              · refine ⟨j0, hj0, ?_⟩
                rw [ej0, show it (cl h) (b + 1) (it (cl h) m i) = nxt (cl h) (it (cl h) b (it (cl h) m i)) from rfl, ← e, ← ej]
                rfl
              · exact ⟨j + 1, by omega, by rw [show it (cl h) (j + 1) i = nxt (cl h) (it (cl h) j i) from rfl, e]; rfl⟩
          obtain ⟨j, hj, e⟩ := key b
          rw [← e]
          exact ⟨(S3 j hj).1, (S3 j hj).2, by rw [S1 j hj]; omega⟩
        have hfresh : ∀ b, rdOf false out (it (cl h) b (it (cl h) m i)) = false := fun b => by
          have hbb := it_rng hr b (x := it (cl h) m i) (by omega) (by rw [cl_len]; exact hb.2)
          cases q : rdOf false out (it (cl h) b (it (cl h) m i)) with
          | false => rfl
          | true => exact absurd (hway b).2.1 (hI.old _ (hway b).1 hbb.2 q)
        obtain ⟨out', ho1, ho2, ho3⟩ := cyc_l2 (seen := seen) hn hi0 hi h0 hb.2 hp hp1 hmin hfresh p 0 out (by omega) hlo (fun x _ _ => ⟨.inl, fun q => q.elim id fun ⟨a, ha, _⟩ => by omega⟩)
        have hall : ∀ x : Int, 0 ≤ x → x < h.length → (rdOf false out' x = true ↔ rdOf false out x = true ∨ ∃ b, it (cl h) b (it (cl h) m i) = x) := fun x hx0 hx1 => by
          rw [ho2 x hx0 hx1]
          refine ⟨fun q => q.imp id fun ⟨a, _, q⟩ => ⟨a, q⟩, fun q => q.imp id fun ⟨b, q⟩ => ⟨b % p, Nat.mod_lt b (by omega), by rw [it_mod hp]; exact q⟩⟩
        obtain ⟨r, hr1, hr2⟩ := next seen out' (base out' ho1
          (fun x hx0 hx1 q => by
            rcases (hall x hx0 hx1).1 q with q | ⟨b, q⟩
            · exact hI.sound x hx0 (by rw [cl_len]; exact hx1) q
            · rw [← q]; exact cyc_it hr hcy b (hway b).1)
          (fun x hx hsx => by
            have hx1 := hx.2.1
            rw [cl_len] at hx1
            rw [hall x hx.1 hx1]
            by_cases c1 : ∃ j, j < m ∧ it (cl h) j i = x
            · obtain ⟨j, hj, e⟩ := c1
              obtain ⟨_, _, m', hm'⟩ := hx
              obtain ⟨b, hb'⟩ := cyc_back hm' (m - j)
              have e2 : it (cl h) (m - j) x = it (cl h) m i := by rw [← e, ← it_add, Nat.sub_add_cancel (by omega)]
              rw [e2] at hb'
              exact .inr ⟨b, hb'⟩
            · have e := S2 x hx.1 hx1 (fun j hj e => c1 ⟨j, hj, e⟩)
              rw [e] at hsx
              exact .inl (hI.full x hx hsx))
          (fun x hx0 hx1 q => by
            rcases (hall x hx0 hx1).1 q with q | ⟨b, q⟩
            · have := hI.old x hx0 (by rw [cl_len]; exact hx1) q
              rcases hmk x hx0 hx1 with e | e <;> rw [e]
              · omega
              · exact this
            · rw [← q]; exact (hway b).2.2))
        refine ⟨r, hr1, hexit r (ev_step (f := fun k => corpus_cycles.j3 k h out seen (it (cl h) m i) h.length i false) (ev_step (ho3 r hr2) fun k => ?_) fun k => ?_)⟩
        · simp only [corpus_cycles.j3, Bool.false_eq_true, if_false]
          rfl
        · simp only [corpus_cycles.j2]
          rw [if_neg (by omega), if_neg (by omega), if_pos h0, if_pos (by omega), w64 (by omega) (by omega), if_pos hs, if_pos (by omega), show rdOf false out (it (cl h) m i) = false from hfresh 0]
      · have hno : ∀ j, j < m → ¬ Cyc (cl h) (it (cl h) j i) := fun j hj hx => by
          have hx0 := hx.1
          obtain ⟨_, _, m', hm'⟩ := hx
          obtain ⟨b, hb'⟩ := cyc_back hm' (m - j)
          rw [← it_add (cl h) (m - j) j i, Nat.sub_add_cancel (by omega)] at hb'
          rcases hstop with h2 | h2
          · have := it_neg (cl h) b h2
            omega
          · by_cases c1 : it (cl h) m i < 0
            · have := it_neg (cl h) b c1
              omega
            · have hun : rd seen0 (it (cl h) m i) ≠ 0 := by
                rcases hmk _ (by omega) hb.2 with e | e
                · exact absurd ⟨by omega, e⟩ cB
                · rwa [← e]
              rcases closed_it hr hI.closed (by omega) (by rw [cl_len]; exact hb.2) hun b with h3 | h3
              · omega
              · rw [hb'] at h3
                exact h3 (S3 j hj).2
        obtain ⟨r, hr1, hr2⟩ := next seen out (base out hlo (fun x hx0 hx1 => hI.sound x hx0 (by rw [cl_len]; exact hx1))
          (fun x hx hsx => by
            have hx1 := hx.2.1
            rw [cl_len] at hx1
            have e := S2 x hx.1 hx1 (fun j hj e => hno j hj (by rw [e]; exact hx))
            rw [e] at hsx
            exact hI.full x hx hsx)
          (fun x hx0 hx1 q => by
            have := hI.old x hx0 (by rw [cl_len]; exact hx1) q
            rcases hmk x hx0 hx1 with e | e <;> rw [e]
            · omega
            · exact this))
        refine ⟨r, hr1, hexit r (ev_step (f := fun k => corpus_cycles.j3 k h out seen at_ h.length i true) (ev_step hr2 fun k => ?_) fun k => ?_)⟩
        · simp only [corpus_cycles.j3, if_true]
          rw [w64 (by omega) (by omega)]
        · simp only [corpus_cycles.j2]
          by_cases c1 : at_ < 0
          · rw [if_pos c1]
          · rw [if_neg c1]
            by_cases c2 : at_ ≥ h.length
            · rw [if_pos c2]
            · have e : at_ = it (cl h) m i := by rcases hat with q | q <;> omega
              rw [if_neg c2, if_pos (by omega), if_pos (by omega), w64 (by omega) (by omega), if_neg (fun q => cB ⟨by omega, by rw [← e]; exact q⟩)]

theorem cyc_l0 {h : List Int} (hn : h.length ≤ 4096) (d : Nat) : ∀ (i : Int) (seen : List Int) (out : List Bool), 0 ≤ i → i + d = h.length → CInv (cl h) i seen out →
    ∃ r : List Bool, (r.length = h.length ∧ ∀ x : Int, 0 ≤ x → x < h.length → (rdOf false r x = true ↔ Cyc (cl h) x)) ∧ Ev (fun k => corpus_cycles.l0 k h out seen h.length i) r := by
  induction d with
  | zero =>
    intro i seen out h0 hi hI
    refine ⟨out, ⟨by have := hI.leno; rwa [cl_len] at this, fun x hx0 hx1 => ⟨hI.sound x hx0 (by rw [cl_len]; exact hx1), fun hx => hI.full x hx (hI.done x hx0 (by omega))⟩⟩, ev_step (Ev.now _) fun k => ?_⟩
    simp only [corpus_cycles.l0]
    rw [if_neg (by omega)]
  | succ d ih =>
    intro i seen out h0 hi hI
    obtain ⟨r, hr1, hr2⟩ := cyc_l1 hn h0 (by omega) hI (fun seen out hI' => ih (i + 1) seen out (by omega) (by omega) hI') (zeros seen + 1) 0 seen i (.inl ⟨h0, rfl⟩) (by omega) (by have := hI.len; rwa [cl_len] at this)
      (fun j hj => by omega) (fun _ _ _ _ => rfl) (fun j hj => by omega)
    refine ⟨r, hr1, ev_step hr2 fun k => ?_⟩
    simp only [corpus_cycles.l0]
    rw [if_pos (by omega)]

theorem cycles_ev {h : List Int} (hn : h.length ≤ 4096) : ∃ r : List Bool, (r.length = h.length ∧ ∀ x : Int, 0 ≤ x → x < h.length → (rdOf false r x = true ↔ Cyc (cl h) x)) ∧ Ev (fun k => corpus_cycles.f k h) r := by
  unfold corpus_cycles.f
  have e : ((h.length : Int)).toNat = h.length := by omega
  obtain ⟨r, h1, h2⟩ := cyc_l0 hn h.length 0 (List.replicate h.length 0) (List.replicate h.length false) (by omega) (by omega)
    { len := by rw [cl_len]; exact List.length_replicate
      leno := by rw [cl_len]; exact List.length_replicate
      mark := fun x _ _ => by rw [rd_replicate]; omega
      closed := fun x _ _ hx => absurd (rd_replicate _ _) hx
      done := fun x _ _ => by omega
      sound := fun x _ _ hx => by rw [rdOf_replicate] at hx; cases hx
      full := fun x _ hx => absurd (rd_replicate _ _) hx
      old := fun x _ _ hx => by rw [rdOf_replicate] at hx; cases hx }
  refine ⟨r, h1, ev_pos (by omega) (ev_pos (by omega) (ev_pos (by omega) ?_))⟩
  rw [e]
  exact h2
end Go.Proofs.YtkanmafjjejpmaaDoor.M
