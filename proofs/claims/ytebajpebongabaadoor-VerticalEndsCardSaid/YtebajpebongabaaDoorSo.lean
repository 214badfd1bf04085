/- Several texts in one; each says what it is. No condition beyond theirs. -/
import Derived.Laws.CopyRow
import Derived.Laws.CopyOwn
import Derived.Tactics
import Derived.Below
import Derived.Test.YtebajpebongabaaDoorWAll
import Derived.WalkKit
import Derived.WalkLawsBesides
import Derived.WalkSpells
import Derived.Deep.QuietTactic
import Derived.BigQuiet
import Derived.BigCall
import Derived.Deep.RegionHeld3
import Derived.IntWalk
import Derived.Lib.Hide
import Derived.Test.YtebajpebongabaaDoorProg
import Derived.Test.YtebajpebongabaaDoorPx24
import Derived.Test.YtebajpebongabaaDoorKy
/- A row shifted by one place ('copy(out[i+1:], out[i:])') and an element set: the laws of an insertion, at any kind of element. No condition. -/
namespace Go.Proofs.YtebajpebongabaaDoor.V
open Go.RowKit Go.Proofs.YtebajpebongabaaDoorW.PrintWords
set_option linter.unusedVariables false
set_option linter.unusedSimpArgs false

section
variable {P : Program}
theorem run_copy_wide (w : World) (dT sT ty elem : TypeId) (g o dLen dCap : Nat) (a : Addr) (sLen sCap : Nat) (cur : Array Value) (t : TypeId) (cs : List Value) (sz : Nat)
    (hu : P.underlying dT = some (.slice elem)) (hs : (P.info? elem).map (·.size) = some sz)
    (hg : w.heap[g]? = some (.cells cur t (0, 0))) (hn : cs.length = Nat.min sLen dLen * sz)
    (hsrc : ∀ j v, cs[j]? = some v → w.cell? (a.add j) = some v) (hfit : o + cs.length ≤ cur.size) (h1 : ∀ v ∈ cs, v.oneCell' = true) :
    (Builtin.copy_ #[dT, sT] ty #[.slice (some ⟨g, o, none⟩) dLen dCap, .slice (some a) sLen sCap]).run P w =
      .ok (goInt (Nat.min sLen dLen)) (w.setRow g (cur.toList.take o ++ cs ++ cur.toList.drop (o + cs.length)).toArray) := by
  have hl := run_loadCells_list (P := P) w a cs hsrc
  have hst := run_storeCells_at P g o t cs 0 cur w hg (by simpa using hfit) h1
  cases hq : P.info? elem with
  | none => simp [hq] at hs
  | some i =>
    have hi : i.size = sz := by simpa [hq] using hs
    simp [Builtin.copy_, run_underlying hu, Builtin.lenOf, Builtin.firstCells, sizeOf, typeInfo, hq, hi, ← hn, hl, hst]
theorem run_copy_empty (w : World) (dT sT ty elem : TypeId) (d a : Option Addr) (dLen dCap sLen sCap : Nat) (sz : Nat) (hu : P.underlying dT = some (.slice elem)) (hs : (P.info? elem).map (·.size) = some sz) (hn : Nat.min sLen dLen = 0) :
    (Builtin.copy_ #[dT, sT] ty #[.slice d dLen dCap, .slice a sLen sCap]).run P w = .ok (goInt 0) w := by
  cases hq : P.info? elem with
  | none => simp [hq] at hs
  | some i =>
    have hl : ∀ (x : Addr), (loadCells x 0).run P w = .ok #[] w := fun x => by simpa using run_loadCells_list (P := P) w x [] (by simp)
    cases d <;> cases a <;> simp [Builtin.copy_, run_underlying hu, Builtin.lenOf, Builtin.firstCells, sizeOf, typeInfo, hq, hn, storeCells, hl]

theorem size_of_info {e : TypeId} {z : Option Value} {s b : Nat} (h : (P.info? e).map (fun i => (i.zero, i.size, i.bytes)) = some (z, s, b)) : (P.info? e).map (·.size) = some s := by
  cases hi : P.info? e with
  | none => rw [hi] at h; simp at h
  | some i =>
    rw [hi] at h
    simp only [Option.map_some, Option.some.injEq, Prod.mk.injEq] at h ⊢
    exact h.2.1
/-- What stands in a row when everything from place i on has gone one place on (the last is lost). -/
def shiftL {α : Type} (xs : List α) (i : Nat) : List α := xs.take (i + 1) ++ (xs.drop i).take (xs.length - (i + 1))
theorem shiftL_length {α : Type} (xs : List α) (i : Nat) (hi : i < xs.length) : (shiftL xs i).length = xs.length := by
  unfold shiftL
  simp only [List.length_append, List.length_take, List.length_drop]
  omega
variable {α : Type} {d : Kd α} {e base : Nat} {ok : Nat → Prop} {W : World} {xs : List α} {g cap : Nat}
theorem R_block (h : d.R e W base ok (.slice (some ⟨g, 0, none⟩) xs.length cap) xs) : ∃ cur, W.heap[g]? = some (.cells cur e (0, 0)) ∧ xs.length ≤ cap ∧ cur.size = cap * d.sz ∧ base ≤ g ∧ Reps (d.M W base (fun k => ok k ∧ k ≠ g)) d.sz xs (cur.toList.take (xs.length * d.sz)) := by
  obtain ⟨h0, inner, ho, hr⟩ := h
  rcases ho.2 with ⟨hv, _⟩ | ⟨g', cap', cur, hv, hb, hh, hc, hm, hs, ht⟩
  · cases hv
  · injection hv with h1 h2 h3
    injection h1 with h1
    injection h1 with h1
    subst h1
    subst h3
    refine ⟨cur, hh, hc, hs, hb, ?_⟩
    rw [ht]
    exact hr.imp_ fun _ _ hp => d.M_mono (fun k hk => ⟨hk.1, fun e => hk.2 (by rw [e]; rfl)⟩) hp
theorem R_form {v : Value} (h : d.R e W base ok v xs) (hn : 0 < xs.length) : ∃ g cap, v = .slice (some ⟨g, 0, none⟩) xs.length cap ∧ ok g ∧ xs.length ≤ cap ∧ g < W.heap.size := by
  obtain ⟨inner, ho, _⟩ := h.2
  obtain ⟨g, cap, rfl, _, hlt⟩ := ho.form hn
  exact ⟨g, cap, rfl, h.1 g rfl, own_le ho, hlt⟩
/-- The row written anew, as long as it was. -/
theorem R_rewrite (h : d.R e W base ok (.slice (some ⟨g, 0, none⟩) xs.length cap) xs) {cur : Array Value} (hh : W.heap[g]? = some (.cells cur e (0, 0))) {ys : List α} {cs : List Value} (hl : ys.length = xs.length)
    (hr : Reps (d.M W base (fun k => ok k ∧ k ≠ g)) d.sz ys cs) {W1 : World} (hg : W.grownBy W1 (some g)) {cur1 : Array Value} (hh1 : W1.heap[g]? = some (.cells cur1 e (0, 0))) (hs1 : cur1.size = cur.size) (ht : cur1.toList.take (ys.length * d.sz) = cs) :
    d.R e W1 base ok (.slice (some ⟨g, 0, none⟩) xs.length cap) ys := by
  obtain ⟨h0, inner, ho, _⟩ := h
  rcases ho.2 with ⟨hv, _⟩ | ⟨g', cap', cur', hv, hb, hh', hc, hm, hs, _⟩
  · cases hv
  · injection hv with h1 h2 h3
    injection h1 with h1
    injection h1 with h1
    subst h1
    subst h3
    rw [hh] at hh'
    injection hh' with hh'
    injection hh' with hh'
    subst hh'
    refine ⟨h0, cs, ⟨by rw [hr.1], .inr ⟨g, cap, cur1, by rw [hl], hb, hh1, by omega, hm, by omega, by rw [ht]⟩⟩, ?_⟩
    refine hr.imp_ fun _ _ hp => ?_
    have hp1 := d.M_move (w1 := W1) (fun k hk => hg.block k hk.2.2.1 (fun e => by injection e with e; exact hk.1.2 e)) (d.M_bound hp)
    exact d.M_mono (fun k hk => ⟨hk.1.1, fun e => hk.1.2 (by have e' : some k = some g := e; injection e')⟩) hp1
theorem grown_setRow (W : World) (g : Nat) (cs : Array Value) : W.grownBy (W.setRow g cs) (some g) :=
  ⟨rfl, rfl, rfl, by simp [World.setRow], fun k hk hne => setRow_other W g k cs (fun e => hne (by rw [e]))⟩

/-- copy(out[i+1:], out[i:]). -/
theorem run_copy_shift (hR : d.R e W base ok (.slice (some ⟨g, 0, none⟩) xs.length cap) xs) (i : Nat) (hi : i < xs.length) (dT sT ty : TypeId) (hu : P.underlying dT = some (.slice e)) (hs : (P.info? e).map (·.size) = some d.sz)
    (dp sp : Option Addr) (dCap sCap : Nat) (hd : i + 1 < xs.length → dp = some ⟨g, (i + 1) * d.sz, none⟩) (hsp : sp = some ⟨g, i * d.sz, none⟩) :
    ∃ w1, (Builtin.copy_ #[dT, sT] ty #[.slice dp (xs.length - (i + 1)) dCap, .slice sp (xs.length - i) sCap]).run P W = .ok (goInt ((xs.length - (i + 1) : Nat) : Int)) w1 ∧
      d.R e w1 base ok (.slice (some ⟨g, 0, none⟩) xs.length cap) (shiftL xs i) ∧ W.grownBy w1 (some g) := by
  subst hsp
  have hmin : Nat.min (xs.length - i) (xs.length - (i + 1)) = xs.length - (i + 1) := Nat.min_eq_right (by omega)
  by_cases hlt : i + 1 < xs.length
  · obtain rfl := hd hlt
    obtain ⟨cur, hh, hcap, hsz, hbase, hr⟩ := R_block hR
    have hc : xs.length * d.sz ≤ cur.size := by rw [hsz]; exact Nat.mul_le_mul_right _ hcap
    have hlen : (cur.toList.take (xs.length * d.sz)).length = xs.length * d.sz := by rw [List.length_take, Array.length_toList]; exact Nat.min_eq_left hc
    have hr2 := Kd.reps_take (m := xs.length - (i + 1)) (Kd.reps_drop (m := i) hr) (by rw [List.length_drop]; omega)
    obtain ⟨cs, hcs⟩ : ∃ cs, cs = ((cur.toList.take (xs.length * d.sz)).drop (i * d.sz)).take ((xs.length - (i + 1)) * d.sz) := ⟨_, rfl⟩
    rw [← hcs] at hr2
    have e1 : xs.length * d.sz = i * d.sz + d.sz + (xs.length - (i + 1)) * d.sz := by
      rw [show i * d.sz + d.sz = (i + 1) * d.sz by rw [Nat.add_mul, Nat.one_mul], ← Nat.add_mul]
      congr 1
      omega
    have hcl : cs.length = (xs.length - (i + 1)) * d.sz := by rw [hcs, List.length_take, List.length_drop, hlen]; omega
    have hget : ∀ j v, cs[j]? = some v → W.cell? ((⟨g, i * d.sz, none⟩ : Addr).add j) = some v := by
      intro j v hj
      have hadd : (⟨g, i * d.sz, none⟩ : Addr).add j = ⟨g, i * d.sz + j, none⟩ := by unfold Addr.add; split <;> simp_all
      rw [hadd, cell_of_row W g (i * d.sz + j) cur e (0, 0) hh]
      rw [hcs] at hj
      have hjl : j < (xs.length - (i + 1)) * d.sz := by
        have := (List.getElem?_eq_some_iff.1 hj).1
        rw [List.length_take] at this
        omega
      rw [List.getElem?_take_of_lt hjl, List.getElem?_drop, List.getElem?_take_of_lt (by omega)] at hj
      simpa using hj
    have hone : ∀ v ∈ cs, v.oneCell' = true := by
      by_cases h0 : 0 < d.sz
      · exact Kd.reps_one hr2 h0 (fun _ _ hp => d.K_one (d.K_of_M hp))
      · have h00 : d.sz = 0 := by omega
        rw [h00, Nat.mul_zero] at hcl
        rw [List.eq_nil_of_length_eq_zero hcl]
        simp
    have hrun := run_copy_wide (P := P) W dT sT ty e g ((i + 1) * d.sz) (xs.length - (i + 1)) dCap ⟨g, i * d.sz, none⟩ (xs.length - i) sCap cur e cs d.sz hu hs hh (by rw [hmin, hcl]) hget (by rw [hcl, Nat.add_mul, Nat.one_mul]; omega) hone
    rw [hmin] at hrun
    refine ⟨_, hrun, ?_, grown_setRow _ _ _⟩
    have hh1 := setRow_heap W g cur (cur.toList.take ((i + 1) * d.sz) ++ cs ++ cur.toList.drop ((i + 1) * d.sz + cs.length)).toArray e _ hh
    refine R_rewrite hR hh (shiftL_length xs i hi) ?_ (grown_setRow _ _ _) hh1 ?_ ?_ (cs := (cur.toList.take ((i + 1) * d.sz)) ++ cs)
    · have h3 := Kd.reps_take (m := i + 1) hr (by omega)
      rw [List.take_take, Nat.min_eq_left (by rw [Nat.add_mul, Nat.one_mul]; omega)] at h3
      exact Kd.reps_append h3 hr2
    · simp only [List.size_toArray, List.length_append, List.length_take, List.length_drop, Array.length_toList]
      rw [hcl, Nat.add_mul, Nat.one_mul]
      omega
    · rw [shiftL_length xs i hi]
      have hll : (cur.toList.take ((i + 1) * d.sz) ++ cs).length = xs.length * d.sz := by
        rw [List.length_append, List.length_take, Array.length_toList, hcl, Nat.add_mul, Nat.one_mul]
        omega
      rw [List.take_append_of_le_length (by omega), List.take_of_length_le (by omega)]
  · have hrun := run_copy_empty (P := P) W dT sT ty e dp (some ⟨g, i * d.sz, none⟩) (xs.length - (i + 1)) dCap (xs.length - i) sCap d.sz hu hs (by rw [hmin]; omega)
    have h0 : xs.length - (i + 1) = 0 := by omega
    refine ⟨W, by rw [h0] at hrun ⊢; exact hrun, ?_, ⟨rfl, rfl, rfl, Nat.le_refl _, fun _ _ _ => rfl⟩⟩
    have e1 : shiftL xs i = xs := by
      unfold shiftL
      rw [h0, List.take_zero, List.append_nil, List.take_of_length_le (by omega)]
    rw [e1]
    exact hR
theorem step_copy_run {ops : Array Oper} {o : Oper} {a : Act} {w : World} {K : Act → World → Prop} {Q : Exit → Act → World → Prop} {E : Prop}
    (hg : o.guard = none) (d x : Operand) (dT sT : TypeId) (hop : o.op = Op.call { callee := Callee.builtin Builtin.copy, args := #[d, x], argTypes := #[dT, sT] })
    (v u : Value) (hd : a.eval d = v) (hx : a.eval x = u) {v' : Value} {w' : World} (hr : (Builtin.copy_ #[dT, sT] o.type #[v, u]).run P w = .ok v' w') (hK : K (a.put o.dst v') w') :
    if Region.wanted o (yielded ops a.tmps) = true then Oper.wp P o a w K Q else E := by
  have hw : Region.wanted o (yielded ops a.tmps) = true := by simp [Region.wanted, hg]
  rw [if_pos hw]
  unfold Oper.wp
  simp [execOp, hop, resolve, invoke, builtin, hd, hx, hr, Result.andThen]
  exact hK
theorem setCells_row (g : Nat) (t : TypeId) : ∀ (vs : List Value) (o : Nat) (cur : Array Value) (w : World), w.heap[g]? = some (.cells cur t (0, 0)) → o + vs.length ≤ cur.size →
    w.setCells g o vs = w.setRow g (cur.toList.take o ++ vs ++ cur.toList.drop (o + vs.length)).toArray
  | [], o, cur, w, hg, _ => by
    simp only [World.setCells, List.append_nil, List.length_nil, Nat.add_zero, List.take_append_drop, Array.toArray_toList]
    rw [setRow_self w g cur t (0, 0) hg]
  | v :: rest, o, cur, w, hg, hl => by
    have e1 := setCell_eq_setRow w g o cur t (0, 0) v hg
    have ih := setCells_row g t rest (o + 1) (cur.setIfInBounds o v) (w.setRow g (cur.setIfInBounds o v)) (setRow_heap w g cur _ t _ hg) (by simp at hl ⊢; omega)
    simp only [World.setCells]
    rw [e1, ih, setRow_setRow]
    congr 2
    have e := list_seg_step cur.toList o v rest (by simp at hl ⊢; omega)
    simpa [Array.toList_setIfInBounds, Nat.add_assoc] using e
/-- Element i is x then. -/
theorem R_store {n : Nat} (hR : d.R e W base ok (.slice (some ⟨g, 0, none⟩) n cap) xs) (hn : n = xs.length) (i : Nat) (hi : i < xs.length) {x : α} {seg : List Value} (hx : d.M W base (fun k => ok k ∧ k ≠ g) x seg) :
    d.R e (W.setCells g (i * d.sz) seg) base ok (.slice (some ⟨g, 0, none⟩) n cap) (xs.set i x) ∧ W.grownBy (W.setCells g (i * d.sz) seg) (some g) := by
  subst hn
  obtain ⟨cur, hh, hcap, hsz, hbase, hr⟩ := R_block hR
  have hsl := d.K_len (d.K_of_M hx)
  have hc : xs.length * d.sz ≤ cur.size := by rw [hsz]; exact Nat.mul_le_mul_right _ hcap
  have hie : i * d.sz + d.sz ≤ xs.length * d.sz := by rw [← Nat.succ_mul]; exact Nat.mul_le_mul_right _ hi
  have e1 := setCells_row g e seg (i * d.sz) cur W hh (by omega)
  rw [e1]
  have hh1 := setRow_heap W g cur (cur.toList.take (i * d.sz) ++ seg ++ cur.toList.drop (i * d.sz + seg.length)).toArray e _ hh
  refine ⟨R_rewrite hR hh (by rw [List.length_set]) (Kd.reps_set hr hi hx hsl) (grown_setRow _ _ _) hh1 ?_ ?_, grown_setRow _ _ _⟩
  · simp only [List.size_toArray, List.length_append, List.length_take, List.length_drop, Array.length_toList]
    omega
  · rw [List.length_set]
    show (cur.toList.take (i * d.sz) ++ seg ++ cur.toList.drop (i * d.sz + seg.length)).take (xs.length * d.sz) = _
    have hl1 : (cur.toList.take (i * d.sz) ++ seg).length = i * d.sz + seg.length := by rw [List.length_append, List.length_take, Array.length_toList]; omega
    rw [List.take_append, hl1, List.take_of_length_le (by omega), List.take_take, Nat.min_eq_left (by omega), List.drop_take]
/-- The cells of element i are there. -/
theorem R_cells {n : Nat} (hR : d.R e W base ok (.slice (some ⟨g, 0, none⟩) n cap) xs) (hn : n = xs.length) (i : Nat) (hi : i < xs.length) (j : Nat) (hj : j < d.sz) : (∃ u, W.cell? ⟨g, i * d.sz + j, none⟩ = some u) ∧ W.frozen? ⟨g, i * d.sz + j, none⟩ = false := by
  subst hn
  obtain ⟨cur, hh, hcap, hsz, hbase, hr⟩ := R_block hR
  have hc : xs.length * d.sz ≤ cur.size := by rw [hsz]; exact Nat.mul_le_mul_right _ hcap
  have hie : i * d.sz + d.sz ≤ xs.length * d.sz := by rw [← Nat.succ_mul]; exact Nat.mul_le_mul_right _ hi
  refine ⟨?_, by simp [World.frozen?, hh]⟩
  rw [cell_of_row W g (i * d.sz + j) cur e (0, 0) hh]
  exact ⟨_, Array.getElem?_eq_getElem (by omega)⟩
/-- copy(out[i+1:], out[i:]) as one step of a region that draws. -/
theorem step_copy_shift {ops : Array Oper} {o : Oper} {a : Act} {K : Act → World → Prop} {Q : Exit → Act → World → Prop} {E : Prop} {w : World} {n : Nat}
    (hgd : o.guard = none) (dd x : Operand) (dT sT : TypeId) (hop : o.op = Op.call { callee := Callee.builtin Builtin.copy, args := #[dd, x], argTypes := #[dT, sT] })
    (hu : P.underlying dT = some (.slice e)) (hs : (P.info? e).map (·.size) = some d.sz) (hR : d.R e w base ok (.slice (some ⟨g, 0, none⟩) n cap) xs) (hn : n = xs.length) (i : Nat) (hi : i < xs.length)
    (dp sp : Option Addr) (dLen dCap sLen sCap : Nat) (hd : a.eval dd = .slice dp dLen dCap) (hx : a.eval x = .slice sp sLen sCap) (hdl : dLen = xs.length - (i + 1)) (hsl : sLen = xs.length - i)
    (hdp : i + 1 < xs.length → dp = some ⟨g, (i + 1) * d.sz, none⟩) (hsp : sp = some ⟨g, i * d.sz, none⟩)
    (h : ∀ w1, d.R e w1 base ok (.slice (some ⟨g, 0, none⟩) n cap) (shiftL xs i) → w.grownBy w1 (some g) → K (a.put o.dst (goInt ((xs.length - (i + 1) : Nat) : Int))) w1) :
    if Region.wanted o (yielded ops a.tmps) = true then Oper.wp P o a w K Q else E := by
  subst hn hdl hsl
  obtain ⟨w1, hr, h1, h2⟩ := run_copy_shift (P := P) hR i hi dT sT o.type hu hs dp sp dCap sCap hdp hsp
  exact step_copy_run hgd dd x dT sT hop _ _ hd hx hr (h w1 h1 h2)
end

/-! ### insertion sort, plainly -/
def insPos {α : Type} (p : α → Bool) (z : α) (ys : List α) : Nat → Nat
  | 0 => 0
  | n + 1 => if p (ys.getD n z) then insPos p z ys n else n + 1
theorem insPos_le {α : Type} (p : α → Bool) (z : α) (ys : List α) : ∀ n, insPos p z ys n ≤ n
  | 0 => Nat.le_refl _
  | n + 1 => by
    unfold insPos
    split
    · exact Nat.le_succ_of_le (insPos_le p z ys n)
    · exact Nat.le_refl _
def insL {α : Type} (lt : α → α → Bool) (z : α) (ys : List α) (x : α) : List α := ys.take (insPos (lt x) z ys ys.length) ++ x :: ys.drop (insPos (lt x) z ys ys.length)
def sortL {α : Type} (lt : α → α → Bool) (z : α) (l : List α) : List α := l.foldl (insL lt z) []
theorem insL_length {α : Type} (lt : α → α → Bool) (z : α) (ys : List α) (x : α) : (insL lt z ys x).length = ys.length + 1 := by
  have := insPos_le (lt x) z ys ys.length
  unfold insL
  simp only [List.length_append, List.length_take, List.length_cons, List.length_drop]
  omega
theorem sortL_snoc {α : Type} (lt : α → α → Bool) (z : α) (l : List α) (x : α) : sortL lt z (l ++ [x]) = insL lt z (sortL lt z l) x := by unfold sortL; rw [List.foldl_append]; rfl
theorem sortL_length {α : Type} (lt : α → α → Bool) (z : α) (l : List α) : (sortL lt z l).length = l.length := by
  suffices h : ∀ (l acc : List α), (l.foldl (insL lt z) acc).length = acc.length + l.length by rw [sortL, h]; simp
  intro l
  induction l with
  | nil => intro acc; rfl
  | cons x l ih => intro acc; rw [List.foldl_cons, ih, insL_length, List.length_cons]; omega
/-- shifted and set: inserted. -/
theorem shift_set {α : Type} (xs : List α) (z x : α) (i : Nat) (hi : i ≤ xs.length) : (shiftL (xs ++ [z]) i).set i x = xs.take i ++ x :: xs.drop i := by
  apply List.ext_getElem?
  intro j
  unfold shiftL
  simp only [List.getElem?_set, List.length_append, List.length_singleton, List.length_take, List.length_drop]
  by_cases hj : i = j
  · subst hj
    rw [if_pos rfl, if_pos (by omega), List.getElem?_append_right (by simp; omega)]
    simp [Nat.min_eq_left hi]
  · rw [if_neg hj]
    by_cases hlt : j < i
    · rw [List.getElem?_append_left (by simp; omega), List.getElem?_append_left (by simp; omega), List.getElem?_take_of_lt (by omega), List.getElem?_take_of_lt hlt, List.getElem?_append_left (by omega)]
    · rw [List.getElem?_append_right (by simp; omega), List.getElem?_append_right (by simp; omega)]
      simp only [List.length_take, List.length_append, List.length_singleton]
      rw [Nat.min_eq_left hi, Nat.min_eq_left (by omega), show j - i = (j - (i + 1)) + 1 by omega, List.getElem?_cons_succ, List.getElem?_drop, List.getElem?_take]
      split
      · rename_i h
        rw [List.getElem?_drop, List.getElem?_append_left (by omega)]
      · rename_i h
        rw [List.getElem?_eq_none (by omega)]
end Go.Proofs.YtebajpebongabaaDoor.V
/- markup.sorted: insertion sort of at most eight pairs. Condition: at most 2^40 pairs. -/
namespace Go.Proofs.YtebajpebongabaaDoor.V
open Go.RowKit Go.Proofs.YtebajpebongabaaDoorW.PrintWords Go.Proofs.YtebajpebongabaaDoorW.PrintMore Go.Proofs.YtebajpebongabaaDoor.P Go.Proofs.YtebajpebongabaaDoor.X
set_option linter.unusedVariables false
set_option linter.unusedSimpArgs false

def ltP (x y : S88) : Bool := Op.bytesLess x.f0.toList y.f0.toList
def sortP (l : List S88) : List S88 := sortL ltP z88 l

set_option maxHeartbeats 4000000 in
set_option maxRecDepth 100000 in
theorem sorted_any (l : List S88) (hl : l.length ≤ 1048576) (A : Option Addr) (cap : Nat) (hcap : l.length ≤ cap) (w : World) (hK : Kd.C k88 w A l.length l) :
    Calls Tryd.prog 67 #[.slice A l.length cap] w fun e w' => ∃ v, e = .returned v ∧ Kd.R k88 88 w' w.heap.size (fun _ => True) v (sortP l) ∧ Below w.heap.size w w' := by
  have hu := Tryd.underlying88
  have HK := Lib.hid hK
  clear hK
  go_enter Tryd.func67, Tryd.ntmps67
  go_wp2
  go_loopw [3, 9] (fun v i wr => ∃ j : Nat, i = .int .i64 j ∧ j ≤ l.length ∧ Kd.R k88 88 wr w.heap.size (fun _ => True) v (sortP (l.take j)) ∧ Below w.heap.size w wr) (fun _ i _ => l.length - (intOf i).toNat)
  case atStart => exact ⟨0, rfl, Nat.zero_le _, Kd.R_nil _ _ _ _ _, Below.refl _ _⟩
  case round =>
    obtain ⟨j, rfl, hj, hR, hb⟩ := hrel
    by_cases hlt : j < l.length
    case neg =>
      obtain rfl : j = l.length := by omega
      have hd : decide ((l.length : Int) < (l.length : Int)) = false := decide_eq_false (by omega)
      rw [List.take_of_length_le (Nat.le_refl _)] at hR
      have HR := Lib.hid hR
      clear hR
      go_wp2
      go_ret
      exact ⟨_, rfl, HR.out, hb⟩
    case pos =>
      have hd : decide ((j : Int) < (l.length : Int)) = true := decide_eq_true (by omega)
      obtain ⟨ad, hA, c0, c1⟩ := at_T88 (Kd.C_below HK.out hb) (j : Int) (by omega) (by omega)
      obtain ⟨x, hx⟩ : ∃ x, x = rd_T88 l (j : Int) := ⟨_, rfl⟩
      rw [← hx] at c0 c1
      simp only [Int.toNat_natCast] at c0 c1
      subst hA
      obtain ⟨ys, hys⟩ : ∃ ys, ys = sortP (l.take j) := ⟨_, rfl⟩
      rw [← hys] at hR
      have hyl : ys.length = j := by rw [hys]; unfold sortP; rw [sortL_length, List.length_take]; omega
      obtain ⟨A3, c3, rfl⟩ := Kd.R_slice hR
      rw [hyl] at hR ⊢
      have HR := Lib.hid hR
      have HY := Lib.hid hys
      have HX := Lib.hid hx
      clear hR hys hx
      have h0 : (0 : Int) ≤ (j : Int) := by omega
      have h1 : (j : Int) < (l.length : Int) := by omega
      go_wp2
      have hF := blk_new wr (.cells #[.string x.f0, .string x.f1] 88 (0, 0))
      have hR2 := Kd.R_mono (Kd.R_alloc (Kd.R_bound HR.out) (.cells #[.string x.f0, .string x.f1] 88 (0, 0))) (ok' := fun k => k ≠ wr.heap.size) (fun k hk => by have := hk.2.2.1; omega)
      have hb2 := below_alloc hb (.cells #[.string x.f0, .string x.f1] 88 (0, 0))
      have hs2 : (wr.alloc (.cells #[.string x.f0, .string x.f1] 88 (0, 0))).heap.size = wr.heap.size + 1 := by simp
      obtain ⟨W2, hW2⟩ : ∃ W2, W2 = wr.alloc (.cells #[.string x.f0, .string x.f1] 88 (0, 0)) := ⟨_, rfl⟩
      obtain ⟨F, hFF⟩ : ∃ F, F = wr.heap.size := ⟨_, rfl⟩
      rw [← hW2] at hF hR2 hb2 hs2 ⊢
      rw [← hFF] at hF hR2 hs2 ⊢
      have HF := Lib.hid hF
      have HR2 := Lib.hid hR2
      have hbs := hb.size
      have HBS := Lib.hid (⟨hs2, hbs⟩ : W2.heap.size = F + 1 ∧ w.heap.size ≤ wr.heap.size)
      have HFF := Lib.hid hFF
      clear hF hR2 hs2 hbs HR c0 c1 hW2 hFF
      go_loopw [6] (fun v w' => ∃ q m : Nat, v = .int .i64 q ∧ q ≤ j ∧ w' = W2.drewN m ∧ insPos (ltP x) z88 ys j = insPos (ltP x) z88 ys q) (fun v _ => (intOf v).toNat)
      case atStart => exact ⟨j, 0, rfl, Nat.le_refl _, by cases W2; rfl, rfl⟩
      case round =>
        obtain ⟨q, m, rfl, hq, rfl, hp⟩ := hrel
        have x0 : (W2.drewN m).cell? ⟨F, 0, none⟩ = some (.string x.f0) := blk_cell HF.out 0
        have x00 : W2.cell? ⟨F, 0, none⟩ = some (.string x.f0) := blk_cell HF.out 0
        by_cases hgo : 0 < q ∧ ltP x (ys.getD (q - 1) z88) = true
        case neg =>
          have hend : insPos (ltP x) z88 ys j = q := by
            rw [hp]
            cases q with
            | zero => rfl
            | succ q => unfold insPos; rw [if_neg (fun c => hgo ⟨by omega, by simpa using c⟩)]
          clear hp
          by_cases hq0 : q = 0
          case' pos =>
            have hd1 : decide ((0 : Int) < (q : Int)) = false := decide_eq_false (by omega)
            have hd2 : decide (0 < q) = false := decide_eq_false (by omega)
          case' neg =>
            obtain ⟨Ab, cb, eb, hcb, hC⟩ := Kd.R_reads HR2.out
            injection eb with e1 e2 e3
            clear e2
            subst e1 e3
            rw [hyl] at hC
            obtain ⟨ab, hA3, d0, d1⟩ := at_T88 hC ((q : Int) - 1) (by omega) (by omega)
            subst hA3
            have hT : ((q : Int) - 1).toNat = q - 1 := by omega
            rw [hT] at d0 d1
            obtain ⟨y, hy⟩ : ∃ y, y = rd_T88 ys ((q : Int) - 1) := ⟨_, rfl⟩
            have hyd : ys.getD (q - 1) z88 = y := by rw [hy, ← hT]; rfl
            rw [← hy] at d0 d1
            have d0' : (W2.drewN m).cell? (ab.add ((q - 1) * 2)) = some (.string y.f0) := d0
            have hlt2 : Op.bytesLess x.f0.toList y.f0.toList = false := by show ltP x y = false; rw [hyd] at hgo; exact Bool.eq_false_iff.2 (fun c => hgo ⟨by omega, c⟩)
            have hsub : IntKind.i64.wrap ((q : Int) - 1) = (q : Int) - 1 := IntWalk.i64_in _ (by omega)
            have h00 : (0 : Int) ≤ (q : Int) - 1 := by omega
            have h11 : (q : Int) - 1 < (j : Int) := by omega
            have h22 : decide ((0 : Int) < (q : Int)) = true := decide_eq_true (by omega)
            have h23 : decide (0 < q) = true := decide_eq_true (by omega)
            have h12 : (q : Int) - 1 < (j : Int) := by omega
            clear d1 hy hC
          all_goals
            have hHP := Lib.hid hend
            clear hgo hq0 hend
            go_wp2
            go_quiet (fail)
            go_wp2_with (at_builtin; go_loud (refine Kd.R_append k88 (w0 := w) w.heap.size rfl (.tmp 30) (.tmp 32) 56 88 (.agg #[.string ⟨#[]⟩, .string ⟨#[]⟩]) 32 rfl Tryd.underlying56 info88 rfl (by decide) (by omega) _ ys z88 [.string ⟨#[]⟩, .string ⟨#[]⟩] (fun k => k ≠ F) (fun _ => False) rfl rfl (k88_mkM _ _ _ _) (fun _ hk => hk.elim) (fun k hk => by have := HBS.out; have h9 : W2.heap.size ≤ k := hk; omega) (Kd.R_drewN HR2.out _) (pw_below_drewN hb2 _) (below_size (pw_below_drewN hb2 _)) (by omega) ?_; intro v1 w1 hR3 hb3 hg3 hat3))
            have hlen : (ys ++ [z88]).length = j + 1 := by rw [List.length_append, List.length_singleton, hyl]
            obtain ⟨g1, cp1, rfl, hg1F, hcp1, hg1lt⟩ := R_form hR3 (by rw [hlen]; omega)
            rw [hlen] at hcp1 hR3 ⊢
            have hF3 := blk_grown HF.out ((grown_drewN W2 _ _).trans hg3) (fun e => HR2.out.1 F e.symm rfl)
            have HR3 := Lib.hid hR3
            have HF3 := Lib.hid hF3
            have HB3 := Lib.hid hb3
            clear hR3 hF3 hg3 hat3 hb3
            have h01 : (0 : Int) ≤ (q : Int) + 1 := by omega
            have h02 : (0 : Int) ≤ (q : Int) := by omega
            have h03 : IntKind.i64.wrap ((q : Int) + 1) = (q : Int) + 1 := IntWalk.i64_in _ (by omega)
            have h04 : (q : Int) ≤ (j : Int) := by omega
            have h05 : (q : Int) ≤ (j : Int) + 1 := by omega
            have h06 : ((q : Int) + 1).toNat = q + 1 := by omega
            have h07 : ¬ cp1 = q := by omega
            have hsz : (Tryd.prog.info? 88).map (·.size) = some k88.sz := size_of_info info88
            have hqi : q < (ys ++ [z88]).length := by rw [hlen]; omega
            have hRd := Kd.R_drew HR3.out
            go_region_law (first | (apply step_copy_shift (hu := Tryd.underlying56) (hs := hsz) (hR := hRd) (hn := hlen.symm) (i := q) (hi := hqi) (dT := 56) (sT := 56) (dd := Operand.tmp 37) (x := Operand.tmp 40); (case hgd => rfl); (case hop => rfl); (case hd => go_loud (conv => lhs; simp [Act.eval, Act.put])); (case hx => go_loud (conv => lhs; simp [Act.eval, Act.put])); (case hdl => go_loud (rw [hlen]; try omega)); (case hsl => go_loud (rw [hlen]; try omega)); (case hdp => go_loud (intro hlt; rw [hlen] at hlt; exact if_neg (by omega))); (case hsp => go_loud (first | exact rfl | exact if_neg (by omega))); (case' h => intro w4 hR4 hg4)) | fail)
            have hsl := shiftL_length (ys ++ [z88]) q hqi
            rw [hlen] at hsl
            have hF4 := blk_grown HF3.out ((grown_drewN w1 1 _).trans hg4) (fun e => hg1F (by injection e with e; exact e.symm))
            have y0 : w4.cell? ⟨F, 0, none⟩ = some (.string x.f0) := blk_cell hF4 0
            have y1 : w4.cell? ⟨F, 1, none⟩ = some (.string x.f1) := blk_cell hF4 1
            obtain ⟨⟨u0, v0⟩, t0⟩ := R_cells hR4 hsl.symm q (by omega) 0 (by decide)
            obtain ⟨⟨u1, v1⟩, t1⟩ := R_cells hR4 hsl.symm q (by omega) 1 (by decide)
            have v0' : w4.cell? ⟨g1, q * 2, none⟩ = some u0 := v0
            have v1' : w4.cell? ⟨g1, q * 2 + 1, none⟩ = some u1 := v1
            have t0' : w4.frozen? ⟨g1, q * 2, none⟩ = false := t0
            have t1' : w4.frozen? ⟨g1, q * 2 + 1, none⟩ = false := t1
            obtain ⟨cur4, _, _, _, hge4, _⟩ := R_block (hsl ▸ hR4)
            have HR4 := Lib.hid hR4
            have HG4 := Lib.hid hg4
            have h08 : (q : Int) < (j : Int) + 1 := by omega
            clear hR4 hg4 v0 v1 t0 t1 hRd hF4 x0 x00
            go_wp2
            go_roundw
            case rel =>
              obtain ⟨hst, hgr⟩ := R_store HR4.out hsl.symm q (by omega) (x := x) (seg := [.string x.f0, .string x.f1]) (k88_mkM _ _ _ _)
              have hins : (shiftL (ys ++ [z88]) q).set q x = sortP (l.take (j + 1)) := by
                rw [shift_set ys z88 x q (by omega)]
                have e1 : l.take (j + 1) = l.take j ++ [x] := by
                  rw [List.take_add_one, HX.out]
                  unfold rd_T88
                  simp [List.getD, hlt]
                have hpos := hHP.out
                rw [e1]
                unfold sortP
                rw [sortL_snoc]
                have hys2 := HY.out
                unfold sortP at hys2
                rw [← hys2]
                unfold insL
                rw [hyl, hpos]
              rw [hins] at hst
              exact ⟨j + 1, rfl, by omega, Kd.R_mono hst (fun _ _ => trivial), ((below_drew HB3.out).grown HG4.out HB3.out.size (fun k hk => by injection hk with hk; omega)).grown hgr (((below_drew HB3.out).grown HG4.out HB3.out.size (fun k hk => by injection hk with hk; omega)).size) (fun k hk => by injection hk with hk; omega)⟩
            case measure => simp [intOf]; omega
        case pos =>
          obtain ⟨hq0, hlt0⟩ := hgo
          obtain ⟨Ab, cb, eb, hcb, hC⟩ := Kd.R_reads HR2.out
          injection eb with e1 e2 e3
          clear e2
          subst e1 e3
          rw [hyl] at hC
          obtain ⟨ab, hA3, d0, d1⟩ := at_T88 hC ((q : Int) - 1) (by omega) (by omega)
          subst hA3
          have hT : ((q : Int) - 1).toNat = q - 1 := by omega
          rw [hT] at d0 d1
          obtain ⟨y, hy⟩ : ∃ y, y = rd_T88 ys ((q : Int) - 1) := ⟨_, rfl⟩
          have hyd : ys.getD (q - 1) z88 = y := by rw [hy, ← hT]; rfl
          rw [← hy] at d0 d1
          have d0' : (W2.drewN m).cell? (ab.add ((q - 1) * 2)) = some (.string y.f0) := d0
          have hlt2 : Op.bytesLess x.f0.toList y.f0.toList = true := by rw [hyd] at hlt0; exact hlt0
          have hsub : IntKind.i64.wrap ((q : Int) - 1) = (q : Int) - 1 := IntWalk.i64_in _ (by omega)
          have h00 : (0 : Int) ≤ (q : Int) - 1 := by omega
          have h11 : (q : Int) - 1 < (j : Int) := by omega
          have h22 : decide ((0 : Int) < (q : Int)) = true := decide_eq_true (by omega)
          have h23 : decide (0 < q) = true := decide_eq_true (by omega)
          have HP := Lib.hid hp
          have HL := Lib.hid hlt0
          have HQ0 := Lib.hid hq0
          clear d1 hy hC hp hlt0 hq0
          go_wp2
          go_quiet (fail)
          go_wp2
          go_roundw
          case rel =>
            refine ⟨q - 1, _, by rw [Int.ofNat_sub HQ0.out]; rfl, by omega, rfl, ?_⟩
            rw [HP.out]
            have hq1 : q = (q - 1) + 1 := by have := HQ0.out; omega
            conv => lhs; rw [hq1]; unfold insPos
            rw [if_pos HL.out]
          case measure => have := HQ0.out; simp [intOf]; omega
end Go.Proofs.YtebajpebongabaaDoor.V
