/- corpus.CompareRegions and corpus.SortRegions: what they answer, by plain functions. Condition: at most 2^20 regions, whose bounds are ints and whose keys are at most 2^20. -/
import Derived.WalkKit
import Derived.WalkLawsBesides
import Derived.WalkSpells
import Derived.Deep.QuietTactic
import Derived.BigQuiet
import Derived.BigCall
import Derived.Deep.RegionHeld3
import Derived.IntWalk
import Derived.Lib.Hide
import Derived.Test.YtebajpebongabaaDoorProg
import Derived.Test.YtebajpebongabaaDoorWAll
import Derived.Test.YtebajpebongabaaDoorPx15
import Derived.Test.YtebajpebongabaaDoorPx25
import Derived.Test.YtebajpebongabaaDoorDl
namespace Go.Proofs.YtebajpebongabaaDoor.V
open Go.RowKit Go.Proofs.YtebajpebongabaaDoorW.PrintWords Go.Proofs.YtebajpebongabaaDoorW.PrintMore Go.Proofs.YtebajpebongabaaDoor.P Go.Proofs.YtebajpebongabaaDoor.X
set_option linter.unusedVariables false
set_option linter.unusedSimpArgs false

def ordI (a b : Int) : Int := if a < b then -1 else if a > b then 1 else 0
def ordS (a b : ByteArray) : Int := if Op.bytesLess a.toList b.toList = true then -1 else if Op.bytesLess b.toList a.toList = true then 1 else 0
def ordP : List S88 → List S88 → Int
  | x :: l, y :: m => if ordS x.f0 y.f0 = 0 then (if ordS x.f1 y.f1 = 0 then ordP l m else ordS x.f1 y.f1) else ordS x.f0 y.f0
  | l, m => ordI l.length m.length
def cmpR (a b : S58) : Int := if ordI a.f1 b.f1 = 0 then (if ordI b.f2 a.f2 = 0 then (if ordS a.f0 b.f0 = 0 then ordP a.f3 b.f3 else ordS a.f0 b.f0) else ordI b.f2 a.f2) else ordI a.f1 b.f1

theorem order_eq (a b : Int) : corpus_order.f a b = some (ordI a b) := by
  unfold corpus_order.f ordI
  split
  · rfl
  · split <;> rfl
theorem orderText_eq (a b : ByteArray) : corpus_orderText.f a b = some (ordS a b) := by
  unfold corpus_orderText.f ordS
  split
  · rfl
  · split <;> rfl
theorem drop_T (l : List S88) (i : Int) (h0 : 0 ≤ i) (h1 : i < l.length) : l.drop i.toNat = rd_T88 l i :: l.drop (i + 1).toNat := by
  rw [List.drop_eq_getElem_cons (by omega), show (i + 1).toNat = i.toNat + 1 by omega]
  congr 1
  unfold rd_T88
  simp [List.getD, show i.toNat < l.length by omega]
theorem ordP_l0 {l m : List S88} (hl : l.length ≤ 1099511627776) : ∀ (b : Nat) (i : Int), 0 ≤ i → i ≤ l.length → i ≤ m.length → (l.length : Int) ≤ i + b →
    Ev (fun k => corpus_orderPairs.l0 k l m i) (ordP (l.drop i.toNat) (m.drop i.toNat))
  | 0, i, h0, hi, hm, hb => by
    have e1 : l.drop i.toNat = [] := List.drop_eq_nil_of_le (by omega)
    have e2 : ordP (l.drop i.toNat) (m.drop i.toNat) = ordI l.length m.length := by
      rw [e1]
      unfold ordP
      rw [List.length_drop, List.length_nil]
      unfold ordI
      split <;> split <;> first | rfl | omega | (split <;> first | rfl | omega)
    rw [e2]
    refine ev_step (f := fun k => corpus_orderPairs.j1 k l m i false) (ev_step (Ev.now _) fun k => ?_) fun k => ?_
    · simp only [corpus_orderPairs.j1, order_eq, Option.bind_some]
      rw [if_neg (by decide)]
    · simp only [corpus_orderPairs.l0]
      rw [if_neg (by omega)]
  | b + 1, i, h0, hi, hm, hb => by
    by_cases c : i < l.length
    case neg =>
      have e1 : l.drop i.toNat = [] := List.drop_eq_nil_of_le (by omega)
      have e2 : ordP (l.drop i.toNat) (m.drop i.toNat) = ordI l.length m.length := by
        rw [e1]
        unfold ordP
        rw [List.length_drop, List.length_nil]
        unfold ordI
        split <;> split <;> first | rfl | omega | (split <;> first | rfl | omega)
      rw [e2]
      refine ev_step (f := fun k => corpus_orderPairs.j1 k l m i false) (ev_step (Ev.now _) fun k => ?_) fun k => ?_
      · simp only [corpus_orderPairs.j1, order_eq, Option.bind_some]
        rw [if_neg (by decide)]
      · simp only [corpus_orderPairs.l0]
        rw [if_neg c]
    by_cases c2 : i < m.length
    case neg =>
      have e1 : m.drop i.toNat = [] := List.drop_eq_nil_of_le (by omega)
      have e2 : ordP (l.drop i.toNat) (m.drop i.toNat) = ordI l.length m.length := by
        rw [e1, drop_T l i h0 c]
        unfold ordP
        rw [← drop_T l i h0 c, List.length_drop, List.length_nil]
        unfold ordI
        split <;> split <;> first | rfl | omega | (split <;> first | rfl | omega)
      rw [e2]
      refine ev_step (f := fun k => corpus_orderPairs.j1 k l m i false) (ev_step (Ev.now _) fun k => ?_) fun k => ?_
      · simp only [corpus_orderPairs.j1, order_eq, Option.bind_some]
        rw [if_neg (by decide)]
      · simp only [corpus_orderPairs.l0]
        rw [if_pos c, decide_eq_false c2]
    have ih := ordP_l0 (m := m) hl b (i + 1) (by omega) (by omega) (by omega) (by omega)
    have hstep : ordP (l.drop i.toNat) (m.drop i.toNat) = if ordS (rd_T88 l i).f0 (rd_T88 m i).f0 = 0 then (if ordS (rd_T88 l i).f1 (rd_T88 m i).f1 = 0 then ordP (l.drop (i + 1).toNat) (m.drop (i + 1).toNat) else ordS (rd_T88 l i).f1 (rd_T88 m i).f1) else ordS (rd_T88 l i).f0 (rd_T88 m i).f0 := by
      rw [drop_T l i h0 c, drop_T m i h0 c2]
      rfl
    rw [hstep]
    have e1 : wrap64 (i + 1) = i + 1 := w64 (by omega) (by omega)
    have key : ∀ {f : Nat → Option Int} {r : Int}, Ev f r → (∀ k, corpus_orderPairs.j1 (k + 1) l m i true = f k) → Ev (fun k => corpus_orderPairs.l0 k l m i) r := fun hf hj => by
      refine ev_step (f := fun k => corpus_orderPairs.j1 k l m i true) (ev_step hf hj) fun k => ?_
      simp only [corpus_orderPairs.l0]
      rw [if_pos c, decide_eq_true c2]
    by_cases d1 : ordS (rd_T88 l i).f0 (rd_T88 m i).f0 = 0
    · rw [if_pos d1]
      by_cases d2 : ordS (rd_T88 l i).f1 (rd_T88 m i).f1 = 0
      · rw [if_pos d2]
        refine key ih fun k => ?_
        simp only [corpus_orderPairs.j1, orderText_eq, Option.bind_some, if_true, e1]
        rw [if_pos h0, if_pos c, if_pos c2, if_pos d1, if_pos d2]
      · rw [if_neg d2]
        refine key (Ev.now _) fun k => ?_
        simp only [corpus_orderPairs.j1, orderText_eq, Option.bind_some, if_true]
        rw [if_pos h0, if_pos c, if_pos c2, if_pos d1, if_neg d2]
    · rw [if_neg d1]
      refine key (Ev.now _) fun k => ?_
      simp only [corpus_orderPairs.j1, orderText_eq, Option.bind_some, if_true]
      rw [if_pos h0, if_pos c, if_pos c2, if_neg d1]
theorem cmpR_ev (a b : S58) (hl : a.f3.length ≤ 1099511627776) : Ev (fun k => corpus_CompareRegions.f k a.f0 a.f1 a.f2 a.f3 b.f0 b.f1 b.f2 b.f3) (cmpR a b) := by
  have h := ordP_l0 (m := b.f3) hl a.f3.length 0 (Int.le_refl _) (by omega) (by omega) (by omega)
  unfold cmpR
  by_cases c1 : ordI a.f1 b.f1 = 0
  · rw [if_pos c1]
    by_cases c2 : ordI b.f2 a.f2 = 0
    · rw [if_pos c2]
      by_cases c3 : ordS a.f0 b.f0 = 0
      · rw [if_pos c3]
        refine Ev.congr (fun k => ?_) (show Ev (fun k => corpus_orderPairs.l0 k a.f3 b.f3 0) (ordP a.f3 b.f3) from h)
        simp only [corpus_CompareRegions.f, order_eq, orderText_eq, Option.bind_some, corpus_orderPairs.f]
        rw [if_pos c1, if_pos c2, if_pos c3]
        cases corpus_orderPairs.l0 k a.f3 b.f3 0 <;> rfl
      · rw [if_neg c3]
        refine Ev.congr (fun k => ?_) (Ev.now _)
        simp only [corpus_CompareRegions.f, order_eq, orderText_eq, Option.bind_some]
        rw [if_pos c1, if_pos c2, if_neg c3]
    · rw [if_neg c2]
      refine Ev.congr (fun k => ?_) (Ev.now _)
      simp only [corpus_CompareRegions.f, order_eq, Option.bind_some]
      rw [if_pos c1, if_neg c2]
  · rw [if_neg c1]
    refine Ev.congr (fun k => ?_) (Ev.now _)
    simp only [corpus_CompareRegions.f, order_eq, Option.bind_some]
    rw [if_neg c1]
theorem cmp_b (a b : S58) (hl : a.f3.length ≤ 1048576) (Aa Ab : Option Addr) (ca cb : Nat) (hca : a.f3.length ≤ ca) (hcb : b.f3.length ≤ cb) (w : World) (ha : Kd.C k88 w Aa a.f3.length a.f3) (hb : Kd.C k88 w Ab b.f3.length b.f3) (r : Int) (hr : Hid (r = cmpR a b)) :
    Calls Tryd.prog 30 #[.agg #[.string a.f0, .int .i64 a.f1, .int .i64 a.f2, .slice Aa a.f3.length ca], .agg #[.string b.f0, .int .i64 b.f1, .int .i64 b.f2, .slice Ab b.f3.length cb]] w fun e w' => e = .returned (.int .i64 r) ∧ Below w.heap.size w w' := by
  rw [hr.out]
  obtain ⟨k, hk⟩ := (cmpR_ev a b (by omega)).rounds
  exact corpus_CompareRegions.calls k a.f0 a.f1 a.f2 Aa ca a.f3 b.f0 b.f1 b.f2 Ab cb b.f3 _ w ha hca hb hcb hk
/-- A region whose bounds are ints, and with few keys. -/
def RegOk (x : S58) : Prop := wrap64 x.f1 = x.f1 ∧ wrap64 x.f2 = x.f2 ∧ x.f3.length ≤ 1048576
theorem copy_b (x : S58) (hx : RegOk x) (A : Option Addr) (c : Nat) (hc : x.f3.length ≤ c) (w : World) (h : Kd.C k88 w A x.f3.length x.f3) :
    Calls Tryd.prog 31 #[.agg #[.string x.f0, .int .i64 x.f1, .int .i64 x.f2, .slice A x.f3.length c], .int .i64 0] w fun e w' => ∃ v : Value, e = .returned (.agg #[.string x.f0, .int .i64 x.f1, .int .i64 x.f2, v]) ∧ Kd.R k88 88 w' w.heap.size (fun _ => True) v x.f3 ∧ Below w.heap.size w w' := by
  obtain ⟨h1, h2, h3⟩ := hx
  refine corpus_copyRegion.calls x.f0 x.f1 x.f2 A c x.f3 0 x.f0 x.f1 x.f2 x.f3 w h hc ?_
  unfold corpus_copyRegion.f corpus_copyPairs.f
  rw [if_pos (by simp; omega)]
  simp only [Option.bind_some, List.nil_append, Int.add_zero]
  rw [h1, h2]

def ltR (x y : S58) : Bool := decide (cmpR x y < 0)
def sortR (l : List S58) : List S58 := sortL ltR z58 l
end Go.Proofs.YtebajpebongabaaDoor.V
