/- What the rows of this seat share: a row of attributes that came in; the witness. -/
import Derived.Test.YtebajpebongabaaDoorRows
import Derived.Test.YtebajpebongabaaDoorWAll
import Derived.Test.YtebajpebongabaaDoorPx0
import Derived.Lay
import Derived.WalkKit
import Derived.ProofKit
import Derived.OpenShut
import Derived.ShutString
import Derived.ChangeOld
import Derived.ChangeMaps5
import Derived.Below
import Derived.SizedLaws
import Derived.LaidMore
import Derived.SliceStrings
import Derived.Stop.Joined
import Derived.Stop.LaidErr
import Derived.HandedShaped
import Derived.Deep.SlicePairs
namespace Go.Proofs.YtebajpebongabaaDoor
open Go.ChangeShapes Go.WideShapes Go.ChangeAt Go.RowKit Go.Proofs.YtebajpebongabaaDoorW.PrintWords Go.Proofs.YtebajpebongabaaDoorW.PrintMore Go.Deep Go.Proofs.YtebajpebongabaaDoor.P

theorem own : ownKnob Tryd.prog.godebug = none := by kernel_rfl
theorem laidOut : laidOutB Tryd.prog = true := by kernel_rfl
abbrev laid2 : List (String × DataW Unit) := [("unicode/utf8.acceptRanges", Rows.laid_unicode_utf8_acceptRanges), ("unicode/utf8.first", Rows.laid_unicode_utf8_first)]
/-- A row of attributes that came in, as the walks want it. -/
theorem attrs_row {H : Type} {enc : TypeId × Value → H} {W : World} {base : Nat} {sp : Nat → Bool} {held : Bool} {fuel : Nat} {x : DataW H × List MemPlace} {a : Option Addr} {len cap : Nat}
    (h : DataW.trod enc Tryd.prog W base sp held fuel 22 [.slice a len cap] = some x) : ∃ l : List S55, len = l.length ∧ Kd.C k55 W a l.length l ∧ l.length ≤ cap := by
  rcases open_slice_pairs Tryd.underlying22 Tryd.underlying55 (by kernel_rfl) rfl rfl (by kernel_rfl) (by kernel_rfl) h with ⟨hcs, _⟩ | ⟨b, len', cap', m, n, V0, V1, D0, D1, P0, P1, hcs, _, hl, hm, hmm, _, hx⟩
  · injection hcs with hcs
    injection hcs with e1 e2 e3
    subst e1 e2 e3
    exact ⟨[], rfl, Kd.C_nil _ _, Nat.le_refl _⟩
  · injection hcs with hcs
    injection hcs with e1 e2 e3
    subst e1 e2 e3
    have hlm : len ≤ m := by rw [hmm]; split <;> omega
    have each : ∀ i, i < len → ∃ p : S55, W.cell? (b.add (i * 2)) = some (.string p.f0) ∧ W.cell? (b.add (i * 2 + 1)) = some (.bool p.f1) := by
      intro i hi
      obtain ⟨c0, c1, t0, t1⟩ := hx i (by omega)
      obtain ⟨s, hs, _⟩ := DataW.trod_string Tryd.underlying9 t0
      obtain ⟨q, hq, _⟩ := DataW.trod_bool Tryd.underlying4 t1
      injection hs with hs
      injection hq with hq
      exact ⟨⟨s, q⟩, c0.trans (by rw [hs]), c1.trans (by rw [hq])⟩
    haveI : Inhabited S55 := ⟨⟨⟨#[]⟩, false⟩⟩
    obtain ⟨q, hq⟩ := choose_lt each
    have hlen : ((List.range len).map q).length = len := by simp
    refine ⟨(List.range len).map q, hlen.symm, ?_, by omega⟩
    refine ⟨rfl, by unfold maxLen at hm; omega, fun _ => ⟨b, rfl, fun j p hj => ?_⟩⟩
    have hjl : j < len := by
      by_cases hc : j < len
      · exact hc
      · rw [List.getElem?_eq_none (by omega)] at hj
        cases hj
    rw [List.getElem?_map, List.getElem?_range hjl] at hj
    have hp : q j = p := Option.some.inj hj
    subst hp
    obtain ⟨c0, c1⟩ := hq j hjl
    refine ⟨[.string (q j).f0, .bool (q j).f1], rfl, k55_mk _ _, fun i u hi => ?_⟩
    match i, hi with
    | 0, hi =>
      obtain rfl : Value.string (q j).f0 = u := Option.some.inj hi
      exact c0
    | 1, hi =>
      obtain rfl : Value.bool (q j).f1 = u := Option.some.inj hi
      exact c1
    | i + 2, hi => simp at hi
end Go.Proofs.YtebajpebongabaaDoor
