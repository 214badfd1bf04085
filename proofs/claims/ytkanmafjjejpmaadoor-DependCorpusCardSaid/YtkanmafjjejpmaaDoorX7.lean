/- corpus.Validate by its parts, at a corpus without regions and nodes. Condition: none (at others the plain function has no answer). -/
import Derived.Test.YtkanmafjjejpmaaDoorPx20
import Derived.Test.YtkanmafjjejpmaaDoorPx24
import Derived.Test.YtkanmafjjejpmaaDoorPx27
import Derived.Test.YtkanmafjjejpmaaDoorPx34
import Derived.Test.YtkanmafjjejpmaaDoorChk
namespace Go.Proofs.YtkanmafjjejpmaaDoor.X
open Go.RowKit Go.Proofs.YtkanmafjjejpmaaDoorW.PrintWords Go.Proofs.YtkanmafjjejpmaaDoor.P
set_option linter.unusedVariables false

def emptyE {α : Type} (l : List α) : Option (Int × Int) := if l.length = 0 then some (0, 0) else none
def corpus_Validate.f (k : Nat) (l0_0 : List S36) (l0_1 : List (List ByteArray)) (l0_2 : List S40) (l0_3 : List S77) (l0_4 : List S82) (l0_5 : List Int) (l0_6 : List ByteArray) : Option (Int × Int × Int) :=
  V.chk [P.corpus_attributes.f k l0_0 l0_1 l0_2 l0_3 l0_4 l0_5 l0_6, P.corpus_tokens.f k l0_0 l0_1 l0_2 l0_3 l0_4 l0_5 l0_6, P.corpus_texts.f k l0_0 l0_1 l0_2 l0_3 l0_4 l0_5 l0_6, emptyE l0_3, emptyE l0_4, P.corpus_heads.f k l0_0 l0_1 l0_2 l0_3 l0_4 l0_5 l0_6] 0
theorem chk_mono {p q : Option (Int × Int)} {t u : List (Option (Int × Int))} {j : Int} (h : LeO p q) (k : LeO (V.chk t (j + 1)) (V.chk u (j + 1))) : LeO (V.chk (p :: t) j) (V.chk (q :: u) j) :=
  LeO.bind h fun _ => LeO.ite k (LeO.refl _)
theorem corpus_Validate.mono : ∀ a0 a1 a2 a3 a4 a5 a6 k, LeO (corpus_Validate.f k a0 a1 a2 a3 a4 a5 a6) (corpus_Validate.f (k + 1) a0 a1 a2 a3 a4 a5 a6) := fun a0 a1 a2 a3 a4 a5 a6 k =>
  chk_mono (P.corpus_attributes.mono _ _ _ _ _ _ _ k) (chk_mono (P.corpus_tokens.mono _ _ _ _ _ _ _ k) (chk_mono (P.corpus_texts.mono _ _ _ _ _ _ _ k) (chk_mono (LeO.refl _) (chk_mono (LeO.refl _) (chk_mono (P.corpus_heads.mono _ _ _ _ _ _ _ k) (LeO.refl _))))))
theorem emptyE_some {α : Type} {l : List α} {a : Int × Int} (h : emptyE l = some a) : l.length = 0 ∧ a = (0, 0) := by
  unfold emptyE at h
  split at h
  · rename_i c
    exact ⟨c, (Option.some.inj h).symm⟩
  · cases h

set_option maxHeartbeats 1000000 in
theorem corpus_Validate.calls (k : Nat) (A0_0 : Option Addr) (c0_0 : Nat) (l0_0 : List S36) (A0_1 : Option Addr) (c0_1 : Nat) (l0_1 : List (List ByteArray)) (A0_2 : Option Addr) (c0_2 : Nat) (l0_2 : List S40) (A0_3 : Option Addr) (c0_3 : Nat) (l0_3 : List S77) (A0_4 : Option Addr) (c0_4 : Nat) (l0_4 : List S82) (A0_5 : Option Addr) (c0_5 : Nat) (l0_5 : List Int) (A0_6 : Option Addr) (c0_6 : Nat) (l0_6 : List ByteArray) (r1 r2 r3 : Int) (w : World) (hr0_0 : Kd.C k36 w A0_0 l0_0.length l0_0) (hc0_0 : l0_0.length ≤ c0_0) (hr0_1 : Kd.C (Kd.slice 9 Kd.string) w A0_1 l0_1.length l0_1) (hc0_1 : l0_1.length ≤ c0_1) (hr0_2 : Kd.C k40 w A0_2 l0_2.length l0_2) (hc0_2 : l0_2.length ≤ c0_2) (hr0_3 : Kd.C k77 w A0_3 l0_3.length l0_3) (hc0_3 : l0_3.length ≤ c0_3) (hr0_4 : Kd.C k82 w A0_4 l0_4.length l0_4) (hc0_4 : l0_4.length ≤ c0_4) (hr0_5 : Kd.C (Kd.int .i64) w A0_5 l0_5.length l0_5) (hc0_5 : l0_5.length ≤ c0_5) (hr0_6 : Kd.C Kd.string w A0_6 l0_6.length l0_6) (hc0_6 : l0_6.length ≤ c0_6) (h : corpus_Validate.f k l0_0 l0_1 l0_2 l0_3 l0_4 l0_5 l0_6 = some (r1, r2, r3)) :
    Calls Tryd.prog 12 #[.agg #[.slice A0_0 l0_0.length c0_0, .slice A0_1 l0_1.length c0_1, .slice A0_2 l0_2.length c0_2, .slice A0_3 l0_3.length c0_3, .slice A0_4 l0_4.length c0_4, .slice A0_5 l0_5.length c0_5, .slice A0_6 l0_6.length c0_6]] w fun e w' => e = .returned (.tuple #[.int .i64 r1, .int .i64 r2, .int .i64 r3]) ∧ Below w.heap.size w w' := by
  refine V.validate_walk A0_0 l0_0.length c0_0 A0_1 l0_1.length c0_1 A0_2 l0_2.length c0_2 A0_3 l0_3.length c0_3 A0_4 l0_4.length c0_4 A0_5 l0_5.length c0_5 A0_6 l0_6.length c0_6 w _ _ _ _ _ _ ?_ r1 r2 r3 h
  intro j a W hB hj
  have cb : ∀ {α : Type} {d : Kd α} {A : Option Addr} {n : Nat} {xs : List α}, d.C w A n xs → d.C W A n xs := fun h => Kd.C_below h hB
  match j, hj with
  | 0, hj => exact P.corpus_attributes.calls k A0_0 c0_0 l0_0 A0_1 c0_1 l0_1 A0_2 c0_2 l0_2 A0_3 c0_3 l0_3 A0_4 c0_4 l0_4 A0_5 c0_5 l0_5 A0_6 c0_6 l0_6 a.1 a.2 W (cb hr0_0) hc0_0 (cb hr0_1) hc0_1 (cb hr0_2) hc0_2 (cb hr0_3) hc0_3 (cb hr0_4) hc0_4 (cb hr0_5) hc0_5 (cb hr0_6) hc0_6 (Option.some.inj hj)
  | 1, hj => exact P.corpus_tokens.calls k A0_0 c0_0 l0_0 A0_1 c0_1 l0_1 A0_2 c0_2 l0_2 A0_3 c0_3 l0_3 A0_4 c0_4 l0_4 A0_5 c0_5 l0_5 A0_6 c0_6 l0_6 a.1 a.2 W (cb hr0_0) hc0_0 (cb hr0_1) hc0_1 (cb hr0_2) hc0_2 (cb hr0_3) hc0_3 (cb hr0_4) hc0_4 (cb hr0_5) hc0_5 (cb hr0_6) hc0_6 (Option.some.inj hj)
  | 2, hj => exact P.corpus_texts.calls k A0_0 c0_0 l0_0 A0_1 c0_1 l0_1 A0_2 c0_2 l0_2 A0_3 c0_3 l0_3 A0_4 c0_4 l0_4 A0_5 c0_5 l0_5 A0_6 c0_6 l0_6 a.1 a.2 W (cb hr0_0) hc0_0 (cb hr0_1) hc0_1 (cb hr0_2) hc0_2 (cb hr0_3) hc0_3 (cb hr0_4) hc0_4 (cb hr0_5) hc0_5 (cb hr0_6) hc0_6 (Option.some.inj hj)
  | 3, hj =>
    obtain ⟨hz, rfl⟩ := emptyE_some (Option.some.inj hj)
    rw [hz]
    exact V.regions_nil _ _ _ _ _ _ _ _ _ _ _ _ _ _ _ _ _ _ _ _ _
  | 4, hj =>
    obtain ⟨hz, rfl⟩ := emptyE_some (Option.some.inj hj)
    rw [hz]
    exact V.nodes_nil _ _ _ _ _ _ _ _ _ _ _ _ _ _ _ _ _ _ _ _ _
  | 5, hj => exact P.corpus_heads.calls k A0_0 c0_0 l0_0 A0_1 c0_1 l0_1 A0_2 c0_2 l0_2 A0_3 c0_3 l0_3 A0_4 c0_4 l0_4 A0_5 c0_5 l0_5 A0_6 c0_6 l0_6 a.1 a.2 W (cb hr0_0) hc0_0 (cb hr0_1) hc0_1 (cb hr0_2) hc0_2 (cb hr0_3) hc0_3 (cb hr0_4) hc0_4 (cb hr0_5) hc0_5 (cb hr0_6) hc0_6 (Option.some.inj hj)
  | j + 6, hj => simp at hj
end Go.Proofs.YtkanmafjjejpmaaDoor.X
