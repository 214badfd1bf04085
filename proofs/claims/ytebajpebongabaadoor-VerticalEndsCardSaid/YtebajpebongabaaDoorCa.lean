/- vertical.checkAttributes: what it answers, by a plain function of the attributes. Condition: none. -/
import Derived.WalkKit
import Derived.BigCall
import Derived.Lib.Hide
import Derived.Test.YtebajpebongabaaDoorProg
import Derived.Test.YtebajpebongabaaDoorWAll
import Derived.Test.YtebajpebongabaaDoorPx5
import Derived.Test.YtebajpebongabaaDoorPx9
import Derived.Test.YtebajpebongabaaDoorPx12
import Derived.Test.YtebajpebongabaaDoorPx18
import Derived.Test.YtebajpebongabaaDoorEs
import Derived.Test.YtebajpebongabaaDoorChk
namespace Go.Proofs.YtebajpebongabaaDoor.V
open Go.RowKit Go.Proofs.YtebajpebongabaaDoorW.PrintWords Go.Proofs.YtebajpebongabaaDoorW.PrintMore Go.Proofs.YtebajpebongabaaDoor.P Go.Proofs.YtebajpebongabaaDoor.X
set_option linter.unusedVariables false
set_option linter.unusedSimpArgs false

def seenB (seen : List S55) (a : S55) : Bool := seen.any fun b => decide (b.f0.toList = a.f0.toList)
def attL : List S55 → List S55 → Int → Int × Int
  | _, [], _ => (0, 0)
  | seen, a :: l, i => if nameB a.f0 = false then (i, 4) else if seenB seen a = true then (i, 5) else attL (seen ++ [a]) l (i + 1)
def attR (l : List S55) : Int × Int := if l.length = 0 then (0, 15) else if 8 < l.length then (0, 2) else attL [] l 0

theorem nameB_ev (s : ByteArray) : Ev (fun k => markup_ValidName.f k s) (nameB s) := by
  obtain ⟨b, hb, h⟩ := name_ev s
  have e : nameB s = b := by
    cases hn : nameB s with
    | true => exact (hb.2 ((nameB_iff s).1 hn)).symm
    | false =>
      cases b with
      | false => rfl
      | true => exact absurd ((nameB_iff s).2 (hb.1 rfl)) (by rw [hn]; decide)
  rw [e]
  exact h
theorem drop_A (l : List S55) (i : Int) (h0 : 0 ≤ i) (h1 : i < l.length) : l.drop i.toNat = rd_T55 l i :: l.drop (i + 1).toNat := by
  rw [List.drop_eq_getElem_cons (by omega), show (i + 1).toNat = i.toNat + 1 by omega]
  congr 1
  unfold rd_T55
  simp [List.getD, show i.toNat < l.length by omega]
theorem take_A (l : List S55) (i : Int) (h0 : 0 ≤ i) (h1 : i < l.length) : l.take (i + 1).toNat = l.take i.toNat ++ [rd_T55 l i] := by
  rw [show (i + 1).toNat = i.toNat + 1 by omega, List.take_add_one]
  unfold rd_T55
  simp [List.getD, show i.toNat < l.length by omega]

section
variable (l1 : List (List ByteArray)) (l2 : List S61) (l3 : List S58) (l4 : List S64) (l5 : List Int) (l6 : List ByteArray)
theorem att_inner {l : List S55} (hl : l.length ≤ 8) (a : S55) (i : Int) (r : Int × Int) (seen : List S55) (hs : seen.length ≤ 8)
    (hnext : Ev (fun k => corpus_attributes.l0 k l (l.length : Int) (wrap64 (i + 1)) l l1 l2 l3 l4 l5 l6) r) : ∀ (b : Nat) (j : Int), 0 ≤ j → j + b = seen.length →
    Ev (fun k => corpus_attributes.l1 k i l (l.length : Int) i seen (seen.length : Int) j l l1 l2 l3 l4 l5 l6 a.f0 a.f1) (if seenB (seen.drop j.toNat) a = true then (i, 5) else r)
  | 0, j, h0, hb => by
    have e : seenB (seen.drop j.toNat) a = false := by rw [List.drop_eq_nil_of_le (by omega)]; rfl
    rw [e, if_neg (by decide)]
    refine ev_step hnext fun k => ?_
    simp only [corpus_attributes.l1]
    rw [if_neg (by omega)]
  | b + 1, j, h0, hb => by
    have ed := drop_A seen j h0 (by omega)
    by_cases c : ((rd_T55 seen j).f0).toList = a.f0.toList
    · have e : seenB (seen.drop j.toNat) a = true := by rw [ed]; unfold seenB; rw [List.any_cons, decide_eq_true c]; rfl
      rw [e, if_pos rfl]
      refine ev_step (Ev.now _) fun k => ?_
      simp only [corpus_attributes.l1]
      rw [if_pos (by omega), if_pos h0, if_pos (by omega), if_pos c]
    · have e : seenB (seen.drop j.toNat) a = seenB (seen.drop (j + 1).toNat) a := by rw [ed]; unfold seenB; rw [List.any_cons, decide_eq_false c]; rfl
      rw [e]
      refine ev_step (att_inner hl a i r seen hs hnext b (j + 1) (by omega) (by omega)) fun k => ?_
      simp only [corpus_attributes.l1]
      rw [if_pos (by omega), if_pos h0, if_pos (by omega), if_neg c, w64 (by omega) (by omega)]
theorem att_l0 {l : List S55} (hl : l.length ≤ 8) : ∀ (b : Nat) (i : Int), 0 ≤ i → i + b = l.length →
    Ev (fun k => corpus_attributes.l0 k l (l.length : Int) i l l1 l2 l3 l4 l5 l6) (attL (l.take i.toNat) (l.drop i.toNat) i)
  | 0, i, h0, hb => by
    rw [List.drop_eq_nil_of_le (by omega)]
    refine ev_step (Ev.now _) fun k => ?_
    simp only [corpus_attributes.l0]
    rw [if_neg (by omega)]
    simp [attL]
  | b + 1, i, h0, hb => by
    have ih := att_l0 hl b (i + 1) (by omega) (by omega)
    have ed := drop_A l i h0 (by omega)
    have et := take_A l i h0 (by omega)
    rw [ed]
    rw [et] at ih
    unfold attL
    have e1 : wrap64 (i + 1) = i + 1 := w64 (by omega) (by omega)
    have hts : (l.take i.toNat).length ≤ 8 := by rw [List.length_take]; omega
    by_cases c : nameB (rd_T55 l i).f0 = false
    · rw [if_pos c]
      have hn := nameB_ev (rd_T55 l i).f0
      rw [c] at hn
      refine Ev.step (f := fun k => (markup_ValidName.f k (rd_T55 l i).f0).bind fun t => if t = true then (if i ≤ (l.length : Int) then ((some (l.take (i : Int).toNat : List (S55))).bind fun y108 => (corpus_attributes.l1 k i l (l.length : Int) i y108 (y108.length : Int) 0 l l1 l2 l3 l4 l5 l6 ((rd_T55 l i).f0) ((rd_T55 l i).f1))) else none) else some (i, 4)) (fun k => ?_) (Ev.bind hn (Ev.congr (fun k => if_neg (by decide)) (Ev.now _)))
      simp only [corpus_attributes.l0]
      rw [if_pos (by omega), if_pos h0, if_pos (by omega)]
    · rw [if_neg c]
      have hn := nameB_ev (rd_T55 l i).f0
      rw [Bool.of_not_eq_false c] at hn
      have hin := att_inner l1 l2 l3 l4 l5 l6 hl (rd_T55 l i) i _ (l.take i.toNat) hts (by rw [e1]; exact ih) (l.take i.toNat).length 0 (Int.le_refl _) (by omega)
      refine Ev.step (f := fun k => (markup_ValidName.f k (rd_T55 l i).f0).bind fun t => if t = true then (if i ≤ (l.length : Int) then ((some (l.take (i : Int).toNat : List (S55))).bind fun y108 => (corpus_attributes.l1 k i l (l.length : Int) i y108 (y108.length : Int) 0 l l1 l2 l3 l4 l5 l6 ((rd_T55 l i).f0) ((rd_T55 l i).f1))) else none) else some (i, 4)) (fun k => ?_) (Ev.bind hn ?_)
      · simp only [corpus_attributes.l0]
        rw [if_pos (by omega), if_pos h0, if_pos (by omega)]
      · refine Ev.congr (fun k => ?_) hin
        rw [if_pos rfl, if_pos (by omega), Option.bind_some]
theorem att_ev (l : List S55) : Ev (fun k => corpus_attributes.f k l l1 l2 l3 l4 l5 l6) (attR l) := by
  unfold attR
  by_cases c1 : l.length = 0
  · rw [if_pos c1]
    refine Ev.congr (fun k => ?_) (Ev.now _)
    simp only [corpus_attributes.f]
    rw [if_pos (by omega)]
  · rw [if_neg c1]
    by_cases c2 : 8 < l.length
    · rw [if_pos c2]
      refine Ev.congr (fun k => ?_) (Ev.now _)
      simp only [corpus_attributes.f]
      rw [if_neg (by omega), if_pos (by omega)]
    · rw [if_neg c2]
      refine Ev.congr (fun k => ?_) (att_l0 l1 l2 l3 l4 l5 l6 (by omega) l.length 0 (Int.le_refl _) (by omega))
      simp only [corpus_attributes.f]
      rw [if_neg (by omega), if_neg (by omega)]
end

theorem texts_nil (l : List S55) (k : Nat) : corpus_texts.f (k + 1) l [] [] [] [] [] [] = some (0, 0) := by
  simp [corpus_texts.f, corpus_texts.l0]
theorem tokens_nil (l : List S55) (k : Nat) : corpus_tokens.f (k + 1) l [] [] [] [] [] [] = some (0, 0) := by
  simp [corpus_tokens.f, corpus_tokens.l0]

set_option maxHeartbeats 1000000 in
theorem heads_nil (A0 A1 A2 A3 A4 : Option Addr) (n0 n1 n2 n3 n4 c0 c1 c2 c3 c4 : Nat) (w : World) :
    Calls Tryd.prog 19 #[.agg #[.slice A0 n0 c0, .slice A1 n1 c1, .slice A2 n2 c2, .slice A3 n3 c3, .slice A4 n4 c4, .slice none 0 0, .slice none 0 0]] w fun e w' => e = .returned (.tuple #[.int .i64 0, .int .i64 0]) ∧ Below w.heap.size w w' := by
  have hcy : corpus_cycles.f 1 [] = some [] := by simp [corpus_cycles.f, corpus_cycles.l0]
  have HC := Lib.hid hcy
  clear hcy
  go_enter Tryd.func19, Tryd.ntmps19
  go_wp2_with (go_at_call 40; refine (corpus_cycles.calls 1 none 0 [] [] _ (Kd.C_nil _ _) (Nat.le_refl _) HC.out).mono ?_; rintro e w1 ⟨v, rfl, hR, hb⟩; obtain ⟨Av, cv, rfl⟩ := Kd.R_slice hR; have hF := blk_below (blk_new w (.cells #[.slice A0 n0 c0, .slice A1 n1 c1, .slice A2 n2 c2, .slice A3 n3 c3, .slice A4 n4 c4, .slice none 0 0, .slice none 0 0] 30)) hb; have x5 : w1.cell? ⟨w.heap.size, 5, none⟩ = some (.slice none 0 0) := blk_cell hF 5; have hbw : Below w.heap.size w w1 := (below_alloc (Below.refl _ _) _).trans (hb.mono (by simp)); have HB := Lib.hid hbw; clear hF hb hR hbw)
  go_loopw [43] (fun i wr => i = .int .i64 0 ∧ wr = w1) (fun _ _ => 0)
  case atStart => exact ⟨rfl, rfl⟩
  case round =>
    obtain ⟨rfl, rfl⟩ := hrel
    go_wp2
    go_ret2
    exact ⟨rfl, HB.out⟩

def attB (l : List S55) : Bool := (attR l).2 == 0
theorem chk_att (a : Int × Int) : chk [some a, some (0, 0), some (0, 0), some (0, 0), some (0, 0), some (0, 0)] 0 = some (if a.2 = 0 then (0, 0, 0) else (1, a.1, a.2)) := by
  unfold chk
  simp only [Option.bind_some]
  split
  · simp [chk]
  · simp
set_option maxHeartbeats 1000000 in
theorem checkAttributes_b (l : List S55) (A : Option Addr) (c : Nat) (hc : l.length ≤ c) (w : World) (hK : Kd.C k55 w A l.length l) :
    Calls Tryd.prog 10 #[.slice A l.length c] w fun e w' => e = .returned (.bool (attB l)) ∧ Below w.heap.size w w' := by
  have HV : ∀ W, Below w.heap.size w W → Calls Tryd.prog 6 #[.agg #[.slice A l.length c, .slice none 0 0, .slice none 0 0, .slice none 0 0, .slice none 0 0, .slice none 0 0, .slice none 0 0]] W fun e w' => e = .returned (.tuple #[.int .i64 (if (attR l).2 = 0 then ((0, 0, 0) : Int × Int × Int) else (1, (attR l).1, (attR l).2)).1, .int .i64 (if (attR l).2 = 0 then ((0, 0, 0) : Int × Int × Int) else (1, (attR l).1, (attR l).2)).2.1, .int .i64 (if (attR l).2 = 0 then ((0, 0, 0) : Int × Int × Int) else (1, (attR l).1, (attR l).2)).2.2]) ∧ Below W.heap.size W w' := by
    intro W hW
    refine validate_walk A l.length c none 0 0 none 0 0 none 0 0 none 0 0 none 0 0 none 0 0 W (some (attR l)) (some (0, 0)) (some (0, 0)) (some (0, 0)) (some (0, 0)) (some (0, 0)) ?_ _ _ _ (chk_att _)
    intro j a V hB hj
    have hC : Kd.C k55 V A l.length l := Kd.C_below (Kd.C_below hK hW) (hB.mono hW.size |> fun h => by
      have := hB
      exact ⟨hB.os, hB.tape, hB.output, hB.size, fun k hk => hB.block k (Nat.lt_of_lt_of_le hk (Nat.le_refl _))⟩)
    have hz0 : (([] : List Int).length) = 0 := rfl
    match j, hj with
    | 0, hj =>
      obtain ⟨k, hk⟩ := (att_ev [] [] [] [] [] [] l).rounds
      have := Option.some.inj (Option.some.inj hj)
      subst this
      exact corpus_attributes.calls k A c l none 0 [] none 0 [] none 0 [] none 0 [] none 0 [] none 0 [] _ _ V hC hc (Kd.C_nil _ _) (Nat.le_refl _) (Kd.C_nil _ _) (Nat.le_refl _) (Kd.C_nil _ _) (Nat.le_refl _) (Kd.C_nil _ _) (Nat.le_refl _) (Kd.C_nil _ _) (Nat.le_refl _) (Kd.C_nil _ _) (Nat.le_refl _) hk
    | 1, hj =>
      have := Option.some.inj (Option.some.inj hj)
      subst this
      exact corpus_tokens.calls 1 A c l none 0 [] none 0 [] none 0 [] none 0 [] none 0 [] none 0 [] _ _ V hC hc (Kd.C_nil _ _) (Nat.le_refl _) (Kd.C_nil _ _) (Nat.le_refl _) (Kd.C_nil _ _) (Nat.le_refl _) (Kd.C_nil _ _) (Nat.le_refl _) (Kd.C_nil _ _) (Nat.le_refl _) (Kd.C_nil _ _) (Nat.le_refl _) (tokens_nil l 0)
    | 2, hj =>
      have := Option.some.inj (Option.some.inj hj)
      subst this
      exact corpus_texts.calls 1 A c l none 0 [] none 0 [] none 0 [] none 0 [] none 0 [] none 0 [] _ _ V hC hc (Kd.C_nil _ _) (Nat.le_refl _) (Kd.C_nil _ _) (Nat.le_refl _) (Kd.C_nil _ _) (Nat.le_refl _) (Kd.C_nil _ _) (Nat.le_refl _) (Kd.C_nil _ _) (Nat.le_refl _) (Kd.C_nil _ _) (Nat.le_refl _) (texts_nil l 0)
    | 3, hj =>
      have := Option.some.inj (Option.some.inj hj)
      subst this
      exact regions_nil _ _ _ _ _ _ _ _ _ _ _ _ _ _ _ _ _ _ _ _ _
    | 4, hj =>
      have := Option.some.inj (Option.some.inj hj)
      subst this
      exact nodes_nil _ _ _ _ _ _ _ _ _ _ _ _ _ _ _ _ _ _ _ _ _
    | 5, hj =>
      have := Option.some.inj (Option.some.inj hj)
      subst this
      exact heads_nil _ _ _ _ _ _ _ _ _ _ _ _ _ _ _ _
    | j + 6, hj => simp at hj
  have HV := Lib.hid HV
  by_cases h0 : (attR l).2 = 0
  · have hE : attB l = true := by unfold attB; rw [h0]; rfl
    rw [hE]
    have hV := HV.out
    rw [if_pos h0] at hV
    have HV2 := Lib.hid hV
    clear hK HV hV hE h0
    go_enter Tryd.func10, Tryd.ntmps10
    go_wp2_with (go_at_call 6; refine (HV2.out _ (Below.refl _ _)).mono ?_; rintro e w1 ⟨rfl, hb⟩)
    go_ret
    exact ⟨rfl, hb⟩
  · have hE : attB l = false := beq_eq_false_iff_ne.2 h0
    rw [hE]
    have hV := HV.out
    rw [if_neg h0] at hV
    have HV2 := Lib.hid hV
    have hb0 : ((attR l).2 == 0) = false := beq_eq_false_iff_ne.2 h0
    clear hK HV hV hE
    go_enter Tryd.func10, Tryd.ntmps10
    go_wp2_with (go_at_call 6; refine (HV2.out _ (Below.refl _ _)).mono ?_; rintro e w1 ⟨rfl, hb⟩)
    go_ret
    exact ⟨rfl, hb⟩
end Go.Proofs.YtebajpebongabaaDoor.V
