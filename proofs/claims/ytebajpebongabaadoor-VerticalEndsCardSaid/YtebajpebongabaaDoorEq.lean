/- corporaref06.Equal at two corpora that hold the same, without nodes, heads and relations: true. Condition: the rows within are at most 2^20 long. -/
import Derived.WalkKit
import Derived.WalkLawsBesides
import Derived.WalkSpells
import Derived.Deep.QuietTactic
import Derived.BigQuiet
import Derived.BigCall
import Derived.IntWalk
import Derived.Deep.RegionHeld3
import Derived.Lib.Hide
import Derived.Test.YtebajpebongabaaDoorPx26
import Derived.Test.YtebajpebongabaaDoorPx27
import Derived.Test.YtebajpebongabaaDoorDl
namespace Go.Proofs.YtebajpebongabaaDoor.V
open Go.RowKit Go.Proofs.YtebajpebongabaaDoorW.PrintWords Go.Proofs.YtebajpebongabaaDoorW.PrintMore Go.Proofs.YtebajpebongabaaDoor.P Go.Proofs.YtebajpebongabaaDoor.X
set_option linter.unusedVariables false
set_option linter.unusedSimpArgs false

theorem attsame_ev (l : List S55) (hl : l.length ≤ 1099511627776) : Ev (fun k => corporaref06_sameAttributes.f k l l) true := by
  have key : ∀ (b : Nat) (i : Int), 0 ≤ i → i + b = l.length → Ev (fun k => corporaref06_sameAttributes.l0 k l l (l.length : Int) i) true := by
    intro b
    induction b with
    | zero =>
      intro i h0 hb
      refine ev_step (Ev.now _) fun k => ?_
      simp only [corporaref06_sameAttributes.l0]
      rw [if_neg (by omega)]
    | succ b ih =>
      intro i h0 hb
      refine ev_step (ih (i + 1) (by omega) (by omega)) fun k => ?_
      simp only [corporaref06_sameAttributes.l0]
      rw [if_pos (by omega), if_pos h0, if_pos (by omega), if_pos (by omega), if_neg (by simp), w64 (by omega) (by omega)]
  refine Ev.congr (fun k => ?_) (key l.length 0 (Int.le_refl _) (by omega))
  simp only [corporaref06_sameAttributes.f, if_true]
theorem pairsame_ev (l : List S88) (hl : l.length ≤ 1099511627776) : Ev (fun k => corporaref06_samePairs.f k l l) true := by
  have key : ∀ (b : Nat) (i : Int), 0 ≤ i → i + b = l.length → Ev (fun k => corporaref06_samePairs.l0 k l l (l.length : Int) i) true := by
    intro b
    induction b with
    | zero =>
      intro i h0 hb
      refine ev_step (Ev.now _) fun k => ?_
      simp only [corporaref06_samePairs.l0]
      rw [if_neg (by omega)]
    | succ b ih =>
      intro i h0 hb
      refine ev_step (ih (i + 1) (by omega) (by omega)) fun k => ?_
      simp only [corporaref06_samePairs.l0]
      rw [if_pos (by omega), if_pos h0, if_pos (by omega), if_pos (by omega), if_neg (by simp), w64 (by omega) (by omega)]
  refine Ev.congr (fun k => ?_) (key l.length 0 (Int.le_refl _) (by omega))
  simp only [corporaref06_samePairs.f, if_true]
theorem attsame_b (l : List S55) (hl : l.length ≤ 1048576) {A B : Option Addr} {c d : Nat} (hc : l.length ≤ c) (hd : l.length ≤ d) (w : World) (hA : Kd.C k55 w A l.length l) (hB : Kd.C k55 w B l.length l) :
    Calls Tryd.prog 20 #[.slice A l.length c, .slice B l.length d] w fun e w' => e = .returned (.bool true) ∧ Drawn0 w w' := by
  obtain ⟨k, hk⟩ := (attsame_ev l (by omega)).rounds
  exact corporaref06_sameAttributes.calls k A c l B d l true w hA hc hB hd hk
theorem pairsame_b (l : List S88) (hl : l.length ≤ 1048576) {A B : Option Addr} {c d : Nat} (hc : l.length ≤ c) (hd : l.length ≤ d) (w : World) (hA : Kd.C k88 w A l.length l) (hB : Kd.C k88 w B l.length l) :
    Calls Tryd.prog 21 #[.slice A l.length c, .slice B l.length d] w fun e w' => e = .returned (.bool true) ∧ ∃ m, w' = w.drewN m := by
  obtain ⟨k, hk⟩ := (pairsame_ev l (by omega)).rounds
  exact (corporaref06_samePairs.calls k A c l B d l true w hA hc hB hd hk).mono fun _ _ h => ⟨h.1, h.2.out⟩
theorem at_row {w : World} {A : Option Addr} {n : Nat} {xs : List (List ByteArray)} (h : Kd.C kTok w A n xs) (i : Nat) (hi : i < n) : ∃ ad Ai ci, A = some ad ∧ w.cell? (ad.add i) = some (.slice Ai (xs.getD i []).length ci) ∧ (xs.getD i []).length ≤ ci ∧ Kd.C Kd.string w Ai (xs.getD i []).length (xs.getD i []) := by
  obtain ⟨ad, c, e, hl, ⟨Ai, ci, rfl, hle, hC⟩, hc⟩ := Kd.C_get h [] (i : Int) (by omega) (by omega)
  have h0 := hc 0 _ rfl
  simp only [Int.toNat_natCast, Nat.add_zero] at h0 hle hC
  have e1 : i * kTok.sz = i := Nat.mul_one i
  rw [e1] at h0
  exact ⟨ad, Ai, ci, e, h0, hle, hC⟩

abbrev cvObj (a b c d : Value) : Obj := .cells #[a, b, c, d, .slice none 0 0, .slice none 0 0, .slice none 0 0] 30 (0, 0)
theorem past {w : World} {a : Addr} {u : Value} (h : w.cell? a = some u) : ∀ o, (w.alloc o).cell? a = some u := fun o => (World.cell?_alloc_some w a o (by rw [h]; rfl)).trans h
/-- Both parameters' variables stand. -/
structure EqI (w : World) (a b : Obj) (wr : World) : Prop where
  p : wr.heap[w.heap.size]? = some a
  q : wr.heap[w.heap.size + 1]? = some b
  low : Below w.heap.size w wr
theorem EqI.drewN {w wr : World} {a b : Obj} (h : EqI w a b wr) (m : Nat) : EqI w a b (wr.drewN m) := ⟨blk_drewN h.p m, blk_drewN h.q m, pw_below_drewN h.low m⟩
theorem EqI.alloc {w wr : World} {a b : Obj} (h : EqI w a b wr) (o : Obj) : EqI w a b (wr.alloc o) := ⟨blk_alloc h.p o, blk_alloc h.q o, below_alloc h.low o⟩

set_option maxHeartbeats 16000000 in
set_option maxRecDepth 100000 in
theorem equal_same (l0 : List S55) (l1 : List (List ByteArray)) (l2 : List S61) (l3 : List S58) (b0 : l0.length ≤ 1048576) (b1 : ∀ x ∈ l1, x.length ≤ 1048576) (b2 : ∀ x ∈ l2, x.f3.length ≤ 1048576) (b3 : ∀ x ∈ l3, x.f3.length ≤ 1048576) (n1 : l1.length ≤ 1048576) (n2 : l2.length ≤ 1048576) (n3 : l3.length ≤ 1048576)
    (A0 A1 A2 A3 B0 B1 B2 B3 : Option Addr) (c0 c1 c2 c3 d0 d1 d2 d3 : Nat) (hc0 : l0.length ≤ c0) (hd0 : l0.length ≤ d0) (w : World)
    (hA0 : Kd.C k55 w A0 l0.length l0) (hB0 : Kd.C k55 w B0 l0.length l0) (hA1 : Kd.C kTok w A1 l1.length l1) (hB1 : Kd.C kTok w B1 l1.length l1) (hA2 : Kd.C k61 w A2 l2.length l2) (hB2 : Kd.C k61 w B2 l2.length l2) (hA3 : Kd.C k58 w A3 l3.length l3) (hB3 : Kd.C k58 w B3 l3.length l3) :
    Calls Tryd.prog 9 #[.agg #[.slice A0 l0.length c0, .slice A1 l1.length c1, .slice A2 l2.length c2, .slice A3 l3.length c3, .slice none 0 0, .slice none 0 0, .slice none 0 0], .agg #[.slice B0 l0.length d0, .slice B1 l1.length d1, .slice B2 l2.length d2, .slice B3 l3.length d3, .slice none 0 0, .slice none 0 0, .slice none 0 0]] w fun e w' => e = .returned (.bool true) ∧ Below w.heap.size w w' := by
  have hu61 := Tryd.underlying61
  have hu58 := Tryd.underlying58
  have H0 := Lib.hid (⟨hA0, hB0⟩ : _ ∧ _)
  have H1 := Lib.hid (⟨hA1, hB1⟩ : _ ∧ _)
  have H2 := Lib.hid (⟨hA2, hB2⟩ : _ ∧ _)
  have H3 := Lib.hid (⟨hA3, hB3⟩ : _ ∧ _)
  have N1 := Lib.hid b1
  have N2 := Lib.hid b2
  have N3 := Lib.hid b3
  clear hA0 hB0 hA1 hB1 hA2 hB2 hA3 hB3 b1 b2 b3
  go_enter Tryd.func9, Tryd.ntmps9
  go_wp2_with (go_at_call 20; refine (attsame_b l0 b0 hc0 hd0 _ (Kd.C_below H0.out.1 (below_alloc (below_alloc (Below.refl _ _) _) _)) (Kd.C_below H0.out.2 (below_alloc (below_alloc (Below.refl _ _) _) _))).mono ?_; rintro e w1 ⟨rfl, hdr⟩; obtain ⟨m, rfl⟩ := hdr.out)
  generalize hW1 : ((w.alloc _).alloc _).drewN _ = W1
  have hI : EqI w (cvObj (.slice A0 l0.length c0) (.slice A1 l1.length c1) (.slice A2 l2.length c2) (.slice A3 l3.length c3)) (cvObj (.slice B0 l0.length d0) (.slice B1 l1.length d1) (.slice B2 l2.length d2) (.slice B3 l3.length d3)) W1 := by
    rw [← hW1]
    refine EqI.drewN ⟨blk_alloc (blk_new w _) _, ?_, below_alloc (below_alloc (Below.refl _ _) _) _⟩ _
    have := blk_new (w.alloc (cvObj (.slice A0 l0.length c0) (.slice A1 l1.length c1) (.slice A2 l2.length c2) (.slice A3 l3.length c3))) (cvObj (.slice B0 l0.length d0) (.slice B1 l1.length d1) (.slice B2 l2.length d2) (.slice B3 l3.length d3))
    rw [show (w.alloc (cvObj (.slice A0 l0.length c0) (.slice A1 l1.length c1) (.slice A2 l2.length c2) (.slice A3 l3.length c3))).heap.size = w.heap.size + 1 by simp] at this
    exact this
  have hcells : ∀ W, EqI w (cvObj (.slice A0 l0.length c0) (.slice A1 l1.length c1) (.slice A2 l2.length c2) (.slice A3 l3.length c3)) (cvObj (.slice B0 l0.length d0) (.slice B1 l1.length d1) (.slice B2 l2.length d2) (.slice B3 l3.length d3)) W → W.cell? ⟨w.heap.size, 1, none⟩ = some (.slice A1 l1.length c1) ∧ W.cell? ⟨w.heap.size + 1, 1, none⟩ = some (.slice B1 l1.length d1) ∧ W.cell? ⟨w.heap.size, 2, none⟩ = some (.slice A2 l2.length c2) ∧ W.cell? ⟨w.heap.size + 1, 2, none⟩ = some (.slice B2 l2.length d2) ∧ W.cell? ⟨w.heap.size, 3, none⟩ = some (.slice A3 l3.length c3) ∧ W.cell? ⟨w.heap.size + 1, 3, none⟩ = some (.slice B3 l3.length d3) ∧ W.cell? ⟨w.heap.size, 4, none⟩ = some (.slice none 0 0) ∧ W.cell? ⟨w.heap.size + 1, 4, none⟩ = some (.slice none 0 0) ∧ W.cell? ⟨w.heap.size, 5, none⟩ = some (.slice none 0 0) ∧ W.cell? ⟨w.heap.size + 1, 5, none⟩ = some (.slice none 0 0) ∧ W.cell? ⟨w.heap.size, 6, none⟩ = some (.slice none 0 0) ∧ W.cell? ⟨w.heap.size + 1, 6, none⟩ = some (.slice none 0 0) :=
    fun W h => ⟨blk_cell h.p 1, blk_cell h.q 1, blk_cell h.p 2, blk_cell h.q 2, blk_cell h.p 3, blk_cell h.q 3, blk_cell h.p 4, blk_cell h.q 4, blk_cell h.p 5, blk_cell h.q 5, blk_cell h.p 6, blk_cell h.q 6⟩
  obtain ⟨x1, y1, x2, y2, x3, y3, x4, y4, x5, y5, x6, y6⟩ := hcells W1 hI
  have HC := Lib.hid hcells
  have HI := Lib.hid hI
  clear hW1 hcells hI
  go_wp2
  go_loopw [79] (fun i wr => ∃ j : Nat, i = .int .i64 j ∧ j ≤ l1.length ∧ EqI w (cvObj (.slice A0 l0.length c0) (.slice A1 l1.length c1) (.slice A2 l2.length c2) (.slice A3 l3.length c3)) (cvObj (.slice B0 l0.length d0) (.slice B1 l1.length d1) (.slice B2 l2.length d2) (.slice B3 l3.length d3)) wr) (fun i _ => l1.length - (intOf i).toNat)
  case atStart => exact ⟨0, rfl, Nat.zero_le _, HI.out⟩
  case round =>
    clear x1 y1 x2 y2 x3 y3 x4 y4 x5 y5 x6 y6 HI
    obtain ⟨j, rfl, hj, hI⟩ := hrel
    obtain ⟨x1, y1, x2, y2, x3, y3, x4, y4, x5, y5, x6, y6⟩ := HC.out wr hI
    by_cases hlt : j < l1.length
    case pos =>
      have hd : decide ((j : Int) < (l1.length : Int)) = true := decide_eq_true (by omega)
      obtain ⟨aa, Ai, ci, hA, e1, hci, hCi⟩ := at_row (Kd.C_below H1.out.1 hI.low) j hlt
      obtain ⟨ba, Bi, di, hB, e2, hdi, hDi⟩ := at_row (Kd.C_below H1.out.2 hI.low) j hlt
      subst hA hB
      obtain ⟨row, hrow⟩ : ∃ r, r = l1.getD j [] := ⟨_, rfl⟩
      have hrl : row.length ≤ 1048576 := by
        rw [hrow]
        simp only [List.getD, List.getElem?_eq_getElem hlt, Option.getD_some]
        exact N1.out _ (List.getElem_mem hlt)
      rw [← hrow] at e1 e2 hci hdi hCi hDi
      have h00 : (0 : Int) ≤ (j : Int) := by omega
      have h11 : (j : Int) < (l1.length : Int) := by omega
      have HI := Lib.hid hI
      have HCI := Lib.hid (⟨hCi, hDi⟩ : _ ∧ _)
      obtain ⟨W2, rfl⟩ : ∃ W2, W2 = wr := ⟨wr, rfl⟩
      clear hrow hI hCi hDi x2 y2 x3 y3 x4 y4 x5 y5 x6 y6
      go_wp2
      go_quiet (fail)
      go_wp2
      go_loopw [101] (fun i wr => ∃ q m : Nat, i = .int .i64 q ∧ q ≤ row.length ∧ wr = W2.drewN m) (fun i _ => row.length - (intOf i).toNat)
      case atStart => exact ⟨0, _, rfl, Nat.zero_le _, rfl⟩
      case round =>
        obtain ⟨q, m, rfl, hq, rfl⟩ := hrel
        by_cases hql : q < row.length
        case pos =>
          have hd2 : decide ((q : Int) < (row.length : Int)) = true := decide_eq_true (by omega)
          obtain ⟨ra, hra, s1⟩ := Kd.at_string HCI.out.1 (q : Int) (by omega) (by omega)
          obtain ⟨rb, hrb, s2⟩ := Kd.at_string HCI.out.2 (q : Int) (by omega) (by omega)
          subst hra hrb
          simp only [Int.toNat_natCast] at s1 s2
          have h02 : (0 : Int) ≤ (q : Int) := by omega
          have h12 : (q : Int) < (row.length : Int) := by omega
          go_wp2
          go_quiet (fail)
          go_wp2
          go_roundw
          case rel => exact ⟨q + 1, _, by go_num, by omega, rfl⟩
          case measure => simp [intOf] <;> omega
        case neg =>
          obtain rfl : q = row.length := by omega
          have hd2 : decide ((row.length : Int) < (row.length : Int)) = false := decide_eq_false (by omega)
          clear e1 e2 x1 y1
          go_wp2
          go_roundw
          case rel => exact ⟨j + 1, by go_num, by omega, HI.out.drewN _⟩
          case measure => simp [intOf] <;> omega
    case neg =>
      obtain rfl : j = l1.length := by omega
      have hd : decide ((l1.length : Int) < (l1.length : Int)) = false := decide_eq_false (by omega)
      have HI := Lib.hid hI
      obtain ⟨W2, rfl⟩ : ∃ W2, W2 = wr := ⟨wr, rfl⟩
      clear x1 y1 x3 y3 x4 y4 x5 y5 x6 y6 hI
      go_wp2
      go_loopw [126] (fun i wr => ∃ j : Nat, i = .int .i64 j ∧ j ≤ l2.length ∧ EqI w (cvObj (.slice A0 l0.length c0) (.slice A1 l1.length c1) (.slice A2 l2.length c2) (.slice A3 l3.length c3)) (cvObj (.slice B0 l0.length d0) (.slice B1 l1.length d1) (.slice B2 l2.length d2) (.slice B3 l3.length d3)) wr) (fun i _ => l2.length - (intOf i).toNat)
      case atStart => exact ⟨0, rfl, Nat.zero_le _, HI.out⟩
      case round =>
        clear x2 y2 HI hd
        obtain ⟨j, rfl, hj, hI⟩ := hrel
        obtain ⟨x1, y1, x2, y2, x3, y3, x4, y4, x5, y5, x6, y6⟩ := HC.out wr hI
        by_cases hlt : j < l2.length
        case pos =>
          have hd : decide ((j : Int) < (l2.length : Int)) = true := decide_eq_true (by omega)
          obtain ⟨aa, Ai, ci, hA, e0, e1, e2, e3, hci, hCi⟩ := at_T61 H2.out.1 (j : Int) (by omega) (by omega)
          obtain ⟨ba, Bi, di, hB, f0, f1, f2, f3, hdi, hDi⟩ := at_T61 H2.out.2 (j : Int) (by omega) (by omega)
          subst hA hB
          obtain ⟨x, hx⟩ : ∃ r, r = rd_T61 l2 (j : Int) := ⟨_, rfl⟩
          have hxl : x.f3.length ≤ 1048576 := by
            rw [hx]
            unfold rd_T61
            simp only [Int.toNat_natCast, List.getD, List.getElem?_eq_getElem hlt, Option.getD_some]
            exact N2.out _ (List.getElem_mem hlt)
          rw [← hx] at e0 e1 e2 e3 hci hCi f0 f1 f2 f3 hdi hDi
          simp only [Int.toNat_natCast] at e0 e1 e2 e3 f0 f1 f2 f3
          replace e0 := pw_cell_below hI.low e0
          replace e1 := pw_cell_below hI.low e1
          replace e2 := pw_cell_below hI.low e2
          replace e3 := pw_cell_below hI.low e3
          replace f0 := pw_cell_below hI.low f0
          replace f1 := pw_cell_below hI.low f1
          replace f2 := pw_cell_below hI.low f2
          replace f3 := pw_cell_below hI.low f3
          have h00 : (0 : Int) ≤ (j : Int) := by omega
          have h11 : (j : Int) < (l2.length : Int) := by omega
          have HI := Lib.hid hI
          have HCI := Lib.hid (⟨hCi, hDi⟩ : _ ∧ _)
          obtain ⟨W2, rfl⟩ : ∃ W2, W2 = wr := ⟨wr, rfl⟩
          clear hx hI hCi hDi x1 y1 x3 y3 x4 y4 x5 y5 x6 y6
          have k0 := past f0
          have k1 := past f1
          have k2 := past f2
          have k3 := past f3
          have ky := past y2
          go_wp2_with (go_at_call 21; refine (pairsame_b x.f3 hxl hci hdi _ (Kd.C_below HCI.out.1 (HI.out.alloc _ |>.alloc _).low) (Kd.C_below HCI.out.2 (HI.out.alloc _ |>.alloc _).low)).mono ?_; rintro e w3 ⟨rfl, m, rfl⟩)
          go_roundw
          case rel => exact ⟨j + 1, by go_num, by omega, ((HI.out.alloc _).alloc _).drewN _⟩
          case measure => simp [intOf] <;> omega
        case neg =>
          obtain rfl : j = l2.length := by omega
          have hd : decide ((l2.length : Int) < (l2.length : Int)) = false := decide_eq_false (by omega)
          have HI := Lib.hid hI
          obtain ⟨W2, rfl⟩ : ∃ W2, W2 = wr := ⟨wr, rfl⟩
          clear x1 y1 x2 y2 x4 y4 x5 y5 x6 y6 hI
          go_wp2
          go_loopw [167] (fun i wr => ∃ j : Nat, i = .int .i64 j ∧ j ≤ l3.length ∧ EqI w (cvObj (.slice A0 l0.length c0) (.slice A1 l1.length c1) (.slice A2 l2.length c2) (.slice A3 l3.length c3)) (cvObj (.slice B0 l0.length d0) (.slice B1 l1.length d1) (.slice B2 l2.length d2) (.slice B3 l3.length d3)) wr) (fun i _ => l3.length - (intOf i).toNat)
          case atStart => exact ⟨0, rfl, Nat.zero_le _, HI.out⟩
          case round =>
            clear x3 y3 HI hd
            obtain ⟨j, rfl, hj, hI⟩ := hrel
            obtain ⟨x1, y1, x2, y2, x3, y3, x4, y4, x5, y5, x6, y6⟩ := HC.out wr hI
            by_cases hlt : j < l3.length
            case pos =>
              have hd : decide ((j : Int) < (l3.length : Int)) = true := decide_eq_true (by omega)
              obtain ⟨aa, Ai, ci, hA, e0, e1, e2, e3, hci, hCi⟩ := at_T58 H3.out.1 (j : Int) (by omega) (by omega)
              obtain ⟨ba, Bi, di, hB, f0, f1, f2, f3, hdi, hDi⟩ := at_T58 H3.out.2 (j : Int) (by omega) (by omega)
              subst hA hB
              obtain ⟨x, hx⟩ : ∃ r, r = rd_T58 l3 (j : Int) := ⟨_, rfl⟩
              have hxl : x.f3.length ≤ 1048576 := by
                rw [hx]
                unfold rd_T58
                simp only [Int.toNat_natCast, List.getD, List.getElem?_eq_getElem hlt, Option.getD_some]
                exact N3.out _ (List.getElem_mem hlt)
              rw [← hx] at e0 e1 e2 e3 hci hCi f0 f1 f2 f3 hdi hDi
              simp only [Int.toNat_natCast] at e0 e1 e2 e3 f0 f1 f2 f3
              replace e0 := pw_cell_below hI.low e0
              replace e1 := pw_cell_below hI.low e1
              replace e2 := pw_cell_below hI.low e2
              replace e3 := pw_cell_below hI.low e3
              replace f0 := pw_cell_below hI.low f0
              replace f1 := pw_cell_below hI.low f1
              replace f2 := pw_cell_below hI.low f2
              replace f3 := pw_cell_below hI.low f3
              have h00 : (0 : Int) ≤ (j : Int) := by omega
              have h11 : (j : Int) < (l3.length : Int) := by omega
              have HI := Lib.hid hI
              have HCI := Lib.hid (⟨hCi, hDi⟩ : _ ∧ _)
              obtain ⟨W2, rfl⟩ : ∃ W2, W2 = wr := ⟨wr, rfl⟩
              clear hx hI hCi hDi x1 y1 x2 y2 x4 y4 x5 y5 x6 y6
              have k0 := past f0
              have k1 := past f1
              have k2 := past f2
              have k3 := past f3
              have ky := past y3
              go_wp2_with (go_at_call 21; refine (pairsame_b x.f3 hxl hci hdi _ (Kd.C_below HCI.out.1 (HI.out.alloc _ |>.alloc _).low) (Kd.C_below HCI.out.2 (HI.out.alloc _ |>.alloc _).low)).mono ?_; rintro e w3 ⟨rfl, m, rfl⟩)
              go_roundw
              case rel => exact ⟨j + 1, by go_num, by omega, ((HI.out.alloc _).alloc _).drewN _⟩
              case measure => simp [intOf] <;> omega
            case neg =>
              obtain rfl : j = l3.length := by omega
              have hd : decide ((l3.length : Int) < (l3.length : Int)) = false := decide_eq_false (by omega)
              have HI := Lib.hid hI
              obtain ⟨W2, rfl⟩ : ∃ W2, W2 = wr := ⟨wr, rfl⟩
              clear x1 y1 x2 y2 x3 y3 hI
              go_wp2
              go_loopw [208] (fun i wr => i = .int .i64 0 ∧ wr = W2) (fun _ _ => 0)
              case atStart => exact ⟨rfl, rfl⟩
              case round =>
                obtain ⟨rfl, rfl⟩ := hrel
                go_wp2
                go_loopw [226] (fun i w9 => i = .int .i64 0 ∧ w9 = wr) (fun _ _ => 0)
                case atStart => exact ⟨rfl, rfl⟩
                case round =>
                  obtain ⟨rfl, rfl⟩ := hrel
                  go_wp2
                  go_loopw [244] (fun i w9 => i = .int .i64 0 ∧ w9 = wr) (fun _ _ => 0)
                  case atStart => exact ⟨rfl, rfl⟩
                  case round =>
                    obtain ⟨rfl, rfl⟩ := hrel
                    go_wp2
                    go_ret
                    exact ⟨rfl, HI.out.low⟩
end Go.Proofs.YtebajpebongabaaDoor.V
