/- vertical.Parse: the walk. Condition: the attributes read as a row. -/
import Derived.WalkKit
import Derived.WalkLawsBesides
import Derived.WalkSpells
import Derived.Deep.QuietTactic
import Derived.StillTailTactics
import Derived.BigQuiet
import Derived.BigCall
import Derived.IntWalk
import Derived.Lib.Hide
import Derived.Test.YtebajpebongabaaDoorLb
namespace Go.Proofs.YtebajpebongabaaDoor.V
open Go.RowKit Go.Proofs.YtebajpebongabaaDoorW.PrintWords Go.Proofs.YtebajpebongabaaDoorW.PrintMore Go.Proofs.YtebajpebongabaaDoor.P Go.Proofs.YtebajpebongabaaDoor.X
set_option linter.unusedVariables false
set_option linter.unusedSimpArgs false

theorem results_cct {P : Program} {fn : Func} {p p' u : Tmp} {ty ty' : TypeId} (h : fn.results = #[.cell p ty, .cell p' ty', .tmp u]) (tmps : Array Value) (w : World) (g g' : Nat) (t t' : TypeId) (cs cs' : Array Value) (fr fr' : Nat × Nat) (d d' : TypeDesc)
    (hp : tmps.getD p undef = .pointer (some ⟨g, 0, none⟩)) (hg : w.heap[g]? = some (.cells cs t fr))
    (hu : P.underlying ty = some d) (hd : (match d with | .struct _ | .array _ _ => true | _ => false) = true) (hi : (P.info? ty).map (·.size) = some cs.size)
    (hp' : tmps.getD p' undef = .pointer (some ⟨g', 0, none⟩)) (hg' : w.heap[g']? = some (.cells cs' t' fr'))
    (hu' : P.underlying ty' = some d') (hd' : (match d' with | .struct _ | .array _ _ => true | _ => false) = true) (hi' : (P.info? ty').map (·.size) = some cs'.size) :
    (results fn tmps).run P w = .ok (.tuple #[.agg cs, .agg cs', tmps.getD u undef]) w := by
  have h1 : tmps[p]?.getD undef = .pointer (some ⟨g, 0, none⟩) := by simpa using hp
  have h2 : tmps[p']?.getD undef = .pointer (some ⟨g', 0, none⟩) := by simpa using hp'
  simp [results, h, h1, h2, asAddr, run_loadVar_row w g t ty cs fr d hg hu hd hi, run_loadVar_row w g' t' ty' cs' fr' d' hg' hu' hd' hi']

/-- What Parse leaves. -/
def PPost (w : World) (r : PRes) (e : Ending) (w' : World) : Prop :=
  ∃ va vt vx vr : Value, e = .returned (.tuple #[.agg #[va, vt, vx, vr, .slice none 0 0, .slice none 0 0, .slice none 0 0], .agg #[.int .i64 r.line, .int .i64 r.col], .int .i64 r.err]) ∧
    Kd.R k55 55 w' w.heap.size (fun _ => True) va r.att ∧ Kd.R kTok 28 w' w.heap.size (fun _ => True) vt r.toks ∧
    Kd.R k61 61 w' w.heap.size (fun _ => True) vx r.texts ∧ Kd.R k58 58 w' w.heap.size (fun _ => True) vr r.regs ∧ Below w.heap.size w w'
abbrev coObj (va vt vx vr : Value) : Obj := .cells #[va, vt, vx, vr, .slice none 0 0, .slice none 0 0, .slice none 0 0] 30 (0, 0)
abbrev poObj (l c : Int) : Obj := .cells #[.int .i64 l, .int .i64 c] 32 (0, 0)
theorem pfail_post {w w' : World} {p : Int × Int} {e : Int} (hb : Below w.heap.size w w') : PPost w (pfail p e) (.returned (.tuple #[.agg #[.slice none 0 0, .slice none 0 0, .slice none 0 0, .slice none 0 0, .slice none 0 0, .slice none 0 0, .slice none 0 0], .agg #[.int .i64 p.1, .int .i64 p.2], .int .i64 e])) w' :=
  ⟨_, _, _, _, rfl, Kd.R_nil _ _ _ _ _, Kd.R_nil _ _ _ _ _, Kd.R_nil _ _ _ _ _, Kd.R_nil _ _ _ _ _, hb⟩
theorem pos_b (data : ByteArray) (p : Int) (w : World) : Calls Tryd.prog 8 #[.string data, .int .i64 p] w fun e w' => e = .returned (.agg #[.int .i64 (posF data p).1, .int .i64 (posF data p).2]) ∧ Below w.heap.size w w' :=
  codepoint_Position.calls data p _ _ w rfl

theorem bcell {W w1 : World} (hb : Below W.heap.size W w1) : (∀ b o, b < W.heap.size → w1.cell? ⟨b, o, none⟩ = W.cell? ⟨b, o, none⟩) ∧ (∀ b o, b < W.heap.size → w1.frozen? ⟨b, o, none⟩ = W.frozen? ⟨b, o, none⟩) :=
  ⟨fun b o h => hb.cell (p := ⟨b, o, none⟩) h, fun b o h => hb.frozen (p := ⟨b, o, none⟩) h⟩
theorem put7 {w : World} {g t : Nat} {a0 a1 a2 a3 a4 a5 a6 : Value} (h : w.heap[g]? = some (.cells #[a0, a1, a2, a3, a4, a5, a6] t (0, 0))) (b0 b1 b2 b3 b4 b5 b6 : Value) :
    (((((((w.setCell ⟨g, 0, none⟩ b0).setCell ⟨g, 1, none⟩ b1).setCell ⟨g, 2, none⟩ b2).setCell ⟨g, 3, none⟩ b3).setCell ⟨g, 4, none⟩ b4).setCell ⟨g, 5, none⟩ b5).setCell ⟨g, 6, none⟩ b6).heap[g]? = some (.cells #[b0, b1, b2, b3, b4, b5, b6] t (0, 0)) := by
  have h0 : (w.setCell ⟨g, 0, none⟩ b0).heap[g]? = some (.cells #[b0, a1, a2, a3, a4, a5, a6] t (0, 0)) := blk_put h 0 b0 rfl
  have h1 : ((w.setCell ⟨g, 0, none⟩ b0).setCell ⟨g, 1, none⟩ b1).heap[g]? = some (.cells #[b0, b1, a2, a3, a4, a5, a6] t (0, 0)) := blk_put h0 1 b1 rfl
  have h2 : (((w.setCell ⟨g, 0, none⟩ b0).setCell ⟨g, 1, none⟩ b1).setCell ⟨g, 2, none⟩ b2).heap[g]? = some (.cells #[b0, b1, b2, a3, a4, a5, a6] t (0, 0)) := blk_put h1 2 b2 rfl
  have h3 : ((((w.setCell ⟨g, 0, none⟩ b0).setCell ⟨g, 1, none⟩ b1).setCell ⟨g, 2, none⟩ b2).setCell ⟨g, 3, none⟩ b3).heap[g]? = some (.cells #[b0, b1, b2, b3, a4, a5, a6] t (0, 0)) := blk_put h2 3 b3 rfl
  have h4 : (((((w.setCell ⟨g, 0, none⟩ b0).setCell ⟨g, 1, none⟩ b1).setCell ⟨g, 2, none⟩ b2).setCell ⟨g, 3, none⟩ b3).setCell ⟨g, 4, none⟩ b4).heap[g]? = some (.cells #[b0, b1, b2, b3, b4, a5, a6] t (0, 0)) := blk_put h3 4 b4 rfl
  have h5 : ((((((w.setCell ⟨g, 0, none⟩ b0).setCell ⟨g, 1, none⟩ b1).setCell ⟨g, 2, none⟩ b2).setCell ⟨g, 3, none⟩ b3).setCell ⟨g, 4, none⟩ b4).setCell ⟨g, 5, none⟩ b5).heap[g]? = some (.cells #[b0, b1, b2, b3, b4, b5, a6] t (0, 0)) := blk_put h4 5 b5 rfl
  have h6 : (((((((w.setCell ⟨g, 0, none⟩ b0).setCell ⟨g, 1, none⟩ b1).setCell ⟨g, 2, none⟩ b2).setCell ⟨g, 3, none⟩ b3).setCell ⟨g, 4, none⟩ b4).setCell ⟨g, 5, none⟩ b5).setCell ⟨g, 6, none⟩ b6).heap[g]? = some (.cells #[b0, b1, b2, b3, b4, b5, b6] t (0, 0)) := blk_put h5 6 b6 rfl
  exact h6
theorem far7 {w : World} {k g : Nat} {cs : Array Value} {t : TypeId} (h : w.heap[k]? = some (.cells cs t (0, 0))) (hn : ¬ k = g) (b0 b1 b2 b3 b4 b5 b6 : Value) :
    (((((((w.setCell ⟨g, 0, none⟩ b0).setCell ⟨g, 1, none⟩ b1).setCell ⟨g, 2, none⟩ b2).setCell ⟨g, 3, none⟩ b3).setCell ⟨g, 4, none⟩ b4).setCell ⟨g, 5, none⟩ b5).setCell ⟨g, 6, none⟩ b6).heap[k]? = some (.cells cs t (0, 0)) := by
  have h0 := blk_far h (p := ⟨g, 0, none⟩) hn b0
  have h1 := blk_far h0 (p := ⟨g, 1, none⟩) hn b1
  have h2 := blk_far h1 (p := ⟨g, 2, none⟩) hn b2
  have h3 := blk_far h2 (p := ⟨g, 3, none⟩) hn b3
  have h4 := blk_far h3 (p := ⟨g, 4, none⟩) hn b4
  have h5 := blk_far h4 (p := ⟨g, 5, none⟩) hn b5
  have h6 := blk_far h5 (p := ⟨g, 6, none⟩) hn b6
  exact h6
theorem below7 {B : Nat} {w0 w : World} {g : Nat} (h : Below B w0 w) (hg : B ≤ g) (b0 b1 b2 b3 b4 b5 b6 : Value) :
    Below B w0 (((((((w.setCell ⟨g, 0, none⟩ b0).setCell ⟨g, 1, none⟩ b1).setCell ⟨g, 2, none⟩ b2).setCell ⟨g, 3, none⟩ b3).setCell ⟨g, 4, none⟩ b4).setCell ⟨g, 5, none⟩ b5).setCell ⟨g, 6, none⟩ b6) := by
  have h0 := Below.setCell h (p := ⟨g, 0, none⟩) hg b0
  have h1 := Below.setCell h0 (p := ⟨g, 1, none⟩) hg b1
  have h2 := Below.setCell h1 (p := ⟨g, 2, none⟩) hg b2
  have h3 := Below.setCell h2 (p := ⟨g, 3, none⟩) hg b3
  have h4 := Below.setCell h3 (p := ⟨g, 4, none⟩) hg b4
  have h5 := Below.setCell h4 (p := ⟨g, 5, none⟩) hg b5
  have h6 := Below.setCell h5 (p := ⟨g, 6, none⟩) hg b6
  exact h6

theorem cells7 {w : World} {g t : Nat} {a0 a1 a2 a3 a4 a5 a6 : Value} (h : w.heap[g]? = some (.cells #[a0, a1, a2, a3, a4, a5, a6] t (0, 0))) :
    w.cell? ⟨g, 0, none⟩ = some a0 ∧ w.cell? ⟨g, 1, none⟩ = some a1 ∧ w.cell? ⟨g, 2, none⟩ = some a2 ∧ w.cell? ⟨g, 3, none⟩ = some a3 ∧ w.cell? ⟨g, 4, none⟩ = some a4 ∧ w.cell? ⟨g, 5, none⟩ = some a5 ∧ w.cell? ⟨g, 6, none⟩ = some a6 ∧ w.frozen? ⟨g, 0, none⟩ = false ∧ w.frozen? ⟨g, 1, none⟩ = false ∧ w.frozen? ⟨g, 2, none⟩ = false ∧ w.frozen? ⟨g, 3, none⟩ = false ∧ w.frozen? ⟨g, 4, none⟩ = false ∧ w.frozen? ⟨g, 5, none⟩ = false ∧ w.frozen? ⟨g, 6, none⟩ = false :=
  ⟨blk_cell h 0, blk_cell h 1, blk_cell h 2, blk_cell h 3, blk_cell h 4, blk_cell h 5, blk_cell h 6, blk_frozen h 0, blk_frozen h 1, blk_frozen h 2, blk_frozen h 3, blk_frozen h 4, blk_frozen h 5, blk_frozen h 6⟩
theorem cells2 {w : World} {g t : Nat} {a0 a1 : Value} (h : w.heap[g]? = some (.cells #[a0, a1] t (0, 0))) :
    w.cell? ⟨g, 0, none⟩ = some a0 ∧ w.cell? ⟨g, 1, none⟩ = some a1 ∧ w.frozen? ⟨g, 0, none⟩ = false ∧ w.frozen? ⟨g, 1, none⟩ = false :=
  ⟨blk_cell h 0, blk_cell h 1, blk_frozen h 0, blk_frozen h 1⟩

theorem R_sets7 {α : Type} {d : Kd α} {e : Nat} {w : World} {base : Nat} {ok : Nat → Prop} {v : Value} {xs : List α} (h : d.R e w base ok v xs) {g t : Nat} {a0 a1 a2 a3 a4 a5 a6 : Value} (hF : w.heap[g]? = some (.cells #[a0, a1, a2, a3, a4, a5, a6] t (0, 0))) (ht : ∀ q, q ∈ e :: d.E → q ≠ t) (b0 b1 b2 b3 b4 b5 b6 : Value) :
    d.R e (((((((w.setCell ⟨g, 0, none⟩ b0).setCell ⟨g, 1, none⟩ b1).setCell ⟨g, 2, none⟩ b2).setCell ⟨g, 3, none⟩ b3).setCell ⟨g, 4, none⟩ b4).setCell ⟨g, 5, none⟩ b5).setCell ⟨g, 6, none⟩ b6) base ok v xs := by
  have r0 := Kd.R_set h hF ht 0 b0
  have h0 : (w.setCell ⟨g, 0, none⟩ b0).heap[g]? = some (.cells #[b0, a1, a2, a3, a4, a5, a6] t (0, 0)) := blk_put hF 0 b0 rfl
  have r1 := Kd.R_set r0 h0 ht 1 b1
  have h1 : ((w.setCell ⟨g, 0, none⟩ b0).setCell ⟨g, 1, none⟩ b1).heap[g]? = some (.cells #[b0, b1, a2, a3, a4, a5, a6] t (0, 0)) := blk_put h0 1 b1 rfl
  have r2 := Kd.R_set r1 h1 ht 2 b2
  have h2 : (((w.setCell ⟨g, 0, none⟩ b0).setCell ⟨g, 1, none⟩ b1).setCell ⟨g, 2, none⟩ b2).heap[g]? = some (.cells #[b0, b1, b2, a3, a4, a5, a6] t (0, 0)) := blk_put h1 2 b2 rfl
  have r3 := Kd.R_set r2 h2 ht 3 b3
  have h3 : ((((w.setCell ⟨g, 0, none⟩ b0).setCell ⟨g, 1, none⟩ b1).setCell ⟨g, 2, none⟩ b2).setCell ⟨g, 3, none⟩ b3).heap[g]? = some (.cells #[b0, b1, b2, b3, a4, a5, a6] t (0, 0)) := blk_put h2 3 b3 rfl
  have r4 := Kd.R_set r3 h3 ht 4 b4
  have h4 : (((((w.setCell ⟨g, 0, none⟩ b0).setCell ⟨g, 1, none⟩ b1).setCell ⟨g, 2, none⟩ b2).setCell ⟨g, 3, none⟩ b3).setCell ⟨g, 4, none⟩ b4).heap[g]? = some (.cells #[b0, b1, b2, b3, b4, a5, a6] t (0, 0)) := blk_put h3 4 b4 rfl
  have r5 := Kd.R_set r4 h4 ht 5 b5
  have h5 : ((((((w.setCell ⟨g, 0, none⟩ b0).setCell ⟨g, 1, none⟩ b1).setCell ⟨g, 2, none⟩ b2).setCell ⟨g, 3, none⟩ b3).setCell ⟨g, 4, none⟩ b4).setCell ⟨g, 5, none⟩ b5).heap[g]? = some (.cells #[b0, b1, b2, b3, b4, b5, a6] t (0, 0)) := blk_put h4 5 b5 rfl
  have r6 := Kd.R_set r5 h5 ht 6 b6
  have h6 : (((((((w.setCell ⟨g, 0, none⟩ b0).setCell ⟨g, 1, none⟩ b1).setCell ⟨g, 2, none⟩ b2).setCell ⟨g, 3, none⟩ b3).setCell ⟨g, 4, none⟩ b4).setCell ⟨g, 5, none⟩ b5).setCell ⟨g, 6, none⟩ b6).heap[g]? = some (.cells #[b0, b1, b2, b3, b4, b5, b6] t (0, 0)) := blk_put h5 6 b6 rfl
  exact r6
theorem R_sets2 {α : Type} {d : Kd α} {e : Nat} {w : World} {base : Nat} {ok : Nat → Prop} {v : Value} {xs : List α} (h : d.R e w base ok v xs) {g t : Nat} {a0 a1 : Value} (hF : w.heap[g]? = some (.cells #[a0, a1] t (0, 0))) (ht : ∀ q, q ∈ e :: d.E → q ≠ t) (b0 b1 : Value) :
    d.R e ((w.setCell ⟨g, 0, none⟩ b0).setCell ⟨g, 1, none⟩ b1) base ok v xs := by
  have r0 := Kd.R_set h hF ht 0 b0
  have h0 : (w.setCell ⟨g, 0, none⟩ b0).heap[g]? = some (.cells #[b0, a1] t (0, 0)) := blk_put hF 0 b0 rfl
  exact Kd.R_set r0 h0 ht 1 b1

set_option maxHeartbeats 16000000 in
set_option maxRecDepth 100000 in
theorem parse_any (data : ByteArray) (attrs : List S55) (A : Option Addr) (c : Nat) (hc : attrs.length ≤ c) (w : World) (hds : data.size ≤ 140737488351232) (hK : Kd.C k55 w A attrs.length attrs) :
    Calls Tryd.prog 5 #[.string data, .slice A attrs.length c] w (PPost w (parseR data attrs)) := by
  have hu30 := Tryd.underlying30
  have hu32 := Tryd.underlying32
  have HK := Lib.hid hK
  cases hat : attB attrs with
  | false =>
    have hE : parseR data attrs = pfail (0, 0) 1 := by unfold parseR; rw [if_pos hat]
    rw [hE]
    have HAT := Lib.hid hat
    clear hat hE hK
    go_enter Tryd.func5, Tryd.ntmps5
    go_wp2_with (go_at_call 10; refine (checkAttributes_b attrs A c hc _ (Kd.C_below HK.out (below_alloc (below_alloc (Below.refl _ _) _) _))).mono ?_; rw [HAT.out]; rintro e w1 ⟨rfl, hb1⟩; have hF := blk_below (blk_alloc (blk_new w (coObj (.slice none 0 0) (.slice none 0 0) (.slice none 0 0) (.slice none 0 0))) (poObj 0 0)) hb1; have hQ := blk_below (blk_new (w.alloc (coObj (.slice none 0 0) (.slice none 0 0) (.slice none 0 0) (.slice none 0 0))) (poObj 0 0)) hb1; rw [show (w.alloc (coObj (.slice none 0 0) (.slice none 0 0) (.slice none 0 0) (.slice none 0 0))).heap.size = w.heap.size + 1 by simp] at hQ; obtain ⟨hc1, hf1⟩ := bcell hb1; have HF := Lib.hid hF; have HQ := Lib.hid hQ; have HB1 := Lib.hid hb1; clear hF hQ hb1)
    have hn1 : ¬ w.heap.size = w.heap.size + 1 := by omega
    have hn2 : ¬ w.heap.size + 1 = w.heap.size := by omega
    refine bodyPost_ret (results_cct rfl _ _ w.heap.size (w.heap.size + 1) 30 32 _ _ (0, 0) (0, 0) _ _ rfl (blk_far (blk_far (put7 HF.out (.slice none 0 0) (.slice none 0 0) (.slice none 0 0) (.slice none 0 0) (.slice none 0 0) (.slice none 0 0) (.slice none 0 0)) hn1 _) hn1 _) hu30 rfl (by kernel_rfl) rfl (blk_put (blk_put (far7 HQ.out hn2 _ _ _ _ _ _ _) 0 _ rfl) 1 _ rfl) hu32 rfl (by kernel_rfl)) rfl ?_
    exact pfail_post (((below7 ((below_alloc (below_alloc (Below.refl _ _) _) _).trans (HB1.out.mono (by simp; omega))) (Nat.le_refl _) _ _ _ _ _ _ _).setCell (show w.heap.size ≤ w.heap.size + 1 by omega) _).setCell (show w.heap.size ≤ w.heap.size + 1 by omega) _)
  | true =>
    have hn1 : ¬ w.heap.size = w.heap.size + 1 := by omega
    have hn2 : ¬ w.heap.size + 1 = w.heap.size := by omega
    have HAT := Lib.hid hat
    by_cases hlim : 1048576 < data.size
    · have hE : parseR data attrs = pfail (0, 0) 2 := by unfold parseR; rw [if_neg (by rw [hat]; decide), if_pos hlim]
      rw [hE]
      have hd : decide ((1048576 : Int) < (data.size : Int)) = true := decide_eq_true (by omega)
      clear hat hE hK hlim
      go_enter Tryd.func5, Tryd.ntmps5
      go_wp2_with (go_at_call 10; refine (checkAttributes_b attrs A c hc _ (Kd.C_below HK.out (below_alloc (below_alloc (Below.refl _ _) _) _))).mono ?_; rw [HAT.out]; rintro e w1 ⟨rfl, hb1⟩; have hF := blk_below (blk_alloc (blk_new w (coObj (.slice none 0 0) (.slice none 0 0) (.slice none 0 0) (.slice none 0 0))) (poObj 0 0)) hb1; have hQ := blk_below (blk_new (w.alloc (coObj (.slice none 0 0) (.slice none 0 0) (.slice none 0 0) (.slice none 0 0))) (poObj 0 0)) hb1; rw [show (w.alloc (coObj (.slice none 0 0) (.slice none 0 0) (.slice none 0 0) (.slice none 0 0))).heap.size = w.heap.size + 1 by simp] at hQ; obtain ⟨hc1, hf1⟩ := bcell hb1; have HF := Lib.hid hF; have HQ := Lib.hid hQ; have HB1 : Hid (Below w.heap.size w w1) := (below_alloc (below_alloc (Below.refl _ _) _) _).trans (hb1.mono (by simp; omega)); clear hF hQ hb1)
      refine bodyPost_ret (results_cct rfl _ _ w.heap.size (w.heap.size + 1) 30 32 _ _ (0, 0) (0, 0) _ _ rfl (blk_far (blk_far (put7 HF.out (.slice none 0 0) (.slice none 0 0) (.slice none 0 0) (.slice none 0 0) (.slice none 0 0) (.slice none 0 0) (.slice none 0 0)) hn1 _) hn1 _) hu30 rfl (by kernel_rfl) rfl (blk_put (blk_put (far7 HQ.out hn2 _ _ _ _ _ _ _) 0 _ rfl) 1 _ rfl) hu32 rfl (by kernel_rfl)) rfl ?_
      exact pfail_post (((below7 HB1.out (Nat.le_refl _) _ _ _ _ _ _ _).setCell (show w.heap.size ≤ w.heap.size + 1 by omega) _).setCell (show w.heap.size ≤ w.heap.size + 1 by omega) _)
    · have hd : decide ((1048576 : Int) < (data.size : Int)) = false := decide_eq_false (by omega)
      have hE : parseR data attrs = endR data (readL data data.size 0 (st0 attrs)) := by unfold parseR; rw [if_neg (by rw [hat]; decide), if_neg hlim]
      have hds2 : data.size ≤ 1048576 := by omega
      have hal : attrs.length ≤ 8 := by
        have h := hat
        unfold attB attR at h
        by_cases h1 : attrs.length = 0
        · omega
        · rw [if_neg h1] at h
          by_cases h2 : 8 < attrs.length
          · rw [if_pos h2] at h
            exact absurd h (by decide)
          · omega
      obtain ⟨R, hR0⟩ : ∃ R, R = readL data data.size 0 (st0 attrs) := ⟨_, rfl⟩
      rw [← hR0] at hE
      have HAL : Hid ((([] : List S55).length + attrs.length) * 24 ≤ 140737488355328) := by
        show (([] : List S55).length + attrs.length) * 24 ≤ 140737488355328
        rw [List.length_nil]
        omega
      have HR0 := Lib.hid hR0
      have HE := Lib.hid hE
      clear hat hE hK hlim hR0
      go_enter Tryd.func5, Tryd.ntmps5
      go_wp2_with (first | ((with_reducible refine gate_builtin (b := .append) (xs := #[.const (.slice none 0 0), .tmp 23]) rfl ?_); at_builtin; refine Kd.R_append_rows k55 (w0 := w) w.heap.size rfl (.const (.slice none 0 0)) (.tmp 23) 22 55 (.agg #[(.string ⟨#[]⟩), (.bool false)]) 24 rfl Tryd.underlying22 info55 rfl (by decide) (by omega) (.slice none 0 0) ([] : List S55) attrs _ _ _ (fun _ => True) (fun _ => False) rfl rfl ?aO ?aR (fun _ _ h => h) (fun _ h => h.elim) ?aF ?aB ?aS ?aL ?_; (case aR => exact Kd.C_below HK.out HB1.out); (case aB => exact HB1.out); (case aF => exact (fun _ _ => trivial)); (case aO => exact (Kd.R_nil _ _ _ _ _)); (case aS => exact HB1.out.size); (case aL => exact HAL.out); intro v1 w2 hR2 hb2 hg2 hat2; obtain ⟨Aa, ca, rfl⟩ := Kd.R_slice hR2; rw [List.nil_append] at hR2; have hF2 := blk_grown HF.out hg2 (by simp [Value.ownBlock]); have hQ2 := blk_grown HQ.out hg2 (by simp [Value.ownBlock]); have HF2 := Lib.hid hF2; have HQ2 := Lib.hid hQ2; have HR2 := Lib.hid hR2; have HB2 := Lib.hid hb2; clear hc1 hf1 hF2 hQ2 hR2 hb2 hg2 hat2) | (go_at_call 10; refine (checkAttributes_b attrs A c hc _ (Kd.C_below HK.out (below_alloc (below_alloc (Below.refl _ _) _) _))).mono ?_; rw [HAT.out]; rintro e w1 ⟨rfl, hb1⟩; have hF := blk_below (blk_alloc (blk_new w (coObj (.slice none 0 0) (.slice none 0 0) (.slice none 0 0) (.slice none 0 0))) (poObj 0 0)) hb1; have hQ := blk_below (blk_new (w.alloc (coObj (.slice none 0 0) (.slice none 0 0) (.slice none 0 0) (.slice none 0 0))) (poObj 0 0)) hb1; rw [show (w.alloc (coObj (.slice none 0 0) (.slice none 0 0) (.slice none 0 0) (.slice none 0 0))).heap.size = w.heap.size + 1 by simp] at hQ; obtain ⟨hc1, hf1⟩ := bcell hb1; have HF := Lib.hid hF; have HQ := Lib.hid hQ; have HB1 : Hid (Below w.heap.size w w1) := (below_alloc (below_alloc (Below.refl _ _) _) _).trans (hb1.mono (by simp; omega)); clear hF hQ hb1))
      go_loopw [8] (fun v wr => ∃ (p b : Nat) (s : St), v = .int .i64 p ∧ p ≤ data.size + 1 ∧ data.size ≤ p + b ∧ wr.heap[w.heap.size]? = some (coObj (.slice none 0 0) (.slice none 0 0) (.slice none 0 0) (.slice none 0 0)) ∧ wr.heap[w.heap.size + 1]? = some (poObj 0 0) ∧ Below w.heap.size w wr ∧ RS wr w.heap.size w2.heap.size s ∧ Inn s ∧ R = readL data b p s) (fun v _ => data.size + 1 - (intOf v).toNat)
      case atStart =>
        refine ⟨0, data.size, st0 attrs, rfl, Nat.zero_le _, by omega, blk_alloc HF2.out _, blk_alloc HQ2.out _, below_alloc HB2.out _, ⟨⟨by show attrs.length ≤ 16; omega, Nat.zero_le _, Nat.zero_le _, Nat.zero_le _, fun h => by cases h⟩, _, _, _, _, _, ⟨blk_new w2 _, HB2.out.size, Kd.R_alloc HR2.out _, Kd.R_nil _ _ _ _ _, Kd.R_nil _ _ _ _ _, Kd.R_nil _ _ _ _ _, Kd.R_nil _ _ _ _ _, fun k hk => by simp [Value.ownBlock] at hk⟩⟩, inn_st0 attrs, HR0.out⟩
      case round =>
        obtain ⟨p, b, s, rfl, hp, hpb, hF, hQ, hb, hRS, hin, hR⟩ := hrel
        have HF := Lib.hid hF
        have HQ := Lib.hid hQ
        have HB := Lib.hid hb
        have HRS := Lib.hid hRS
        have HIN := Lib.hid hin
        clear hF hQ hb hRS hin
        by_cases hlt : p < data.size
        case pos =>
          have hd : decide ((p : Int) < (data.size : Int)) = true := decide_eq_true (by omega)
          have hd' : decide (p < data.size) = true := decide_eq_true hlt
          obtain ⟨ln, hln⟩ : ∃ l, l = lineAt data p := ⟨_, rfl⟩
          have HLN : Hid ((data.extract p data.size).extract 0 (lineN (data.extract p data.size)) = ln) := hln.symm
          have hls := lineAt_size data p (by omega)
          rw [← hln] at hls
          obtain ⟨b, rfl⟩ : ∃ b', b = b' + 1 := ⟨b - 1, by omega⟩
          unfold readL at hR
          rw [if_pos hlt, ← hln] at hR
          obtain ⟨r, hr⟩ : ∃ r, r = lineR s ln := ⟨_, rfl⟩
          have hrp := line_pos s ln
          rw [← hr] at hR hrp
          have HRL := Lib.hid hr
          have h0 : (0 : Int) ≤ (p : Int) := by omega
          have h1 : (p : Int) ≤ (data.size : Int) := by omega
          clear hln hr
          by_cases hc0 : r.1.2 = 0
          case pos =>
            have hcb : (r.1.2 != 0) = false := by rw [hc0]; rfl
            rw [if_pos hc0] at hR
            have HRR := Lib.hid hR
            have HC0 := Lib.hid hc0
            clear hR hc0 hrp
            go_wp2_with (first | (go_at_call 12; refine (line_r (wr.drewN m) w.heap.size w2.heap.size s ln (Nat.le_trans HB.out.size (Nat.le_refl _)) (by omega) (RS.below HRS.out (pw_below_drewN (Below.refl _ _) _))).mono ?_; rw [← HRL.out]; rintro e w4 ⟨rfl, hfr, hrs⟩; have hF4 := hfr.blk (blk_drewN HF.out _) (by decide); have hQ4 := hfr.blk (blk_drewN HQ.out _) (by decide); have hb4 : Below w.heap.size w w4 := (pw_below_drewN HB.out _).trans hfr.low; have HF4 := Lib.hid hF4; have HQ4 := Lib.hid hQ4; have HB4 := Lib.hid hb4; have HRS4 := Lib.hid hrs; clear hF4 hQ4 hb4 hfr hrs) | (go_at_call 11; refine (cut_q _ (by rw [ByteArray.size_extract]; omega) _).mono ?_; rintro e w3 ⟨a', b', rfl, m, rfl⟩; rw [HLN.out]))
            go_roundw
            case rel =>
              refine ⟨p + (ln.size + 1), b, r.2, rfl, by omega, by omega, blk_alloc HF4.out _, blk_alloc HQ4.out _, below_alloc HB4.out _, RS.below (HRS4.out HC0.out) (below_alloc (Below.refl _ _) _), ?_, HRR.out⟩
              have := line_inn s ln HIN.out HRS.out.1.toks
              rw [← HRL.out] at this
              exact this
            case measure => simp [intOf] <;> omega
          case neg =>
            have hcb : (r.1.2 != 0) = true := bne_iff_ne.2 hc0
            rw [if_neg hc0] at hR
            have hE2 : parseR data attrs = pfail (posF data ((p : Int) + r.1.1)) r.1.2 := by rw [HE.out, hR]; rfl
            have hw1 : IntKind.i64.wrap ((p : Int) + r.1.1) = (p : Int) + r.1.1 := IntWalk.i64_in _ (by omega)
            have HE2 := Lib.hid hE2
            clear hR hc0 hE2
            go_wp2_with (first | (go_at_call 12; refine (line_r (wr.drewN m) w.heap.size w2.heap.size s ln (Nat.le_trans HB.out.size (Nat.le_refl _)) (by omega) (RS.below HRS.out (pw_below_drewN (Below.refl _ _) _))).mono ?_; rw [← HRL.out]; rintro e w4 ⟨rfl, hfr, hrs⟩; have hF4 := hfr.blk (blk_drewN HF.out _) (by decide); have hQ4 := hfr.blk (blk_drewN HQ.out _) (by decide); have hb4 : Below w.heap.size w w4 := (pw_below_drewN HB.out _).trans hfr.low; have HF4 := Lib.hid hF4; have HQ4 := Lib.hid hQ4; have HB4 := Lib.hid hb4; have HRS4 := Lib.hid hrs; clear hF4 hQ4 hb4 hfr hrs) | (go_at_call 11; refine (cut_q _ (by rw [ByteArray.size_extract]; omega) _).mono ?_; rintro e w3 ⟨a', b', rfl, m, rfl⟩; rw [HLN.out]))
            generalize hW5 : w4.alloc _ = W5
            have hF5 : W5.heap[w.heap.size]? = some (coObj (.slice none 0 0) (.slice none 0 0) (.slice none 0 0) (.slice none 0 0)) := by rw [← hW5]; exact blk_alloc HF4.out _
            have hQ5 : W5.heap[w.heap.size + 1]? = some (poObj 0 0) := by rw [← hW5]; exact blk_alloc HQ4.out _
            have hb5 : Below w.heap.size w W5 := by rw [← hW5]; exact below_alloc HB4.out _
            have hX5 : W5.heap[w4.heap.size]? = some (.cells #[.int .i64 r.1.1, .int .i64 r.1.2] 48 (0, 0)) := by rw [← hW5]; exact blk_new w4 _
            have k0 : W5.cell? ⟨w4.heap.size, 0, none⟩ = some (.int .i64 r.1.1) := blk_cell hX5 0
            have k1 : W5.cell? ⟨w4.heap.size, 1, none⟩ = some (.int .i64 r.1.2) := blk_cell hX5 1
            have HF5 := Lib.hid hF5
            have HQ5 := Lib.hid hQ5
            have HB5 := Lib.hid hb5
            have HX5 := Lib.hid hX5
            clear hW5 hF5 hQ5 hb5 hX5
            have e1 : ¬ w4.heap.size = w.heap.size := by have := blk_lt HF4.out; omega
            have e2 : ¬ w4.heap.size = w.heap.size + 1 := by have := blk_lt HQ4.out; omega
            have e3 : ¬ w.heap.size = w4.heap.size := fun h => e1 h.symm
            have e4 : ¬ w.heap.size + 1 = w4.heap.size := fun h => e2 h.symm
            refine wp_region_held_drew (S := (fun w' => w'.cell? ⟨w4.heap.size, 0, none⟩ = some (.int .i64 r.1.1) ∧ w'.cell? ⟨w4.heap.size, 1, none⟩ = some (.int .i64 r.1.2))) (by kernel_rfl) ?hSk226 (fun hHeld => ?restk226)
            case hSk226 => exact ⟨k0, k1⟩
            case' restk226 => skip
            refine wpAnyH_take (i := 0) (v := ?vk229) rfl (by kernel_rfl) (by kernel_rfl) (by kernel_rfl) (fun _ _ _ h => h) (Or.inl ⟨by rfl, ?hyk229⟩) (by assumption) ?restk229
            case hyk229 => ((intro w hSw; (try dsimp only at hSw); go_simp); try (with_reducible rfl))
            case' restk229 => try simp only [Act.put, List.setIfInBounds_toArray, List.set_cons_zero, List.set_cons_succ]
            refine wpAnyH_take (i := 1) (v := ?vk232) rfl (by kernel_rfl) (by kernel_rfl) (by kernel_rfl) (fun _ _ _ h => h) (Or.inl ⟨by rfl, ?hyk232⟩) (by assumption) ?restk232
            case hyk232 => ((intro w hSw; (try dsimp only at hSw); go_simp); try (with_reducible rfl))
            case' restk232 => try simp only [Act.put, List.setIfInBounds_toArray, List.set_cons_zero, List.set_cons_succ]
            refine wpAnyH_take (i := 2) (v := ?vk235) rfl (by kernel_rfl) (by kernel_rfl) (by kernel_rfl) (fun _ _ _ h => h) (Or.inl ⟨by rfl, ?hyk235⟩) (by assumption) ?restk235
            case hyk235 => ((intro w hSw; (try dsimp only at hSw); go_simp); try (with_reducible rfl))
            case' restk235 => try simp only [Act.put, List.setIfInBounds_toArray, List.set_cons_zero, List.set_cons_succ]
            refine wpAnyH_take (i := 3) (v := ?vk238) rfl (by kernel_rfl) (by kernel_rfl) (by kernel_rfl) (fun _ _ _ h => h) (Or.inl ⟨by rfl, ?hyk238⟩) (by assumption) ?restk238
            case hyk238 => ((intro w hSw; (try dsimp only at hSw); go_simp); try (with_reducible rfl))
            case' restk238 => try simp only [Act.put, List.setIfInBounds_toArray, List.set_cons_zero, List.set_cons_succ]
            refine wpAnyH_take (i := 4) (v := ?vk241) rfl (by kernel_rfl) (by kernel_rfl) (by kernel_rfl) (fun _ _ _ h => h) (Or.inl ⟨by rfl, ?hyk241⟩) (by assumption) ?restk241
            case hyk241 => ((intro w hSw; (try dsimp only at hSw); go_simp); try (with_reducible rfl))
            case' restk241 => try simp only [Act.put, List.setIfInBounds_toArray, List.set_cons_zero, List.set_cons_succ]
            refine wpAnyH_take (i := 5) (v := ?vk244) rfl (by kernel_rfl) (by kernel_rfl) (by kernel_rfl) (fun _ _ _ h => h) (Or.inl ⟨by rfl, ?hyk244⟩) (by assumption) ?restk244
            case hyk244 => ((intro w hSw; (try dsimp only at hSw); go_simp); try (with_reducible rfl))
            case' restk244 => try simp only [Act.put, List.setIfInBounds_toArray, List.set_cons_zero, List.set_cons_succ]
            refine wpAnyH_take (i := 7) (v := ?vk247) rfl (by kernel_rfl) (by kernel_rfl) (by kernel_rfl) (fun _ _ _ h => h) (Or.inl ⟨by rfl, ?hyk247⟩) (by assumption) ?restk247
            case hyk247 => ((intro w hSw; (try dsimp only at hSw); go_simp); try (with_reducible rfl))
            case' restk247 => try simp only [Act.put, List.setIfInBounds_toArray, List.set_cons_zero, List.set_cons_succ]
            refine wpAnyH_take (i := 8) (v := ?vk250) rfl (by kernel_rfl) (by kernel_rfl) (by kernel_rfl) (fun _ _ _ h => h) (Or.inl ⟨by rfl, ?hyk250⟩) (by assumption) ?restk250
            case hyk250 => ((intro w hSw; (try dsimp only at hSw); go_simp); try (with_reducible rfl))
            case' restk250 => try simp only [Act.put, List.setIfInBounds_toArray, List.set_cons_zero, List.set_cons_succ]
            refine wpAnyH_ready (rs := [6]) (by kernel_rfl) (by simp) ?_
            refine AllReadyH.cons rfl (fun K hK => ?_) AllReadyH.nil
            ((go_simp; go_at_call 8; refine (pos_b data _ _).mono ?_; rintro e w6 ⟨rfl, hb6⟩; have k0' : w6.cell? ⟨w4.heap.size, 0, none⟩ = some (.int .i64 r.1.1) := pw_cell_below hb6 k0; have k1' : w6.cell? ⟨w4.heap.size, 1, none⟩ = some (.int .i64 r.1.2) := pw_cell_below hb6 k1; have hF6 := blk_below (blk_drew HF5.out) hb6; have hQ6 := blk_below (blk_drew HQ5.out) hb6; have hbw : Below w.heap.size w w6 := (below_drew HB5.out).trans (hb6.mono HB5.out.size); obtain ⟨m0, m1, m2, m3, m4, m5, m6, n0, n1, n2, n3, n4, n5, n6⟩ := cells7 hF6; obtain ⟨o0, o1, q0, q1⟩ := cells2 hQ6; clear k0 k1; have hX6 := blk_below (blk_drew HX5.out) hb6; have HX6 := Lib.hid hX6; clear hX6; have HF6 := Lib.hid hF6; have HQ6 := Lib.hid hQ6; have HBW := Lib.hid hbw; clear hF6 hQ6 hb6 hbw))
            refine hK.out _ _ ?hSk253 (fun hHeld => ?restk253)
            case hSk253 => ((try dsimp only); exact ⟨k0', k1'⟩)
            case' restk253 => skip
            clear hK K
            try simp only [Act.put, List.setIfInBounds_toArray, List.set_cons_zero, List.set_cons_succ]
            refine wpAnyH_ready (rs := [9]) (by kernel_rfl) (by simp) ?_
            refine AllReadyH.cons rfl (fun K hK => ?_) AllReadyH.nil
            go_simp
            refine hK.out _ _ ?hSk261 (fun hHeld => ?restk261)
            case hSk261 => ((try dsimp only); exact ⟨blk_cell (far7 HX6.out e1 _ _ _ _ _ _ _) 0, blk_cell (far7 HX6.out e1 _ _ _ _ _ _ _) 1⟩)
            case' restk261 => skip
            clear hK K
            try simp only [Act.put, List.setIfInBounds_toArray, List.set_cons_zero, List.set_cons_succ]
            refine wpAnyH_ready (rs := [10]) (by kernel_rfl) (by simp) ?_
            refine AllReadyH.cons rfl (fun K hK => ?_) AllReadyH.nil
            go_simp
            refine hK.out _ _ ?hSk269 (fun hHeld => ?restk269)
            case hSk269 => ((try dsimp only); exact ⟨blk_cell (blk_far (blk_far (far7 HX6.out e1 _ _ _ _ _ _ _) e2 _) e2 _) 0, blk_cell (blk_far (blk_far (far7 HX6.out e1 _ _ _ _ _ _ _) e2 _) e2 _) 1⟩)
            case' restk269 => skip
            clear hK K
            try simp only [Act.put, List.setIfInBounds_toArray, List.set_cons_zero, List.set_cons_succ]
            refine wpAnyH_ready (rs := [11]) (by kernel_rfl) (by simp) ?_
            refine AllReadyH.cons rfl (fun K hK => ?_) AllReadyH.nil
            go_simp
            refine hK.out _ _ ?hSk277 (fun hHeld => ?restk277)
            case hSk277 => ((try dsimp only); exact ⟨blk_cell (blk_far (blk_far (far7 HX6.out e1 _ _ _ _ _ _ _) e2 _) e2 _) 0, blk_cell (blk_far (blk_far (far7 HX6.out e1 _ _ _ _ _ _ _) e2 _) e2 _) 1⟩)
            case' restk277 => skip
            clear hK K
            try simp only [Act.put, List.setIfInBounds_toArray, List.set_cons_zero, List.set_cons_succ]
            refine wpAnyH_done (by kernel_rfl) ?_ _
            go_wp2
            refine bodyPost_ret (results_cct rfl _ _ w.heap.size (w.heap.size + 1) 30 32 _ _ (0, 0) (0, 0) _ _ rfl (blk_far (blk_far (put7 HF6.out (.slice none 0 0) (.slice none 0 0) (.slice none 0 0) (.slice none 0 0) (.slice none 0 0) (.slice none 0 0) (.slice none 0 0)) hn1 _) hn1 _) hu30 rfl (by kernel_rfl) rfl (blk_put (blk_put (far7 HQ6.out hn2 _ _ _ _ _ _ _) 0 _ rfl) 1 _ rfl) hu32 rfl (by kernel_rfl)) rfl ?_
            rw [HE2.out]
            exact pfail_post (((below7 HBW.out (Nat.le_refl _) _ _ _ _ _ _ _).setCell (show w.heap.size ≤ w.heap.size + 1 by omega) _).setCell (show w.heap.size ≤ w.heap.size + 1 by omega) _)
        case neg =>
          have hd : decide ((p : Int) < (data.size : Int)) = false := decide_eq_false (by omega)
          have hd' : decide (p < data.size) = false := decide_eq_false hlt
          rw [readL_end data b p s hlt] at hR
          obtain ⟨m0, m1, m2, m3, m4, m5, m6, n0, n1, n2, n3, n4, n5, n6⟩ := cells7 HF.out
          obtain ⟨o0, o1, q0, q1⟩ := cells2 HQ.out
          cases htx : s.text with
          | true =>
            have hE2 : parseR data attrs = pfail (posF data data.size) 10 := by rw [HE.out, hR]; show (if s.text = true then _ else _) = _; rw [if_pos htx]
            have HE2 := Lib.hid hE2
            have x8 : wr.cell? ⟨w2.heap.size, 8, none⟩ = some (.bool true) := by
              obtain ⟨_, va, vt, vx, vr, vo, hP⟩ := HRS.out
              rw [← htx]
              exact blk_cell hP.blk 8
            clear hR hE2 htx m0 m1 m2 m3 m4 m5 m6 n0 n1 n2 n3 n4 n5 n6 o0 o1 q0 q1
            go_wp2_with (go_at_call 8; refine (pos_b data _ _).mono ?_; rintro e w6 ⟨rfl, hb6⟩; have hF6 := blk_below HF.out hb6; have hQ6 := blk_below HQ.out hb6; have hbw : Below w.heap.size w w6 := HB.out.trans (hb6.mono HB.out.size); obtain ⟨m0, m1, m2, m3, m4, m5, m6, n0, n1, n2, n3, n4, n5, n6⟩ := cells7 hF6; obtain ⟨o0, o1, q0, q1⟩ := cells2 hQ6; have HF6 := Lib.hid hF6; have HQ6 := Lib.hid hQ6; have HBW := Lib.hid hbw; clear hF6 hQ6 hb6 hbw)
            refine bodyPost_ret (results_cct rfl _ _ w.heap.size (w.heap.size + 1) 30 32 _ _ (0, 0) (0, 0) _ _ rfl (blk_far (blk_far (put7 HF6.out (.slice none 0 0) (.slice none 0 0) (.slice none 0 0) (.slice none 0 0) (.slice none 0 0) (.slice none 0 0) (.slice none 0 0)) hn1 _) hn1 _) hu30 rfl (by kernel_rfl) rfl (blk_put (blk_put (far7 HQ6.out hn2 _ _ _ _ _ _ _) 0 _ rfl) 1 _ rfl) hu32 rfl (by kernel_rfl)) rfl ?_
            rw [HE2.out]
            exact pfail_post (((below7 HBW.out (Nat.le_refl _) _ _ _ _ _ _ _).setCell (show w.heap.size ≤ w.heap.size + 1 by omega) _).setCell (show w.heap.size ≤ w.heap.size + 1 by omega) _)
          | false =>
            have hE2 : parseR data attrs = ⟨s.att, s.toks, s.texts, sortR s.regs, 0, 0, 0⟩ := by rw [HE.out, hR]; show (if s.text = true then _ else _) = _; rw [if_neg (by rw [htx]; decide)]
            have HE2 := Lib.hid hE2
            obtain ⟨hk, va, vt, vx, vr, vo, hP⟩ := HRS.out
            obtain ⟨Ab, cb, rfl⟩ := Kd.R_slice hP.ra
            obtain ⟨At, ct, rfl⟩ := Kd.R_slice hP.rt
            obtain ⟨Ax, cx, rfl⟩ := Kd.R_slice hP.rx
            obtain ⟨Ar, cr, rfl, hcr, hCr⟩ := Kd.R_reads hP.rr
            obtain ⟨Ao, co, rfl⟩ := Kd.R_slice hP.ro
            have x8 : wr.cell? ⟨w2.heap.size, 8, none⟩ = some (.bool false) := by
              rw [← htx]
              exact blk_cell hP.blk 8
            have x3 : wr.cell? ⟨w2.heap.size, 3, none⟩ = some (.slice Ar s.regs.length cr) := blk_cell hP.blk 3
            have hgl := hk.regs
            have hg1 : ¬ w2.heap.size = w.heap.size := by have := hP.lt; exact blk_ne hP.blk HF.out (by decide)
            have hg2 : ¬ w2.heap.size = w.heap.size + 1 := blk_ne hP.blk HQ.out (by decide)
            have hg3 : ¬ w.heap.size = w2.heap.size := fun h => hg1 h.symm
            have hg4 : ¬ w.heap.size + 1 = w2.heap.size := fun h => hg2 h.symm
            have HP := Lib.hid hP
            have HCR := Lib.hid hCr
            clear hR hE2 htx m0 m1 m2 m3 m4 m5 m6 n0 n1 n2 n3 n4 n5 n6 o0 o1 q0 q1 hP hCr hk
            go_wp2_with (go_at_call 13; refine (sortRegions_any s.regs (by omega) (inn_ok HIN.out) Ar cr hcr _ HCR.out).mono ?_; rintro e w6 ⟨v, rfl, hRv, hb6⟩; obtain ⟨Av, cv, rfl⟩ := Kd.R_slice hRv; have hF6 := blk_below HF.out hb6; have hQ6 := blk_below HQ.out hb6; have hP6 := HP.out.below hb6; have hbw : Below w.heap.size w w6 := HB.out.trans (hb6.mono HB.out.size); obtain ⟨m0, m1, m2, m3, m4, m5, m6, n0, n1, n2, n3, n4, n5, n6⟩ := cells7 hF6; obtain ⟨o0, o1, q0, q1⟩ := cells2 hQ6; have g0 : w6.cell? ⟨w2.heap.size, 0, none⟩ = some (.slice Ab s.att.length cb) := blk_cell hP6.blk 0; have g1 : w6.cell? ⟨w2.heap.size, 1, none⟩ = some (.slice At s.toks.length ct) := blk_cell hP6.blk 1; have g2 : w6.cell? ⟨w2.heap.size, 2, none⟩ = some (.slice Ax s.texts.length cx) := blk_cell hP6.blk 2; have g3 : w6.cell? ⟨w2.heap.size, 3, none⟩ = some (.slice Ar s.regs.length cr) := blk_cell hP6.blk 3; have g4 : w6.cell? ⟨w2.heap.size, 4, none⟩ = some (.slice none 0 0) := blk_cell hP6.blk 4; have g5 : w6.cell? ⟨w2.heap.size, 5, none⟩ = some (.slice none 0 0) := blk_cell hP6.blk 5; have g6 : w6.cell? ⟨w2.heap.size, 6, none⟩ = some (.slice none 0 0) := blk_cell hP6.blk 6; have fg3 := blk_frozen hP6.blk 3; have HF6 := Lib.hid hF6; have HQ6 := Lib.hid hQ6; have HBW := Lib.hid hbw; have HP6 := Lib.hid hP6; have HRV := Lib.hid hRv; have HB6 := Lib.hid hb6; clear hF6 hQ6 hb6 hbw hP6 hRv)
            have hF7 := blk_far HF6.out (p := ⟨w2.heap.size, 3, none⟩) hg3 (.slice Av (sortR s.regs).length cv)
            have hQ7 := blk_far HQ6.out (p := ⟨w2.heap.size, 3, none⟩) hg4 (.slice Av (sortR s.regs).length cv)
            have hF8 := put7 hF7 (.slice Ab s.att.length cb) (.slice At s.toks.length ct) (.slice Ax s.texts.length cx) (.slice Av (sortR s.regs).length cv) (.slice none 0 0) (.slice none 0 0) (.slice none 0 0)
            have hQ8 := far7 hQ7 hn2 (.slice Ab s.att.length cb) (.slice At s.toks.length ct) (.slice Ax s.texts.length cx) (.slice Av (sortR s.regs).length cv) (.slice none 0 0) (.slice none 0 0) (.slice none 0 0)
            have ra := R_sets2 (R_sets7 (Kd.R_set HP6.out.ra HP6.out.blk (by decide) 3 (.slice Av (sortR s.regs).length cv)) hF7 (by decide) (.slice Ab s.att.length cb) (.slice At s.toks.length ct) (.slice Ax s.texts.length cx) (.slice Av (sortR s.regs).length cv) (.slice none 0 0) (.slice none 0 0) (.slice none 0 0)) hQ8 (by decide) (.int .i64 0) (.int .i64 0)
            have rt := R_sets2 (R_sets7 (Kd.R_set HP6.out.rt HP6.out.blk (by decide) 3 (.slice Av (sortR s.regs).length cv)) hF7 (by decide) (.slice Ab s.att.length cb) (.slice At s.toks.length ct) (.slice Ax s.texts.length cx) (.slice Av (sortR s.regs).length cv) (.slice none 0 0) (.slice none 0 0) (.slice none 0 0)) hQ8 (by decide) (.int .i64 0) (.int .i64 0)
            have rx := R_sets2 (R_sets7 (Kd.R_set HP6.out.rx HP6.out.blk (by decide) 3 (.slice Av (sortR s.regs).length cv)) hF7 (by decide) (.slice Ab s.att.length cb) (.slice At s.toks.length ct) (.slice Ax s.texts.length cx) (.slice Av (sortR s.regs).length cv) (.slice none 0 0) (.slice none 0 0) (.slice none 0 0)) hQ8 (by decide) (.int .i64 0) (.int .i64 0)
            have rr := R_sets2 (R_sets7 (Kd.R_set (Kd.R_lower HRV.out HB.out.size) HP6.out.blk (by decide) 3 (.slice Av (sortR s.regs).length cv)) hF7 (by decide) (.slice Ab s.att.length cb) (.slice At s.toks.length ct) (.slice Ax s.texts.length cx) (.slice Av (sortR s.regs).length cv) (.slice none 0 0) (.slice none 0 0) (.slice none 0 0)) hQ8 (by decide) (.int .i64 0) (.int .i64 0)
            refine bodyPost_ret (results_cct rfl _ _ w.heap.size (w.heap.size + 1) 30 32 _ _ (0, 0) (0, 0) _ _ rfl (blk_far (blk_far hF8 hn1 _) hn1 _) hu30 rfl (by kernel_rfl) rfl (blk_put (blk_put hQ8 0 _ rfl) 1 _ rfl) hu32 rfl (by kernel_rfl)) rfl ?_
            rw [HE2.out]
            exact ⟨_, _, _, _, rfl, ra, rt, rx, rr, ((below7 (HBW.out.setCell HP6.out.le _) (Nat.le_refl _) _ _ _ _ _ _ _).setCell (show w.heap.size ≤ w.heap.size + 1 by omega) _).setCell (show w.heap.size ≤ w.heap.size + 1 by omega) _⟩
end Go.Proofs.YtebajpebongabaaDoor.V
