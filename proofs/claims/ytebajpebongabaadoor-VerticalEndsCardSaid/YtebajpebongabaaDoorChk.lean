/- corpus.Validate at a corpus without regions and nodes. Condition: as said. -/
import Derived.WalkKit
import Derived.Deep.LoopGhost
import Derived.BigCall
import Derived.Lib.Hide
import Derived.Test.YtebajpebongabaaDoorProg
import Derived.Test.YtebajpebongabaaDoorWAll
namespace Go.Proofs.YtebajpebongabaaDoor.V
open Go.RowKit Go.Proofs.YtebajpebongabaaDoorW.PrintWords
set_option linter.unusedVariables false
set_option linter.unusedSimpArgs false

set_option maxHeartbeats 1000000 in
theorem regions_nil (A0 A1 A2 A3 A4 A5 A6 : Option Addr) (n0 n1 n2 n4 n5 n6 c0 c1 c2 c3 c4 c5 c6 : Nat) (w : World) :
    Calls Tryd.prog 17 #[.agg #[.slice A0 n0 c0, .slice A1 n1 c1, .slice A2 n2 c2, .slice A3 0 c3, .slice A4 n4 c4, .slice A5 n5 c5, .slice A6 n6 c6]] w fun e w' => e = .returned (.tuple #[.int .i64 0, .int .i64 0]) ∧ Below w.heap.size w w' := by
  go_enter Tryd.func17, Tryd.ntmps17
  go_wp2
  go_loopw [20] (fun i wr => i = .int .i64 0 ∧ wr = w.alloc (.cells #[.slice A0 n0 c0, .slice A1 n1 c1, .slice A2 n2 c2, .slice A3 0 c3, .slice A4 n4 c4, .slice A5 n5 c5, .slice A6 n6 c6] 30)) (fun _ _ => 0)
  case atStart => exact ⟨rfl, rfl⟩
  case round =>
    obtain ⟨rfl, rfl⟩ := hrel
    go_wp2
    go_ret2
    exact ⟨rfl, (Below.refl _ _).alloc (Nat.le_refl _) _⟩

set_option maxHeartbeats 1000000 in
theorem nodes_nil (A0 A1 A2 A3 A4 A5 A6 : Option Addr) (n0 n1 n2 n3 n5 n6 c0 c1 c2 c3 c4 c5 c6 : Nat) (w : World) :
    Calls Tryd.prog 18 #[.agg #[.slice A0 n0 c0, .slice A1 n1 c1, .slice A2 n2 c2, .slice A3 n3 c3, .slice A4 0 c4, .slice A5 n5 c5, .slice A6 n6 c6]] w fun e w' => e = .returned (.tuple #[.int .i64 0, .int .i64 0]) ∧ Below w.heap.size w w' := by
  have hmk : ∀ w, (Instr.makeSlice 27 (.int .i64 1) (.int .i64 1)).run Tryd.prog w = .ok (.slice (some ⟨w.heap.size, 0, none⟩) 1 1) (w.alloc (.cells #[.int .i64 0] 3)) := fun _ => by kernel_rfl
  go_enter Tryd.func18, Tryd.ntmps18
  go_wp2
  go_loopw [26] (fun i wr => i = .int .i64 0 ∧ Below w.heap.size w wr) (fun _ _ => 0)
  case atStart => exact ⟨rfl, below_alloc (below_alloc (below_alloc (Below.refl _ _) _) _) _⟩
  case round =>
    obtain ⟨rfl, hb⟩ := hrel
    go_wp2
    go_ret2
    exact ⟨rfl, hb⟩

/-- The parts one after another: the first that has an error. -/
def chk : List (Option (Int × Int)) → Int → Option (Int × Int × Int)
  | [], _ => some (0, 0, 0)
  | p :: t, j => p.bind fun a => if a.2 = 0 then chk t (j + 1) else some (j + 1, a.1, a.2)
def partFn (j : Nat) : Nat := [14, 15, 16, 17, 18, 19].getD j 0

set_option maxRecDepth 100000 in
set_option maxHeartbeats 8000000 in
theorem validate_walk (A0 : Option Addr) (n0 c0 : Nat) (A1 : Option Addr) (n1 c1 : Nat) (A2 : Option Addr) (n2 c2 : Nat) (A3 : Option Addr) (n3 c3 : Nat) (A4 : Option Addr) (n4 c4 : Nat) (A5 : Option Addr) (n5 c5 : Nat) (A6 : Option Addr) (n6 c6 : Nat) (w : World) (p0 p1 p2 p3 p4 p5 : Option (Int × Int))
    (hp : ∀ (j : Nat) (a : Int × Int) (W : World), Below w.heap.size w W → [p0, p1, p2, p3, p4, p5][j]? = some (some a) → Calls Tryd.prog (partFn j) #[.agg #[.slice A0 n0 c0, .slice A1 n1 c1, .slice A2 n2 c2, .slice A3 n3 c3, .slice A4 n4 c4, .slice A5 n5 c5, .slice A6 n6 c6]] W fun e w' => e = .returned (.tuple #[.int .i64 a.1, .int .i64 a.2]) ∧ Below W.heap.size W w')
    (r1 r2 r3 : Int) (h : chk [p0, p1, p2, p3, p4, p5] 0 = some (r1, r2, r3)) :
    Calls Tryd.prog 6 #[.agg #[.slice A0 n0 c0, .slice A1 n1 c1, .slice A2 n2 c2, .slice A3 n3 c3, .slice A4 n4 c4, .slice A5 n5 c5, .slice A6 n6 c6]] w fun e w' => e = .returned (.tuple #[.int .i64 r1, .int .i64 r2, .int .i64 r3]) ∧ Below w.heap.size w w' := by
  have H := Lib.hid h
  clear h
  go_enter Tryd.func6, Tryd.ntmps6
  go_wp2
  go_loopw [13] (fun i wr => ∃ j : Nat, j ≤ 6 ∧ i = .int .i64 j ∧ chk ([p0, p1, p2, p3, p4, p5].drop j) j = some (r1, r2, r3) ∧ Below w.heap.size w wr ∧
      wr.heap[w.heap.size]? = some (.cells #[.slice A0 n0 c0, .slice A1 n1 c1, .slice A2 n2 c2, .slice A3 n3 c3, .slice A4 n4 c4, .slice A5 n5 c5, .slice A6 n6 c6] 30 (0, 0)) ∧
      wr.heap[w.heap.size + 1]? = some (.cells #[.func (.func 14) #[] #[], .func (.func 15) #[] #[], .func (.func 16) #[] #[], .func (.func 17) #[] #[], .func (.func 18) #[] #[], .func (.func 19) #[] #[]] 51 (0, 0))) (fun i _ => 6 - (intOf i).toNat)
  case atStart =>
    refine ⟨0, by omega, rfl, H.out, below_alloc (below_alloc (Below.refl _ _) _) _, blk_alloc (blk_new _ _) _, ?_⟩
    have := blk_new (w.alloc (.cells #[.slice A0 n0 c0, .slice A1 n1 c1, .slice A2 n2 c2, .slice A3 n3 c3, .slice A4 n4 c4, .slice A5 n5 c5, .slice A6 n6 c6] 30)) (.cells #[.func (.func 14) #[] #[], .func (.func 15) #[] #[], .func (.func 16) #[] #[], .func (.func 17) #[] #[], .func (.func 18) #[] #[], .func (.func 19) #[] #[]] 51)
    rwa [World.size_alloc] at this
  case round =>
    obtain ⟨j, hj, rfl, hc, hb, hbx, hbf⟩ := hrel
    have x0 : wr.cell? ⟨w.heap.size, 0, none⟩ = some (.slice A0 n0 c0) := blk_cell hbx 0
    have x1 : wr.cell? ⟨w.heap.size, 1, none⟩ = some (.slice A1 n1 c1) := blk_cell hbx 1
    have x2 : wr.cell? ⟨w.heap.size, 2, none⟩ = some (.slice A2 n2 c2) := blk_cell hbx 2
    have x3 : wr.cell? ⟨w.heap.size, 3, none⟩ = some (.slice A3 n3 c3) := blk_cell hbx 3
    have x4 : wr.cell? ⟨w.heap.size, 4, none⟩ = some (.slice A4 n4 c4) := blk_cell hbx 4
    have x5 : wr.cell? ⟨w.heap.size, 5, none⟩ = some (.slice A5 n5 c5) := blk_cell hbx 5
    have x6 : wr.cell? ⟨w.heap.size, 6, none⟩ = some (.slice A6 n6 c6) := blk_cell hbx 6
    have f0 : wr.cell? ⟨w.heap.size + 1, 0, none⟩ = some (.func (.func 14) #[] #[]) := blk_cell hbf 0
    have f1 : wr.cell? ⟨w.heap.size + 1, 1, none⟩ = some (.func (.func 15) #[] #[]) := blk_cell hbf 1
    have f2 : wr.cell? ⟨w.heap.size + 1, 2, none⟩ = some (.func (.func 16) #[] #[]) := blk_cell hbf 2
    have f3 : wr.cell? ⟨w.heap.size + 1, 3, none⟩ = some (.func (.func 17) #[] #[]) := blk_cell hbf 3
    have f4 : wr.cell? ⟨w.heap.size + 1, 4, none⟩ = some (.func (.func 18) #[] #[]) := blk_cell hbf 4
    have f5 : wr.cell? ⟨w.heap.size + 1, 5, none⟩ = some (.func (.func 19) #[] #[]) := blk_cell hbf 5
    have HBX := Lib.hid hbx
    have HBF := Lib.hid hbf
    clear hbx hbf
    by_cases h6 : j = 6
    · subst h6
      have HC := Lib.hid hc
      clear hc
      go_wp2
      obtain ⟨rfl, rfl, rfl⟩ : 0 = r1 ∧ 0 = r2 ∧ 0 = r3 := by simpa [chk] using HC.out
      go_ret3
      exact ⟨rfl, hb⟩
    obtain ⟨x, y, hxy, hc2⟩ : ∃ x y, [p0, p1, p2, p3, p4, p5][j]? = some (some (x, y)) ∧ (if y = 0 then chk ([p0, p1, p2, p3, p4, p5].drop (j + 1)) ((j : Int) + 1) else some ((j : Int) + 1, x, y)) = some (r1, r2, r3) := by
      have hlt : j < [p0, p1, p2, p3, p4, p5].length := by simp; omega
      rw [List.drop_eq_getElem_cons hlt] at hc
      obtain ⟨a, ha, hc2⟩ := Option.bind_eq_some_iff.1 hc
      exact ⟨a.1, a.2, by rw [List.getElem?_eq_getElem hlt, ha], hc2⟩
    have con := hp j (x, y) wr hb hxy
    clear hc hxy
    rcases (by omega : j = 0 ∨ j = 1 ∨ j = 2 ∨ j = 3 ∨ j = 4 ∨ j = 5) with rfl | rfl | rfl | rfl | rfl | rfl
    · by_cases hy : y = 0
      · rw [if_pos hy] at hc2
        have HC := Lib.hid hc2
        subst hy
        clear hc2
        go_wp2_with (go_at_call 14; refine con.mono ?_; clear con; rintro e w1 ⟨rfl, hb1⟩)
        go_roundw
        case rel => exact ⟨1, by omega, rfl, HC.out, below_then hb hb.size hb1, blk_below HBX.out hb1, blk_below HBF.out hb1⟩
        case measure => simp [intOf]
      · rw [if_neg hy] at hc2
        obtain ⟨rfl, rfl, rfl⟩ : ((0 : Nat) : Int) + 1 = r1 ∧ x = r2 ∧ y = r3 := by simpa using hc2
        have hyb : (y != 0) = true := by simpa using hy
        clear hc2 hy
        go_wp2_with (go_at_call 14; refine con.mono ?_; clear con; rintro e w1 ⟨rfl, hb1⟩)
        go_ret3
        exact ⟨rfl, below_then hb hb.size hb1⟩
    · by_cases hy : y = 0
      · rw [if_pos hy] at hc2
        have HC := Lib.hid hc2
        subst hy
        clear hc2
        go_wp2_with (go_at_call 15; refine con.mono ?_; clear con; rintro e w1 ⟨rfl, hb1⟩)
        go_roundw
        case rel => exact ⟨2, by omega, rfl, HC.out, below_then hb hb.size hb1, blk_below HBX.out hb1, blk_below HBF.out hb1⟩
        case measure => simp [intOf]
      · rw [if_neg hy] at hc2
        obtain ⟨rfl, rfl, rfl⟩ : ((1 : Nat) : Int) + 1 = r1 ∧ x = r2 ∧ y = r3 := by simpa using hc2
        have hyb : (y != 0) = true := by simpa using hy
        clear hc2 hy
        go_wp2_with (go_at_call 15; refine con.mono ?_; clear con; rintro e w1 ⟨rfl, hb1⟩)
        go_ret3
        exact ⟨rfl, below_then hb hb.size hb1⟩
    · by_cases hy : y = 0
      · rw [if_pos hy] at hc2
        have HC := Lib.hid hc2
        subst hy
        clear hc2
        go_wp2_with (go_at_call 16; refine con.mono ?_; clear con; rintro e w1 ⟨rfl, hb1⟩)
        go_roundw
        case rel => exact ⟨3, by omega, rfl, HC.out, below_then hb hb.size hb1, blk_below HBX.out hb1, blk_below HBF.out hb1⟩
        case measure => simp [intOf]
      · rw [if_neg hy] at hc2
        obtain ⟨rfl, rfl, rfl⟩ : ((2 : Nat) : Int) + 1 = r1 ∧ x = r2 ∧ y = r3 := by simpa using hc2
        have hyb : (y != 0) = true := by simpa using hy
        clear hc2 hy
        go_wp2_with (go_at_call 16; refine con.mono ?_; clear con; rintro e w1 ⟨rfl, hb1⟩)
        go_ret3
        exact ⟨rfl, below_then hb hb.size hb1⟩
    · by_cases hy : y = 0
      · rw [if_pos hy] at hc2
        have HC := Lib.hid hc2
        subst hy
        clear hc2
        go_wp2_with (go_at_call 17; refine con.mono ?_; clear con; rintro e w1 ⟨rfl, hb1⟩)
        go_roundw
        case rel => exact ⟨4, by omega, rfl, HC.out, below_then hb hb.size hb1, blk_below HBX.out hb1, blk_below HBF.out hb1⟩
        case measure => simp [intOf]
      · rw [if_neg hy] at hc2
        obtain ⟨rfl, rfl, rfl⟩ : ((3 : Nat) : Int) + 1 = r1 ∧ x = r2 ∧ y = r3 := by simpa using hc2
        have hyb : (y != 0) = true := by simpa using hy
        clear hc2 hy
        go_wp2_with (go_at_call 17; refine con.mono ?_; clear con; rintro e w1 ⟨rfl, hb1⟩)
        go_ret3
        exact ⟨rfl, below_then hb hb.size hb1⟩
    · by_cases hy : y = 0
      · rw [if_pos hy] at hc2
        have HC := Lib.hid hc2
        subst hy
        clear hc2
        go_wp2_with (go_at_call 18; refine con.mono ?_; clear con; rintro e w1 ⟨rfl, hb1⟩)
        go_roundw
        case rel => exact ⟨5, by omega, rfl, HC.out, below_then hb hb.size hb1, blk_below HBX.out hb1, blk_below HBF.out hb1⟩
        case measure => simp [intOf]
      · rw [if_neg hy] at hc2
        obtain ⟨rfl, rfl, rfl⟩ : ((4 : Nat) : Int) + 1 = r1 ∧ x = r2 ∧ y = r3 := by simpa using hc2
        have hyb : (y != 0) = true := by simpa using hy
        clear hc2 hy
        go_wp2_with (go_at_call 18; refine con.mono ?_; clear con; rintro e w1 ⟨rfl, hb1⟩)
        go_ret3
        exact ⟨rfl, below_then hb hb.size hb1⟩
    · by_cases hy : y = 0
      · rw [if_pos hy] at hc2
        have HC := Lib.hid hc2
        subst hy
        clear hc2
        go_wp2_with (go_at_call 19; refine con.mono ?_; clear con; rintro e w1 ⟨rfl, hb1⟩)
        go_roundw
        case rel => exact ⟨6, by omega, rfl, HC.out, below_then hb hb.size hb1, blk_below HBX.out hb1, blk_below HBF.out hb1⟩
        case measure => simp [intOf]
      · rw [if_neg hy] at hc2
        obtain ⟨rfl, rfl, rfl⟩ : ((5 : Nat) : Int) + 1 = r1 ∧ x = r2 ∧ y = r3 := by simpa using hc2
        have hyb : (y != 0) = true := by simpa using hy
        clear hc2 hy
        go_wp2_with (go_at_call 19; refine con.mono ?_; clear con; rintro e w1 ⟨rfl, hb1⟩)
        go_ret3
        exact ⟨rfl, below_then hb hb.size hb1⟩
end Go.Proofs.YtebajpebongabaaDoor.V
