/- Contracts of the functions that the print does not take: codepoint.Position (a range over a string), strings.Cut at a separator of one byte, corporaref01.Units. No condition. -/
import Derived.Test.YtebajpebongabaaDoorProg
import Derived.Test.YtebajpebongabaaDoorWAll
import Derived.Lib.OthersKept
import Derived.WalkKit
import Derived.BigCall
import Derived.Below
import Derived.KernelRfl
import Derived.Lib.Hide
import Derived.Lib.Bytealg
import Derived.Lib.Strings
import Derived.Lib.Slices
import Derived.Lib.Walk
namespace Go.Proofs.YtebajpebongabaaDoor.X
open Go.RowKit Go.Proofs.YtebajpebongabaaDoorW.PrintWords

/-- The offsets and code points of a string from place pos on, at most b of them. -/
def runes (s : ByteArray) : Nat → Nat → List (Int × Int)
  | 0, _ => []
  | b + 1, pos => if pos < s.size then ((pos : Int), ((Utf8.decode s pos).1 : Int)) :: runes s b (pos + (Utf8.decode s pos).2) else []

def runeAt (s : ByteArray) (p : Int) : Int := ((Utf8.decode s p.toNat).1 : Int)
def widthAt (s : ByteArray) (p : Int) : Int := ((Utf8.decode s p.toNat).2 : Int)

theorem width_pos (s : ByteArray) (pos : Nat) (h : pos < s.size) : 1 ≤ (Utf8.decode s pos).2 := by
  by_cases ha : (s[pos]'h).toNat < 128
  · rw [decode_ascii s pos h ha]
    exact Nat.le_refl _
  · exact (decode_high s pos h (by omega)).2

theorem runes_end (s : ByteArray) (b pos : Nat) (h : ¬ pos < s.size) : runes s b pos = [] := by
  cases b with
  | zero => rfl
  | succ f => simp [runes, h]

/-- The line and the column at which the code points end that begin before 'at'. -/
def posOf (at_ : Int) : List (Int × Int) → Int → Int → Int × Int
  | [], l, c => (l, c)
  | (i, r) :: t, l, c => if i ≥ at_ then (l, c) else if r = 10 then posOf at_ t (wrap64 (l + 1)) 1 else posOf at_ t l (wrap64 (c + 1))

theorem iterPos_of {w : World} {k : Nat} {s : ByteArray} {p : Nat} (h : w.heap[k]? = some (.stringIter s p)) : w.iterPos k = p := by simp [World.iterPos, h]

theorem iter_far {w : World} {g : Nat} {s : ByteArray} {n : Nat} (h : w.heap[g]? = some (.stringIter s n)) {p : Addr} (hp : g ≠ p.block) (u : Value) : (w.setCell p u).heap[g]? = some (.stringIter s n) := (Below.heap_setCell w p u g hp).trans h

def codepoint_Position.f (a0 : ByteArray) (a1 : Int) : Option (Int × Int) := some (posOf a1 (runes a0 a0.size 0) 1 1)

set_option maxHeartbeats 4000000 in
set_option maxRecDepth 1000000 in
theorem codepoint_Position.calls (a0 : ByteArray) (a1 : Int) (r1 : Int) (r2 : Int) (w : World) (h : codepoint_Position.f a0 a1 = some (r1, r2)) :
    Calls Tryd.prog 8 #[.string a0, .int .i64 a1] w fun e w' => e = .returned (.agg #[.int .i64 r1, .int .i64 r2]) ∧ Below w.heap.size w w' := by
  have H := Lib.hid (Option.some.inj h)
  clear h
  go_enter Tryd.func8, Tryd.ntmps8
  go_wp2
  go_loopw [] (fun wr => ∃ (pos fuel : Nat) (l c : Int), wr.heap[w.heap.size]? = some (.cells #[.int .i64 0, .int .i64 0] 32 (0, 0)) ∧ wr.heap[w.heap.size + 1]? = some (.cells #[.int .i64 l, .int .i64 c] 32 (0, 0)) ∧ wr.heap[w.heap.size + 1 + 1]? = some (.stringIter a0 pos) ∧ Below w.heap.size w wr ∧ posOf a1 (runes a0 fuel pos) l c = (r1, r2) ∧ a0.size ≤ pos + fuel) (fun wr => a0.size - wr.iterPos (w.heap.size + 1 + 1))
  case atStart =>
    refine ⟨0, a0.size, 1, 1, blk_alloc (blk_alloc (blk_new w _) _) _, ?_, ?_, below_alloc (below_alloc (below_alloc (Below.refl _ _) _) _) _, H.out, by omega⟩
    · have := blk_alloc (blk_new (w.alloc (.cells #[.int .i64 0, .int .i64 0] 32)) (.cells #[.int .i64 1, .int .i64 1] 32)) (.stringIter a0 0)
      simpa [World.iter] using this
    · have := blk_new ((w.alloc (.cells #[.int .i64 0, .int .i64 0] 32)).alloc (.cells #[.int .i64 1, .int .i64 1] 32)) (.stringIter a0 0)
      simpa [World.iter] using this
  case round =>
    obtain ⟨pos, fuel, l, c, h0, h1, hit, hbw, hl, hfu⟩ := hrel
    have hsz : w.heap.size + 1 + 1 < wr.heap.size := (Array.getElem?_eq_some_iff.1 hit).1
    by_cases hp : pos < a0.size
    · obtain ⟨W2, hW2⟩ : ∃ W2, W2 = wr.iterAt (w.heap.size + 1 + 1) a0 (pos + (Utf8.decode a0 pos).2) := ⟨_, rfl⟩
      have hnx : ∀ ty, (Instr.next (.pointer (some ⟨w.heap.size + 1 + 1, 0, none⟩)) true ty).run Tryd.prog wr = .ok (.tuple #[.bool true, .int .i64 pos, .int .i32 (Utf8.decode a0 pos).1]) W2 := fun ty => by rw [hW2]; exact Lib.run_next_any_at wr (w.heap.size + 1 + 1) a0 pos ty hit hp
      have hwd := width_pos a0 pos hp
      have hd1 := decode_le a0 pos
      have g0 : W2.heap[w.heap.size]? = some (.cells #[.int .i64 0, .int .i64 0] 32 (0, 0)) := by rw [hW2, Lib.iterAt_other _ _ _ _ _ (by omega)]; exact h0
      have g1 : W2.heap[w.heap.size + 1]? = some (.cells #[.int .i64 l, .int .i64 c] 32 (0, 0)) := by rw [hW2, Lib.iterAt_other _ _ _ _ _ (by omega)]; exact h1
      have gi : W2.heap[w.heap.size + 1 + 1]? = some (.stringIter a0 (pos + (Utf8.decode a0 pos).2)) := by rw [hW2]; exact Lib.iterAt_heap _ _ _ _ _ hit
      have gb : Below w.heap.size w W2 := by rw [hW2]; exact Lib.below_iterAt hbw (by omega) a0 _
      have HW := Lib.hid hW2
      clear hW2 h0 h1
      have x0 : W2.cell? ⟨w.heap.size + 1, 0, none⟩ = some (.int .i64 l) := blk_cell g1 0
      have x1 : W2.cell? ⟨w.heap.size + 1, 1, none⟩ = some (.int .i64 c) := blk_cell g1 1
      have y0 : W2.cell? ⟨w.heap.size, 0, none⟩ = some (.int .i64 0) := blk_cell g0 0
      have y1 : W2.cell? ⟨w.heap.size, 1, none⟩ = some (.int .i64 0) := blk_cell g0 1
      have f0 := blk_frozen g1 0
      have f1 := blk_frozen g1 1
      have e0 := blk_frozen g0 0
      have e1 := blk_frozen g0 1
      have G0 := Lib.hid g0
      have G1 := Lib.hid g1
      have GI := Lib.hid gi
      have HIT := Lib.hid hit
      clear g0 g1 gi hit
      obtain ⟨f, rfl⟩ : ∃ f, fuel = f + 1 := ⟨fuel - 1, by omega⟩
      simp only [runes, hp, if_true, posOf] at hl
      by_cases c1 : (pos : Int) ≥ a1
      · rw [if_pos c1] at hl
        have b1 : decide (a1 ≤ (pos : Int)) = true := decide_eq_true c1
        obtain ⟨rfl, rfl⟩ := Prod.mk.inj hl
        clear hl
        go_wp2
        refine bodyPost_ret (results_cell_row rfl _ _ _ 32 #[.int .i64 l, .int .i64 c] (0, 0) _ rfl (blk_put (cs := #[.int .i64 l, .int .i64 0]) (blk_put (cs := #[.int .i64 0, .int .i64 0]) G0.out 0 _ rfl) 1 _ rfl) Tryd.underlying32 rfl (by kernel_rfl)) rfl ?_
        exact ⟨rfl, below_set (below_set gb (Nat.le_refl _)) (Nat.le_refl _)⟩
      · rw [if_neg c1] at hl
        have b1 : decide (a1 ≤ (pos : Int)) = false := decide_eq_false c1
        by_cases c2 : ((Utf8.decode a0 pos).1 : Int) = 10
        · rw [if_pos c2] at hl
          have c3 : (((Utf8.decode a0 pos).1 : Int) == 10) = true := beq_iff_eq.2 c2
          have HL := Lib.hid hl
          clear hl c2
          go_wp2
          go_roundw
          case rel =>
            exact ⟨pos + (Utf8.decode a0 pos).2, f, wrap64 (l + 1), 1, blk_far (blk_far G0.out (by simp) _) (by simp) _, blk_put (cs := #[.int .i64 (wrap64 (l + 1)), .int .i64 c]) (blk_put (cs := #[.int .i64 l, .int .i64 c]) G1.out 0 _ rfl) 1 _ rfl, iter_far (iter_far GI.out (by simp) _) (by simp) _, below_set (below_set gb (by omega)) (by omega), HL.out, by omega⟩
          case measure =>
            rw [iterPos_of HIT.out, iterPos_of (iter_far (p := ⟨w.heap.size + 1, 1, none⟩) (iter_far (p := ⟨w.heap.size + 1, 0, none⟩) GI.out (by simp) _) (by simp) _)]
            omega
        · rw [if_neg c2] at hl
          have c3 : (((Utf8.decode a0 pos).1 : Int) == 10) = false := beq_eq_false_iff_ne.2 c2
          have HL := Lib.hid hl
          clear hl c2
          go_wp2
          go_roundw
          case rel =>
            exact ⟨pos + (Utf8.decode a0 pos).2, f, l, wrap64 (c + 1), blk_far G0.out (by simp) _, blk_put (cs := #[.int .i64 l, .int .i64 c]) G1.out 1 _ rfl, iter_far GI.out (by simp) _, below_set gb (by omega), HL.out, by omega⟩
          case measure =>
            rw [iterPos_of HIT.out, iterPos_of (iter_far (p := ⟨w.heap.size + 1, 1, none⟩) GI.out (by simp) _)]
            omega
    · have hnx : ∀ ty, (Instr.next (.pointer (some ⟨w.heap.size + 1 + 1, 0, none⟩)) true ty).run Tryd.prog wr = .ok (.tuple #[.bool false]) wr := fun ty => Lib.run_next_end_at wr (w.heap.size + 1 + 1) a0 pos ty hit hp
      rw [runes_end _ _ _ hp] at hl
      obtain ⟨rfl, rfl⟩ := Prod.mk.inj hl
      have x0 : wr.cell? ⟨w.heap.size + 1, 0, none⟩ = some (.int .i64 l) := blk_cell h1 0
      have x1 : wr.cell? ⟨w.heap.size + 1, 1, none⟩ = some (.int .i64 c) := blk_cell h1 1
      have y0 : wr.cell? ⟨w.heap.size, 0, none⟩ = some (.int .i64 0) := blk_cell h0 0
      have y1 : wr.cell? ⟨w.heap.size, 1, none⟩ = some (.int .i64 0) := blk_cell h0 1
      have f0 := blk_frozen h1 0
      have f1 := blk_frozen h1 1
      have e0 := blk_frozen h0 0
      have e1 := blk_frozen h0 1
      have G0 := Lib.hid h0
      clear h0 h1 hit hl
      go_wp2
      refine bodyPost_ret (results_cell_row rfl _ _ _ 32 #[.int .i64 l, .int .i64 c] (0, 0) _ rfl (blk_put (cs := #[.int .i64 l, .int .i64 0]) (blk_put (cs := #[.int .i64 0, .int .i64 0]) G0.out 0 _ rfl) 1 _ rfl) Tryd.underlying32 rfl (by kernel_rfl)) rfl ?_
      exact ⟨rfl, below_set (below_set hbw (Nat.le_refl _)) (Nat.le_refl _)⟩

/-! ### strings.Cut at a separator of one byte -/

set_option maxHeartbeats 1000000 in
set_option maxRecDepth 100000 in
theorem indexByte_walk (s : ByteArray) (c : Int) (w : World) :
    Calls Tryd.prog 57 #[.string s, .int .u8 c] w fun e w' => e = .returned (.int .i64 (Lib.indexByte s.data.toList c.toNat.toUInt8)) ∧ w' = w := by
  go_enter Tryd.func57, Tryd.ntmps57
  go_wp2
  rw [run_callFunc_extern Tryd.func69 (by kernel_rfl) (by kernel_rfl) (by kernel_rfl) (e := Extern.BytealgIndexByte.indexByte) (by kernel_rfl), Lib.run_indexByteString]
  simp only [Result.andThen]
  rw [Oper.upon_value]
  go_wp2
  go_ret
  exact ⟨rfl, rfl⟩

set_option maxHeartbeats 2000000 in
set_option maxRecDepth 100000 in
theorem index_walk (s : ByteArray) (c : UInt8) (w : World) :
    Calls Tryd.prog 42 #[.string s, .string ⟨#[c]⟩] w fun e w' => e = .returned (.int .i64 (Lib.indexByte s.data.toList c)) ∧ w' = w := by
  go_enter Tryd.func42, Tryd.ntmps42
  go_wp2_with (go_at_call 57; refine (indexByte_walk _ _ _).mono ?_; rintro e w' ⟨rfl, rfl⟩)
  · have h : ([c] == s.toList) = true := by assumption
    go_ret
    refine ⟨?_, rfl⟩
    have e : s.data.toList = [c] := by rw [← Lib.toList_data]; exact (beq_iff_eq.1 h).symm
    rw [e]
    simp [Lib.indexByte]
  · go_ret
    exact ⟨rfl, rfl⟩

def stringslite_Index.f (a0 a1 : ByteArray) : Option Int :=
  match a1.data.toList with
  | [c] => some (Lib.indexByte a0.data.toList c)
  | _ => none

theorem stringslite_Index.calls (a0 a1 : ByteArray) (r : Int) (w : World) (h : stringslite_Index.f a0 a1 = some r) :
    Calls Tryd.prog 42 #[.string a0, .string a1] w fun e w' => e = .returned (.int .i64 r) ∧ Drawn0 w w' := by
  unfold stringslite_Index.f at h
  split at h
  · rename_i c hc
    obtain rfl : a1 = ⟨#[c]⟩ := by
      cases a1 with
      | mk d => cases d; simp at hc; simp [hc]
    obtain rfl := Option.some.inj h
    refine (index_walk a0 c w).mono ?_
    rintro e w' ⟨rfl, rfl⟩
    exact ⟨rfl, Drawn0.refl _⟩
  · cases h
end Go.Proofs.YtebajpebongabaaDoor.X
