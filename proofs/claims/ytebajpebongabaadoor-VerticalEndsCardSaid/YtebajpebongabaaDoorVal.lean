/- codepoint.Valid and markup.ValidValue at every string: what they answer, by plain functions of the string. No condition. -/
import Derived.RangeFuncNested
import Derived.RangeFuncBound
import Derived.RangeFuncCalls
import Derived.RangeFuncLeaves
import Derived.Shelf.Abstract
import Derived.Shelf.RegionOpen
import Derived.WalkKit
import Derived.OwnWalkIn
import Derived.TacticsInMore
import Derived.LoopNIn
import Derived.LoopIn
import Derived.Lib.Walk
import Derived.Lib.Hide
import Derived.Lib.Strings
import Derived.Lib.OthersKept
import Derived.Lib.DecodeN
import Derived.Lib.Bytealg
import Derived.Lib.Slices
import Derived.Test.YtebajpebongabaaDoorProg
import Derived.Test.YtebajpebongabaaDoorWAll
namespace Go.Proofs.YtebajpebongabaaDoor.V
open Go.RowKit Go.Shelf Go.Proofs.YtebajpebongabaaDoorW.PrintWords
attribute [local go_sem] Oper.semAt_some
set_option linter.unusedVariables false
set_option linter.unusedSimpArgs false

/-- The blocks of S that lay lie as they lay. -/
structure KeepsOn (S : Nat → Prop) (W W' : World) : Prop where
  size : W.heap.size ≤ W'.heap.size
  same : ∀ k, S k → k < W.heap.size → W'.heap[k]? = W.heap[k]?
theorem KeepsOn.refl (S : Nat → Prop) (W : World) : KeepsOn S W W := ⟨Nat.le_refl _, fun _ _ _ => rfl⟩
theorem KeepsOn.trans {S : Nat → Prop} {X Y Z : World} (h : KeepsOn S X Y) (k : KeepsOn S Y Z) : KeepsOn S X Z := ⟨Nat.le_trans h.size k.size, fun i hb hi => (k.same i hb (Nat.lt_of_lt_of_le hi h.size)).trans (h.same i hb hi)⟩
theorem KeepsOn.mono {S S' : Nat → Prop} {X Y : World} (h : KeepsOn S X Y) (hb : ∀ k, S' k → S k) : KeepsOn S' X Y := ⟨h.size, fun i hi hl => h.same i (hb i hi) hl⟩
theorem KeepsOn.below {S : Nat → Prop} {W W' : World} (h : Below W.heap.size W W') : KeepsOn S W W' := ⟨h.size, fun k _ hk => h.block k hk⟩
theorem KeepsOn.setCell {S : Nat → Prop} (W : World) {p : Addr} (hp : ¬ S p.block) (v : Value) : KeepsOn S W (W.setCell p v) := ⟨by simp [World.setCell], fun k hb _ => Below.heap_setCell W p v k (fun e => hp (e ▸ hb))⟩
theorem KeepsOn.alloc {S : Nat → Prop} (W : World) (o : Obj) : KeepsOn S W (W.alloc o) := ⟨by simp, fun k _ hk => Below.heap_alloc W o k hk⟩
theorem KeepsOn.putObj {S : Nat → Prop} (W : World) {l : Nat} (hl : ¬ S l) (o : Obj) : KeepsOn S W (W.putObj l o) := ⟨by simp, fun k hb _ => World.putObj_heap_other (fun e => hl (e ▸ hb))⟩

/-- The contract of an iterator that keeps state of its own in cells: the rounds keep what lay from the call's begin on; it keeps what lay before. -/
def SeqStopsU {α : Type} (n₀ : Nat) (F : Fence) (n : Nat) (P : Program) (g : Nat) (lb : Array Value) (encs : α → Array Value) (S Sp : List α → Prop) (N : Nat) (w : World) : Prop :=
  ∀ (l : Nat) (J Jx : List α → World → Prop) (W : World), Below w.heap.size w W →
    (∀ s A B, J s A → Below W.heap.size A B → J s B) → (∀ s A B, Jx s A → Below W.heap.size A B → Jx s B) →
    (∀ pre x W1, J pre W1 → pre.length < N → YieldAt F (n - 1) P l (encs x) W1 fun e W' =>
      (e = .returned (.bool true) ∧ J (pre ++ [x]) W' ∧ KeepsOn (fun k => (n₀ ≤ k ∧ k < w.heap.size) ∨ W.heap.size ≤ k) W1 W') ∨ (e = .returned (.bool false) ∧ Jx (pre ++ [x]) W')) →
    J [] W →
    CallsIn F n P g (#[.func (.yield l) #[] #[]] ++ lb) W fun e W' => (∃ v, e = .returned v) ∧ ((∃ xs, S xs ∧ J xs W') ∨ (∃ pre, Sp pre ∧ Jx pre W'))

def ownPostU {α : Type} (B : Nat) (I : List α → World → Prop) (Ix : Code → List α → World → Prop) (xs : List α) (W : World) : Exit → Act → World → Prop
  | .normal, _, W' => KeepsOn (fun k => B ≤ k) W W' ∧ I xs W'
  | .ret, _, W' => KeepsOn (fun k => B ≤ k) W W' ∧ Ix .ret xs W'
  | .exit id, _, W' => KeepsOn (fun k => B ≤ k) W W' ∧ Ix (.exit id) xs W'
  | .goto t, _, W' => KeepsOn (fun k => B ≤ k) W W' ∧ Ix (.goto t) xs W'
  | .panic _, _, _ => False
  | .outgrown, _, _ => False

theorem below_putObj {B : Nat} {W : World} {l : Nat} {o : Obj} (o' : Obj) (hB : B ≤ l) (h : W.heap[l]? = some o) : Below B W (W.putObj l o') :=
  (Below.refl B W).grown (grownBy_putObj' W l o') (by have := (Array.getElem?_eq_some_iff.1 h).1; omega) (fun k e => by cases e; omega)

theorem wpIn_rangeFunc_ownU {F : Fence} {n : Nat} {P : Program} {w : World} {α : Type} {g : Operand} {ps : Array Tmp} {assign body : Code} {Q : Exit → Act → World → Prop} {a : Act}
    (hro : F.round = none) (h1 : 1 ≤ n) {gf : Nat} {lb : Array Value} (hg : a.eval g = .func (.func gf) #[] lb) (hFg : F.fn gf) (eg : ∀ args w, (callFunc gf args).run P w = .ok (.enter gf args) w)
    {encs : α → Array Value} {S Sp : List α → Prop} {N : Nat} {w0 : World} {n₀ : Nat} (hn₀ : n₀ ≤ w.heap.size) (hseq : SeqStopsU n₀ F (n - 1) P gf lb encs S Sp N w0)
    (hb0 : Below w0.heap.size w0 w) (hps : ∀ x, (encs x).size = ps.size)
    (I : List α → World → Prop) (Ix : Code → List α → World → Prop) (hI : ∀ s A B, I s A → Below w.heap.size A B → I s B) (hIx : ∀ c s A B, Ix c s A → Below w.heap.size A B → Ix c s B) (h0 : I [] w) (Ax : α → Act → World → Prop)
    (hAx : ∀ x a' A l o', Ax x a' A → l < w.heap.size + 2 → Ax x a' (A.putObj l o'))
    (hassign : ∀ (l : Nat) (pre : List α) (x : α) (W : World) (K : Act → World → Prop), w.heap.size + 2 ≤ W.heap.size → I pre W → (∀ a' W', KeepsOn (fun k => n₀ ≤ k) W W' → I pre W' → Ax x a' W' → K a' W') →
      assign.wpIn (F.inRound l) (n - 1 - 1) P (Exit.then K (fun _ _ _ => False)) { tmps := (ps.zip (encs x)).foldl (fun t (p, v) => t.setIfInBounds p v) a.tmps, defers := [] } W)
    (hbody : ∀ (l : Nat) (pre : List α) (x : α) (a' : Act) (W : World), w.heap.size + 2 ≤ W.heap.size → I pre W → Ax x a' W → pre.length < N → body.wpIn (F.inRound l) (n - 1 - 1) P (ownPostU n₀ I Ix (pre ++ [x]) W) a' W)
    (hdone : ∀ (D : Nat) (xs : List α) (W : World), w.heap.size ≤ D → S xs → I xs W → W.heap[D]? = some (.deferred (some [])) → Q .normal { a with defers := { target := .collected D, args := #[] } :: a.defers } W)
    (hstop : ∀ (D : Nat) (c : Code) (pre : List α) (W : World), w.heap.size ≤ D → Sp pre → Ix c pre W → W.heap[D]? = some (.deferred (some [])) → c.wpIn F n P Q { a with defers := { target := .collected D, args := #[] } :: a.defers } W) :
    (Code.rangeFunc g ps assign body).wpIn F n P Q a w := by
  refine wpIn_rangeFunc ?_
  intro fn hfn
  rw [hro]
  obtain ⟨rec, hrec⟩ : ∃ rec : LoopState → Option Code → Loop, rec = fun st pe => { state := st, pending := pe, fn, tmps := a.tmps, params := ps, assign, body, defers := w.heap.size } := ⟨_, rfl⟩
  obtain ⟨W1, hW1⟩ : ∃ W1, (w.alloc (.deferred (some []))).alloc (.loop (rec .ready none)) = W1 := ⟨_, rfl⟩
  have hL1 : W1.heap[w.heap.size + 1]? = some (.loop (rec .ready none)) := by
    rw [← hW1]; have := World.alloc_heap_new (w.alloc (.deferred (some []))) (.loop (rec .ready none)); rwa [World.size_alloc] at this
  have hK1 : W1.heap[w.heap.size]? = some (.deferred (some [])) := by
    rw [← hW1]; exact (Below.heap_alloc _ _ _ (by simp)).trans (World.alloc_heap_new w _)
  have hbw : Below w.heap.size w W1 := by rw [← hW1]; exact ((Below.refl _ w).alloc (Nat.le_refl _) _).alloc (by simp) _
  have hsz1 : W1.heap.size = w.heap.size + 2 := by rw [← hW1]; simp
  have hle0 := hb0.size
  have hI1 : I [] W1 := hI _ _ _ h0 hbw
  have hb1 : Below w0.heap.size w0 W1 := hb0.trans (hbw.mono hb0.size)
  refine ⟨w.heap.size + 1, [{ target := .collected w.heap.size, args := #[] }], W1, { target := .fn (.func gf) lb, args := #[.func (.yield (w.heap.size + 1)) #[] #[]] }, W1, gf,
    #[.func (.yield (w.heap.size + 1)) #[] #[]] ++ lb, W1, ?_, ?_, ?_, ?_, fun _ => h1, ?_⟩
  · rw [← hW1, hrec]; exact run_enterLoop_outer _ _ _ _ _
  · simp only [resolve, hg]
    simp [go_sem]
  · intro f' hf'; simp [Target.leads] at hf'; subst hf'; exact hFg
  · simp [invoke, go_sem, eg]
  · refine (hseq (w.heap.size + 1)
      (fun pre W => I pre W ∧ W.heap[w.heap.size + 1]? = some (.loop (rec .ready none)) ∧ W.heap[w.heap.size]? = some (.deferred (some [])) ∧ w.heap.size + 2 ≤ W.heap.size)
      (fun pre W => ∃ c, Ix c pre W ∧ W.heap[w.heap.size + 1]? = some (.loop (rec .done (some c))) ∧ W.heap[w.heap.size]? = some (.deferred (some [])))
      W1 hb1
      (fun s A B hs hb => ⟨hI s A B hs.1 (hb.mono (by omega)), (hb.block _ (by omega)).trans hs.2.1, (hb.block _ (by omega)).trans hs.2.2.1, Nat.le_trans hs.2.2.2 hb.size⟩)
      (fun s A B hs hb => by
        obtain ⟨c, hc, hl, hk⟩ := hs
        exact ⟨c, hIx c s A B hc (hb.mono (by omega)), (hb.block _ (by omega)).trans hl, (hb.block _ (by omega)).trans hk⟩)
      ?_ ⟨hI1, hL1, hK1, by omega⟩).mono ?_
    · -- one round
      rintro pre x W ⟨hi, hl, hk, hsz⟩ hlen
      have hy := run_yield (P := P) (args := encs x) hl (by rw [hrec]; exact hps x)
      rw [hrec] at hy
      refine ⟨fn, _, assign, body, hy, roundIn_of_wpIn hfn (hassign _ pre x W _ hsz hi ?_)⟩
      clear hy
      intro a' Wa haa hia hax
      replace hl := (haa.same _ (by omega) (by omega)).trans hl
      replace hk := (haa.same _ (by omega) (by omega)).trans hk
      have hlt : w.heap.size + 1 < Wa.heap.size := (Array.getElem?_eq_some_iff.1 hl).1
      refine ⟨_, run_beginRound hl (by rw [hrec]), ?_⟩
      obtain ⟨Wb, hWb⟩ : ∃ Wb, Wa.putObj (w.heap.size + 1) (.loop { rec .ready none with state := .busy }) = Wb := ⟨_, rfl⟩
      have hl2 : Wb.heap[w.heap.size + 1]? = some (.loop { rec .ready none with state := .busy }) := by rw [← hWb]; exact World.putObj_heap_same hlt
      have hk2 : Wb.heap[w.heap.size]? = some (.deferred (some [])) := by rw [← hWb]; exact (World.putObj_heap_other (by omega)).trans hk
      have hbb : Below w.heap.size Wa Wb := by rw [← hWb]; exact below_putObj _ (by omega) hl
      have hszb : Wb.heap.size = Wa.heap.size := by rw [← hWb]; simp
      have haxb : Ax x a' Wb := by rw [← hWb]; exact hAx _ _ _ _ _ hax (by omega)
      have hab : KeepsOn (fun k => (n₀ ≤ k ∧ k < w0.heap.size) ∨ W1.heap.size ≤ k) W Wb := by rw [← hWb]; exact (haa.mono (fun k hk => by omega)).trans (KeepsOn.putObj _ (by omega) _)
      rw [hWb]
      refine wpIn_mono (hbody _ pre x a' _ (by have := haa.size; omega) (hI _ _ _ hia hbb) haxb hlen) ?_
      have fin : ∀ (jump : Option Code) (W3 : World), KeepsOn (fun k => n₀ ≤ k) Wb W3 →
          (Instr.endRound (w.heap.size + 1) jump).run P W3 = .ok (.bool jump.isNone) (W3.putObj (w.heap.size + 1) (.loop (rec (if jump.isNone then .ready else .done) jump))) ∧
          W3.heap[w.heap.size + 1]? = some (.loop { rec .ready none with state := .busy }) ∧
          (W3.putObj (w.heap.size + 1) (.loop (rec (if jump.isNone then .ready else .done) jump))).heap[w.heap.size + 1]? = some (.loop (rec (if jump.isNone then .ready else .done) jump)) ∧
          (W3.putObj (w.heap.size + 1) (.loop (rec (if jump.isNone then .ready else .done) jump))).heap[w.heap.size]? = some (.deferred (some [])) ∧
          Below w.heap.size W3 (W3.putObj (w.heap.size + 1) (.loop (rec (if jump.isNone then .ready else .done) jump))) ∧
          KeepsOn (fun k => (n₀ ≤ k ∧ k < w0.heap.size) ∨ W1.heap.size ≤ k) W3 (W3.putObj (w.heap.size + 1) (.loop (rec (if jump.isNone then .ready else .done) jump))) := fun jump W3 hk3 => by
        have hl3 := (hk3.same _ (by omega) (by omega)).trans hl2
        have := run_endRound (P := P) jump hl3
        rw [hrec] at this ⊢
        exact ⟨this, by rw [hrec] at hl3; exact hl3, World.putObj_heap_same (Array.getElem?_eq_some_iff.1 hl3).1, (World.putObj_heap_other (by omega)).trans ((hk3.same _ (by omega) (by omega)).trans hk2), below_putObj _ (by omega) hl3, KeepsOn.putObj _ (by omega) _⟩
      rintro e a3 W3 hp
      cases e with
      | normal =>
        obtain ⟨hk3, hi3⟩ := hp
        obtain ⟨hr, hl3, hl4, hk4, hb4, ha4⟩ := fin none W3 hk3
        exact ⟨_, _, hr, .inl ⟨rfl, ⟨hI _ _ _ hi3 hb4, hl4, hk4, by have := hk3.size; have := haa.size; simp; omega⟩, hab.trans ((hk3.mono (fun k hk => by omega)).trans ha4)⟩⟩
      | ret =>
        obtain ⟨hk3, hi3⟩ := hp
        obtain ⟨hr, hl3, hl4, hk4, hb4, _⟩ := fin (some .ret) W3 hk3
        exact ⟨_, _, hr, .inr ⟨rfl, .ret, hIx _ _ _ _ hi3 hb4, hl4, hk4⟩⟩
      | exit id =>
        obtain ⟨hk3, hi3⟩ := hp
        obtain ⟨hr, hl3, hl4, hk4, hb4, _⟩ := fin (some (.exit id)) W3 hk3
        exact ⟨_, _, hr, .inr ⟨rfl, .exit id, hIx _ _ _ _ hi3 hb4, hl4, hk4⟩⟩
      | goto t =>
        obtain ⟨hk3, hi3⟩ := hp
        obtain ⟨hr, hl3, hl4, hk4, hb4, _⟩ := fin (some (.goto t)) W3 hk3
        exact ⟨_, _, hr, .inr ⟨rfl, .goto t, hIx _ _ _ _ hi3 hb4, hl4, hk4⟩⟩
      | panic ch => exact hp.elim
      | outgrown => exact hp.elim
    · -- behind the iterator
      rintro e W2 ⟨⟨v, rfl⟩, (⟨xs, hS, hi, hl, hk, _⟩ | ⟨pre, hSp, c, hi, hl, hk⟩)⟩
      · exact ⟨none, _, by have := run_endLoop (P := P) hl (by rw [hrec]; simp); rw [hrec] at this; exact this, hdone _ xs _ (Nat.le_refl _) hS (hI _ _ _ hi (below_putObj _ (by omega) hl)) ((World.putObj_heap_other (by omega)).trans hk)⟩
      · exact ⟨some c, _, by have := run_endLoop (P := P) hl (by rw [hrec]; simp); rw [hrec] at this; exact this, hstop _ c pre _ (Nat.le_refl _) hSp (hIx c _ _ _ hi (below_putObj _ (by omega) hl)) ((World.putObj_heap_other (by omega)).trans hk)⟩

/-! ### the units of a string -/
abbrev U3 := Int × Int × Int
def unitsL (s : ByteArray) : Nat → Nat → List U3
  | 0, _ => []
  | b + 1, p => if p < s.size then (((Utf8.decode s p).1 : Int), (p : Int), ((Utf8.decode s p).2 : Int)) :: unitsL s b (p + (Utf8.decode s p).2) else []
def unitOk (u : U3) : Bool := !(u.1 == 65533) || u.2.2 == 3
def validB (s : ByteArray) : Bool := (unitsL s s.size 0).all unitOk

theorem width_pos (s : ByteArray) (pos : Nat) (h : pos < s.size) : 1 ≤ (Utf8.decode s pos).2 := by
  by_cases ha : (s[pos]'h).toNat < 128
  · rw [decode_ascii s pos h ha]
    exact Nat.le_refl _
  · exact (decode_high s pos h (by omega)).2
theorem width_le (s : ByteArray) (pos : Nat) (h : pos < s.size) : pos + (Utf8.decode s pos).2 ≤ s.size := by
  rw [Lib.decode_at]
  unfold Lib.decodeN
  repeat' split
  all_goals (simp only []; omega)
theorem unitsL_end (s : ByteArray) (b p : Nat) (h : ¬ p < s.size) : unitsL s b p = [] := by
  cases b with
  | zero => rfl
  | succ f => simp [unitsL, h]
theorem iter_far {w : World} {g : Nat} {s : ByteArray} {n : Nat} (h : w.heap[g]? = some (.stringIter s n)) {p : Addr} (hp : g ≠ p.block) (u : Value) : (w.setCell p u).heap[g]? = some (.stringIter s n) := (Below.heap_setCell w p u g hp).trans h
theorem iterPos_of {w : World} {k : Nat} {s : ByteArray} {p : Nat} (h : w.heap[k]? = some (.stringIter s p)) : w.iterPos k = p := by simp [World.iterPos, h]

theorem units_in (F : Fence) (n : Nat) (h : F.fn 76) (hro : F.round = none) (s : ByteArray) (w : World) :
    CallsIn F n Tryd.prog 76 #[.string s] w fun e w' => e = .returned (.func (.func 81) #[] #[.pointer (some ⟨w.heap.size, 0, none⟩)]) ∧ w' = w.alloc (.cells #[.string s] 9) := by
  refine callsIn_of_wp Tryd.func76 rfl h ?_ hro
  simp only [Tryd.ntmps76, List.size_toArray, List.length_cons, List.length_nil, Nat.reduceAdd, Nat.reduceSub, Array.replicate_succ, Array.replicate_zero, List.push_toArray, List.append_toArray, List.nil_append, List.cons_append]
  gi_wp2
  go_ret
  exact ⟨rfl, rfl⟩

theorem unit_valid (u : U3) (w : World) : Calls Tryd.prog 77 #[.agg #[.int .i32 u.1, .int .i64 u.2.1, .int .i64 u.2.2]] w fun e w' => e = .returned (.bool (unitOk u)) ∧ Below w.heap.size w w' := by
  obtain ⟨r, at_, sz⟩ := u
  have e1 : unitOk (r, at_, sz) = (!(r == 65533) || sz == 3) := rfl
  rw [e1]
  by_cases c : (r == 65533) = true
  · rw [c]
    have c2 : (!(r == 65533)) = false := by rw [c]; rfl
    have hne : (r != 65533) = false := c2
    go_enter Tryd.func77, Tryd.ntmps77
    go_wp2
    go_ret
    exact ⟨by simp, (Below.refl _ _).alloc (Nat.le_refl _) _⟩
  · have c := Bool.eq_false_iff.2 c
    rw [c]
    have hne : (r != 65533) = true := by simp [bne, c]
    go_enter Tryd.func77, Tryd.ntmps77
    go_wp2
    go_ret
    exact ⟨by simp, (Below.refl _ _).alloc (Nat.le_refl _) _⟩

def uenc (u : U3) : Array Value := #[.agg #[.int .i32 u.1, .int .i64 u.2.1, .int .i64 u.2.2]]

theorem below_set' {B : Nat} {a w : World} (h : Below B a w) {g : Nat} (hg : B ≤ g) (j : Nat) (v : Value) : Below B a (w.setCell ⟨g, j, none⟩ v) := h.setCell hg _

/-- What holds of the iterator's cells at the head of a round. -/
def UnitsAt (s : ByteArray) (U Bn : Nat) (J : List U3 → World → Prop) (wr : World) : Prop :=
  ∃ (pos fuel : Nat) (pre : List U3) (r at_ sz : Int),
      wr.heap[U + 1]? = some (.stringIter s pos) ∧ wr.heap[U]? = some (.cells #[.int .i32 r, .int .i64 at_, .int .i64 sz] 126 (0, 0)) ∧
      wr.cell? ⟨Bn, 0, none⟩ = some (.string s) ∧ J pre wr ∧ s.size ≤ pos + fuel ∧
      ((pre = [] ∧ pos = 0 ∧ at_ = -1 ∧ fuel = s.size) ∨ (0 ≤ at_ ∧ unitsL s s.size 0 = pre ++ [(r, at_, (pos : Int) - at_)] ++ unitsL s fuel pos ∧ at_ < pos ∧ pos ≤ s.size))

theorem unitsAt_next {s : ByteArray} {U Bn : Nat} {J : List U3 → World → Prop} {wx : World} {pos fuel : Nat} {pre : List U3} {cs : Array Value} (hcs : cs.size = 3)
    (hi : wx.heap[U + 1]? = some (.stringIter s (pos + (Utf8.decode s pos).2))) (hu : wx.heap[U]? = some (.cells cs 126 (0, 0)))
    (hb : Bn < U) (hc : wx.cell? ⟨Bn, 0, none⟩ = some (.string s)) (hJ : ∀ s A B, J s A → Below U A B → J s B) (hj : J pre wx) (hp : pos < s.size) (hf : s.size ≤ pos + (fuel + 1))
    (hl : unitsL s s.size 0 = pre ++ unitsL s (fuel + 1) pos) :
    UnitsAt s U Bn J (((wx.setCell ⟨U, 0, none⟩ (.int .i32 (Utf8.decode s pos).1)).setCell ⟨U, 1, none⟩ (.int .i64 pos)).setCell ⟨U, 2, none⟩ (.int .i64 0)) := by
  have hw := width_pos s pos hp
  have hw2 := width_le s pos hp
  refine ⟨pos + (Utf8.decode s pos).2, fuel, pre, (Utf8.decode s pos).1, pos, 0, ?_, ?_, ?_, ?_, by omega, .inr ⟨by omega, ?_, by omega, by omega⟩⟩
  · exact iter_far (iter_far (iter_far hi (by simp) _) (by simp) _) (by simp) _
  · refine blk_put (cs := #[.int .i32 (Utf8.decode s pos).1, .int .i64 pos, cs[2]]) (blk_put (cs := #[.int .i32 (Utf8.decode s pos).1, cs[1], cs[2]]) (blk_put hu 0 _ ?_) 1 _ (by simp)) 2 _ (by simp)
    obtain ⟨l⟩ := cs
    obtain ⟨a, b, c, rfl⟩ : ∃ a b c, l = [a, b, c] := by
      simp at hcs
      match l, hcs with
      | [a, b, c], _ => exact ⟨a, b, c, rfl⟩
    simp
  · refine (World.cell?_of_block ?_).trans hc
    rw [Below.heap_setCell _ _ _ _ (by simp; omega), Below.heap_setCell _ _ _ _ (by simp; omega), Below.heap_setCell _ _ _ _ (by simp; omega)]
  · exact hJ _ _ _ hj (((below_set' ((below_set' (below_set' (Below.refl U wx) (Nat.le_refl _) 0 _)) (Nat.le_refl _) 1 _)) (Nat.le_refl _) 2 _))
  · rw [hl]
    have e : (((pos + (Utf8.decode s pos).2 : Nat)) : Int) - (pos : Int) = ((Utf8.decode s pos).2 : Int) := by omega
    rw [e]
    simp [unitsL, hp]

set_option maxRecDepth 100000 in
set_option maxHeartbeats 4000000 in
theorem units1_in (F : Fence) (n : Nat) (h : F.fn 81) (hro : F.round = none) (hn : 1 ≤ n) (l Bn n₀ m : Nat) (s : ByteArray) (hs : s.size ≤ 9223372036854775807) (J Jx : List U3 → World → Prop) (W : World)
    (hnB : n₀ ≤ Bn) (hBm : Bn < m) (hmW : m ≤ W.heap.size)
    (hJ : ∀ s A B, J s A → Below W.heap.size A B → J s B) (hJx : ∀ s A B, Jx s A → Below W.heap.size A B → Jx s B)
    (hY : ∀ pre x W1, J pre W1 → pre.length < (unitsL s s.size 0).length → YieldAt F (n - 1) Tryd.prog l (uenc x) W1 fun e W' =>
      (e = .returned (.bool true) ∧ J (pre ++ [x]) W' ∧ KeepsOn (fun k => (n₀ ≤ k ∧ k < m) ∨ W.heap.size ≤ k) W1 W') ∨ (e = .returned (.bool false) ∧ Jx (pre ++ [x]) W'))
    (hc : W.cell? ⟨Bn, 0, none⟩ = some (.string s)) (h0 : J [] W) :
    CallsIn F n Tryd.prog 81 #[.func (.yield l) #[] #[], .pointer (some ⟨Bn, 0, none⟩)] W fun e W' => (∃ v, e = .returned v) ∧ ((∃ xs, xs = unitsL s s.size 0 ∧ J xs W') ∨ (∃ pre, pre <+: unitsL s s.size 0 ∧ Jx pre W')) := by
  refine callsIn_of_wp Tryd.func81 rfl h ?_ hro
  simp only [Tryd.ntmps81, List.size_toArray, List.length_cons, List.length_nil, Nat.reduceAdd, Nat.reduceSub, Array.replicate_succ, Array.replicate_zero, List.push_toArray, List.append_toArray, List.nil_append, List.cons_append]
  have hc1 : ∀ o, (W.alloc o).cell? ⟨Bn, 0, none⟩ = some (.string s) := fun o => pw_cell_below ((Below.refl _ _).alloc (Nat.le_refl _) o) hc
  gi_wp2
  gi_loopw [] (fun wr => UnitsAt s W.heap.size Bn J wr)
    (fun wr => s.size - wr.iterPos (W.heap.size + 1))
  case atStart =>
    refine ⟨0, s.size, [], 0, -1, 0, ?_, ?_, ?_, ?_, by omega, .inl ⟨rfl, rfl, rfl, rfl⟩⟩
    · have := blk_new (W.alloc (.cells #[.int .i32 0, .int .i64 (-1), .int .i64 0] 126)) (.stringIter s 0)
      simpa [World.iter] using this
    · simpa [World.iter] using blk_alloc (blk_new W (.cells #[.int .i32 0, .int .i64 (-1), .int .i64 0] 126)) (.stringIter s 0)
    · simpa [World.iter] using pw_cell_below ((Below.refl _ _).alloc (Nat.le_refl _) (.stringIter s 0)) (hc1 _)
    · refine hJ _ _ _ h0 ?_
      simpa [World.iter] using ((Below.refl W.heap.size W).alloc (Nat.le_refl _) (.cells #[.int .i32 0, .int .i64 (-1), .int .i64 0] 126)).alloc (by simp) (.stringIter s 0)
  case round =>
    obtain ⟨pos, fuel, pre, r, at_, sz, hit, hu, hcB, hj, hfu, hst⟩ := hrel
    have hsz : W.heap.size + 1 < wr.heap.size := (Array.getElem?_eq_some_iff.1 hit).1
    have hbn : Bn < W.heap.size := by omega
    by_cases hp : pos < s.size
    · obtain ⟨W2, hW2⟩ : ∃ W2, W2 = wr.iterAt (W.heap.size + 1) s (pos + (Utf8.decode s pos).2) := ⟨_, rfl⟩
      have hnx : ∀ ty, (Instr.next (.pointer (some ⟨W.heap.size + 1, 0, none⟩)) true ty).run Tryd.prog wr = .ok (.tuple #[.bool true, .int .i64 pos, .int .i32 (Utf8.decode s pos).1]) W2 := fun ty => by rw [hW2]; exact Lib.run_next_any_at wr (W.heap.size + 1) s pos ty hit hp
      have hwd := width_pos s pos hp
      have hd1 := decode_le s pos
      have gu : W2.heap[W.heap.size]? = some (.cells #[.int .i32 r, .int .i64 at_, .int .i64 sz] 126 (0, 0)) := by rw [hW2, Lib.iterAt_other _ _ _ _ _ (by omega)]; exact hu
      have gi : W2.heap[W.heap.size + 1]? = some (.stringIter s (pos + (Utf8.decode s pos).2)) := by rw [hW2]; exact Lib.iterAt_heap _ _ _ _ _ hit
      have gb : Below W.heap.size wr W2 := by rw [hW2]; exact Lib.below_iterAt (Below.refl _ _) (by omega) s _
      have gc : W2.cell? ⟨Bn, 0, none⟩ = some (.string s) := (gb.cell (p := ⟨Bn, 0, none⟩) hbn).trans hcB
      have gj : J pre W2 := hJ _ _ _ hj gb
      have HW := Lib.hid hW2
      clear hW2 hu hcB hj hc hc1
      have x0 : W2.cell? ⟨W.heap.size, 0, none⟩ = some (.int .i32 r) := blk_cell gu 0
      have x1 : W2.cell? ⟨W.heap.size, 1, none⟩ = some (.int .i64 at_) := blk_cell gu 1
      have x2 : W2.cell? ⟨W.heap.size, 2, none⟩ = some (.int .i64 sz) := blk_cell gu 2
      have f0 := blk_frozen gu 0
      have f1 := blk_frozen gu 1
      have f2 := blk_frozen gu 2
      have HGU := Lib.hid gu
      have HGI := Lib.hid gi
      have HIT := Lib.hid hit
      have HGC := Lib.hid gc
      have HF := Lib.hid hfu
      clear gu gi hit gc hfu
      rcases hst with ⟨rfl, rfl, rfl, rfl⟩ | ⟨ha0, hl, hat, hpl⟩
      · gi_wp2
        refine ⟨fun _ h => (by cases h), ?_⟩
        gi_wp2
        go_roundw
        case rel =>
          exact unitsAt_next (fuel := s.size - 1) rfl (iter_far HGI.out (by simp) _) (blk_put HGU.out 2 _ rfl) hbn ((World.cell?_of_block (Below.heap_setCell _ _ _ _ (by simp; omega))).trans HGC.out) hJ (hJ _ _ _ gj (below_set' (Below.refl _ _) (Nat.le_refl _) _ _)) hp (by omega) (by rw [show s.size - 1 + 1 = s.size by omega]; rfl)
        case measure =>
          rw [iterPos_of HIT.out, iterPos_of (iter_far (iter_far (iter_far (iter_far HGI.out (by simp) _) (by simp) _) (by simp) _) (by simp) _)]
          omega
      · obtain ⟨W3, hW3⟩ : ∃ W3, W3 = W2.setCell ⟨W.heap.size, 2, none⟩ (.int .i64 ((pos : Int) - at_)) := ⟨_, rfl⟩
        have gj3 : J pre W3 := by rw [hW3]; exact hJ _ _ _ gj (below_set' (Below.refl _ _) (Nat.le_refl _) _ _)
        have gu3 : W3.heap[W.heap.size]? = some (.cells #[.int .i32 r, .int .i64 at_, .int .i64 ((pos : Int) - at_)] 126 (0, 0)) := by rw [hW3]; exact blk_put HGU.out 2 _ rfl
        have gi3 : W3.heap[W.heap.size + 1]? = some (.stringIter s (pos + (Utf8.decode s pos).2)) := by rw [hW3]; exact iter_far HGI.out (by simp) _
        have gc3 : W3.cell? ⟨Bn, 0, none⟩ = some (.string s) := by rw [hW3]; exact (World.cell?_of_block (Below.heap_setCell _ _ _ _ (by simp; omega))).trans HGC.out
        have hlen : pre.length < (unitsL s s.size 0).length := by rw [hl]; simp
        have hyy := hY pre (r, at_, (pos : Int) - at_) W3 gj3 hlen
        rw [hW3] at hyy
        obtain ⟨fn, tmps, assign, body, hy, hR⟩ := hyy
        dsimp only [uenc] at hy
        have HL := Lib.hid hl
        have HGJ := Lib.hid gj3
        have HGU3 := Lib.hid gu3
        have HGI3 := Lib.hid gi3
        have HGC3 := Lib.hid gc3
        have HW3 := Lib.hid hW3
        clear hl gj3 gu3 gi3 gc3 hW3
        gi_wp2
        refine hR.mono ?_
        clear hR hy
        rintro e W' (⟨rfl, hJ', hk⟩ | ⟨rfl, hJx'⟩)
        · have hlt3 : W.heap.size + 1 < (W2.setCell ⟨W.heap.size, 2, none⟩ (.int .i64 ((pos : Int) - at_))).heap.size := by rw [← HW3.out]; exact (Array.getElem?_eq_some_iff.1 HGI3.out).1
          have ku : W'.heap[W.heap.size]? = some (.cells #[.int .i32 r, .int .i64 at_, .int .i64 ((pos : Int) - at_)] 126 (0, 0)) := (hk.same W.heap.size (.inr (Nat.le_refl _)) (by omega)).trans (by rw [← HW3.out]; exact HGU3.out)
          have ki : W'.heap[W.heap.size + 1]? = some (.stringIter s (pos + (Utf8.decode s pos).2)) := (hk.same (W.heap.size + 1) (.inr (by omega)) hlt3).trans (by rw [← HW3.out]; exact HGI3.out)
          have kc : W'.cell? ⟨Bn, 0, none⟩ = some (.string s) := (World.cell?_of_block (hk.same Bn (.inl ⟨hnB, hBm⟩) (by omega))).trans (by rw [← HW3.out]; exact HGC3.out)
          have x0' : W'.cell? ⟨W.heap.size, 0, none⟩ = some (.int .i32 r) := blk_cell ku 0
          have x1' : W'.cell? ⟨W.heap.size, 1, none⟩ = some (.int .i64 at_) := blk_cell ku 1
          have x2' : W'.cell? ⟨W.heap.size, 2, none⟩ = some (.int .i64 ((pos : Int) - at_)) := blk_cell ku 2
          have f0' := blk_frozen ku 0
          have f1' := blk_frozen ku 1
          have f2' := blk_frozen ku 2
          have HKU := Lib.hid ku
          have HKI := Lib.hid ki
          have HKC := Lib.hid kc
          clear ku ki kc x0 x1 x2 f0 f1 f2 hk
          gi_wp2
          go_roundw
          case rel =>
            have hfu := HF.out
            obtain ⟨f, rfl⟩ : ∃ f, fuel = f + 1 := ⟨fuel - 1, by omega⟩
            exact unitsAt_next (fuel := f) rfl HKI.out HKU.out hbn HKC.out hJ hJ' hp hfu HL.out
          case measure =>
            rw [iterPos_of HIT.out, iterPos_of (iter_far (iter_far (iter_far HKI.out (by simp) _) (by simp) _) (by simp) _)]
            omega
        · gi_wp2
          refine bodyPost_ret (results_none rfl _ _ _) rfl ?_
          exact ⟨⟨_, rfl⟩, .inr ⟨pre ++ [(r, at_, (pos : Int) - at_)], by rw [HL.out]; exact List.prefix_append _ _, hJx'⟩⟩
    · have hnx : ∀ ty, (Instr.next (.pointer (some ⟨W.heap.size + 1, 0, none⟩)) true ty).run Tryd.prog wr = .ok (.tuple #[.bool false]) wr := fun ty => Lib.run_next_end_at wr (W.heap.size + 1) s pos ty hit hp
      have x0 : wr.cell? ⟨W.heap.size, 0, none⟩ = some (.int .i32 r) := blk_cell hu 0
      have x1 : wr.cell? ⟨W.heap.size, 1, none⟩ = some (.int .i64 at_) := blk_cell hu 1
      have x2 : wr.cell? ⟨W.heap.size, 2, none⟩ = some (.int .i64 sz) := blk_cell hu 2
      have f0 := blk_frozen hu 0
      have f1 := blk_frozen hu 1
      have f2 := blk_frozen hu 2
      have HU := Lib.hid hu
      clear hu hit hc hc1
      rcases hst with ⟨rfl, rfl, rfl, rfl⟩ | ⟨ha0, hl, hat, hpl⟩
      · have hs0 : s.size = 0 := by omega
        have HS := Lib.hid hs0
        have hs1 : (s.size : Int) ≤ 0 := by omega
        clear hs0
        gi_wp2
        go_end0
        exact ⟨⟨_, rfl⟩, .inl ⟨[], by rw [unitsL_end _ _ _ hp], hJ _ _ _ hj (below_set' (Below.refl _ _) (Nat.le_refl _) _ _)⟩⟩
      · have hps : pos = s.size := by omega
        rw [unitsL_end _ _ _ hp, List.append_nil] at hl
        subst hps
        have gj3 : J pre (wr.setCell ⟨W.heap.size, 2, none⟩ (.int .i64 ((s.size : Int) - at_))) := hJ _ _ _ hj (below_set' (Below.refl _ _) (Nat.le_refl _) _ _)
        have hlen : pre.length < (unitsL s s.size 0).length := by rw [hl]; simp
        obtain ⟨fn, tmps, assign, body, hy, hR⟩ := hY pre (r, at_, (s.size : Int) - at_) _ gj3 hlen
        dsimp only [uenc] at hy
        have HL := Lib.hid hl
        clear hl gj3
        gi_wp2
        refine hR.mono ?_
        clear hR hy
        rintro e W' (⟨rfl, hJ', hk⟩ | ⟨rfl, hJx'⟩)
        · gi_wp2
          go_end0
          exact ⟨⟨_, rfl⟩, .inl ⟨_, HL.out.symm, hJ'⟩⟩
        · gi_wp2
          go_end0
          exact ⟨⟨_, rfl⟩, .inr ⟨_, by rw [HL.out]; exact List.prefix_refl _, hJx'⟩⟩

theorem units_stops (F : Fence) (n : Nat) (h : F.fn 81) (hro : F.round = none) (hn : 1 ≤ n) (Bn n₀ : Nat) (s : ByteArray) (hs : s.size ≤ 9223372036854775807) (w : World) (hnB : n₀ ≤ Bn) (hBn : Bn < w.heap.size) (hc : w.cell? ⟨Bn, 0, none⟩ = some (.string s)) :
    SeqStopsU n₀ F n Tryd.prog 81 #[.pointer (some ⟨Bn, 0, none⟩)] uenc (fun xs => xs = unitsL s s.size 0) (fun pre => pre <+: unitsL s s.size 0) (unitsL s s.size 0).length w := fun l J Jx W hW hJ hJx hY h0 =>
  units1_in F n h hro hn l Bn n₀ w.heap.size s hs J Jx W hnB hBn hW.size hJ hJx hY ((hW.cell (p := ⟨Bn, 0, none⟩) hBn).trans hc) h0

set_option maxRecDepth 100000 in
set_option maxHeartbeats 2000000 in
theorem valid_in (n : Nat) (hn : 3 ≤ n) (s : ByteArray) (hs : s.size ≤ 9223372036854775807) (w : World) :
    CallsIn Fence.wide n Tryd.prog 68 #[.string s] w fun e W' => e = .returned (.bool (validB s)) ∧ Below w.heap.size w W' := by
  have h1 : 1 ≤ n := by omega
  refine callsIn_of_wp_marks Tryd.func68 rfl trivial ?_ rfl
  simp only [Tryd.ntmps68, List.size_toArray, List.length_cons, List.length_nil, Nat.reduceAdd, Nat.reduceSub, Array.replicate_succ, Array.replicate_zero, List.push_toArray, List.append_toArray, List.nil_append, List.cons_append]
  gi_wp2_with (refine ⟨trivial, ?_⟩; gi_at_call 76; refine (units_in Fence.wide (n - 1) trivial rfl _ _).mono ?_; rintro e w' ⟨rfl, rfl⟩)
  have hsb := blk_new w (.cells #[.bool false] 4)
  have cB : ((w.alloc (.cells #[.bool false] 4)).alloc (.cells #[.string s] 9)).cell? ⟨w.heap.size + 1, 0, none⟩ = some (.string s) := by
    have h0 := blk_cell (blk_new (w.alloc (.cells #[.bool false] 4)) (.cells #[.string s] 9)) 0
    rw [World.size_alloc] at h0
    exact h0
  obtain ⟨W0, hW0⟩ : ∃ W0, (w.alloc (.cells #[.bool false] 4)).alloc (.cells #[.string s] 9) = W0 := ⟨_, rfl⟩
  have hB0 : Below w.heap.size w W0 := by rw [← hW0]; exact ((Below.refl _ w).alloc (Nat.le_refl _) _).alloc (by simp) _
  have hz0 : W0.heap.size = w.heap.size + 2 := by rw [← hW0]; simp
  have hb0 : W0.heap[w.heap.size]? = some (.cells #[.bool false] 4 (0, 0)) := by rw [← hW0]; exact blk_alloc hsb _
  rw [hW0] at cB ⊢
  clear hW0 hsb
  refine wpIn_rangeFunc_ownU (F := Fence.wide) rfl h1 (gf := 81) (lb := #[.pointer (some ⟨w.heap.size + 1, 0, none⟩)]) rfl trivial (enters_of Tryd.func81 (by kernel_rfl) rfl)
    (n₀ := w.heap.size + 1) (by omega) (units_stops Fence.wide (n - 1) trivial rfl (by omega) (w.heap.size + 1) (w.heap.size + 1) s hs W0 (Nat.le_refl _) (by omega) cB) (Below.refl _ _) (fun _ => rfl)
    (fun pre W => pre.all unitOk = true ∧ W.heap[w.heap.size]? = some (.cells #[.bool false] 4 (0, 0)) ∧ Below w.heap.size w W)
    (fun c pre W => c = .ret ∧ pre.all unitOk = false ∧ W.heap[w.heap.size]? = some (.cells #[.bool false] 4 (0, 0)) ∧ Below w.heap.size w W)
    (fun _ A B h hb => ⟨h.1, (hb.block _ (by omega)).trans h.2.1, h.2.2.trans (hb.mono (by omega))⟩)
    (fun _ _ A B h hb => ⟨h.1, h.2.1, (hb.block _ (by omega)).trans h.2.2.1, h.2.2.2.trans (hb.mono (by omega))⟩)
    ⟨rfl, hb0, hB0⟩
    (fun x a' W => ∃ Bx, W0.heap.size + 2 ≤ Bx ∧ W.heap[Bx]? = some (.cells #[.int .i32 x.1, .int .i64 x.2.1, .int .i64 x.2.2] 126 (0, 0)) ∧ a' = { tmps := #[.string s, undef, .pointer (some ⟨w.heap.size, 0, none⟩), .pointer (some ⟨Bx, 0, none⟩), .string s, .func (.func 81) #[] #[.pointer (some ⟨w.heap.size + 1, 0, none⟩)], .agg #[.int .i32 x.1, .int .i64 x.2.1, .int .i64 x.2.2], undef, undef, undef], defers := [] })
    (fun x a' A l o' h hl => by obtain ⟨Bx, h1, h2, h3⟩ := h; exact ⟨Bx, h1, (World.putObj_heap_other (by omega)).trans h2, h3⟩)
    ?assign ?body ?done ?stop
  case assign =>
    rintro l pre x W K hz hi hK
    dsimp only [uenc]
    gi_wp2
    exact hK _ _ (KeepsOn.alloc _ _) ⟨hi.1, blk_alloc hi.2.1 _, below_alloc hi.2.2 _⟩ ⟨W.heap.size, by omega, blk_new _ _, rfl⟩
  case body =>
    rintro l pre x a' W hz ⟨hv, hb, hB⟩ ⟨Bx, hBx, hbx, rfl⟩ hlt
    have x0 : W.cell? ⟨Bx, 0, none⟩ = some (.int .i32 x.1) := blk_cell hbx 0
    have x1 : W.cell? ⟨Bx, 1, none⟩ = some (.int .i64 x.2.1) := blk_cell hbx 1
    have x2 : W.cell? ⟨Bx, 2, none⟩ = some (.int .i64 x.2.2) := blk_cell hbx 2
    have hn1 : 1 ≤ n - 1 - 1 := by omega
    have HB := Lib.hid hb
    clear hb hbx
    gi_wp2_with (refine ⟨trivial, ?_⟩; gi_at_call 77; refine (CallsIn.inRound l (callsIn_wide.2 (unit_valid x W))).mono ?_; rintro e w1 ⟨rfl, hb1⟩; have hr1 := blk_below HB.out hb1; have c1 : w1.cell? ⟨w.heap.size, 0, none⟩ = some (.bool false) := blk_cell hr1 0; have f1 := blk_frozen hr1 0; have HR := Lib.hid hr1; clear hr1)
    · have hx : unitOk x = false := by simpa using (by assumption : (!unitOk x) = true)
      exact ⟨(KeepsOn.below hb1).trans (KeepsOn.setCell _ (by simp) _), rfl, by rw [List.all_append, hv]; simp [hx], blk_put HR.out 0 _ rfl, below_set' (below_then hB hB.size hb1) (Nat.le_refl _) _ _⟩
    · have hx : unitOk x = true := by
        have : (!unitOk x) = false := by assumption
        simpa using this
      exact ⟨KeepsOn.below hb1, by rw [List.all_append, hv]; simp [hx], HR.out, below_then hB hB.size hb1⟩
  case done =>
    rintro D ys W hD rfl ⟨hv, hb, hB⟩ hK
    have c0 := blk_cell hb 0
    have f0 := blk_frozen hb 0
    gi_wp2
    have hK' := (KeepsOthers.setCell W ⟨w.heap.size, 0, none⟩ (.bool true)).same D _ hK rfl
    refine ⟨by simp, .inl ⟨_, _, rfl, run_takeDeferred hK', ?_⟩⟩
    have hc5 := cell_kept (World.cell?_setCell_same' W ⟨w.heap.size, 0, none⟩ (.bool true) (by rw [c0]; rfl)) (grownBy_putObj' _ D (.deferred none)) (fun r e => by cases e; exact ⟨_, hK', rfl⟩)
    refine ⟨.bool true, ?_, by unfold validB; rw [hv], (hB.setCell (p := ⟨w.heap.size, 0, none⟩) (Nat.le_refl _) _).trans (belowK_b (w := w) (Nat.le_refl _) _ D _ _ (by omega) hK' rfl rfl)⟩
    simp [results, Tryd.f68, go_sem, hc5]
  case stop =>
    rintro D c pre W hD hpre ⟨rfl, hv, hb, hB⟩ hK
    have c0 := blk_cell hb 0
    have f0 := blk_frozen hb 0
    gi_wp2
    refine ⟨by simp, .inl ⟨_, _, rfl, run_takeDeferred hK, ?_⟩⟩
    have hc5 := cell_kept c0 (grownBy_putObj' _ D (.deferred none)) (fun r e => by cases e; exact ⟨_, hK, rfl⟩)
    refine ⟨.bool false, ?_, ?_, hB.trans (belowK_b (w := w) (Nat.le_refl _) _ D _ _ (by omega) hK rfl rfl)⟩
    · simp [results, Tryd.f68, go_sem, hc5]
    · obtain ⟨t, ht⟩ := hpre
      unfold validB
      rw [← ht, List.all_append, hv]
      rfl

/-- codepoint.Valid. -/
theorem valid_any (s : ByteArray) (hs : s.size ≤ 9223372036854775807) (w : World) : Calls Tryd.prog 68 #[.string s] w fun e w' => e = .returned (.bool (validB s)) ∧ Below w.heap.size w w' :=
  (callsIn_wide (n := 3)).1 (valid_in 3 (Nat.le_refl _) s hs w)

/-! ### markup.ValidValue -/
/-- No control character among the code points from place p on. -/
def plainFrom (s : ByteArray) : Nat → Nat → Bool
  | 0, _ => true
  | b + 1, p => if p < s.size then (if (Utf8.decode s p).1 ≤ 31 ∨ (Utf8.decode s p).1 = 127 then false else plainFrom s b (p + (Utf8.decode s p).2)) else true
def ctlE (b : Bool) : Int := if b then 0 else 14
/-- The reason why s is no value. -/
def valueE (s : ByteArray) : Int := if 120 < s.size then 2 else if validB s then ctlE (plainFrom s s.size 0) else 7

set_option maxRecDepth 100000 in
set_option maxHeartbeats 2000000 in
theorem value_any (s : ByteArray) (w : World) : Calls Tryd.prog 55 #[.string s] w fun e w' => e = .returned (.int .i64 (valueE s)) ∧ Below w.heap.size w w' := by
  by_cases hl : 120 < s.size
  · have hv : valueE s = 2 := by unfold valueE; rw [if_pos hl]
    rw [hv]
    have hlb : (120 : Int) < s.size := by omega
    go_enter Tryd.func55, Tryd.ntmps55
    go_wp2
    go_ret
    exact ⟨rfl, Below.refl _ _⟩
  have hlb : ¬ (120 : Int) < s.size := by omega
  have hs : s.size ≤ 9223372036854775807 := by omega
  by_cases hvb : validB s = true
  case neg =>
    have hv : valueE s = 7 := by unfold valueE; rw [if_neg hl, if_neg hvb]
    rw [hv]
    have hvf : validB s = false := Bool.eq_false_iff.2 hvb
    clear hvb
    go_enter Tryd.func55, Tryd.ntmps55
    go_wp2_with (go_at_call 68; refine (valid_any _ hs _).mono ?_; rintro e w1 ⟨rfl, hb⟩)
    go_ret
    exact ⟨rfl, hb⟩
  have hv : valueE s = ctlE (plainFrom s s.size 0) := by unfold valueE; rw [if_neg hl, if_pos hvb]
  rw [hv]
  go_enter Tryd.func55, Tryd.ntmps55
  go_wp2_with (go_at_call 68; refine (valid_any _ hs _).mono ?_; rintro e w1 ⟨rfl, hb⟩)
  go_loopw [] (fun wr => ∃ pos fuel : Nat, wr.heap[w1.heap.size]? = some (.stringIter s pos) ∧ Below w.heap.size w wr ∧ plainFrom s s.size 0 = plainFrom s fuel pos ∧ s.size ≤ pos + fuel) (fun wr => s.size - wr.iterPos w1.heap.size)
  case atStart =>
    refine ⟨0, s.size, ?_, ?_, rfl, by omega⟩
    · simpa [World.iter] using blk_new w1 (.stringIter s 0)
    · exact below_alloc hb (.stringIter s 0)
  case round =>
    obtain ⟨pos, fuel, hit, hb2, hpl, hfu⟩ := hrel
    by_cases hp : pos < s.size
    · obtain ⟨W2, hW2⟩ : ∃ W2, W2 = wr.iterAt w1.heap.size s (pos + (Utf8.decode s pos).2) := ⟨_, rfl⟩
      have hnx : ∀ ty, (Instr.next (.pointer (some ⟨w1.heap.size, 0, none⟩)) true ty).run Tryd.prog wr = .ok (.tuple #[.bool true, .int .i64 pos, .int .i32 (Utf8.decode s pos).1]) W2 := fun ty => by rw [hW2]; exact Lib.run_next_any_at wr w1.heap.size s pos ty hit hp
      have hwd := width_pos s pos hp
      have hd1 := decode_le s pos
      have gi : W2.heap[w1.heap.size]? = some (.stringIter s (pos + (Utf8.decode s pos).2)) := by rw [hW2]; exact Lib.iterAt_heap _ _ _ _ _ hit
      have gb : Below w.heap.size w W2 := by rw [hW2]; exact Lib.below_iterAt hb2 hb.size s _
      have HW := Lib.hid hW2
      have HIT := Lib.hid hit
      have HGI := Lib.hid gi
      clear hW2 hit gi
      obtain ⟨f, rfl⟩ : ∃ f, fuel = f + 1 := ⟨fuel - 1, by omega⟩
      have hun : plainFrom s (f + 1) pos = if (Utf8.decode s pos).1 ≤ 31 ∨ (Utf8.decode s pos).1 = 127 then false else plainFrom s f (pos + (Utf8.decode s pos).2) := by simp only [plainFrom, hp, if_true]
      rw [hun] at hpl
      clear hun
      by_cases c1 : (Utf8.decode s pos).1 ≤ 31
      · rw [if_pos (.inl c1)] at hpl
        have b1 : decide (((Utf8.decode s pos).1 : Int) ≤ 31) = true := decide_eq_true (by omega)
        have HP := Lib.hid hpl
        clear hpl
        go_wp2
        go_ret
        exact ⟨by rw [HP.out]; rfl, gb⟩
      · by_cases c2 : (Utf8.decode s pos).1 = 127
        · rw [if_pos (.inr c2)] at hpl
          have b1 : decide (((Utf8.decode s pos).1 : Int) ≤ 31) = false := decide_eq_false (by omega)
          have b2 : (((Utf8.decode s pos).1 : Int) == 127) = true := beq_iff_eq.2 (by omega)
          have HP := Lib.hid hpl
          clear hpl c2
          go_wp2
          go_ret
          exact ⟨by rw [HP.out]; rfl, gb⟩
        · rw [if_neg (by omega)] at hpl
          have b1 : decide (((Utf8.decode s pos).1 : Int) ≤ 31) = false := decide_eq_false (by omega)
          have b2 : (((Utf8.decode s pos).1 : Int) == 127) = false := beq_eq_false_iff_ne.2 (by omega)
          have HP := Lib.hid hpl
          clear hpl c2
          go_wp2
          go_roundw
          case rel => exact ⟨_, f, HGI.out, gb, HP.out, by omega⟩
          case measure =>
            rw [iterPos_of HIT.out, iterPos_of HGI.out]
            omega
    · have hnx : ∀ ty, (Instr.next (.pointer (some ⟨w1.heap.size, 0, none⟩)) true ty).run Tryd.prog wr = .ok (.tuple #[.bool false]) wr := fun ty => Lib.run_next_end_at wr w1.heap.size s pos ty hit hp
      have he : plainFrom s fuel pos = true := by cases fuel <;> simp [plainFrom, hp]
      rw [he] at hpl
      have HP := Lib.hid hpl
      clear hpl
      go_wp2
      go_ret
      exact ⟨by rw [HP.out]; rfl, hb2⟩

end Go.Proofs.YtebajpebongabaaDoor.V

namespace Go.Proofs.YtebajpebongabaaDoor.X
open Go.RowKit Go.Proofs.YtebajpebongabaaDoorW.PrintWords
def markup_ValidValue.f (a0 : ByteArray) : Option Int := some (V.valueE a0)
theorem markup_ValidValue.calls (a0 : ByteArray) (r : Int) (w : World) (h : markup_ValidValue.f a0 = some r) : Calls Tryd.prog 55 #[.string a0] w fun e w' => e = .returned (.int .i64 r) ∧ Below w.heap.size w w' := by
  obtain rfl := Option.some.inj h
  exact V.value_any a0 w

end Go.Proofs.YtebajpebongabaaDoor.X
