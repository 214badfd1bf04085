/- Several texts in one; each says what it is. No condition beyond theirs. -/
import Derived.WalkKit
import Derived.Below
import Derived.Lib.Hide
import Derived.Test.YtebajpebongabaaDoorProg
import Derived.Test.YtebajpebongabaaDoorWAll
import Derived.Test.YtebajpebongabaaDoorPx0
import Derived.Test.YtebajpebongabaaDoorTg
import Derived.StillTail
import Derived.Deep.RegionHeld
import Derived.Deep.RegionLaw
import Derived.Test.YtebajpebongabaaDoorSo
/- The reader of package vertical, as it stands in memory: its block, its rows, and what a store into one of them leaves. No condition. -/
namespace Go.Proofs.YtebajpebongabaaDoor.V
open Go.RowKit Go.Proofs.YtebajpebongabaaDoorW.PrintWords Go.Proofs.YtebajpebongabaaDoorW.PrintMore Go.Proofs.YtebajpebongabaaDoor.P Go.Proofs.YtebajpebongabaaDoor.X
set_option linter.unusedVariables false
set_option linter.unusedSimpArgs false

abbrev kTok : Kd (List ByteArray) := Kd.slice 9 Kd.string

/-- What the reader holds. -/
structure St where
  att : List S55
  toks : List (List ByteArray)
  texts : List S61
  regs : List S58
  opens : List S58
  text : Bool

abbrev rdObj (va vt vx vr vo : Value) (b : Bool) : Obj := .cells #[va, vt, vx, vr, .slice none 0 0, .slice none 0 0, .slice none 0 0, vo, .bool b] 44 (0, 0)

/-- The reader's block and rows. -/
structure RP (w : World) (base G : Nat) (s : St) (va vt vx vr vo : Value) : Prop where
  blk : w.heap[G]? = some (rdObj va vt vx vr vo s.text)
  le : base ≤ G
  ra : Kd.R k55 55 w base (fun _ => True) va s.att
  rt : Kd.R kTok 28 w base (fun _ => True) vt s.toks
  rx : Kd.R k61 61 w base (fun _ => True) vx s.texts
  rr : Kd.R k58 58 w base (fun _ => True) vr s.regs
  ro : Kd.R k58 58 w base (fun _ => True) vo s.opens
  ne : ∀ k, vr.ownBlock = some k → vo.ownBlock ≠ some k

/-- Bounds that every state of the reader keeps. -/
structure StOk (s : St) : Prop where
  att : s.att.length ≤ 16
  toks : s.toks.length ≤ 4096
  texts : s.texts.length ≤ 64
  regs : s.regs.length + s.opens.length ≤ 1024
  one : s.text = true → 0 < s.texts.length

def RS (w : World) (base G : Nat) (s : St) : Prop := StOk s ∧ ∃ va vt vx vr vo, RP w base G s va vt vx vr vo

/-- What a method of the reader leaves as it was: what is below base, and every block that is none of the reader's own. -/
structure Fr (base : Nat) (w w' : World) : Prop where
  low : Below base w w'
  keep : ∀ k, k < w.heap.size → (∀ cells t, w.heap[k]? = some (.cells cells t (0, 0)) → t ≠ 44 ∧ t ≠ 28 ∧ t ≠ 61 ∧ t ≠ 58) → w'.heap[k]? = w.heap[k]?

theorem Fr.of_below {base : Nat} {w w' : World} (hb : Below w.heap.size w w') (hl : base ≤ w.heap.size) : Fr base w w' :=
  ⟨⟨hb.os, hb.tape, hb.output, hb.size, fun k hk => hb.block k (by omega)⟩, fun k hk _ => hb.block k hk⟩
theorem Fr.trans {base : Nat} {w w1 w2 : World} (h : Fr base w w1) (g : Fr base w1 w2) : Fr base w w2 :=
  ⟨h.low.trans g.low, fun k hk ht => (g.keep k (Nat.lt_of_lt_of_le hk h.low.size) (fun cells t hc => ht cells t (by rw [← h.keep k hk ht]; exact hc))).trans (h.keep k hk ht)⟩
theorem Fr.blk {base : Nat} {w w' : World} (h : Fr base w w') {k : Nat} {cells : Array Value} {t : TypeId} (hc : w.heap[k]? = some (.cells cells t (0, 0))) (ht : t ≠ 44 ∧ t ≠ 28 ∧ t ≠ 61 ∧ t ≠ 58) : w'.heap[k]? = some (.cells cells t (0, 0)) :=
  (h.keep k (Array.getElem?_eq_some_iff.1 hc).1 (fun c u hu => by rw [hc] at hu; injection hu with hu; injection hu with _ hu; subst hu; exact ht)).trans hc

section
variable {w w1 : World} {base G : Nat} {s : St} {va vt vx vr vo : Value}
theorem RP.lt (h : RP w base G s va vt vx vr vo) : G < w.heap.size := (Array.getElem?_eq_some_iff.1 h.blk).1
theorem RP.below (h : RP w base G s va vt vx vr vo) (hb : Below w.heap.size w w1) : RP w1 base G s va vt vx vr vo :=
  ⟨(hb.block G h.lt).trans h.blk, h.le, Kd.R_below h.ra hb, Kd.R_below h.rt hb, Kd.R_below h.rx hb, Kd.R_below h.rr hb, Kd.R_below h.ro hb, h.ne⟩
theorem RS.below (h : RS w base G s) (hb : Below w.heap.size w w1) : RS w1 base G s := by
  obtain ⟨hk, va, vt, vx, vr, vo, h⟩ := h
  exact ⟨hk, va, vt, vx, vr, vo, h.below hb⟩

/-- The rows of one kind are none of another's own block, by types. -/
theorem R_apart {α β : Type} {d : Kd α} {d' : Kd β} {e e' : Nat} {ok ok' : Nat → Prop} {base' : Nat} {v v' : Value} {xs : List α} {ys : List β} (h : d.R e w base ok v xs) (h' : d'.R e' w base' ok' v' ys) (ht : ∀ q, q ∈ e :: d.E → q ≠ e') :
    d.R e w base (fun k => ok k ∧ some k ≠ v'.ownBlock) v xs :=
  Kd.R_mono (Kd.R_bound h) (fun k hk => ⟨hk.1, fun he => by
    obtain ⟨_, _, _, q, hq, cells, hc⟩ := hk
    obtain ⟨inner, ho⟩ := Kd.R_own h'
    obtain ⟨cells', hc'⟩ := own_typed ho k he.symm
    rw [hc] at hc'
    injection hc' with hc'
    injection hc' with _ hc'
    exact ht q hq hc'⟩)
theorem R_apart_same {α β : Type} {d : Kd α} {d' : Kd β} {e : Nat} {ok ok' : Nat → Prop} {base' : Nat} {v v' : Value} {xs : List α} {ys : List β} (h : d.R e w base ok v xs) (h' : d'.R e w base' ok' v' ys) (ht : ∀ q, q ∈ d.E → q ≠ e) (hne : ∀ k, v'.ownBlock = some k → v.ownBlock ≠ some k) :
    d.R e w base (fun k => ok k ∧ some k ≠ v'.ownBlock) v xs := by
  obtain ⟨h0, inner, ho, hr⟩ := h
  refine ⟨fun k hk => ⟨h0 k hk, fun he => hne k he.symm hk⟩, inner, ho, hr.imp_ (fun _ _ hp => d.M_mono (fun k hk => ?_) (d.M_bound hp))⟩
  obtain ⟨⟨h1, h2⟩, h3, h4, q, hq, cells, hc⟩ := hk
  refine ⟨⟨h1, fun he => ?_⟩, h2⟩
  obtain ⟨inner', ho'⟩ := Kd.R_own h'
  obtain ⟨cells', hc'⟩ := own_typed ho' k he.symm
  rw [hc] at hc'
  injection hc' with hc'
  injection hc' with _ hc'
  exact ht q hq hc'
/-- After another row has been written. -/
theorem R_still {α : Type} {d : Kd α} {e : Nat} {v : Value} {xs : List α} {row : Option Nat} (h : d.R e w base (fun k => True ∧ some k ≠ row) v xs) (hg : w.grownBy w1 row) : d.R e w1 base (fun _ => True) v xs :=
  Kd.R_mono (Kd.R_grown h hg (fun k hk => hk.2)) (fun _ _ => trivial)
theorem blk_still {c : Array Value} {t : TypeId} {g : Nat} {row : Option Nat} (h : w.heap[g]? = some (.cells c t (0, 0))) (hg : w.grownBy w1 row) (hn : some g ≠ row) : w1.heap[g]? = some (.cells c t (0, 0)) := blk_grown h hg hn

/-- What a row's growth leaves, seen from the callers. -/
theorem Fr.grown {α : Type} {d : Kd α} {e : Nat} {ok : Nat → Prop} {v : Value} {xs : List α} (h : d.R e w base ok v xs) (hg : w.grownBy w1 v.ownBlock) (he : e = 44 ∨ e = 28 ∨ e = 61 ∨ e = 58) (hb : Below base w w1) : Fr base w w1 := by
  refine ⟨hb, fun k hk ht => hg.block k hk (fun hv => ?_)⟩
  obtain ⟨inner, ho⟩ := Kd.R_own h
  obtain ⟨cells, hc⟩ := own_typed ho k hv.symm
  have := ht cells e hc
  rcases he with rfl | rfl | rfl | rfl
  · exact this.1 rfl
  · exact this.2.1 rfl
  · exact this.2.2.1 rfl
  · exact this.2.2.2 rfl
theorem Fr.put {c : Array Value} {t : TypeId} (hG : w.heap[G]? = some (.cells c t (0, 0))) (ht : t = 44 ∨ t = 28 ∨ t = 61 ∨ t = 58) (hle : base ≤ G) (j : Nat) (u : Value) : Fr base w (w.setCell ⟨G, j, none⟩ u) := by
  refine ⟨(Below.refl base w).setCell hle u, fun k hk hh => Below.heap_setCell w ⟨G, j, none⟩ u k (fun e => ?_)⟩
  have e' : k = G := e
  subst e'
  have := hh c t hG
  rcases ht with rfl | rfl | rfl | rfl
  · exact this.1 rfl
  · exact this.2.1 rfl
  · exact this.2.2.1 rfl
  · exact this.2.2.2 rfl

theorem info_reg : (Tryd.prog.info? 58).map (fun i => (i.zero, i.size, i.bytes)) = some (some (.agg #[.string ⟨#[]⟩, .int .i64 0, .int .i64 0, .slice none 0 0]), 4, 56) := by kernel_rfl
theorem info_text : (Tryd.prog.info? 61).map (fun i => (i.zero, i.size, i.bytes)) = some (some (.agg #[.string ⟨#[]⟩, .int .i64 0, .int .i64 0, .slice none 0 0]), 4, 56) := by kernel_rfl
theorem info_strs : (Tryd.prog.info? 28).map (fun i => (i.zero, i.size, i.bytes)) = some (some (.slice none 0 0), 1, 24) := by kernel_rfl

theorem fresh_ne {α : Type} {d : Kd α} {e : Nat} {ok : Nat → Prop} {v v0 v1 : Value} {xs : List α} (h : d.R e w base ok v xs) (hne : ∀ k, v.ownBlock = some k → v0.ownBlock ≠ some k) (hat : v1.ownBlock = v0.ownBlock ∨ ∃ b, v1.ownBlock = some b ∧ w.heap.size ≤ b) :
    ∀ k, v.ownBlock = some k → v1.ownBlock ≠ some k := by
  intro k hk he
  rcases hat with hat | ⟨b, hb, hle⟩
  · exact hne k hk (hat ▸ he)
  · obtain ⟨inner, ho⟩ := Kd.R_own h
    have := own_lt ho k hk
    rw [hb] at he
    injection he with he
    omega

theorem RP.opensTo (h : RP w base G s va vt vx vr vo) {v1 : Value} {ys : List S58} (hR : Kd.R k58 58 w1 base (fun _ => True) v1 ys) (hg : w.grownBy w1 vo.ownBlock) (hat : v1.ownBlock = vo.ownBlock ∨ ∃ b, v1.ownBlock = some b ∧ w.heap.size ≤ b) :
    RP (w1.setCell ⟨G, 7, none⟩ v1) base G { s with opens := ys } va vt vx vr v1 := by
  have hb1 : w1.heap[G]? = some (rdObj va vt vx vr vo s.text) := blk_still h.blk hg (Kd.R_ne h.ro h.blk (by decide))
  exact ⟨blk_put hb1 7 _ rfl, h.le, Kd.R_set (R_still (R_apart h.ra h.ro (by decide)) hg) hb1 (by decide) 7 v1, Kd.R_set (R_still (R_apart h.rt h.ro (by decide)) hg) hb1 (by decide) 7 v1, Kd.R_set (R_still (R_apart h.rx h.ro (by decide)) hg) hb1 (by decide) 7 v1,
    Kd.R_set (R_still (R_apart_same h.rr h.ro (by decide) (fun k hk hv => h.ne k hv hk)) hg) hb1 (by decide) 7 v1, Kd.R_set hR hb1 (by decide) 7 v1, fresh_ne h.rr h.ne hat⟩
theorem RP.regsTo (h : RP w base G s va vt vx vr vo) {v1 : Value} {ys : List S58} (hR : Kd.R k58 58 w1 base (fun _ => True) v1 ys) (hg : w.grownBy w1 vr.ownBlock) (hat : v1.ownBlock = vr.ownBlock ∨ ∃ b, v1.ownBlock = some b ∧ w.heap.size ≤ b) :
    RP (w1.setCell ⟨G, 3, none⟩ v1) base G { s with regs := ys } va vt vx v1 vo := by
  have hb1 : w1.heap[G]? = some (rdObj va vt vx vr vo s.text) := blk_still h.blk hg (Kd.R_ne h.rr h.blk (by decide))
  exact ⟨blk_put hb1 3 _ rfl, h.le, Kd.R_set (R_still (R_apart h.ra h.rr (by decide)) hg) hb1 (by decide) 3 v1, Kd.R_set (R_still (R_apart h.rt h.rr (by decide)) hg) hb1 (by decide) 3 v1, Kd.R_set (R_still (R_apart h.rx h.rr (by decide)) hg) hb1 (by decide) 3 v1,
    Kd.R_set hR hb1 (by decide) 3 v1, Kd.R_set (R_still (R_apart_same h.ro h.rr (by decide) (fun k hk hv => h.ne k hk hv)) hg) hb1 (by decide) 3 v1, fun k hk hv => fresh_ne h.ro (fun k hk hv => h.ne k hv hk) hat k hv hk⟩
theorem RP.toksTo (h : RP w base G s va vt vx vr vo) {v1 : Value} {ys : List (List ByteArray)} (hR : Kd.R kTok 28 w1 base (fun _ => True) v1 ys) (hg : w.grownBy w1 vt.ownBlock) :
    RP (w1.setCell ⟨G, 1, none⟩ v1) base G { s with toks := ys } va v1 vx vr vo := by
  have hb1 : w1.heap[G]? = some (rdObj va vt vx vr vo s.text) := blk_still h.blk hg (Kd.R_ne h.rt h.blk (by decide))
  exact ⟨blk_put hb1 1 _ rfl, h.le, Kd.R_set (R_still (R_apart h.ra h.rt (by decide)) hg) hb1 (by decide) 1 v1, Kd.R_set hR hb1 (by decide) 1 v1, Kd.R_set (R_still (R_apart h.rx h.rt (by decide)) hg) hb1 (by decide) 1 v1,
    Kd.R_set (R_still (R_apart h.rr h.rt (by decide)) hg) hb1 (by decide) 1 v1, Kd.R_set (R_still (R_apart h.ro h.rt (by decide)) hg) hb1 (by decide) 1 v1, h.ne⟩
theorem RP.textsTo (h : RP w base G s va vt vx vr vo) {v1 : Value} {ys : List S61} (hR : Kd.R k61 61 w1 base (fun _ => True) v1 ys) (hg : w.grownBy w1 vx.ownBlock) :
    RP (w1.setCell ⟨G, 2, none⟩ v1) base G { s with texts := ys } va vt v1 vr vo := by
  have hb1 : w1.heap[G]? = some (rdObj va vt vx vr vo s.text) := blk_still h.blk hg (Kd.R_ne h.rx h.blk (by decide))
  exact ⟨blk_put hb1 2 _ rfl, h.le, Kd.R_set (R_still (R_apart h.ra h.rx (by decide)) hg) hb1 (by decide) 2 v1, Kd.R_set (R_still (R_apart h.rt h.rx (by decide)) hg) hb1 (by decide) 2 v1, Kd.R_set hR hb1 (by decide) 2 v1,
    Kd.R_set (R_still (R_apart h.rr h.rx (by decide)) hg) hb1 (by decide) 2 v1, Kd.R_set (R_still (R_apart h.ro h.rx (by decide)) hg) hb1 (by decide) 2 v1, h.ne⟩
theorem RP.textTo (h : RP w base G s va vt vx vr vo) (b : Bool) : RP (w.setCell ⟨G, 8, none⟩ (.bool b)) base G { s with text := b } va vt vx vr vo :=
  ⟨blk_put h.blk 8 _ rfl, h.le, Kd.R_set h.ra h.blk (by decide) 8 _, Kd.R_set h.rt h.blk (by decide) 8 _, Kd.R_set h.rx h.blk (by decide) 8 _, Kd.R_set h.rr h.blk (by decide) 8 _, Kd.R_set h.ro h.blk (by decide) 8 _, h.ne⟩
/-- A row rewritten in place (the texts' own block): the value stays. -/
theorem RP.textsIn (h : RP w base G s va vt vx vr vo) {ys : List S61} (hR : Kd.R k61 61 w1 base (fun _ => True) vx ys) (hg : w.grownBy w1 vx.ownBlock) :
    RP w1 base G { s with texts := ys } va vt vx vr vo := by
  have hb1 : w1.heap[G]? = some (rdObj va vt vx vr vo s.text) := blk_still h.blk hg (Kd.R_ne h.rx h.blk (by decide))
  exact ⟨hb1, h.le, R_still (R_apart h.ra h.rx (by decide)) hg, R_still (R_apart h.rt h.rx (by decide)) hg, hR, R_still (R_apart h.rr h.rx (by decide)) hg, R_still (R_apart h.ro h.rx (by decide)) hg, h.ne⟩
/-- A store into a fault's variable. -/
theorem RP.side (h : RP w base G s va vt vx vr vo) {F : Nat} {cells : Array Value} (hF : w.heap[F]? = some (.cells cells 48 (0, 0))) (j : Nat) (u : Value) : RP (w.setCell ⟨F, j, none⟩ u) base G s va vt vx vr vo :=
  ⟨blk_far h.blk (blk_ne h.blk hF (by decide)) _, h.le, Kd.R_set h.ra hF (by decide) j u, Kd.R_set h.rt hF (by decide) j u, Kd.R_set h.rx hF (by decide) j u, Kd.R_set h.rr hF (by decide) j u, Kd.R_set h.ro hF (by decide) j u, h.ne⟩
theorem RS.side (h : RS w base G s) {F : Nat} {cells : Array Value} (hF : w.heap[F]? = some (.cells cells 48 (0, 0))) (u v : Value) : RS ((w.setCell ⟨F, 0, none⟩ u).setCell ⟨F, 1, none⟩ v) base G s := by
  obtain ⟨hk, va, vt, vx, vr, vo, h⟩ := h
  exact ⟨hk, va, vt, vx, vr, vo, RP.side (RP.side h hF 0 u) (blk_put hF 0 u rfl) 1 v⟩
/-- Stores into a block of the callee's own. -/
theorem Fr.fresh (h : Fr base w w1) {F : Nat} (hF : w.heap.size ≤ F) (hl : base ≤ w.heap.size) (u v : Value) : Fr base w ((w1.setCell ⟨F, 0, none⟩ u).setCell ⟨F, 1, none⟩ v) :=
  ⟨(h.low.setCell (Nat.le_trans hl hF) u).setCell (Nat.le_trans hl hF) v, fun k hk ht => by
    have hkF : k ≠ F := by omega
    rw [Below.heap_setCell _ _ _ _ hkF, Below.heap_setCell _ _ _ _ hkF]
    exact h.keep k hk ht⟩
end
end Go.Proofs.YtebajpebongabaaDoor.V
/- Regions that draw their order and end in a forced tail (a store behind an append): loads of what the tail writes may be taken first, for the tail waits for every other operation. Laws beside Derived.OrdersHeld and Derived.StillTail. No condition. -/
namespace Go.Proofs.YtebajpebongabaaDoor.V
open Go
set_option linter.unusedVariables false
set_option linter.unusedSimpArgs false

section
variable {P : Program} {ops : Array Oper} {Q : Exit → Act → World → Prop} {S : World → Prop} {n : Nat}

/-- Whatever order is picked; S holds behind every operation before the tail. -/
def wpAnyK (P : Program) (ops : Array Oper) (Q : Exit → Act → World → Prop) (S : World → Prop) (n : Nat) : Nat → Array Bool → Act → World → Prop
  | 0, listed, a, w => Region.ready .any ops listed = [] ∧ Q .normal a w
  | fuel + 1, listed, a, w =>
    (Region.ready .any ops listed = [] → Q .normal a w) ∧
    ∀ i ∈ Region.ready .any ops listed, if i < n then wpOp P ops Q i (fun a' w' => S w' ∧ wpAnyK P ops Q S n fuel (listed.setIfInBounds i true) a' w') a w
      else wpOp P ops Q i (wpAny P .any ops Q fuel (listed.setIfInBounds i true)) a w

theorem wpAny_of_K : ∀ (fuel : Nat) (listed : Array Bool) (a : Act) (w : World), wpAnyK P ops Q S n fuel listed a w → wpAny P .any ops Q fuel listed a w
  | 0, _, _, _, h => h
  | fuel + 1, _, _, _, h => ⟨h.1, fun i hi => by
    have h2 := h.2 i hi
    by_cases hin : i < n
    · rw [if_pos hin] at h2
      exact wpOp_mono (fun a' w' h' => wpAny_of_K fuel _ a' w' h'.2) h2
    · rw [if_neg hin] at h2
      exact h2⟩

theorem wpAnyK_first {i : Nat} {oi : Oper} {v : Value} (hi : ops[i]? = some oi) (hsel : ∀ (j : Nat) (o : Oper) cs b, ops[j]? = some o → o.op ≠ .select cs b)
    (hs : Region.sinkB .any ops n = true) (hc : Region.chainB .any ops n = true) (hn : n < ops.size) (hin : i < n)
    (hQ : ∀ c a w, Q (.panic c) (a.put oi.dst v) w → Q (.panic c) a w) :
    ∀ (fuel : Nat) (listed : Array Bool) (a : Act) (w : World), HeadInv .any ops n listed →
      (∀ j oj, ops[j]? = some oj → j ≠ i → listed.getD j true = false → (∀ e ∈ oj.after, Region.binds .any e = true → e.on ≠ i) → oi.apart ops oj = true) →
      i ∈ Region.ready .any ops listed → YieldsIf P ops S oi v a → S w →
      wpAnyK P ops Q S n fuel (listed.setIfInBounds i true) (a.put oi.dst v) w → wpAnyK P ops Q S n (fuel + 1) listed a w := by
  intro fuel
  induction fuel with
  | zero =>
    intro listed a w inv _ hr hy hS H
    refine ⟨fun h => (by rw [h] at hr; cases hr), fun j hj => ?_⟩
    by_cases hji : j = i
    · subst hji
      rw [if_pos hin]
      exact hy.wpOp hi hS ⟨hS, H⟩
    · have := ready_mono hj hji
      rw [H.1] at this
      cases this
  | succ fuel ih =>
    intro listed a w inv hfree hr hy hS H
    have hun := (mem_ready.1 hr).1
    refine ⟨fun h => (by rw [h] at hr; cases hr), fun j hj => ?_⟩
    have hjn : j < n := by
      rcases Nat.lt_or_ge j n with h | h
      · exact h
      · exact absurd hj (tail_waits hs hc hn inv _ i rfl hin hun j h)
    rw [if_pos hjn]
    by_cases hji : j = i
    · subst hji
      exact hy.wpOp hi hS ⟨hS, H⟩
    · have h1 := H.2 j (ready_mono hj hji)
      rw [if_pos hjn] at h1
      obtain ⟨hjun, oj, hoj, hall⟩ := mem_ready.1 hj
      have hnot : ∀ e ∈ oj.after, Region.binds .any e = true → e.on ≠ i := fun e he hb heq => by
        have h1 := hall e he hb
        rw [heq, getD_both hun] at h1
        cases h1
      have h2 := wpOp_putIf hoj (hfree j oj hoj hji hjun hnot) (fun cs b => hsel i oi cs b hi) (fun cs b => hsel j oj cs b hoj) hQ hy h1
      have hfree' : ∀ k ok, ops[k]? = some ok → k ≠ i → (listed.setIfInBounds j true).getD k true = false →
          (∀ e ∈ ok.after, Region.binds .any e = true → e.on ≠ i) → oi.apart ops ok = true := fun k ok hk hki hun hno => by
        refine hfree k ok hk hki ?_ hno
        by_cases hjk : j = k
        · subst hjk; exact hjun
        · rw [getD_set_ne true hjk] at hun; exact hun
      refine wpOp_mono (fun a' w' h3 => ⟨h3.2.1, ih (listed.setIfInBounds j true) a' w' (inv.set hj hjn) hfree' (ready_mono hr (Ne.symm hji)) h3.1 h3.2.1 ?_⟩) h2
      rw [Array.setIfInBounds_comm _ _ hji]
      exact h3.2.2

/-- The invariant as one check for the kernel. -/
def headB (ops : Array Oper) (n : Nat) (listed : Array Bool) : Bool :=
  decide (listed.size = ops.size) && (List.range ops.size).all (fun j => match ops[j]? with
    | none => true
    | some oj => !(listed.getD j false) || oj.after.all (fun e => !(Region.binds .any e) || listed.getD e.on false)) && (List.range ops.size).all (fun t => decide (t < n) || !(listed.getD t true))
theorem headB_inv {listed : Array Bool} (h : headB ops n listed = true) : HeadInv .any ops n listed := by
  simp only [headB, Bool.and_eq_true, decide_eq_true_eq] at h
  obtain ⟨⟨h1, h2⟩, h3⟩ := h
  refine ⟨h1, fun j oj hj hl e he hb => ?_, fun t ht hts => ?_⟩
  · have hjl : j < ops.size := (Array.getElem?_eq_some_iff.1 hj).1
    have h4 := List.all_eq_true.1 h2 j (List.mem_range.2 hjl)
    rw [hj] at h4
    simp only [hl, Bool.not_true, Bool.false_or] at h4
    have h5 := Array.all_eq_true'.1 h4 e he
    simpa [hb] using h5
  · have h4 := List.all_eq_true.1 h3 t (List.mem_range.2 hts)
    simp only [Bool.or_eq_true, decide_eq_true_eq, Bool.not_eq_true'] at h4
    rcases h4 with h4 | h4
    · omega
    · exact h4

/-- Number i is taken first. -/
theorem K_take {i : Nat} {oi : Oper} {v : Value} {fuel : Nat} {listed : Array Bool} {a : Act} {w : World} (hi : ops[i]? = some oi)
    (hc : (Region.noSelect ops && Region.free .any ops listed i && (Region.ready .any ops listed).contains i && Region.sinkB .any ops n && Region.chainB .any ops n && decide (n < ops.size) && decide (i < n) && headB ops n listed) = true)
    (hQ : ∀ c a w, Q (.panic c) (a.put oi.dst v) w → Q (.panic c) a w) (hy : YieldsIf P ops S oi v a) (hS : S w)
    (h : wpAnyK P ops Q S n fuel (listed.setIfInBounds i true) (a.put oi.dst v) w) : wpAnyK P ops Q S n (fuel + 1) listed a w := by
  simp only [Bool.and_eq_true, decide_eq_true_eq] at hc
  obtain ⟨⟨⟨⟨⟨⟨⟨h1, h2⟩, h3⟩, h4⟩, h5⟩, h6⟩, h7⟩, h8⟩ := hc
  exact wpAnyK_first hi (Region.noSelect_spec h1) h4 h5 h6 h7 hQ fuel listed a w (headB_inv h8) (Region.free_spec hi h2) (by simpa using h3) hy hS h

/-- One alone may come up, before the tail: it is carried out, S is shown anew. -/
theorem K_one {i : Nat} {oi : Oper} {fuel : Nat} {listed : Array Bool} {a : Act} {w : World} (hi : ops[i]? = some oi) (hr : Region.ready .any ops listed = [i]) (hin : i < n)
    (h : ∀ K' : Act → World → Prop, Shut (∀ a w, S w → (S w → wpAnyK P ops Q S n fuel (listed.setIfInBounds i true) a w) → K' a w) → if Region.wanted oi (yielded ops a.tmps) = true then Oper.wp P oi a w K' Q else K' (a.put oi.dst undef) w) :
    wpAnyK P ops Q S n (fuel + 1) listed a w :=
  ⟨(fun h0 => by rw [hr] at h0; cases h0), fun j hj => by
    rw [hr] at hj
    obtain rfl : j = i := by simpa using hj
    rw [if_pos hin]
    exact wpOp_step hi (fun K' hK => h K' (fun a w hS hW => hK a w ⟨hS, hW hS⟩))⟩
/-- One alone may come up, of the tail. -/
theorem K_tail {i : Nat} {oi : Oper} {fuel : Nat} {listed : Array Bool} {a : Act} {w : World} (hi : ops[i]? = some oi) (hr : Region.ready .any ops listed = [i]) (hin : ¬ i < n)
    (h : ∀ K' : Act → World → Prop, Shut (∀ a w, wpAny P .any ops Q fuel (listed.setIfInBounds i true) a w → K' a w) → if Region.wanted oi (yielded ops a.tmps) = true then Oper.wp P oi a w K' Q else K' (a.put oi.dst undef) w) :
    wpAnyK P ops Q S n (fuel + 1) listed a w :=
  ⟨(fun h0 => by rw [hr] at h0; cases h0), fun j hj => by
    rw [hr] at hj
    obtain rfl : j = i := by simpa using hj
    rw [if_neg hin]
    exact wpOp_step hi (fun K' hK => h K' (fun a w hW => hK a w hW))⟩
/-- One alone may come up, behind the tail's first. -/
theorem W_one {i : Nat} {oi : Oper} {fuel : Nat} {listed : Array Bool} {a : Act} {w : World} (hi : ops[i]? = some oi) (hr : Region.ready .any ops listed = [i])
    (h : ∀ K' : Act → World → Prop, Shut (∀ a w, wpAny P .any ops Q fuel (listed.setIfInBounds i true) a w → K' a w) → if Region.wanted oi (yielded ops a.tmps) = true then Oper.wp P oi a w K' Q else K' (a.put oi.dst undef) w) :
    wpAny P .any ops Q (fuel + 1) listed a w :=
  ⟨(fun h0 => by rw [hr] at h0; cases h0), fun j hj => by
    rw [hr] at hj
    obtain rfl : j = i := by simpa using hj
    exact wpOp_step hi (fun K' hK => h K' (fun a w hW => hK a w hW))⟩
theorem K_done {listed : Array Bool} {a : Act} {w : World} (hr : Region.ready .any ops listed = []) (h : Q .normal a w) : ∀ fuel, wpAny P .any ops Q fuel listed a w
  | 0 => ⟨hr, h⟩
  | _ + 1 => ⟨fun _ => h, by rw [hr]; simp⟩
/-- The beginning. -/
theorem K_begin {id : Nat} {a : Act} {w : World} (n : Nat) (S : World → Prop) (hm : P.follows .mixedOrders = true) (hS : S w.drew)
    (h : S w.drew → wpAnyK P ops Q S n ops.size (Array.replicate ops.size false) a w.drew) : (Code.region id ops true).wp P Q a w :=
  wp_region_any hm (wpAny_of_K _ _ _ _ (h hS))
end
end Go.Proofs.YtebajpebongabaaDoor.V
/- append(xs[:i], xs[i+1:]...) on a row of the call's own: the element is taken out, in place; at any kind of element. No condition. -/
namespace Go.Proofs.YtebajpebongabaaDoor.V
open Go.RowKit Go.Proofs.YtebajpebongabaaDoorW.PrintWords
set_option linter.unusedVariables false
set_option linter.unusedSimpArgs false

section
variable {P : Program} {α : Type} {d : Kd α} {e base : Nat} {ok : Nat → Prop} {W : World} {xs : List α} {g cap : Nat}
/-- The row written anew, no longer than it was. -/
theorem R_rewrite_le (h : d.R e W base ok (.slice (some ⟨g, 0, none⟩) xs.length cap) xs) {cur : Array Value} (hh : W.heap[g]? = some (.cells cur e (0, 0))) {ys : List α} {cs : List Value} (hl : ys.length ≤ xs.length)
    (hr : Reps (d.M W base (fun k => ok k ∧ k ≠ g)) d.sz ys cs) {W1 : World} (hg : W.grownBy W1 (some g)) {cur1 : Array Value} (hh1 : W1.heap[g]? = some (.cells cur1 e (0, 0))) (hs1 : cur1.size = cur.size) (ht : cur1.toList.take (ys.length * d.sz) = cs) :
    d.R e W1 base ok (.slice (some ⟨g, 0, none⟩) ys.length cap) ys := by
  obtain ⟨h0, inner, ho, _⟩ := h
  rcases ho.2 with ⟨hv, _⟩ | ⟨g', cap', cur', hv, hb, hh', hc, hm, hs, _⟩
  · cases hv
  · injection hv with h1 h2 h3
    injection h1 with h1
    injection h1 with h1
    subst h1
    subst h3
    rw [hh] at hh'
    injection hh' with hh'
    injection hh' with hh'
    subst hh'
    refine ⟨h0, cs, ⟨by rw [hr.1], .inr ⟨g, cap, cur1, rfl, hb, hh1, by omega, hm, by omega, by rw [ht]⟩⟩, ?_⟩
    refine hr.imp_ fun _ _ hp => ?_
    have hp1 := d.M_move (w1 := W1) (fun k hk => hg.block k hk.2.2.1 (fun e => by injection e with e; exact hk.1.2 e)) (d.M_bound hp)
    exact d.M_mono (fun k hk => ⟨hk.1.1, fun e => hk.1.2 (by have e' : some k = some g := e; injection e')⟩) hp1

/-- Element i of a row of the call's own. -/
theorem R_at {n : Nat} (h : d.R e W base ok (.slice (some ⟨g, 0, none⟩) n cap) xs) (hn : n = xs.length) (i : Nat) (hi : i < xs.length) : ∃ cs, d.M W base (fun k => ok k ∧ k ≠ g) xs[i] cs ∧ ∀ j u, cs[j]? = some u → W.cell? ⟨g, i * d.sz + j, none⟩ = some u := by
  subst hn
  obtain ⟨cur, hh, hcap, hsz, hbase, hr⟩ := R_block h
  have hc : xs.length * d.sz ≤ cur.size := by rw [hsz]; exact Nat.mul_le_mul_right _ hcap
  have hie : i * d.sz + d.sz ≤ xs.length * d.sz := by rw [← Nat.succ_mul]; exact Nat.mul_le_mul_right _ hi
  refine ⟨_, hr.2 i _ (List.getElem?_eq_getElem hi), fun j u hj => ?_⟩
  have hjs : j < d.sz := by
    have := (List.getElem?_eq_some_iff.1 hj).1
    rw [List.length_take] at this
    omega
  rw [cell_of_row W g (i * d.sz + j) cur e (0, 0) hh]
  rw [List.getElem?_take_of_lt hjs, List.getElem?_drop, List.getElem?_take_of_lt (by omega)] at hj
  simpa using hj

theorem list_set_mid {β : Type} (L : List β) (a j s : Nat) (v : β) (hj : j < s) (ha : a + s ≤ L.length) : L.set (a + j) v = L.take a ++ ((L.drop a).take s).set j v ++ L.drop (a + s) := by
  apply List.ext_getElem?
  intro k
  by_cases h1 : k < a
  · rw [List.getElem?_set_ne (by omega), List.append_assoc, List.getElem?_append_left (by rw [List.length_take]; omega), List.getElem?_take_of_lt h1]
  · by_cases h2 : k < a + s
    · rw [List.append_assoc, List.getElem?_append_right (by rw [List.length_take]; omega), List.getElem?_append_left (by rw [List.length_set, List.length_take, List.length_take, List.length_drop]; omega), List.length_take, Nat.min_eq_left (by omega)]
      by_cases h3 : k = a + j
      · subst h3
        rw [List.getElem?_set_self (by omega), show a + j - a = j by omega, List.getElem?_set_self (by rw [List.length_take, List.length_drop]; omega)]
      · rw [List.getElem?_set_ne (by omega), List.getElem?_set_ne (by omega), List.getElem?_take_of_lt (by omega), List.getElem?_drop]
        congr 1
        omega
    · rw [List.getElem?_set_ne (by omega), List.getElem?_append_right (by rw [List.length_append, List.length_set, List.length_take, List.length_take, List.length_drop]; omega), List.getElem?_drop, List.length_append, List.length_set, List.length_take, List.length_take, List.length_drop]
      congr 1
      omega
/-- One cell of element i is v then. -/
theorem R_put {n : Nat} (hR : d.R e W base ok (.slice (some ⟨g, 0, none⟩) n cap) xs) (hn : n = xs.length) (i : Nat) (hi : i < xs.length) (j : Nat) (hj : j < d.sz) {x : α} {v : Value} (hx : ∀ cs, d.M W base (fun k => ok k ∧ k ≠ g) xs[i] cs → d.M W base (fun k => ok k ∧ k ≠ g) x (cs.set j v)) :
    d.R e (W.setCell ⟨g, i * d.sz + j, none⟩ v) base ok (.slice (some ⟨g, 0, none⟩) n cap) (xs.set i x) ∧ W.grownBy (W.setCell ⟨g, i * d.sz + j, none⟩ v) (some g) := by
  subst hn
  obtain ⟨cur, hh, hcap, hsz, hbase, hr⟩ := R_block hR
  have hc : xs.length * d.sz ≤ cur.size := by rw [hsz]; exact Nat.mul_le_mul_right _ hcap
  have hie : i * d.sz + d.sz ≤ xs.length * d.sz := by rw [← Nat.succ_mul]; exact Nat.mul_le_mul_right _ hi
  have hM := hx _ (hr.2 i _ (List.getElem?_eq_getElem hi))
  have e1 := setCell_eq_setRow W g (i * d.sz + j) cur e (0, 0) v hh
  have hh1 := setRow_heap W g cur (cur.setIfInBounds (i * d.sz + j) v) e _ hh
  rw [e1]
  refine ⟨R_rewrite hR hh (by rw [List.length_set]) (Kd.reps_set hr hi hM (d.K_len (d.K_of_M hM))) (grown_setRow _ _ _) hh1 (by simp) ?_, grown_setRow _ _ _⟩
  have hll : (cur.toList.take (xs.length * d.sz)).length = xs.length * d.sz := by rw [List.length_take, Array.length_toList]; exact Nat.min_eq_left hc
  rw [List.length_set, Array.toList_setIfInBounds, List.take_set, list_set_mid _ (i * d.sz) j d.sz v hj (by omega), d.K_len (d.K_of_M hM)]
theorem step_del {ops : Array Oper} {o : Oper} {a : Act} {K : Act → World → Prop} {Q : Exit → Act → World → Prop} {E : Prop} {n : Nat}
    (hgd : o.guard = none) (s x : Operand) (t : TypeId) (hop : o.op = Op.call { callee := Callee.builtin Builtin.append, args := #[s, x], argTypes := #[t, t] })
    (hu : P.underlying t = some (.slice e)) (hs : (P.info? e).map (·.size) = some d.sz) (hR : d.R e W base ok (.slice (some ⟨g, 0, none⟩) n cap) xs) (hn : n = xs.length) (i : Nat) (hi : i < xs.length)
    (ad : Addr) (m c : Nat) (hse : a.eval s = .slice (some ⟨g, 0, none⟩) i cap) (hxe : a.eval x = .slice (some ad) m c) (hm : m = xs.length - (i + 1)) (had : i + 1 < xs.length → ad = ⟨g, (i + 1) * d.sz, none⟩)
    (h : ∀ w1, d.R e w1 base ok (.slice (some ⟨g, 0, none⟩) (xs.length - 1) cap) (xs.eraseIdx i) → W.grownBy w1 (some g) → K (a.put o.dst (.slice (some ⟨g, 0, none⟩) (xs.length - 1) cap)) w1) :
    if Region.wanted o (yielded ops a.tmps) = true then Oper.wp P o a W K Q else E := by
  subst hn
  obtain ⟨cur, hh, hcap, hsz, hbase, hr⟩ := R_block hR
  have hc : xs.length * d.sz ≤ cur.size := by rw [hsz]; exact Nat.mul_le_mul_right _ hcap
  have hlen : (cur.toList.take (xs.length * d.sz)).length = xs.length * d.sz := by rw [List.length_take, Array.length_toList]; exact Nat.min_eq_left hc
  have hr2 := Kd.reps_drop (m := i + 1) hr
  obtain ⟨news, hnews⟩ : ∃ cs, cs = (cur.toList.take (xs.length * d.sz)).drop ((i + 1) * d.sz) := ⟨_, rfl⟩
  rw [← hnews] at hr2
  have e1 : xs.length * d.sz = (i + 1) * d.sz + (xs.length - (i + 1)) * d.sz := by rw [← Nat.add_mul]; congr 1; omega
  have hnl : news.length = m * d.sz := by rw [hnews, List.length_drop, hlen, hm]; omega
  have hone : ∀ v ∈ news, v.oneCell' = true := by
    by_cases h0 : 0 < d.sz
    · exact Kd.reps_one hr2 h0 (fun _ _ hp => d.K_one (d.K_of_M hp))
    · have h00 : d.sz = 0 := by omega
      rw [h00, Nat.mul_zero] at hnl
      rw [List.eq_nil_of_length_eq_zero hnl]
      simp
  have e2 : i * d.sz + d.sz = (i + 1) * d.sz := by rw [Nat.add_mul, Nat.one_mul]
  have hget : ∀ j u, news[j]? = some u → W.cell? (ad.add j) = some u := by
    intro j u hj
    have hjl : j < news.length := (List.getElem?_eq_some_iff.1 hj).1
    have hlt : i + 1 < xs.length := by
      rcases Nat.lt_or_ge (i + 1) xs.length with h | h
      · exact h
      · rw [hnl, hm, show xs.length - (i + 1) = 0 by omega, Nat.zero_mul] at hjl
        omega
    rw [had hlt]
    have hadd : (⟨g, (i + 1) * d.sz, none⟩ : Addr).add j = ⟨g, (i + 1) * d.sz + j, none⟩ := by unfold Addr.add; split <;> simp_all
    rw [hadd, cell_of_row W g ((i + 1) * d.sz + j) cur e (0, 0) hh]
    rw [hnews, List.getElem?_drop, List.getElem?_take_of_lt (by rw [hnl, hm] at hjl; omega)] at hj
    simpa using hj
  obtain ⟨ti, hti, htis⟩ : ∃ ti, P.info? e = some ti ∧ ti.size = d.sz := by
    cases hq : P.info? e with
    | none => rw [hq] at hs; simp at hs
    | some ti => exact ⟨ti, rfl, by rw [hq] at hs; simpa using hs⟩
  have hcut : i * d.sz + news.length ≤ cur.size := by rw [hnl, hm]; omega
  refine step_append_room hgd s x t hop e ti d.sz hu hti htis g 0 i cap hse ad m c news hxe hnl hget hone (by omega) (fun j hj => ?_) ?_
  · rw [Nat.zero_add, cell_of_row W g (i * d.sz + j) cur e (0, 0) hh]
    refine ⟨?_, by simp [World.frozen?, hh]⟩
    rw [Array.getElem?_eq_getElem (by omega)]
    rfl
  · rw [Nat.zero_add, show i + m = xs.length - 1 by omega]
    have e3 := setCells_row g e news (i * d.sz) cur W hh hcut
    rw [e3]
    have hh1 := setRow_heap W g cur (cur.toList.take (i * d.sz) ++ news ++ cur.toList.drop (i * d.sz + news.length)).toArray e _ hh
    have hel : (xs.eraseIdx i).length = xs.length - 1 := by rw [List.length_eraseIdx_of_lt hi]
    refine h _ ?_ (grown_setRow _ _ _)
    have e4 : xs.eraseIdx i = xs.take i ++ xs.drop (i + 1) := List.eraseIdx_eq_take_drop_succ xs i
    have h3 := Kd.reps_take (m := i) hr (by omega)
    rw [List.take_take, Nat.min_eq_left (by omega)] at h3
    have := R_rewrite_le hR hh (ys := xs.eraseIdx i) (cs := cur.toList.take (i * d.sz) ++ news) (by omega) (by rw [e4]; exact Kd.reps_append h3 hr2) (grown_setRow _ _ _) hh1 (by
      simp only [List.size_toArray, List.length_append, List.length_take, List.length_drop, Array.length_toList]
      omega) (by
      have hll : (cur.toList.take (i * d.sz) ++ news).length = (xs.eraseIdx i).length * d.sz := by
        rw [List.length_append, List.length_take, Array.length_toList, hnl, hm, hel, Nat.min_eq_left (by omega), ← Nat.add_mul]
        congr 1
        omega
      rw [List.take_append_of_le_length (by omega), List.take_of_length_le (by omega)])
    rw [hel] at this
    exact this
end
end Go.Proofs.YtebajpebongabaaDoor.V
