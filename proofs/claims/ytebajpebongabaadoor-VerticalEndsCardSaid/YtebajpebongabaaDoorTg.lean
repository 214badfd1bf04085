/- The scanner's tag: a whole tag. Condition: the text is at most 2^40 bytes long. -/
import Derived.WalkKit
import Derived.WalkLawsBesides
import Derived.WalkSpells
import Derived.Deep.QuietTactic
import Derived.BigQuiet
import Derived.BigCall
import Derived.Deep.RegionHeld3
import Derived.RegionDies
import Derived.Deep.RegionLaw
import Derived.Deep.AppendLies
import Derived.IntWalk
import Derived.Lib.Hide
import Derived.Test.YtebajpebongabaaDoorProg
import Derived.Test.YtebajpebongabaaDoorWAll
import Derived.Test.YtebajpebongabaaDoorKy
import Derived.Test.YtebajpebongabaaDoorSo
namespace Go.Proofs.YtebajpebongabaaDoor.V
open Go.RowKit Go.Proofs.YtebajpebongabaaDoorW.PrintWords Go.Proofs.YtebajpebongabaaDoorW.PrintMore Go.Proofs.YtebajpebongabaaDoor.P Go.Proofs.YtebajpebongabaaDoor.X
set_option linter.unusedVariables false
set_option linter.unusedSimpArgs false

/-! ### what is read -/
def spEnd (s : ByteArray) : Nat → Nat → Nat
  | 0, p => p
  | b + 1, p => if seesB s p 32 = true then spEnd s b (p + 1) else p
theorem spEnd_le (s : ByteArray) : ∀ (b p : Nat), p ≤ s.size → p ≤ spEnd s b p ∧ spEnd s b p ≤ s.size
  | 0, p, h => ⟨Nat.le_refl _, h⟩
  | b + 1, p, h => by
    unfold spEnd
    split
    · rename_i c
      have := seesB_lt c
      have := spEnd_le s b (p + 1) (by omega)
      omega
    · omega
def attrsR (s : ByteArray) : Nat → Nat → List S88 → Sr (List S88)
  | 0, p, l => .ok l p
  | b + 1, p, l => if seesB s p 32 = true then (match keyR s (spEnd s (s.size - p) p) l with
      | .bad q c => .bad q c
      | .ok k q => attrsR s b q (l ++ [k])) else .ok l p
theorem attrsR_succ (s : ByteArray) (b p : Nat) (l : List S88) : attrsR s (b + 1) p l = if seesB s p 32 = true then (match keyR s (spEnd s (s.size - p) p) l with
      | .bad q c => .bad q c
      | .ok k q => attrsR s b q (l ++ [k])) else .ok l p := rfl
theorem spEnd_succ (s : ByteArray) (b p : Nat) : spEnd s (b + 1) p = if seesB s p 32 = true then spEnd s b (p + 1) else p := rfl
structure Tg where
  closing : Bool
  name : ByteArray
  keys : List S88
def tagEnd (s : ByteArray) (cl : Bool) (n : ByteArray) : Sr (List S88) → Sr Tg
  | .bad q c => .bad q c
  | .ok l p4 => match eatR s p4 62 with
    | .bad q c => .bad q c
    | .ok _ p5 => if p5 < s.size then .bad p5 3 else .ok ⟨cl, n, sortP l⟩ p5
def tagR (s : ByteArray) (p : Nat) : Sr Tg :=
  match eatR s p 60 with
  | .bad q c => .bad q c
  | .ok _ p1 => match nameR s (if seesB s p1 47 = true then p1 + 1 else p1) with
    | .bad q c => .bad q c
    | .ok n p3 => tagEnd s (seesB s p1 47) n (if seesB s p1 47 = true then .ok [] p3 else attrsR s (s.size + 1 - p3) p3 [])
theorem R_frame {α : Type} {d : Kd α} {e base : Nat} {W : World} {ok : Nat → Prop} {A : Option Addr} {n c : Nat} {xs : List α} {X : Nat} (h : d.R e W base ok (.slice A n c) xs) (hn : n = xs.length) (hok : ∀ k, ok k → k ≠ X) :
    ∀ w', W.grownBy w' (some X) → Kd.C d w' A xs.length xs := by
  intro w' hg
  obtain ⟨A', c', he, _, hC⟩ := Kd.R_reads (Kd.R_grown h hg (fun k hk e => hok k hk (by injection e)))
  injection he with h1 h2 h3
  rw [h1]
  exact hC
abbrev tgObj (c : Bool) (n : ByteArray) (v : Value) : Obj := .cells #[.bool c, .string n, v] 68 (0, 0)

theorem grown_belowB {w w1 w2 : World} {row : Option Nat} (h : w.grownBy w1 row) (hb : Below w.heap.size w1 w2) : w.grownBy w2 row :=
  ⟨hb.os.trans h.os, hb.tape.trans h.tape, hb.output.trans h.output, Nat.le_trans h.size hb.size, fun k hk hne => (hb.block k hk).trans (h.block k hk hne)⟩

set_option maxHeartbeats 16000000 in
set_option maxRecDepth 100000 in
theorem tag_sc (X : Nat) (s : ByteArray) (p : Nat) (hp : p ≤ s.size) (hs : s.size ≤ 1099511627776) (w : World) (hX : w.heap[X]? = some (scObj s p)) :
    Calls Tryd.prog 48 #[.pointer (some ⟨X, 0, none⟩)] w
      (ScPost X s w (fun w' u v => ∃ vk, u = .agg #[.bool v.closing, .string v.name, vk] ∧ Kd.R k88 88 w' w.heap.size (fun _ => True) vk v.keys) (tagR s p)) := by
  have hu := Tryd.underlying68
  have hXlt := sc_lt hX
  cases hr1 : eatR s p 60 with
  | bad q c =>
    have HS : Hid (tagR s p = .bad q c) := by unfold tagR; rw [hr1]; exact rfl
    have HX0 := Lib.hid hX
    have HR1 := Lib.hid hr1
    clear hr1 hX
    go_enter Tryd.func48, Tryd.ntmps48
    go_wp2_with (go_at_call 63; refine (eat_any X s p 60 hp hs _ (blk_alloc (blk_alloc HX0.out _) _)).mono ?_; rw [HR1.out]; rintro e w1 ⟨rfl, hg1⟩)
    refine ⟨rfl, ?_⟩
    rw [HS.out]
    exact ⟨rfl, ((World.grownBy_alloc w _ _).trans (World.grownBy_alloc _ _ _)).trans hg1⟩
  | ok u1 p1 =>
    have hp1s : p1 ≤ s.size := by have := eatR_le hr1; omega
    obtain ⟨cl, hcl⟩ : ∃ c, c = seesB s p1 47 := ⟨_, rfl⟩
    obtain ⟨p2, hp2⟩ : ∃ q, q = if cl = true then p1 + 1 else p1 := ⟨_, rfl⟩
    have hp2s : p2 ≤ s.size := by
      rw [hp2]
      split
      · rename_i c
        rw [hcl] at c
        exact seesB_lt c
      · omega
    have HS : Hid (tagR s p = match nameR s p2 with
      | .bad q c => .bad q c
      | .ok n p3 => tagEnd s cl n (if cl = true then .ok [] p3 else attrsR s (s.size + 1 - p3) p3 [])) := by unfold tagR; rw [hr1, hp2, hcl]; exact rfl
    have HX0 := Lib.hid hX
    have HR1 := Lib.hid hr1
    have HCL := Lib.hid hcl
    clear hr1 hX hcl
    go_enter Tryd.func48, Tryd.ntmps48
    obtain ⟨T2, hT2⟩ : ∃ T, T = w.heap.size := ⟨_, rfl⟩
    obtain ⟨T3, hT3⟩ : ∃ T, T = w.heap.size + 1 := ⟨_, rfl⟩
    have hXT3 : ¬ X = w.heap.size + 1 := by omega
    have hT3X : ¬ w.heap.size + 1 = X := by omega
    by_cases hc : cl = true
    case' neg =>
      replace hc : cl = false := Bool.eq_false_iff.2 hc
      have hp2' : p2 = p1 := by rw [hp2, hc]; rfl
      go_wp2_with (first | (go_at_call 65; fail) | (go_at_call 64; refine (sees_any X s p1 47 hp1s hs _ HX1.out).mono ?_; rw [← HCL.out]; rintro e w2 ⟨rfl, m2, rfl⟩) | (go_at_call 63; refine (eat_any X s p 60 hp hs _ (blk_alloc (blk_alloc HX0.out _) _)).mono ?_; rw [HR1.out]; rintro e w1 ⟨⟨u, rfl, -⟩, hX1, hg1⟩; have hF2 := blk_grown (blk_alloc (blk_new w (tgObj false ⟨#[]⟩ (.slice none 0 0))) (tgObj false ⟨#[]⟩ (.slice none 0 0))) hg1 (by simp; omega); have hF3 := blk_grown (blk_new (w.alloc (tgObj false ⟨#[]⟩ (.slice none 0 0))) (tgObj false ⟨#[]⟩ (.slice none 0 0))) hg1 (by simp; omega); rw [show (w.alloc (tgObj false ⟨#[]⟩ (.slice none 0 0))).heap.size = w.heap.size + 1 by simp] at hF3; have hgw : w.grownBy w1 (some X) := ((World.grownBy_alloc w _ _).trans (World.grownBy_alloc _ _ _)).trans hg1; have HX1 := Lib.hid hX1; have HF2 := Lib.hid hF2; have HF3 := Lib.hid hF3; clear hX1 hF2 hF3 hg1))
      obtain ⟨W2, hW2⟩ : ∃ W2, W2 = w1.drewN m2 := ⟨_, rfl⟩
      rw [← hW2]
      have hX2 : W2.heap[X]? = some (scObj s p2) := by rw [hW2, hp2']; exact HX1.out
      have hF2 : W2.heap[w.heap.size]? = some (tgObj false ⟨#[]⟩ (.slice none 0 0)) := by rw [hW2]; exact HF2.out
      have hF3 : W2.heap[w.heap.size + 1]? = some (tgObj cl ⟨#[]⟩ (.slice none 0 0)) := by rw [hW2, hc]; exact HF3.out
      have hg2 : w.grownBy W2 (some X) := by rw [hW2]; exact hgw.trans (grown_drewN _ _ _)
      clear hW2 HX1 HF2 HF3 hgw hp2' hc hp2
    case' pos =>
      have hp2' : p2 = p1 + 1 := by rw [hp2, hc]; rfl
      go_wp2_with (first | (go_at_call 65; fail) | (go_at_call 64; refine (sees_any X s p1 47 hp1s hs _ HX1.out).mono ?_; rw [← HCL.out]; rintro e w2 ⟨rfl, m2, rfl⟩) | (go_at_call 63; refine (eat_any X s p 60 hp hs _ (blk_alloc (blk_alloc HX0.out _) _)).mono ?_; rw [HR1.out]; rintro e w1 ⟨⟨u, rfl, -⟩, hX1, hg1⟩; have hF2 := blk_grown (blk_alloc (blk_new w (tgObj false ⟨#[]⟩ (.slice none 0 0))) (tgObj false ⟨#[]⟩ (.slice none 0 0))) hg1 (by simp; omega); have hF3 := blk_grown (blk_new (w.alloc (tgObj false ⟨#[]⟩ (.slice none 0 0))) (tgObj false ⟨#[]⟩ (.slice none 0 0))) hg1 (by simp; omega); rw [show (w.alloc (tgObj false ⟨#[]⟩ (.slice none 0 0))).heap.size = w.heap.size + 1 by simp] at hF3; have hgw : w.grownBy w1 (some X) := ((World.grownBy_alloc w _ _).trans (World.grownBy_alloc _ _ _)).trans hg1; have x1 : w1.cell? ⟨X, 1, none⟩ = some (.int .i64 p1) := blk_cell hX1 1; have fx1 := blk_frozen hX1 1; have x3 : w1.cell? ⟨w.heap.size + 1, 0, none⟩ = some (.bool false) := blk_cell hF3 0; have fx3 := blk_frozen hF3 0; have HX1 := Lib.hid hX1; have HF2 := Lib.hid hF2; have HF3 := Lib.hid hF3; clear hX1 hF2 hF3 hg1))
      obtain ⟨W2, hW2⟩ : ∃ W2, W2 = ((w1.drewN m2).setCell ⟨X, 1, none⟩ (.int .i64 ((p1 : Int) + 1))).setCell ⟨w.heap.size + 1, 0, none⟩ (.bool true) := ⟨_, rfl⟩
      rw [← hW2]
      have hX2 : W2.heap[X]? = some (scObj s p2) := by rw [hW2, hp2']; exact blk_far (blk_put (blk_drewN HX1.out m2) 1 _ rfl) hXT3 _
      have hF2 : W2.heap[w.heap.size]? = some (tgObj false ⟨#[]⟩ (.slice none 0 0)) := by rw [hW2]; exact blk_far (blk_far (blk_drewN HF2.out _) (by show ¬ w.heap.size = X; omega) _) (by show ¬ w.heap.size = w.heap.size + 1; omega) _
      have hF3 : W2.heap[w.heap.size + 1]? = some (tgObj cl ⟨#[]⟩ (.slice none 0 0)) := by rw [hW2, hc]; exact blk_put (blk_far (blk_drewN HF3.out _) hT3X _) 0 _ rfl
      have hg2 : w.grownBy W2 (some X) := by rw [hW2]; exact grown_set_new (grown_set (hgw.trans (grown_drewN _ _ _)) 1 _) (by omega) 0 _
      clear hW2 HX1 HF2 HF3 hgw hp2' x1 fx1 x3 fx3 hc hp2
    all_goals
      have HX2 := Lib.hid hX2
      have HF2 := Lib.hid hF2
      have HF3 := Lib.hid hF3
      have x3 : W2.cell? ⟨w.heap.size + 1, 1, none⟩ = some (.string ⟨#[]⟩) := blk_cell hF3 1
      have fx3 := blk_frozen hF3 1
      clear hX2 hF2 hF3
      cases hr2 : nameR s p2 with
      | bad q c =>
        have HS2 : Hid (tagR s p = .bad q c) := by rw [HS.out, hr2]; exact rfl
        go_wp2_with (go_at_call 65; refine (name_any X s p2 hp2s hs _ HX2.out).mono ?_; rw [hr2]; rintro e w3 ⟨rfl, hg3⟩)
        refine ⟨rfl, ?_⟩
        rw [HS2.out]
        exact ⟨rfl, hg2.trans hg3⟩
      | ok n p3 =>
        have hp3 := (nameR_le hr2).2
        go_wp2_with (go_at_call 65; refine (name_any X s p2 hp2s hs _ HX2.out).mono ?_; rw [hr2]; rintro e w3 ⟨⟨u3, rfl, rfl⟩, hX3, hg3⟩; have hF2' := blk_grown HF2.out hg3 (by simp; omega); have hF3' := blk_grown HF3.out hg3 (by simp; omega); have z3 : w3.cell? ⟨w.heap.size + 1, 1, none⟩ = some (.string ⟨#[]⟩) := blk_cell hF3' 1; have fz3 := blk_frozen hF3' 1; have HX3 := Lib.hid hX3; have HF2' := Lib.hid hF2'; have HF3' := Lib.hid hF3'; clear hX3 hF2' hF3')
        obtain ⟨W4, hW4⟩ : ∃ W4, W4 = w3.setCell ⟨w.heap.size + 1, 1, none⟩ (.string n) := ⟨_, rfl⟩
        rw [← hW4]
        have hX4 : W4.heap[X]? = some (scObj s p3) := by rw [hW4]; exact blk_far HX3.out hXT3 _
        have hF4 : W4.heap[w.heap.size]? = some (tgObj false ⟨#[]⟩ (.slice none 0 0)) := by rw [hW4]; exact blk_far HF2'.out (by show ¬ w.heap.size = w.heap.size + 1; omega) _
        have hT4 : W4.heap[w.heap.size + 1]? = some (tgObj cl n (.slice none 0 0)) := by rw [hW4]; exact blk_put HF3'.out 1 _ rfl
        have hg4 : w.grownBy W4 (some X) := by rw [hW4]; exact grown_set_new (hg2.trans hg3) (by omega) 1 _
        obtain ⟨res, hres⟩ : ∃ r, r = (if cl = true then Sr.ok [] p3 else attrsR s (s.size + 1 - p3) p3 [] : Sr (List S88)) := ⟨_, rfl⟩
        have HS4 : Hid (tagR s p = tagEnd s cl n res) := by rw [HS.out, hr2, hres]; exact rfl
        have HRS := Lib.hid hres
        have HGH := Lib.hid (⟨hX4, hF4, hT4, hg4⟩ : _ ∧ _ ∧ _ ∧ _)
        clear HS hW4 HX3 HF2' HF3' z3 fz3 hg3 hX4 hF4 hT4 hg4 hres HX2 HF2 HF3 hg2 x3 fx3
        go_loopw [] (fun wr => ∃ (q b : Nat) (l : List S88) (vk : Value), wr.heap[X]? = some (scObj s q) ∧ q ≤ s.size ∧ s.size < q + b ∧ wr.heap[w.heap.size]? = some (tgObj false ⟨#[]⟩ (.slice none 0 0)) ∧ wr.heap[w.heap.size + 1]? = some (tgObj cl n vk) ∧
          Kd.R k88 88 wr w.heap.size (fun _ => True) vk l ∧ w.grownBy wr (some X) ∧ l.length ≤ 8 ∧ res = (if cl = true then Sr.ok l q else attrsR s b q l)) (fun wr => s.size - posIn wr X)
        case atStart =>
          obtain ⟨h1, h2, h3, h4⟩ := HGH.out
          exact ⟨p3, s.size + 1 - p3, [], .slice none 0 0, h1, hp3, by omega, h2, h3, Kd.R_nil _ _ _ _ _, h4, by simp, HRS.out⟩
        case round =>
          obtain ⟨q, b, l, vk, hX5, hq, hqb, hF5, hT5, hR5, hg5, hl, hres⟩ := hrel
          obtain ⟨W5, rfl⟩ : ∃ W5, W5 = wr := ⟨wr, rfl⟩
          have y0 : W5.cell? ⟨w.heap.size + 1, 0, none⟩ = some (.bool cl) := blk_cell hT5 0
          have y1 : W5.cell? ⟨w.heap.size + 1, 1, none⟩ = some (.string n) := blk_cell hT5 1
          have y2 : W5.cell? ⟨w.heap.size + 1, 2, none⟩ = some vk := blk_cell hT5 2
          have fy2 := blk_frozen hT5 2
          have HX5 := Lib.hid hX5
          have HF5 := Lib.hid hF5
          have HT5 := Lib.hid hT5
          have HR5 := Lib.hid hR5
          have HE5 := Lib.hid hres
          clear hX5 hF5 hT5 hR5 hres
          by_cases hgo : cl = false ∧ seesB s q 32 = true
          case neg =>
            have hend : res = .ok l q := by
              rw [HE5.out]
              by_cases hc : cl = true
              · rw [if_pos hc]
              · rw [if_neg hc]
                cases b with
                | zero => rfl
                | succ b => unfold attrsR; rw [if_neg (fun h => hgo ⟨Bool.eq_false_iff.2 hc, h⟩)]
            have HEN := Lib.hid hend
            clear hend
            by_cases hc : cl = true
            case' pos =>
              clear hgo
              go_wp2_with (go_at_call 63; fail)
            case' neg =>
              replace hc : cl = false := Bool.eq_false_iff.2 hc
              have hse : seesB s q 32 = false := Bool.eq_false_iff.2 (fun h => hgo ⟨hc, h⟩)
              have HSE := Lib.hid hse
              clear hgo hse
              go_wp2_with (first | (go_at_call 63; fail) | (go_at_call 64; refine (sees_any X s q 32 hq hs _ HX5.out).mono ?_; rw [HSE.out]; rintro e w2 ⟨rfl, m2, rfl⟩))
            all_goals
              clear y0 y1 y2 fy2
              cases hr5 : eatR s q 62 with
              | bad q5 c5 =>
                have HS5 : Hid (tagR s p = .bad q5 c5) := by rw [HS4.out, HEN.out]; unfold tagEnd; simp only [hr5]; exact trivial
                go_wp2_with (go_at_call 63; refine (eat_any X s q 62 hq hs _ (by first | exact HX5.out | exact blk_drewN HX5.out _)).mono ?_; rw [hr5]; rintro e w5 ⟨rfl, hg6⟩)
                refine ⟨rfl, ?_⟩
                rw [HS5.out]
                exact ⟨rfl, by first | exact hg5.trans hg6 | exact (hg5.trans (grown_drewN _ _ _)).trans hg6⟩
              | ok u5 p5 =>
                have hp5 := eatR_le hr5
                have hp5s : p5 ≤ s.size := by omega
                clear hp5
                have HS5 : Hid (tagR s p = if p5 < s.size then .bad p5 3 else .ok ⟨cl, n, sortP l⟩ p5) := by rw [HS4.out, HEN.out]; unfold tagEnd; simp only [hr5]; exact trivial
                by_cases hlt : p5 < s.size
                case pos =>
                  have HS6 : Hid (tagR s p = .bad p5 3) := by rw [HS5.out, if_pos hlt]; exact rfl
                  have hd : decide ((p5 : Int) < (s.size : Int)) = true := decide_eq_true (by omega)
                  go_wp2_with (go_at_call 63; refine (eat_any X s q 62 hq hs _ (by first | exact HX5.out | exact blk_drewN HX5.out _)).mono ?_; rw [hr5]; rintro e w5 ⟨⟨u5, rfl, -⟩, hX6, hg6⟩; have z0 : w5.cell? ⟨X, 0, none⟩ = some (.string s) := blk_cell hX6 0; have z1 : w5.cell? ⟨X, 1, none⟩ = some (.int .i64 p5) := blk_cell hX6 1; have HX6 := Lib.hid hX6; clear hX6)
                  go_quiet (fail)
                  go_wp2
                  refine ⟨rfl, ?_⟩
                  rw [HS6.out]
                  exact ⟨rfl, by first | exact (hg5.trans hg6).trans (grown_drewN _ _ _) | exact ((hg5.trans (grown_drewN _ _ _)).trans hg6).trans (grown_drewN _ _ _)⟩
                case neg =>
                  have HS6 : Hid (tagR s p = .ok ⟨cl, n, sortP l⟩ p5) := by rw [HS5.out, if_neg hlt]; exact rfl
                  have hd : decide ((p5 : Int) < (s.size : Int)) = false := decide_eq_false (by omega)
                  go_wp2_with (go_at_call 63; refine (eat_any X s q 62 hq hs _ (by first | exact HX5.out | exact blk_drewN HX5.out _)).mono ?_; rw [hr5]; rintro e w5 ⟨⟨u5, rfl, -⟩, hX6, hg6⟩; have z0 : w5.cell? ⟨X, 0, none⟩ = some (.string s) := blk_cell hX6 0; have z1 : w5.cell? ⟨X, 1, none⟩ = some (.int .i64 p5) := blk_cell hX6 1; have HX6 := Lib.hid hX6; (have hg7 : W5.grownBy w5 (some X) := by first | exact hg6 | exact (grown_drewN _ _ _).trans hg6); clear hX6)
                  go_quiet (fail)
                  have hR7 := Kd.R_grown (Kd.R_types HR5.out HX5.out (by decide)) hg7 (fun k hk e => hk.2 (by injection e))
                  have hT7 := blk_grown HT5.out hg7 (by simp; omega)
                  have hF7 := blk_grown HF5.out hg7 (by simp; omega)
                  obtain ⟨A7, c7, rfl⟩ := Kd.R_slice hR7
                  obtain ⟨A8, c8, e8, hc8, hC8⟩ := Kd.R_reads hR7
                  injection e8 with e81 e82 e83
                  clear e82
                  subst e81 e83
                  have y2 : w5.cell? ⟨w.heap.size + 1, 2, none⟩ = some (.slice A7 l.length c7) := blk_cell hT7 2
                  have hTne : ¬ w.heap.size = w.heap.size + 1 := by omega
                  have hTne' : ¬ w.heap.size + 1 = w.heap.size := by omega
                  have HT7 := Lib.hid hT7
                  have HF7 := Lib.hid hF7
                  have HC8 := Lib.hid hC8
                  have hg8 := hg5.trans hg7
                  clear hT7 hF7 hC8 hR7 z0 z1
                  go_wp2_with (go_at_call 67; go_loud (refine (sorted_any l (by omega) A7 c7 hc8 _ (Kd.C_drewN HC8.out _)).mono ?_; rintro e w8 ⟨v8, rfl, hR8, hb8⟩; obtain ⟨A9, c9, rfl⟩ := Kd.R_slice hR8; have hT8 := blk_below (blk_drewN HT7.out _) hb8; have hF8 := blk_below (blk_drewN HF7.out _) hb8; have t0 : w8.cell? ⟨w.heap.size + 1, 0, none⟩ = some (.bool cl) := blk_cell hT8 0; have t1 : w8.cell? ⟨w.heap.size + 1, 1, none⟩ = some (.string n) := blk_cell hT8 1; have t2 : w8.cell? ⟨w.heap.size + 1, 2, none⟩ = some (.slice A7 l.length c7) := blk_cell hT8 2; have ft2 := blk_frozen hT8 2; have f0 : w8.cell? ⟨w.heap.size, 0, none⟩ = some (.bool false) := blk_cell hF8 0; have f1 : w8.cell? ⟨w.heap.size, 1, none⟩ = some (.string ⟨#[]⟩) := blk_cell hF8 1; have f2 : w8.cell? ⟨w.heap.size, 2, none⟩ = some (.slice none 0 0) := blk_cell hF8 2; have ff0 := blk_frozen hF8 0; have ff1 := blk_frozen hF8 1; have ff2 := blk_frozen hF8 2; have HT8 := Lib.hid hT8; have HF8 := Lib.hid hF8; clear hT8 hF8))
                  have hXT2 : ¬ X = w.heap.size := by omega
                  refine bodyPost_ret (results_cell_row rfl _ _ w.heap.size 68 #[.bool cl, .string n, .slice A9 (sortP l).length c9] (0, 0) _ rfl (blk_put (blk_put (blk_put (blk_far HF8.out hTne _) 0 _ rfl) 1 _ rfl) 2 _ (by rw [hc]; rfl)) Tryd.underlying68 rfl (by kernel_rfl)) rfl ?_
                  rw [HS6.out]
                  refine ⟨⟨_, rfl, _, rfl, ?_⟩, ?_, ?_⟩
                  · have h1 := Kd.R_types (Kd.R_types (Kd.R_lower hR8 (show w.heap.size ≤ _ from hg8.size)) HT8.out (by decide)) HF8.out (by decide)
                    exact Kd.R_mono (Kd.R_far (p := ⟨w.heap.size, 2, none⟩) (Kd.R_far (p := ⟨w.heap.size, 1, none⟩) (Kd.R_far (p := ⟨w.heap.size, 0, none⟩) (Kd.R_far (p := ⟨w.heap.size + 1, 2, none⟩) h1 (fun _ hk => hk.1.2) _) (fun _ hk => hk.2) _) (fun _ hk => hk.2) _) (fun _ hk => hk.2) _) (fun _ _ => trivial)
                  · exact blk_far (blk_far (blk_far (blk_far (blk_below (blk_drewN HX6.out _) hb8) hXT3 _) hXT2 _) hXT2 _) hXT2 _
                  · exact grown_set_new (grown_set_new (grown_set_new (grown_set_new (grown_below (hg8.trans (grown_drewN _ _ _)) hb8) (by omega) 2 _) (by omega) 0 _) (by omega) 1 _) (by omega) 2 _
          case pos =>
            obtain ⟨hc, hse⟩ := hgo
            have HSE := Lib.hid hse
            clear hse
            obtain ⟨b, rfl⟩ : ∃ b', b = b' + 1 := ⟨b - 1, by omega⟩
            have HE6 : Hid (res = match keyR s (spEnd s (s.size - q) q) l with
                | .bad q c => .bad q c
                | .ok k q => attrsR s b q (l ++ [k])) := by
              rw [HE5.out, if_neg (by rw [hc]; simp)]
              rw [attrsR_succ, if_pos HSE.out]
              exact rfl
            go_wp2_with (go_at_call 64; refine (sees_any X s q 32 hq hs _ HX5.out).mono ?_; rw [HSE.out]; rintro e w2 ⟨rfl, m2, rfl⟩)
            clear y0 y1 y2 fy2
            go_loopw [] (fun w' => ∃ q2, q ≤ q2 ∧ q2 ≤ s.size ∧ w'.heap[X]? = some (scObj s q2) ∧ W5.grownBy w' (some X) ∧ spEnd s (s.size - q) q = spEnd s (s.size - q2) q2) (fun w' => s.size - posIn w' X)
            case atStart => exact ⟨q, Nat.le_refl _, hq, blk_drewN HX5.out _, grown_drewN _ _ _, rfl⟩
            case round =>
              obtain ⟨q2, hqq, hq2, hX6, hg6, hsp⟩ := hrel
              have HX6 := Lib.hid hX6
              have HG6 := Lib.hid hg6
              have HSP := Lib.hid hsp
              have x1 : wr.cell? ⟨X, 1, none⟩ = some (.int .i64 q2) := blk_cell hX6 1
              have fx1 := blk_frozen hX6 1
              clear hX6 hg6 hsp
              cases hs2 : seesB s q2 32 with
              | true =>
                have hql := seesB_lt hs2
                have HS2 := Lib.hid hs2
                clear hs2
                go_wp2_with (go_at_call 64; refine (sees_any X s q2 32 hq2 hs _ HX6.out).mono ?_; rw [HS2.out]; rintro e w2 ⟨rfl, m3, rfl⟩)
                go_roundw
                case rel =>
                  refine ⟨q2 + 1, by omega, by omega, blk_put (blk_drewN HX6.out _) 1 _ rfl, grown_set (HG6.out.trans (grown_drewN _ _ _)) _ _, ?_⟩
                  rw [HSP.out, show s.size - q2 = (s.size - (q2 + 1)) + 1 by omega, spEnd_succ, if_pos HS2.out]
                case measure =>
                  have hx := posIn_of (blk_put (blk_drewN HX6.out m3) 1 (.int .i64 ((q2 : Int) + 1)) rfl : ((wr.drewN m3).setCell ⟨X, 1, none⟩ (.int .i64 ((q2 : Int) + 1))).heap[X]? = some (scObj s (q2 + 1)))
                  rw [posIn_of HX6.out, hx]
                  omega
              | false =>
                have hsq : spEnd s (s.size - q) q = q2 := by
                  rw [HSP.out]
                  generalize s.size - q2 = b2
                  cases b2 with
                  | zero => rfl
                  | succ b2 => rw [spEnd_succ, if_neg (by rw [hs2]; simp)]
                have HS2 := Lib.hid hs2
                have HE7 : Hid (res = match keyR s q2 l with
                    | .bad q c => .bad q c
                    | .ok k q => attrsR s b q (l ++ [k])) := by rw [← hsq]; exact HE6.out
                clear hs2 hsq
                go_wp2_with (go_at_call 64; refine (sees_any X s q2 32 hq2 hs _ HX6.out).mono ?_; rw [HS2.out]; rintro e w2 ⟨rfl, m3, rfl⟩)
                obtain ⟨W6, hW6⟩ : ∃ W6, W6 = wr.drewN m3 := ⟨_, rfl⟩
                rw [← hW6]
                have hG7 : W5.grownBy W6 (some X) := by rw [hW6]; exact HG6.out.trans (grown_drewN _ _ _)
                have hX7 : W6.heap[X]? = some (scObj s q2) := by rw [hW6]; exact HX6.out
                have hT7 := blk_grown HT5.out hG7 (by simp; omega)
                have hF7 := blk_grown HF5.out hG7 (by simp; omega)
                have hR7 := Kd.R_grown (Kd.R_types HR5.out HX5.out (by decide)) hG7 (fun k hk e => hk.2 (by injection e))
                have hg7 := hg5.trans hG7
                obtain ⟨A7, c7, rfl⟩ := Kd.R_slice hR7
                obtain ⟨A8, c8, e8, hc8, hC8⟩ := Kd.R_reads hR7
                injection e8 with e81 e82 e83
                clear e82
                subst e81 e83
                have hfr := R_frame hR7 rfl (fun k hk => hk.2)
                have y2 : W6.cell? ⟨w.heap.size + 1, 2, none⟩ = some (.slice A7 l.length c7) := blk_cell hT7 2
                have HG7 := Lib.hid hg7
                have HX7 := Lib.hid hX7
                have HT7 := Lib.hid hT7
                have HF7 := Lib.hid hF7
                have HR7 := Lib.hid hR7
                have HFR := Lib.hid hfr
                have HCP := Lib.hid hc8
                clear hW6 hG7 hX7 hT7 hF7 hR7 hg7 hC8 hfr hc8 x1 fx1 HX6 HG6 HSP HF5 HT5 HR5 HE5 HE6 hg5
                cases hk : keyR s q2 l with
                | bad q8 c8 =>
                  have HK := Lib.hid hk
                  have HS8 : Hid (tagR s p = .bad q8 c8) := by rw [HS4.out, HE7.out, hk]; exact rfl
                  clear hk
                  go_region_dies
                  all_goals
                    refine (key_sc X s q2 hq2 hs l hl A7 c7 HCP.out _ (by exact HX7.out) (by exact fun w' h => HFR.out w' ((grown_drewN W6 1 _).trans h))).mono ?_
                    rw [HK.out]
                    rintro e w8 ⟨rfl, hg8⟩
                    exact And.intro rfl (by rw [HS8.out]; exact ⟨rfl, HG7.out.trans ((grown_drewN W6 1 _).trans hg8)⟩)
                | ok k8 q8 =>
                  have hk8 := keyR_le hk
                  have HK := Lib.hid hk
                  have HS8 : Hid (res = attrsR s b q8 (l ++ [k8])) := by rw [HE7.out, hk]; exact rfl
                  clear hk
                  have hXT : some (w.heap.size + 1) ≠ some X := by simp; omega
                  have hXT2 : some (w.heap.size) ≠ some X := by simp; omega
                  have hl7 : (l.length + 1) * 32 ≤ 140737488355328 := by omega
                  go_region_law (first
                    | (go_simp; go_at_call 66; refine (key_sc X s q2 hq2 hs l hl A7 c7 HCP.out _ (by exact HX7.out) (by exact fun w' h => HFR.out w' ((grown_drewN W6 1 _).trans h))).mono ?_; rw [HK.out]; rintro e w8 ⟨⟨u8, rfl, rfl⟩, hX8, hg8⟩; have hT8 := blk_grown (blk_drewN HT7.out 1) hg8 hXT; have hF8 := blk_grown (blk_drewN HF7.out 1) hg8 hXT2; have hG8 := HG7.out.trans ((grown_drewN W6 1 _).trans hg8); have hR8 := Kd.R_grown HR7.out ((grown_drewN W6 1 _).trans hg8) (fun k hk e => hk.2 (by injection e)); have cS8 : w8.cell? ⟨w.heap.size + 1, 2, none⟩ = some (.slice A7 l.length c7) := blk_cell hT8 2; have cSb : (w8.alloc (.cells #[.string k8.f0, .string k8.f1] 88)).cell? ⟨w.heap.size + 1, 2, none⟩ = some (.slice A7 l.length c7) := blk_cell (blk_alloc hT8 _) 2; have HT8 := Lib.hid hT8; have HF8 := Lib.hid hF8; have HG8 := Lib.hid hG8; have HR8 := Lib.hid hR8; have HX8 := Lib.hid hX8; clear hT8 hF8 hG8 hR8 hX8 hg8)
                    | (apply Kd.R_append_step (d := k88) (w0 := w8) (W := w8) (base := w.heap.size) (s := .tmp 36) (x := .tmp 41) (t := 56) (e := 88) (z := .agg #[.string ⟨#[]⟩, .string ⟨#[]⟩]) (bytes := 32) (ht := Tryd.underlying56) (hinfo := info88) (hz := rfl) (v := .slice A7 l.length c7) (xs := l) (p := k8) (cs := [.string k8.f0, .string k8.f1]) (ok := fun k => True ∧ k ≠ X) (okp := fun _ => False) (hp := k88_mkM _ _ _ _) (HO := HR8.out) (HB := Below.refl _ _) (hl := hl7); (case hw => go_loud (rfl)); (case hs0 => go_loud (decide)); (case hb0 => go_loud (decide)); (case ho => go_loud (rfl)); (case hs => go_loud (conv => lhs; simp [Act.eval, Act.put])); (case hx => go_loud (conv => lhs; simp [Act.eval, Act.put])); (case hokp => go_loud (exact fun _ hk => hk.elim)); (case hfresh => go_loud (exact fun k hk => ⟨trivial, by have := HG8.out.size; omega⟩)); (case hbase => go_loud (exact HG8.out.size)); (case' h => go_loud (intro v1 w9 hR9 hb9 hg9 hat9; obtain ⟨A9, c9, rfl⟩ := Kd.R_slice hR9; rw [List.length_append, List.length_singleton] at hR9; have hT9 := blk_grown HT8.out hg9 (Kd.R_ne HR8.out HT8.out (by decide)); have hF9 := blk_grown HF8.out hg9 (Kd.R_ne HR8.out HF8.out (by decide)); have cS9 : w9.cell? ⟨w.heap.size + 1, 2, none⟩ = some (.slice A7 l.length c7) := blk_cell hT9 2; have fS9 := blk_frozen hT9 2; have HT9 := Lib.hid hT9; have HF9 := Lib.hid hF9; have HR9 := Lib.hid hR9; have HB9 := Lib.hid hb9; clear hT9 hF9 hR9 hb9 hg9 hat9))))
                  all_goals
                    go_wp2
                    go_roundw
                    case rel =>
                      have hX9 : w9.heap[X]? = some (scObj s q8) := (HB9.out.block X hXlt).trans HX8.out
                      exact ⟨q8, b, l ++ [k8], _, blk_far hX9 hXT3 _, by omega, by omega, blk_far HF9.out (by show ¬ w.heap.size = w.heap.size + 1; omega) _, blk_put HT9.out 2 _ rfl, Kd.R_mono (Kd.R_set HR9.out HT9.out (by decide) 2 _) (fun _ _ => trivial), grown_set_new (grown_belowB HG8.out HB9.out) (by omega) 2 _, by rw [List.length_append, List.length_singleton]; omega, by rw [HS8.out, if_neg (by rw [hc]; simp)]⟩
                    case measure =>
                      have hX9 : w9.heap[X]? = some (scObj s q8) := (HB9.out.block X hXlt).trans HX8.out
                      have hx := posIn_of (blk_far hX9 (p := ⟨w.heap.size + 1, 2, none⟩) hXT3 (.slice A9 (l.length + 1) c9))
                      rw [posIn_of HX5.out, hx]
                      omega
end Go.Proofs.YtebajpebongabaaDoor.V
