/- Several texts in one; each says what it is. No condition beyond theirs. -/
import Derived.WalkKit
import Derived.WalkLawsBesides
import Derived.WalkSpells
import Derived.Deep.LoopGhost
import Derived.Deep.QuietTactic
import Derived.BigQuiet
import Derived.BigCall
import Derived.Deep.RegionHeld3
import Derived.Deep.RegionLaw
import Derived.Deep.AppendLies
import Derived.IntWalk
import Derived.Lib.Hide
import Derived.Test.YtebajpebongabaaDoorProg
import Derived.Test.YtebajpebongabaaDoorWAll
import Derived.Test.YtebajpebongabaaDoorDl
import Derived.Test.YtebajpebongabaaDoorPx10
/- The reader's methods that open and close texts and regions. Condition: the reader's block and rows stand as RS says. -/
namespace Go.Proofs.YtebajpebongabaaDoor.V
open Go.RowKit Go.Proofs.YtebajpebongabaaDoorW.PrintWords Go.Proofs.YtebajpebongabaaDoorW.PrintMore Go.Proofs.YtebajpebongabaaDoor.P Go.Proofs.YtebajpebongabaaDoor.X
set_option linter.unusedVariables false
set_option linter.unusedSimpArgs false

def beginRegionE (s : St) : Int := if s.text = false then 17 else if 1024 ≤ s.regs.length + s.opens.length then 2 else if 40 ≤ s.opens.length then 2 else 0
def beginRegionS (s : St) (tg : Tg) : St := { s with opens := s.opens ++ [⟨tg.name, s.toks.length, 0, tg.keys⟩] }

/-- What a method leaves: an error and nothing told of the rows, or none and the new state. -/
def MPost (w : World) (base G : Nat) (err : Int) (s' : St) (e : Ending) (w' : World) : Prop :=
  e = .returned (.int .i64 err) ∧ Fr base w w' ∧ (err = 0 → RS w' base G s')

set_option maxHeartbeats 4000000 in
set_option maxRecDepth 100000 in
theorem beginRegion_r (w : World) (base G : Nat) (s : St) (tg : Tg) (vk : Value) (hbase : base ≤ w.heap.size) (hS : RS w base G s) (hK : Kd.R k88 88 w base (fun _ => True) vk tg.keys) :
    Calls Tryd.prog 26 #[.pointer (some ⟨G, 0, none⟩), .agg #[.bool tg.closing, .string tg.name, vk]] w (MPost w base G (beginRegionE s) (beginRegionS s tg)) := by
  obtain ⟨hk, va, vt, vx, vr, vo, hP⟩ := hS
  obtain ⟨Ak, ck, rfl⟩ := Kd.R_slice hK
  obtain ⟨Ao, co, rfl⟩ := Kd.R_slice hP.ro
  obtain ⟨Ar, cr, rfl⟩ := Kd.R_slice hP.rr
  obtain ⟨At, ct, rfl⟩ := Kd.R_slice hP.rt
  have hG := hP.lt
  have hne : ¬ G = w.heap.size := by omega
  have hne' : ¬ w.heap.size = G := by omega
  have x1 : w.cell? ⟨G, 1, none⟩ = some (.slice At s.toks.length ct) := blk_cell hP.blk 1
  have x3 : w.cell? ⟨G, 3, none⟩ = some (.slice Ar s.regs.length cr) := blk_cell hP.blk 3
  have x7 : w.cell? ⟨G, 7, none⟩ = some (.slice Ao s.opens.length co) := blk_cell hP.blk 7
  have x8 : w.cell? ⟨G, 8, none⟩ = some (.bool s.text) := blk_cell hP.blk 8
  have HP := Lib.hid hP
  have HK := Lib.hid hK
  have hr := hk.regs
  have hu := Tryd.underlying68
  have HKK := Lib.hid hk
  clear hP hK hk
  cases ht : s.text with
  | false =>
    have hE : beginRegionE s = 17 := by unfold beginRegionE; rw [if_pos ht]
    rw [hE]
    rw [ht] at x8
    clear ht hE
    go_enter Tryd.func26, Tryd.ntmps26
    go_wp2
    go_ret
    exact ⟨rfl, Fr.of_below (below_alloc (Below.refl _ _) _) hbase, fun h => absurd h (by decide)⟩
  | true =>
    rw [ht] at x8
    have hG3 : (0 : Int) ≤ (s.regs.length : Int) := by omega
    have hE0 : beginRegionE s = if 1024 ≤ s.regs.length + s.opens.length then 2 else if 40 ≤ s.opens.length then 2 else 0 := by unfold beginRegionE; rw [if_neg (by rw [ht]; decide)]
    have HT := Lib.hid ht
    have hw : IntKind.i64.wrap ((s.regs.length : Int) + (s.opens.length : Int)) = (s.regs.length : Int) + (s.opens.length : Int) := IntWalk.i64_in _ (by omega)
    by_cases c1 : 1024 ≤ s.regs.length + s.opens.length
    · have hE : beginRegionE s = 2 := by rw [hE0, if_pos c1]
      rw [hE]
      have hd : decide ((1024 : Int) ≤ (s.regs.length : Int) + (s.opens.length : Int)) = true := decide_eq_true (by omega)
      clear ht hE hE0 c1
      go_enter Tryd.func26, Tryd.ntmps26
      go_wp2
      go_quiet (fail)
      go_wp2
      go_ret
      exact ⟨rfl, Fr.of_below (pw_below_drewN (below_alloc (Below.refl _ _) _) _) hbase, fun h => absurd h (by decide)⟩
    · have hd : decide ((1024 : Int) ≤ (s.regs.length : Int) + (s.opens.length : Int)) = false := decide_eq_false (by omega)
      by_cases c2 : 40 ≤ s.opens.length
      · have hE : beginRegionE s = 2 := by rw [hE0, if_neg c1, if_pos c2]
        rw [hE]
        have hd2 : decide ((40 : Int) ≤ (s.opens.length : Int)) = true := decide_eq_true (by omega)
        have hd3 : decide (40 ≤ s.opens.length) = true := decide_eq_true c2
        clear ht hE hE0 c1 c2
        go_enter Tryd.func26, Tryd.ntmps26
        go_wp2
        go_quiet (fail)
        go_wp2
        go_ret
        exact ⟨rfl, Fr.of_below (pw_below_drewN (below_alloc (Below.refl _ _) _) _) hbase, fun h => absurd h (by decide)⟩
      · have hE : beginRegionE s = 0 := by rw [hE0, if_neg c1, if_neg c2]
        rw [hE]
        have hd2 : decide ((40 : Int) ≤ (s.opens.length : Int)) = false := decide_eq_false (by omega)
        have hd3 : decide (40 ≤ s.opens.length) = false := decide_eq_false c2
        have hc1 : s.regs.length + s.opens.length < 1024 := by omega
        have hc2 : s.opens.length < 40 := by omega
        clear ht hE hE0 c1 c2
        go_enter Tryd.func26, Tryd.ntmps26
        go_wp2
        go_quiet (fail)
        go_wp2
        obtain ⟨W0, hW0⟩ : ∃ W0, W0 = (w.alloc (tgObj tg.closing tg.name (.slice Ak tg.keys.length ck))).drewN nq := ⟨_, rfl⟩
        have hb0 : Below w.heap.size w W0 := by rw [hW0]; exact pw_below_drewN (below_alloc (Below.refl _ _) _) _
        have hF : W0.heap[w.heap.size]? = some (tgObj tg.closing tg.name (.slice Ak tg.keys.length ck)) := by rw [hW0]; exact blk_drewN (blk_new w _) _
        rw [← hW0]
        have hP0 := HP.out.below hb0
        have hK0 := R_apart (Kd.R_below HK.out hb0) hP0.ro (by decide)
        have z1 : W0.cell? ⟨G, 1, none⟩ = some (.slice At s.toks.length ct) := blk_cell hP0.blk 1
        have z7 : W0.cell? ⟨G, 7, none⟩ = some (.slice Ao s.opens.length co) := blk_cell hP0.blk 7
        have zf1 : W0.cell? ⟨w.heap.size, 1, none⟩ = some (.string tg.name) := blk_cell hF 1
        have zf2 : W0.cell? ⟨w.heap.size, 2, none⟩ = some (.slice Ak tg.keys.length ck) := blk_cell hF 2
        have HP0 := Lib.hid hP0
        have HF0 := Lib.hid hF
        have HK0 := Lib.hid hK0
        have HB0 := Lib.hid hb0
        clear hW0 hb0 hF hP0 hK0 x1 x3 x7 x8 hd hd2 hd3 hw
        have hGW : ¬ G = W0.heap.size := by have := HP0.out.lt; omega
        have hGW' : ¬ W0.heap.size = G := by have := HP0.out.lt; omega
        refine K_begin 20 (fun w' => w'.cell? ⟨G, 1, none⟩ = some (.slice At s.toks.length ct) ∧ w'.cell? ⟨G, 7, none⟩ = some (.slice Ao s.opens.length co) ∧ w'.cell? ⟨w.heap.size, 1, none⟩ = some (.string tg.name) ∧ w'.cell? ⟨w.heap.size, 2, none⟩ = some (.slice Ak tg.keys.length ck)) (by kernel_rfl) ?hSk120 (fun hHeld => ?restk120)
        case hSk120 => (first | exact ⟨q1, q7, qf1, qf2⟩ | go_keep)
        case' restk120 => skip
        refine K_take (i := 0) (v := ?vk123) rfl (by kernel_rfl) (fun _ _ _ h => h) (Or.inl ⟨by rfl, ?hyk123⟩) (by assumption) ?restk123
        case hyk123 => ((intro w hSw; (try dsimp only at hSw); go_simp); try (with_reducible rfl))
        case' restk123 => try simp only [Act.put, List.setIfInBounds_toArray, List.set_cons_zero, List.set_cons_succ]
        refine K_take (i := 1) (v := ?vk126) rfl (by kernel_rfl) (fun _ _ _ h => h) (Or.inl ⟨by rfl, ?hyk126⟩) (by assumption) ?restk126
        case hyk126 => ((intro w hSw; (try dsimp only at hSw); go_simp); try (with_reducible rfl))
        case' restk126 => try simp only [Act.put, List.setIfInBounds_toArray, List.set_cons_zero, List.set_cons_succ]
        refine K_take (i := 2) (v := ?vk129) rfl (by kernel_rfl) (fun _ _ _ h => h) (Or.inl ⟨by rfl, ?hyk129⟩) (by assumption) ?restk129
        case hyk129 => ((intro w hSw; (try dsimp only at hSw); go_simp); try (with_reducible rfl))
        case' restk129 => try simp only [Act.put, List.setIfInBounds_toArray, List.set_cons_zero, List.set_cons_succ]
        refine K_take (i := 3) (v := ?vk132) rfl (by kernel_rfl) (fun _ _ _ h => h) (Or.inl ⟨by rfl, ?hyk132⟩) (by assumption) ?restk132
        case hyk132 => ((intro w hSw; (try dsimp only at hSw); go_simp); try (with_reducible rfl))
        case' restk132 => try simp only [Act.put, List.setIfInBounds_toArray, List.set_cons_zero, List.set_cons_succ]
        refine K_take (i := 4) (v := ?vk135) rfl (by kernel_rfl) (fun _ _ _ h => h) (Or.inl ⟨by rfl, ?hyk135⟩) (by assumption) ?restk135
        case hyk135 => ((intro w hSw; (try dsimp only at hSw); go_simp); try (with_reducible rfl))
        case' restk135 => try simp only [Act.put, List.setIfInBounds_toArray, List.set_cons_zero, List.set_cons_succ]
        refine K_take (i := 5) (v := ?vk138) rfl (by kernel_rfl) (fun _ _ _ h => h) (Or.inl ⟨by rfl, ?hyk138⟩) (by assumption) ?restk138
        case hyk138 => ((intro w hSw; (try dsimp only at hSw); go_simp); try (with_reducible rfl))
        case' restk138 => try simp only [Act.put, List.setIfInBounds_toArray, List.set_cons_zero, List.set_cons_succ]
        refine K_take (i := 6) (v := ?vk141) rfl (by kernel_rfl) (fun _ _ _ h => h) (Or.inl ⟨by rfl, ?hyk141⟩) (by assumption) ?restk141
        case hyk141 => ((intro w hSw; (try dsimp only at hSw); go_simp); try (with_reducible rfl))
        case' restk141 => try simp only [Act.put, List.setIfInBounds_toArray, List.set_cons_zero, List.set_cons_succ]
        refine K_take (i := 7) (v := ?vk144) rfl (by kernel_rfl) (fun _ _ _ h => h) (Or.inl ⟨by rfl, ?hyk144⟩) (by assumption) ?restk144
        case hyk144 => ((intro w hSw; (try dsimp only at hSw); go_simp); try (with_reducible rfl))
        case' restk144 => try simp only [Act.put, List.setIfInBounds_toArray, List.set_cons_zero, List.set_cons_succ]
        refine K_take (i := 8) (v := ?vk147) rfl (by kernel_rfl) (fun _ _ _ h => h) (Or.inl ⟨by rfl, ?hyk147⟩) (by assumption) ?restk147
        case hyk147 => ((intro w hSw; (try dsimp only at hSw); go_simp); try (with_reducible rfl))
        case' restk147 => try simp only [Act.put, List.setIfInBounds_toArray, List.set_cons_zero, List.set_cons_succ]
        refine K_take (i := 9) (v := ?vk150) rfl (by kernel_rfl) (fun _ _ _ h => h) (Or.inl ⟨by rfl, ?hyk150⟩) (by assumption) ?restk150
        case hyk150 => ((intro w hSw; (try dsimp only at hSw); go_simp); try (with_reducible rfl))
        case' restk150 => try simp only [Act.put, List.setIfInBounds_toArray, List.set_cons_zero, List.set_cons_succ]
        refine K_take (i := 10) (v := ?vk153) rfl (by kernel_rfl) (fun _ _ _ h => h) (Or.inl ⟨by rfl, ?hyk153⟩) (by assumption) ?restk153
        case hyk153 => ((intro w hSw; (try dsimp only at hSw); go_simp); try (with_reducible rfl))
        case' restk153 => try simp only [Act.put, List.setIfInBounds_toArray, List.set_cons_zero, List.set_cons_succ]
        refine K_take (i := 11) (v := ?vk156) rfl (by kernel_rfl) (fun _ _ _ h => h) (Or.inl ⟨by rfl, ?hyk156⟩) (by assumption) ?restk156
        case hyk156 => ((intro w hSw; (try dsimp only at hSw); go_simp); try (with_reducible rfl))
        case' restk156 => try simp only [Act.put, List.setIfInBounds_toArray, List.set_cons_zero, List.set_cons_succ]
        refine K_take (i := 12) (v := ?vk159) rfl (by kernel_rfl) (fun _ _ _ h => h) (Or.inl ⟨by rfl, ?hyk159⟩) (by assumption) ?restk159
        case hyk159 => ((intro w hSw; (try dsimp only at hSw); go_simp); try (with_reducible rfl))
        case' restk159 => try simp only [Act.put, List.setIfInBounds_toArray, List.set_cons_zero, List.set_cons_succ]
        refine K_take (i := 13) (v := ?vk162) rfl (by kernel_rfl) (fun _ _ _ h => h) (Or.inl ⟨by rfl, ?hyk162⟩) (by assumption) ?restk162
        case hyk162 => ((intro w hSw; (try dsimp only at hSw); go_simp); try (with_reducible rfl))
        case' restk162 => try simp only [Act.put, List.setIfInBounds_toArray, List.set_cons_zero, List.set_cons_succ]
        refine K_take (i := 14) (v := ?vk165) rfl (by kernel_rfl) (fun _ _ _ h => h) (Or.inl ⟨by rfl, ?hyk165⟩) (by assumption) ?restk165
        case hyk165 => ((intro w hSw; (try dsimp only at hSw); go_simp); try (with_reducible rfl))
        case' restk165 => try simp only [Act.put, List.setIfInBounds_toArray, List.set_cons_zero, List.set_cons_succ]
        refine K_take (i := 15) (v := ?vk168) rfl (by kernel_rfl) (fun _ _ _ h => h) (Or.inl ⟨by rfl, ?hyk168⟩) (by assumption) ?restk168
        case hyk168 => ((intro w hSw; (try dsimp only at hSw); go_simp); try (with_reducible rfl))
        case' restk168 => try simp only [Act.put, List.setIfInBounds_toArray, List.set_cons_zero, List.set_cons_succ]
        refine K_one (i := 16) rfl (by kernel_rfl) (by decide) (fun K hK => ?_)
        go_simp
        refine hK.out _ _ ?hSk171 (fun hHeld => ?restk171)
        case hSk171 => ((try dsimp only); (first | exact ⟨q1, q7, qf1, qf2⟩ | go_keep))
        case' restk171 => skip
        clear hK K
        try simp only [Act.put, List.setIfInBounds_toArray, List.set_cons_zero, List.set_cons_succ]
        refine K_one (i := 17) rfl (by kernel_rfl) (by decide) (fun K hK => ?_)
        ((apply Kd.R_append_step (d := k58) (w0 := W0.drew) (W := W0.drew) (base := base) (s := .tmp 35) (x := .tmp 47) (t := 25) (e := 58) (z := .agg #[.string ⟨#[]⟩, .int .i64 0, .int .i64 0, .slice none 0 0]) (bytes := 56) (ht := Tryd.underlying25) (hinfo := info_reg) (hz := rfl) (v := .slice Ao s.opens.length co) (xs := s.opens) (p := ⟨tg.name, s.toks.length, 0, tg.keys⟩) (cs := [.string tg.name, .int .i64 s.toks.length, .int .i64 0, .slice Ak tg.keys.length ck]) (ok := fun _ => True) (okp := fun k => True ∧ some k ≠ (Value.slice Ao s.opens.length co).ownBlock) (hp := k58_mkM _ _ _ _ (Kd.R_drew HK0.out)) (HO := Kd.R_drew HP0.out.ro) (HB := Below.refl _ _); (case hw => go_loud (rfl)); (case hs0 => go_loud (decide)); (case hb0 => go_loud (decide)); (case ho => go_loud (rfl)); (case hs => go_loud (conv => lhs; simp [Act.eval, Act.put])); (case hx => go_loud ((conv => lhs; simp [Act.eval, Act.put]); try rfl)); (case hokp => go_loud (exact fun k hk => hk)); (case hfresh => go_loud (exact fun k hk => trivial)); (case hbase => go_loud (have := HB0.out.size; simp; omega)); (case hl => go_loud (omega)); (case' h => go_loud (intro v1 w9 hR9 hb9 hg9 hat9; obtain ⟨A9, c9, rfl⟩ := Kd.R_slice hR9; rw [List.length_append, List.length_singleton] at hR9 hat9; have hG9 := blk_still (blk_drew HP0.out.blk) hg9 (Kd.R_ne HP0.out.ro HP0.out.blk (by decide)); have hF9 := blk_still (blk_drew HF0.out) hg9 (Kd.R_ne HP0.out.ro HF0.out (by decide)); have q1 : w9.cell? ⟨G, 1, none⟩ = some (.slice At s.toks.length ct) := blk_cell hG9 1; have q7 : w9.cell? ⟨G, 7, none⟩ = some (.slice Ao s.opens.length co) := blk_cell hG9 7; have f7 := blk_frozen hG9 7; have qf1 : w9.cell? ⟨w.heap.size, 1, none⟩ = some (.string tg.name) := blk_cell hF9 1; have qf2 : w9.cell? ⟨w.heap.size, 2, none⟩ = some (.slice Ak tg.keys.length ck) := blk_cell hF9 2; have HR9 := Lib.hid hR9; have HB9 := Lib.hid hb9; have HG9 := Lib.hid hg9; have HAT9 := Lib.hid hat9; clear hR9 hb9 hg9 hat9 hG9 hF9))))
        refine hK.out _ _ ?hSk178 (fun hHeld => ?restk178)
        case hSk178 => ((try dsimp only); (first | exact ⟨q1, q7, qf1, qf2⟩ | go_keep))
        case' restk178 => skip
        clear hK K
        try simp only [Act.put, List.setIfInBounds_toArray, List.set_cons_zero, List.set_cons_succ]
        refine K_take (i := 18) (v := ?vk185) rfl (by kernel_rfl) (fun _ _ _ h => h) (Or.inl ⟨by rfl, ?hyk185⟩) (by assumption) ?restk185
        case hyk185 => ((intro w hSw; (try dsimp only at hSw); go_simp); try (with_reducible rfl))
        case' restk185 => try simp only [Act.put, List.setIfInBounds_toArray, List.set_cons_zero, List.set_cons_succ]
        refine K_take (i := 19) (v := ?vk188) rfl (by kernel_rfl) (fun _ _ _ h => h) (Or.inl ⟨by rfl, ?hyk188⟩) (by assumption) ?restk188
        case hyk188 => ((intro w hSw; (try dsimp only at hSw); go_simp); try (with_reducible rfl))
        case' restk188 => try simp only [Act.put, List.setIfInBounds_toArray, List.set_cons_zero, List.set_cons_succ]
        refine K_tail (i := 20) rfl (by kernel_rfl) (by decide) (fun K hK => ?_)
        go_simp
        refine hK.out _ _ ?_
        clear hK K
        try simp only [Act.put, List.setIfInBounds_toArray, List.set_cons_zero, List.set_cons_succ]
        refine K_done (by kernel_rfl) ?_ _
        all_goals
          go_wp2
          go_ret
          have hP9 := RP.opensTo (HP0.out.below (below_drew (Below.refl _ _))) HR9.out HG9.out HAT9.out
          refine ⟨rfl, (Fr.of_below (below_drew HB0.out) hbase).trans ((Fr.grown (HP0.out.below (below_drew (Below.refl _ _))).ro HG9.out (by decide) HB9.out).trans (Fr.put (blk_still (blk_drew HP0.out.blk) HG9.out (Kd.R_ne HP0.out.ro HP0.out.blk (by decide))) (by decide) HP0.out.le _ _)), fun _ => ⟨⟨HKK.out.att, HKK.out.toks, HKK.out.texts, ?_, HKK.out.one⟩, va, _, vx, _, _, hP9⟩⟩
          show s.regs.length + (s.opens ++ [_]).length ≤ 1024
          rw [List.length_append, List.length_singleton]
          omega

/-! ### endRegion -/
/-- The last of the first i regions that has a type. -/
def lastOpen (l : List S58) (n : ByteArray) : Nat → Option Nat
  | 0 => none
  | i + 1 => if (l.getD i z58).f0.toList = n.toList then some i else lastOpen l n i
theorem lastOpen_lt (l : List S58) (n : ByteArray) : ∀ (i j : Nat), lastOpen l n i = some j → j < i
  | 0, j, h => by simp [lastOpen] at h
  | i + 1, j, h => by
    unfold lastOpen at h
    split at h
    · injection h with h; omega
    · have := lastOpen_lt l n i j h; omega
def erE (s : St) : Option Nat → Int
  | none => 11
  | some i => if (s.opens.getD i z58).f1 = (s.toks.length : Int) then 8 else 0
def erS (s : St) : Option Nat → St
  | none => s
  | some i => { s with regs := s.regs ++ [⟨(s.opens.getD i z58).f0, (s.opens.getD i z58).f1, s.toks.length, (s.opens.getD i z58).f3⟩], opens := s.opens.eraseIdx i }
def endRegionE (s : St) (tg : Tg) : Int := if s.text = false then 17 else erE s (lastOpen s.opens tg.name s.opens.length)
def endRegionS (s : St) (tg : Tg) : St := erS s (lastOpen s.opens tg.name s.opens.length)

set_option maxHeartbeats 8000000 in
set_option maxRecDepth 100000 in
theorem endRegion_r (w : World) (base G : Nat) (s : St) (tg : Tg) (vk : Value) (hbase : base ≤ w.heap.size) (hS : RS w base G s) (hK : Kd.R k88 88 w base (fun _ => True) vk tg.keys) :
    Calls Tryd.prog 27 #[.pointer (some ⟨G, 0, none⟩), .agg #[.bool tg.closing, .string tg.name, vk]] w (MPost w base G (endRegionE s tg) (endRegionS s tg)) := by
  obtain ⟨hk, va, vt, vx, vr, vo, hP⟩ := hS
  obtain ⟨Ak, ck, rfl⟩ := Kd.R_slice hK
  obtain ⟨Ao, co, rfl⟩ := Kd.R_slice hP.ro
  obtain ⟨Ar, cr, rfl⟩ := Kd.R_slice hP.rr
  obtain ⟨At, ct, rfl⟩ := Kd.R_slice hP.rt
  have hG := hP.lt
  have hne : ¬ G = w.heap.size := by omega
  have hne' : ¬ w.heap.size = G := by omega
  have x7 : w.cell? ⟨G, 7, none⟩ = some (.slice Ao s.opens.length co) := blk_cell hP.blk 7
  have x8 : w.cell? ⟨G, 8, none⟩ = some (.bool s.text) := blk_cell hP.blk 8
  have HP := Lib.hid hP
  have hr := hk.regs
  have htk := hk.toks
  have hu := Tryd.underlying68
  have HKK := Lib.hid hk
  clear hP hK hk
  cases ht : s.text with
  | false =>
    have hE : endRegionE s tg = 17 := by unfold endRegionE; rw [if_pos ht]
    rw [hE]
    rw [ht] at x8
    clear ht hE
    go_enter Tryd.func27, Tryd.ntmps27
    go_wp2
    go_ret
    exact ⟨rfl, Fr.of_below (below_alloc (Below.refl _ _) _) hbase, fun h => absurd h (by decide)⟩
  | true =>
    rw [ht] at x8
    obtain ⟨n, hn⟩ : ∃ n, n = s.opens.length := ⟨_, rfl⟩
    obtain ⟨li, hli⟩ : ∃ o, o = lastOpen s.opens tg.name s.opens.length := ⟨_, rfl⟩
    have HE : Hid (endRegionE s tg = erE s li) := by unfold endRegionE; rw [if_neg (by rw [ht]; decide), ← hli]; exact rfl
    have HSS : Hid (endRegionS s tg = erS s li) := by unfold endRegionS; rw [← hli]; exact rfl
    have HLI := Lib.hid hli
    have HT := Lib.hid ht
    clear ht hli
    rw [← hn] at x7
    have HN := Lib.hid hn
    have hr' : n ≤ 1024 := by rw [hn]; omega
    clear hn
    go_enter Tryd.func27, Tryd.ntmps27
    go_wp2
    obtain ⟨W2, hW2⟩ : ∃ W2, W2 = w.alloc (tgObj tg.closing tg.name (.slice Ak tg.keys.length ck)) := ⟨_, rfl⟩
    have hb2 : Below w.heap.size w W2 := by rw [hW2]; exact below_alloc (Below.refl _ _) _
    have hF : W2.heap[w.heap.size]? = some (tgObj tg.closing tg.name (.slice Ak tg.keys.length ck)) := by rw [hW2]; exact blk_new w _
    have hs2 : W2.heap.size = w.heap.size + 1 := by rw [hW2]; simp
    rw [← hW2]
    have hP2 := HP.out.below hb2
    have HS2 := Lib.hid hs2
    have HP2 := Lib.hid hP2
    have HF := Lib.hid hF
    have HB2 := Lib.hid hb2
    clear hW2 hb2 hF hs2 hP2 x7 x8
    go_loopw [5] (fun v w' => ∃ q m : Nat, v = .int .i64 ((q : Int) - 1) ∧ q ≤ n ∧ w' = W2.drewN m ∧ li = lastOpen s.opens tg.name q) (fun v _ => (intOf v + 1).toNat)
    case atStart => exact ⟨n, 0, rfl, Nat.le_refl _, by cases W2; rfl, by rw [HN.out]; exact HLI.out⟩
    case round =>
      obtain ⟨q, m, rfl, hq, rfl, hp⟩ := hrel
      have x7 : (W2.drewN m).cell? ⟨G, 7, none⟩ = some (.slice Ao n co) := by rw [HN.out]; exact blk_cell HP2.out.blk 7
      have xF : (W2.drewN m).cell? ⟨w.heap.size, 1, none⟩ = some (.string tg.name) := blk_cell HF.out 1
      have x7' : W2.cell? ⟨G, 7, none⟩ = some (.slice Ao n co) := by rw [HN.out]; exact blk_cell HP2.out.blk 7
      have xF' : W2.cell? ⟨w.heap.size, 1, none⟩ = some (.string tg.name) := blk_cell HF.out 1
      by_cases hq0 : q = 0
      · have hnone : li = none := by rw [hp, hq0]; rfl
        have hE : endRegionE s tg = 11 := by rw [HE.out, hnone]; rfl
        subst hq0
        have HEN := Lib.hid hE
        clear hp hnone hE
        have hd1 : decide ((0 : Int) ≤ ((0 : Nat) : Int) - 1) = false := rfl
        go_wp2
        go_quiet (fail)
        go_wp2
        go_ret
        exact ⟨by rw [HEN.out]; rfl, Fr.of_below (pw_below_drewN HB2.out _) hbase, fun h => absurd h (by rw [HEN.out]; decide)⟩
      · obtain ⟨i, hqi⟩ : ∃ i, q = i + 1 := ⟨q - 1, by omega⟩
        subst hqi
        clear hq0
        have hi : i < n := by omega
        obtain ⟨g, cap, hv, -, hcap, -⟩ := R_form HP2.out.ro (by have := HN.out; omega)
        injection hv with hA _ hcap'
        subst hA hcap'
        have hiL : i < s.opens.length := by have := HN.out; omega
        obtain ⟨cy, hMy, hcy⟩ := R_at HP2.out.ro rfl i hiL
        obtain ⟨v3, rfl, hR3⟩ := k58_openM hMy
        obtain ⟨Ak3, ck3, rfl⟩ := Kd.R_slice hR3
        obtain ⟨y, hy⟩ : ∃ y, y = s.opens[i] := ⟨_, rfl⟩
        have hyd : s.opens.getD i z58 = y := by rw [hy]; simp [List.getD, List.getElem?_eq_getElem hiL]
        rw [← hy] at hcy hR3
        have d0 : W2.cell? ⟨g, i * 4, none⟩ = some (.string y.f0) := hcy 0 _ rfl
        have d1 : W2.cell? ⟨g, i * 4 + 1, none⟩ = some (.int .i64 y.f1) := hcy 1 _ rfl
        have d2 : W2.cell? ⟨g, i * 4 + 2, none⟩ = some (.int .i64 y.f2) := hcy 2 _ rfl
        have d3 : W2.cell? ⟨g, i * 4 + 3, none⟩ = some (.slice Ak3 y.f3.length ck3) := hcy 3 _ rfl
        have d0' : (W2.drewN m).cell? ⟨g, i * 4, none⟩ = some (.string y.f0) := d0
        have HR3 := Lib.hid hR3
        clear hMy hcy hy hR3
        have hii : ((i + 1 : Nat) : Int) - 1 = (i : Int) := by omega
        rw [hii]
        have h00 : (0 : Int) ≤ (i : Int) := by omega
        have h11 : (i : Int) < (n : Int) := by omega
        have hd1 : decide ((0 : Int) ≤ (i : Int)) = true := decide_eq_true h00
        have hd4 : decide ((i : Int) < (0 : Int)) = false := decide_eq_false (by omega)
        by_cases hnm : y.f0.toList = tg.name.toList
        case neg =>
          have hnb : (y.f0.toList == tg.name.toList) = false := beq_eq_false_iff_ne.2 hnm
          have hstep : li = lastOpen s.opens tg.name i := by rw [hp]; conv => lhs; unfold lastOpen; rw [if_neg (by rw [hyd]; exact hnm)]
          have HST := Lib.hid hstep
          clear hp hnm d1 d2 d3 hyd hstep
          go_wp2
          go_quiet (fail)
          go_wp2
          go_roundw
          case rel => exact ⟨i, _, rfl, by omega, rfl, HST.out⟩
          case measure => simp [intOf] <;> omega
        case pos =>
          have hnb : (y.f0.toList == tg.name.toList) = true := beq_iff_eq.2 hnm
          have hli : li = some i := by rw [hp]; conv => lhs; unfold lastOpen; rw [if_pos (by rw [hyd]; exact hnm)]
          have HLS := Lib.hid hli
          have HYD := Lib.hid hyd
          have x71 : W2.cell? ⟨G, 1, none⟩ = some (.slice At s.toks.length ct) := blk_cell HP2.out.blk 1
          clear hp hnm hyd hli
          go_wp2
          go_quiet (fail)
          generalize hW3 : (W2.drewN _).drewN _ = W3
          have hb3 : Below W2.heap.size W2 W3 := by rw [← hW3]; exact pw_below_drewN (pw_below_drewN (Below.refl _ _) _) _
          have hs3 : W3.heap.size = W2.heap.size := by rw [← hW3]; rfl
          have z1 : W3.cell? ⟨G, 1, none⟩ = some (.slice At s.toks.length ct) := by rw [← hW3]; exact x71
          have z7 : W3.cell? ⟨G, 7, none⟩ = some (.slice (some ⟨g, 0, none⟩) n co) := by rw [← hW3]; exact x7'
          have e0 : W3.cell? ⟨g, i * 4, none⟩ = some (.string y.f0) := by rw [← hW3]; exact d0
          have e1 : W3.cell? ⟨g, i * 4 + 1, none⟩ = some (.int .i64 y.f1) := by rw [← hW3]; exact d1
          have e2 : W3.cell? ⟨g, i * 4 + 2, none⟩ = some (.int .i64 y.f2) := by rw [← hW3]; exact d2
          have e3 : W3.cell? ⟨g, i * 4 + 3, none⟩ = some (.slice Ak3 y.f3.length ck3) := by rw [← hW3]; exact d3
          have HB3 := Lib.hid (⟨hb3, hs3⟩ : _ ∧ _)
          have hGW : ¬ G = W3.heap.size := by have := HP2.out.lt; omega
          have hGW' : ¬ W3.heap.size = G := by have := HP2.out.lt; omega
          clear hW3 hb3 hs3 x7 x7' xF xF' d0 d0' d1 d2 d3 x71
          go_wp2
          generalize hW4 : W3.alloc _ = W4
          have hb4 : Below W3.heap.size W3 W4 := by rw [← hW4]; exact below_alloc (Below.refl _ _) _
          have hF4 : W4.heap[W3.heap.size]? = some (.cells #[.string y.f0, .int .i64 y.f1, .int .i64 y.f2, .slice Ak3 y.f3.length ck3] 58 (0, 0)) := by rw [← hW4]; exact blk_new W3 _
          have z1' : W4.cell? ⟨G, 1, none⟩ = some (.slice At s.toks.length ct) := blk_cell (blk_below (blk_below HP2.out.blk HB3.out.1) hb4) 1
          obtain ⟨F, hFF⟩ : ∃ F, F = W3.heap.size := ⟨_, rfl⟩
          rw [← hFF] at hF4 hGW hGW' ⊢
          have u1 : W4.cell? ⟨F, 1, none⟩ = some (.int .i64 y.f1) := blk_cell hF4 1
          have u2 : W4.cell? ⟨F, 2, none⟩ = some (.int .i64 y.f2) := blk_cell hF4 2
          have f2 := blk_frozen hF4 2
          have HF4 := Lib.hid hF4
          have HB4 := Lib.hid hb4
          have HFF := Lib.hid hFF
          have HBA : Hid (Below w.heap.size w W4) := (HB2.out.trans (HB3.out.1.mono HB2.out.size)).trans (hb4.mono (by have := HB2.out.size; have := HB3.out.2; omega))
          clear hW4 hb4 hF4 hFF z1 z7 e0 e1 e2 e3
          by_cases hcE : y.f1 = (s.toks.length : Int)
          · have hcb : (y.f1 == (s.toks.length : Int)) = true := beq_iff_eq.2 hcE
            have HEN : Hid (endRegionE s tg = 8) := by
              rw [HE.out, HLS.out]
              have h := HYD.out
              show (if (s.opens.getD i z58).f1 = (s.toks.length : Int) then (8 : Int) else 0) = 8
              rw [h, if_pos hcE]
            clear hcE
            go_quiet (fail)
            go_wp2
            go_ret
            exact ⟨by rw [HEN.out]; rfl, Fr.of_below (pw_below_drewN HBA.out _) hbase, fun h => absurd h (by rw [HEN.out]; decide)⟩
          · have hcb : (y.f1 == (s.toks.length : Int)) = false := beq_eq_false_iff_ne.2 hcE
            have HEN : Hid (endRegionE s tg = 0) := by
              rw [HE.out, HLS.out]
              have h := HYD.out
              show (if (s.opens.getD i z58).f1 = (s.toks.length : Int) then (8 : Int) else 0) = 0
              rw [h, if_neg hcE]
            clear hcE
            go_quiet (fail)
            go_wp2
            generalize hW5 : (W4.drewN _).setCell _ _ = W5
            have hF5 : W5.heap[F]? = some (.cells #[.string y.f0, .int .i64 y.f1, .int .i64 s.toks.length, .slice Ak3 y.f3.length ck3] 58 (0, 0)) := by rw [← hW5]; exact blk_put (blk_drewN HF4.out _) 2 _ rfl
            have hb35 : Below W3.heap.size W3 W5 := by rw [← hW5]; exact (pw_below_drewN HB4.out _).setCell (Nat.le_of_eq HFF.out.symm) _
            have hP3 := HP2.out.below HB3.out.1
            have hP5 := hP3.below hb35
            have hR5 := R_apart (Kd.R_below (Kd.R_below HR3.out HB3.out.1) hb35) hP5.rr (by decide)
            have hne : some F ≠ (Value.slice Ar s.regs.length cr).ownBlock := by
              intro he
              obtain ⟨_, ho⟩ := Kd.R_own hP3.rr
              have := own_lt ho F he.symm
              have := HFF.out
              omega
            have HBZ : Hid (base ≤ W5.drew.heap.size) := by
              have := hb35.size
              have := HB3.out.2
              have := HB2.out.size
              show base ≤ W5.heap.size
              omega
            have HB5 : Hid (Below w.heap.size w W5) := (HB2.out.trans (HB3.out.1.mono HB2.out.size)).trans (hb35.mono (by have := HB2.out.size; have := HB3.out.2; omega))
            have q3 : W5.cell? ⟨G, 3, none⟩ = some (.slice Ar s.regs.length cr) := blk_cell hP5.blk 3
            have r0 : W5.cell? ⟨F, 0, none⟩ = some (.string y.f0) := blk_cell hF5 0
            have r1 : W5.cell? ⟨F, 1, none⟩ = some (.int .i64 y.f1) := blk_cell hF5 1
            have r2 : W5.cell? ⟨F, 2, none⟩ = some (.int .i64 s.toks.length) := blk_cell hF5 2
            have r3 : W5.cell? ⟨F, 3, none⟩ = some (.slice Ak3 y.f3.length ck3) := blk_cell hF5 3
            have HNE := Lib.hid hne
            have HF5 := Lib.hid hF5
            have HP5 := Lib.hid hP5
            have HR5 := Lib.hid hR5
            have hu58 := Tryd.underlying58
            clear hW5 hF5 hb35 hP3 hP5 hR5 hne u1 u2 f2 z1'
            refine K_begin 12 (fun w' => w'.cell? ⟨G, 3, none⟩ = some (.slice Ar s.regs.length cr) ∧ w'.cell? ⟨F, 0, none⟩ = some (.string y.f0) ∧ w'.cell? ⟨F, 1, none⟩ = some (.int .i64 y.f1) ∧ w'.cell? ⟨F, 2, none⟩ = some (.int .i64 s.toks.length) ∧ w'.cell? ⟨F, 3, none⟩ = some (.slice Ak3 y.f3.length ck3)) (by kernel_rfl) ?hSk430 (fun hHeld => ?restk430)
            case hSk430 => (first | exact ⟨q3, r0, r1, r2, r3⟩ | go_keep)
            case' restk430 => skip
            refine K_take (i := 0) (v := ?vk433) rfl (by kernel_rfl) (fun _ _ _ h => h) (Or.inl ⟨by rfl, ?hyk433⟩) (by assumption) ?restk433
            case hyk433 => ((intro w hSw; (try dsimp only at hSw); go_simp); try (with_reducible rfl))
            case' restk433 => try simp only [Act.put, List.setIfInBounds_toArray, List.set_cons_zero, List.set_cons_succ]
            refine K_take (i := 1) (v := ?vk436) rfl (by kernel_rfl) (fun _ _ _ h => h) (Or.inl ⟨by rfl, ?hyk436⟩) (by assumption) ?restk436
            case hyk436 => ((intro w hSw; (try dsimp only at hSw); go_simp); try (with_reducible rfl))
            case' restk436 => try simp only [Act.put, List.setIfInBounds_toArray, List.set_cons_zero, List.set_cons_succ]
            refine K_take (i := 2) (v := ?vk439) rfl (by kernel_rfl) (fun _ _ _ h => h) (Or.inl ⟨by rfl, ?hyk439⟩) (by assumption) ?restk439
            case hyk439 => ((intro w hSw; (try dsimp only at hSw); go_simp); try (with_reducible rfl))
            case' restk439 => try simp only [Act.put, List.setIfInBounds_toArray, List.set_cons_zero, List.set_cons_succ]
            refine K_take (i := 3) (v := ?vk442) rfl (by kernel_rfl) (fun _ _ _ h => h) (Or.inl ⟨by rfl, ?hyk442⟩) (by assumption) ?restk442
            case hyk442 => ((intro w hSw; (try dsimp only at hSw); go_simp); try (with_reducible rfl))
            case' restk442 => try simp only [Act.put, List.setIfInBounds_toArray, List.set_cons_zero, List.set_cons_succ]
            refine K_take (i := 4) (v := ?vk445) rfl (by kernel_rfl) (fun _ _ _ h => h) (Or.inl ⟨by rfl, ?hyk445⟩) (by assumption) ?restk445
            case hyk445 => ((intro w hSw; (try dsimp only at hSw); go_simp); try (with_reducible rfl))
            case' restk445 => try simp only [Act.put, List.setIfInBounds_toArray, List.set_cons_zero, List.set_cons_succ]
            refine K_take (i := 5) (v := ?vk448) rfl (by kernel_rfl) (fun _ _ _ h => h) (Or.inl ⟨by rfl, ?hyk448⟩) (by assumption) ?restk448
            case hyk448 => ((intro w hSw; (try dsimp only at hSw); go_simp); try (with_reducible rfl))
            case' restk448 => try simp only [Act.put, List.setIfInBounds_toArray, List.set_cons_zero, List.set_cons_succ]
            refine K_take (i := 6) (v := ?vk451) rfl (by kernel_rfl) (fun _ _ _ h => h) (Or.inl ⟨by rfl, ?hyk451⟩) (by assumption) ?restk451
            case hyk451 => ((intro w hSw; (try dsimp only at hSw); go_simp); try (with_reducible rfl))
            case' restk451 => try simp only [Act.put, List.setIfInBounds_toArray, List.set_cons_zero, List.set_cons_succ]
            refine K_one (i := 7) rfl (by kernel_rfl) (by decide) (fun K hK => ?_)
            go_simp
            refine hK.out _ _ ?hSk454 (fun hHeld => ?restk454)
            case hSk454 => ((try dsimp only); (first | exact ⟨q3, r0, r1, r2, r3⟩ | go_keep))
            case' restk454 => skip
            clear hK K
            try simp only [Act.put, List.setIfInBounds_toArray, List.set_cons_zero, List.set_cons_succ]
            refine K_one (i := 8) rfl (by kernel_rfl) (by decide) (fun K hK => ?_)
            ((apply Kd.R_append_step (d := k58) (w0 := W5.drew) (W := W5.drew) (base := base) (s := .tmp 65) (x := .tmp 67) (t := 25) (e := 58) (z := .agg #[.string ⟨#[]⟩, .int .i64 0, .int .i64 0, .slice none 0 0]) (bytes := 56) (ht := Tryd.underlying25) (hinfo := info_reg) (hz := rfl) (v := .slice Ar s.regs.length cr) (xs := s.regs) (p := ⟨y.f0, y.f1, s.toks.length, y.f3⟩) (cs := [.string y.f0, .int .i64 y.f1, .int .i64 s.toks.length, .slice Ak3 y.f3.length ck3]) (ok := fun _ => True) (okp := fun k => (True ∧ k ≠ g) ∧ some k ≠ (Value.slice Ar s.regs.length cr).ownBlock) (hp := k58_mkM _ _ _ _ (Kd.R_drew HR5.out)) (HO := Kd.R_drew HP5.out.rr) (HB := Below.refl _ _); (case hw => go_loud (rfl)); (case hs0 => go_loud (decide)); (case hb0 => go_loud (decide)); (case ho => go_loud (rfl)); (case hs => go_loud (conv => lhs; simp [Act.eval, Act.put])); (case hx => go_loud ((conv => lhs; simp [Act.eval, Act.put]); try rfl)); (case hokp => go_loud (exact fun k hk => ⟨trivial, hk.2⟩)); (case hfresh => go_loud (exact fun k hk => trivial)); (case hbase => go_loud (exact HBZ.out)); (case hl => go_loud (omega)); (case' h => go_loud (intro v1 w9 hR9 hb9 hg9 hat9; obtain ⟨A9, c9, rfl⟩ := Kd.R_slice hR9; rw [List.length_append, List.length_singleton] at hR9 hat9; have hG9 := blk_still (blk_drew HP5.out.blk) hg9 (Kd.R_ne HP5.out.rr HP5.out.blk (by decide)); have hF9 := blk_still (blk_drew HF5.out) hg9 HNE.out; have q3 : w9.cell? ⟨G, 3, none⟩ = some (.slice Ar s.regs.length cr) := blk_cell hG9 3; have f3 := blk_frozen hG9 3; have r0 : w9.cell? ⟨F, 0, none⟩ = some (.string y.f0) := blk_cell hF9 0; have r1 : w9.cell? ⟨F, 1, none⟩ = some (.int .i64 y.f1) := blk_cell hF9 1; have r2 : w9.cell? ⟨F, 2, none⟩ = some (.int .i64 s.toks.length) := blk_cell hF9 2; have r3 : w9.cell? ⟨F, 3, none⟩ = some (.slice Ak3 y.f3.length ck3) := blk_cell hF9 3; have HR9 := Lib.hid hR9; have HB9 := Lib.hid hb9; have HG9 := Lib.hid hg9; have HAT9 := Lib.hid hat9; clear hR9 hb9 hg9 hat9 hG9 hF9))))
            refine hK.out _ _ ?hSk461 (fun hHeld => ?restk461)
            case hSk461 => ((try dsimp only); (first | exact ⟨q3, r0, r1, r2, r3⟩ | go_keep))
            case' restk461 => skip
            clear hK K
            try simp only [Act.put, List.setIfInBounds_toArray, List.set_cons_zero, List.set_cons_succ]
            refine K_take (i := 9) (v := ?vk468) rfl (by kernel_rfl) (fun _ _ _ h => h) (Or.inl ⟨by rfl, ?hyk468⟩) (by assumption) ?restk468
            case hyk468 => ((intro w hSw; (try dsimp only at hSw); go_simp); try (with_reducible rfl))
            case' restk468 => try simp only [Act.put, List.setIfInBounds_toArray, List.set_cons_zero, List.set_cons_succ]
            refine K_take (i := 10) (v := ?vk471) rfl (by kernel_rfl) (fun _ _ _ h => h) (Or.inl ⟨by rfl, ?hyk471⟩) (by assumption) ?restk471
            case hyk471 => ((intro w hSw; (try dsimp only at hSw); go_simp); try (with_reducible rfl))
            case' restk471 => try simp only [Act.put, List.setIfInBounds_toArray, List.set_cons_zero, List.set_cons_succ]
            refine K_take (i := 11) (v := ?vk474) rfl (by kernel_rfl) (fun _ _ _ h => h) (Or.inl ⟨by rfl, ?hyk474⟩) (by assumption) ?restk474
            case hyk474 => ((intro w hSw; (try dsimp only at hSw); go_simp); try (with_reducible rfl))
            case' restk474 => try simp only [Act.put, List.setIfInBounds_toArray, List.set_cons_zero, List.set_cons_succ]
            refine K_tail (i := 12) rfl (by kernel_rfl) (by decide) (fun K hK => ?_)
            go_simp
            refine hK.out _ _ ?_
            clear hK K
            try simp only [Act.put, List.setIfInBounds_toArray, List.set_cons_zero, List.set_cons_succ]
            refine K_done (by kernel_rfl) ?_ _
            go_wp2
            generalize hW6 : w9.setCell _ _ = W6
            have hP6 : RP W6 base G { s with regs := s.regs ++ [⟨y.f0, y.f1, s.toks.length, y.f3⟩] } va (.slice At s.toks.length ct) vx (.slice A9 (s.regs.length + 1) c9) (.slice (some ⟨g, 0, none⟩) s.opens.length co) := by
              rw [← hW6]
              exact RP.regsTo (HP5.out.below (below_drew (Below.refl _ _))) HR9.out HG9.out HAT9.out
            have hf6 : Fr base w W6 := by
              rw [← hW6]
              exact (Fr.of_below (below_drew HB5.out) hbase).trans ((Fr.grown (HP5.out.below (below_drew (Below.refl _ _))).rr HG9.out (by decide) HB9.out).trans (Fr.put (blk_still (blk_drew HP5.out.blk) HG9.out (Kd.R_ne HP5.out.rr HP5.out.blk (by decide))) (by decide) HP5.out.le _ _))
            have q7 : W6.cell? ⟨G, 7, none⟩ = some (.slice (some ⟨g, 0, none⟩) n co) := by rw [HN.out]; exact blk_cell hP6.blk 7
            have HP6 := Lib.hid hP6
            have HF6 := Lib.hid hf6
            have hno : n ≤ co := by have := HN.out; omega
            have h01 : IntKind.i64.wrap ((i : Int) + 1) = (i : Int) + 1 := IntWalk.i64_in _ (by omega)
            have h02 : (0 : Int) ≤ (i : Int) + 1 := by omega
            have h03 : (i : Int) + 1 ≤ (n : Int) := by omega
            have h04 : (i : Int) ≤ (co : Int) := by omega
            have h05 : ((i : Int) + 1).toNat = i + 1 := by omega
            have h06 : (i : Int) ≤ (n : Int) := by omega
            have h07 : (i : Int) + 1 ≤ (co : Int) := by omega
            have h08 : (i : Int) ≤ (i : Int) + 1 := by omega
            clear hW6 hP6 hf6 q3 f3 r0 r1 r2 r3
            have hsz : (Tryd.prog.info? 58).map (·.size) = some k58.sz := size_of_info info_reg
            have HRO : Hid (Kd.R k58 58 W6.drew base (fun _ => True) (.slice (some ⟨g, 0, none⟩) n co) s.opens) := by rw [HN.out]; exact Kd.R_drew HP6.out.ro
            by_cases hci : co = i + 1
            case pos =>
              subst hci
              refine K_begin 17 (fun w' => w'.cell? ⟨G, 7, none⟩ = some (.slice (some ⟨g, 0, none⟩) n (i + 1))) (by kernel_rfl) ?hSk509 (fun hHeld => ?restk509)
              case hSk509 => (first | exact q7 | go_keep)
              case' restk509 => skip
              refine K_take (i := 0) (v := ?vk512) rfl (by kernel_rfl) (fun _ _ _ h => h) (Or.inl ⟨by rfl, ?hyk512⟩) (by assumption) ?restk512
              case hyk512 => ((intro w hSw; (try dsimp only at hSw); go_simp); try (with_reducible rfl))
              case' restk512 => try simp only [Act.put, List.setIfInBounds_toArray, List.set_cons_zero, List.set_cons_succ]
              refine K_take (i := 1) (v := ?vk515) rfl (by kernel_rfl) (fun _ _ _ h => h) (Or.inl ⟨by rfl, ?hyk515⟩) (by assumption) ?restk515
              case hyk515 => ((intro w hSw; (try dsimp only at hSw); go_simp); try (with_reducible rfl))
              case' restk515 => try simp only [Act.put, List.setIfInBounds_toArray, List.set_cons_zero, List.set_cons_succ]
              refine K_take (i := 2) (v := ?vk518) rfl (by kernel_rfl) (fun _ _ _ h => h) (Or.inl ⟨by rfl, ?hyk518⟩) (by assumption) ?restk518
              case hyk518 => ((intro w hSw; (try dsimp only at hSw); go_simp); try (with_reducible rfl))
              case' restk518 => try simp only [Act.put, List.setIfInBounds_toArray, List.set_cons_zero, List.set_cons_succ]
              refine K_take (i := 3) (v := ?vk521) rfl (by kernel_rfl) (fun _ _ _ h => h) (Or.inl ⟨by rfl, ?hyk521⟩) (by assumption) ?restk521
              case hyk521 => ((intro w hSw; (try dsimp only at hSw); go_simp); try (with_reducible rfl))
              case' restk521 => try simp only [Act.put, List.setIfInBounds_toArray, List.set_cons_zero, List.set_cons_succ]
              refine K_take (i := 4) (v := ?vk524) rfl (by kernel_rfl) (fun _ _ _ h => h) (Or.inl ⟨by rfl, ?hyk524⟩) (by assumption) ?restk524
              case hyk524 => ((intro w hSw; (try dsimp only at hSw); go_simp); try (with_reducible rfl))
              case' restk524 => try simp only [Act.put, List.setIfInBounds_toArray, List.set_cons_zero, List.set_cons_succ]
              refine K_take (i := 5) (v := ?vk527) rfl (by kernel_rfl) (fun _ _ _ h => h) (Or.inl ⟨by rfl, ?hyk527⟩) (by assumption) ?restk527
              case hyk527 => ((intro w hSw; (try dsimp only at hSw); go_simp); try (with_reducible rfl))
              case' restk527 => try simp only [Act.put, List.setIfInBounds_toArray, List.set_cons_zero, List.set_cons_succ]
              refine K_take (i := 6) (v := ?vk530) rfl (by kernel_rfl) (fun _ _ _ h => h) (Or.inl ⟨by rfl, ?hyk530⟩) (by assumption) ?restk530
              case hyk530 => ((intro w hSw; (try dsimp only at hSw); go_simp); try (with_reducible rfl))
              case' restk530 => try simp only [Act.put, List.setIfInBounds_toArray, List.set_cons_zero, List.set_cons_succ]
              refine K_take (i := 7) (v := ?vk533) rfl (by kernel_rfl) (fun _ _ _ h => h) (Or.inl ⟨by rfl, ?hyk533⟩) (by assumption) ?restk533
              case hyk533 => ((intro w hSw; (try dsimp only at hSw); go_simp); try (with_reducible rfl))
              case' restk533 => try simp only [Act.put, List.setIfInBounds_toArray, List.set_cons_zero, List.set_cons_succ]
              refine K_take (i := 8) (v := ?vk536) rfl (by kernel_rfl) (fun _ _ _ h => h) (Or.inl ⟨by rfl, ?hyk536⟩) (by assumption) ?restk536
              case hyk536 => ((intro w hSw; (try dsimp only at hSw); go_simp); try (with_reducible rfl))
              case' restk536 => try simp only [Act.put, List.setIfInBounds_toArray, List.set_cons_zero, List.set_cons_succ]
              refine K_take (i := 9) (v := ?vk539) rfl (by kernel_rfl) (fun _ _ _ h => h) (Or.inl ⟨by rfl, ?hyk539⟩) (by assumption) ?restk539
              case hyk539 => ((intro w hSw; (try dsimp only at hSw); go_simp); try (with_reducible rfl))
              case' restk539 => try simp only [Act.put, List.setIfInBounds_toArray, List.set_cons_zero, List.set_cons_succ]
              refine K_take (i := 10) (v := ?vk542) rfl (by kernel_rfl) (fun _ _ _ h => h) (Or.inl ⟨by rfl, ?hyk542⟩) (by assumption) ?restk542
              case hyk542 => ((intro w hSw; (try dsimp only at hSw); go_simp); try (with_reducible rfl))
              case' restk542 => try simp only [Act.put, List.setIfInBounds_toArray, List.set_cons_zero, List.set_cons_succ]
              refine K_take (i := 11) (v := ?vk545) rfl (by kernel_rfl) (fun _ _ _ h => h) (Or.inl ⟨by rfl, ?hyk545⟩) (by assumption) ?restk545
              case hyk545 => ((intro w hSw; (try dsimp only at hSw); go_simp); try (with_reducible rfl))
              case' restk545 => try simp only [Act.put, List.setIfInBounds_toArray, List.set_cons_zero, List.set_cons_succ]
              refine K_take (i := 12) (v := ?vk548) rfl (by kernel_rfl) (fun _ _ _ h => h) (Or.inl ⟨by rfl, ?hyk548⟩) (by assumption) ?restk548
              case hyk548 => ((intro w hSw; (try dsimp only at hSw); go_simp); try (with_reducible rfl))
              case' restk548 => try simp only [Act.put, List.setIfInBounds_toArray, List.set_cons_zero, List.set_cons_succ]
              refine K_take (i := 13) (v := ?vk551) rfl (by kernel_rfl) (fun _ _ _ h => h) (Or.inl ⟨by rfl, ?hyk551⟩) (by assumption) ?restk551
              case hyk551 => ((intro w hSw; (try dsimp only at hSw); go_simp); try (with_reducible rfl))
              case' restk551 => try simp only [Act.put, List.setIfInBounds_toArray, List.set_cons_zero, List.set_cons_succ]
              refine K_one (i := 14) rfl (by kernel_rfl) (by decide) (fun K hK => ?_)
              ((apply step_del (hu := Tryd.underlying25) (hs := hsz) (hR := HRO.out) (hn := HN.out) (i := i) (hi := hiL) (s := .tmp 78) (x := .tmp 85) (t := 25); (case hgd => go_loud (rfl)); (case hop => go_loud (rfl)); (case hse => go_loud (conv => lhs; simp [Act.eval, Act.put])); (case hxe => go_loud (conv => lhs; simp [Act.eval, Act.put])); (case hm => go_loud (rw [← HN.out]; first | done | omega)); (case had => go_loud (intro hlt; first | rfl | (have := HN.out; omega))); (case' h => go_loud (intro w11 hR11 hg11; have hG11 := blk_still (blk_drew HP6.out.blk) hg11 (Kd.R_ne HP6.out.ro HP6.out.blk (by decide)); have q7 : w11.cell? ⟨G, 7, none⟩ = some (.slice (some ⟨g, 0, none⟩) n (i + 1)) := (by rw [HN.out]; exact blk_cell hG11 7); have f7 := blk_frozen hG11 7; have HR11 := Lib.hid hR11; have HG11 := Lib.hid hg11; have HGG := Lib.hid hG11; clear hR11 hg11 hG11))))
              refine hK.out _ _ ?hSk554 (fun hHeld => ?restk554)
              case hSk554 => ((try dsimp only); (first | exact q7 | go_keep))
              case' restk554 => skip
              clear hK K
              try simp only [Act.put, List.setIfInBounds_toArray, List.set_cons_zero, List.set_cons_succ]
              refine K_take (i := 15) (v := ?vk561) rfl (by kernel_rfl) (fun _ _ _ h => h) (Or.inl ⟨by rfl, ?hyk561⟩) (by assumption) ?restk561
              case hyk561 => ((intro w hSw; (try dsimp only at hSw); go_simp); try (with_reducible rfl))
              case' restk561 => try simp only [Act.put, List.setIfInBounds_toArray, List.set_cons_zero, List.set_cons_succ]
              refine K_take (i := 16) (v := ?vk564) rfl (by kernel_rfl) (fun _ _ _ h => h) (Or.inl ⟨by rfl, ?hyk564⟩) (by assumption) ?restk564
              case hyk564 => ((intro w hSw; (try dsimp only at hSw); go_simp); try (with_reducible rfl))
              case' restk564 => try simp only [Act.put, List.setIfInBounds_toArray, List.set_cons_zero, List.set_cons_succ]
              refine K_tail (i := 17) rfl (by kernel_rfl) (by decide) (fun K hK => ?_)
              go_simp
              refine hK.out _ _ ?_
              clear hK K
              try simp only [Act.put, List.setIfInBounds_toArray, List.set_cons_zero, List.set_cons_succ]
              refine K_done (by kernel_rfl) ?_ _
              go_wp2
              go_ret
              have hP7 := RP.opensTo (HP6.out.below (below_drew (Below.refl _ _))) (ys := s.opens.eraseIdx i) (v1 := .slice (some ⟨g, 0, none⟩) (s.opens.length - 1) (i + 1)) HR11.out HG11.out (Or.inl rfl)
              have hfin : endRegionS s tg = { s with regs := s.regs ++ [⟨y.f0, y.f1, s.toks.length, y.f3⟩], opens := s.opens.eraseIdx i } := by
                rw [HSS.out, HLS.out]
                have h := HYD.out
                show ({ s with regs := s.regs ++ [⟨(s.opens.getD i z58).f0, (s.opens.getD i z58).f1, s.toks.length, (s.opens.getD i z58).f3⟩], opens := s.opens.eraseIdx i } : St) = _
                rw [h]
              have hgb := HP6.out.ro
              obtain ⟨_, how⟩ := Kd.R_own hgb
              have hbg := own_base how g rfl
              have hb11 : Below base W6.drew w11 := (Below.refl base W6.drew).grown HG11.out (by have := HF6.out.low.size; show base ≤ W6.heap.size; omega) (fun k hk => by injection hk with hk; omega)
              refine ⟨by rw [HEN.out]; rfl, (HF6.out.trans (Fr.of_below (below_drew (Below.refl _ _)) (by have := HF6.out.low.size; omega))).trans ((Fr.grown (HP6.out.below (below_drew (Below.refl _ _))).ro HG11.out (by decide) hb11).trans (Fr.put HGG.out (by decide) HP6.out.le _ _)), fun _ => ?_⟩
              rw [hfin]
              refine ⟨⟨HKK.out.att, HKK.out.toks, HKK.out.texts, ?_, HKK.out.one⟩, va, _, vx, _, _, hP7⟩
              show (s.regs ++ [_]).length + (s.opens.eraseIdx i).length ≤ 1024
              rw [List.length_append, List.length_singleton, List.length_eraseIdx_of_lt hiL]
              omega
            case neg =>
              refine K_begin 17 (fun w' => w'.cell? ⟨G, 7, none⟩ = some (.slice (some ⟨g, 0, none⟩) n co)) (by kernel_rfl) ?hSk592 (fun hHeld => ?restk592)
              case hSk592 => (first | exact q7 | go_keep)
              case' restk592 => skip
              refine K_take (i := 0) (v := ?vk595) rfl (by kernel_rfl) (fun _ _ _ h => h) (Or.inl ⟨by rfl, ?hyk595⟩) (by assumption) ?restk595
              case hyk595 => ((intro w hSw; (try dsimp only at hSw); go_simp); try (with_reducible rfl))
              case' restk595 => try simp only [Act.put, List.setIfInBounds_toArray, List.set_cons_zero, List.set_cons_succ]
              refine K_take (i := 1) (v := ?vk598) rfl (by kernel_rfl) (fun _ _ _ h => h) (Or.inl ⟨by rfl, ?hyk598⟩) (by assumption) ?restk598
              case hyk598 => ((intro w hSw; (try dsimp only at hSw); go_simp); try (with_reducible rfl))
              case' restk598 => try simp only [Act.put, List.setIfInBounds_toArray, List.set_cons_zero, List.set_cons_succ]
              refine K_take (i := 2) (v := ?vk601) rfl (by kernel_rfl) (fun _ _ _ h => h) (Or.inl ⟨by rfl, ?hyk601⟩) (by assumption) ?restk601
              case hyk601 => ((intro w hSw; (try dsimp only at hSw); go_simp); try (with_reducible rfl))
              case' restk601 => try simp only [Act.put, List.setIfInBounds_toArray, List.set_cons_zero, List.set_cons_succ]
              refine K_take (i := 3) (v := ?vk604) rfl (by kernel_rfl) (fun _ _ _ h => h) (Or.inl ⟨by rfl, ?hyk604⟩) (by assumption) ?restk604
              case hyk604 => ((intro w hSw; (try dsimp only at hSw); go_simp); try (with_reducible rfl))
              case' restk604 => try simp only [Act.put, List.setIfInBounds_toArray, List.set_cons_zero, List.set_cons_succ]
              refine K_take (i := 4) (v := ?vk607) rfl (by kernel_rfl) (fun _ _ _ h => h) (Or.inl ⟨by rfl, ?hyk607⟩) (by assumption) ?restk607
              case hyk607 => ((intro w hSw; (try dsimp only at hSw); go_simp); try (with_reducible rfl))
              case' restk607 => try simp only [Act.put, List.setIfInBounds_toArray, List.set_cons_zero, List.set_cons_succ]
              refine K_take (i := 5) (v := ?vk610) rfl (by kernel_rfl) (fun _ _ _ h => h) (Or.inl ⟨by rfl, ?hyk610⟩) (by assumption) ?restk610
              case hyk610 => ((intro w hSw; (try dsimp only at hSw); go_simp); try (with_reducible rfl))
              case' restk610 => try simp only [Act.put, List.setIfInBounds_toArray, List.set_cons_zero, List.set_cons_succ]
              refine K_take (i := 6) (v := ?vk613) rfl (by kernel_rfl) (fun _ _ _ h => h) (Or.inl ⟨by rfl, ?hyk613⟩) (by assumption) ?restk613
              case hyk613 => ((intro w hSw; (try dsimp only at hSw); go_simp); try (with_reducible rfl))
              case' restk613 => try simp only [Act.put, List.setIfInBounds_toArray, List.set_cons_zero, List.set_cons_succ]
              refine K_take (i := 7) (v := ?vk616) rfl (by kernel_rfl) (fun _ _ _ h => h) (Or.inl ⟨by rfl, ?hyk616⟩) (by assumption) ?restk616
              case hyk616 => ((intro w hSw; (try dsimp only at hSw); go_simp); try (with_reducible rfl))
              case' restk616 => try simp only [Act.put, List.setIfInBounds_toArray, List.set_cons_zero, List.set_cons_succ]
              refine K_take (i := 8) (v := ?vk619) rfl (by kernel_rfl) (fun _ _ _ h => h) (Or.inl ⟨by rfl, ?hyk619⟩) (by assumption) ?restk619
              case hyk619 => ((intro w hSw; (try dsimp only at hSw); go_simp); try (with_reducible rfl))
              case' restk619 => try simp only [Act.put, List.setIfInBounds_toArray, List.set_cons_zero, List.set_cons_succ]
              refine K_take (i := 9) (v := ?vk622) rfl (by kernel_rfl) (fun _ _ _ h => h) (Or.inl ⟨by rfl, ?hyk622⟩) (by assumption) ?restk622
              case hyk622 => ((intro w hSw; (try dsimp only at hSw); go_simp); try (with_reducible rfl))
              case' restk622 => try simp only [Act.put, List.setIfInBounds_toArray, List.set_cons_zero, List.set_cons_succ]
              refine K_take (i := 10) (v := ?vk625) rfl (by kernel_rfl) (fun _ _ _ h => h) (Or.inl ⟨by rfl, ?hyk625⟩) (by assumption) ?restk625
              case hyk625 => ((intro w hSw; (try dsimp only at hSw); go_simp); try (with_reducible rfl))
              case' restk625 => try simp only [Act.put, List.setIfInBounds_toArray, List.set_cons_zero, List.set_cons_succ]
              refine K_take (i := 11) (v := ?vk628) rfl (by kernel_rfl) (fun _ _ _ h => h) (Or.inl ⟨by rfl, ?hyk628⟩) (by assumption) ?restk628
              case hyk628 => ((intro w hSw; (try dsimp only at hSw); go_simp); try (with_reducible rfl))
              case' restk628 => try simp only [Act.put, List.setIfInBounds_toArray, List.set_cons_zero, List.set_cons_succ]
              refine K_take (i := 12) (v := ?vk631) rfl (by kernel_rfl) (fun _ _ _ h => h) (Or.inl ⟨by rfl, ?hyk631⟩) (by assumption) ?restk631
              case hyk631 => ((intro w hSw; (try dsimp only at hSw); go_simp); try (with_reducible rfl))
              case' restk631 => try simp only [Act.put, List.setIfInBounds_toArray, List.set_cons_zero, List.set_cons_succ]
              refine K_take (i := 13) (v := ?vk634) rfl (by kernel_rfl) (fun _ _ _ h => h) (Or.inl ⟨by rfl, ?hyk634⟩) (by assumption) ?restk634
              case hyk634 => ((intro w hSw; (try dsimp only at hSw); go_simp); try (with_reducible rfl))
              case' restk634 => try simp only [Act.put, List.setIfInBounds_toArray, List.set_cons_zero, List.set_cons_succ]
              refine K_one (i := 14) rfl (by kernel_rfl) (by decide) (fun K hK => ?_)
              ((apply step_del (hu := Tryd.underlying25) (hs := hsz) (hR := HRO.out) (hn := HN.out) (i := i) (hi := hiL) (s := .tmp 78) (x := .tmp 85) (t := 25); (case hgd => go_loud (rfl)); (case hop => go_loud (rfl)); (case hse => go_loud (conv => lhs; simp [Act.eval, Act.put])); (case hxe => go_loud (conv => lhs; simp [Act.eval, Act.put])); (case hm => go_loud (rw [← HN.out]; first | done | omega)); (case had => go_loud (intro hlt; first | rfl | (have := HN.out; omega))); (case' h => go_loud (intro w11 hR11 hg11; have hG11 := blk_still (blk_drew HP6.out.blk) hg11 (Kd.R_ne HP6.out.ro HP6.out.blk (by decide)); have q7 : w11.cell? ⟨G, 7, none⟩ = some (.slice (some ⟨g, 0, none⟩) n co) := (by rw [HN.out]; exact blk_cell hG11 7); have f7 := blk_frozen hG11 7; have HR11 := Lib.hid hR11; have HG11 := Lib.hid hg11; have HGG := Lib.hid hG11; clear hR11 hg11 hG11))))
              refine hK.out _ _ ?hSk637 (fun hHeld => ?restk637)
              case hSk637 => ((try dsimp only); (first | exact q7 | go_keep))
              case' restk637 => skip
              clear hK K
              try simp only [Act.put, List.setIfInBounds_toArray, List.set_cons_zero, List.set_cons_succ]
              refine K_take (i := 15) (v := ?vk644) rfl (by kernel_rfl) (fun _ _ _ h => h) (Or.inl ⟨by rfl, ?hyk644⟩) (by assumption) ?restk644
              case hyk644 => ((intro w hSw; (try dsimp only at hSw); go_simp); try (with_reducible rfl))
              case' restk644 => try simp only [Act.put, List.setIfInBounds_toArray, List.set_cons_zero, List.set_cons_succ]
              refine K_take (i := 16) (v := ?vk647) rfl (by kernel_rfl) (fun _ _ _ h => h) (Or.inl ⟨by rfl, ?hyk647⟩) (by assumption) ?restk647
              case hyk647 => ((intro w hSw; (try dsimp only at hSw); go_simp); try (with_reducible rfl))
              case' restk647 => try simp only [Act.put, List.setIfInBounds_toArray, List.set_cons_zero, List.set_cons_succ]
              refine K_tail (i := 17) rfl (by kernel_rfl) (by decide) (fun K hK => ?_)
              go_simp
              refine hK.out _ _ ?_
              clear hK K
              try simp only [Act.put, List.setIfInBounds_toArray, List.set_cons_zero, List.set_cons_succ]
              refine K_done (by kernel_rfl) ?_ _
              go_wp2
              go_ret
              have hP7 := RP.opensTo (HP6.out.below (below_drew (Below.refl _ _))) (ys := s.opens.eraseIdx i) (v1 := .slice (some ⟨g, 0, none⟩) (s.opens.length - 1) co) HR11.out HG11.out (Or.inl rfl)
              have hfin : endRegionS s tg = { s with regs := s.regs ++ [⟨y.f0, y.f1, s.toks.length, y.f3⟩], opens := s.opens.eraseIdx i } := by
                rw [HSS.out, HLS.out]
                have h := HYD.out
                show ({ s with regs := s.regs ++ [⟨(s.opens.getD i z58).f0, (s.opens.getD i z58).f1, s.toks.length, (s.opens.getD i z58).f3⟩], opens := s.opens.eraseIdx i } : St) = _
                rw [h]
              have hgb := HP6.out.ro
              obtain ⟨_, how⟩ := Kd.R_own hgb
              have hbg := own_base how g rfl
              have hb11 : Below base W6.drew w11 := (Below.refl base W6.drew).grown HG11.out (by have := HF6.out.low.size; show base ≤ W6.heap.size; omega) (fun k hk => by injection hk with hk; omega)
              refine ⟨by rw [HEN.out]; rfl, (HF6.out.trans (Fr.of_below (below_drew (Below.refl _ _)) (by have := HF6.out.low.size; omega))).trans ((Fr.grown (HP6.out.below (below_drew (Below.refl _ _))).ro HG11.out (by decide) hb11).trans (Fr.put HGG.out (by decide) HP6.out.le _ _)), fun _ => ?_⟩
              rw [hfin]
              refine ⟨⟨HKK.out.att, HKK.out.toks, HKK.out.texts, ?_, HKK.out.one⟩, va, _, vx, _, _, hP7⟩
              show (s.regs ++ [_]).length + (s.opens.eraseIdx i).length ≤ 1024
              rw [List.length_append, List.length_singleton, List.length_eraseIdx_of_lt hiL]
              omega
end Go.Proofs.YtebajpebongabaaDoor.V
/- The reader's method that closes a text. Condition: the reader's block and rows stand as RS says. -/
namespace Go.Proofs.YtebajpebongabaaDoor.V
open Go.RowKit Go.Proofs.YtebajpebongabaaDoorW.PrintWords Go.Proofs.YtebajpebongabaaDoorW.PrintMore Go.Proofs.YtebajpebongabaaDoor.P Go.Proofs.YtebajpebongabaaDoor.X
set_option linter.unusedVariables false
set_option linter.unusedSimpArgs false

/-! ### endText -/
def lastText (s : St) : S61 := s.texts.getD (s.texts.length - 1) z61
def endTextE (s : St) : Int := if s.text = false then 17 else if 0 < s.opens.length then 6 else if (lastText s).f1 = (s.toks.length : Int) then 8 else 0
def endTextS (s : St) : St := { s with texts := s.texts.set (s.texts.length - 1) { lastText s with f2 := s.toks.length }, text := false }

set_option maxHeartbeats 8000000 in
set_option maxRecDepth 100000 in
theorem endText_r (w : World) (base G : Nat) (s : St) (tg : Tg) (vk : Value) (hbase : base ≤ w.heap.size) (hS : RS w base G s) (hK : Kd.R k88 88 w base (fun _ => True) vk tg.keys) :
    Calls Tryd.prog 29 #[.pointer (some ⟨G, 0, none⟩), .agg #[.bool tg.closing, .string tg.name, vk]] w (MPost w base G (endTextE s) (endTextS s)) := by
  obtain ⟨hk, va, vt, vx, vr, vo, hP⟩ := hS
  obtain ⟨Ak, ck, rfl⟩ := Kd.R_slice hK
  obtain ⟨Ao, co, rfl⟩ := Kd.R_slice hP.ro
  obtain ⟨At, ct, rfl⟩ := Kd.R_slice hP.rt
  have hG := hP.lt
  have hne : ¬ G = w.heap.size := by omega
  have hne' : ¬ w.heap.size = G := by omega
  have x1 : w.cell? ⟨G, 1, none⟩ = some (.slice At s.toks.length ct) := blk_cell hP.blk 1
  have x7 : w.cell? ⟨G, 7, none⟩ = some (.slice Ao s.opens.length co) := blk_cell hP.blk 7
  have x8 : w.cell? ⟨G, 8, none⟩ = some (.bool s.text) := blk_cell hP.blk 8
  have hu := Tryd.underlying68
  cases ht : s.text with
  | false =>
    have hE : endTextE s = 17 := by unfold endTextE; rw [if_pos ht]
    rw [hE]
    rw [ht] at x8
    clear ht hE hP hk hK
    go_enter Tryd.func29, Tryd.ntmps29
    go_wp2
    go_ret
    exact ⟨rfl, Fr.of_below (below_alloc (Below.refl _ _) _) hbase, fun h => absurd h (by decide)⟩
  | true =>
    have hE0 : endTextE s = if 0 < s.opens.length then 6 else if (lastText s).f1 = (s.toks.length : Int) then 8 else 0 := by unfold endTextE; rw [if_neg (by rw [ht]; decide)]
    have hone := hk.one ht
    rw [ht] at x8
    by_cases c1 : 0 < s.opens.length
    · have hE : endTextE s = 6 := by rw [hE0, if_pos c1]
      rw [hE]
      have hd1 : decide ((0 : Int) < (s.opens.length : Int)) = true := decide_eq_true (by omega)
      have hd2 : decide (0 < s.opens.length) = true := decide_eq_true c1
      clear ht hE hP hk hK hE0 c1 hone
      go_enter Tryd.func29, Tryd.ntmps29
      go_wp2
      go_ret
      exact ⟨rfl, Fr.of_below (below_alloc (Below.refl _ _) _) hbase, fun h => absurd h (by decide)⟩
    · have hd1 : decide ((0 : Int) < (s.opens.length : Int)) = false := decide_eq_false (by omega)
      have hd2 : decide (0 < s.opens.length) = false := decide_eq_false c1
      obtain ⟨gx, cx, rfl, -, hcx, -⟩ := R_form hP.rx hone
      obtain ⟨i, hi⟩ : ∃ i, s.texts.length = i + 1 := ⟨s.texts.length - 1, by omega⟩
      have hiL : i < s.texts.length := by omega
      obtain ⟨cy, hMy, hcy⟩ := R_at hP.rx rfl i hiL
      obtain ⟨v3, hcy3, hR3⟩ := k61_openM hMy
      obtain ⟨y, hy⟩ : ∃ y, y = s.texts[i] := ⟨_, rfl⟩
      have hyd : lastText s = y := by unfold lastText; rw [hy, hi, Nat.add_sub_cancel]; simp [List.getD, List.getElem?_eq_getElem hiL]
      have x2 : w.cell? ⟨G, 2, none⟩ = some (.slice (some ⟨gx, 0, none⟩) (i + 1) cx) := by rw [← hi]; exact blk_cell hP.blk 2
      have d1 : w.cell? ⟨gx, i * 4 + 1, none⟩ = some (.int .i64 y.f1) := by rw [hy]; exact hcy 1 _ (by rw [hcy3]; rfl)
      obtain ⟨⟨z2, d2⟩, fz2⟩ := R_cells hP.rx rfl i hiL 2 (by decide)
      have d2' : w.cell? ⟨gx, i * 4 + 2, none⟩ = some z2 := d2
      have fz2' : w.frozen? ⟨gx, i * 4 + 2, none⟩ = false := fz2
      have hgx : gx < w.heap.size := by obtain ⟨_, how⟩ := Kd.R_own hP.rx; exact own_lt how gx rfl
      have hgG : ¬ gx = G := by
        intro e
        have h1 := Kd.R_ne hP.rx hP.blk (by decide)
        exact h1 (by rw [← e]; rfl)
      have hgG' : ¬ G = gx := fun e => hgG e.symm
      have hgw : ¬ gx = w.heap.size := by omega
      have hgw' : ¬ w.heap.size = gx := by omega
      have f8 := blk_frozen hP.blk 8
      have HP := Lib.hid hP
      have HKK := Lib.hid hk
      have HI := Lib.hid hi
      have HYD := Lib.hid hyd
      have HY := Lib.hid hy
      have HE0 := Lib.hid hE0
      have HT := Lib.hid ht
      have hib : i < 64 := by have := hk.texts; omega
      clear hP hk hK hi hyd hy hE0 ht hMy hcy hcy3 hR3 c1 hone d2 fz2
      have hw1 : IntKind.i64.wrap ((i : Int) + 1 - 1) = (i : Int) := by rw [Int.add_sub_cancel]; exact IntWalk.i64_in _ (by omega)
      have hw2 : IntKind.i64.wrap (i : Int) = (i : Int) := IntWalk.i64_in _ (by omega)
      have h01 : (0 : Int) ≤ (i : Int) := by omega
      have h02 : (i : Int) < (i : Int) + 1 := by omega
      by_cases hcE : y.f1 = (s.toks.length : Int)
      · have hcb : (y.f1 == (s.toks.length : Int)) = true := beq_iff_eq.2 hcE
        have hE : endTextE s = 8 := by rw [HE0.out, if_neg (by have := of_decide_eq_false hd2; omega), HYD.out, if_pos hcE]
        rw [hE]
        clear hcE hE
        go_enter Tryd.func29, Tryd.ntmps29
        go_wp2
        go_quiet (fail)
        go_wp2
        go_quiet (fail)
        go_wp2
        go_ret
        exact ⟨rfl, Fr.of_below (pw_below_drewN (pw_below_drewN (below_alloc (Below.refl _ _) _) _) _) hbase, fun h => absurd h (by decide)⟩
      · have hcb : (y.f1 == (s.toks.length : Int)) = false := beq_eq_false_iff_ne.2 hcE
        have hE : endTextE s = 0 := by rw [HE0.out, if_neg (by have := of_decide_eq_false hd2; omega), HYD.out, if_neg hcE]
        rw [hE]
        clear hcE hE
        go_enter Tryd.func29, Tryd.ntmps29
        go_wp2
        go_quiet (fail)
        go_wp2
        go_quiet (fail)
        go_wp2
        go_ret
        generalize hW : (w.alloc _).drewN _ = W
        have hb : Below w.heap.size w W := by rw [← hW]; exact pw_below_drewN (below_alloc (Below.refl _ _) _) _
        clear hW
        have hP := HP.out.below hb
        have hy1 : ∀ cs, k61.M W base (fun k => True ∧ k ≠ gx) s.texts[i] cs → k61.M W base (fun k => True ∧ k ≠ gx) { lastText s with f2 := s.toks.length } (cs.set 2 (.int .i64 s.toks.length)) := by
          intro cs h
          obtain ⟨v3, rfl, g3⟩ := k61_openM h
          have e : lastText s = s.texts[i] := by rw [HYD.out, HY.out]
          rw [e]
          exact k61_mkM _ _ _ { s.texts[i] with f2 := s.toks.length } g3
        obtain ⟨hR, hg⟩ := R_put hP.rx rfl i hiL 2 (by decide) hy1
        have hP2 := RP.textsIn hP hR hg
        have hP3 := RP.textTo hP2 false
        have hgx : base ≤ gx := by obtain ⟨_, how⟩ := Kd.R_own hP.rx; exact own_base how gx rfl
        have hfin : endTextS s = { s with texts := s.texts.set i { lastText s with f2 := s.toks.length }, text := false } := by
          unfold endTextS
          rw [HI.out, Nat.add_sub_cancel]
        refine ⟨rfl, (Fr.of_below hb hbase).trans ((Fr.grown hP.rx hg (by decide) ((Below.refl base W).grown hg (by have := hb.size; omega) (fun k hk => by injection hk with hk; omega))).trans (Fr.put hP2.blk (by decide) hP.le _ _)), fun _ => ?_⟩
        rw [hfin]
        exact ⟨⟨HKK.out.att, HKK.out.toks, by show (s.texts.set i _).length ≤ 64; rw [List.length_set]; exact HKK.out.texts, HKK.out.regs, fun (h : false = true) => absurd h (by decide)⟩, va, _, _, vr, _, hP3⟩
end Go.Proofs.YtebajpebongabaaDoor.V
/- The reader's method that opens a text. Condition: the reader's block and rows stand as RS says; the tag has at most 2^20 keys. -/
namespace Go.Proofs.YtebajpebongabaaDoor.V
open Go.RowKit Go.Proofs.YtebajpebongabaaDoorW.PrintWords Go.Proofs.YtebajpebongabaaDoorW.PrintMore Go.Proofs.YtebajpebongabaaDoor.P Go.Proofs.YtebajpebongabaaDoor.X
set_option linter.unusedVariables false
set_option linter.unusedSimpArgs false

/-! ### FindText -/
def findT (n : ByteArray) : List S61 → Int → Int
  | [], _ => -1
  | t :: l, i => if t.f0.toList = n.toList then i else findT n l (i + 1)
theorem find_l0 {l : List S61} {a : ByteArray} (hl : l.length ≤ 1099511627776) : ∀ (b : Nat) (i : Int), 0 ≤ i → i + b = l.length →
    Ev (fun k => corpus_FindText.l0 k a l (l.length : Int) i) (findT a (l.drop i.toNat) i)
  | 0, i, h0, hb => by
    have e : findT a (l.drop i.toNat) i = -1 := by rw [List.drop_eq_nil_of_le (by omega)]; rfl
    rw [e]
    refine ev_step (Ev.now _) fun k => ?_
    simp only [corpus_FindText.l0]
    rw [if_neg (by omega)]
  | b + 1, i, h0, hb => by
    have ih := find_l0 (a := a) hl b (i + 1) (by omega) (by omega)
    have hlt : i.toNat < l.length := by omega
    have ed : l.drop i.toNat = rd_T61 l i :: l.drop (i + 1).toNat := by
      rw [List.drop_eq_getElem_cons hlt, show (i + 1).toNat = i.toNat + 1 by omega]
      congr 1
      unfold rd_T61
      simp [List.getD, hlt]
    by_cases c : ((rd_T61 l i).f0).toList = a.toList
    · have e : findT a (l.drop i.toNat) i = i := by rw [ed]; unfold findT; rw [if_pos c]
      rw [e]
      refine ev_step (Ev.now _) fun k => ?_
      simp only [corpus_FindText.l0]
      rw [if_pos (by omega), if_pos h0, if_pos (by omega), if_pos c]
    · have e : findT a (l.drop i.toNat) i = findT a (l.drop (i + 1).toNat) (i + 1) := by rw [ed]; conv => lhs; unfold findT; rw [if_neg c]
      rw [e]
      refine ev_step ih fun k => ?_
      simp only [corpus_FindText.l0]
      rw [if_pos (by omega), if_pos h0, if_pos (by omega), if_neg c, w64 (by omega) (by omega)]
theorem find_b (a : ByteArray) {base : Nat} {va vt vx vr : Value} {l0 : List S55} {l1 : List (List ByteArray)} {l2 : List S61} {l3 : List S58} {ok0 ok1 ok2 ok3 : Nat → Prop} (w : World)
    (h0 : Kd.R k55 55 w base ok0 va l0) (h1 : Kd.R kTok 28 w base ok1 vt l1) (h2 : Kd.R k61 61 w base ok2 vx l2) (h3 : Kd.R k58 58 w base ok3 vr l3) (hl : l2.length ≤ 1099511627776) :
    Calls Tryd.prog 34 #[.agg #[va, vt, vx, vr, .slice none 0 0, .slice none 0 0, .slice none 0 0], .string a] w fun e w' => e = .returned (.int .i64 (findT a l2 0)) ∧ Below w.heap.size w w' := by
  obtain ⟨k, hk⟩ := (find_l0 (a := a) hl l2.length 0 (Int.le_refl _) (by omega)).rounds
  obtain ⟨A0, c0, rfl, e0, g0⟩ := Kd.R_reads h0
  obtain ⟨A1, c1, rfl, e1, g1⟩ := Kd.R_reads h1
  obtain ⟨A2, c2, rfl, e2, g2⟩ := Kd.R_reads h2
  obtain ⟨A3, c3, rfl, e3, g3⟩ := Kd.R_reads h3
  exact corpus_FindText.calls k A0 c0 l0 A1 c1 l1 A2 c2 l2 A3 c3 l3 none 0 [] none 0 [] none 0 [] a _ w g0 e0 g1 e1 g2 e2 g3 e3 (Kd.C_nil _ _) (Nat.le_refl _) (Kd.C_nil _ _) (Nat.le_refl _) (Kd.C_nil _ _) (Nat.le_refl _) hk

/-! ### beginText -/
def idB (p : S88) : Bool := p.f0.toList == [105, 100]
structure Ido where
  name : ByteArray
  found : Bool
  meta_ : List S88
def idStep (a : Ido) (p : S88) : Ido := if idB p = true then ⟨p.f1, true, a.meta_⟩ else ⟨a.name, a.found, a.meta_ ++ [p]⟩
def idOf (l : List S88) : Ido := l.foldl idStep ⟨⟨#[]⟩, false, []⟩
def beginTextE (s : St) (tg : Tg) : Int := if s.text = true then 17 else if s.texts.length = 64 then 2 else if (idOf tg.keys).found = false then 11 else if nameB (idOf tg.keys).name = false then 4 else if 0 ≤ findT (idOf tg.keys).name s.texts 0 then 5 else 0
def beginTextS (s : St) (tg : Tg) : St := { s with texts := s.texts ++ [⟨(idOf tg.keys).name, s.toks.length, -1, (idOf tg.keys).meta_⟩], text := true }
theorem meta_le (l : List S88) : ∀ a : Ido, (l.foldl idStep a).meta_.length ≤ a.meta_.length + l.length := by
  induction l with
  | nil => intro a; simp
  | cons p l ih =>
    intro a
    rw [List.foldl_cons]
    have := ih (idStep a p)
    have h2 : (idStep a p).meta_.length ≤ a.meta_.length + 1 := by
      unfold idStep
      split
      · simp
      · simp
    rw [List.length_cons]
    omega

abbrev txObj (n : ByteArray) (b : Int) (v : Value) : Obj := .cells #[.string n, .int .i64 b, .int .i64 (-1), v] 61 (0, 0)
set_option maxHeartbeats 8000000 in
set_option maxRecDepth 100000 in
theorem beginText_r (w : World) (base G : Nat) (s : St) (tg : Tg) (vk : Value) (hbase : base ≤ w.heap.size) (hS : RS w base G s) (hK : Kd.R k88 88 w base (fun _ => True) vk tg.keys) (hkl : tg.keys.length ≤ 1048576) :
    Calls Tryd.prog 28 #[.pointer (some ⟨G, 0, none⟩), .agg #[.bool tg.closing, .string tg.name, vk]] w (MPost w base G (beginTextE s tg) (beginTextS s tg)) := by
  obtain ⟨hk, va, vt, vx, vr, vo, hP⟩ := hS
  obtain ⟨Ak, ck, rfl⟩ := Kd.R_slice hK
  obtain ⟨Aa, ca, rfl⟩ := Kd.R_slice hP.ra
  obtain ⟨Ar, cr, rfl⟩ := Kd.R_slice hP.rr
  obtain ⟨At, ct, rfl⟩ := Kd.R_slice hP.rt
  obtain ⟨Ax, cx, rfl⟩ := Kd.R_slice hP.rx
  have hG := hP.lt
  have hne : ¬ G = w.heap.size := by omega
  have hne' : ¬ w.heap.size = G := by omega
  have hne1 : ¬ G = w.heap.size + 1 := by omega
  have hne1' : ¬ w.heap.size + 1 = G := by omega
  have x1 : w.cell? ⟨G, 1, none⟩ = some (.slice At s.toks.length ct) := blk_cell hP.blk 1
  have x2 : w.cell? ⟨G, 2, none⟩ = some (.slice Ax s.texts.length cx) := blk_cell hP.blk 2
  have x8 : w.cell? ⟨G, 8, none⟩ = some (.bool s.text) := blk_cell hP.blk 8
  have hu := Tryd.underlying68
  have htx := hk.texts
  have htk := hk.toks
  cases ht : s.text with
  | true =>
    have hE : beginTextE s tg = 17 := by unfold beginTextE; rw [if_pos ht]
    rw [hE]
    rw [ht] at x8
    clear ht hE hP hk hK
    go_enter Tryd.func28, Tryd.ntmps28
    go_wp2
    go_ret
    exact ⟨rfl, Fr.of_below (below_alloc (Below.refl _ _) _) hbase, fun h => absurd h (by decide)⟩
  | false =>
    rw [ht] at x8
    have hE0 : beginTextE s tg = if s.texts.length = 64 then 2 else if (idOf tg.keys).found = false then 11 else if nameB (idOf tg.keys).name = false then 4 else if 0 ≤ findT (idOf tg.keys).name s.texts 0 then 5 else 0 := by unfold beginTextE; rw [if_neg (by rw [ht]; decide)]
    by_cases c1 : s.texts.length = 64
    · have hE : beginTextE s tg = 2 := by rw [hE0, if_pos c1]
      rw [hE]
      have hd1 : ((s.texts.length : Int) == 64) = true := beq_iff_eq.2 (by omega)
      clear ht hE hP hk hK hE0 c1
      go_enter Tryd.func28, Tryd.ntmps28
      go_wp2
      go_ret
      exact ⟨rfl, Fr.of_below (below_alloc (Below.refl _ _) _) hbase, fun h => absurd h (by decide)⟩
    · have hd1 : ((s.texts.length : Int) == 64) = false := beq_eq_false_iff_ne.2 (by omega)
      rw [if_neg c1] at hE0
      have HE0 := Lib.hid hE0
      have HP := Lib.hid hP
      have HK := Lib.hid hK
      have HKK := Lib.hid hk
      have HT := Lib.hid ht
      have hc1 : s.texts.length < 64 := by omega
      clear hE0 hP hK hk ht c1
      go_enter Tryd.func28, Tryd.ntmps28
      go_wp2
      go_loopw [6, 32] (fun fd i wr => ∃ (j : Nat) (vm : Value), i = .int .i64 j ∧ j ≤ tg.keys.length ∧ fd = .bool (idOf (tg.keys.take j)).found ∧ wr.heap[w.heap.size + 1]? = some (txObj (idOf (tg.keys.take j)).name s.toks.length vm) ∧
        Kd.R k88 88 wr w.heap.size (fun _ => True) vm (idOf (tg.keys.take j)).meta_ ∧ Below w.heap.size w wr) (fun _ i _ => tg.keys.length - (intOf i).toNat)
      case atStart =>
        refine ⟨0, .slice none 0 0, rfl, Nat.zero_le _, rfl, ?_, Kd.R_nil _ _ _ _ _, below_alloc (below_alloc (Below.refl _ _) _) _⟩
        have := blk_new (w.alloc (tgObj tg.closing tg.name (.slice Ak tg.keys.length ck))) (txObj ⟨#[]⟩ s.toks.length (.slice none 0 0))
        rw [show (w.alloc (tgObj tg.closing tg.name (.slice Ak tg.keys.length ck))).heap.size = w.heap.size + 1 by simp] at this
        exact this
      case round =>
        obtain ⟨j, vm, rfl, hj, rfl, hF, hR, hb⟩ := hrel
        have hFl := blk_lt hF
        obtain ⟨Am, cm, rfl⟩ := Kd.R_slice hR
        obtain ⟨a, ha⟩ : ∃ a, a = idOf (tg.keys.take j) := ⟨_, rfl⟩
        rw [← ha] at hF hR ⊢
        have hml : a.meta_.length ≤ 1048576 := by
          have := meta_le (tg.keys.take j) ⟨⟨#[]⟩, false, []⟩
          rw [ha]
          unfold idOf
          rw [List.length_take] at this
          simp only [List.length_nil] at this
          omega
        by_cases hlt : j < tg.keys.length
        case pos =>
          have hd : decide ((j : Int) < (tg.keys.length : Int)) = true := decide_eq_true (by omega)
          have hCk : Kd.C k88 wr Ak tg.keys.length tg.keys := by
            obtain ⟨A', c', he, _, hC⟩ := Kd.R_reads (Kd.R_below HK.out hb)
            injection he with h1 _ _
            rw [h1]
            exact hC
          obtain ⟨ad, hA, e0, e1⟩ := at_T88 hCk (j : Int) (by omega) (by omega)
          simp only [Int.toNat_natCast] at e0 e1
          obtain ⟨x, hx⟩ : ∃ x, x = rd_T88 tg.keys (j : Int) := ⟨_, rfl⟩
          rw [← hx] at e0 e1
          subst hA
          have htake : tg.keys.take (j + 1) = tg.keys.take j ++ [x] := by
            rw [List.take_add_one, hx]
            unfold rd_T88
            simp [List.getD, hlt]
          have hstep : idOf (tg.keys.take (j + 1)) = idStep a x := by
            rw [htake, ha]
            unfold idOf
            rw [List.foldl_append, List.foldl_cons, List.foldl_nil]
          have HST := Lib.hid hstep
          have HF := Lib.hid hF
          have HR := Lib.hid hR
          have HB := Lib.hid hb
          have y0 : wr.cell? ⟨w.heap.size + 1, 0, none⟩ = some (.string a.name) := blk_cell hF 0
          have y3 : wr.cell? ⟨w.heap.size + 1, 3, none⟩ = some (.slice Am a.meta_.length cm) := blk_cell hF 3
          have fy0 := blk_frozen hF 0
          have fy3 := blk_frozen hF 3
          have h00 : (0 : Int) ≤ (j : Int) := by omega
          have h11 : (j : Int) < (tg.keys.length : Int) := by omega
          have hnw : ¬ w.heap.size + 1 = wr.heap.size := by omega
          have hnw' : ¬ wr.heap.size = w.heap.size + 1 := by omega
          clear hx hstep hF hR hb htake hCk ha
          cases hid : idB x with
          | true =>
            have hb1 : (x.f0.toList == [105, 100]) = true := hid
            have hs2 : Hid (idStep a x = ⟨x.f1, true, a.meta_⟩) := by unfold idStep; rw [if_pos hid]; exact rfl
            clear hid
            go_wp2
            go_roundw
            case rel =>
              refine ⟨j + 1, .slice Am a.meta_.length cm, by go_num, by omega, by rw [HST.out, hs2.out], ?_, ?_, ?_⟩
              · rw [HST.out, hs2.out]
                exact blk_alloc (blk_put HF.out 0 _ rfl) _
              · rw [HST.out, hs2.out]
                exact Kd.R_alloc (Kd.R_set HR.out HF.out (by decide) 0 _) _
              · exact below_alloc (HB.out.setCell (show w.heap.size ≤ w.heap.size + 1 by omega) _) _
            case measure => simp [intOf] <;> omega
          | false =>
            have hb1 : (x.f0.toList == [105, 100]) = false := hid
            have hs2 : Hid (idStep a x = ⟨a.name, a.found, a.meta_ ++ [x]⟩) := by unfold idStep; rw [if_neg (by rw [hid]; decide)]; exact rfl
            clear hid
            go_upto_region 12 with (fail)
            generalize hW2 : wr.alloc _ = W2
            have hb2 : Below w.heap.size w W2 := by rw [← hW2]; exact below_alloc HB.out _
            have hR2 : Kd.R k88 88 W2 w.heap.size (fun _ => True) (.slice Am a.meta_.length cm) a.meta_ := by rw [← hW2]; exact Kd.R_alloc HR.out _
            have hF2 : W2.heap[w.heap.size + 1]? = some (txObj a.name s.toks.length (.slice Am a.meta_.length cm)) := by rw [← hW2]; exact blk_alloc HF.out _
            have hT2 : W2.heap[wr.heap.size]? = some (.cells #[.string x.f0, .string x.f1] 88 (0, 0)) := by rw [← hW2]; exact blk_new wr _
            have y3 : W2.cell? ⟨w.heap.size + 1, 3, none⟩ = some (.slice Am a.meta_.length cm) := blk_cell hF2 3
            have t0 : W2.cell? ⟨wr.heap.size, 0, none⟩ = some (.string x.f0) := blk_cell hT2 0
            have t1 : W2.cell? ⟨wr.heap.size, 1, none⟩ = some (.string x.f1) := blk_cell hT2 1
            have HF2 := Lib.hid hF2
            have HR2 := Lib.hid hR2
            have HB2 := Lib.hid hb2
            clear hW2 hF2 hR2 hb2 hT2 y0 fy0 fy3 e0 e1
            go_wp2_with (at_builtin; go_loud (refine Kd.R_append k88 (w0 := w) w.heap.size rfl (.tmp 43) (.tmp 45) 56 88 (.agg #[.string ⟨#[]⟩, .string ⟨#[]⟩]) 32 rfl Tryd.underlying56 info88 rfl (by decide) (by omega) _ a.meta_ x [.string x.f0, .string x.f1] (fun _ => True) (fun _ => False) rfl rfl (k88_mkM _ _ _ _) (fun _ hk => hk.elim) (fun k hk => trivial) HR2.out HB2.out (below_size HB2.out) (by omega) ?_; intro v1 w1 hR1 hb1 hg1 hat1; obtain ⟨A1, c1, rfl⟩ := Kd.R_slice hR1; rw [List.length_append, List.length_singleton] at hR1; have hF1 := blk_still HF2.out hg1 (Kd.R_ne HR2.out HF2.out (by decide)); have g3 : w1.cell? ⟨w.heap.size + 1, 3, none⟩ = some (.slice Am a.meta_.length cm) := blk_cell hF1 3; have fg3 := blk_frozen hF1 3; have HF1 := Lib.hid hF1; have HR1 := Lib.hid hR1; have HB1 := Lib.hid hb1; clear hF1 hR1 hb1 hg1 hat1))
            go_roundw
            case rel =>
              refine ⟨j + 1, .slice A1 (a.meta_.length + 1) c1, by go_num, by omega, by rw [HST.out, hs2.out], ?_, ?_, ?_⟩
              · rw [HST.out, hs2.out]
                exact blk_put HF1.out 3 _ rfl
              · rw [HST.out, hs2.out]
                exact Kd.R_set HR1.out HF1.out (by decide) 3 _
              · exact HB1.out.setCell (show w.heap.size ≤ w.heap.size + 1 by omega) _
            case measure => simp [intOf] <;> omega
        case neg =>
          obtain rfl : j = tg.keys.length := by omega
          have hd : decide ((tg.keys.length : Int) < (tg.keys.length : Int)) = false := decide_eq_false (by omega)
          rw [List.take_of_length_le (Nat.le_refl _)] at ha
          have HA := Lib.hid ha
          have y0 : wr.cell? ⟨w.heap.size + 1, 0, none⟩ = some (.string a.name) := blk_cell hF 0
          have y1 : wr.cell? ⟨w.heap.size + 1, 1, none⟩ = some (.int .i64 s.toks.length) := blk_cell hF 1
          have y2 : wr.cell? ⟨w.heap.size + 1, 2, none⟩ = some (.int .i64 (-1)) := blk_cell hF 2
          have y3 : wr.cell? ⟨w.heap.size + 1, 3, none⟩ = some (.slice Am a.meta_.length cm) := blk_cell hF 3
          have HF := Lib.hid hF
          have HR := Lib.hid hR
          have HB := Lib.hid hb
          have HFL := Lib.hid hFl
          clear hF hR hb ha hFl x1 x2 x8
          cases hf : a.found with
          | false =>
            have HEN : Hid (beginTextE s tg = 11) := by rw [HE0.out, ← HA.out, if_pos hf]; exact rfl
            clear hf
            go_wp2
            go_ret
            exact ⟨by rw [HEN.out]; rfl, Fr.of_below HB.out hbase, fun h => absurd h (by rw [HEN.out]; decide)⟩
          | true =>
            cases hn : nameB a.name with
            | false =>
              have HEN : Hid (beginTextE s tg = 4) := by rw [HE0.out, ← HA.out, if_neg (by rw [hf]; decide), if_pos hn]; exact rfl
              have HNN := Lib.hid hn
              clear hf hn
              go_wp2_with (go_at_call 32; refine (name_q _ _).mono ?_; rw [HNN.out]; rintro e w1 ⟨rfl, m, rfl⟩)
              go_ret
              exact ⟨by rw [HEN.out]; rfl, Fr.of_below (pw_below_drewN HB.out _) hbase, fun h => absurd h (by rw [HEN.out]; decide)⟩
            | true =>
              have HE2 : Hid (beginTextE s tg = if 0 ≤ findT a.name s.texts 0 then 5 else 0) := by rw [HE0.out, ← HA.out, if_neg (by rw [hf]; decide), if_neg (by rw [hn]; decide)]; exact rfl
              have HNN := Lib.hid hn
              clear hf hn
              go_wp2_with (go_at_call 32; refine (name_q _ _).mono ?_; rw [HNN.out]; rintro e w1 ⟨rfl, m, rfl⟩)
              generalize hW2 : wr.drewN _ = W2
              have hbA : Below w.heap.size w W2 := by rw [← hW2]; exact pw_below_drewN HB.out _
              have hR2 : Kd.R k88 88 W2 w.heap.size (fun _ => True) (.slice Am a.meta_.length cm) a.meta_ := by rw [← hW2]; exact Kd.R_drewN HR.out _
              have hF2 : W2.heap[w.heap.size + 1]? = some (txObj a.name s.toks.length (.slice Am a.meta_.length cm)) := by rw [← hW2]; exact blk_drewN HF.out _
              have hP2 := HP.out.below hbA
              have g0 : W2.cell? ⟨G, 0, none⟩ = some (.slice Aa s.att.length ca) := blk_cell hP2.blk 0
              have g1 : W2.cell? ⟨G, 1, none⟩ = some (.slice At s.toks.length ct) := blk_cell hP2.blk 1
              have g2 : W2.cell? ⟨G, 2, none⟩ = some (.slice Ax s.texts.length cx) := blk_cell hP2.blk 2
              have g3 : W2.cell? ⟨G, 3, none⟩ = some (.slice Ar s.regs.length cr) := blk_cell hP2.blk 3
              have g4 : W2.cell? ⟨G, 4, none⟩ = some (.slice none 0 0) := blk_cell hP2.blk 4
              have g5 : W2.cell? ⟨G, 5, none⟩ = some (.slice none 0 0) := blk_cell hP2.blk 5
              have g6 : W2.cell? ⟨G, 6, none⟩ = some (.slice none 0 0) := blk_cell hP2.blk 6
              have y0 : W2.cell? ⟨w.heap.size + 1, 0, none⟩ = some (.string a.name) := blk_cell hF2 0
              have hu30 := Tryd.underlying30
              obtain ⟨fi, hfi⟩ : ∃ i, i = findT a.name s.texts 0 := ⟨_, rfl⟩
              have HE3 : Hid (beginTextE s tg = if 0 ≤ fi then 5 else 0) := by rw [HE2.out, hfi]; exact rfl
              have HFI := Lib.hid hfi
              have HF2 := Lib.hid hF2
              have HR2 := Lib.hid hR2
              have HBA := Lib.hid hbA
              have HP2 := Lib.hid hP2
              clear hW2 hF2 hR2 hbA hP2 hfi y1 y2 y3
              go_region_held3 (fun w' => w'.cell? ⟨G, 0, none⟩ = some (.slice Aa s.att.length ca) ∧ w'.cell? ⟨G, 1, none⟩ = some (.slice At s.toks.length ct) ∧ w'.cell? ⟨G, 2, none⟩ = some (.slice Ax s.texts.length cx) ∧ w'.cell? ⟨G, 3, none⟩ = some (.slice Ar s.regs.length cr) ∧ w'.cell? ⟨G, 4, none⟩ = some (.slice none 0 0) ∧ w'.cell? ⟨G, 5, none⟩ = some (.slice none 0 0) ∧ w'.cell? ⟨G, 6, none⟩ = some (.slice none 0 0) ∧ w'.cell? ⟨w.heap.size + 1, 0, none⟩ = some (.string a.name))
                (first | exact ⟨pw_cell_below hb3 g0, pw_cell_below hb3 g1, pw_cell_below hb3 g2, pw_cell_below hb3 g3, pw_cell_below hb3 g4, pw_cell_below hb3 g5, pw_cell_below hb3 g6, pw_cell_below hb3 y0⟩ | go_keep)
                ((go_at_call 34; refine (find_b a.name _ (Kd.R_drew HP2.out.ra) (Kd.R_drew HP2.out.rt) (Kd.R_drew HP2.out.rx) (Kd.R_drew HP2.out.rr) (by omega)).mono ?_; rw [← HFI.out]; rintro e w3 ⟨rfl, hb3⟩))
              obtain ⟨W3, rfl⟩ : ∃ W3, W3 = w3 := ⟨w3, rfl⟩
              have hb23 : Below W2.heap.size W2 W3 := (below_drew (Below.refl _ _)).trans hb3
              have hb3w : Below w.heap.size w W3 := HBA.out.trans (hb23.mono HBA.out.size)
              clear g0 g1 g2 g3 g4 g5 g6 y0
              by_cases hfi0 : 0 ≤ fi
              · have hd5 : decide (0 ≤ fi) = true := decide_eq_true hfi0
                have HEN : Hid (beginTextE s tg = 5) := by rw [HE3.out, if_pos hfi0]; exact rfl
                have HB3W := Lib.hid hb3w
                clear hb23 hb3 hb3w
                go_wp2
                go_ret
                exact ⟨by rw [HEN.out]; rfl, Fr.of_below HB3W.out hbase, fun h => absurd h (by rw [HEN.out]; decide)⟩
              · have hd5 : decide (0 ≤ fi) = false := decide_eq_false hfi0
                have HEN : Hid (beginTextE s tg = 0) := by rw [HE3.out, if_neg hfi0]; exact rfl
                have hP3 := HP2.out.below hb23
                have hF3 := blk_below HF2.out hb23
                have hR3 := R_apart (Kd.R_lower (Kd.R_below HR2.out hb23) hbase) hP3.rx (by decide)
                have hne3 : some (w.heap.size + 1) ≠ (Value.slice Ax s.texts.length cx).ownBlock := by
                  intro he
                  obtain ⟨_, ho⟩ := Kd.R_own HP.out.rx
                  have := own_lt ho _ he.symm
                  omega
                have HBZ : Hid (base ≤ W3.drew.heap.size) := by
                  have := hb3w.size
                  show base ≤ W3.heap.size
                  omega
                have z2 : W3.cell? ⟨G, 2, none⟩ = some (.slice Ax s.texts.length cx) := blk_cell hP3.blk 2
                have t0 : W3.cell? ⟨w.heap.size + 1, 0, none⟩ = some (.string a.name) := blk_cell hF3 0
                have t1 : W3.cell? ⟨w.heap.size + 1, 1, none⟩ = some (.int .i64 s.toks.length) := blk_cell hF3 1
                have t2 : W3.cell? ⟨w.heap.size + 1, 2, none⟩ = some (.int .i64 (-1)) := blk_cell hF3 2
                have t3 : W3.cell? ⟨w.heap.size + 1, 3, none⟩ = some (.slice Am a.meta_.length cm) := blk_cell hF3 3
                have hu61 := Tryd.underlying61
                have HNE := Lib.hid hne3
                have HP3 := Lib.hid hP3
                have HF3 := Lib.hid hF3
                have HR3 := Lib.hid hR3
                have HB3W := Lib.hid hb3w
                clear hb23 hb3 hb3w hP3 hF3 hR3 hne3
                go_wp2
                refine K_begin 12 (fun w' => w'.cell? ⟨G, 2, none⟩ = some (.slice Ax s.texts.length cx) ∧ w'.cell? ⟨w.heap.size + 1, 0, none⟩ = some (.string a.name) ∧ w'.cell? ⟨w.heap.size + 1, 1, none⟩ = some (.int .i64 s.toks.length) ∧ w'.cell? ⟨w.heap.size + 1, 2, none⟩ = some (.int .i64 (-1)) ∧ w'.cell? ⟨w.heap.size + 1, 3, none⟩ = some (.slice Am a.meta_.length cm)) (by kernel_rfl) ?hSk332 (fun hHeld => ?restk332)
                case hSk332 => (first | exact ⟨z2, t0, t1, t2, t3⟩ | go_keep)
                case' restk332 => skip
                refine K_take (i := 0) (v := ?vk335) rfl (by kernel_rfl) (fun _ _ _ h => h) (Or.inl ⟨by rfl, ?hyk335⟩) (by assumption) ?restk335
                case hyk335 => ((intro w hSw; (try dsimp only at hSw); go_simp); try (with_reducible rfl))
                case' restk335 => try simp only [Act.put, List.setIfInBounds_toArray, List.set_cons_zero, List.set_cons_succ]
                refine K_take (i := 1) (v := ?vk338) rfl (by kernel_rfl) (fun _ _ _ h => h) (Or.inl ⟨by rfl, ?hyk338⟩) (by assumption) ?restk338
                case hyk338 => ((intro w hSw; (try dsimp only at hSw); go_simp); try (with_reducible rfl))
                case' restk338 => try simp only [Act.put, List.setIfInBounds_toArray, List.set_cons_zero, List.set_cons_succ]
                refine K_take (i := 2) (v := ?vk341) rfl (by kernel_rfl) (fun _ _ _ h => h) (Or.inl ⟨by rfl, ?hyk341⟩) (by assumption) ?restk341
                case hyk341 => ((intro w hSw; (try dsimp only at hSw); go_simp); try (with_reducible rfl))
                case' restk341 => try simp only [Act.put, List.setIfInBounds_toArray, List.set_cons_zero, List.set_cons_succ]
                refine K_take (i := 3) (v := ?vk344) rfl (by kernel_rfl) (fun _ _ _ h => h) (Or.inl ⟨by rfl, ?hyk344⟩) (by assumption) ?restk344
                case hyk344 => ((intro w hSw; (try dsimp only at hSw); go_simp); try (with_reducible rfl))
                case' restk344 => try simp only [Act.put, List.setIfInBounds_toArray, List.set_cons_zero, List.set_cons_succ]
                refine K_take (i := 4) (v := ?vk347) rfl (by kernel_rfl) (fun _ _ _ h => h) (Or.inl ⟨by rfl, ?hyk347⟩) (by assumption) ?restk347
                case hyk347 => ((intro w hSw; (try dsimp only at hSw); go_simp); try (with_reducible rfl))
                case' restk347 => try simp only [Act.put, List.setIfInBounds_toArray, List.set_cons_zero, List.set_cons_succ]
                refine K_take (i := 5) (v := ?vk350) rfl (by kernel_rfl) (fun _ _ _ h => h) (Or.inl ⟨by rfl, ?hyk350⟩) (by assumption) ?restk350
                case hyk350 => ((intro w hSw; (try dsimp only at hSw); go_simp); try (with_reducible rfl))
                case' restk350 => try simp only [Act.put, List.setIfInBounds_toArray, List.set_cons_zero, List.set_cons_succ]
                refine K_take (i := 6) (v := ?vk353) rfl (by kernel_rfl) (fun _ _ _ h => h) (Or.inl ⟨by rfl, ?hyk353⟩) (by assumption) ?restk353
                case hyk353 => ((intro w hSw; (try dsimp only at hSw); go_simp); try (with_reducible rfl))
                case' restk353 => try simp only [Act.put, List.setIfInBounds_toArray, List.set_cons_zero, List.set_cons_succ]
                refine K_one (i := 7) rfl (by kernel_rfl) (by decide) (fun K hK => ?_)
                go_simp
                refine hK.out _ _ ?hSk356 (fun hHeld => ?restk356)
                case hSk356 => ((try dsimp only); (first | exact ⟨z2, t0, t1, t2, t3⟩ | go_keep))
                case' restk356 => skip
                clear hK K
                try simp only [Act.put, List.setIfInBounds_toArray, List.set_cons_zero, List.set_cons_succ]
                refine K_one (i := 8) rfl (by kernel_rfl) (by decide) (fun K hK => ?_)
                ((apply Kd.R_append_step (d := k61) (w0 := W3.drew) (W := W3.drew) (base := base) (s := .tmp 71) (x := .tmp 73) (t := 24) (e := 61) (z := .agg #[.string ⟨#[]⟩, .int .i64 0, .int .i64 0, .slice none 0 0]) (bytes := 56) (ht := Tryd.underlying24) (hinfo := info_text) (hz := rfl) (v := .slice Ax s.texts.length cx) (xs := s.texts) (p := ⟨a.name, s.toks.length, -1, a.meta_⟩) (cs := [.string a.name, .int .i64 s.toks.length, .int .i64 (-1), .slice Am a.meta_.length cm]) (ok := fun _ => True) (okp := fun k => True ∧ some k ≠ (Value.slice Ax s.texts.length cx).ownBlock) (hp := k61_mkM _ _ _ _ (Kd.R_drew HR3.out)) (HO := Kd.R_drew HP3.out.rx) (HB := Below.refl _ _); (case hw => go_loud (rfl)); (case hs0 => go_loud (decide)); (case hb0 => go_loud (decide)); (case ho => go_loud (rfl)); (case hs => go_loud (conv => lhs; simp [Act.eval, Act.put])); (case hx => go_loud ((conv => lhs; simp [Act.eval, Act.put]); try rfl)); (case hokp => go_loud (exact fun k hk => hk)); (case hfresh => go_loud (exact fun k hk => trivial)); (case hbase => go_loud (exact HBZ.out)); (case hl => go_loud (omega)); (case' h => go_loud (intro v1 w9 hR9 hb9 hg9 hat9; obtain ⟨A9, c9, rfl⟩ := Kd.R_slice hR9; rw [List.length_append, List.length_singleton] at hR9 hat9; have hG9 := blk_still (blk_drew HP3.out.blk) hg9 (Kd.R_ne HP3.out.rx HP3.out.blk (by decide)); have hF9 := blk_still (blk_drew HF3.out) hg9 HNE.out; have z2 : w9.cell? ⟨G, 2, none⟩ = some (.slice Ax s.texts.length cx) := blk_cell hG9 2; have f2 := blk_frozen hG9 2; have t0 : w9.cell? ⟨w.heap.size + 1, 0, none⟩ = some (.string a.name) := blk_cell hF9 0; have t1 : w9.cell? ⟨w.heap.size + 1, 1, none⟩ = some (.int .i64 s.toks.length) := blk_cell hF9 1; have t2 : w9.cell? ⟨w.heap.size + 1, 2, none⟩ = some (.int .i64 (-1)) := blk_cell hF9 2; have t3 : w9.cell? ⟨w.heap.size + 1, 3, none⟩ = some (.slice Am a.meta_.length cm) := blk_cell hF9 3; have z8 : w9.cell? ⟨G, 8, none⟩ = some (.bool s.text) := blk_cell hG9 8; have f8 := blk_frozen hG9 8; have HG9 := Lib.hid hG9; have HR9 := Lib.hid hR9; have HB9 := Lib.hid hb9; have HGR := Lib.hid hg9; clear hR9 hb9 hg9 hat9 hG9 hF9))))
                refine hK.out _ _ ?hSk363 (fun hHeld => ?restk363)
                case hSk363 => ((try dsimp only); (first | exact ⟨z2, t0, t1, t2, t3⟩ | go_keep))
                case' restk363 => skip
                clear hK K
                try simp only [Act.put, List.setIfInBounds_toArray, List.set_cons_zero, List.set_cons_succ]
                refine K_take (i := 9) (v := ?vk370) rfl (by kernel_rfl) (fun _ _ _ h => h) (Or.inl ⟨by rfl, ?hyk370⟩) (by assumption) ?restk370
                case hyk370 => ((intro w hSw; (try dsimp only at hSw); go_simp); try (with_reducible rfl))
                case' restk370 => try simp only [Act.put, List.setIfInBounds_toArray, List.set_cons_zero, List.set_cons_succ]
                refine K_take (i := 10) (v := ?vk373) rfl (by kernel_rfl) (fun _ _ _ h => h) (Or.inl ⟨by rfl, ?hyk373⟩) (by assumption) ?restk373
                case hyk373 => ((intro w hSw; (try dsimp only at hSw); go_simp); try (with_reducible rfl))
                case' restk373 => try simp only [Act.put, List.setIfInBounds_toArray, List.set_cons_zero, List.set_cons_succ]
                refine K_take (i := 11) (v := ?vk376) rfl (by kernel_rfl) (fun _ _ _ h => h) (Or.inl ⟨by rfl, ?hyk376⟩) (by assumption) ?restk376
                case hyk376 => ((intro w hSw; (try dsimp only at hSw); go_simp); try (with_reducible rfl))
                case' restk376 => try simp only [Act.put, List.setIfInBounds_toArray, List.set_cons_zero, List.set_cons_succ]
                refine K_tail (i := 12) rfl (by kernel_rfl) (by decide) (fun K hK => ?_)
                go_simp
                refine hK.out _ _ ?_
                clear hK K
                try simp only [Act.put, List.setIfInBounds_toArray, List.set_cons_zero, List.set_cons_succ]
                refine K_done (by kernel_rfl) ?_ _
                go_wp2
                go_ret
                have hP9 := RP.textsTo (HP3.out.below (below_drew (Below.refl _ _))) HR9.out HGR.out
                have hP10 := RP.textTo hP9 true
                have hfin : beginTextS s tg = { s with texts := s.texts ++ [⟨a.name, s.toks.length, -1, a.meta_⟩], text := true } := by
                  unfold beginTextS
                  rw [← HA.out]
                refine ⟨by rw [HEN.out]; rfl, (Fr.of_below (below_drew HB3W.out) hbase).trans ((Fr.grown (HP3.out.below (below_drew (Below.refl _ _))).rx HGR.out (by decide) HB9.out).trans ((Fr.put HG9.out (by decide) HP3.out.le _ _).trans (Fr.put hP9.blk (by decide) HP3.out.le _ _))), fun _ => ?_⟩
                rw [hfin]
                refine ⟨⟨HKK.out.att, HKK.out.toks, ?_, HKK.out.regs, fun _ => ?_⟩, _, _, _, _, vo, hP10⟩
                · show (s.texts ++ [_]).length ≤ 64
                  rw [List.length_append, List.length_singleton]
                  omega
                · show 0 < (s.texts ++ [_]).length
                  rw [List.length_append, List.length_singleton]
                  omega
end Go.Proofs.YtebajpebongabaaDoor.V
