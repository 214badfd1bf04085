/- markup.ParseTag: a tag, or where and why it is none. Condition: the text is at most 2^40 bytes long. -/
import Derived.WalkKit
import Derived.WalkLawsBesides
import Derived.WalkSpells
import Derived.Tactics2
import Derived.Defers
import Derived.Recover
import Derived.Laws.Pointers
import Derived.BigCall
import Derived.Deep.RegionHeld3
import Derived.Lib.Hide
import Derived.Test.YtebajpebongabaaDoorProg
import Derived.Test.YtebajpebongabaaDoorWAll
import Derived.Test.YtebajpebongabaaDoorTg
namespace Go.Proofs.YtebajpebongabaaDoor.V
open Go.RowKit Go.Proofs.YtebajpebongabaaDoorW.PrintWords Go.Proofs.YtebajpebongabaaDoorW.PrintMore Go.Proofs.YtebajpebongabaaDoor.P Go.Proofs.YtebajpebongabaaDoor.X
set_option linter.unusedVariables false
set_option linter.unusedSimpArgs false

theorem zero_fault : (Tryd.prog.info? 94).bind (·.zero) = some (.agg #[.int .i64 0, .int .i64 0]) := by kernel_rfl
theorem ta_nil (x : TypeId) (w : World) : (Instr.typeAssert .nilIface x 94 true).run Tryd.prog w = .ok (.tuple #[.agg #[.int .i64 0, .int .i64 0], .bool false]) w := by
  have hz := zero_fault
  cases hi : Tryd.prog.info? 94 with
  | none => rw [hi] at hz; simp at hz
  | some i =>
    rw [hi] at hz
    simp only [Option.bind_some] at hz
    simp [Instr.typeAssert, run_underlying Tryd.underlying94, zeroValue, typeInfo, hi, hz]
theorem ta_is (x : TypeId) (v : Value) (w : World) : (Instr.typeAssert (.iface 94 v) x 94 true).run Tryd.prog w = .ok (.tuple #[v, .bool true]) w := by
  simp [Instr.typeAssert, run_underlying Tryd.underlying94]
theorem catch_tmps (a b c : Value) : #[a, b, c] ++ Array.replicate (Tryd.f47.ntmps - (#[a, b, c] : Array Value).size) undef = #[a, b, c, undef, undef, undef, undef, undef, undef, undef, undef, undef, undef, undef, undef, undef] := rfl

set_option maxHeartbeats 1000000 in
set_option maxRecDepth 100000 in
theorem catch_idle (T0 T1 T2 : Nat) (w : World) :
    CallsD Tryd.prog 47 #[.pointer (some ⟨T0, 0, none⟩), .pointer (some ⟨T1, 0, none⟩), .pointer (some ⟨T2, 0, none⟩)] .returning w fun e u' w' =>
      e = .returned (.tuple #[]) ∧ u' = .returning ∧ Below w.heap.size w w' := by
  refine callsD_of_wpS Tryd.func47 rfl fun c₀ cs hu => ?_
  rw [catch_tmps]
  apply wpS_seq
  apply wpS_region
  simp [wpOpsS, go_sem, recoverD, hu, Exit.thenS, ta_nil]
  refine wpS_of_wp ?_
  go_wp2
  cases c₀
  simp_all [bodyPostS, results, Tryd.results47]
  exact below_alloc (Below.refl _ _) _

/-- How the closure's last region ends. -/
def CatchQ (T0 T1 T2 : Nat) (p c : Int) (w : World) : Exit → Act → World → Prop
  | .normal, a, w' => a.defers = [] ∧ w'.heap[T0]? = some (tgObj false ⟨#[]⟩ (.slice none 0 0)) ∧ w'.heap[T1]? = some (.cells #[.int .i64 p] 3 (0, 0)) ∧ w'.heap[T2]? = some (.cells #[.int .i64 c] 33 (0, 0)) ∧ ∀ B, B ≤ T0 → B ≤ T1 → B ≤ T2 → Below B w w'
  | _, _, _ => False
set_option maxHeartbeats 1000000 in
set_option maxRecDepth 100000 in
theorem catch_fault (T0 T1 T2 : Nat) (p c : Int) (older : List PanicEntry) (w : World) (h0 : w.heap[T0]? = some (tgObj false ⟨#[]⟩ (.slice none 0 0))) (h1 : w.heap[T1]? = some (.cells #[.int .i64 0] 3 (0, 0))) (h2 : w.heap[T2]? = some (.cells #[.int .i64 0] 33 (0, 0)))
    (h01 : T0 ≠ T1) (h02 : T0 ≠ T2) (h12 : T1 ≠ T2) :
    CallsD Tryd.prog 47 #[.pointer (some ⟨T0, 0, none⟩), .pointer (some ⟨T1, 0, none⟩), .pointer (some ⟨T2, 0, none⟩)]
      (.panicking ({ v := .iface 94 (.agg #[.int .i64 p, .int .i64 c]), recovered := false } :: older)) w fun e u' w' =>
      e = .returned (.tuple #[]) ∧ u' = .panicking ({ v := .iface 94 (.agg #[.int .i64 p, .int .i64 c]), recovered := true } :: older) ∧
      w'.heap[T0]? = some (tgObj false ⟨#[]⟩ (.slice none 0 0)) ∧ w'.heap[T1]? = some (.cells #[.int .i64 p] 3 (0, 0)) ∧ w'.heap[T2]? = some (.cells #[.int .i64 c] 33 (0, 0)) ∧
      ∀ B, B ≤ T0 → B ≤ T1 → B ≤ T2 → Below B w w' := by
  refine callsD_of_wpS Tryd.func47 rfl fun c₀ cs hu => ?_
  rw [catch_tmps]
  apply wpS_seq
  apply wpS_region
  simp [wpOpsS, go_sem, recoverD, hu, Exit.thenS, ta_is]
  refine wpS_of_wp ?_
  go_wp2
  have l0 := blk_lt h0
  have l1 := blk_lt h1
  have l2 := blk_lt h2
  have hF := blk_new w (.cells #[.int .i64 p, .int .i64 c] 94 (0, 0))
  have k0 := blk_alloc h0 (.cells #[.int .i64 p, .int .i64 c] 94 (0, 0))
  have k1 := blk_alloc h1 (.cells #[.int .i64 p, .int .i64 c] 94 (0, 0))
  have k2 := blk_alloc h2 (.cells #[.int .i64 p, .int .i64 c] 94 (0, 0))
  have hb := below_alloc (Below.refl w.heap.size w) (.cells #[.int .i64 p, .int .i64 c] 94 (0, 0))
  obtain ⟨W, hW⟩ : ∃ W, W = w.alloc (.cells #[.int .i64 p, .int .i64 c] 94 (0, 0)) := ⟨_, rfl⟩
  obtain ⟨F, hFF⟩ : ∃ F, F = w.heap.size := ⟨_, rfl⟩
  rw [← hW] at hF k0 k1 k2 hb ⊢
  rw [← hFF] at hF l0 l1 l2 hb ⊢
  have f0 : W.cell? ⟨F, 0, none⟩ = some (.int .i64 p) := blk_cell hF 0
  have f1 : W.cell? ⟨F, 1, none⟩ = some (.int .i64 c) := blk_cell hF 1
  have a0 : W.cell? ⟨T0, 0, none⟩ = some (.bool false) := blk_cell k0 0
  have a1 : W.cell? ⟨T0, 1, none⟩ = some (.string ⟨#[]⟩) := blk_cell k0 1
  have a2 : W.cell? ⟨T0, 2, none⟩ = some (.slice none 0 0) := blk_cell k0 2
  have b0 : W.cell? ⟨T1, 0, none⟩ = some (.int .i64 0) := blk_cell k1 0
  have c0 : W.cell? ⟨T2, 0, none⟩ = some (.int .i64 0) := blk_cell k2 0
  have fa0 := blk_frozen k0 0
  have fa1 := blk_frozen k0 1
  have fa2 := blk_frozen k0 2
  have fb0 := blk_frozen k1 0
  have fc0 := blk_frozen k2 0
  have n0 : ¬ F = T0 := by omega
  have n1 : ¬ F = T1 := by omega
  have n2 : ¬ F = T2 := by omega
  have n0' : ¬ T0 = F := by omega
  have n1' : ¬ T1 = F := by omega
  have n2' : ¬ T2 = F := by omega
  have h10 : ¬ T1 = T0 := fun e => h01 e.symm
  have h20 : ¬ T2 = T0 := fun e => h02 e.symm
  have h21 : ¬ T2 = T1 := fun e => h12 e.symm
  have HFF := Lib.hid hFF
  have HK := Lib.hid (⟨k0, k1, k2, hb, l0, l1, l2⟩ : _ ∧ _ ∧ _ ∧ _ ∧ _ ∧ _ ∧ _)
  clear hFF hW k0 k1 k2 hb l0 l1 l2 hF h0 h1 h2
  refine Code.wp_mono (Q := CatchQ T0 T1 T2 p c w) (fun e a w' h => ?_) ?_
  · cases e with
    | normal =>
      obtain ⟨hd, g0, g1, g2, gb⟩ := h
      exact ⟨hd, _, rfl, _, by simp [results, Tryd.results47], rfl, rfl, g0, g1, g2, gb⟩
    | _ => exact False.elim h
  clear hu
  go_region_law (fail)
  all_goals
    obtain ⟨k0, k1, k2, hb, l0, l1, l2⟩ := HK.out
    refine ⟨rfl, blk_drew (blk_far (blk_far (blk_put (blk_put (blk_put k0 0 _ rfl) 1 _ rfl) 2 _ rfl) h01 _) h02 _), blk_drew (blk_far (blk_put (blk_far (blk_far (blk_far k1 h10 _) h10 _) h10 _) 0 _ rfl) h12 _), blk_drew (blk_put (blk_far (blk_far (blk_far (blk_far k2 h20 _) h20 _) h20 _) h21 _) 0 _ rfl), fun B b0 b1 b2 => ?_⟩
    have hB : Below B w W := ⟨hb.os, hb.tape, hb.output, hb.size, fun k hk => hb.block k (by omega)⟩
    exact below_drew (((((hB.setCell b0 _).setCell b0 _).setCell b0 _).setCell b1 _).setCell b2 _)

/-! ### ParseTag -/
theorem run_loadVar_one {P : Program} (w : World) (g : Nat) (t ty : TypeId) (v : Value) (fr : Nat × Nat) (d : TypeDesc) (hg : w.heap[g]? = some (.cells #[v] t fr))
    (hu : P.underlying ty = some d) (hd : (match d with | .struct _ | .array _ _ => true | _ => false) = false) : (loadVar ty ⟨g, 0, none⟩).run P w = .ok v w := by
  have hagg : (isAgg ty).run P w = .ok false w := by
    unfold isAgg
    rw [Sem.run_bind, run_underlying hu w]
    cases d <;> simp_all
  have hc : w.cell? ⟨g, 0, none⟩ = some v := cell_of_row w g 0 #[v] t fr hg
  simp [loadVar, Sem.run_bind, hagg, go_sem, hc]
theorem results_c11 {P : Program} {fn : Func} {p p' p2 : Tmp} {ty ty' ty2 : TypeId} (h : fn.results = #[.cell p ty, .cell p' ty', .cell p2 ty2]) (tmps : Array Value) (w : World) (g g' g2 : Nat) (t t' t2 : TypeId) (cs : Array Value) (v' v2 : Value) (fr fr' fr2 : Nat × Nat) (d d' d2 : TypeDesc)
    (hp : tmps.getD p undef = .pointer (some ⟨g, 0, none⟩)) (hg : w.heap[g]? = some (.cells cs t fr))
    (hu : P.underlying ty = some d) (hd : (match d with | .struct _ | .array _ _ => true | _ => false) = true) (hi : (P.info? ty).map (·.size) = some cs.size)
    (hp' : tmps.getD p' undef = .pointer (some ⟨g', 0, none⟩)) (hg' : w.heap[g']? = some (.cells #[v'] t' fr'))
    (hu' : P.underlying ty' = some d') (hd' : (match d' with | .struct _ | .array _ _ => true | _ => false) = false)
    (hp2 : tmps.getD p2 undef = .pointer (some ⟨g2, 0, none⟩)) (hg2 : w.heap[g2]? = some (.cells #[v2] t2 fr2))
    (hu2 : P.underlying ty2 = some d2) (hd2 : (match d2 with | .struct _ | .array _ _ => true | _ => false) = false) :
    (results fn tmps).run P w = .ok (.tuple #[.agg cs, v', v2]) w := by
  have h1 : tmps[p]?.getD undef = .pointer (some ⟨g, 0, none⟩) := by simpa using hp
  have h2 : tmps[p']?.getD undef = .pointer (some ⟨g', 0, none⟩) := by simpa using hp'
  have h3 : tmps[p2]?.getD undef = .pointer (some ⟨g2, 0, none⟩) := by simpa using hp2
  simp [results, h, h1, h2, h3, asAddr, run_loadVar_row w g t ty cs fr d hg hu hd hi, run_loadVar_one w g' t' ty' v' fr' d' hg' hu' hd', run_loadVar_one w g2 t2 ty2 v2 fr2 d2 hg2 hu2 hd2]
set_option maxHeartbeats 2000000 in
set_option maxRecDepth 100000 in
theorem parseTag_bad (s : ByteArray) (hs : s.size ≤ 1099511627776) (w : World) (q c : Int) (h : tagR s 0 = .bad q c) :
    Calls Tryd.prog 25 #[.string s] w fun e w' =>
      e = .returned (.tuple #[.agg #[.bool false, .string ⟨#[]⟩, .slice none 0 0], .int .i64 q, .int .i64 c]) ∧ Below w.heap.size w w' := by
  have hmf : ∀ (fn : Fn) (first cap : Array Value) (w : World), (Instr.makeFunc fn first cap).run Tryd.prog w = .ok (.func fn first cap) w := fun _ _ _ _ => rfl
  have HT := Lib.hid h
  clear h
  go_enter_defers Tryd.func25, Tryd.ntmps25
  go_wp2_with (go_at_call 48; fail)
  have m0 := blk_alloc (blk_alloc (blk_alloc (blk_new w (tgObj false ⟨#[]⟩ (.slice none 0 0))) (.cells #[.int .i64 0] 3)) (.cells #[.int .i64 0] 33)) (.cells #[.string s, .int .i64 0] 97)
  have m1 := blk_alloc (blk_alloc (blk_new (w.alloc (tgObj false ⟨#[]⟩ (.slice none 0 0))) (.cells #[.int .i64 0] 3)) (.cells #[.int .i64 0] 33)) (.cells #[.string s, .int .i64 0] 97)
  have m2 := blk_alloc (blk_new ((w.alloc (tgObj false ⟨#[]⟩ (.slice none 0 0))).alloc (.cells #[.int .i64 0] 3)) (.cells #[.int .i64 0] 33)) (.cells #[.string s, .int .i64 0] 97)
  have m3 := blk_new (((w.alloc (tgObj false ⟨#[]⟩ (.slice none 0 0))).alloc (.cells #[.int .i64 0] 3)).alloc (.cells #[.int .i64 0] 33)) (.cells #[.string s, .int .i64 0] 97)
  have hb0 := below_alloc (below_alloc (below_alloc (below_alloc (Below.refl w.heap.size w) (tgObj false ⟨#[]⟩ (.slice none 0 0))) (.cells #[.int .i64 0] 3)) (.cells #[.int .i64 0] 33)) (.cells #[.string s, .int .i64 0] 97)
  obtain ⟨W, hW⟩ : ∃ W, W = (((w.alloc (tgObj false ⟨#[]⟩ (.slice none 0 0))).alloc (.cells #[.int .i64 0] 3)).alloc (.cells #[.int .i64 0] 33)).alloc (.cells #[.string s, .int .i64 0] 97) := ⟨_, rfl⟩
  rw [← hW] at m0 m1 m2 m3 hb0 ⊢
  simp only [World.alloc, Array.size_push] at m1 m2 m3
  have HB0 := Lib.hid hb0
  have HM := Lib.hid (⟨m0, m1, m2⟩ : _ ∧ _ ∧ _)
  have HM3 := Lib.hid m3
  clear hW hb0 m0 m1 m2 m3
  go_wp2_with (go_at_call 48; go_loud (refine (tag_sc (w.heap.size + 1 + 1 + 1) s 0 (Nat.zero_le _) hs W (by exact HM3.out)).mono ?_; rw [HT.out]; rintro e w1 ⟨rfl, hg1⟩))
  obtain ⟨m0, m1, m2⟩ := HM.out
  have g0 := blk_grown m0 hg1 (by simp; omega)
  have g1 := blk_grown m1 hg1 (by simp)
  have g2 := blk_grown m2 hg1 (by simp)
  refine leaves_cons (f := 47) (args := #[.pointer (some ⟨w.heap.size, 0, none⟩), .pointer (some ⟨w.heap.size + 1, 0, none⟩), .pointer (some ⟨w.heap.size + 1 + 1, 0, none⟩)]) (by simp) (by simp [go_sem]) ?_
  refine (catch_fault _ _ _ q c [] _ g0 g1 g2 (by omega) (by omega) (by omega)).mono ?_
  rintro e u' w'' ⟨rfl, rfl, e0, e1, e2, eb⟩
  refine ⟨.tuple #[.agg #[.bool false, .string ⟨#[]⟩, .slice none 0 0], .int .i64 q, .int .i64 c], ?_, rfl, ?_⟩
  · exact results_c11 rfl _ _ w.heap.size (w.heap.size + 1) (w.heap.size + 1 + 1) _ _ _ _ _ _ _ _ _ _ _ _ rfl e0 Tryd.underlying68 rfl (by kernel_rfl) rfl e1 Tryd.underlying3 rfl rfl e2 Tryd.underlying33 rfl
  · exact (HB0.out.grown hg1 (by simpa using HB0.out.size) (fun k hk => by injection hk with hk; omega)).trans (eb w.heap.size (Nat.le_refl _) (by omega) (by omega))

set_option maxHeartbeats 2000000 in
set_option maxRecDepth 100000 in
theorem parseTag_ok (s : ByteArray) (hs : s.size ≤ 1099511627776) (w : World) (tg : Tg) (p : Nat) (h : tagR s 0 = .ok tg p) :
    Calls Tryd.prog 25 #[.string s] w fun e w' =>
      ∃ vk, e = .returned (.tuple #[.agg #[.bool tg.closing, .string tg.name, vk], .int .i64 0, .int .i64 0]) ∧ Kd.R k88 88 w' w.heap.size (fun _ => True) vk tg.keys ∧ Below w.heap.size w w' := by
  have hmf : ∀ (fn : Fn) (first cap : Array Value) (w : World), (Instr.makeFunc fn first cap).run Tryd.prog w = .ok (.func fn first cap) w := fun _ _ _ _ => rfl
  have HT := Lib.hid h
  clear h
  go_enter_defers Tryd.func25, Tryd.ntmps25
  go_wp2_with (go_at_call 48; fail)
  have m0 := blk_alloc (blk_alloc (blk_alloc (blk_new w (tgObj false ⟨#[]⟩ (.slice none 0 0))) (.cells #[.int .i64 0] 3)) (.cells #[.int .i64 0] 33)) (.cells #[.string s, .int .i64 0] 97)
  have m1 := blk_alloc (blk_alloc (blk_new (w.alloc (tgObj false ⟨#[]⟩ (.slice none 0 0))) (.cells #[.int .i64 0] 3)) (.cells #[.int .i64 0] 33)) (.cells #[.string s, .int .i64 0] 97)
  have m2 := blk_alloc (blk_new ((w.alloc (tgObj false ⟨#[]⟩ (.slice none 0 0))).alloc (.cells #[.int .i64 0] 3)) (.cells #[.int .i64 0] 33)) (.cells #[.string s, .int .i64 0] 97)
  have m3 := blk_new (((w.alloc (tgObj false ⟨#[]⟩ (.slice none 0 0))).alloc (.cells #[.int .i64 0] 3)).alloc (.cells #[.int .i64 0] 33)) (.cells #[.string s, .int .i64 0] 97)
  have hb0 := below_alloc (below_alloc (below_alloc (below_alloc (Below.refl w.heap.size w) (tgObj false ⟨#[]⟩ (.slice none 0 0))) (.cells #[.int .i64 0] 3)) (.cells #[.int .i64 0] 33)) (.cells #[.string s, .int .i64 0] 97)
  obtain ⟨W, hW⟩ : ∃ W, W = (((w.alloc (tgObj false ⟨#[]⟩ (.slice none 0 0))).alloc (.cells #[.int .i64 0] 3)).alloc (.cells #[.int .i64 0] 33)).alloc (.cells #[.string s, .int .i64 0] 97) := ⟨_, rfl⟩
  rw [← hW] at m0 m1 m2 m3 hb0 ⊢
  simp only [World.alloc, Array.size_push] at m1 m2 m3
  have HB0 := Lib.hid hb0
  have HM := Lib.hid (⟨m0, m1, m2⟩ : _ ∧ _ ∧ _)
  have HM3 := Lib.hid m3
  clear hW hb0 m0 m1 m2 m3
  go_wp2_with (go_at_call 48; go_loud (refine (tag_sc (w.heap.size + 1 + 1 + 1) s 0 (Nat.zero_le _) hs W (by exact HM3.out)).mono ?_; rw [HT.out]; rintro e w1 ⟨⟨u, rfl, vk, rfl, hRk⟩, hX1, hg1⟩; obtain ⟨Ak, ck, rfl⟩ := Kd.R_slice hRk; obtain ⟨m0, m1, m2⟩ := HM.out; have g0 := blk_grown m0 hg1 (by simp; omega); have g1 := blk_grown m1 hg1 (by simp); have g2 := blk_grown m2 hg1 (by simp); have a0 : w1.cell? ⟨w.heap.size, 0, none⟩ = some (.bool false) := blk_cell g0 0; have a1 : w1.cell? ⟨w.heap.size, 1, none⟩ = some (.string ⟨#[]⟩) := blk_cell g0 1; have a2 : w1.cell? ⟨w.heap.size, 2, none⟩ = some (.slice none 0 0) := blk_cell g0 2; have b0 : w1.cell? ⟨w.heap.size + 1, 0, none⟩ = some (.int .i64 0) := blk_cell g1 0; have c0 : w1.cell? ⟨w.heap.size + 1 + 1, 0, none⟩ = some (.int .i64 0) := blk_cell g2 0; have fa0 := blk_frozen g0 0; have fa1 := blk_frozen g0 1; have fa2 := blk_frozen g0 2; have fb0 := blk_frozen g1 0; have fc0 := blk_frozen g2 0; have HG := Lib.hid (⟨g0, g1, g2⟩ : _ ∧ _ ∧ _); have HRk := Lib.hid hRk; have HG1 := Lib.hid hg1; clear m0 m1 m2 g0 g1 g2 hRk hX1 hg1))
  clear a0 a1 a2 b0 c0 fa0 fa1 fa2 fb0 fc0
  refine leaves_cons (f := 47) (args := #[.pointer (some ⟨w.heap.size, 0, none⟩), .pointer (some ⟨w.heap.size + 1, 0, none⟩), .pointer (some ⟨w.heap.size + 1 + 1, 0, none⟩)]) (by simp) (by simp [go_sem]) ?_
  refine (catch_idle _ _ _ _).mono ?_
  rintro e u' w'' ⟨rfl, rfl, eb⟩
  obtain ⟨g0, g1, g2⟩ := HG.out
  have hsz := (HB0.out.size)
  have n01 : ¬ w.heap.size = w.heap.size + 1 := by omega
  have n02 : ¬ w.heap.size = w.heap.size + 1 + 1 := by omega
  have n12 : ¬ w.heap.size + 1 = w.heap.size + 1 + 1 := by omega
  have n10 : ¬ w.heap.size + 1 = w.heap.size := by omega
  have n20 : ¬ w.heap.size + 1 + 1 = w.heap.size := by omega
  have n21 : ¬ w.heap.size + 1 + 1 = w.heap.size + 1 := by omega
  have k0 := blk_far (blk_far (blk_put (blk_put (blk_put g0 0 (.bool tg.closing) rfl) 1 (.string tg.name) rfl) 2 (.slice Ak tg.keys.length ck) rfl) (p := ⟨w.heap.size + 1, 0, none⟩) n01 (.int .i64 0)) (p := ⟨w.heap.size + 1 + 1, 0, none⟩) n02 (.int .i64 0)
  have k1 := blk_far (blk_put (blk_far (blk_far (blk_far g1 (p := ⟨w.heap.size, 0, none⟩) n10 (.bool tg.closing)) (p := ⟨w.heap.size, 1, none⟩) n10 (.string tg.name)) (p := ⟨w.heap.size, 2, none⟩) n10 (.slice Ak tg.keys.length ck)) 0 (.int .i64 0) rfl) (p := ⟨w.heap.size + 1 + 1, 0, none⟩) n12 (.int .i64 0)
  have k2 := blk_put (blk_far (blk_far (blk_far (blk_far g2 (p := ⟨w.heap.size, 0, none⟩) n20 (.bool tg.closing)) (p := ⟨w.heap.size, 1, none⟩) n20 (.string tg.name)) (p := ⟨w.heap.size, 2, none⟩) n20 (.slice Ak tg.keys.length ck)) (p := ⟨w.heap.size + 1, 0, none⟩) n21 (.int .i64 0)) 0 (.int .i64 0) rfl
  have hR1 := Kd.R_set (Kd.R_lower HRk.out hsz) g0 (by decide) 0 (.bool tg.closing)
  have hR2 := Kd.R_set hR1 (blk_put g0 0 (.bool tg.closing) rfl) (by decide) 1 (.string tg.name)
  have hR3 := Kd.R_set hR2 (blk_put (blk_put g0 0 (.bool tg.closing) rfl) 1 (.string tg.name) rfl) (by decide) 2 (.slice Ak tg.keys.length ck)
  have hR4 := Kd.R_set hR3 (blk_far (blk_far (blk_far g1 (p := ⟨w.heap.size, 0, none⟩) n10 (.bool tg.closing)) (p := ⟨w.heap.size, 1, none⟩) n10 (.string tg.name)) (p := ⟨w.heap.size, 2, none⟩) n10 (.slice Ak tg.keys.length ck)) (by decide) 0 (.int .i64 0)
  have hR5 := Kd.R_set hR4 (blk_far (blk_far (blk_far (blk_far g2 (p := ⟨w.heap.size, 0, none⟩) n20 (.bool tg.closing)) (p := ⟨w.heap.size, 1, none⟩) n20 (.string tg.name)) (p := ⟨w.heap.size, 2, none⟩) n20 (.slice Ak tg.keys.length ck)) (p := ⟨w.heap.size + 1, 0, none⟩) n21 (.int .i64 0)) (by decide) 0 (.int .i64 0)
  have hb5 := (((((HB0.out.grown HG1.out hsz (fun k hk => by injection hk with hk; omega)).setCell (Nat.le_refl _) (.bool tg.closing) (p := ⟨w.heap.size, 0, none⟩)).setCell (Nat.le_refl _) (.string tg.name) (p := ⟨w.heap.size, 1, none⟩)).setCell (Nat.le_refl _) (.slice Ak tg.keys.length ck) (p := ⟨w.heap.size, 2, none⟩)).setCell (show w.heap.size ≤ w.heap.size + 1 by omega) (.int .i64 0) (p := ⟨w.heap.size + 1, 0, none⟩)).setCell (show w.heap.size ≤ w.heap.size + 1 + 1 by omega) (.int .i64 0) (p := ⟨w.heap.size + 1 + 1, 0, none⟩)
  refine ⟨.tuple #[.agg #[.bool tg.closing, .string tg.name, .slice Ak tg.keys.length ck], .int .i64 0, .int .i64 0], ?_, _, rfl, Kd.R_below hR5 eb, hb5.trans (eb.mono hb5.size)⟩
  exact results_c11 rfl _ _ w.heap.size (w.heap.size + 1) (w.heap.size + 1 + 1) _ _ _ _ _ _ _ _ _ _ _ _ rfl (blk_below k0 eb) Tryd.underlying68 rfl (by kernel_rfl) rfl (blk_below k1 eb) Tryd.underlying3 rfl rfl (blk_below k2 eb) Tryd.underlying33 rfl
theorem parseTag_any (s : ByteArray) (hs : s.size ≤ 1099511627776) (w : World) :
    Calls Tryd.prog 25 #[.string s] w fun e w' => Below w.heap.size w w' ∧ match tagR s 0 with
      | .ok tg _ => ∃ vk, e = .returned (.tuple #[.agg #[.bool tg.closing, .string tg.name, vk], .int .i64 0, .int .i64 0]) ∧ Kd.R k88 88 w' w.heap.size (fun _ => True) vk tg.keys
      | .bad q c => e = .returned (.tuple #[.agg #[.bool false, .string ⟨#[]⟩, .slice none 0 0], .int .i64 q, .int .i64 c]) := by
  cases h : tagR s 0 with
  | ok tg p =>
    refine (parseTag_ok s hs w tg p h).mono ?_
    rintro e w' ⟨vk, he, hr, hb⟩
    exact ⟨hb, vk, he, hr⟩
  | bad q c =>
    refine (parseTag_bad s hs w q c h).mono ?_
    rintro e w' ⟨he, hb⟩
    exact ⟨hb, he⟩
end Go.Proofs.YtebajpebongabaaDoor.V
