/- The reader's method that reads a line. Condition: the reader's block and rows stand as RS says; the line has at most 2^20 bytes. -/
import Derived.WalkKit
import Derived.WalkLawsBesides
import Derived.WalkSpells
import Derived.Deep.QuietTactic
import Derived.BigQuiet
import Derived.BigCall
import Derived.IntWalk
import Derived.Lib.Hide
import Derived.Test.YtebajpebongabaaDoorR3
import Derived.Test.YtebajpebongabaaDoorR4
import Derived.Test.YtebajpebongabaaDoorPt
import Derived.Test.YtebajpebongabaaDoorEs
namespace Go.Proofs.YtebajpebongabaaDoor.V
open Go.RowKit Go.Proofs.YtebajpebongabaaDoorW.PrintWords Go.Proofs.YtebajpebongabaaDoorW.PrintMore Go.Proofs.YtebajpebongabaaDoor.P Go.Proofs.YtebajpebongabaaDoor.X
set_option linter.unusedVariables false
set_option linter.unusedSimpArgs false

/-! ### a fault is no 0; a tag has at most eight keys -/
theorem eatR_bad {s : ByteArray} {p c : Nat} {q e : Int} (h : eatR s p c = .bad q e) : e ≠ 0 := by
  unfold eatR at h
  split at h
  · cases h
  · injection h with _ h; omega
theorem nameR_bad {s : ByteArray} {p : Nat} {q e : Int} (h : nameR s p = .bad q e) : e ≠ 0 := by
  unfold nameR at h
  split at h
  · split at h
    · injection h with _ h; omega
    · cases h
  · injection h with _ h; omega
theorem valR_bad {s : ByteArray} {p : Nat} {q e : Int} (h : valR s p = .bad q e) : e ≠ 0 := by
  unfold valR at h
  split at h
  · rename_i h1
    injection h with _ h
    subst h
    exact eatR_bad h1
  · split at h
    · rename_i h1
      injection h with _ h
      subst h
      exact h1
    · split at h
      · rename_i h1
        injection h with _ h
        subst h
        exact h1
      · cases h
theorem keyR_bad {s : ByteArray} {p : Nat} {l : List S88} {q e : Int} (h : keyR s p l = .bad q e) : e ≠ 0 := by
  unfold keyR at h
  split at h
  · rename_i h1
    injection h with _ h
    subst h
    exact nameR_bad h1
  · split at h
    · injection h with _ h; omega
    · split at h
      · injection h with _ h; omega
      · split at h
        · rename_i h1
          injection h with _ h
          subst h
          exact eatR_bad h1
        · split at h
          · rename_i h1
            injection h with _ h
            subst h
            exact eatR_bad h1
          · split at h
            · rename_i h1
              injection h with _ h
              subst h
              exact valR_bad h1
            · cases h
theorem attrsR_bad {s : ByteArray} : ∀ (b p : Nat) (l : List S88) (q e : Int), attrsR s b p l = .bad q e → e ≠ 0
  | 0, p, l, q, e, h => by cases h
  | b + 1, p, l, q, e, h => by
    rw [attrsR_succ] at h
    split at h
    · split at h
      · rename_i h1
        injection h with _ h
        subst h
        exact keyR_bad h1
      · exact attrsR_bad b _ _ _ _ h
    · cases h
theorem attrsR_len {s : ByteArray} : ∀ (b p : Nat) (l l' : List S88) (q : Nat), l.length ≤ 8 → attrsR s b p l = .ok l' q → l'.length ≤ 8
  | 0, p, l, l', q, hl, h => by injection h with h; subst h; exact hl
  | b + 1, p, l, l', q, hl, h => by
    rw [attrsR_succ] at h
    split at h
    · split at h
      · cases h
      · rename_i h1
        have := (keyR_le h1).2.2
        exact attrsR_len b _ _ _ _ (by rw [List.length_append, List.length_singleton]; omega) h
    · injection h with h; subst h; exact hl
theorem tagR_bad {s : ByteArray} {p : Nat} {q e : Int} (h : tagR s p = .bad q e) : e ≠ 0 := by
  unfold tagR at h
  split at h
  · rename_i h1
    injection h with _ h
    subst h
    exact eatR_bad h1
  · split at h
    · rename_i h1
      injection h with _ h
      subst h
      exact nameR_bad h1
    · unfold tagEnd at h
      split at h
      · rename_i h1
        injection h with _ h
        subst h
        split at h1
        · cases h1
        · exact attrsR_bad _ _ _ _ _ h1
      · split at h
        · rename_i h1
          injection h with _ h
          subst h
          exact eatR_bad h1
        · split at h
          · injection h with _ h; omega
          · cases h
theorem tagR_keys {s : ByteArray} {p q : Nat} {tg : Tg} (h : tagR s p = .ok tg q) : tg.keys.length ≤ 8 := by
  unfold tagR at h
  split at h
  · cases h
  · split at h
    · cases h
    · unfold tagEnd at h
      split at h
      · cases h
      · rename_i h1
        split at h
        · cases h
        · split at h
          · cases h
          · injection h with h
            subst h
            show (sortP _).length ≤ 8
            unfold sortP
            rw [sortL_length]
            split at h1
            · injection h1 with h1
              subst h1
              exact Nat.zero_le _
            · exact attrsR_len _ _ _ _ _ (Nat.zero_le _) h1

/-! ### line -/
theorem run_store_func_own {P : Program} (w : World) (a : Addr) (fn : Fn) (u v : Array Value) (m : Mode) : (store a (.func fn u v) m).run P w = stored P w a (.func fn u v) m := run_store P w a _ m rfl
attribute [local go_sem] run_store_func_own
def kindB (tg : Tg) : Bool := tg.name.toList == [116, 101, 120, 116]
def tagE (s : St) (tg : Tg) : Int := match tg.closing, kindB tg with
  | false, false => beginRegionE s
  | true, false => endRegionE s tg
  | false, true => beginTextE s tg
  | true, true => endTextE s
def tagS (s : St) (tg : Tg) : St := match tg.closing, kindB tg with
  | false, false => beginRegionS s tg
  | true, false => endRegionS s tg
  | false, true => beginTextS s tg
  | true, true => endTextS s
def lineT (s : St) : Sr Tg → (Int × Int) × St
  | .bad q c => ((q, c), s)
  | .ok tg _ => ((0, tagE s tg), tagS s tg)
def lineR (s : St) (line : ByteArray) : (Int × Int) × St := if preB line ⟨#[60]⟩ = true then lineT s (tagR line 0) else (tokenE s line, tokenS s line)

def tagFn : Bool → Bool → Nat
  | false, false => 26
  | true, false => 27
  | false, true => 28
  | true, true => 29
theorem tag_any (w : World) (base G : Nat) (s : St) (tg : Tg) (vk : Value) (hbase : base ≤ w.heap.size) (hS : RS w base G s) (hK : Kd.R k88 88 w base (fun _ => True) vk tg.keys) (hkl : tg.keys.length ≤ 8) :
    Calls Tryd.prog (tagFn tg.closing (kindB tg)) #[.pointer (some ⟨G, 0, none⟩), .agg #[.bool tg.closing, .string tg.name, vk]] w (MPost w base G (tagE s tg) (tagS s tg)) := by
  unfold tagE tagS
  cases hcl : tg.closing <;> cases hnm : kindB tg
  · have := beginRegion_r w base G s tg vk hbase hS hK
    rw [hcl] at this
    exact this
  · have := beginText_r w base G s tg vk hbase hS hK (by omega)
    rw [hcl] at this
    exact this
  · have := endRegion_r w base G s tg vk hbase hS hK
    rw [hcl] at this
    exact this
  · have := endText_r w base G s tg vk hbase hS hK
    rw [hcl] at this
    exact this

set_option maxHeartbeats 8000000 in
set_option maxRecDepth 100000 in
theorem line_r (w : World) (base G : Nat) (s : St) (line : ByteArray) (hbase : base ≤ w.heap.size) (hs : line.size ≤ 1048576) (hS : RS w base G s) :
    Calls Tryd.prog 12 #[.pointer (some ⟨G, 0, none⟩), .string line] w (FPost w base G (lineR s line).1 (lineR s line).2) := by
  cases hp : preB line ⟨#[60]⟩ with
  | false =>
    have hL : lineR s line = (tokenE s line, tokenS s line) := by unfold lineR; rw [if_neg (by rw [hp]; decide)]
    rw [hL]
    have HPp := Lib.hid hp
    have HS := Lib.hid hS
    clear hp hL hS
    go_enter Tryd.func12, Tryd.ntmps12
    go_wp2_with (first | (go_at_call 24; refine (token_r _ base G s line (below_size (pw_below_drewN (below_alloc (Below.refl _ _) _) _) |> Nat.le_trans hbase) hs (RS.below HS.out (pw_below_drewN (below_alloc (Below.refl _ _) _) _))).mono ?_; rintro e w2 ⟨rfl, hfr, hrs⟩; have hF := hfr.blk (blk_drewN (blk_new w faObj) _) (by decide); have v0 : w2.cell? ⟨w.heap.size, 0, none⟩ = some (.int .i64 0) := blk_cell hF 0; have v1 : w2.cell? ⟨w.heap.size, 1, none⟩ = some (.int .i64 0) := blk_cell hF 1; have fv0 := blk_frozen hF 0; have fv1 := blk_frozen hF 1; have HF := Lib.hid hF; have HFR := Lib.hid hfr; have HRS := Lib.hid hrs; clear hF hfr hrs) | (go_at_call 23; refine (prefix_q _ _ _).mono ?_; rw [HPp.out]; rintro e w1 ⟨rfl, m, rfl⟩))
    refine bodyPost_ret (results_cell_row rfl _ _ w.heap.size 48 #[.int .i64 (tokenE s line).1, .int .i64 (tokenE s line).2] (0, 0) _ rfl (blk_put (blk_put HF.out 0 _ rfl) 1 _ rfl) Tryd.underlying48 rfl (by kernel_rfl)) rfl ?_
    exact ⟨rfl, Fr.fresh ((Fr.of_below (pw_below_drewN (below_alloc (Below.refl _ _) _) _) hbase).trans HFR.out) (Nat.le_refl _) hbase _ _, fun h => RS.side (HRS.out h) HF.out _ _⟩
  | true =>
    have HPp := Lib.hid hp
    have HS := Lib.hid hS
    have hs40 : line.size ≤ 1099511627776 := by omega
    cases hT : tagR line 0 with
    | bad q c =>
      have hL : lineR s line = ((q, c), s) := by unfold lineR; rw [if_pos hp, hT]; rfl
      rw [hL]
      have hcb : (c != 0) = true := bne_iff_ne.2 (tagR_bad hT)
      have HT := Lib.hid hT
      clear hp hL hS hT
      go_enter Tryd.func12, Tryd.ntmps12
      go_wp2_with (first | (go_at_call 25; refine (parseTag_bad line hs40 _ q c HT.out).mono ?_; rintro e w2 ⟨rfl, hb2⟩; have hF := blk_below (blk_drewN (blk_new w faObj) _) hb2; have hFl := blk_lt hF; have hFn : ¬ w.heap.size = w2.heap.size := (by omega); have hFn' : ¬ w2.heap.size = w.heap.size := (by omega); have v0 : w2.cell? ⟨w.heap.size, 0, none⟩ = some (.int .i64 0) := blk_cell hF 0; have v1 : w2.cell? ⟨w.heap.size, 1, none⟩ = some (.int .i64 0) := blk_cell hF 1; have fv0 := blk_frozen hF 0; have fv1 := blk_frozen hF 1; have HF := Lib.hid hF; have HB2 := Lib.hid hb2; clear hF hb2) | (go_at_call 23; refine (prefix_q _ _ _).mono ?_; rw [HPp.out]; rintro e w1 ⟨rfl, m, rfl⟩))
      refine bodyPost_ret (results_cell_row rfl _ _ w.heap.size 48 #[.int .i64 q, .int .i64 c] (0, 0) _ rfl (blk_alloc (blk_put (blk_put HF.out 0 _ rfl) 1 _ rfl) _) Tryd.underlying48 rfl (by kernel_rfl)) rfl ?_
      refine ⟨rfl, Fr.of_below (below_alloc ((((pw_below_drewN (below_alloc (Below.refl _ _) _) _).trans (HB2.out.mono (by simp))).setCell (Nat.le_refl _) _).setCell (Nat.le_refl _) _) _) hbase, fun h => ?_⟩
      exact absurd h (bne_iff_ne.1 hcb)
    | ok tg p =>
      have hL : lineR s line = ((0, tagE s tg), tagS s tg) := by unfold lineR; rw [if_pos hp, hT]; rfl
      rw [hL]
      have hkeys := tagR_keys hT
      have HT := Lib.hid hT
      clear hp hL hS hT
      have hu68 := Tryd.underlying68
      have hu73 := Tryd.underlying73
      cases hcl : tg.closing <;> cases hnm : kindB tg
      · have hn2 := hnm
        unfold kindB at hn2
        go_enter Tryd.func12, Tryd.ntmps12
        go_wp2_with (first | (go_at_call 25; refine (parseTag_ok line hs40 _ tg p HT.out).mono ?_; rintro e w2 ⟨vk, rfl, hK, hb2⟩; rw [hcl]; obtain ⟨Ak, ck, rfl⟩ := Kd.R_slice hK; have hF := blk_below (blk_drewN (blk_new w faObj) _) hb2; have hFl := blk_lt hF; have hFn : ¬ w.heap.size = w2.heap.size := (by omega); have hFn' : ¬ w2.heap.size = w.heap.size := (by omega); have HF := Lib.hid hF; have HB2 := Lib.hid hb2; have HK := Lib.hid hK; clear hF hb2 hK) | (go_at_call 23; refine (prefix_q _ _ _).mono ?_; rw [HPp.out]; rintro e w1 ⟨rfl, m, rfl⟩))
        generalize hW3 : (w2.alloc _).alloc _ = W3
        have hbA : Below w2.heap.size w2 W3 := by rw [← hW3]; exact below_alloc (below_alloc (Below.refl _ _) _) _
        have hF3 : W3.heap[w.heap.size]? = some faObj := blk_below HF.out hbA
        have hT5 : W3.heap[w2.heap.size]? = some (tgObj false tg.name (.slice Ak tg.keys.length ck)) := by rw [← hW3]; exact blk_alloc (blk_new w2 _) _
        have hT8 : W3.heap[w2.heap.size + 1]? = some (.cells #[.func (.func 26) #[] #[], .func (.func 27) #[] #[], .func (.func 28) #[] #[], .func (.func 29) #[] #[]] 73 (0, 0)) := by
          rw [← hW3]
          exact (by simp : (w2.alloc _).heap.size = w2.heap.size + 1) ▸ blk_new (w2.alloc _) _
        have hbB : Below w.heap.size w W3.drew := below_drew (((pw_below_drewN (below_alloc (Below.refl _ _) _) _).trans (HB2.out.mono (by simp))).trans (hbA.mono (by omega)))
        have C := tag_any W3.drew base G s tg (.slice Ak tg.keys.length ck) (Nat.le_trans hbase hbB.size) (RS.below HS.out hbB) (Kd.R_lower (Kd.R_drew (Kd.R_below HK.out hbA)) (by simp; omega)) hkeys
        rw [hcl, hnm] at C
        have a0 : W3.cell? ⟨w2.heap.size, 0, none⟩ = some (.bool false) := blk_cell hT5 0
        have a1 : W3.cell? ⟨w2.heap.size, 1, none⟩ = some (.string tg.name) := blk_cell hT5 1
        have a2 : W3.cell? ⟨w2.heap.size, 2, none⟩ = some (.slice Ak tg.keys.length ck) := blk_cell hT5 2
        have b0 : W3.cell? ⟨w2.heap.size + 1, 0, none⟩ = some (.func (.func 26) #[] #[]) := blk_cell hT8 0
        have b1 : W3.cell? ⟨w2.heap.size + 1, 1, none⟩ = some (.func (.func 27) #[] #[]) := blk_cell hT8 1
        have b2 : W3.cell? ⟨w2.heap.size + 1, 2, none⟩ = some (.func (.func 28) #[] #[]) := blk_cell hT8 2
        have b3 : W3.cell? ⟨w2.heap.size + 1, 3, none⟩ = some (.func (.func 29) #[] #[]) := blk_cell hT8 3
        have bI := b0
        have HC := Lib.hid C
        clear b0 b1 b2 b3
        have HF3 := Lib.hid hF3
        have HT5 := Lib.hid hT5
        have HT8 := Lib.hid hT8
        have HBB := Lib.hid hbB
        clear hW3 hbA hF3 hT5 hT8 hbB C hn2
        refine K_begin 7 (fun w' => w'.cell? ⟨w2.heap.size, 0, none⟩ = some (.bool false) ∧ w'.cell? ⟨w2.heap.size, 1, none⟩ = some (.string tg.name) ∧ w'.cell? ⟨w2.heap.size, 2, none⟩ = some (.slice Ak tg.keys.length ck) ∧ w'.cell? ⟨w2.heap.size + 1, 0, none⟩ = some (.func (.func 26) #[] #[])) (by kernel_rfl) ?hSk263 (fun hHeld => ?restk263)
        case hSk263 => (first | exact ⟨a0, a1, a2, bI⟩ | go_keep)
        case' restk263 => skip
        refine K_take (i := 0) (v := ?vk266) rfl (by kernel_rfl) (fun _ _ _ h => h) (Or.inl ⟨by rfl, ?hyk266⟩) (by assumption) ?restk266
        case hyk266 => ((intro w hSw; (try dsimp only at hSw); go_simp); try (with_reducible rfl))
        case' restk266 => try simp only [Act.put, List.setIfInBounds_toArray, List.set_cons_zero, List.set_cons_succ]
        refine K_take (i := 1) (v := ?vk269) rfl (by kernel_rfl) (fun _ _ _ h => h) (Or.inl ⟨by rfl, ?hyk269⟩) (by assumption) ?restk269
        case hyk269 => ((intro w hSw; (try dsimp only at hSw); go_simp); try (with_reducible rfl))
        case' restk269 => try simp only [Act.put, List.setIfInBounds_toArray, List.set_cons_zero, List.set_cons_succ]
        refine K_take (i := 2) (v := ?vk272) rfl (by kernel_rfl) (fun _ _ _ h => h) (Or.inl ⟨by rfl, ?hyk272⟩) (by assumption) ?restk272
        case hyk272 => ((intro w hSw; (try dsimp only at hSw); go_simp); try (with_reducible rfl))
        case' restk272 => try simp only [Act.put, List.setIfInBounds_toArray, List.set_cons_zero, List.set_cons_succ]
        refine K_take (i := 3) (v := ?vk275) rfl (by kernel_rfl) (fun _ _ _ h => h) (Or.inl ⟨by rfl, ?hyk275⟩) (by assumption) ?restk275
        case hyk275 => ((intro w hSw; (try dsimp only at hSw); go_simp); try (with_reducible rfl))
        case' restk275 => try simp only [Act.put, List.setIfInBounds_toArray, List.set_cons_zero, List.set_cons_succ]
        refine K_take (i := 4) (v := ?vk278) rfl (by kernel_rfl) (fun _ _ _ h => h) (Or.inl ⟨by rfl, ?hyk278⟩) (by assumption) ?restk278
        case hyk278 => ((intro w hSw; (try dsimp only at hSw); go_simp); try (with_reducible rfl))
        case' restk278 => try simp only [Act.put, List.setIfInBounds_toArray, List.set_cons_zero, List.set_cons_succ]
        refine K_one (i := 5) rfl (by kernel_rfl) (by decide) (fun K hK => ?_)
        ((go_simp; refine HC.out.mono ?_; rintro e w3 ⟨rfl, hfr, hrs⟩; have hF4 := hfr.blk (blk_drew HF3.out) (by decide); have hT5 := hfr.blk (blk_drew HT5.out) (by decide); have hT8 := hfr.blk (blk_drew HT8.out) (by decide); have v0 : w3.cell? ⟨w.heap.size, 0, none⟩ = some (.int .i64 0) := blk_cell hF4 0; have v1 : w3.cell? ⟨w.heap.size, 1, none⟩ = some (.int .i64 0) := blk_cell hF4 1; have fv0 := blk_frozen hF4 0; have fv1 := blk_frozen hF4 1; have a0 : w3.cell? ⟨w2.heap.size, 0, none⟩ = some (.bool false) := blk_cell hT5 0; have a1 : w3.cell? ⟨w2.heap.size, 1, none⟩ = some (.string tg.name) := blk_cell hT5 1; have a2 : w3.cell? ⟨w2.heap.size, 2, none⟩ = some (.slice Ak tg.keys.length ck) := blk_cell hT5 2; have bI : w3.cell? ⟨w2.heap.size + 1, 0, none⟩ = some (.func (.func 26) #[] #[]) := blk_cell hT8 0; have HF4 := Lib.hid hF4; have HFR := Lib.hid hfr; have HRS := Lib.hid hrs; clear hF4 hT5 hT8 hfr hrs))
        refine hK.out _ _ ?hSk281 (fun hHeld => ?restk281)
        case hSk281 => ((try dsimp only); (first | exact ⟨a0, a1, a2, bI⟩ | go_keep))
        case' restk281 => skip
        clear hK K
        try simp only [Act.put, List.setIfInBounds_toArray, List.set_cons_zero, List.set_cons_succ]
        refine K_take (i := 6) (v := ?vk288) rfl (by kernel_rfl) (fun _ _ _ h => h) (Or.inl ⟨by rfl, ?hyk288⟩) (by assumption) ?restk288
        case hyk288 => ((intro w hSw; (try dsimp only at hSw); go_simp); try (with_reducible rfl))
        case' restk288 => try simp only [Act.put, List.setIfInBounds_toArray, List.set_cons_zero, List.set_cons_succ]
        refine K_tail (i := 7) rfl (by kernel_rfl) (by decide) (fun K hK => ?_)
        go_simp
        refine hK.out _ _ ?_
        clear hK K
        try simp only [Act.put, List.setIfInBounds_toArray, List.set_cons_zero, List.set_cons_succ]
        refine K_done (by kernel_rfl) ?_ _
        go_wp2
        refine bodyPost_ret (results_cell_row rfl _ _ w.heap.size 48 #[.int .i64 0, .int .i64 (tagE s tg)] (0, 0) _ rfl (blk_put (blk_put HF4.out 0 _ rfl) 1 _ rfl) Tryd.underlying48 rfl (by kernel_rfl)) rfl ?_
        exact ⟨rfl, Fr.fresh ((Fr.of_below HBB.out hbase).trans HFR.out) (Nat.le_refl _) hbase _ _, fun h => RS.side (HRS.out h) HF4.out _ _⟩
      · have hn2 := hnm
        unfold kindB at hn2
        go_enter Tryd.func12, Tryd.ntmps12
        go_wp2_with (first | (go_at_call 25; refine (parseTag_ok line hs40 _ tg p HT.out).mono ?_; rintro e w2 ⟨vk, rfl, hK, hb2⟩; rw [hcl]; obtain ⟨Ak, ck, rfl⟩ := Kd.R_slice hK; have hF := blk_below (blk_drewN (blk_new w faObj) _) hb2; have hFl := blk_lt hF; have hFn : ¬ w.heap.size = w2.heap.size := (by omega); have hFn' : ¬ w2.heap.size = w.heap.size := (by omega); have HF := Lib.hid hF; have HB2 := Lib.hid hb2; have HK := Lib.hid hK; clear hF hb2 hK) | (go_at_call 23; refine (prefix_q _ _ _).mono ?_; rw [HPp.out]; rintro e w1 ⟨rfl, m, rfl⟩))
        generalize hW3 : (w2.alloc _).alloc _ = W3
        have hbA : Below w2.heap.size w2 W3 := by rw [← hW3]; exact below_alloc (below_alloc (Below.refl _ _) _) _
        have hF3 : W3.heap[w.heap.size]? = some faObj := blk_below HF.out hbA
        have hT5 : W3.heap[w2.heap.size]? = some (tgObj false tg.name (.slice Ak tg.keys.length ck)) := by rw [← hW3]; exact blk_alloc (blk_new w2 _) _
        have hT8 : W3.heap[w2.heap.size + 1]? = some (.cells #[.func (.func 26) #[] #[], .func (.func 27) #[] #[], .func (.func 28) #[] #[], .func (.func 29) #[] #[]] 73 (0, 0)) := by
          rw [← hW3]
          exact (by simp : (w2.alloc _).heap.size = w2.heap.size + 1) ▸ blk_new (w2.alloc _) _
        have hbB : Below w.heap.size w W3.drew := below_drew (((pw_below_drewN (below_alloc (Below.refl _ _) _) _).trans (HB2.out.mono (by simp))).trans (hbA.mono (by omega)))
        have C := tag_any W3.drew base G s tg (.slice Ak tg.keys.length ck) (Nat.le_trans hbase hbB.size) (RS.below HS.out hbB) (Kd.R_lower (Kd.R_drew (Kd.R_below HK.out hbA)) (by simp; omega)) hkeys
        rw [hcl, hnm] at C
        have a0 : W3.cell? ⟨w2.heap.size, 0, none⟩ = some (.bool false) := blk_cell hT5 0
        have a1 : W3.cell? ⟨w2.heap.size, 1, none⟩ = some (.string tg.name) := blk_cell hT5 1
        have a2 : W3.cell? ⟨w2.heap.size, 2, none⟩ = some (.slice Ak tg.keys.length ck) := blk_cell hT5 2
        have b0 : W3.cell? ⟨w2.heap.size + 1, 0, none⟩ = some (.func (.func 26) #[] #[]) := blk_cell hT8 0
        have b1 : W3.cell? ⟨w2.heap.size + 1, 1, none⟩ = some (.func (.func 27) #[] #[]) := blk_cell hT8 1
        have b2 : W3.cell? ⟨w2.heap.size + 1, 2, none⟩ = some (.func (.func 28) #[] #[]) := blk_cell hT8 2
        have b3 : W3.cell? ⟨w2.heap.size + 1, 3, none⟩ = some (.func (.func 29) #[] #[]) := blk_cell hT8 3
        have bI := b2
        have HC := Lib.hid C
        clear b0 b1 b2 b3
        have HF3 := Lib.hid hF3
        have HT5 := Lib.hid hT5
        have HT8 := Lib.hid hT8
        have HBB := Lib.hid hbB
        clear hW3 hbA hF3 hT5 hT8 hbB C hn2
        refine K_begin 7 (fun w' => w'.cell? ⟨w2.heap.size, 0, none⟩ = some (.bool false) ∧ w'.cell? ⟨w2.heap.size, 1, none⟩ = some (.string tg.name) ∧ w'.cell? ⟨w2.heap.size, 2, none⟩ = some (.slice Ak tg.keys.length ck) ∧ w'.cell? ⟨w2.heap.size + 1, 2, none⟩ = some (.func (.func 28) #[] #[])) (by kernel_rfl) ?hSk329 (fun hHeld => ?restk329)
        case hSk329 => (first | exact ⟨a0, a1, a2, bI⟩ | go_keep)
        case' restk329 => skip
        refine K_take (i := 0) (v := ?vk332) rfl (by kernel_rfl) (fun _ _ _ h => h) (Or.inl ⟨by rfl, ?hyk332⟩) (by assumption) ?restk332
        case hyk332 => ((intro w hSw; (try dsimp only at hSw); go_simp); try (with_reducible rfl))
        case' restk332 => try simp only [Act.put, List.setIfInBounds_toArray, List.set_cons_zero, List.set_cons_succ]
        refine K_take (i := 1) (v := ?vk335) rfl (by kernel_rfl) (fun _ _ _ h => h) (Or.inl ⟨by rfl, ?hyk335⟩) (by assumption) ?restk335
        case hyk335 => ((intro w hSw; (try dsimp only at hSw); go_simp); try (with_reducible rfl))
        case' restk335 => try simp only [Act.put, List.setIfInBounds_toArray, List.set_cons_zero, List.set_cons_succ]
        refine K_take (i := 2) (v := ?vk338) rfl (by kernel_rfl) (fun _ _ _ h => h) (Or.inl ⟨by rfl, ?hyk338⟩) (by assumption) ?restk338
        case hyk338 => ((intro w hSw; (try dsimp only at hSw); go_simp); try (with_reducible rfl))
        case' restk338 => try simp only [Act.put, List.setIfInBounds_toArray, List.set_cons_zero, List.set_cons_succ]
        refine K_take (i := 3) (v := ?vk341) rfl (by kernel_rfl) (fun _ _ _ h => h) (Or.inl ⟨by rfl, ?hyk341⟩) (by assumption) ?restk341
        case hyk341 => ((intro w hSw; (try dsimp only at hSw); go_simp); try (with_reducible rfl))
        case' restk341 => try simp only [Act.put, List.setIfInBounds_toArray, List.set_cons_zero, List.set_cons_succ]
        refine K_take (i := 4) (v := ?vk344) rfl (by kernel_rfl) (fun _ _ _ h => h) (Or.inl ⟨by rfl, ?hyk344⟩) (by assumption) ?restk344
        case hyk344 => ((intro w hSw; (try dsimp only at hSw); go_simp); try (with_reducible rfl))
        case' restk344 => try simp only [Act.put, List.setIfInBounds_toArray, List.set_cons_zero, List.set_cons_succ]
        refine K_one (i := 5) rfl (by kernel_rfl) (by decide) (fun K hK => ?_)
        ((go_simp; refine HC.out.mono ?_; rintro e w3 ⟨rfl, hfr, hrs⟩; have hF4 := hfr.blk (blk_drew HF3.out) (by decide); have hT5 := hfr.blk (blk_drew HT5.out) (by decide); have hT8 := hfr.blk (blk_drew HT8.out) (by decide); have v0 : w3.cell? ⟨w.heap.size, 0, none⟩ = some (.int .i64 0) := blk_cell hF4 0; have v1 : w3.cell? ⟨w.heap.size, 1, none⟩ = some (.int .i64 0) := blk_cell hF4 1; have fv0 := blk_frozen hF4 0; have fv1 := blk_frozen hF4 1; have a0 : w3.cell? ⟨w2.heap.size, 0, none⟩ = some (.bool false) := blk_cell hT5 0; have a1 : w3.cell? ⟨w2.heap.size, 1, none⟩ = some (.string tg.name) := blk_cell hT5 1; have a2 : w3.cell? ⟨w2.heap.size, 2, none⟩ = some (.slice Ak tg.keys.length ck) := blk_cell hT5 2; have bI : w3.cell? ⟨w2.heap.size + 1, 2, none⟩ = some (.func (.func 28) #[] #[]) := blk_cell hT8 2; have HF4 := Lib.hid hF4; have HFR := Lib.hid hfr; have HRS := Lib.hid hrs; clear hF4 hT5 hT8 hfr hrs))
        refine hK.out _ _ ?hSk347 (fun hHeld => ?restk347)
        case hSk347 => ((try dsimp only); (first | exact ⟨a0, a1, a2, bI⟩ | go_keep))
        case' restk347 => skip
        clear hK K
        try simp only [Act.put, List.setIfInBounds_toArray, List.set_cons_zero, List.set_cons_succ]
        refine K_take (i := 6) (v := ?vk354) rfl (by kernel_rfl) (fun _ _ _ h => h) (Or.inl ⟨by rfl, ?hyk354⟩) (by assumption) ?restk354
        case hyk354 => ((intro w hSw; (try dsimp only at hSw); go_simp); try (with_reducible rfl))
        case' restk354 => try simp only [Act.put, List.setIfInBounds_toArray, List.set_cons_zero, List.set_cons_succ]
        refine K_tail (i := 7) rfl (by kernel_rfl) (by decide) (fun K hK => ?_)
        go_simp
        refine hK.out _ _ ?_
        clear hK K
        try simp only [Act.put, List.setIfInBounds_toArray, List.set_cons_zero, List.set_cons_succ]
        refine K_done (by kernel_rfl) ?_ _
        go_wp2
        refine bodyPost_ret (results_cell_row rfl _ _ w.heap.size 48 #[.int .i64 0, .int .i64 (tagE s tg)] (0, 0) _ rfl (blk_put (blk_put HF4.out 0 _ rfl) 1 _ rfl) Tryd.underlying48 rfl (by kernel_rfl)) rfl ?_
        exact ⟨rfl, Fr.fresh ((Fr.of_below HBB.out hbase).trans HFR.out) (Nat.le_refl _) hbase _ _, fun h => RS.side (HRS.out h) HF4.out _ _⟩
      · have hn2 := hnm
        unfold kindB at hn2
        go_enter Tryd.func12, Tryd.ntmps12
        go_wp2_with (first | (go_at_call 25; refine (parseTag_ok line hs40 _ tg p HT.out).mono ?_; rintro e w2 ⟨vk, rfl, hK, hb2⟩; rw [hcl]; obtain ⟨Ak, ck, rfl⟩ := Kd.R_slice hK; have hF := blk_below (blk_drewN (blk_new w faObj) _) hb2; have hFl := blk_lt hF; have hFn : ¬ w.heap.size = w2.heap.size := (by omega); have hFn' : ¬ w2.heap.size = w.heap.size := (by omega); have HF := Lib.hid hF; have HB2 := Lib.hid hb2; have HK := Lib.hid hK; clear hF hb2 hK) | (go_at_call 23; refine (prefix_q _ _ _).mono ?_; rw [HPp.out]; rintro e w1 ⟨rfl, m, rfl⟩))
        generalize hW3 : (w2.alloc _).alloc _ = W3
        have hbA : Below w2.heap.size w2 W3 := by rw [← hW3]; exact below_alloc (below_alloc (Below.refl _ _) _) _
        have hF3 : W3.heap[w.heap.size]? = some faObj := blk_below HF.out hbA
        have hT5 : W3.heap[w2.heap.size]? = some (tgObj true tg.name (.slice Ak tg.keys.length ck)) := by rw [← hW3]; exact blk_alloc (blk_new w2 _) _
        have hT8 : W3.heap[w2.heap.size + 1]? = some (.cells #[.func (.func 26) #[] #[], .func (.func 27) #[] #[], .func (.func 28) #[] #[], .func (.func 29) #[] #[]] 73 (0, 0)) := by
          rw [← hW3]
          exact (by simp : (w2.alloc _).heap.size = w2.heap.size + 1) ▸ blk_new (w2.alloc _) _
        have hbB : Below w.heap.size w W3.drew := below_drew (((pw_below_drewN (below_alloc (Below.refl _ _) _) _).trans (HB2.out.mono (by simp))).trans (hbA.mono (by omega)))
        have C := tag_any W3.drew base G s tg (.slice Ak tg.keys.length ck) (Nat.le_trans hbase hbB.size) (RS.below HS.out hbB) (Kd.R_lower (Kd.R_drew (Kd.R_below HK.out hbA)) (by simp; omega)) hkeys
        rw [hcl, hnm] at C
        have a0 : W3.cell? ⟨w2.heap.size, 0, none⟩ = some (.bool true) := blk_cell hT5 0
        have a1 : W3.cell? ⟨w2.heap.size, 1, none⟩ = some (.string tg.name) := blk_cell hT5 1
        have a2 : W3.cell? ⟨w2.heap.size, 2, none⟩ = some (.slice Ak tg.keys.length ck) := blk_cell hT5 2
        have b0 : W3.cell? ⟨w2.heap.size + 1, 0, none⟩ = some (.func (.func 26) #[] #[]) := blk_cell hT8 0
        have b1 : W3.cell? ⟨w2.heap.size + 1, 1, none⟩ = some (.func (.func 27) #[] #[]) := blk_cell hT8 1
        have b2 : W3.cell? ⟨w2.heap.size + 1, 2, none⟩ = some (.func (.func 28) #[] #[]) := blk_cell hT8 2
        have b3 : W3.cell? ⟨w2.heap.size + 1, 3, none⟩ = some (.func (.func 29) #[] #[]) := blk_cell hT8 3
        have bI := b1
        have HC := Lib.hid C
        clear b0 b1 b2 b3
        have HF3 := Lib.hid hF3
        have HT5 := Lib.hid hT5
        have HT8 := Lib.hid hT8
        have HBB := Lib.hid hbB
        clear hW3 hbA hF3 hT5 hT8 hbB C hn2
        refine K_begin 7 (fun w' => w'.cell? ⟨w2.heap.size, 0, none⟩ = some (.bool true) ∧ w'.cell? ⟨w2.heap.size, 1, none⟩ = some (.string tg.name) ∧ w'.cell? ⟨w2.heap.size, 2, none⟩ = some (.slice Ak tg.keys.length ck) ∧ w'.cell? ⟨w2.heap.size + 1, 1, none⟩ = some (.func (.func 27) #[] #[])) (by kernel_rfl) ?hSk395 (fun hHeld => ?restk395)
        case hSk395 => (first | exact ⟨a0, a1, a2, bI⟩ | go_keep)
        case' restk395 => skip
        refine K_take (i := 0) (v := ?vk398) rfl (by kernel_rfl) (fun _ _ _ h => h) (Or.inl ⟨by rfl, ?hyk398⟩) (by assumption) ?restk398
        case hyk398 => ((intro w hSw; (try dsimp only at hSw); go_simp); try (with_reducible rfl))
        case' restk398 => try simp only [Act.put, List.setIfInBounds_toArray, List.set_cons_zero, List.set_cons_succ]
        refine K_take (i := 1) (v := ?vk401) rfl (by kernel_rfl) (fun _ _ _ h => h) (Or.inl ⟨by rfl, ?hyk401⟩) (by assumption) ?restk401
        case hyk401 => ((intro w hSw; (try dsimp only at hSw); go_simp); try (with_reducible rfl))
        case' restk401 => try simp only [Act.put, List.setIfInBounds_toArray, List.set_cons_zero, List.set_cons_succ]
        refine K_take (i := 2) (v := ?vk404) rfl (by kernel_rfl) (fun _ _ _ h => h) (Or.inl ⟨by rfl, ?hyk404⟩) (by assumption) ?restk404
        case hyk404 => ((intro w hSw; (try dsimp only at hSw); go_simp); try (with_reducible rfl))
        case' restk404 => try simp only [Act.put, List.setIfInBounds_toArray, List.set_cons_zero, List.set_cons_succ]
        refine K_take (i := 3) (v := ?vk407) rfl (by kernel_rfl) (fun _ _ _ h => h) (Or.inl ⟨by rfl, ?hyk407⟩) (by assumption) ?restk407
        case hyk407 => ((intro w hSw; (try dsimp only at hSw); go_simp); try (with_reducible rfl))
        case' restk407 => try simp only [Act.put, List.setIfInBounds_toArray, List.set_cons_zero, List.set_cons_succ]
        refine K_take (i := 4) (v := ?vk410) rfl (by kernel_rfl) (fun _ _ _ h => h) (Or.inl ⟨by rfl, ?hyk410⟩) (by assumption) ?restk410
        case hyk410 => ((intro w hSw; (try dsimp only at hSw); go_simp); try (with_reducible rfl))
        case' restk410 => try simp only [Act.put, List.setIfInBounds_toArray, List.set_cons_zero, List.set_cons_succ]
        refine K_one (i := 5) rfl (by kernel_rfl) (by decide) (fun K hK => ?_)
        ((go_simp; refine HC.out.mono ?_; rintro e w3 ⟨rfl, hfr, hrs⟩; have hF4 := hfr.blk (blk_drew HF3.out) (by decide); have hT5 := hfr.blk (blk_drew HT5.out) (by decide); have hT8 := hfr.blk (blk_drew HT8.out) (by decide); have v0 : w3.cell? ⟨w.heap.size, 0, none⟩ = some (.int .i64 0) := blk_cell hF4 0; have v1 : w3.cell? ⟨w.heap.size, 1, none⟩ = some (.int .i64 0) := blk_cell hF4 1; have fv0 := blk_frozen hF4 0; have fv1 := blk_frozen hF4 1; have a0 : w3.cell? ⟨w2.heap.size, 0, none⟩ = some (.bool true) := blk_cell hT5 0; have a1 : w3.cell? ⟨w2.heap.size, 1, none⟩ = some (.string tg.name) := blk_cell hT5 1; have a2 : w3.cell? ⟨w2.heap.size, 2, none⟩ = some (.slice Ak tg.keys.length ck) := blk_cell hT5 2; have bI : w3.cell? ⟨w2.heap.size + 1, 1, none⟩ = some (.func (.func 27) #[] #[]) := blk_cell hT8 1; have HF4 := Lib.hid hF4; have HFR := Lib.hid hfr; have HRS := Lib.hid hrs; clear hF4 hT5 hT8 hfr hrs))
        refine hK.out _ _ ?hSk413 (fun hHeld => ?restk413)
        case hSk413 => ((try dsimp only); (first | exact ⟨a0, a1, a2, bI⟩ | go_keep))
        case' restk413 => skip
        clear hK K
        try simp only [Act.put, List.setIfInBounds_toArray, List.set_cons_zero, List.set_cons_succ]
        refine K_take (i := 6) (v := ?vk420) rfl (by kernel_rfl) (fun _ _ _ h => h) (Or.inl ⟨by rfl, ?hyk420⟩) (by assumption) ?restk420
        case hyk420 => ((intro w hSw; (try dsimp only at hSw); go_simp); try (with_reducible rfl))
        case' restk420 => try simp only [Act.put, List.setIfInBounds_toArray, List.set_cons_zero, List.set_cons_succ]
        refine K_tail (i := 7) rfl (by kernel_rfl) (by decide) (fun K hK => ?_)
        go_simp
        refine hK.out _ _ ?_
        clear hK K
        try simp only [Act.put, List.setIfInBounds_toArray, List.set_cons_zero, List.set_cons_succ]
        refine K_done (by kernel_rfl) ?_ _
        go_wp2
        refine bodyPost_ret (results_cell_row rfl _ _ w.heap.size 48 #[.int .i64 0, .int .i64 (tagE s tg)] (0, 0) _ rfl (blk_put (blk_put HF4.out 0 _ rfl) 1 _ rfl) Tryd.underlying48 rfl (by kernel_rfl)) rfl ?_
        exact ⟨rfl, Fr.fresh ((Fr.of_below HBB.out hbase).trans HFR.out) (Nat.le_refl _) hbase _ _, fun h => RS.side (HRS.out h) HF4.out _ _⟩
      · have hn2 := hnm
        unfold kindB at hn2
        go_enter Tryd.func12, Tryd.ntmps12
        go_wp2_with (first | (go_at_call 25; refine (parseTag_ok line hs40 _ tg p HT.out).mono ?_; rintro e w2 ⟨vk, rfl, hK, hb2⟩; rw [hcl]; obtain ⟨Ak, ck, rfl⟩ := Kd.R_slice hK; have hF := blk_below (blk_drewN (blk_new w faObj) _) hb2; have hFl := blk_lt hF; have hFn : ¬ w.heap.size = w2.heap.size := (by omega); have hFn' : ¬ w2.heap.size = w.heap.size := (by omega); have HF := Lib.hid hF; have HB2 := Lib.hid hb2; have HK := Lib.hid hK; clear hF hb2 hK) | (go_at_call 23; refine (prefix_q _ _ _).mono ?_; rw [HPp.out]; rintro e w1 ⟨rfl, m, rfl⟩))
        generalize hW3 : (w2.alloc _).alloc _ = W3
        have hbA : Below w2.heap.size w2 W3 := by rw [← hW3]; exact below_alloc (below_alloc (Below.refl _ _) _) _
        have hF3 : W3.heap[w.heap.size]? = some faObj := blk_below HF.out hbA
        have hT5 : W3.heap[w2.heap.size]? = some (tgObj true tg.name (.slice Ak tg.keys.length ck)) := by rw [← hW3]; exact blk_alloc (blk_new w2 _) _
        have hT8 : W3.heap[w2.heap.size + 1]? = some (.cells #[.func (.func 26) #[] #[], .func (.func 27) #[] #[], .func (.func 28) #[] #[], .func (.func 29) #[] #[]] 73 (0, 0)) := by
          rw [← hW3]
          exact (by simp : (w2.alloc _).heap.size = w2.heap.size + 1) ▸ blk_new (w2.alloc _) _
        have hbB : Below w.heap.size w W3.drew := below_drew (((pw_below_drewN (below_alloc (Below.refl _ _) _) _).trans (HB2.out.mono (by simp))).trans (hbA.mono (by omega)))
        have C := tag_any W3.drew base G s tg (.slice Ak tg.keys.length ck) (Nat.le_trans hbase hbB.size) (RS.below HS.out hbB) (Kd.R_lower (Kd.R_drew (Kd.R_below HK.out hbA)) (by simp; omega)) hkeys
        rw [hcl, hnm] at C
        have a0 : W3.cell? ⟨w2.heap.size, 0, none⟩ = some (.bool true) := blk_cell hT5 0
        have a1 : W3.cell? ⟨w2.heap.size, 1, none⟩ = some (.string tg.name) := blk_cell hT5 1
        have a2 : W3.cell? ⟨w2.heap.size, 2, none⟩ = some (.slice Ak tg.keys.length ck) := blk_cell hT5 2
        have b0 : W3.cell? ⟨w2.heap.size + 1, 0, none⟩ = some (.func (.func 26) #[] #[]) := blk_cell hT8 0
        have b1 : W3.cell? ⟨w2.heap.size + 1, 1, none⟩ = some (.func (.func 27) #[] #[]) := blk_cell hT8 1
        have b2 : W3.cell? ⟨w2.heap.size + 1, 2, none⟩ = some (.func (.func 28) #[] #[]) := blk_cell hT8 2
        have b3 : W3.cell? ⟨w2.heap.size + 1, 3, none⟩ = some (.func (.func 29) #[] #[]) := blk_cell hT8 3
        have bI := b3
        have HC := Lib.hid C
        clear b0 b1 b2 b3
        have HF3 := Lib.hid hF3
        have HT5 := Lib.hid hT5
        have HT8 := Lib.hid hT8
        have HBB := Lib.hid hbB
        clear hW3 hbA hF3 hT5 hT8 hbB C hn2
        refine K_begin 7 (fun w' => w'.cell? ⟨w2.heap.size, 0, none⟩ = some (.bool true) ∧ w'.cell? ⟨w2.heap.size, 1, none⟩ = some (.string tg.name) ∧ w'.cell? ⟨w2.heap.size, 2, none⟩ = some (.slice Ak tg.keys.length ck) ∧ w'.cell? ⟨w2.heap.size + 1, 3, none⟩ = some (.func (.func 29) #[] #[])) (by kernel_rfl) ?hSk461 (fun hHeld => ?restk461)
        case hSk461 => (first | exact ⟨a0, a1, a2, bI⟩ | go_keep)
        case' restk461 => skip
        refine K_take (i := 0) (v := ?vk464) rfl (by kernel_rfl) (fun _ _ _ h => h) (Or.inl ⟨by rfl, ?hyk464⟩) (by assumption) ?restk464
        case hyk464 => ((intro w hSw; (try dsimp only at hSw); go_simp); try (with_reducible rfl))
        case' restk464 => try simp only [Act.put, List.setIfInBounds_toArray, List.set_cons_zero, List.set_cons_succ]
        refine K_take (i := 1) (v := ?vk467) rfl (by kernel_rfl) (fun _ _ _ h => h) (Or.inl ⟨by rfl, ?hyk467⟩) (by assumption) ?restk467
        case hyk467 => ((intro w hSw; (try dsimp only at hSw); go_simp); try (with_reducible rfl))
        case' restk467 => try simp only [Act.put, List.setIfInBounds_toArray, List.set_cons_zero, List.set_cons_succ]
        refine K_take (i := 2) (v := ?vk470) rfl (by kernel_rfl) (fun _ _ _ h => h) (Or.inl ⟨by rfl, ?hyk470⟩) (by assumption) ?restk470
        case hyk470 => ((intro w hSw; (try dsimp only at hSw); go_simp); try (with_reducible rfl))
        case' restk470 => try simp only [Act.put, List.setIfInBounds_toArray, List.set_cons_zero, List.set_cons_succ]
        refine K_take (i := 3) (v := ?vk473) rfl (by kernel_rfl) (fun _ _ _ h => h) (Or.inl ⟨by rfl, ?hyk473⟩) (by assumption) ?restk473
        case hyk473 => ((intro w hSw; (try dsimp only at hSw); go_simp); try (with_reducible rfl))
        case' restk473 => try simp only [Act.put, List.setIfInBounds_toArray, List.set_cons_zero, List.set_cons_succ]
        refine K_take (i := 4) (v := ?vk476) rfl (by kernel_rfl) (fun _ _ _ h => h) (Or.inl ⟨by rfl, ?hyk476⟩) (by assumption) ?restk476
        case hyk476 => ((intro w hSw; (try dsimp only at hSw); go_simp); try (with_reducible rfl))
        case' restk476 => try simp only [Act.put, List.setIfInBounds_toArray, List.set_cons_zero, List.set_cons_succ]
        refine K_one (i := 5) rfl (by kernel_rfl) (by decide) (fun K hK => ?_)
        ((go_simp; refine HC.out.mono ?_; rintro e w3 ⟨rfl, hfr, hrs⟩; have hF4 := hfr.blk (blk_drew HF3.out) (by decide); have hT5 := hfr.blk (blk_drew HT5.out) (by decide); have hT8 := hfr.blk (blk_drew HT8.out) (by decide); have v0 : w3.cell? ⟨w.heap.size, 0, none⟩ = some (.int .i64 0) := blk_cell hF4 0; have v1 : w3.cell? ⟨w.heap.size, 1, none⟩ = some (.int .i64 0) := blk_cell hF4 1; have fv0 := blk_frozen hF4 0; have fv1 := blk_frozen hF4 1; have a0 : w3.cell? ⟨w2.heap.size, 0, none⟩ = some (.bool true) := blk_cell hT5 0; have a1 : w3.cell? ⟨w2.heap.size, 1, none⟩ = some (.string tg.name) := blk_cell hT5 1; have a2 : w3.cell? ⟨w2.heap.size, 2, none⟩ = some (.slice Ak tg.keys.length ck) := blk_cell hT5 2; have bI : w3.cell? ⟨w2.heap.size + 1, 3, none⟩ = some (.func (.func 29) #[] #[]) := blk_cell hT8 3; have HF4 := Lib.hid hF4; have HFR := Lib.hid hfr; have HRS := Lib.hid hrs; clear hF4 hT5 hT8 hfr hrs))
        refine hK.out _ _ ?hSk479 (fun hHeld => ?restk479)
        case hSk479 => ((try dsimp only); (first | exact ⟨a0, a1, a2, bI⟩ | go_keep))
        case' restk479 => skip
        clear hK K
        try simp only [Act.put, List.setIfInBounds_toArray, List.set_cons_zero, List.set_cons_succ]
        refine K_take (i := 6) (v := ?vk486) rfl (by kernel_rfl) (fun _ _ _ h => h) (Or.inl ⟨by rfl, ?hyk486⟩) (by assumption) ?restk486
        case hyk486 => ((intro w hSw; (try dsimp only at hSw); go_simp); try (with_reducible rfl))
        case' restk486 => try simp only [Act.put, List.setIfInBounds_toArray, List.set_cons_zero, List.set_cons_succ]
        refine K_tail (i := 7) rfl (by kernel_rfl) (by decide) (fun K hK => ?_)
        go_simp
        refine hK.out _ _ ?_
        clear hK K
        try simp only [Act.put, List.setIfInBounds_toArray, List.set_cons_zero, List.set_cons_succ]
        refine K_done (by kernel_rfl) ?_ _
        go_wp2
        refine bodyPost_ret (results_cell_row rfl _ _ w.heap.size 48 #[.int .i64 0, .int .i64 (tagE s tg)] (0, 0) _ rfl (blk_put (blk_put HF4.out 0 _ rfl) 1 _ rfl) Tryd.underlying48 rfl (by kernel_rfl)) rfl ?_
        exact ⟨rfl, Fr.fresh ((Fr.of_below HBB.out hbase).trans HFR.out) (Nat.le_refl _) hbase _ _, fun h => RS.side (HRS.out h) HF4.out _ _⟩
end Go.Proofs.YtebajpebongabaaDoor.V
