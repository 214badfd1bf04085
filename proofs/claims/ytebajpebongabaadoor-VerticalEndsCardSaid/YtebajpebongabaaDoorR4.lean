/- The reader's method that reads a token's line. Condition: the reader's block and rows stand as RS says; the line has at most 2^20 bytes. -/
import Derived.WalkKit
import Derived.WalkLawsBesides
import Derived.WalkSpells
import Derived.Deep.QuietTactic
import Derived.BigQuiet
import Derived.BigCall
import Derived.IntWalk
import Derived.Lib.Hide
import Derived.Test.YtebajpebongabaaDoorR3
import Derived.Test.YtebajpebongabaaDoorFe
import Derived.Test.YtebajpebongabaaDoorSh
namespace Go.Proofs.YtebajpebongabaaDoor.V
open Go.RowKit Go.Proofs.YtebajpebongabaaDoorW.PrintWords Go.Proofs.YtebajpebongabaaDoorW.PrintMore Go.Proofs.YtebajpebongabaaDoor.P Go.Proofs.YtebajpebongabaaDoor.X
set_option linter.unusedVariables false
set_option linter.unusedSimpArgs false

/-! ### the pieces' sizes -/
theorem splitB_sum (c : UInt8) : ∀ (k : Nat) (s : ByteArray), Lib.countB s ⟨#[c]⟩ = k → ((Lib.splitB ⟨#[c]⟩ 0 k s).map fun p => p.size + 1).sum = s.size + 1
  | 0, s, h => by simp [Lib.splitB]
  | k + 1, s, h => by
    rcases Lib.indexB_cases s ⟨#[c]⟩ with hm | ⟨i, hi, hle⟩
    · rw [Lib.countB_miss s _ hm] at h
      omega
    · have h1 : 1 ≤ (⟨#[c]⟩ : ByteArray).size := Nat.le_refl 1
      have hs1 : (⟨#[c]⟩ : ByteArray).size = 1 := rfl
      have h2 := Lib.countB_hit s ⟨#[c]⟩ i h1 hi
      rw [Lib.splitB_hit _ _ _ _ i hi, List.map_cons, List.sum_cons, splitB_sum c k _ (by omega)]
      rw [ByteArray.size_extract, ByteArray.size_extract, hs1] at *
      omega
theorem pieces_sum (s : ByteArray) (c : UInt8) : ((piecesL s c).map fun p => p.size + 1).sum = s.size + 1 := splitB_sum c _ s rfl
def upTo (l : List ByteArray) (j : Nat) : Nat := ((l.take j).map fun p => p.size + 1).sum
theorem upTo_succ (l : List ByteArray) (j : Nat) (hj : j < l.length) : upTo l (j + 1) = upTo l j + (l[j].size + 1) := by
  unfold upTo
  rw [List.take_add_one, List.getElem?_eq_getElem hj, Option.toList_some, List.map_append, List.sum_append]
  simp
theorem sum_take_le (l : List Nat) : ∀ j : Nat, (l.take j).sum ≤ l.sum := by
  induction l with
  | nil => intro j; simp
  | cons a l ih =>
    intro j
    cases j with
    | zero => simp
    | succ j => rw [List.take_succ_cons, List.sum_cons, List.sum_cons]; have := ih j; omega
theorem upTo_le (s : ByteArray) (c : UInt8) (j : Nat) : upTo (piecesL s c) j ≤ s.size + 1 := by
  unfold upTo
  rw [← pieces_sum s c, List.map_take]
  exact sum_take_le _ _

theorem splitB_len_le (s : ByteArray) : (piecesL s 9).length ≤ s.size + 1 := by
  unfold piecesL
  have h1 : 1 ≤ (⟨#[9]⟩ : ByteArray).size := Nat.le_refl 1
  rw [Lib.splitB_all _ h1 0 _ s rfl]
  have := Lib.countB_le ⟨#[9]⟩ h1 s.size s (Nat.le_refl _)
  omega
/-! ### what is read -/
def tokL (att : List S55) : List ByteArray → List ByteArray → Int → Int × Int × List ByteArray
  | [], vals, at_ => (at_, 0, vals)
  | raw :: rest, vals, at_ => if vals.length = att.length then (at_, 15, vals) else if (unescR raw).2.2 ≠ 0 then (at_ + (unescR raw).2.1, (unescR raw).2.2, vals)
    else if avE (att.getD vals.length z55) (unescR raw).1 ≠ 0 then (at_, avE (att.getD vals.length z55) (unescR raw).1, vals) else tokL att rest (vals ++ [(unescR raw).1]) (at_ + (raw.size + 1))
def tokEnd (att : List S55) (line : ByteArray) (r : Int × Int × List ByteArray) : Int × Int := if r.2.1 ≠ 0 then (r.1, r.2.1) else if r.2.2.length < att.length then ((line.size : Int), 15) else (0, 0)
def tokenE (s : St) (line : ByteArray) : Int × Int := if s.text = false then (0, 17) else if s.toks.length = 4096 then (0, 2) else tokEnd s.att line (tokL s.att (piecesL line 9) [] 0)
def tokenS (s : St) (line : ByteArray) : St := { s with toks := s.toks ++ [(tokL s.att (piecesL line 9) [] 0).2.2] }
/-- What a method that answers a fault leaves. -/
def FPost (w : World) (base G : Nat) (r : Int × Int) (s' : St) (e : Ending) (w' : World) : Prop :=
  e = .returned (.agg #[.int .i64 r.1, .int .i64 r.2]) ∧ Fr base w w' ∧ (r.2 = 0 → RS w' base G s')
abbrev faObj : Obj := .cells #[.int .i64 0, .int .i64 0] 48 (0, 0)

set_option maxHeartbeats 8000000 in
set_option maxRecDepth 100000 in
theorem token_r (w : World) (base G : Nat) (s : St) (line : ByteArray) (hbase : base ≤ w.heap.size) (hs : line.size ≤ 1048576) (hS : RS w base G s) :
    Calls Tryd.prog 24 #[.pointer (some ⟨G, 0, none⟩), .string line] w (FPost w base G (tokenE s line) (tokenS s line)) := by
  obtain ⟨hk, va, vt, vx, vr, vo, hP⟩ := hS
  obtain ⟨Aa, ca, rfl⟩ := Kd.R_slice hP.ra
  obtain ⟨At, ct, rfl⟩ := Kd.R_slice hP.rt
  have hG := hP.lt
  have hne : ¬ G = w.heap.size := by omega
  have hne' : ¬ w.heap.size = G := by omega
  have x1 : w.cell? ⟨G, 1, none⟩ = some (.slice At s.toks.length ct) := blk_cell hP.blk 1
  have x8 : w.cell? ⟨G, 8, none⟩ = some (.bool s.text) := blk_cell hP.blk 8
  have hatt := hk.att
  have htk := hk.toks
  cases ht : s.text with
  | false =>
    have hE : tokenE s line = (0, 17) := by unfold tokenE; rw [if_pos ht]
    rw [hE]
    rw [ht] at x8
    clear ht hE hP hk
    go_enter Tryd.func24, Tryd.ntmps24
    go_wp2
    refine bodyPost_ret (results_cell_row rfl _ _ w.heap.size 48 #[.int .i64 0, .int .i64 17] (0, 0) _ rfl (by first | exact blk_put (blk_put (blk_new w faObj) 0 _ rfl) 1 _ rfl | exact blk_new w _) Tryd.underlying48 rfl (by kernel_rfl)) rfl ?_
    exact ⟨rfl, Fr.of_below (below_alloc (Below.refl _ _) _) hbase, fun h => absurd h (by decide)⟩
  | true =>
    rw [ht] at x8
    have hE0 : tokenE s line = if s.toks.length = 4096 then (0, 2) else tokEnd s.att line (tokL s.att (piecesL line 9) [] 0) := by unfold tokenE; rw [if_neg (by rw [ht]; decide)]
    by_cases c1 : s.toks.length = 4096
    · have hE : tokenE s line = (0, 2) := by rw [hE0, if_pos c1]
      rw [hE]
      have hd1 : ((s.toks.length : Int) == 4096) = true := beq_iff_eq.2 (by omega)
      clear ht hE hP hk hE0 c1
      go_enter Tryd.func24, Tryd.ntmps24
      go_wp2
      refine bodyPost_ret (results_cell_row rfl _ _ w.heap.size 48 #[.int .i64 0, .int .i64 2] (0, 0) _ rfl (by first | exact blk_put (blk_put (blk_new w faObj) 0 _ rfl) 1 _ rfl | exact blk_new w _) Tryd.underlying48 rfl (by kernel_rfl)) rfl ?_
      exact ⟨rfl, Fr.of_below (below_alloc (Below.refl _ _) _) hbase, fun h => absurd h (by decide)⟩
    · have hd1 : ((s.toks.length : Int) == 4096) = false := beq_eq_false_iff_ne.2 (by omega)
      rw [if_neg c1] at hE0
      have hc1 : s.toks.length < 4096 := by omega
      obtain ⟨R, hR0⟩ : ∃ R, R = tokL s.att (piecesL line 9) [] 0 := ⟨_, rfl⟩
      rw [← hR0] at hE0
      obtain ⟨ps, hps⟩ : ∃ ps, ps = piecesL line 9 := ⟨_, rfl⟩
      have hup : ∀ j, upTo ps j ≤ line.size + 1 := by rw [hps]; exact upTo_le line 9
      have hpl : ps.length ≤ line.size + 1 := by
        have := splitB_len_le line
        rw [hps]
        exact this
      rw [← hps] at hR0
      have HE0 := Lib.hid hE0
      have HP := Lib.hid hP
      have HKK := Lib.hid hk
      have HT := Lib.hid ht
      have HR0 := Lib.hid hR0
      have HUP := Lib.hid hup
      have HPS := Lib.hid hps
      clear hE0 hP hk ht c1 hR0 hup hps
      go_enter Tryd.func24, Tryd.ntmps24
      go_wp2_with (go_at_call 44; refine (split_any line 9 _ (by omega)).mono ?_; rw [← HPS.out]; rintro e w1 ⟨rfl, rfl⟩)
      go_loopw [5, 6, 32] (fun v u i wr => ∃ (j : Nat) (vals : List ByteArray), i = .int .i64 j ∧ j ≤ ps.length ∧ u = .int .i64 (upTo ps j) ∧ vals.length = j ∧ j ≤ s.att.length ∧ Kd.R Kd.string 9 wr (w.heap.size + 2) (fun _ => True) v vals ∧ wr.heap[w.heap.size]? = some faObj ∧ wr.heap[w.heap.size + 1]? = some (.cells ((ps.map Value.string).toArray) 9 (0, 0)) ∧ Below w.heap.size w wr ∧ R = tokL s.att (ps.drop j) vals (upTo ps j)) (fun _ _ i _ => ps.length - (intOf i).toNat)
      case atStart =>
        refine ⟨0, [], rfl, Nat.zero_le _, rfl, rfl, Nat.zero_le _, Kd.R_nil _ _ _ _ _, blk_alloc (blk_new w _) _, ?_, below_alloc (below_alloc (Below.refl _ _) _) _, HR0.out⟩
        have := blk_new (w.alloc faObj) (.cells ((ps.map Value.string).toArray) 9)
        rw [show (w.alloc faObj).heap.size = w.heap.size + 1 by simp] at this
        exact this
      case round =>
        obtain ⟨j, vals, rfl, hj, rfl, hvl, hja, hRv, hF, hPb, hb, hRR⟩ := hrel
        obtain ⟨Av, cv, rfl⟩ := Kd.R_slice hRv
        rw [hvl] at hRv ⊢
        obtain ⟨at_, hat⟩ : ∃ a, a = upTo ps j := ⟨_, rfl⟩
        have hatb : at_ ≤ line.size + 1 := by rw [hat]; exact HUP.out j
        rw [← hat] at hRR ⊢
        have hP1 := HP.out.below hb
        have y0 : wr.cell? ⟨G, 0, none⟩ = some (.slice Aa s.att.length ca) := blk_cell hP1.blk 0
        have f0 := blk_frozen hF 0
        have f1 := blk_frozen hF 1
        have u0 : wr.cell? ⟨w.heap.size, 0, none⟩ = some (.int .i64 0) := blk_cell hF 0
        have u1 : wr.cell? ⟨w.heap.size, 1, none⟩ = some (.int .i64 0) := blk_cell hF 1
        by_cases hlt : j < ps.length
        case pos =>
          have hd : decide ((j : Int) < (ps.length : Int)) = true := decide_eq_true (by omega)
          have hd' : decide (j < ps.length) = true := decide_eq_true hlt
          obtain ⟨raw, hraw⟩ : ∃ r, r = ps[j] := ⟨_, rfl⟩
          have z0 : wr.cell? ⟨w.heap.size + 1, j, none⟩ = some (.string raw) := by rw [blk_cell hPb j, hraw]; simp [hlt]
          have hdrop : ps.drop j = raw :: ps.drop (j + 1) := by rw [hraw]; exact List.drop_eq_getElem_cons hlt
          have hus : upTo ps (j + 1) = at_ + (raw.size + 1) := by rw [hat, hraw]; exact upTo_succ ps j hlt
          have hrs : at_ + (raw.size + 1) ≤ line.size + 1 := by rw [← hus]; exact HUP.out (j + 1)
          rw [hdrop] at hRR
          unfold tokL at hRR
          rw [hvl] at hRR
          have h00 : (0 : Int) ≤ (j : Int) := by omega
          have h11 : (j : Int) < (ps.length : Int) := by omega
          have HRv := Lib.hid hRv
          have HF := Lib.hid hF
          have HPb := Lib.hid hPb
          have HB := Lib.hid hb
          have HUS := Lib.hid hus
          have HP1 := Lib.hid hP1
          have HVL := Lib.hid hvl
          have HPN : Hid (some (w.heap.size + 1) ≠ (Value.slice Av j cv).ownBlock) := by
            intro he
            obtain ⟨_, ho⟩ := Kd.R_own hRv
            have := own_base ho _ he.symm
            omega
          clear hRv hF hPb hb hus hP1 hvl hdrop hraw hat x1 x8
          by_cases hja2 : j = s.att.length
          · have hq : ((j : Int) == (s.att.length : Int)) = true := beq_iff_eq.2 (by omega)
            rw [if_pos hja2] at hRR
            have HEN : Hid (tokenE s line = ((at_ : Int), 15)) := by rw [HE0.out, hRR]; exact rfl
            clear hRR hja2
            go_wp2
            refine bodyPost_ret (results_cell_row rfl _ _ w.heap.size 48 #[.int .i64 ((at_ : Int)), .int .i64 (15)] (0, 0) _ rfl (blk_put (blk_put (HF.out) 0 _ rfl) 1 _ rfl) Tryd.underlying48 rfl (by kernel_rfl)) rfl ?_
            exact ⟨by rw [HEN.out], Fr.of_below (((HB.out).setCell (show w.heap.size ≤ w.heap.size by omega) _).setCell (show w.heap.size ≤ w.heap.size by omega) _) hbase, fun h => absurd h (by rw [HEN.out]; exact (by decide : ¬ (15 : Int) = 0))⟩
          · have hq : ((j : Int) == (s.att.length : Int)) = false := beq_eq_false_iff_ne.2 (by omega)
            rw [if_neg hja2] at hRR
            have hjl : j < s.att.length := by omega
            obtain ⟨r, hr⟩ : ∃ r, r = unescR raw := ⟨_, rfl⟩
            have HR : Hid (r = unescR raw) := hr
            have hpos := unescR_pos raw
            rw [← hr] at hpos hRR
            obtain ⟨hpos1, hpos2⟩ := hpos
            have hex : raw.size ≤ 1099511627776 := by omega
            obtain ⟨ga, cap, hva, -, hcap, -⟩ := R_form HP1.out.ra (by omega)
            injection hva with hA _ hcap'
            subst hA hcap'
            obtain ⟨cy, hMy, hcy⟩ := R_at HP1.out.ra rfl j hjl
            have hcy2 := k55_openM hMy
            subst hcy2
            obtain ⟨y, hy⟩ : ∃ y, y = s.att[j] := ⟨_, rfl⟩
            have hyd : s.att.getD j z55 = y := by rw [hy]; simp [List.getD, List.getElem?_eq_getElem hjl]
            rw [← hy] at hcy
            have e0 : wr.cell? ⟨ga, j * 2, none⟩ = some (.string y.f0) := hcy 0 _ rfl
            have e1 : wr.cell? ⟨ga, j * 2 + 1, none⟩ = some (.bool y.f1) := hcy 1 _ rfl
            rw [hyd] at hRR
            have hu55 := Tryd.underlying55
            clear hr hMy hcy hy hyd hja2
            have h12 : (j : Int) < (s.att.length : Int) := by omega
            by_cases c1 : r.2.2 = 0
            case neg =>
              have hcb : (r.2.2 != 0) = true := bne_iff_ne.2 c1
              rw [if_pos c1] at hRR
              have HEN : Hid (tokenE s line = ((at_ : Int) + r.2.1, r.2.2)) := by rw [HE0.out, hRR]; unfold tokEnd; simp only; rw [if_pos c1]; exact rfl
              have HC1 := Lib.hid c1
              clear hRR c1 e0 e1
              go_wp2_with (go_at_call 45; refine (unescape_r _ hex _ r HR).mono ?_; rintro e w2 ⟨rfl, hb2⟩; have hF2 := blk_below HF.out hb2; have v0 : w2.cell? ⟨w.heap.size, 0, none⟩ = some (.int .i64 0) := blk_cell hF2 0; have v1 : w2.cell? ⟨w.heap.size, 1, none⟩ = some (.int .i64 0) := blk_cell hF2 1; have fv0 := blk_frozen hF2 0; have fv1 := blk_frozen hF2 1; have HF2 := Lib.hid hF2; have HB2 := Lib.hid hb2; clear hF2 hb2)
              refine bodyPost_ret (results_cell_row rfl _ _ w.heap.size 48 #[.int .i64 ((at_ : Int) + r.2.1), .int .i64 (r.2.2)] (0, 0) _ rfl (blk_put (blk_put (HF2.out) 0 _ rfl) 1 _ rfl) Tryd.underlying48 rfl (by kernel_rfl)) rfl ?_
              exact ⟨by rw [HEN.out], Fr.of_below ((((HB.out.trans (HB2.out.mono HB.out.size))).setCell (show w.heap.size ≤ w.heap.size by omega) _).setCell (show w.heap.size ≤ w.heap.size by omega) _) hbase, fun h => absurd h (by rw [HEN.out]; exact HC1.out)⟩
            have hcb : (r.2.2 != 0) = false := by rw [c1]; rfl
            rw [if_neg (fun h => h c1)] at hRR
            clear c1
            obtain ⟨ev, hev⟩ : ∃ e, e = avE y r.1 := ⟨_, rfl⟩
            rw [← hev] at hRR
            have HEV := Lib.hid hev
            clear hev
            by_cases c2 : ev = 0
            case neg =>
              have hcb2 : (ev != 0) = true := bne_iff_ne.2 c2
              rw [if_pos c2] at hRR
              have HEN : Hid (tokenE s line = ((at_ : Int), ev)) := by rw [HE0.out, hRR]; unfold tokEnd; simp only; rw [if_pos c2]; exact rfl
              have HC2 := Lib.hid c2
              clear hRR c2
              go_wp2_with (first | (go_at_call 46; refine (avE_b y r.1 _).mono ?_; rw [← HEV.out]; rintro e w3 ⟨rfl, hb3⟩; have hF3 := blk_below HF2.out hb3; have v0 : w3.cell? ⟨w.heap.size, 0, none⟩ = some (.int .i64 0) := blk_cell hF3 0; have v1 : w3.cell? ⟨w.heap.size, 1, none⟩ = some (.int .i64 0) := blk_cell hF3 1; have fv0 := blk_frozen hF3 0; have fv1 := blk_frozen hF3 1; have HF3 := Lib.hid hF3; have HB3 := Lib.hid hb3; clear hF3 hb3) | (go_at_call 45; refine (unescape_r _ hex _ r HR).mono ?_; rintro e w2 ⟨rfl, hb2⟩; have hF2 := blk_below HF.out hb2; have y02 : w2.cell? ⟨G, 0, none⟩ = some (.slice (some ⟨ga, 0, none⟩) s.att.length ca) := pw_cell_below hb2 y0; have e02 : w2.cell? ⟨ga, j * 2, none⟩ = some (.string y.f0) := pw_cell_below hb2 e0; have e12 : w2.cell? ⟨ga, j * 2 + 1, none⟩ = some (.bool y.f1) := pw_cell_below hb2 e1; have HF2 := Lib.hid hF2; have HB2 := Lib.hid hb2; clear hF2 hb2))
              refine bodyPost_ret (results_cell_row rfl _ _ w.heap.size 48 #[.int .i64 ((at_ : Int)), .int .i64 (ev)] (0, 0) _ rfl (blk_put (blk_put (HF3.out) 0 _ rfl) 1 _ rfl) Tryd.underlying48 rfl (by kernel_rfl)) rfl ?_
              exact ⟨by rw [HEN.out], Fr.of_below (((((HB.out.trans (HB2.out.mono HB.out.size)).trans (HB3.out.mono (HB.out.trans (HB2.out.mono HB.out.size)).size))).setCell (show w.heap.size ≤ w.heap.size by omega) _).setCell (show w.heap.size ≤ w.heap.size by omega) _) hbase, fun h => absurd h (by rw [HEN.out]; exact HC2.out)⟩
            have hcb2 : (ev != 0) = false := by rw [c2]; rfl
            rw [if_neg (fun h => h c2)] at hRR
            have HRR := Lib.hid hRR
            clear hRR c2
            go_wp2_with (first | (at_builtin; go_loud (refine Kd.R_append Kd.string (w0 := w3) (w.heap.size + 2) rfl (.tmp 76) (.tmp 78) 28 9 (.string ⟨#[]⟩) 16 rfl Tryd.underlying28 info9 rfl (by decide) (by omega) _ vals r.1 [.string r.1] (fun _ => True) (fun _ => False) rfl rfl rfl (fun _ hk => hk.elim) (fun k hk => trivial) HR3.out (Below.refl _ _) (by have := blk_lt HPb3.out; omega) (by rw [HVL.out]; omega) ?_; intro v1 w4 hR4 hb4 hg4 hat4; obtain ⟨A4, c4, rfl⟩ := Kd.R_slice hR4; rw [List.length_append, List.length_singleton, HVL.out] at hR4; have hF4 := blk_still HF3.out hg4 (Kd.R_ne HR3.out HF3.out (by decide)); have hP4 := blk_still HPb3.out hg4 HPN.out; have HF4 := Lib.hid hF4; have HP4 := Lib.hid hP4; have HR4 := Lib.hid hR4; have HB4 : Hid (Below w.heap.size w w4) := HB3.out.trans (hb4.mono (by omega)); clear hF4 hP4 hR4 hb4 hg4 hat4)) | (go_at_call 46; refine (avE_b y r.1 _).mono ?_; rw [← HEV.out]; rintro e w3 ⟨rfl, hb3⟩; have hF3 := blk_below HF2.out hb3; have hPb3 := blk_below HPb2.out hb3; have hR3 := Kd.R_below HR2.out hb3; have HF3 := Lib.hid hF3; have HPb3 := Lib.hid hPb3; have HR3 := Lib.hid hR3; have HB3 : Hid (Below w.heap.size w w3) := HB2.out.trans (hb3.mono HB2.out.size); clear hF3 hPb3 hR3 hb3) | (go_at_call 45; refine (unescape_r _ hex _ r HR).mono ?_; rintro e w2 ⟨rfl, hb2⟩; have hF2 := blk_below HF.out hb2; have hPb2 := blk_below HPb.out hb2; have hR2 := Kd.R_below HRv.out hb2; have y02 : w2.cell? ⟨G, 0, none⟩ = some (.slice (some ⟨ga, 0, none⟩) s.att.length ca) := pw_cell_below hb2 y0; have e02 : w2.cell? ⟨ga, j * 2, none⟩ = some (.string y.f0) := pw_cell_below hb2 e0; have e12 : w2.cell? ⟨ga, j * 2 + 1, none⟩ = some (.bool y.f1) := pw_cell_below hb2 e1; have HF2 := Lib.hid hF2; have HPb2 := Lib.hid hPb2; have HR2 := Lib.hid hR2; have HB2 : Hid (Below w.heap.size w w2) := HB.out.trans (hb2.mono HB.out.size); clear hF2 hPb2 hR2 hb2))
            go_roundw
            case rel =>
              refine ⟨j + 1, vals ++ [r.1], by go_num, by omega, by rw [HUS.out]; rfl, by rw [List.length_append, List.length_singleton, HVL.out], by omega, by rw [HVL.out]; exact HR4.out, HF4.out, HP4.out, HB4.out, ?_⟩
              rw [HUS.out]
              exact HRR.out
            case measure => simp [intOf] <;> omega
        case neg =>
          obtain rfl : j = ps.length := by omega
          have hd : decide ((ps.length : Int) < (ps.length : Int)) = false := decide_eq_false (by omega)
          have hd' : decide (ps.length < ps.length) = false := decide_eq_false (by omega)
          rw [List.drop_of_length_le (Nat.le_refl _)] at hRR
          unfold tokL at hRR
          by_cases c2 : ps.length < s.att.length
          · have hd2 : decide ((ps.length : Int) < (s.att.length : Int)) = true := decide_eq_true (by omega)
            have hd2' : decide (ps.length < s.att.length) = true := decide_eq_true c2
            have HEN : Hid (tokenE s line = ((line.size : Int), 15)) := by
              rw [HE0.out, hRR]
              unfold tokEnd
              simp only
              rw [if_neg (fun h => h rfl), if_pos (by rw [hvl]; exact c2)]
              exact rfl
            have HF := Lib.hid hF
            have HB := Lib.hid hb
            clear hRv hF hPb hb hP1 hvl hat x1 x8 hRR c2
            go_wp2
            refine bodyPost_ret (results_cell_row rfl _ _ w.heap.size 48 #[.int .i64 ((line.size : Int)), .int .i64 (15)] (0, 0) _ rfl (blk_put (blk_put (HF.out) 0 _ rfl) 1 _ rfl) Tryd.underlying48 rfl (by kernel_rfl)) rfl ?_
            exact ⟨by rw [HEN.out], Fr.of_below ((HB.out.setCell (show w.heap.size ≤ w.heap.size by omega) _).setCell (show w.heap.size ≤ w.heap.size by omega) _) hbase, fun h => absurd h (by rw [HEN.out]; exact (by decide : ¬ (15 : Int) = 0))⟩
          · have hd2 : decide ((ps.length : Int) < (s.att.length : Int)) = false := decide_eq_false (by omega)
            have hd2' : decide (ps.length < s.att.length) = false := decide_eq_false c2
            have HEN : Hid (tokenE s line = (0, 0)) := by
              rw [HE0.out, hRR]
              unfold tokEnd
              simp only
              rw [if_neg (fun h => h rfl), if_neg (by rw [hvl]; exact c2)]
              exact rfl
            have hfin : tokenS s line = { s with toks := s.toks ++ [vals] } := by
              unfold tokenS
              rw [← HPS.out, ← HR0.out, hRR]
            have y1 : wr.cell? ⟨G, 1, none⟩ = some (.slice At s.toks.length ct) := blk_cell hP1.blk 1
            have hRa := R_apart (Kd.R_lower hRv (show base ≤ w.heap.size + 2 by omega)) hP1.rt (by decide)
            have hbw : base ≤ wr.heap.size := by have := hb.size; omega
            have HF := Lib.hid hF
            have HB := Lib.hid hb
            have HP1 := Lib.hid hP1
            have HRA := Lib.hid hRa
            have HFI := Lib.hid hfin
            have HVL := Lib.hid hvl
            clear hRv hF hPb hb hP1 hvl hat x1 x8 hRR c2 hRa hfin
            go_wp2_with (at_builtin; go_loud (refine Kd.R_append kTok (w0 := wr) base rfl (.tmp 103) (.tmp 105) 23 28 (.slice none 0 0) 24 rfl Tryd.underlying23 info_strs rfl (by decide) (by omega) _ s.toks vals [.slice Av ps.length cv] (fun _ => True) (fun k => True ∧ some k ≠ (Value.slice At s.toks.length ct).ownBlock) rfl rfl ⟨_, rfl, HRA.out⟩ (fun k hk => hk) (fun k hk => trivial) HP1.out.rt (Below.refl _ _) hbw (by omega) ?_; intro v1 w9 hR9 hb9 hg9 hat9; obtain ⟨A9, c9, rfl⟩ := Kd.R_slice hR9; rw [List.length_append, List.length_singleton] at hR9; have hG9 := blk_still HP1.out.blk hg9 (Kd.R_ne HP1.out.rt HP1.out.blk (by decide)); have hF9 := blk_still HF.out hg9 (Kd.R_ne HP1.out.rt HF.out (by decide)); have z1 : w9.cell? ⟨G, 1, none⟩ = some (.slice At s.toks.length ct) := blk_cell hG9 1; have fz1 := blk_frozen hG9 1; have v0 : w9.cell? ⟨w.heap.size, 0, none⟩ = some (.int .i64 0) := blk_cell hF9 0; have v1 : w9.cell? ⟨w.heap.size, 1, none⟩ = some (.int .i64 0) := blk_cell hF9 1; have fv0 := blk_frozen hF9 0; have fv1 := blk_frozen hF9 1; have HG9 := Lib.hid hG9; have HF9 := Lib.hid hF9; have HR9 := Lib.hid hR9; have HB9 := Lib.hid hb9; have HGR := Lib.hid hg9; clear hR9 hb9 hg9 hat9 hG9 hF9))
            refine bodyPost_ret (results_cell_row rfl _ _ w.heap.size 48 #[.int .i64 (0), .int .i64 (0)] (0, 0) _ rfl (blk_put (blk_put (blk_far HF9.out (show ¬ w.heap.size = G by omega) _) 0 _ rfl) 1 _ rfl) Tryd.underlying48 rfl (by kernel_rfl)) rfl ?_
            have hP9 := RP.toksTo HP1.out HR9.out HGR.out
            have hF10 := blk_far HF9.out (p := ⟨G, 1, none⟩) (show ¬ w.heap.size = G by omega) (.slice A9 (s.toks.length + 1) c9)
            have hP10 := RP.side (RP.side hP9 hF10 0 (.int .i64 0)) (blk_put hF10 0 (.int .i64 0) rfl) 1 (.int .i64 0)
            have hfr : Fr base w (w9.setCell ⟨G, 1, none⟩ (.slice A9 (s.toks.length + 1) c9)) := (Fr.of_below HB.out hbase).trans ((Fr.grown HP1.out.rt HGR.out (by decide) HB9.out).trans (Fr.put HG9.out (by decide) HP1.out.le _ _))
            refine ⟨by rw [HEN.out], ⟨(hfr.low.setCell hbase _).setCell hbase _, fun k hk ht => ?_⟩, fun _ => ?_⟩
            · have hkF : k ≠ w.heap.size := by omega
              rw [Below.heap_setCell _ _ _ _ hkF, Below.heap_setCell _ _ _ _ hkF]
              exact hfr.keep k hk ht
            · rw [HFI.out]
              refine ⟨⟨HKK.out.att, ?_, HKK.out.texts, HKK.out.regs, HKK.out.one⟩, _, _, vx, vr, vo, hP10⟩
              show (s.toks ++ [_]).length ≤ 4096
              rw [List.length_append, List.length_singleton]
              omega
end Go.Proofs.YtebajpebongabaaDoor.V
