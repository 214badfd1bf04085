/- corpus.SortRegions: the walk of its insertion sort. Condition: at most 2^20 regions, whose bounds are ints and whose keys are at most 2^20. -/
import Derived.Test.YtebajpebongabaaDoorSr
namespace Go.Proofs.YtebajpebongabaaDoor.V
open Go.RowKit Go.Proofs.YtebajpebongabaaDoorW.PrintWords Go.Proofs.YtebajpebongabaaDoorW.PrintMore Go.Proofs.YtebajpebongabaaDoor.P Go.Proofs.YtebajpebongabaaDoor.X
set_option linter.unusedVariables false
set_option linter.unusedSimpArgs false

abbrev rgObj (x : S58) (v : Value) : Obj := .cells #[.string x.f0, .int .i64 x.f1, .int .i64 x.f2, v] 58 (0, 0)
set_option maxHeartbeats 8000000 in
set_option maxRecDepth 100000 in
theorem sortRegions_any (l : List S58) (hl : l.length ≤ 1048576) (hin : ∀ x ∈ l, RegOk x) (A : Option Addr) (cap : Nat) (hcap : l.length ≤ cap) (w : World) (hK : Kd.C k58 w A l.length l) :
    Calls Tryd.prog 13 #[.slice A l.length cap] w fun e w' => ∃ v, e = .returned v ∧ Kd.R k58 58 w' w.heap.size (fun _ => True) v (sortR l) ∧ Below w.heap.size w w' := by
  have hu := Tryd.underlying58
  have HK := Lib.hid hK
  have HIN := Lib.hid hin
  clear hK hin
  go_enter Tryd.func13, Tryd.ntmps13
  go_wp2
  go_loopw [3, 9] (fun v i wr => ∃ j : Nat, i = .int .i64 j ∧ j ≤ l.length ∧ Kd.R k58 58 wr w.heap.size (fun _ => True) v (sortR (l.take j)) ∧ Below w.heap.size w wr) (fun _ i _ => l.length - (intOf i).toNat)
  case atStart => exact ⟨0, rfl, Nat.zero_le _, Kd.R_nil _ _ _ _ _, Below.refl _ _⟩
  case round =>
    obtain ⟨j, rfl, hj, hR, hb⟩ := hrel
    obtain ⟨W1, rfl⟩ : ∃ W1, W1 = wr := ⟨wr, rfl⟩
    by_cases hlt : j < l.length
    case neg =>
      obtain rfl : j = l.length := by omega
      have hd : decide ((l.length : Int) < (l.length : Int)) = false := decide_eq_false (by omega)
      rw [List.take_of_length_le (Nat.le_refl _)] at hR
      have HR := Lib.hid hR
      clear hR
      go_wp2
      go_ret
      exact ⟨_, rfl, HR.out, hb⟩
    case pos =>
      have hd : decide ((j : Int) < (l.length : Int)) = true := decide_eq_true (by omega)
      obtain ⟨ad, Ax, cx, hA, c0, c1, c2, c3, hcx, hCx⟩ := at_T58 HK.out (j : Int) (by omega) (by omega)
      obtain ⟨x, hx⟩ : ∃ x, x = rd_T58 l (j : Int) := ⟨_, rfl⟩
      have hxin : RegOk x := by
        rw [hx]
        unfold rd_T58
        simp only [Int.toNat_natCast, List.getD, List.getElem?_eq_getElem hlt, Option.getD_some]
        exact HIN.out _ (List.getElem_mem hlt)
      rw [← hx] at c0 c1 c2 c3 hcx hCx
      simp only [Int.toNat_natCast] at c0 c1 c2 c3
      subst hA
      replace c0 := pw_cell_below hb c0
      replace c1 := pw_cell_below hb c1
      replace c2 := pw_cell_below hb c2
      replace c3 := pw_cell_below hb c3
      obtain ⟨ys, hys⟩ : ∃ ys, ys = sortR (l.take j) := ⟨_, rfl⟩
      rw [← hys] at hR
      have hyl : ys.length = j := by rw [hys]; unfold sortR; rw [sortL_length, List.length_take]; omega
      obtain ⟨A3, c4, rfl⟩ := Kd.R_slice hR
      rw [hyl] at hR ⊢
      have HR := Lib.hid hR
      have HY := Lib.hid hys
      have HX := Lib.hid hx
      have HCX := Lib.hid hCx
      have HXI := Lib.hid hxin
      clear hR hys hx hCx hxin
      have h0 : (0 : Int) ≤ (j : Int) := by omega
      have h1 : (j : Int) < (l.length : Int) := by omega
      go_wp2
      generalize hW2 : W1.alloc _ = W2
      have hF : W2.heap[W1.heap.size]? = some (rgObj x (.slice Ax x.f3.length cx)) := by rw [← hW2]; exact blk_new W1 _
      have hR2 : Kd.R k58 58 W2 w.heap.size (fun k => k ≠ W1.heap.size) (.slice A3 j c4) ys := by
        rw [← hW2]
        exact Kd.R_mono (Kd.R_alloc (Kd.R_bound HR.out) _) (fun k hk => by have := hk.2.2.1; omega)
      have hb2 : Below w.heap.size w W2 := by rw [← hW2]; exact below_alloc hb _
      have hC2 : Kd.C k88 W2 Ax x.f3.length x.f3 := Kd.C_below HCX.out hb2
      have hs2 : W2.heap.size = W1.heap.size + 1 := by rw [← hW2]; simp
      obtain ⟨F, hFF⟩ : ∃ F, F = W1.heap.size := ⟨_, rfl⟩
      rw [← hFF] at hF hR2 hs2 ⊢
      have hbs := hb.size
      have HF := Lib.hid hF
      have HR2 := Lib.hid hR2
      have HC2 := Lib.hid hC2
      have HB2 := Lib.hid hb2
      have HBS := Lib.hid (⟨hs2, hbs, hFF⟩ : W2.heap.size = F + 1 ∧ w.heap.size ≤ W1.heap.size ∧ F = W1.heap.size)
      clear hF hR2 hC2 hs2 hbs HR c0 c1 c2 c3 hW2 hFF hb2
      go_loopw [6] (fun v w' => ∃ q : Nat, v = .int .i64 q ∧ q ≤ j ∧ Below W2.heap.size W2 w' ∧ insPos (ltR x) z58 ys j = insPos (ltR x) z58 ys q) (fun v _ => (intOf v).toNat)
      case atStart => exact ⟨j, rfl, Nat.le_refl _, Below.refl _ _, rfl⟩
      case round =>
        obtain ⟨q, rfl, hq, hbq, hp⟩ := hrel
        obtain ⟨W3, rfl⟩ : ∃ W3, W3 = wr := ⟨wr, rfl⟩
        have hF3 := blk_below HF.out hbq
        have hR3 := Kd.R_below HR2.out hbq
        have x0 : W3.cell? ⟨F, 0, none⟩ = some (.string x.f0) := blk_cell hF3 0
        have x1 : W3.cell? ⟨F, 1, none⟩ = some (.int .i64 x.f1) := blk_cell hF3 1
        have x2 : W3.cell? ⟨F, 2, none⟩ = some (.int .i64 x.f2) := blk_cell hF3 2
        have x3 : W3.cell? ⟨F, 3, none⟩ = some (.slice Ax x.f3.length cx) := blk_cell hF3 3
        have hqj : (q : Int) ≤ (j : Int) := by omega
        have HF3 := Lib.hid hF3
        have HR3 := Lib.hid hR3
        have HBQ := Lib.hid hbq
        have HP := Lib.hid hp
        have HL3 : Hid (F < W3.heap.size) := blk_lt hF3
        clear hF3 hR3 hbq hp
        by_cases hq0 : q = 0
        case' pos =>
          have hend : insPos (ltR x) z58 ys j = q := by rw [HP.out, hq0]; rfl
          have hd1 : decide ((0 : Int) < (q : Int)) = false := decide_eq_false (by omega)
          have hd2 : decide (0 < q) = false := decide_eq_false (by omega)
          have HEND := Lib.hid hend
          clear hend hq0
          go_wp2
          go_quiet (fail)
          generalize hW4 : W3.drewN _ = W4
          have hb4 : Below W2.heap.size W2 W4 := by rw [← hW4]; exact pw_below_drewN HBQ.out _
          clear hW4
        case' neg =>
          obtain ⟨i, rfl⟩ : ∃ i, q = i + 1 := ⟨q - 1, by omega⟩
          have hiL : i < ys.length := by omega
          obtain ⟨g, cp, hv, -, hcp, -⟩ := R_form (hyl ▸ HR3.out) (by omega)
          injection hv with hA _ hc4
          subst hA hc4
          obtain ⟨cy, hMy, hcy⟩ := R_at HR3.out hyl.symm i hiL
          obtain ⟨v3, rfl, hR3y⟩ := k58_openM hMy
          obtain ⟨Ay, cy3, rfl, hcyl, hCy⟩ := Kd.R_reads hR3y
          obtain ⟨y, hy⟩ : ∃ y, y = ys[i] := ⟨_, rfl⟩
          have hyd : ys.getD i z58 = y := by rw [hy]; simp [List.getD, List.getElem?_eq_getElem hiL]
          rw [← hy] at hcy hcyl hCy
          have d0 : W3.cell? ⟨g, i * 4, none⟩ = some (.string y.f0) := hcy 0 _ rfl
          have d1 : W3.cell? ⟨g, i * 4 + 1, none⟩ = some (.int .i64 y.f1) := hcy 1 _ rfl
          have d2 : W3.cell? ⟨g, i * 4 + 2, none⟩ = some (.int .i64 y.f2) := hcy 2 _ rfl
          have d3 : W3.cell? ⟨g, i * 4 + 3, none⟩ = some (.slice Ay y.f3.length cy3) := hcy 3 _ rfl
          have hCx3 := Kd.C_below HC2.out HBQ.out
          obtain ⟨cr, hcr⟩ : ∃ r, r = cmpR x y := ⟨_, rfl⟩
          have HCR : Hid (cr = cmpR x y) := hcr
          have HYC := Lib.hid (⟨hCx3, hCy⟩ : _ ∧ _)
          have HYD := Lib.hid hyd
          have hgF : g < W3.heap.size := by obtain ⟨_, how⟩ := Kd.R_own HR3.out; exact own_lt how g rfl
          have HGL := Lib.hid hgF
          clear hMy hcy hy hR3y hCx3 hCy hyd hcr hq0 hgF
          have hw1 : IntKind.i64.wrap ((i : Int) + 1 - 1) = (i : Int) := by rw [Int.add_sub_cancel]; exact IntWalk.i64_in _ (by omega)
          have hw2 : IntKind.i64.wrap (i : Int) = (i : Int) := IntWalk.i64_in _ (by omega)
          have h01 : (0 : Int) ≤ (i : Int) := by omega
          have h02 : (i : Int) < (j : Int) := by omega
          have h03 : decide ((0 : Int) < (i : Int) + 1) = true := decide_eq_true (by omega)
          go_wp2
          go_region_held3 (fun w' => w'.cell? ⟨F, 0, none⟩ = some (.string x.f0) ∧ w'.cell? ⟨F, 1, none⟩ = some (.int .i64 x.f1) ∧ w'.cell? ⟨F, 2, none⟩ = some (.int .i64 x.f2) ∧ w'.cell? ⟨F, 3, none⟩ = some (.slice Ax x.f3.length cx) ∧ w'.cell? ⟨g, i * 4, none⟩ = some (.string y.f0) ∧ w'.cell? ⟨g, i * 4 + 1, none⟩ = some (.int .i64 y.f1) ∧ w'.cell? ⟨g, i * 4 + 2, none⟩ = some (.int .i64 y.f2) ∧ w'.cell? ⟨g, i * 4 + 3, none⟩ = some (.slice Ay y.f3.length cy3))
            (first | exact ⟨pw_cell_below hb5 x0, pw_cell_below hb5 x1, pw_cell_below hb5 x2, pw_cell_below hb5 x3, pw_cell_below hb5 d0, pw_cell_below hb5 d1, pw_cell_below hb5 d2, pw_cell_below hb5 d3⟩ | go_keep)
            ((go_at_call 30; refine (cmp_b x y HXI.out.2.2 _ _ _ _ hcx hcyl _ (Kd.C_below HYC.out.1 (below_drew (Below.refl _ _))) (Kd.C_below HYC.out.2 (below_drew (Below.refl _ _))) cr HCR).mono ?_; rintro e w5 ⟨rfl, hb5⟩))
          obtain ⟨W4, rfl⟩ : ∃ W4, W4 = w5 := ⟨w5, rfl⟩
          have hb4 : Below W2.heap.size W2 W4 := HBQ.out.trans (((below_drew (Below.refl _ _)).trans hb5).mono HBQ.out.size)
          clear hb5 x0 x1 x2 x3 d0 d1 d2 d3
          by_cases hlt0 : cr < 0
          case pos =>
            have hcd : decide (cr < 0) = true := decide_eq_true hlt0
            have hl2 : ltR x (ys.getD i z58) = true := by unfold ltR; rw [HYD.out, ← HCR.out]; exact hcd
            have HL2 := Lib.hid hl2
            have HB4 := Lib.hid hb4
            clear hl2 hb4
            go_wp2
            go_roundw
            case rel =>
              refine ⟨i, rfl, by omega, HB4.out, ?_⟩
              rw [HP.out]
              conv => lhs; unfold insPos
              rw [if_pos HL2.out]
            case measure => simp [intOf] <;> omega
          case' neg =>
            have hcd : decide (cr < 0) = false := decide_eq_false hlt0
            have hend : insPos (ltR x) z58 ys j = i + 1 := by
              rw [HP.out]
              unfold insPos
              rw [if_neg (by unfold ltR; rw [HYD.out, ← HCR.out, hcd]; decide)]
            have HEND := Lib.hid hend
            clear hend
            obtain ⟨q, hqi⟩ : ∃ q, q = i + 1 := ⟨_, rfl⟩
            have hqi' : (q : Int) = (i : Int) + 1 := by omega
            rw [← hqi] at HEND hq
            rw [← hqi']
            clear hqi hqi' hw1 hw2 h01 h02 h03
        all_goals
          have hF4 := blk_below HF.out hb4
          have hR4 := Kd.R_below HR2.out hb4
          have hb4w : Below w.heap.size w W4 := HB2.out.trans (hb4.mono HB2.out.size)
          have HF4 := Lib.hid hF4
          have HR4 := Lib.hid hR4
          have HB4W := Lib.hid hb4w
          have hFs : F < W4.heap.size := blk_lt hF4
          have HFS := Lib.hid hFs
          have HB4 := Lib.hid hb4
          clear hF4 hR4 hb4w hFs hb4 HF3 HR3 HL3 HBQ
          go_wp2_with (at_builtin; go_loud (refine Kd.R_append k58 (w0 := w) w.heap.size rfl (.tmp 29) (.tmp 31) 25 58 (.agg #[.string ⟨#[]⟩, .int .i64 0, .int .i64 0, .slice none 0 0]) 56 rfl Tryd.underlying25 info_reg rfl (by decide) (by omega) _ ys z58 [.string ⟨#[]⟩, .int .i64 0, .int .i64 0, .slice none 0 0] (fun k => k ≠ F) (fun _ => False) rfl rfl (k58_mkM _ _ _ z58 (Kd.R_nil k88 _ _ _ _)) (fun _ hk => hk.elim) (fun k hk => by have := HFS.out; have h9 : W4.heap.size ≤ k := hk; omega) HR4.out HB4W.out (below_size HB4W.out) (by omega) ?_; intro v1 w5 hR5 hb5 hg5 hat5))
          have hlen : (ys ++ [z58]).length = j + 1 := by rw [List.length_append, List.length_singleton, hyl]
          obtain ⟨g1, cp1, rfl, hg1F, hcp1, hg1lt⟩ := R_form hR5 (by rw [hlen]; omega)
          rw [hlen] at hcp1 hR5 ⊢
          have hF5 := blk_grown HF4.out hg5 (fun e => HR4.out.1 F e.symm rfl)
          have hg1b : w.heap.size ≤ g1 := by obtain ⟨_, how⟩ := Kd.R_own hR5; exact own_base how g1 rfl
          have HG1B := Lib.hid hg1b
          have HR5 := Lib.hid hR5
          have HF5 := Lib.hid hF5
          have HB5 := Lib.hid hb5
          clear hR5 hF5 hg5 hat5 hb5 hg1b
          have h01 : (0 : Int) ≤ (q : Int) + 1 := by omega
          have h02 : (0 : Int) ≤ (q : Int) := by omega
          have h03 : IntKind.i64.wrap ((q : Int) + 1) = (q : Int) + 1 := IntWalk.i64_in _ (by omega)
          have h04 : (q : Int) ≤ (j : Int) := by omega
          have h05 : (q : Int) ≤ (j : Int) + 1 := by omega
          have h06 : ((q : Int) + 1).toNat = q + 1 := by omega
          have h07 : ¬ cp1 = q := by omega
          have hsz : (Tryd.prog.info? 58).map (·.size) = some k58.sz := size_of_info info_reg
          have hqi : q < (ys ++ [z58]).length := by rw [hlen]; omega
          have hRd := Kd.R_drew HR5.out
          go_region_law (first | (apply step_copy_shift (hu := Tryd.underlying25) (hs := hsz) (hR := hRd) (hn := hlen.symm) (i := q) (hi := hqi) (dT := 25) (sT := 25) (dd := Operand.tmp 36) (x := Operand.tmp 39); (case hgd => rfl); (case hop => rfl); (case hd => go_loud (conv => lhs; simp [Act.eval, Act.put])); (case hx => go_loud (conv => lhs; simp [Act.eval, Act.put])); (case hdl => go_loud (rw [hlen]; try omega)); (case hsl => go_loud (rw [hlen]; try omega)); (case hdp => go_loud (intro hlt; rw [hlen] at hlt; exact if_neg (by omega))); (case hsp => go_loud (first | exact rfl | exact if_neg (by omega))); (case' h => intro w6 hR6 hg6)) | fail)
          have hsl := shiftL_length (ys ++ [z58]) q hqi
          rw [hlen] at hsl
          have hF6 := blk_grown HF5.out ((grown_drewN w5 1 _).trans hg6) (fun e => hg1F (by injection e with e; exact e.symm))
          have y0 : w6.cell? ⟨F, 0, none⟩ = some (.string x.f0) := blk_cell hF6 0
          have y1 : w6.cell? ⟨F, 1, none⟩ = some (.int .i64 x.f1) := blk_cell hF6 1
          have y2 : w6.cell? ⟨F, 2, none⟩ = some (.int .i64 x.f2) := blk_cell hF6 2
          have y3 : w6.cell? ⟨F, 3, none⟩ = some (.slice Ax x.f3.length cx) := blk_cell hF6 3
          have hb6 : Below w.heap.size w w6 := (below_drew HB5.out).grown hg6 HB5.out.size (fun k hk => by injection hk with hk; have := HG1B.out; omega)
          have HFL : Hid (F < w6.heap.size) := blk_lt hF6
          have hC6 := Kd.C_below HCX.out hb6
          have HR6 := Lib.hid hR6
          have HC6 := Lib.hid hC6
          have HB6 := Lib.hid hb6
          have h08 : (q : Int) < (j : Int) + 1 := by omega
          clear hR6 hg6 hC6 hb6 hRd hF6
          go_wp2_with (go_at_call 31; refine (copy_b x HXI.out _ _ hcx _ HC6.out).mono ?_; rintro e w7 ⟨v, rfl, hRv, hb7⟩; obtain ⟨Av, cv, rfl⟩ := Kd.R_slice hRv; have hR7 := Kd.R_below HR6.out hb7; obtain ⟨⟨u0, v0⟩, t0⟩ := R_cells hR7 hsl.symm q (by omega) 0 (by decide); obtain ⟨⟨u1, v1⟩, t1⟩ := R_cells hR7 hsl.symm q (by omega) 1 (by decide); obtain ⟨⟨u2, v2⟩, t2⟩ := R_cells hR7 hsl.symm q (by omega) 2 (by decide); obtain ⟨⟨u3, v3⟩, t3⟩ := R_cells hR7 hsl.symm q (by omega) 3 (by decide); have v0' : w7.cell? ⟨g1, q * 4, none⟩ = some u0 := v0; have v1' : w7.cell? ⟨g1, q * 4 + 1, none⟩ = some u1 := v1; have v2' : w7.cell? ⟨g1, q * 4 + 2, none⟩ = some u2 := v2; have v3' : w7.cell? ⟨g1, q * 4 + 3, none⟩ = some u3 := v3; have t0' : w7.frozen? ⟨g1, q * 4, none⟩ = false := t0; have t1' : w7.frozen? ⟨g1, q * 4 + 1, none⟩ = false := t1; have t2' : w7.frozen? ⟨g1, q * 4 + 2, none⟩ = false := t2; have t3' : w7.frozen? ⟨g1, q * 4 + 3, none⟩ = false := t3; have HR7 := Lib.hid hR7; have HRV := Lib.hid hRv; have HB7 := Lib.hid hb7; clear hR7 hRv hb7 v0 v1 v2 v3 t0 t1 t2 t3)
          go_roundw
          case rel =>
            have hbw7 : Below w.heap.size w w7 := HB6.out.trans (HB7.out.mono HB6.out.size)
            obtain ⟨cur7, hblk7, _, _, _, _⟩ := R_block (hsl ▸ HR7.out)
            have hM : k58.M w7 w.heap.size (fun k => k ≠ F ∧ k ≠ g1) x [.string x.f0, .int .i64 x.f1, .int .i64 x.f2, .slice Av x.f3.length cv] :=
              k58_mkM _ _ _ _ (Kd.R_lower (Kd.R_mono (Kd.R_bound (Kd.R_types HRV.out hblk7 (by decide))) (fun k hk => ⟨by have h1 := hk.2.1; have := HFL.out; omega, hk.1.2⟩)) HB6.out.size)
            obtain ⟨hst, hgr⟩ := R_store HR7.out hsl.symm q (by omega) (x := x) (seg := [.string x.f0, .int .i64 x.f1, .int .i64 x.f2, .slice Av x.f3.length cv]) hM
            have hins : (shiftL (ys ++ [z58]) q).set q x = sortR (l.take (j + 1)) := by
              rw [shift_set ys z58 x q (by omega)]
              have e1 : l.take (j + 1) = l.take j ++ [x] := by
                rw [List.take_add_one, HX.out]
                unfold rd_T58
                simp [List.getD, hlt]
              have hpos := HEND.out
              rw [e1]
              unfold sortR
              rw [sortL_snoc]
              have hys2 := HY.out
              unfold sortR at hys2
              rw [← hys2]
              unfold insL
              rw [hyl, hpos]
            rw [hins] at hst
            exact ⟨j + 1, rfl, by omega, Kd.R_mono hst (fun _ _ => trivial), hbw7.grown hgr hbw7.size (fun k hk => by injection hk with hk; have := HG1B.out; omega)⟩
          case measure => simp [intOf]; omega
end Go.Proofs.YtebajpebongabaaDoor.V
