/- Contract of strconv.AppendInt at base 10 onto a row that the call owns (laid off the shelf's), as a step. Condition: the table of the powers of ten is as its initialiser laid it. -/
import Derived.Shelf.LaysM
import Derived.Shelf.Strconv.AppendIntPublic10
import Derived.Lib.AppendIntMem
import Derived.Lib.ItoaLen
import Derived.Test.YtkanmafjjejpmaaDoorX0
namespace Go.Proofs
open Go.Shelf
def Tryd.laysM176_ren : Go.Shelf.Ren := ⟨fun | 176 => 15 | 249 => 33 | 288 => 51 | 283 => 58 | 284 => 59 | 285 => 60 | 286 => 61 | 129 => 68 | 317 => 67 | 318 => 69 | 319 => 70 | 320 => 71 | 337 => 76 | 338 => 77 | n => n, fun | 37 => 51 | 2 => 2 | 3 => 3 | 53 => 87 | 4 => 4 | 9 => 9 | 171 => 98 | 0 => 0 | 173 => 101 | 212 => 107 | 51 => 108 | 5 => 5 | 20 => 20 | 213 => 109 | 46 => 105 | 232 => 120 | 233 => 121 | n => n, fun | 17 => 1 | 18 => 2 | 19 => 3 | n => n⟩
theorem Tryd.laysM176 : Go.Proofs.LaysM.n176 Tryd.prog Tryd.laysM176_ren := {
  mixed := by kernel_rfl
  f129 := Tryd.func68.trans (congrArg some (by kernel_rfl))
  f176 := Tryd.func15.trans (congrArg some (by kernel_rfl))
  f249 := Tryd.func33.trans (congrArg some (by kernel_rfl))
  f283 := Tryd.func58.trans (congrArg some (by kernel_rfl))
  f284 := Tryd.func59.trans (congrArg some (by kernel_rfl))
  f285 := Tryd.func60.trans (congrArg some (by kernel_rfl))
  f286 := Tryd.func61.trans (congrArg some (by kernel_rfl))
  f288 := Tryd.func51.trans (congrArg some (by kernel_rfl))
  f317 := Tryd.func67.trans (congrArg some (by kernel_rfl))
  f318 := Tryd.func69.trans (congrArg some (by kernel_rfl))
  f319 := Tryd.func70.trans (congrArg some (by kernel_rfl))
  f320 := Tryd.func71.trans (congrArg some (by kernel_rfl))
  f337 := Tryd.func76.trans (congrArg some (by kernel_rfl))
  f338 := Tryd.func77.trans (congrArg some (by kernel_rfl))
  t0 := Tryd.underlying0
  a0 := Tryd.isAgg0
  z0 := Tryd.sizeOf0
  v0 := Tryd.zeroValue0
  t2 := Tryd.underlying2
  a2 := Tryd.isAgg2
  z2 := Tryd.sizeOf2
  v2 := Tryd.zeroValue2
  t3 := Tryd.underlying3
  a3 := Tryd.isAgg3
  z3 := Tryd.sizeOf3
  v3 := Tryd.zeroValue3
  t4 := Tryd.underlying4
  a4 := Tryd.isAgg4
  z4 := Tryd.sizeOf4
  v4 := Tryd.zeroValue4
  t5 := Tryd.underlying5
  a5 := Tryd.isAgg5
  z5 := Tryd.sizeOf5
  v5 := Tryd.zeroValue5
  t9 := Tryd.underlying9
  a9 := Tryd.isAgg9
  z9 := Tryd.sizeOf9
  v9 := Tryd.zeroValue9
  t20 := Tryd.underlying20
  a20 := Tryd.isAgg20
  z20 := Tryd.sizeOf20
  v20 := Tryd.zeroValue20
  t37 := Tryd.underlying51
  a37 := Tryd.isAgg51
  z37 := Tryd.sizeOf51
  v37 := Tryd.zeroValue51
  t46 := Tryd.underlying105
  a46 := Tryd.isAgg105
  z46 := Tryd.sizeOf105
  v46 := Tryd.zeroValue105
  t51 := Tryd.underlying108
  a51 := Tryd.isAgg108
  z51 := Tryd.sizeOf108
  v51 := Tryd.zeroValue108
  t53 := Tryd.underlying87
  a53 := Tryd.isAgg87
  z53 := Tryd.sizeOf87
  v53 := Tryd.zeroValue87
  t171 := Tryd.underlying98
  a171 := Tryd.isAgg98
  z171 := Tryd.sizeOf98
  v171 := Tryd.zeroValue98
  t173 := Tryd.underlying101
  a173 := Tryd.isAgg101
  z173 := Tryd.sizeOf101
  v173 := Tryd.zeroValue101
  t212 := Tryd.underlying107
  a212 := Tryd.isAgg107
  z212 := Tryd.sizeOf107
  v212 := Tryd.zeroValue107
  t213 := Tryd.underlying109
  a213 := Tryd.isAgg109
  z213 := Tryd.sizeOf109
  t232 := Tryd.underlying120
  a232 := Tryd.isAgg120
  z232 := Tryd.sizeOf120
  v232 := Tryd.zeroValue120
  t233 := Tryd.underlying121
  a233 := Tryd.isAgg121
  z233 := Tryd.sizeOf121
  v233 := Tryd.zeroValue121
  g17 := by kernel_rfl
  g18 := by kernel_rfl
  g19 := by kernel_rfl
  i0 := by kernel_rfl
  i2 := by kernel_rfl
  i3 := by kernel_rfl
  i4 := by kernel_rfl
  i5 := by kernel_rfl
  i9 := by kernel_rfl
  i20 := by kernel_rfl
  i37 := by kernel_rfl
  i46 := by kernel_rfl
  i51 := by kernel_rfl
  i53 := by kernel_rfl
  i171 := by kernel_rfl
  i173 := by kernel_rfl
  i212 := by kernel_rfl
  i232 := by kernel_rfl
  i233 := by kernel_rfl
  m17 := by kernel_rfl
  m18 := by kernel_rfl
  m19 := by kernel_rfl }
open Go.RowKit Go.Sort Go.Lib in
theorem Tryd.strconv_AppendInt_10 (B n : Nat) (i : Int) (h0 : -9223372036854775808 ≤ i) (h1 : i ≤ 9223372036854775807) (sv : Value) (xs : List Value) (w : World) (hown : w.ownsRow B 5 1 sv n xs) (hBw : B ≤ w.heap.size) (hlim : n + 21 ≤ 140737488355328) (htab : Lib.TabBelow Tryd.prog B w "internal/strconv.uint64pow10" .u64 Lib.pow10Tab) :
    Calls Tryd.prog 15 #[sv, .int .i64 i, .int .i64 10] w fun e w' => ∃ v', e = .returned v' ∧ w'.ownsRow B 5 1 v' (n + (Lib.itoa i).length) (xs ++ Lib.byteCells (Lib.itoa i)) ∧ Below B w w' ∧ Lib.OthersKept 5 none w w' := Any.strconv_AppendInt_10 Tryd.laysM176 B n i h0 h1 sv xs w hown hBw hlim htab
end Go.Proofs

namespace Go.Proofs.YtkanmafjjejpmaaDoor.X
open Go.RowKit Go.Proofs.YtkanmafjjejpmaaDoorW.PrintWords Go.Proofs.YtkanmafjjejpmaaDoorW.PrintMore Go.Proofs.YtkanmafjjejpmaaDoorW.PrintLast

/-- The table of the powers of ten. -/
abbrev Tab10 (w : World) : Prop := Lib.TabIs Tryd.prog w "internal/strconv.uint64pow10" .u64 Lib.pow10Tab
theorem tab_below {w w' : World} (h : Tab10 w) (b : Below w.heap.size w w') : Tab10 w' := Lib.tabBelow_of_tabIs h w' b

/-- The decimal numeral. -/
def itoaS (n : Int) : ByteArray := ⟨(Lib.itoa n).toArray⟩
theorem bytesOf_itoaS (n : Int) : nums .u8 (bytesOf (itoaS n)) = Lib.byteCells (Lib.itoa n) := by
  unfold itoaS bytesOf nums Lib.byteCells
  simp
theorem itoaS_size (n : Int) : (itoaS n).size = (Lib.itoa n).length := by
  unfold itoaS
  simp [ByteArray.size]

theorem append_int.in_ (x : Int) : -9223372036854775808 ≤ wrap64 x ∧ wrap64 x ≤ 9223372036854775807 := by unfold wrap64; omega

theorem append_int.step {ops : Array Oper} {rest : List Oper} {o : Oper} {a : Act} {Q : Exit → Act → World → Prop} {w0 W : World} {ts : Array TypeId}
    {d : Option Tmp} (hd : o.dst = d) (hg : o.guard = none) (s x : Operand)
    (ho : o.op = .call { callee := .value (.func 15), args := #[s, x, .const (.int .i64 10)], argTypes := ts })
    (htab : Tab10 w0) (v : Value) (xs : List Int) (n : Int) (hs : a.eval s = v) (hx : a.eval x = .int .i64 n)
    (hn : -9223372036854775808 ≤ n ∧ n ≤ 9223372036854775807)
    (HO : W.ownsRow w0.heap.size 5 1 v xs.length (nums .u8 xs)) (HB : Below w0.heap.size w0 W) (hbase : w0.heap.size ≤ W.heap.size) (hl : xs.length + 21 ≤ 140737488355328)
    (h : ∀ v1 w1, w1.ownsRow w0.heap.size 5 1 v1 (xs ++ bytesOf (itoaS n)).length (nums .u8 (xs ++ bytesOf (itoaS n))) → Below w0.heap.size w0 w1 → True → wpList Tryd.prog ops Q rest (a.put o.dst v1) w1) :
    wpList Tryd.prog ops Q (o :: rest) a W := by
  refine goesL_ d hd hg Tryd.func15 (by kernel_rfl) rfl #[v, .int .i64 n, .int .i64 10] ho (by simp only [List.map_toArray, List.map_cons, List.map_nil, hs, hx]; rfl) ?_
  refine (Tryd.strconv_AppendInt_10 w0.heap.size xs.length n hn.1 hn.2 v (nums .u8 xs) W HO hbase hl ((Lib.tabBelow_of_tabIs htab).on HB)).mono ?_
  rintro e w' ⟨v', rfl, hown, hb, -⟩
  refine ⟨v', rfl, ?_⟩
  rw [← hd]
  refine h v' w' ?_ (HB.trans hb) trivial
  rw [List.length_append, bytesOf_length, itoaS_size, nums_append, bytesOf_itoaS]
  exact hown
end Go.Proofs.YtkanmafjjejpmaaDoor.X
