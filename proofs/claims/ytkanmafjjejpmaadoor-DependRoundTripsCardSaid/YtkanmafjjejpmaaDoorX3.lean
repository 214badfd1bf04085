/- Contract of corporaref09.Digits: the decimal digits. No condition. -/
import Derived.Test.YtkanmafjjejpmaaDoorX0
import Derived.Lib.ItoaNum
import Derived.Lib.ItoaLen
import Derived.Laws.Runes
namespace Go.Proofs.YtkanmafjjejpmaaDoor.X
open Go.RowKit Go.Proofs.YtkanmafjjejpmaaDoorW.PrintWords

theorem encode_digit (d : Nat) (h : d < 10) : Utf8.encode (48 + (d : Int)) = ⟨#[UInt8.ofNat (48 + d)]⟩ := by
  have : ∀ d : Fin 10, Utf8.encode (48 + ((d : Nat) : Int)) = ⟨#[UInt8.ofNat (48 + (d : Nat))]⟩ := by decide +kernel
  exact this ⟨d, h⟩

theorem dec_small {a : Int} (h0 : 0 ≤ a) (h : a < 10) : Utf8.encode (48 + a) = ⟨(Lib.decDigits a.toNat).toArray⟩ := by
  have e := encode_digit a.toNat (by omega)
  rw [show ((a.toNat : Nat) : Int) = a by omega] at e
  rw [e, Lib.decDigits_one (by omega)]
theorem dec_big {a : Int} (h : 10 ≤ a) : (⟨(Lib.decDigits (a / 10).toNat).toArray⟩ : ByteArray) ++ Utf8.encode (48 + a % 10) = ⟨(Lib.decDigits a.toNat).toArray⟩ := by
  have e := encode_digit (a % 10).toNat (by omega)
  rw [show (((a % 10).toNat : Nat) : Int) = a % 10 by omega] at e
  rw [e]
  have e2 : Lib.decDigits a.toNat = Lib.decDigits (a / 10).toNat ++ [UInt8.ofNat (48 + (a % 10).toNat)] := by
    rw [Lib.decDigits, dif_neg (by omega), show a.toNat / 10 = (a / 10).toNat by omega, show a.toNat % 10 = (a % 10).toNat by omega]
  rw [e2]
  apply ByteArray.ext
  simp [ByteArray.data_append]
theorem dec_len {a : Int} (h0 : 0 ≤ a) (h1 : a < 4611686018427387904) : (Lib.decDigits a.toNat).length ≤ 20 := by
  rw [Lib.decDigits_length]
  exact Lib.nDigits_le20 _ (by omega)
theorem encode_one {a : Int} (h0 : 0 ≤ a) (h : a < 10) : (Utf8.encode (48 + a)).size = 1 := by
  have e := encode_digit a.toNat (by omega)
  rw [show ((a.toNat : Nat) : Int) = a by omega] at e
  rw [e]; rfl

theorem digits_walk : ∀ (n : Nat) (a : Int), 0 ≤ a → a ≤ n → a < 4611686018427387904 → ∀ (w : World),
    Calls Tryd.prog 18 #[.int .i64 a] w fun e w' => e = .returned (.string ⟨(Lib.decDigits a.toNat).toArray⟩) ∧ Drawn0 w w' := by
  intro n
  induction n with
  | zero =>
    intro a ha hb hc w
    go_enter Tryd.func18, Tryd.ntmps18
    go_wp2_with (go_at_call 18; exfalso; omega)
    go_ret
    exact ⟨congrArg (fun x => Ending.returned (Value.string x)) (dec_small ha (by omega)), Drawn0.refl _⟩
  | succ n ih =>
    intro a ha hb hc w
    go_enter Tryd.func18, Tryd.ntmps18
    go_wp2_with (go_at_call 18; refine (ih _ (by omega) (by omega) (by omega) _).mono ?_; rintro e w' ⟨rfl, hd⟩)
    · go_ret
      exact ⟨congrArg (fun x => Ending.returned (Value.string x)) (dec_small ha (by assumption)), Drawn0.refl _⟩
    · exfalso
      have := dec_len (a := a / 10) (by omega) (by omega)
      have := encode_one (a := a % 10) (by omega) (by omega)
      omega
    · go_ret
      exact ⟨congrArg (fun x => Ending.returned (Value.string x)) (dec_big (by omega)), by assumption⟩

def corporaref09_Digits.f (a : Int) : Option ByteArray := if 0 ≤ a then (if a < 4611686018427387904 then some ⟨(Lib.decDigits a.toNat).toArray⟩ else none) else none

theorem corporaref09_Digits.calls (a : Int) (r : ByteArray) (w : World) (h : corporaref09_Digits.f a = some r) :
    Calls Tryd.prog 18 #[.int .i64 a] w fun e w' => e = .returned (.string r) ∧ Drawn0 w w' := by
  unfold corporaref09_Digits.f at h
  split at h
  · split at h
    · obtain rfl := Option.some.inj h
      exact digits_walk a.toNat a (by omega) (by omega) (by omega) w
    · cases h
  · cases h
end Go.Proofs.YtkanmafjjejpmaaDoor.X
