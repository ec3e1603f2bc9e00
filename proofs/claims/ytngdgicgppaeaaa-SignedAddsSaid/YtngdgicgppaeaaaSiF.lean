/-
  The law SignedBetween.
-/
import Derived.Test.YtngdgicgppaeaaaSiE
namespace Go.Proofs.Ytngdgicgppaeaaa
open Go
set_option linter.unusedVariables false
set_option linter.unusedSimpArgs false

theorem bitsW_ct (a : Nat) (ha : a < 340282366920938463463374607431768211456) : ACt Try.prog 13 [wideA a] [] (Fn (.sl 128 (bl (bitsN a 128)))) := by
  have := bits_ct (a / 18446744073709551616) (a % 18446744073709551616) (by omega) (by omega)
  rw [show a / 18446744073709551616 * 18446744073709551616 + a % 18446744073709551616 = a by omega] at this
  exact this
theorem bits_val (a : Nat) (ha : a < 340282366920938463463374607431768211456) : valB (bitsN a 128) = a := by
  have p : (2 : Nat) ^ 128 = 340282366920938463463374607431768211456 := by decide
  rw [valB_bitsN, p, Nat.mod_eq_of_lt ha]
theorem dAbs_lt (a b : Nat) (ha : a < 340282366920938463463374607431768211456) (hb : b < 340282366920938463463374607431768211456) : dAbs a b < 340282366920938463463374607431768211456 := by unfold dAbs; split <;> omega
end Go.Proofs.Ytngdgicgppaeaaa
