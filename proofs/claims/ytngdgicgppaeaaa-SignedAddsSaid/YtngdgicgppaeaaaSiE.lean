/-
  The sum of two signed numbers.
-/
import Derived.Test.YtngdgicgppaeaaaSiD
namespace Go.Proofs.Ytngdgicgppaeaaa
open Go
set_option linter.unusedVariables false
set_option linter.unusedSimpArgs false

theorem rightN (f : Bool) (n : Nat) (h : f = true → 0 < n) : ACt Try.prog 25 [sgN f n] [] (Fn (sgN f n)) := by
  have := right_ct f ((n / 18446744073709551616 : Nat) : Int) ((n % 18446744073709551616 : Nat) : Int)
  rw [rgtN f n h] at this
  exact this
theorem sizedN (f : Bool) (n : Nat) (h : f = true → 0 < n) : ACt Try.prog 24 [bv f, wideA n] [] (Fn (sgN f n)) := by
  have := sized_ct f ((n / 18446744073709551616 : Nat) : Int) ((n % 18446744073709551616 : Nat) : Int)
  rw [rgtN f n h] at this
  exact this
theorem addW (a b : Nat) (h : a + b < 340282366920938463463374607431768211456) : ACt Try.prog 31 [wideA a, wideA b] [] (Fn (.tup [wideA (a + b), iv .i64 0])) := by
  have := add_ct (a / 18446744073709551616) (a % 18446744073709551616) (b / 18446744073709551616) (b % 18446744073709551616) (by omega) (by omega) (by omega) (by omega) (by omega)
  rw [show a / 18446744073709551616 * 18446744073709551616 + a % 18446744073709551616 + (b / 18446744073709551616 * 18446744073709551616 + b % 18446744073709551616) = a + b by omega] at this
  exact this

end Go.Proofs.Ytngdgicgppaeaaa
