/-
  The walks and the laws that the statement leans on, part 34.
-/
import Derived.Test.YtmbecppmkglmhaaDoorC8
import Derived.Test.YtmbecppmkglmhaaDoorC9
import Derived.Test.YtmbecppmkglmhaaDoorC11
namespace Go.Proofs.YtmbecppmkglmhaaDoor.Wi
open Go
def lenN (q : Nat) : Nat := if q = 0 then 0 else Nat.log2 q + 1
theorem lenN_le {q d : Nat} : lenN q ≤ d ↔ q < 2 ^ d := by
  unfold lenN
  by_cases h : q = 0
  · subst h; simp [Nat.two_pow_pos]
  · rw [if_neg h, ← Nat.log2_lt h]; omega
theorem wrap_u64_nat {n : Nat} (h : n < 18446744073709551616) : IntKind.u64.wrap (n : Int) = (n : Int) := wrap_u64 (by omega) (by omega)
theorem wrap_i64_nat {n : Nat} (h : n < 9223372036854775808) : IntKind.i64.wrap (n : Int) = (n : Int) := wrap_i64 (by omega) (by omega)
theorem ofInt_nat (n : Nat) : BitVec.ofInt 64 (n : Int) = BitVec.ofNat 64 n := by
  apply BitVec.eq_of_toNat_eq; simp
set_option linter.unusedVariables false
set_option linter.unusedSimpArgs false
abbrev nu (n : Nat) : AV := iv .u64 (n : Int)
def byteL (n : Nat) : Nat → List Int
  | 0 => []
  | k + 1 => ((n / 256 ^ k % 256 : Nat) : Int) :: byteL n k
theorem byteL_len (n : Nat) : ∀ k, (byteL n k).length = k
  | 0 => rfl
  | k + 1 => by simp [byteL, byteL_len n k]
abbrev nilS : AV := .lit (.slice none 0 0)
end Go.Proofs.YtmbecppmkglmhaaDoor.Wi
