/-
  The law WireWrites, as the frame asks for it.
-/
import Derived.Test.YtkfhekenaogceaaWiT
namespace Go.Proofs.Ytkfhekenaogceaa
open Go
theorem writes_law (hd : List Int) (n i : Int) (s : ByteArray) (f : Bool) (hn : 0 ≤ n ∧ n ≤ 18446744073709551615) (hi : -9223372036854775808 ≤ i ∧ i ≤ 9223372036854775807) :
    ACt Try.prog 5 [.slz .u8 hd, iv .u64 n, iv .i64 i, .lit (.string s), bv f] [] (fun r _ => r = bv true) := by
  obtain ⟨n, rfl⟩ := Int.eq_ofNat_of_zero_le hn.1
  exact writes_ct hd n i s f (by omega) hi.1 hi.2
end Go.Proofs.Ytkfhekenaogceaa
