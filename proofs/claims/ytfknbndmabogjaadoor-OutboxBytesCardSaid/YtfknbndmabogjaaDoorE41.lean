/-
  The walks and the laws that the statement leans on, part 41.
-/
import Derived.Test.YtfknbndmabogjaaDoorE32
import Derived.Test.YtfknbndmabogjaaDoorE40
namespace Go.Proofs.YtfknbndmabogjaaDoor.Wi
open Go
set_option linter.unusedVariables false
set_option linter.unusedSimpArgs false
theorem cF_put (n m : Nat) (rest : List Int) (hn : n < 18446744073709551616) (hm : n ≤ m) : cF m (putL 0 n ++ rest) = some (n, rest) := by
  unfold cF
  rw [nF_put n rest hn]
  simp only
  rw [if_neg (by omega)]
theorem tF_put (s : ByteArray) (m : Nat) (rest : List Int) (hs : s.size ≤ m) (hm : m ≤ 1000000) : tF m (putL 0 s.size ++ strL s ++ rest) = some (strL s, rest) := by
  unfold tF
  rw [List.append_assoc, cF_put s.size m _ (by omega) hs]
  have hl := strL_len s
  simp only
  rw [if_neg (by rw [List.length_append]; omega), List.take_left' hl, List.drop_left' hl]
theorem fF_put (f : Bool) (rest : List Int) : fF ([if f then 1 else 0] ++ rest) = some (f, rest) := by
  cases f
  · show (if (1 : Int) < 0 then none else some (((0 : Int) == 1), rest)) = _
    rw [if_neg (by decide)]; rfl
  · show (if (1 : Int) < 1 then none else some (((1 : Int) == 1), rest)) = _
    rw [if_neg (by decide)]; rfl
end Go.Proofs.YtfknbndmabogjaaDoor.Wi
