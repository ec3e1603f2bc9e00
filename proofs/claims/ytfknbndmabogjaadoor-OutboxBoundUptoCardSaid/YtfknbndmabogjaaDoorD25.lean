/-
  The walks and the laws that the statement leans on, part 25.
-/
import Derived.Test.YtfknbndmabogjaaDoorD9
import Derived.Test.YtfknbndmabogjaaDoorD24
namespace Go.Proofs.YtfknbndmabogjaaDoor
open Go
set_option linter.unusedVariables false
set_option linter.unusedSimpArgs false
abbrev keyTy : Ty := .st [.str, .str, .bool, .int .u64, .bool]
theorem key_shp {xs : List AV} (h : Shp keyTy xs) : ∃ k : Ky, xs = [.lit (.string k.g), .lit (.string k.r), bv k.p, iv .u64 k.e, bv k.s] := by
  simp only [Shp, ShpL] at h
  obtain ⟨_, _, rfl, ⟨a, rfl, ha⟩, _, _, rfl, ⟨b, rfl, hb⟩, _, _, rfl, ⟨c, rfl⟩, _, _, rfl, ⟨d, rfl, hd⟩, _, _, rfl, ⟨e, rfl⟩, rfl⟩ := h
  exact ⟨⟨a, b, c, d, e⟩, rfl⟩
end Go.Proofs.YtfknbndmabogjaaDoor
