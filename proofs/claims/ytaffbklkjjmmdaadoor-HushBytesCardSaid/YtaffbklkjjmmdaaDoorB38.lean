/-
  The walks and the laws that the statement leans on, part 38.
-/
import Derived.Test.YtaffbklkjjmmdaaDoorB10
import Derived.Test.YtaffbklkjjmmdaaDoorB24
import Derived.Test.YtaffbklkjjmmdaaDoorB37
namespace Go.Proofs.YtaffbklkjjmmdaaDoor
open Go
set_option linter.unusedVariables false
set_option linter.unusedSimpArgs false
def seqB (a b : Sl) : Bool := a.nm == b.nm && (a.gl == b.gl && (a.w == b.w && (a.f == b.f && a.t == b.t)))
theorem seqB_iff (a b : Sl) : seqB a b = true ↔ a = b := by
  obtain ⟨an, ag, aw, af, at_⟩ := a
  obtain ⟨bn, bg, bw, bf, bt⟩ := b
  simp [seqB, ba_iff]
abbrev silTy : Ty := .st [.str, .str, .int .i64, .int .i64, .int .i64]
theorem sil_shp {xs : List AV} (h : Shp silTy xs) : ∃ s : Sl, xs = [.lit (.string s.nm), .lit (.string s.gl), iv .i64 s.w, iv .i64 s.f, iv .i64 s.t] ∧ (-9223372036854775808 ≤ s.w ∧ s.w ≤ 9223372036854775807) ∧ (-9223372036854775808 ≤ s.f ∧ s.f ≤ 9223372036854775807) ∧ (-9223372036854775808 ≤ s.t ∧ s.t ≤ 9223372036854775807) := by
  simp only [Shp, ShpL] at h
  obtain ⟨_, _, rfl, ⟨a, rfl, ha⟩, _, _, rfl, ⟨b, rfl, hb⟩, _, _, rfl, ⟨c, rfl, hc⟩, _, _, rfl, ⟨d, rfl, hd⟩, _, _, rfl, ⟨e, rfl, he⟩, rfl⟩ := h
  exact ⟨⟨a, b, c, d, e⟩, rfl, wf_i64 hc, wf_i64 hd, wf_i64 he⟩
end Go.Proofs.YtaffbklkjjmmdaaDoor
