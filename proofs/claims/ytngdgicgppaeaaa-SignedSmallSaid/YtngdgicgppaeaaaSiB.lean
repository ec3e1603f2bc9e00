/-
  The law SignedSmall.
-/
import Derived.Test.YtngdgicgppaeaaaSiA
namespace Go.Proofs.Ytngdgicgppaeaaa
open Go
set_option linter.unusedVariables false
set_option linter.unusedSimpArgs false
abbrev sgTy : Ty := .st [.bool, .st [.int .u64, .int .u64]]
theorem sg_shp {xs : List AV} (h : Shp sgTy xs) : ∃ b h l, AV.agg xs = sgA b h l ∧ 0 ≤ h ∧ h ≤ 18446744073709551615 ∧ 0 ≤ l ∧ l ≤ 18446744073709551615 := by
  simp only [Shp, ShpL] at h
  obtain ⟨_, _, rfl, ⟨b, rfl⟩, _, _, rfl, ⟨_, _, rfl, ⟨h, rfl, hh⟩, _, _, rfl, ⟨l, rfl, hl⟩, rfl⟩, rfl⟩ := h
  have h1 := wf_u64 hh
  have h2 := wf_u64 hl
  exact ⟨b, h, l, rfl, h1.1, h1.2, h2.1, h2.2⟩
theorem small_law2 {xs : List AV} (n : Int) (hn1 : -9223372036854775808 ≤ n) (hn2 : n ≤ 9223372036854775807) (hx : Shp sgTy xs) : ACt Try.prog 3 [iv .i64 n, .agg xs] [] (fun r _ => r = bv true) := by
  obtain ⟨b, h, l, e, h1, h2, h3, h4⟩ := sg_shp hx
  rw [e]
  exact small_law n b h l hn1 hn2 h1 h3
end Go.Proofs.Ytngdgicgppaeaaa
