/-
  The law SignedAdds, as the frame asks for it.
-/
import Derived.Test.YtngdgicgppaeaaaSiL
namespace Go.Proofs.Ytngdgicgppaeaaa
open Go
abbrev sgTy : Ty := .st [.bool, .st [.int .u64, .int .u64]]
theorem sg_shp {xs : List AV} (h : Shp sgTy xs) : ∃ b h l, AV.agg xs = sgA b h l ∧ 0 ≤ h ∧ h ≤ 18446744073709551615 ∧ 0 ≤ l ∧ l ≤ 18446744073709551615 := by
  simp only [Shp, ShpL] at h
  obtain ⟨_, _, rfl, ⟨b, rfl⟩, _, _, rfl, ⟨_, _, rfl, ⟨h, rfl, hh⟩, _, _, rfl, ⟨l, rfl, hl⟩, rfl⟩, rfl⟩ := h
  have h1 := wf_u64 hh
  have h2 := wf_u64 hl
  exact ⟨b, h, l, rfl, h1.1, h1.2, h2.1, h2.2⟩
theorem sgA_nat (b : Bool) (h l : Nat) (hl : l < 18446744073709551616) : sgA b (h : Int) (l : Int) = sgN b (h * 18446744073709551616 + l) := by
  unfold sgN
  rw [show (h * 18446744073709551616 + l) / 18446744073709551616 = h by omega, show (h * 18446744073709551616 + l) % 18446744073709551616 = l by omega]
theorem adds_law {xs ys : List AV} (hx : Shp sgTy xs) (hy : Shp sgTy ys) : ACt Try.prog 5 [.agg xs, .agg ys] [] (fun r _ => r = bv true) := by
  obtain ⟨b, h, l, e, h1, h2, h3, h4⟩ := sg_shp hx
  obtain ⟨b', h', l', e', h1', h2', h3', h4'⟩ := sg_shp hy
  obtain ⟨h, rfl⟩ := Int.eq_ofNat_of_zero_le h1
  obtain ⟨l, rfl⟩ := Int.eq_ofNat_of_zero_le h3
  obtain ⟨h', rfl⟩ := Int.eq_ofNat_of_zero_le h1'
  obtain ⟨l', rfl⟩ := Int.eq_ofNat_of_zero_le h3'
  rw [e, e', sgA_nat b h l (by omega), sgA_nat b' h' l' (by omega)]
  exact adds2_law b b' _ _ (by omega) (by omega)
end Go.Proofs.Ytngdgicgppaeaaa
