/-
  The law WireReads, as the frame asks for it.
-/
import Derived.Test.YtkfhekenaogceaaWiZC
namespace Go.Proofs.Ytkfhekenaogceaa
open Go
abbrev thTy : Ty := .st [.int .i64, .int .i64]
theorem th_rows : ∀ (rows : List (List AV)), (∀ r ∈ rows, Shp thTy r) → ∃ L : List (Int × Int), L.length = rows.length ∧ rows.flatten = thC L ∧ ∀ p ∈ L, (-9223372036854775808 ≤ p.1 ∧ p.1 ≤ 9223372036854775807) ∧ -9223372036854775808 ≤ p.2 ∧ p.2 ≤ 9223372036854775807
  | [], _ => ⟨[], rfl, rfl, fun p hp => by cases hp⟩
  | r :: rows, h => by
    obtain ⟨L, l1, l2, l3⟩ := th_rows rows fun x hx => h x (List.mem_cons_of_mem _ hx)
    have h0 := h r (List.mem_cons_self ..)
    simp only [Shp, ShpL] at h0
    obtain ⟨_, _, rfl, ⟨a, rfl, ha⟩, _, _, rfl, ⟨b, rfl, hb⟩, rfl⟩ := h0
    refine ⟨(a, b) :: L, by simp [l1], by simp [l2, thC], fun p hp => ?_⟩
    rcases List.mem_cons.1 hp with rfl | hp
    · exact ⟨wf_i64 ha, wf_i64 hb⟩
    · exact l3 p hp
theorem by_ub (bs : List UInt8) : By (ub bs) := by
  intro x hx
  unfold ub at hx
  obtain ⟨b, _, rfl⟩ := List.mem_map.1 hx
  have := b.toNat_lt
  omega
theorem reads_law (bs : List UInt8) {y : AV} (hy : Shp (.sl thTy) [y]) : ACt Try.prog 3 [.slz .u8 (ub bs), y] [] (fun r _ => r = bv true) := by
  simp only [Shp] at hy
  obtain ⟨rows, e, hr⟩ := hy
  obtain rfl : y = _ := (List.cons.inj e).1
  obtain ⟨L, l1, l2, l3⟩ := th_rows rows hr
  rw [← l1, l2]
  exact reads_ct (ub bs) L (by_ub bs) l3
end Go.Proofs.Ytkfhekenaogceaa
