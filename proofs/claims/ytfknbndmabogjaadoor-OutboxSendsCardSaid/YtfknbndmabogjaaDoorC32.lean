/-
  The walks and the laws that the statement leans on, part 32.
-/
import Derived.Test.YtfknbndmabogjaaDoorC9
import Derived.Test.YtfknbndmabogjaaDoorC31
namespace Go.Proofs.YtfknbndmabogjaaDoor
open Go
set_option linter.unusedVariables false
set_option linter.unusedSimpArgs false
theorem hk_len {ks : List Ky} (h : hkB ks = false) : ks.length ≤ 100 := by
  unfold hkB at h
  simp only [Bool.or_eq_false_iff, decide_eq_false_iff_not] at h
  omega
theorem ky_rows : ∀ (rows : List (List AV)), (∀ r ∈ rows, Shp keyTy r) → ∃ L : List Ky, L.length = rows.length ∧ rows.flatten = kcs L
  | [], _ => ⟨[], rfl, rfl⟩
  | r :: rows, h => by
    obtain ⟨L, l1, l2⟩ := ky_rows rows fun x hx => h x (List.mem_cons_of_mem _ hx)
    obtain ⟨k, rfl⟩ := key_shp (h r (List.mem_cons_self ..))
    exact ⟨k :: L, by simp [l1], by simp [l2, kcs]⟩
end Go.Proofs.YtfknbndmabogjaaDoor
