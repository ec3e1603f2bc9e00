/-
  The walks and the laws that the statement leans on, part 30.
-/
import Derived.Test.YtfknbndmabogjaaDoorE26
import Derived.Test.YtfknbndmabogjaaDoorE29
namespace Go.Proofs.YtfknbndmabogjaaDoor
open Go
set_option linter.unusedVariables false
set_option linter.unusedSimpArgs false
theorem ixE_at : ∀ (l : List En) (k : Ky) (j : Nat) (h : j < l.length) (i : Int), (∀ q (hq : q < l.length), q < j → l[q].k ≠ k) → l[j].k = k → ixE l k i = i + (j : Int)
  | e :: l, k, 0, h, i, h1, h2 => by
    rw [ixE_cons, if_pos ((keqB_iff e.k k).2 h2)]; omega
  | e :: l, k, j + 1, h, i, h1, h2 => by
    have h0 : ¬ keqB e.k k = true := fun hh => h1 0 (by simp) (by omega) ((keqB_iff _ _).1 hh)
    rw [ixE_cons, if_neg h0, ixE_at l k j (by simpa using h) (i + 1) (fun q hq hqj => h1 (q + 1) (by simpa using hq) (by omega)) (by simpa using h2)]
    omega
theorem rg_nodup (l : List En) : rgB l l 0 = true ↔ (∀ e ∈ l, erB e = true) ∧ (l.map (·.k)).Nodup := by
  rw [rgB_iff]
  constructor
  · intro h
    refine ⟨fun e he => ?_, ?_⟩
    · obtain ⟨j, hj, rfl⟩ := List.mem_iff_getElem.1 he
      exact (h j hj).1
    · rw [List.Nodup, List.pairwise_iff_getElem]
      intro i j hi hj hij he
      simp only [List.length_map] at hi hj
      simp only [List.getElem_map] at he
      have h1 := (h i hi).2
      have h2 := (h j hj).2
      rw [he, h2] at h1
      omega
  · intro ⟨h1, h2⟩ j hj
    refine ⟨h1 _ (List.getElem_mem _), ?_⟩
    rw [ixE_at l _ j hj 0 (fun q hq hqj he => ?_) rfl]
    · omega
    · rw [List.Nodup, List.pairwise_iff_getElem] at h2
      exact h2 q j (by simpa using hq) (by simpa using hj) hqj (by simpa using he)
theorem bx_iff (b : Bx) : bxB b = true ↔ (b.l.length ≤ 64 ∧ b.d ≤ 9223372036854775807) ∧ (∀ e ∈ b.l, erB e = true) ∧ (b.l.map (·.k)).Nodup := by
  unfold bxB
  rw [Bool.and_eq_true, Bool.and_eq_true, decide_eq_true_eq, decide_eq_true_eq, rg_nodup]
end Go.Proofs.YtfknbndmabogjaaDoor
