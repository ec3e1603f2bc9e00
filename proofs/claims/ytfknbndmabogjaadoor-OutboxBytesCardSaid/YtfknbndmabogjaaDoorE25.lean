/-
  The walks and the laws that the statement leans on, part 25.
-/
import Derived.Test.YtfknbndmabogjaaDoorE21
import Derived.Test.YtfknbndmabogjaaDoorE24
namespace Go.Proofs.YtfknbndmabogjaaDoor
open Go
set_option linter.unusedVariables false
set_option linter.unusedSimpArgs false
theorem hv_kz {k : Ky} (h : hvB k = false) : Kz k := by
  unfold hvB at h
  simp only [Bool.or_eq_false_iff, decide_eq_false_iff_not] at h
  exact ⟨by omega, by omega⟩
theorem hb_kz {b : Bx} (h : hbB b = false) : b.l.length ≤ 80 ∧ ∀ e ∈ b.l, Kz e.k := by
  unfold hbB at h
  simp only [Bool.or_eq_false_iff, decide_eq_false_iff_not] at h
  refine ⟨by omega, fun e he => hv_kz ?_⟩
  have := h.2
  rw [List.any_eq_false] at this
  simpa using this e he
theorem ixE_cons (e : En) (l : List En) (k : Ky) (i : Int) : ixE (e :: l) k i = if keqB e.k k then i else ixE l k (i + 1) := rfl
theorem rgB_iff : ∀ (L l : List En) (i : Nat), rgB L l i = true ↔ ∀ j (h : j < l.length), erB l[j] = true ∧ ixE L l[j].k 0 = ((i + j : Nat) : Int)
  | L, [], i => by simp [rgB]
  | L, e :: l, i => by
    rw [rgB, Bool.and_eq_true, Bool.and_eq_true, rgB_iff L l (i + 1)]
    constructor
    · rintro ⟨⟨h1, h2⟩, h3⟩ j h
      cases j with
      | zero => exact ⟨h1, by simpa using h2⟩
      | succ j =>
        have := h3 j (by simpa using h)
        exact ⟨this.1, by rw [List.getElem_cons_succ, this.2]; omega⟩
    · intro h
      refine ⟨⟨(h 0 (by simp)).1, ?_⟩, fun j hj => ?_⟩
      · have := (h 0 (by simp)).2
        simpa using this
      · have := h (j + 1) (by simpa using hj)
        rw [List.getElem_cons_succ] at this
        exact ⟨this.1, by rw [this.2]; omega⟩
end Go.Proofs.YtfknbndmabogjaaDoor
