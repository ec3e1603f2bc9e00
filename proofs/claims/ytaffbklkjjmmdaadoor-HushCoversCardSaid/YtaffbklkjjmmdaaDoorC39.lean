/-
  The walks and the laws that the statement leans on, part 39.
-/
import Derived.Test.YtaffbklkjjmmdaaDoorC9
import Derived.Test.YtaffbklkjjmmdaaDoorC38
namespace Go.Proofs.YtaffbklkjjmmdaaDoor
open Go
set_option linter.unusedVariables false
set_option linter.unusedSimpArgs false
theorem cmp_cells {l D : List Sl} {n p q : Nat} (hf : ∀ e ∈ l, fb e) (hP : D.Perm l) (hn : D.length = n) (hp : p < n) (hq : q < n) : ∃ (un ug : ByteArray) (uw uf ut : Int) (vn vg : ByteArray) (vw vf vt : Int) (z : Int) (U V : List AV),
    (scs D).drop (p * 5) = .lit (.string un) :: .lit (.string ug) :: iv .i64 uw :: iv .i64 uf :: iv .i64 ut :: U ∧
    (scs D).drop (q * 5) = .lit (.string vn) :: .lit (.string vg) :: iv .i64 vw :: iv .i64 vf :: iv .i64 vt :: V ∧
    ACt Tryd.prog 39 [.agg [.lit (.string un), .lit (.string ug), iv .i64 uw, iv .i64 uf, iv .i64 ut], .agg [.lit (.string vn), .lit (.string vg), iv .i64 vw, iv .i64 vf, iv .i64 vt]] [] (Fn (iv .i64 z)) ∧
    decide (z < 0) = decide ((at_ D p).f < (at_ D q).f) ∧ (p + 1) * 5 ≤ (scs D).length ∧ (q + 1) * 5 ≤ (scs D).length ∧ (scs D).length = n * 5 := by
  have h1 := scs_at D p (by omega)
  have h2 := scs_at D q (by omega)
  have h3 := cmp_ct (at_ D p) (at_ D q) (fb_at hf hP (by omega)) (fb_at hf hP (by omega))
  have h4 := cmp_lt (at_ D p) (at_ D q)
  have h5 := scs_len D
  exact ⟨_, _, _, _, _, _, _, _, _, _, _, _, _, h1, h2, h3, h4, by omega, by omega, by omega⟩
theorem swp_cells (D : List Sl) {n i j : Nat} (hn : D.length = n) (hi : i < n) (hj : j < n) : ∃ (un ug : ByteArray) (uw uf ut : Int) (vn vg : ByteArray) (vw vf vt : Int) (U V C3 : List AV),
    (scs D).drop (i * 5) = .lit (.string un) :: .lit (.string ug) :: iv .i64 uw :: iv .i64 uf :: iv .i64 ut :: U ∧
    (scs D).drop (j * 5) = .lit (.string vn) :: .lit (.string vg) :: iv .i64 vw :: iv .i64 vf :: iv .i64 vt :: V ∧
    (scs D).take (i * 5) ++ [.lit (.string vn), .lit (.string vg), iv .i64 vw, iv .i64 vf, iv .i64 vt] ++ (scs D).drop (i * 5 + 5) = C3 ∧
    C3.take (j * 5) ++ [.lit (.string un), .lit (.string ug), iv .i64 uw, iv .i64 uf, iv .i64 ut] ++ C3.drop (j * 5 + 5) = scs (swp D i j) ∧
    C3.length = n * 5 ∧ (scs D).length = n * 5 ∧ (i + 1) * 5 ≤ n * 5 ∧ (j + 1) * 5 ≤ n * 5 := by
  have h1 := scs_at D i (by omega)
  have h2 := scs_at D j (by omega)
  have h3 := scs_set5 D i (by omega) (at_ D j)
  have h4 := scs_set5 (D.set i (at_ D j)) j (by rw [List.length_set]; omega) (at_ D i)
  have h5 := scs_len (D.set i (at_ D j))
  rw [List.length_set, hn] at h5
  have h6 := scs_len D
  rw [hn] at h6
  exact ⟨_, _, _, _, _, _, _, _, _, _, _, _, _, h1, h2, h3, h4, h5, h6, by omega, by omega⟩
end Go.Proofs.YtaffbklkjjmmdaaDoor
