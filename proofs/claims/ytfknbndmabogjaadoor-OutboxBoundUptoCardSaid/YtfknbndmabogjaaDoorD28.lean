/-
  The walks and the laws that the statement leans on, part 28.
-/
import Derived.Test.YtfknbndmabogjaaDoorD26
import Derived.Test.YtfknbndmabogjaaDoorD27
namespace Go.Proofs.YtfknbndmabogjaaDoor
open Go
set_option linter.unusedVariables false
set_option linter.unusedSimpArgs false
theorem getD_mdl {pre post : List AV} {a b : AV} {i : Nat} (h : i ≠ pre.length) : (pre ++ a :: post).getD i .any = (pre ++ b :: post).getD i .any := by
  simp only [List.getD_eq_getElem?_getD]
  by_cases hlt : i < pre.length
  · rw [List.getElem?_append_left hlt, List.getElem?_append_left hlt]
  · rw [List.getElem?_append_right (by omega), List.getElem?_append_right (by omega)]
    obtain ⟨q, hq⟩ : ∃ q, i - pre.length = q + 1 := ⟨i - pre.length - 1, by omega⟩
    rw [hq, List.getElem?_cons_succ, List.getElem?_cons_succ]
theorem getD_atm {pre post : List AV} {a : AV} : (pre ++ a :: post).getD pre.length .any = a := by
  simp only [List.getD_eq_getElem?_getD]
  rw [List.getElem?_append_right (Nat.le_refl _), Nat.sub_self]; rfl
theorem box_arg {f : Nat} {pre post : List AV} {d : Int} {l : List En} {n : Nat} {R : AV} (hn : l.length = n) (hl : n ≤ 100000)
    (h1 : ∀ X, ((∃ m D, X = .sl m D) ∨ (∃ ad cap, X = .lit (.slice (some ad) 0 cap))) → ACt Tryd.prog 76 [X] [] (fun r F' => ∃ x c : Nat, (n ≤ c ∧ c ≤ 9223372036854775807) ∧ r = ms x 0 n c ∧ F' = (x, .cells (ecs l) (c * 9) 38) :: []) → ACt Tryd.prog f (pre ++ .agg [X, iv .u64 d] :: post) [] (fun r F' => Vw F' r R))
    (h2 : l = [] → ∀ cap, ACt Tryd.prog f (pre ++ .agg [.lit (.slice none 0 cap), iv .u64 d] :: post) [] (fun r F' => Vw F' r R)) :
    ACt Tryd.prog f (pre ++ .agg [.sl n (ecs l), iv .u64 d] :: post) [] (Fn R) := by
  by_cases hn1 : 1 ≤ n
  · exact ACt.fzV (h1 _ (.inl ⟨_, _, rfl⟩) (clone_rowS l n hn hn1 hl))
  obtain rfl : n = 0 := by omega
  obtain rfl : l = [] := List.eq_nil_of_length_eq_zero hn
  intro cx vs hK hKT hw hs hv
  have h0 := hv pre.length (by simp)
  rw [getD_atm] at h0
  obtain ⟨a, cap, e, hm⟩ : ∃ a cap, Rep cx.w0 cx.I (vs.getD pre.length undef) (.agg [.lit (.slice a 0 cap), iv .u64 d]) ∧ cap ≤ maxLen := by
    generalize vs.getD pre.length undef = u at h0
    cases h0 with
    | agg us cs hs r =>
      have r0 := r 0 (by simp)
      have r1 := r 1 (by simp)
      simp only [List.getElem_cons_zero, List.getElem_cons_succ] at r0 r1
      generalize hu : us.getD 0 undef = u0 at r0
      cases r0 with
      | sl a n cap cs g hn hm h r =>
        refine ⟨a, cap, .agg us _ hs fun i hi => ?_, hm⟩
        match i, hi with
        | 0, _ => rw [hu]; exact .lit _
        | 1, _ => exact r1
  have hv' : ∀ i, i < (pre ++ .agg [.lit (.slice a 0 cap), iv .u64 d] :: post).length → Rep cx.w0 cx.I (vs.getD i undef) ((pre ++ .agg [.lit (.slice a 0 cap), iv .u64 d] :: post).getD i .any) := fun i hi => by
    by_cases hip : i = pre.length
    · subst hip; rw [getD_atm]; exact e
    · rw [getD_mdl hip]; exact hv i (by simpa using hi)
  have hs' : vs.size = (pre ++ .agg [.lit (.slice a 0 cap), iv .u64 d] :: post).length := by rw [hs]; simp
  cases a with
  | none => exact ACt.fzV (h2 rfl cap) cx vs hK hKT hw hs' hv'
  | some ad => exact ACt.fzV (h1 _ (.inr ⟨_, _, rfl⟩) (clone_rowZ ad cap hm)) cx vs hK hKT hw hs' hv'
end Go.Proofs.YtfknbndmabogjaaDoor
