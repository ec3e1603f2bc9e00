/-
  The walks and the laws that the statement leans on, part 18.
-/
import Derived.Test.YtaffbklkjjmmdaaDoorC9
import Derived.Test.YtaffbklkjjmmdaaDoorC17
namespace Go.Proofs.YtaffbklkjjmmdaaDoor
open Go
set_option linter.unusedVariables false
set_option linter.unusedSimpArgs false
abbrev sc (e : Sl) (r : List AV) : List AV := .lit (.string e.nm) :: .lit (.string e.gl) :: iv .i64 e.w :: iv .i64 e.f :: iv .i64 e.t :: r
abbrev nsl : AV := .lit (.slice none 0 0)
def scs : List Sl → List AV
  | [] => []
  | e :: l => .lit (.string e.nm) :: .lit (.string e.gl) :: iv .i64 e.w :: iv .i64 e.f :: iv .i64 e.t :: scs l
theorem scs_len : ∀ l, (scs l).length = l.length * 5
  | [] => rfl
  | k :: r => by simp only [scs, List.length_cons, scs_len r]; omega
theorem scs_drop : ∀ (l : List Sl) (i : Nat) (h : i < l.length), (scs l).drop (i * 5) = sc l[i] (scs (l.drop (i + 1)))
  | k :: r, 0, _ => rfl
  | k :: r, i + 1, h => by
    have := scs_drop r i (by simpa using h)
    rw [show (i + 1) * 5 = i * 5 + 5 by omega]
    simpa [scs] using this
theorem scs_take : ∀ (l : List Sl) (i : Nat), i ≤ l.length → (scs l).take (i * 5) = scs (l.take i)
  | l, 0, _ => by simp [scs]
  | [], i + 1, h => by simp at h
  | k :: r, i + 1, h => by
    have := scs_take r i (by simpa using h)
    rw [show (i + 1) * 5 = i * 5 + 5 by omega]
    simpa [scs] using this
theorem scs_app (l m : List Sl) : scs (l ++ m) = scs l ++ scs m := by
  induction l with
  | nil => rfl
  | cons k r ih => simp [scs, ih]
theorem scs_one (l : List Sl) : (scs l).all oneC = true := by
  induction l with
  | nil => rfl
  | cons k r ih => simp only [scs, List.all_cons, ih, oneC, Value.oneCell', Bool.and_self, Bool.true_and]
theorem scs_drop' : ∀ (l : List Sl) (i : Nat), i ≤ l.length → (scs l).drop (i * 5) = scs (l.drop i)
  | l, 0, _ => by simp
  | [], i + 1, h => by simp at h
  | k :: r, i + 1, h => by
    have := scs_drop' r i (by simpa using h)
    rw [show (i + 1) * 5 = i * 5 + 5 by omega]
    simpa [scs] using this
theorem scs_set5 : ∀ (l : List Sl) (j : Nat) (h : j < l.length) (v : Sl), (scs l).take (j * 5) ++ [.lit (.string v.nm), .lit (.string v.gl), iv .i64 v.w, iv .i64 v.f, iv .i64 v.t] ++ (scs l).drop (j * 5 + 5) = scs (l.set j v) := fun l j h v => by
  rw [show j * 5 + 5 = (j + 1) * 5 by omega, scs_take _ _ (by omega), scs_drop' _ _ (by omega), List.set_eq_take_append_cons_drop, if_pos h, scs_app, List.append_assoc]
  rfl
def ixF (p : Sl → Bool) : List Sl → Int → Int
  | [], _ => -1
  | e :: r, i => if p e then i else ixF p r (i + 1)
theorem ixF_drop (p : Sl → Bool) (l : List Sl) {i : Nat} (h : i < l.length) : ixF p (l.drop i) (i : Int) = if p l[i] then (i : Int) else ixF p (l.drop (i + 1)) ((i + 1 : Nat) : Int) := by
  rw [List.drop_eq_getElem_cons h]
  rfl
theorem ixF_spec (p : Sl → Bool) : ∀ (l : List Sl) (i : Nat), (ixF p l (i : Int) = -1 ∧ l.filter (fun e => !p e) = l ∧ l.any p = false) ∨ ∃ q, ∃ h : q < l.length, ixF p l (i : Int) = ((i + q : Nat) : Int) ∧ p l[q] = true ∧ (l.take q).filter (fun e => !p e) = l.take q ∧ l.any p = true
  | [], i => .inl ⟨rfl, rfl, rfl⟩
  | e :: r, i => by
    cases hp : p e with
    | true => exact .inr ⟨0, by simp, by simp [ixF, hp], by simpa using hp, rfl, by simp [hp]⟩
    | false =>
      rcases ixF_spec p r (i + 1) with ⟨h1, h2, h3⟩ | ⟨q, hq, h1, h2, h3, h4⟩
      · refine .inl ⟨?_, by rw [List.filter_cons, hp]; simp only [Bool.not_false, if_true, h2], by simp [hp, h3]⟩
        rw [ixF, hp, if_neg Bool.false_ne_true]
        exact_mod_cast h1
      · refine .inr ⟨q + 1, by simpa using hq, ?_, by simpa using h2, by rw [List.take_succ_cons, List.filter_cons, hp]; simp only [Bool.not_false, if_true, h3], by simp [h4]⟩
        rw [ixF, hp, if_neg Bool.false_ne_true]
        rw [show ((i : Int) + 1) = ((i + 1 : Nat) : Int) by omega, h1]
        congr 1; omega
end Go.Proofs.YtaffbklkjjmmdaaDoor
