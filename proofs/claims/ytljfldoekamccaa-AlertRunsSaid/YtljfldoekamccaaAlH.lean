/-
  A history of looks and the alert that goes along: one look more, in plain words.
-/
import Derived.Test.YtljfldoekamccaaAlG
namespace Go.Proofs.Ytljfldoekamccaa
open Go
set_option linter.unusedVariables false
set_option linter.unusedSimpArgs false

/-- The alert in a mode (true: it waits for what holds), K: the start of the run up to the look i (not with it), S: since when it fires, n: its number. -/
def alH (l : List Look) (h : Bool) (K i : Nat) (S : Int) (n : Int) : Int × Int × Int × Int :=
  if h then (if K < i then (1, tk l K, 0, 0) else (0, 0, 0, 0)) else if K < i then (3, S, tk l K, n) else (2, S, 0, n)
def MonoL (l : List Look) : Prop := ∀ i j, i ≤ j → j < l.length → tk l i ≤ tk l j

theorem alH_right {l : List Look} {h : Bool} {K i : Nat} {S n : Int} (ht : TickL l) (hK : K ≤ i) (hi : i ≤ l.length) (hS : h = false → 0 ≤ S ∧ S ≤ 253402300799 ∧ 1 ≤ n ∧ n ≤ 1000000 ∧ (K < i → S ≤ tk l K)) :
    rightP (alH l h K i S n).1 (alH l h K i S n).2.1 (alH l h K i S n).2.2.1 (alH l h K i S n).2.2.2 = true := by
  unfold alH
  cases h
  · obtain ⟨s1, s2, s3, s4, s5⟩ := hS rfl
    simp only [Bool.false_eq_true, if_false]
    split
    · have := ht K (by omega)
      have := s5 (by assumption)
      exact (rightP_iff _ _ _ _).2 (by first | omega | (simp; done) | (simp only; omega) | (simp; omega))
    · exact (rightP_iff _ _ _ _).2 (by first | omega | (simp; done) | (simp only; omega) | (simp; omega))
  · simp only [if_true]
    split
    · have := ht K (by omega)
      exact (rightP_iff _ _ _ _).2 (by first | omega | (simp; done) | (simp only; omega) | (simp; omega))
    · exact (rightP_iff _ _ _ _).2 (by first | omega | (simp; done) | (simp; omega))

theorem run_next {l : List Look} {f i : Nat} {h : Bool} (hf : f ≤ i) : runF l f h (i + 1) = if hd l i = h then runF l f h i else i + 1 := by
  simp only [runF]
  by_cases hh : hd l i = h
  · rw [if_pos ⟨by omega, hh⟩, if_pos hh]
  · rw [if_neg fun g => hh g.2, if_neg hh]

/-- A look that is other than what is waited for. -/
theorem look_other {l : List Look} {fr kp : Int} {h : Bool} {K i : Nat} {S n ep : Int} (ht : TickL l) (hm : MonoL l) (hK : K ≤ i) (hi : i < l.length) (hfr : 0 ≤ fr) (hkp : 0 ≤ kp)
    (hS : h = false → 0 ≤ S ∧ S ≤ 253402300799 ∧ 1 ≤ n ∧ n ≤ 1000000 ∧ (K < i → S ≤ tk l K) ∧ S ≤ tk l i) (hh : hd l i ≠ h) :
    nextP fr kp (alH l h K i S n).1 (alH l h K i S n).2.1 (alH l h K i S n).2.2.1 (alH l h K i S n).2.2.2 (tk l i) (hd l i) ep = (alH l h (i + 1) (i + 1) S n, 0) := by
  have g1 := alH_right (n := n) (S := S) ht hK (by omega) (fun e => by obtain ⟨a, b, c, d, e, _⟩ := hS e; exact ⟨a, b, c, d, e⟩)
  have ti := ht i hi
  have g2 := (tickP_iff (tk l i)).2 ti
  have hKi := fun g : K < i => hm K i (by omega) hi
  have g3 : (alH l h K i S n).2.1 ≤ tk l i ∧ (alH l h K i S n).2.2.1 ≤ tk l i := by
    unfold alH
    cases h
    · obtain ⟨_, _, _, _, _, s6⟩ := hS rfl
      simp only [Bool.false_eq_true, if_false]
      split
      · have := hKi (by assumption); exact ⟨by simp only; omega, by simp only; omega⟩
      · exact ⟨by simp only; omega, by simp only; omega⟩
    · simp only [if_true]
      split
      · have := hKi (by assumption); exact ⟨by simp only; omega, by simp only; omega⟩
      · exact ⟨by simp only; omega, by simp only; omega⟩
  unfold nextP
  rw [if_pos ⟨g1, g2, g3.1, g3.2, hfr, hkp⟩]
  clear g1 g2 g3
  have hx : hd l i = !h := by cases h <;> cases hv : hd l i <;> simp_all
  rw [hx]
  unfold alH
  cases h
  · simp only [Bool.not_false, if_true, Bool.false_eq_true, if_false, Nat.lt_irrefl]
    split <;> simp
  · simp only [Bool.not_true, if_true, Bool.false_eq_true, if_false, Nat.lt_irrefl]
    split <;> simp

/-- A look as it is waited for. -/
theorem look_same {l : List Look} {fr kp : Int} {h : Bool} {K i : Nat} {S n ep : Int} (ht : TickL l) (hm : MonoL l) (hK : K ≤ i) (hi : i < l.length) (hfr : 0 ≤ fr) (hkp : 0 ≤ kp) (he : 1 ≤ ep ∧ ep ≤ 1000000)
    (hS : h = false → 0 ≤ S ∧ S ≤ 253402300799 ∧ 1 ≤ n ∧ n ≤ 1000000 ∧ (K < i → S ≤ tk l K) ∧ S ≤ tk l i) (hh : hd l i = h) :
    nextP fr kp (alH l h K i S n).1 (alH l h K i S n).2.1 (alH l h K i S n).2.2.1 (alH l h K i S n).2.2.2 (tk l i) (hd l i |>.xor false) ep =
      if tk l i - tk l K ≥ (if h then fr else kp) then (if h then ((2, tk l i, 0, ep), 1) else ((0, 0, 0, 0), 2)) else (alH l h K (i + 1) S n, 0) := by
  have g1 := alH_right (n := n) (S := S) ht hK (by omega) (fun e => by obtain ⟨a, b, c, d, e, _⟩ := hS e; exact ⟨a, b, c, d, e⟩)
  have ti := ht i hi
  have g2 := (tickP_iff (tk l i)).2 ti
  have hKi := fun g : K < i => hm K i (by omega) hi
  have g3 : (alH l h K i S n).2.1 ≤ tk l i ∧ (alH l h K i S n).2.2.1 ≤ tk l i := by
    unfold alH
    cases h
    · obtain ⟨_, _, _, _, _, s6⟩ := hS rfl
      simp only [Bool.false_eq_true, if_false]
      split
      · have := hKi (by assumption); exact ⟨by simp only; omega, by simp only; omega⟩
      · exact ⟨by simp only; omega, by simp only; omega⟩
    · simp only [if_true]
      split
      · have := hKi (by assumption); exact ⟨by simp only; omega, by simp only; omega⟩
      · exact ⟨by simp only; omega, by simp only; omega⟩
  unfold nextP
  rw [if_pos ⟨g1, g2, g3.1, g3.2, hfr, hkp⟩]
  clear g1 g2 g3
  have hnum : numP ep = true := by unfold numP; simp; omega
  rw [hh, Bool.xor_false]
  unfold alH fireP
  by_cases hKl : K < i
  · cases h
    · simp only [if_true, Bool.false_eq_true, if_false, hKl, show K < i + 1 by omega, hnum]
      try simp
    · simp only [if_true, Bool.false_eq_true, if_false, hKl, show K < i + 1 by omega, hnum]
      try simp
  · obtain rfl : K = i := by omega
    cases h
    · simp only [if_true, Bool.false_eq_true, if_false, Nat.lt_irrefl, Nat.lt_succ_self, hnum, Int.sub_self]
      try simp
    · simp only [if_true, Bool.false_eq_true, if_false, Nat.lt_irrefl, Nat.lt_succ_self, hnum, Int.sub_self]
      try simp
end Go.Proofs.Ytljfldoekamccaa
