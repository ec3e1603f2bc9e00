/-
  The ring and the document's, side by side: what the places hold.
-/
import Derived.Test.YtbnkmhlnoaebcaaRgL
namespace Go.Proofs.Ytbnkmhlnoaebcaa
open Go
set_option linter.unusedVariables false
set_option linter.unusedSimpArgs false

/-- an event that lies in the window that ends at ne, at the j-th place -/
def slP (ne w k j : Nat) : Nat → Bool := fun a => decide (ne < a / w + k) && decide (a / w % k = j)
def slG (ne w k : Nat) (E : List Ev) : Nat → Nat := fun j => sG (slP ne w k j) E
def slT (ne w k : Nat) (E : List Ev) : Nat → Nat := fun j => sT (slP ne w k j) E
theorem sG_congr {p q : Nat → Bool} : ∀ {E : List Ev}, (∀ e ∈ E, p e.at_ = q e.at_) → sG p E = sG q E
  | [], _ => rfl
  | e :: r, h => by rw [sG, sG, h e (List.mem_cons_self ..), sG_congr fun x hx => h x (List.mem_cons_of_mem _ hx)]
theorem sT_congr {p q : Nat → Bool} : ∀ {E : List Ev}, (∀ e ∈ E, p e.at_ = q e.at_) → sT p E = sT q E
  | [], _ => rfl
  | e :: r, h => by rw [sT, sT, h e (List.mem_cons_self ..), sT_congr fun x hx => h x (List.mem_cons_of_mem _ hx)]
theorem sG_le_sT {p : Nat → Bool} : ∀ {E : List Ev}, (∀ e ∈ E, e.g ≤ e.t) → sG p E ≤ sT p E
  | [], _ => Nat.le_refl _
  | e :: r, h => by
    have h1 := h e (List.mem_cons_self ..)
    have h2 := sG_le_sT (p := p) fun x hx => h x (List.mem_cons_of_mem _ hx)
    rw [sG, sT]; split <;> omega
theorem sT_none {p : Nat → Bool} : ∀ {E : List Ev}, (∀ e ∈ E, p e.at_ = false) → sT p E = 0
  | [], _ => rfl
  | e :: r, h => by rw [sT, h e (List.mem_cons_self ..), sT_none fun x hx => h x (List.mem_cons_of_mem _ hx)]; rfl
theorem sG_none {p : Nat → Bool} : ∀ {E : List Ev}, (∀ e ∈ E, p e.at_ = false) → sG p E = 0
  | [], _ => rfl
  | e :: r, h => by rw [sG, h e (List.mem_cons_self ..), sG_none fun x hx => h x (List.mem_cons_of_mem _ hx)]; rfl
theorem sumN_ite (x c : Nat) : ∀ k, sumN (fun j => if c = j then x else 0) k = if c < k then x else 0
  | 0 => rfl
  | k + 1 => by
    rw [sumN, sumN_ite x c k]
    by_cases h1 : c < k
    · rw [if_pos h1, if_neg (show ¬ c = k by omega), if_pos (by omega)]; omega
    · rw [if_neg h1]
      by_cases h2 : c = k
      · rw [if_pos h2, if_pos (by omega)]; omega
      · rw [if_neg h2, if_neg (by omega)]
/-- All places together are the window. -/
theorem slG_sum (ne w k : Nat) (hk : 1 ≤ k) : ∀ E : List Ev, sumN (slG ne w k E) k = sG (fun a => decide (ne < a / w + k)) E
  | [] => by
    show sumN (fun _ => 0) k = 0
    have := sumN_ite 0 0 k
    simp only [ite_self] at this
    exact this
  | e :: r => by
    have ih := slG_sum ne w k hk r
    have e1 : slG ne w k (e :: r) = fun j => (if slP ne w k j e.at_ then e.g else 0) + slG ne w k r j := rfl
    rw [e1, sumN_add, ih, sG]
    congr 1
    by_cases hw : ne < e.at_ / w + k
    · have e2 : (fun j => if slP ne w k j e.at_ then e.g else 0) = fun j => if e.at_ / w % k = j then e.g else 0 := by
        funext j; unfold slP; simp [hw]
      rw [e2, sumN_ite, if_pos (Nat.mod_lt _ (by omega)), if_pos (by simpa using hw)]
    · have e2 : (fun j => if slP ne w k j e.at_ then e.g else 0) = fun _ => 0 := by
        funext j; unfold slP; simp [hw]
      have := sumN_ite 0 0 k
      simp only [ite_self] at this
      rw [e2, this, if_neg (by simpa using hw)]
theorem slT_sum (ne w k : Nat) (hk : 1 ≤ k) : ∀ E : List Ev, sumN (slT ne w k E) k = sT (fun a => decide (ne < a / w + k)) E
  | [] => by
    show sumN (fun _ => 0) k = 0
    have := sumN_ite 0 0 k
    simp only [ite_self] at this
    exact this
  | e :: r => by
    have ih := slT_sum ne w k hk r
    have e1 : slT ne w k (e :: r) = fun j => (if slP ne w k j e.at_ then e.t else 0) + slT ne w k r j := rfl
    rw [e1, sumN_add, ih, sT]
    congr 1
    by_cases hw : ne < e.at_ / w + k
    · have e2 : (fun j => if slP ne w k j e.at_ then e.t else 0) = fun j => if e.at_ / w % k = j then e.t else 0 := by
        funext j; unfold slP; simp [hw]
      rw [e2, sumN_ite, if_pos (Nat.mod_lt _ (by omega)), if_pos (by simpa using hw)]
    · have e2 : (fun j => if slP ne w k j e.at_ then e.t else 0) = fun _ => 0 := by
        funext j; unfold slP; simp [hw]
      have := sumN_ite 0 0 k
      simp only [ite_self] at this
      rw [e2, this, if_neg (by simpa using hw)]
/-! ### On the way -/
open Classical in
theorem clrN_at (k : Nat) (G : Nat → Nat) (a : Nat) : ∀ (c j : Nat), clrN k G a c j = if ∃ n, a ≤ n ∧ n < a + c ∧ n % k = j then 0 else G j
  | 0, j => by rw [if_neg (by rintro ⟨n, h1, h2, _⟩; omega)]; rfl
  | c + 1, j => by
    rw [clrN]
    unfold upd
    rw [clrN_at k G a c j]
    by_cases h1 : j = (a + c) % k
    · rw [if_pos h1, if_pos ⟨a + c, by omega, by omega, h1.symm⟩]
    · rw [if_neg h1]
      by_cases h2 : ∃ n, a ≤ n ∧ n < a + c ∧ n % k = j
      · obtain ⟨n, g1, g2, g3⟩ := h2
        rw [if_pos ⟨n, g1, g2, g3⟩, if_pos ⟨n, g1, by omega, g3⟩]
      · rw [if_neg h2, if_neg]
        rintro ⟨n, g1, g2, g3⟩
        by_cases hn : n = a + c
        · subst hn; exact h1 g3.symm
        · exact h2 ⟨n, g1, by omega, g3⟩
/-- A number of a class in k numbers on end. -/
theorem class_in {k q lo : Nat} (hk : 1 ≤ k) : ∃ n, lo ≤ n ∧ n < lo + k ∧ n % k = q % k := by
  refine ⟨lo + (q + k - lo % k) % k, by omega, ?_, ?_⟩
  · have := Nat.mod_lt (q + k - lo % k) (show k > 0 by omega); omega
  · have hl := Nat.mod_lt lo (show k > 0 by omega)
    have h1 := Nat.div_add_mod lo k
    rw [Nat.add_mod, Nat.mod_mod, ← Nat.add_mod]
    have : lo + (q + k - lo % k) = q + k * (lo / k + 1) := by rw [Nat.mul_add]; omega
    rw [this, Nat.add_mul_mod_self_left]
theorem moved {ne tt k q j : Nat} (hk : 1 ≤ k) (hq : q ≤ ne) (hne : ne ≤ tt) (hj : q % k = j) :
    (ne < q + k ∧ ¬ ∃ n, max (ne + 1) (tt + 1 - k) ≤ n ∧ n < max (ne + 1) (tt + 1 - k) + (tt + 1 - max (ne + 1) (tt + 1 - k)) ∧ n % k = j) ↔ tt < q + k := by
  constructor
  · rintro ⟨h1, h2⟩
    apply Classical.byContradiction; intro h3
    apply h2
    by_cases hs : ne + 1 ≤ tt + 1 - k
    · obtain ⟨n, g1, g2, g3⟩ := class_in (k := k) (q := q) (lo := tt + 1 - k) hk
      exact ⟨n, by omega, by omega, by rw [g3, hj]⟩
    · exact ⟨q + k, by omega, by omega, by rw [Nat.add_mod_right, hj]⟩
  · intro h1
    refine ⟨by omega, ?_⟩
    rintro ⟨n, g1, g2, g3⟩
    have hnq : n % k = q % k := by rw [g3, hj]
    have hlt : q < n := by omega
    have hd1 := Nat.div_add_mod n k
    have hd2 := Nat.div_add_mod q k
    have : q / k < n / k := by
      apply Classical.byContradiction; intro hn
      have := Nat.mul_le_mul_left k (show n / k ≤ q / k by omega)
      omega
    have := Nat.mul_le_mul_left k (show q / k + 1 ≤ n / k by omega)
    rw [Nat.mul_add] at this
    omega
theorem move_slG {ne tt w k : Nat} {E : List Ev} (hk : 1 ≤ k) (hne : ne ≤ tt) (hE : ∀ e ∈ E, e.at_ / w ≤ ne) :
    clrN k (slG ne w k E) (max (ne + 1) (tt + 1 - k)) (tt + 1 - max (ne + 1) (tt + 1 - k)) = slG tt w k E := by
  funext j
  rw [clrN_at]
  by_cases hc : ∃ n, max (ne + 1) (tt + 1 - k) ≤ n ∧ n < max (ne + 1) (tt + 1 - k) + (tt + 1 - max (ne + 1) (tt + 1 - k)) ∧ n % k = j
  · rw [if_pos hc]
    refine (sG_none fun e he => ?_).symm
    unfold slP
    by_cases hj : e.at_ / w % k = j
    · have : ¬ tt < e.at_ / w + k := fun h => ((moved hk (hE e he) hne hj).2 h).2 hc
      simp; omega
    · simp [hj]
  · rw [if_neg hc]
    refine sG_congr fun e he => ?_
    unfold slP
    by_cases hj : e.at_ / w % k = j
    · have := moved hk (hE e he) hne hj
      simp only [hc, not_false_eq_true, and_true] at this
      simp only [hj, decide_true, Bool.and_true, decide_eq_decide]
      exact this
    · simp [hj]
theorem move_slT {ne tt w k : Nat} {E : List Ev} (hk : 1 ≤ k) (hne : ne ≤ tt) (hE : ∀ e ∈ E, e.at_ / w ≤ ne) :
    clrN k (slT ne w k E) (max (ne + 1) (tt + 1 - k)) (tt + 1 - max (ne + 1) (tt + 1 - k)) = slT tt w k E := by
  funext j
  rw [clrN_at]
  by_cases hc : ∃ n, max (ne + 1) (tt + 1 - k) ≤ n ∧ n < max (ne + 1) (tt + 1 - k) + (tt + 1 - max (ne + 1) (tt + 1 - k)) ∧ n % k = j
  · rw [if_pos hc]
    refine (sT_none fun e he => ?_).symm
    unfold slP
    by_cases hj : e.at_ / w % k = j
    · have : ¬ tt < e.at_ / w + k := fun h => ((moved hk (hE e he) hne hj).2 h).2 hc
      simp; omega
    · simp [hj]
  · rw [if_neg hc]
    refine sT_congr fun e he => ?_
    unfold slP
    by_cases hj : e.at_ / w % k = j
    · have := moved hk (hE e he) hne hj
      simp only [hc, not_false_eq_true, and_true] at this
      simp only [hj, decide_true, Bool.and_true, decide_eq_decide]
      exact this
    · simp [hj]
/-! ### One more -/
theorem add_slG {ne w k m g t : Nat} {E : List Ev} (hw : ne < m / w + k) : slG ne w k (E ++ [⟨m, g, t⟩]) = upd (slG ne w k E) (m / w % k) (slG ne w k E (m / w % k) + g) := by
  funext j
  unfold upd slG
  rw [sG_app]
  simp only [sG, Nat.add_zero]
  by_cases hj : j = m / w % k
  · subst hj; simp [slP, hw]
  · rw [if_neg hj]; simp [slP, Ne.symm hj]
theorem add_slT {ne w k m g t : Nat} {E : List Ev} (hw : ne < m / w + k) : slT ne w k (E ++ [⟨m, g, t⟩]) = upd (slT ne w k E) (m / w % k) (slT ne w k E (m / w % k) + t) := by
  funext j
  unfold upd slT
  rw [sT_app]
  simp only [sT, Nat.add_zero]
  by_cases hj : j = m / w % k
  · subst hj; simp [slP, hw]
  · rw [if_neg hj]; simp [slP, Ne.symm hj]
/-! ### The rows -/
theorem pB_slP {ne w k i : Nat} {E : List Ev} (hk : 1 ≤ k) (hi : i < k) (hE : ∀ e ∈ E, e.at_ / w ≤ ne) (hge : k ≤ ne + 1 + i) : ∀ e ∈ E, pB ((ne : Int) - k + 1 + i) w e.at_ = slP ne w k ((ne + 1 + i - k) % k) e.at_ := by
  intro e he
  have hq := hE e he
  unfold pB slP
  generalize e.at_ / w = q at hq
  rw [Bool.eq_iff_iff]
  simp only [Bool.and_eq_true, decide_eq_true_eq]
  constructor
  · rintro ⟨_, h2⟩
    have : q = ne + 1 + i - k := by omega
    exact ⟨by omega, by rw [this]⟩
  · rintro ⟨h1, h2⟩
    refine ⟨by omega, ?_⟩
    have h3 : q = ne + 1 + i - k := by
      apply Classical.byContradiction; intro hn
      have d1 := Nat.div_add_mod q k
      have d2 := Nat.div_add_mod (ne + 1 + i - k) k
      rcases Nat.lt_or_gt_of_ne hn with h | h
      · have : q / k < (ne + 1 + i - k) / k := by
          apply Classical.byContradiction; intro hx
          have := Nat.mul_le_mul_left k (show (ne + 1 + i - k) / k ≤ q / k by omega)
          omega
        have := Nat.mul_le_mul_left k (show q / k + 1 ≤ (ne + 1 + i - k) / k by omega)
        rw [Nat.mul_add] at this
        omega
      · have : (ne + 1 + i - k) / k < q / k := by
          apply Classical.byContradiction; intro hx
          have := Nat.mul_le_mul_left k (show q / k ≤ (ne + 1 + i - k) / k by omega)
          omega
        have := Nat.mul_le_mul_left k (show (ne + 1 + i - k) / k + 1 ≤ q / k by omega)
        rw [Nat.mul_add] at this
        omega
    omega
theorem rowG {ne w k : Nat} {E : List Ev} (hk : 1 ≤ k) (hE : ∀ e ∈ E, e.at_ / w ≤ ne) : ∀ i, i < k → bkA (slG ne w k E) k ne i = sG (pB ((ne : Int) - k + 1 + i) w) E := by
  intro i hi
  unfold bkA
  by_cases hge : k ≤ ne + 1 + i
  · rw [if_pos hge]
    exact (sG_congr (pB_slP hk hi hE hge)).symm
  · rw [if_neg hge]
    refine (sG_none fun e he => ?_).symm
    unfold pB
    simp; omega
theorem rowT {ne w k : Nat} {E : List Ev} (hk : 1 ≤ k) (hE : ∀ e ∈ E, e.at_ / w ≤ ne) : ∀ i, i < k → bkA (slT ne w k E) k ne i = sT (pB ((ne : Int) - k + 1 + i) w) E := by
  intro i hi
  unfold bkA
  by_cases hge : k ≤ ne + 1 + i
  · rw [if_pos hge]
    exact (sT_congr (pB_slP hk hi hE hge)).symm
  · rw [if_neg hge]
    refine (sT_none fun e he => ?_).symm
    unfold pB
    simp; omega
end Go.Proofs.Ytbnkmhlnoaebcaa
