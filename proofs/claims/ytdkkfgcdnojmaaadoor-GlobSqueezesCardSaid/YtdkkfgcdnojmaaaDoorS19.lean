/-
  The walks and the laws that the statement leans on, part 19.
-/
import Derived.Test.YtdkkfgcdnojmaaaDoorS14
namespace Go.Proofs.YtdkkfgcdnojmaaaDoor
open Go
set_option linter.unusedVariables false
set_option linter.unusedSimpArgs false
def Mt : List Int → List Int → Prop
  | [], t => t = []
  | c :: l, t => if c = 42 then ∃ k, k ≤ t.length ∧ Mt l (t.drop k) else ∃ x t', t = x :: t' ∧ (c = 63 ∨ c = x) ∧ Mt l t'
theorem Mt_nil (t : List Int) : Mt [] t ↔ t = [] := Iff.rfl
theorem Mt_star (l t : List Int) : Mt (42 :: l) t ↔ ∃ k, k ≤ t.length ∧ Mt l (t.drop k) := by
  show (if (42 : Int) = 42 then _ else _) ↔ _
  rw [if_pos rfl]
theorem Mt_one {c : Int} (hc : c ≠ 42) (l t : List Int) : Mt (c :: l) t ↔ ∃ x t', t = x :: t' ∧ (c = 63 ∨ c = x) ∧ Mt l t' := by
  show (if c = 42 then _ else _) ↔ _
  rw [if_neg hc]
theorem Mt_app : ∀ (a b t : List Int), Mt (a ++ b) t ↔ ∃ k, k ≤ t.length ∧ Mt a (t.take k) ∧ Mt b (t.drop k) := by
  intro a
  induction a with
  | nil =>
    intro b t
    constructor
    · intro h; exact ⟨0, Nat.zero_le _, by simp [Mt_nil], by simpa using h⟩
    · rintro ⟨k, hk, h1, h2⟩
      rw [Mt_nil] at h1
      have : k = 0 ∨ t = [] := by simpa using h1
      rcases this with rfl | rfl
      · simpa using h2
      · simpa using h2
  | cons c a ih =>
    intro b t
    rw [List.cons_append]
    by_cases hc : c = 42
    · subst hc
      rw [Mt_star]
      constructor
      · rintro ⟨k, hk, h⟩
        obtain ⟨q, hq, h1, h2⟩ := (ih b _).1 h
        rw [List.length_drop] at hq
        refine ⟨k + q, by omega, (Mt_star _ _).2 ⟨k, by rw [List.length_take]; omega, ?_⟩, by rw [← List.drop_drop]; exact h2⟩
        rw [List.drop_take, Nat.add_sub_cancel_left]; exact h1
      · rintro ⟨k, hk, h1, h2⟩
        obtain ⟨q, hq, h1⟩ := (Mt_star _ _).1 h1
        rw [List.length_take] at hq
        refine ⟨q, by omega, (ih b _).2 ⟨k - q, by rw [List.length_drop]; omega, by rw [← List.drop_take]; exact h1, by rw [List.drop_drop]; rw [show q + (k - q) = k by omega]; exact h2⟩⟩
    · rw [Mt_one hc]
      constructor
      · rintro ⟨x, t', rfl, hx, h⟩
        obtain ⟨q, hq, h1, h2⟩ := (ih b _).1 h
        exact ⟨q + 1, by simp; omega, (Mt_one hc _ _).2 ⟨x, t'.take q, by simp, hx, h1⟩, by simpa using h2⟩
      · rintro ⟨k, hk, h1, h2⟩
        obtain ⟨x, t', e, hx, h1⟩ := (Mt_one hc _ _).1 h1
        cases t with
        | nil => simp at e
        | cons y t =>
          cases k with
          | zero => simp at e
          | succ k =>
            simp only [List.take_succ_cons, List.cons.injEq] at e
            obtain ⟨rfl, rfl⟩ := e
            exact ⟨y, t, rfl, hx, (ih b _).2 ⟨k, by simp at hk; omega, h1, by simpa using h2⟩⟩
theorem Mt_all (t : List Int) : Mt [42] t := (Mt_star _ _).2 ⟨t.length, Nat.le_refl _, by simp [Mt_nil]⟩
/-! ### beginnings -/
open Classical in
/-! ### ends -/
def ef (l t : List Int) (i j : Nat) : Prop := j ≤ t.length ∧ Mt (l.drop i) (t.drop j)
theorem ef_end {l t : List Int} {j : Nat} (h : ef l t l.length j) : j = t.length := by
  obtain ⟨h1, h2⟩ := h
  rw [List.drop_length, Mt_nil] at h2
  have := congrArg List.length h2
  simp at this
  omega
theorem drop_one (l : List Int) {i : Nat} (h : i < l.length) : l.drop i = l.getD i 0 :: l.drop (i + 1) := by
  rw [List.drop_eq_getElem_cons h, List.getD_eq_getElem?_getD, List.getElem?_eq_getElem h]; rfl
theorem ef_star {l t : List Int} {i : Nat} (hi : i < l.length) (hc : l.getD i 0 = 42) (j : Nat) : ef l t i j ↔ ∃ j', j ≤ j' ∧ ef l t (i + 1) j' := by
  unfold ef
  rw [drop_one l hi, hc, Mt_star]
  constructor
  · rintro ⟨h1, k, hk, h⟩
    rw [List.length_drop] at hk
    rw [List.drop_drop] at h
    exact ⟨j + k, by omega, by omega, h⟩
  · rintro ⟨j', h1, h2, h⟩
    refine ⟨by omega, j' - j, by rw [List.length_drop]; omega, ?_⟩
    rw [List.drop_drop, show j + (j' - j) = j' by omega]; exact h
theorem ef_one {l t : List Int} {i : Nat} (hi : i < l.length) (hc : l.getD i 0 ≠ 42) {j : Nat} : ef l t i j ↔ (j < t.length ∧ (l.getD i 0 = 63 ∨ l.getD i 0 = t.getD j 0) ∧ ef l t (i + 1) (j + 1)) := by
  unfold ef
  rw [drop_one l hi, Mt_one hc]
  constructor
  · rintro ⟨h1, x, t', e, hx, h⟩
    have hj : j < t.length := by
      have := congrArg List.length e; simp at this; omega
    rw [drop_one t hj] at e
    simp only [List.cons.injEq] at e
    obtain ⟨rfl, rfl⟩ := e
    exact ⟨hj, hx, by omega, h⟩
  · rintro ⟨hj, hx, h1, h⟩
    exact ⟨by omega, t.getD j 0, t.drop (j + 1), drop_one t hj, hx, h⟩
theorem ef_run {l t : List Int} : ∀ (d i j : Nat), i + d ≤ l.length → (∀ q, q < d → l.getD (i + q) 0 ≠ 42) → ef l t i j → ef l t (i + d) (j + d) := by
  intro d
  induction d with
  | zero => intro i j _ _ h; exact h
  | succ d ih =>
    intro i j hl hq h
    have h1 := ((ef_one (by omega) (by simpa using hq 0 (by omega))).1 h).2.2
    have := ih (i + 1) (j + 1) (by omega) (fun q hq' => by rw [show i + 1 + q = i + (q + 1) by omega]; exact hq (q + 1) (by omega)) h1
    rwa [show i + 1 + d = i + (d + 1) by omega, show j + 1 + d = j + (d + 1) by omega] at this
theorem ef_marks {l t : List Int} : ∀ (d i : Nat), i + d = l.length → (ef l t i t.length ↔ ∀ c ∈ l.drop i, c = 42) := by
  intro d
  induction d with
  | zero => intro i h; simp [ef, List.drop_eq_nil_of_le (show l.length ≤ i by omega), Mt_nil]
  | succ d ih =>
    intro i h
    rw [drop_one l (by omega)]
    by_cases hc : l.getD i 0 = 42
    · rw [ef_star (by omega) hc]
      have e : (∃ j', t.length ≤ j' ∧ ef l t (i + 1) j') ↔ ef l t (i + 1) t.length := by
        constructor
        · rintro ⟨j', h1, h2⟩
          have := h2.1
          rwa [show j' = t.length by omega] at h2
        · intro h; exact ⟨_, Nat.le_refl _, h⟩
      rw [e, ih (i + 1) (by omega), hc]
      simp only [List.mem_cons, forall_eq_or_imp, true_and]
    · constructor
      · intro h; exact absurd ((ef_one (by omega) hc).1 h).1 (Nat.lt_irrefl _)
      · intro h; exact absurd (h _ (List.mem_cons_self ..)) hc
/-! ### the walk of the code -/
structure Gs where
  i : Nat
  j : Nat
  b : Bool
  st : Nat
  fr : Nat
structure Inv (l t : List Int) (g : Gs) : Prop where
  hi : g.i ≤ l.length
  hj : g.j ≤ t.length
  hf : g.fr ≤ g.j
  iff : Mt l t ↔ (ef l t g.i g.j ∨ (g.b = true ∧ ∃ j', g.fr < j' ∧ ef l t (g.st + 1) j'))
  hs : g.b = true → g.st < g.i ∧ g.i - (g.st + 1) = g.j - g.fr ∧ ∀ q, g.st < q → q < g.i → l.getD q 0 ≠ 42
  h0 : g.b = false → g.fr = 0
theorem Inv.start (l t : List Int) : Inv l t ⟨0, 0, false, 0, 0⟩ := ⟨Nat.zero_le _, Nat.zero_le _, Nat.le_refl _, by simp [ef], by simp, fun _ => rfl⟩
theorem Inv.later {l t : List Int} {g : Gs} (h : Inv l t g) (hb : g.b = true) {j' : Nat} (hj : g.fr < j') (he : ef l t (g.st + 1) j') : ef l t g.i (j' + (g.j - g.fr)) := by
  obtain ⟨h1, h2, h3⟩ := h.hs hb
  have := ef_run (g.i - (g.st + 1)) (g.st + 1) j' (by have := h.hi; omega) (fun q hq => h3 _ (by omega) (by omega)) he
  rwa [show g.st + 1 + (g.i - (g.st + 1)) = g.i by omega, h2] at this
theorem Inv.star {l t : List Int} {g : Gs} (h : Inv l t g) (hi : g.i < l.length) (hc : l.getD g.i 0 = 42) : Inv l t ⟨g.i + 1, g.j, true, g.i, g.j⟩ := by
  refine ⟨hi, h.hj, Nat.le_refl _, ?_, fun _ => ⟨Nat.lt_succ_self _, by simp, fun q h1 h2 => by simp only at h1 h2; omega⟩, by simp⟩
  rw [h.iff]
  simp only [true_and]
  constructor
  · rintro (h1 | ⟨hb, j', h1, h2⟩)
    · obtain ⟨j', h1, h2⟩ := (ef_star hi hc _).1 h1
      rcases Nat.lt_or_eq_of_le h1 with h3 | rfl
      · exact .inr ⟨j', h3, h2⟩
      · exact .inl h2
    · have h3 := h.later hb h1 h2
      obtain ⟨j2, h4, h5⟩ := (ef_star hi hc _).1 h3
      have := h.hf
      exact .inr ⟨j2, by omega, h5⟩
  · rintro (h1 | ⟨j', h1, h2⟩)
    · exact .inl ((ef_star hi hc _).2 ⟨_, Nat.le_refl _, h1⟩)
    · exact .inl ((ef_star hi hc _).2 ⟨_, by omega, h2⟩)
theorem Inv.one {l t : List Int} {g : Gs} (h : Inv l t g) (hi : g.i < l.length) (hj : g.j < t.length) (hc : l.getD g.i 0 ≠ 42) (hx : l.getD g.i 0 = 63 ∨ l.getD g.i 0 = t.getD g.j 0) : Inv l t ⟨g.i + 1, g.j + 1, g.b, g.st, g.fr⟩ := by
  refine ⟨hi, hj, by have := h.hf; simp only; omega, ?_, fun hb => ?_, h.h0⟩
  · rw [h.iff, ef_one hi hc]
    simp only [hj, hx, true_and]
  · obtain ⟨h1, h2, h3⟩ := h.hs hb
    have := h.hf
    refine ⟨by simp only at *; omega, by simp only at *; omega, fun q h4 h5 => ?_⟩
    by_cases e : q = g.i
    · subst e; exact hc
    · exact h3 q h4 (by simp only at h5; omega)
theorem Inv.no {l t : List Int} {g : Gs} (h : Inv l t g) (hj : g.j < t.length) (hn : g.i = l.length ∨ (l.getD g.i 0 ≠ 42 ∧ ¬ (l.getD g.i 0 = 63 ∨ l.getD g.i 0 = t.getD g.j 0))) : ¬ ef l t g.i g.j := by
  intro he
  by_cases e : g.i = l.length
  · rw [e] at he
    have := ef_end he; omega
  · rcases hn with hn | ⟨hn, hx⟩
    · exact e hn
    · exact hx ((ef_one (by have := h.hi; omega) hn).1 he).2.1
theorem Inv.back {l t : List Int} {g : Gs} (h : Inv l t g) (hj : g.j < t.length) (hb : g.b = true) (hn : g.i = l.length ∨ (l.getD g.i 0 ≠ 42 ∧ ¬ (l.getD g.i 0 = 63 ∨ l.getD g.i 0 = t.getD g.j 0))) : Inv l t ⟨g.st + 1, g.fr + 1, true, g.st, g.fr + 1⟩ := by
  have hno := h.no hj hn
  obtain ⟨h1, h2, h3⟩ := h.hs hb
  have h4 := h.hf
  have h5 := h.hi
  refine ⟨by simp only; omega, by simp only; omega, Nat.le_refl _, ?_, fun _ => ⟨Nat.lt_succ_self _, by simp, fun q h1 h2 => by simp only at h1 h2; omega⟩, by simp⟩
  rw [h.iff]
  simp only [hno, false_or, hb, true_and]
  constructor
  · rintro ⟨j', h6, h7⟩
    rcases Nat.lt_or_eq_of_le (show g.fr + 1 ≤ j' from h6) with h8 | rfl
    · exact .inr ⟨j', h8, h7⟩
    · exact .inl h7
  · rintro (h6 | ⟨j', h6, h7⟩)
    · exact ⟨_, Nat.lt_succ_self _, h6⟩
    · exact ⟨j', by omega, h7⟩
theorem Inv.bad {l t : List Int} {g : Gs} (h : Inv l t g) (hj : g.j < t.length) (hb : g.b = false) (hn : g.i = l.length ∨ (l.getD g.i 0 ≠ 42 ∧ ¬ (l.getD g.i 0 = 63 ∨ l.getD g.i 0 = t.getD g.j 0))) : ¬ Mt l t := by
  rw [h.iff]
  simp [h.no hj hn, hb]
theorem Inv.over {l t : List Int} {g : Gs} (h : Inv l t g) (hj : g.j = t.length) : Mt l t ↔ ∀ c ∈ l.drop g.i, c = 42 := by
  rw [h.iff, hj, ← ef_marks (t := t) (l.length - g.i) g.i (by have := h.hi; omega)]
  constructor
  · rintro (h1 | ⟨hb, j', h1, h2⟩)
    · exact h1
    · have h3 := (h.later hb h1 h2).1
      have := h.hf
      omega
  · exact .inl
def Gs.mu (n m : Nat) (g : Gs) : Nat := (m + 1 - g.fr) * (n + m + 2) + (n - g.i) + (m - g.j)
theorem mu_star {n m : Nat} {g : Gs} (hi : g.i < n) (hj : g.j ≤ m) (hf : g.fr ≤ g.j) : Gs.mu n m ⟨g.i + 1, g.j, true, g.i, g.j⟩ < g.mu n m := by
  unfold Gs.mu
  have := Nat.mul_le_mul_right (n + m + 2) (show m + 1 - g.j ≤ m + 1 - g.fr by omega)
  simp only
  omega
theorem mu_one {n m : Nat} {g : Gs} (hi : g.i < n) (hj : g.j < m) : Gs.mu n m ⟨g.i + 1, g.j + 1, g.b, g.st, g.fr⟩ < g.mu n m := by
  unfold Gs.mu
  simp only
  omega
theorem mu_back {n m : Nat} {g : Gs} (hj : g.j < m) (hf : g.fr ≤ g.j) : Gs.mu n m ⟨g.st + 1, g.fr + 1, true, g.st, g.fr + 1⟩ < g.mu n m := by
  unfold Gs.mu
  have e : m + 1 - g.fr = (m + 1 - (g.fr + 1)) + 1 := by omega
  rw [e, Nat.succ_mul]
  simp only
  omega
end Go.Proofs.YtdkkfgcdnojmaaaDoor
