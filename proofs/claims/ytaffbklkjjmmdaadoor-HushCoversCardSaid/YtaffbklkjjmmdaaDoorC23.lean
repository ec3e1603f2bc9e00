/-
  The walks and the laws that the statement leans on, part 23.
-/
import Derived.Test.YtaffbklkjjmmdaaDoorC10
import Derived.Test.YtaffbklkjjmmdaaDoorC22
namespace Go.Proofs.YtaffbklkjjmmdaaDoor
open Go
set_option linter.unusedVariables false
set_option linter.unusedSimpArgs false
def Mt : List Int → List Int → Prop
  | [], t => t = []
  | c :: l, t => if c = 42 then ∃ k, k ≤ t.length ∧ Mt l (t.drop k) else ∃ x t', t = x :: t' ∧ (c = 63 ∨ c = x) ∧ Mt l t'
theorem Mt_nil (t : List Int) : Mt [] t ↔ t = [] := Iff.rfl
theorem Mt_star (l t : List Int) : Mt (42 :: l) t ↔ ∃ k, k ≤ t.length ∧ Mt l (t.drop k) := by
  show (if (42 : Int) = 42 then _ else _) ↔ _
  rw [if_pos rfl]
theorem Mt_one {c : Int} (hc : c ≠ 42) (l t : List Int) : Mt (c :: l) t ↔ ∃ x t', t = x :: t' ∧ (c = 63 ∨ c = x) ∧ Mt l t' := by
  show (if c = 42 then _ else _) ↔ _
  rw [if_neg hc]
theorem Mt_app : ∀ (a b t : List Int), Mt (a ++ b) t ↔ ∃ k, k ≤ t.length ∧ Mt a (t.take k) ∧ Mt b (t.drop k) := by
  intro a
  induction a with
  | nil =>
    intro b t
    constructor
    · intro h; exact ⟨0, Nat.zero_le _, by simp [Mt_nil], by simpa using h⟩
    · rintro ⟨k, hk, h1, h2⟩
      rw [Mt_nil] at h1
      have : k = 0 ∨ t = [] := by simpa using h1
      rcases this with rfl | rfl
      · simpa using h2
      · simpa using h2
  | cons c a ih =>
    intro b t
    rw [List.cons_append]
    by_cases hc : c = 42
    · subst hc
      rw [Mt_star]
      constructor
      · rintro ⟨k, hk, h⟩
        obtain ⟨q, hq, h1, h2⟩ := (ih b _).1 h
        rw [List.length_drop] at hq
        refine ⟨k + q, by omega, (Mt_star _ _).2 ⟨k, by rw [List.length_take]; omega, ?_⟩, by rw [← List.drop_drop]; exact h2⟩
        rw [List.drop_take, Nat.add_sub_cancel_left]; exact h1
      · rintro ⟨k, hk, h1, h2⟩
        obtain ⟨q, hq, h1⟩ := (Mt_star _ _).1 h1
        rw [List.length_take] at hq
        refine ⟨q, by omega, (ih b _).2 ⟨k - q, by rw [List.length_drop]; omega, by rw [← List.drop_take]; exact h1, by rw [List.drop_drop]; rw [show q + (k - q) = k by omega]; exact h2⟩⟩
    · rw [Mt_one hc]
      constructor
      · rintro ⟨x, t', rfl, hx, h⟩
        obtain ⟨q, hq, h1, h2⟩ := (ih b _).1 h
        exact ⟨q + 1, by simp; omega, (Mt_one hc _ _).2 ⟨x, t'.take q, by simp, hx, h1⟩, by simpa using h2⟩
      · rintro ⟨k, hk, h1, h2⟩
        obtain ⟨x, t', e, hx, h1⟩ := (Mt_one hc _ _).1 h1
        cases t with
        | nil => simp at e
        | cons y t =>
          cases k with
          | zero => simp at e
          | succ k =>
            simp only [List.take_succ_cons, List.cons.injEq] at e
            obtain ⟨rfl, rfl⟩ := e
            exact ⟨y, t, rfl, hx, (ih b _).2 ⟨k, by simp at hk; omega, h1, by simpa using h2⟩⟩
theorem Mt_all (t : List Int) : Mt [42] t := (Mt_star _ _).2 ⟨t.length, Nat.le_refl _, by simp [Mt_nil]⟩
/-! ### beginnings -/
open Classical in
noncomputable def bf (l t : List Int) (i j : Nat) : Bool := decide (Mt (l.take i) (t.take j))
theorem take_one (l : List Int) {i : Nat} (h : i < l.length) : l.take (i + 1) = l.take i ++ [l.getD i 0] := by
  rw [List.take_add_one]
  congr 1
  rw [List.getElem?_eq_getElem h, List.getD_eq_getElem?_getD, List.getElem?_eq_getElem h]
  rfl
theorem bf_zero (l t : List Int) (j : Nat) (hj : j ≤ t.length) : bf l t 0 j = decide (j = 0) := by
  unfold bf
  rw [List.take_zero, Mt_nil]
  congr 1
  apply propext
  constructor
  · intro h
    have := congrArg List.length h
    rw [List.length_take] at this
    simp at this
    rcases this with h | h
    · exact h
    · subst h; simpa using hj
  · rintro rfl; rfl
theorem bf_star {l t : List Int} {i : Nat} (hi : i < l.length) (hc : l.getD i 0 = 42) (j : Nat) (hj : j ≤ t.length) : bf l t (i + 1) j = (bf l t i j || (decide (0 < j) && bf l t (i + 1) (j - 1))) := by
  rw [Bool.eq_iff_iff]
  simp only [bf, Bool.or_eq_true, Bool.and_eq_true, decide_eq_true_eq]
  rw [take_one l hi, hc]
  simp only [Mt_app]
  constructor
  · rintro ⟨k, hk, h1, _⟩
    rw [List.length_take] at hk
    by_cases e : k = j
    · left; subst e; rw [List.take_take, Nat.min_self] at h1; exact h1
    · right
      refine ⟨by omega, k, by rw [List.length_take]; omega, ?_, Mt_all _⟩
      rw [List.take_take] at h1 ⊢
      rw [show min k (j - 1) = k by omega]
      rwa [show min k j = k by omega] at h1
  · rintro (h | ⟨h0, k, hk, h1, _⟩)
    · exact ⟨j, by rw [List.length_take]; omega, by rw [List.take_take, Nat.min_self]; exact h, Mt_all _⟩
    · rw [List.length_take] at hk
      refine ⟨k, by rw [List.length_take]; omega, ?_, Mt_all _⟩
      rw [List.take_take] at h1 ⊢
      rw [show min k j = k by omega]
      rwa [show min k (j - 1) = k by omega] at h1
theorem bf_one {l t : List Int} {i : Nat} (hi : i < l.length) (hc : l.getD i 0 ≠ 42) (j : Nat) (hj : j ≤ t.length) : bf l t (i + 1) j = (decide (0 < j) && ((l.getD i 0 == 63 || l.getD i 0 == t.getD (j - 1) 0) && bf l t i (j - 1))) := by
  rw [Bool.eq_iff_iff]
  simp only [bf, Bool.or_eq_true, Bool.and_eq_true, decide_eq_true_eq, beq_iff_eq]
  rw [take_one l hi]
  simp only [Mt_app, Mt_one hc, Mt_nil]
  constructor
  · rintro ⟨k, hk, h1, x, t', e, hx, rfl⟩
    rw [List.length_take] at hk
    have hl := congrArg List.length e
    rw [List.length_drop, List.length_take] at hl
    simp at hl
    have hk1 : k = j - 1 := by omega
    subst hk1
    refine ⟨by omega, ?_, by rw [List.take_take, show min (j - 1) j = j - 1 by omega] at h1; exact h1⟩
    have : x = t.getD (j - 1) 0 := by
      have := congrArg (·.getD 0 0) e
      simp only [List.getD_eq_getElem?_getD, List.getElem?_drop, List.getElem?_take, Nat.add_zero] at this
      rw [if_pos (by omega)] at this
      rw [List.getD_eq_getElem?_getD, this]; rfl
    rw [← this]; exact hx
  · rintro ⟨h0, hx, h1⟩
    refine ⟨j - 1, by rw [List.length_take]; omega, by rw [List.take_take, show min (j - 1) j = j - 1 by omega]; exact h1, t.getD (j - 1) 0, [], ?_, hx, rfl⟩
    obtain ⟨j, rfl⟩ : ∃ q, j = q + 1 := ⟨j - 1, by omega⟩
    rw [Nat.add_sub_cancel, take_one t (by omega), List.drop_append_of_le_length (by rw [List.length_take]; omega)]
    rw [List.drop_eq_nil_of_le (by rw [List.length_take]; omega)]
    rfl
theorem bf_all (l t : List Int) : bf l t l.length t.length = @decide (Mt l t) (Classical.propDecidable _) := by unfold bf; rw [List.take_length, List.take_length]
/-! ### ends -/
def ef (l t : List Int) (i j : Nat) : Prop := j ≤ t.length ∧ Mt (l.drop i) (t.drop j)
theorem ef_end {l t : List Int} {j : Nat} (h : ef l t l.length j) : j = t.length := by
  obtain ⟨h1, h2⟩ := h
  rw [List.drop_length, Mt_nil] at h2
  have := congrArg List.length h2
  simp at this
  omega
theorem drop_one (l : List Int) {i : Nat} (h : i < l.length) : l.drop i = l.getD i 0 :: l.drop (i + 1) := by
  rw [List.drop_eq_getElem_cons h, List.getD_eq_getElem?_getD, List.getElem?_eq_getElem h]; rfl
theorem ef_star {l t : List Int} {i : Nat} (hi : i < l.length) (hc : l.getD i 0 = 42) (j : Nat) : ef l t i j ↔ ∃ j', j ≤ j' ∧ ef l t (i + 1) j' := by
  unfold ef
  rw [drop_one l hi, hc, Mt_star]
  constructor
  · rintro ⟨h1, k, hk, h⟩
    rw [List.length_drop] at hk
    rw [List.drop_drop] at h
    exact ⟨j + k, by omega, by omega, h⟩
  · rintro ⟨j', h1, h2, h⟩
    refine ⟨by omega, j' - j, by rw [List.length_drop]; omega, ?_⟩
    rw [List.drop_drop, show j + (j' - j) = j' by omega]; exact h
theorem ef_one {l t : List Int} {i : Nat} (hi : i < l.length) (hc : l.getD i 0 ≠ 42) {j : Nat} : ef l t i j ↔ (j < t.length ∧ (l.getD i 0 = 63 ∨ l.getD i 0 = t.getD j 0) ∧ ef l t (i + 1) (j + 1)) := by
  unfold ef
  rw [drop_one l hi, Mt_one hc]
  constructor
  · rintro ⟨h1, x, t', e, hx, h⟩
    have hj : j < t.length := by
      have := congrArg List.length e; simp at this; omega
    rw [drop_one t hj] at e
    simp only [List.cons.injEq] at e
    obtain ⟨rfl, rfl⟩ := e
    exact ⟨hj, hx, by omega, h⟩
  · rintro ⟨hj, hx, h1, h⟩
    exact ⟨by omega, t.getD j 0, t.drop (j + 1), drop_one t hj, hx, h⟩
theorem ef_run {l t : List Int} : ∀ (d i j : Nat), i + d ≤ l.length → (∀ q, q < d → l.getD (i + q) 0 ≠ 42) → ef l t i j → ef l t (i + d) (j + d) := by
  intro d
  induction d with
  | zero => intro i j _ _ h; exact h
  | succ d ih =>
    intro i j hl hq h
    have h1 := ((ef_one (by omega) (by simpa using hq 0 (by omega))).1 h).2.2
    have := ih (i + 1) (j + 1) (by omega) (fun q hq' => by rw [show i + 1 + q = i + (q + 1) by omega]; exact hq (q + 1) (by omega)) h1
    rwa [show i + 1 + d = i + (d + 1) by omega, show j + 1 + d = j + (d + 1) by omega] at this
theorem ef_marks {l t : List Int} : ∀ (d i : Nat), i + d = l.length → (ef l t i t.length ↔ ∀ c ∈ l.drop i, c = 42) := by
  intro d
  induction d with
  | zero => intro i h; simp [ef, List.drop_eq_nil_of_le (show l.length ≤ i by omega), Mt_nil]
  | succ d ih =>
    intro i h
    rw [drop_one l (by omega)]
    by_cases hc : l.getD i 0 = 42
    · rw [ef_star (by omega) hc]
      have e : (∃ j', t.length ≤ j' ∧ ef l t (i + 1) j') ↔ ef l t (i + 1) t.length := by
        constructor
        · rintro ⟨j', h1, h2⟩
          have := h2.1
          rwa [show j' = t.length by omega] at h2
        · intro h; exact ⟨_, Nat.le_refl _, h⟩
      rw [e, ih (i + 1) (by omega), hc]
      simp only [List.mem_cons, forall_eq_or_imp, true_and]
    · constructor
      · intro h; exact absurd ((ef_one (by omega) hc).1 h).1 (Nat.lt_irrefl _)
      · intro h; exact absurd (h _ (List.mem_cons_self ..)) hc
/-! ### the walk of the code -/
structure Gs where
  i : Nat
  j : Nat
  b : Bool
  st : Nat
  fr : Nat
structure Inv (l t : List Int) (g : Gs) : Prop where
  hi : g.i ≤ l.length
  hj : g.j ≤ t.length
  hf : g.fr ≤ g.j
  iff : Mt l t ↔ (ef l t g.i g.j ∨ (g.b = true ∧ ∃ j', g.fr < j' ∧ ef l t (g.st + 1) j'))
  hs : g.b = true → g.st < g.i ∧ g.i - (g.st + 1) = g.j - g.fr ∧ ∀ q, g.st < q → q < g.i → l.getD q 0 ≠ 42
  h0 : g.b = false → g.fr = 0
theorem Inv.start (l t : List Int) : Inv l t ⟨0, 0, false, 0, 0⟩ := ⟨Nat.zero_le _, Nat.zero_le _, Nat.le_refl _, by simp [ef], by simp, fun _ => rfl⟩
theorem Inv.later {l t : List Int} {g : Gs} (h : Inv l t g) (hb : g.b = true) {j' : Nat} (hj : g.fr < j') (he : ef l t (g.st + 1) j') : ef l t g.i (j' + (g.j - g.fr)) := by
  obtain ⟨h1, h2, h3⟩ := h.hs hb
  have := ef_run (g.i - (g.st + 1)) (g.st + 1) j' (by have := h.hi; omega) (fun q hq => h3 _ (by omega) (by omega)) he
  rwa [show g.st + 1 + (g.i - (g.st + 1)) = g.i by omega, h2] at this
theorem Inv.star {l t : List Int} {g : Gs} (h : Inv l t g) (hi : g.i < l.length) (hc : l.getD g.i 0 = 42) : Inv l t ⟨g.i + 1, g.j, true, g.i, g.j⟩ := by
  refine ⟨hi, h.hj, Nat.le_refl _, ?_, fun _ => ⟨Nat.lt_succ_self _, by simp, fun q h1 h2 => by simp only at h1 h2; omega⟩, by simp⟩
  rw [h.iff]
  simp only [true_and]
  constructor
  · rintro (h1 | ⟨hb, j', h1, h2⟩)
    · obtain ⟨j', h1, h2⟩ := (ef_star hi hc _).1 h1
      rcases Nat.lt_or_eq_of_le h1 with h3 | rfl
      · exact .inr ⟨j', h3, h2⟩
      · exact .inl h2
    · have h3 := h.later hb h1 h2
      obtain ⟨j2, h4, h5⟩ := (ef_star hi hc _).1 h3
      have := h.hf
      exact .inr ⟨j2, by omega, h5⟩
  · rintro (h1 | ⟨j', h1, h2⟩)
    · exact .inl ((ef_star hi hc _).2 ⟨_, Nat.le_refl _, h1⟩)
    · exact .inl ((ef_star hi hc _).2 ⟨_, by omega, h2⟩)
theorem Inv.one {l t : List Int} {g : Gs} (h : Inv l t g) (hi : g.i < l.length) (hj : g.j < t.length) (hc : l.getD g.i 0 ≠ 42) (hx : l.getD g.i 0 = 63 ∨ l.getD g.i 0 = t.getD g.j 0) : Inv l t ⟨g.i + 1, g.j + 1, g.b, g.st, g.fr⟩ := by
  refine ⟨hi, hj, by have := h.hf; simp only; omega, ?_, fun hb => ?_, h.h0⟩
  · rw [h.iff, ef_one hi hc]
    simp only [hj, hx, true_and]
  · obtain ⟨h1, h2, h3⟩ := h.hs hb
    have := h.hf
    refine ⟨by simp only at *; omega, by simp only at *; omega, fun q h4 h5 => ?_⟩
    by_cases e : q = g.i
    · subst e; exact hc
    · exact h3 q h4 (by simp only at h5; omega)
theorem Inv.no {l t : List Int} {g : Gs} (h : Inv l t g) (hj : g.j < t.length) (hn : g.i = l.length ∨ (l.getD g.i 0 ≠ 42 ∧ ¬ (l.getD g.i 0 = 63 ∨ l.getD g.i 0 = t.getD g.j 0))) : ¬ ef l t g.i g.j := by
  intro he
  by_cases e : g.i = l.length
  · rw [e] at he
    have := ef_end he; omega
  · rcases hn with hn | ⟨hn, hx⟩
    · exact e hn
    · exact hx ((ef_one (by have := h.hi; omega) hn).1 he).2.1
theorem Inv.back {l t : List Int} {g : Gs} (h : Inv l t g) (hj : g.j < t.length) (hb : g.b = true) (hn : g.i = l.length ∨ (l.getD g.i 0 ≠ 42 ∧ ¬ (l.getD g.i 0 = 63 ∨ l.getD g.i 0 = t.getD g.j 0))) : Inv l t ⟨g.st + 1, g.fr + 1, true, g.st, g.fr + 1⟩ := by
  have hno := h.no hj hn
  obtain ⟨h1, h2, h3⟩ := h.hs hb
  have h4 := h.hf
  have h5 := h.hi
  refine ⟨by simp only; omega, by simp only; omega, Nat.le_refl _, ?_, fun _ => ⟨Nat.lt_succ_self _, by simp, fun q h1 h2 => by simp only at h1 h2; omega⟩, by simp⟩
  rw [h.iff]
  simp only [hno, false_or, hb, true_and]
  constructor
  · rintro ⟨j', h6, h7⟩
    rcases Nat.lt_or_eq_of_le (show g.fr + 1 ≤ j' from h6) with h8 | rfl
    · exact .inr ⟨j', h8, h7⟩
    · exact .inl h7
  · rintro (h6 | ⟨j', h6, h7⟩)
    · exact ⟨_, Nat.lt_succ_self _, h6⟩
    · exact ⟨j', by omega, h7⟩
theorem Inv.bad {l t : List Int} {g : Gs} (h : Inv l t g) (hj : g.j < t.length) (hb : g.b = false) (hn : g.i = l.length ∨ (l.getD g.i 0 ≠ 42 ∧ ¬ (l.getD g.i 0 = 63 ∨ l.getD g.i 0 = t.getD g.j 0))) : ¬ Mt l t := by
  rw [h.iff]
  simp [h.no hj hn, hb]
theorem Inv.over {l t : List Int} {g : Gs} (h : Inv l t g) (hj : g.j = t.length) : Mt l t ↔ ∀ c ∈ l.drop g.i, c = 42 := by
  rw [h.iff, hj, ← ef_marks (t := t) (l.length - g.i) g.i (by have := h.hi; omega)]
  constructor
  · rintro (h1 | ⟨hb, j', h1, h2⟩)
    · exact h1
    · have h3 := (h.later hb h1 h2).1
      have := h.hf
      omega
  · exact .inl
def Gs.mu (n m : Nat) (g : Gs) : Nat := (m + 1 - g.fr) * (n + m + 2) + (n - g.i) + (m - g.j)
theorem mu_star {n m : Nat} {g : Gs} (hi : g.i < n) (hj : g.j ≤ m) (hf : g.fr ≤ g.j) : Gs.mu n m ⟨g.i + 1, g.j, true, g.i, g.j⟩ < g.mu n m := by
  unfold Gs.mu
  have := Nat.mul_le_mul_right (n + m + 2) (show m + 1 - g.j ≤ m + 1 - g.fr by omega)
  simp only
  omega
theorem mu_one {n m : Nat} {g : Gs} (hi : g.i < n) (hj : g.j < m) : Gs.mu n m ⟨g.i + 1, g.j + 1, g.b, g.st, g.fr⟩ < g.mu n m := by
  unfold Gs.mu
  simp only
  omega
theorem mu_back {n m : Nat} {g : Gs} (hj : g.j < m) (hf : g.fr ≤ g.j) : Gs.mu n m ⟨g.st + 1, g.fr + 1, true, g.st, g.fr + 1⟩ < g.mu n m := by
  unfold Gs.mu
  have e : m + 1 - g.fr = (m + 1 - (g.fr + 1)) + 1 := by omega
  rw [e, Nat.succ_mul]
  simp only
  omega
/-! ### the code's runes: what stands for a bad byte -/
abbrev wrg : List Int := [239, 191, 189]
theorem enc_wrg : enc8 65533 = wrg := by decide +kernel
theorem gr_wrg : Gr 65533 := by unfold Gr; omega
theorem wrg_by : By wrg := by rw [← enc_wrg]; exact enc8_by gr_wrg
theorem el_wrg {zs : List Int} (hb : By zs) {i : Nat} (h : i < zs.length) : ∃ r w : Nat, Utf8.decode (bstr zs) i = (r, w) ∧ r < 2000000 ∧ (elR zs i).2 = w ∧
    ((((r : Int) == 65533) && !decide ((zs.drop i).take 3 = wrg)) = true → (elR zs i).1 = -1) ∧ ((((r : Int) == 65533) && !decide ((zs.drop i).take 3 = wrg)) = false → (elR zs i).1 = (r : Int)) := by
  obtain ⟨r, w, hd, hr, h1⟩ := el_dec hb h
  refine ⟨r, w, hd, hr, ?_⟩
  rcases h1 with ⟨e, h1, h2, h3⟩ | ⟨e, rfl, rfl⟩
  · refine ⟨by rw [e], fun hx => ?_, fun _ => by rw [e]⟩
    simp only [Bool.and_eq_true, beq_iff_eq, Bool.not_eq_true', decide_eq_false_iff_not] at hx
    obtain ⟨hx1, hx2⟩ := hx
    exfalso
    have := enc_el hb h (by rw [e]; simp only; omega)
    rw [e] at this
    simp only at this
    rw [hx1, enc_wrg] at this
    exact hx2 (by rw [this]; rfl)
  · refine ⟨by rw [e], fun _ => by rw [e], fun hx => ?_⟩
    exfalso
    simp only [Bool.and_eq_false_iff, beq_eq_false_iff_ne, Bool.not_eq_false', decide_eq_true_eq] at hx
    rcases hx with hx | hx
    · exact hx rfl
    · have e2 : zs.drop i = wrg ++ (zs.drop i).drop 3 := by rw [← hx, List.take_append_drop]
      have e3 := elR_enc gr_wrg ((zs.drop i).drop 3)
      rw [enc_wrg, ← e2, elR_drop, Nat.add_zero, e] at e3
      simp at e3
/-! ### trimmed -/
def trL (c : Int) (zs : List Int) : List Int := zs.dropWhile (· == c)
def trR (c : Int) (zs : List Int) : List Int := (zs.reverse.dropWhile (· == c)).reverse
theorem trR_snoc (c z : Int) (zs : List Int) : trR c (zs ++ [z]) = if z = c then trR c zs else zs ++ [z] := by
  unfold trR
  rw [List.reverse_append]
  simp only [List.reverse_cons, List.reverse_nil, List.nil_append, List.singleton_append, List.dropWhile_cons, beq_iff_eq]
  split
  · rfl
  · simp
theorem trL_cons (c z : Int) (zs : List Int) : trL c (z :: zs) = if z = c then trL c zs else z :: zs := by
  unfold trL
  simp only [List.dropWhile_cons, beq_iff_eq]
theorem dw_nil {c : Int} : ∀ {l : List Int}, l.dropWhile (· == c) = [] ↔ ∀ z ∈ l, z = c
  | [] => by simp
  | z :: r => by
    simp only [List.dropWhile_cons, beq_iff_eq, List.mem_cons, forall_eq_or_imp]
    split
    · rename_i h; rw [dw_nil]; simp [h]
    · rename_i h; simp [h]
theorem trim_nil (c : Int) (zs : List Int) : trL c (trR c zs) = [] ↔ ∀ z ∈ zs, z = c := by
  constructor
  · intro h
    by_cases h2 : trR c zs = []
    · unfold trR at h2
      rw [List.reverse_eq_nil_iff, dw_nil] at h2
      intro z hz
      exact h2 z (List.mem_reverse.2 hz)
    · exfalso
      unfold trL at h
      rw [dw_nil] at h
      -- the last one is no such
      obtain ⟨M, z, hM⟩ : ∃ M z, trR c zs = M ++ [z] := by
        obtain h3 | ⟨M, z, h3⟩ := List.eq_nil_or_concat (trR c zs)
        · exact absurd h3 h2
        · exact ⟨M, z, by rw [h3]; simp⟩
      have hz := h z (by rw [hM]; simp)
      unfold trR at hM
      have h4 := congrArg List.reverse hM
      rw [List.reverse_reverse, List.reverse_append] at h4
      have h5 := List.head?_dropWhile_not (· == c) zs.reverse
      rw [h4] at h5
      simp [hz] at h5
  · intro h
    have : trR c zs = [] := by
      unfold trR
      rw [List.reverse_eq_nil_iff, dw_nil]
      intro z hz
      exact h z (List.mem_reverse.1 hz)
    rw [this]; rfl
theorem trR_len (c : Int) (zs : List Int) : (trR c zs).length ≤ zs.length := by
  unfold trR
  rw [List.length_reverse]
  have := (List.dropWhile_suffix (l := zs.reverse) (· == c)).length_le
  simpa using this
theorem By.of_mem {zs : List Int} (h : ∀ z ∈ zs, 0 ≤ z ∧ z ≤ 255) : By zs := fun i hi => by
  rw [List.getD_eq_getElem?_getD, List.getElem?_eq_getElem hi, Option.getD_some]
  exact h _ (List.getElem_mem hi)
theorem By.mem {zs : List Int} (h : By zs) : ∀ z ∈ zs, 0 ≤ z ∧ z ≤ 255 := fun z hz => by
  obtain ⟨i, hi, rfl⟩ := List.mem_iff_getElem.1 hz
  have := h i hi
  rwa [List.getD_eq_getElem?_getD, List.getElem?_eq_getElem hi, Option.getD_some] at this
theorem By.trR {zs : List Int} (h : By zs) (c : Int) : By (trR c zs) := By.of_mem fun z hz => h.mem z (by
  unfold Proofs.YtaffbklkjjmmdaaDoor.trR at hz
  rw [List.mem_reverse] at hz
  exact List.mem_reverse.1 ((List.dropWhile_suffix (l := zs.reverse) (· == c)).subset hz))
theorem By.trL {zs : List Int} (h : By zs) (c : Int) : By (trL c zs) := By.of_mem fun z hz => h.mem z ((List.dropWhile_suffix (l := zs) (· == c)).subset hz)
/-! ### runes as a text -/
theorem enc_star {r : Int} (hr : Gr r) : Utf8.encode r = bstr (enc8 r) := by
  obtain ⟨h0, h1, h2⟩ := hr
  obtain ⟨n, rfl⟩ := Int.eq_ofNat_of_zero_le h0
  have hv : Utf8.valid ((n : Nat) : Int) = true := (valid_iff n).2 ⟨by omega, by omega⟩
  have q0 : ∀ x : Int, 0 ≤ x → UInt8.ofNat x.toNat = UInt8.ofNat x.toNat := fun _ _ => rfl
  unfold Utf8.encode enc8
  rw [if_pos hv]
  simp only [Int.toNat_natCast]
  by_cases c1 : n < 128
  · rw [if_pos c1, if_pos (show (n : Int) < 128 by omega)]; unfold bstr; simp
  · rw [if_neg c1, if_neg (show ¬ (n : Int) < 128 by omega)]
    by_cases c2 : n < 2048
    · rw [if_pos c2, if_pos (show (n : Int) < 2048 by omega)]
      unfold bstr
      simp only [List.map_cons, List.map_nil]
      rw [show (192 + (n : Int) / 64).toNat = 192 + n / 64 by omega, show (128 + (n : Int) % 64).toNat = 128 + n % 64 by omega]
    · rw [if_neg c2, if_neg (show ¬ (n : Int) < 2048 by omega)]
      by_cases c3 : n < 65536
      · rw [if_pos c3, if_pos (show (n : Int) < 65536 by omega)]
        unfold bstr
        simp only [List.map_cons, List.map_nil]
        rw [show (224 + (n : Int) / 4096).toNat = 224 + n / 4096 by omega, show (128 + (n : Int) / 64 % 64).toNat = 128 + n / 64 % 64 by omega, show (128 + (n : Int) % 64).toNat = 128 + n % 64 by omega]
      · rw [if_neg c3, if_neg (show ¬ (n : Int) < 65536 by omega)]
        unfold bstr
        simp only [List.map_cons, List.map_nil]
        rw [show (240 + (n : Int) / 262144).toNat = 240 + n / 262144 by omega, show (128 + (n : Int) / 4096 % 64).toNat = 128 + n / 4096 % 64 by omega, show (128 + (n : Int) / 64 % 64).toNat = 128 + n / 64 % 64 by omega, show (128 + (n : Int) % 64).toNat = 128 + n % 64 by omega]
theorem rstr_enc : ∀ {l : List Int}, (∀ r ∈ l, Gr r) → rstr l = bstr (l.flatMap enc8) := by
  have key : ∀ (l : List Int) (A : List Int), (∀ r ∈ l, Gr r) → l.foldl (fun r n => r ++ Utf8.encode n) (bstr A) = bstr (A ++ l.flatMap enc8) := by
    intro l
    induction l with
    | nil => intro A _; simp
    | cons r l ih =>
      intro A h
      rw [List.foldl_cons, enc_star (h r (List.mem_cons_self ..)), bstr_app, ih _ fun x hx => h x (List.mem_cons_of_mem _ hx)]
      simp
  intro l h
  have := key l [] h
  exact this
theorem enc_marks {l : List Int} (h : ∀ r ∈ l, Gr r) : (∀ z ∈ l.flatMap enc8, z = 42) ↔ ∀ r ∈ l, r = 42 := by
  constructor
  · intro hz r hr
    have hg := h r hr
    obtain ⟨h0, h1, -⟩ := hg
    have hm : ∀ z ∈ enc8 r, z = 42 := fun z hz' => hz z (List.mem_flatMap.2 ⟨r, hr, hz'⟩)
    unfold enc8 at hm
    split at hm
    · exact hm r (by simp)
    · split at hm
      · have := hm (192 + r / 64) (by simp); omega
      · split at hm
        · have := hm (224 + r / 4096) (by simp); omega
        · have := hm (240 + r / 262144) (by simp); omega
  · intro hr z hz
    obtain ⟨r, h1, h2⟩ := List.mem_flatMap.1 hz
    have := hr r h1
    subst this
    have : enc8 42 = [42] := by decide +kernel
    rw [this] at h2
    simpa using h2
end Go.Proofs.YtaffbklkjjmmdaaDoor
