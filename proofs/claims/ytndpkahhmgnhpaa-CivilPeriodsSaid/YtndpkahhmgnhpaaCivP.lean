/-
  Dates in plain Lean: a day has one date.
-/
import Derived.Test.YtndpkahhmgnhpaaCivB
namespace Go.Proofs.Ytndpkahhmgnhpaa
open Go
set_option linter.unusedVariables false
set_option linter.unusedSimpArgs false

theorem leapI_pos {y : Int} (h : 0 ≤ y) : leapI y = true ↔ (y % 4 = 0 ∧ y % 100 ≠ 0) ∨ y % 400 = 0 := by
  unfold leapI
  rw [Int.tmod_eq_emod_of_nonneg h, Int.tmod_eq_emod_of_nonneg h, Int.tmod_eq_emod_of_nonneg h]
  simp
def yearI (y : Int) : Int := if leapI y then 366 else 365
theorem yearI_bd (y : Int) : 365 ≤ yearI y ∧ yearI y ≤ 366 := by unfold yearI; split <;> omega
theorem m_cases {m : Int} (h1 : 1 ≤ m) (h2 : m ≤ 12) : m = 1 ∨ m = 2 ∨ m = 3 ∨ m = 4 ∨ m = 5 ∨ m = 6 ∨ m = 7 ∨ m = 8 ∨ m = 9 ∨ m = 10 ∨ m = 11 ∨ m = 12 := by omega
theorem daysI_1 (y : Int) : daysI y 1 = 31 := by unfold daysI; rw [if_neg (by omega), if_neg (by omega)]; decide
theorem daysI_2 (y : Int) : daysI y 2 = if leapI y then 29 else 28 := by unfold daysI; rw [if_neg (by omega), if_pos rfl]
theorem daysI_3 (y : Int) : daysI y 3 = 31 := by unfold daysI; rw [if_neg (by omega), if_neg (by omega)]; decide
theorem daysI_4 (y : Int) : daysI y 4 = 30 := by unfold daysI; rw [if_neg (by omega), if_neg (by omega)]; decide
theorem daysI_5 (y : Int) : daysI y 5 = 31 := by unfold daysI; rw [if_neg (by omega), if_neg (by omega)]; decide
theorem daysI_6 (y : Int) : daysI y 6 = 30 := by unfold daysI; rw [if_neg (by omega), if_neg (by omega)]; decide
theorem daysI_7 (y : Int) : daysI y 7 = 31 := by unfold daysI; rw [if_neg (by omega), if_neg (by omega)]; decide
theorem daysI_8 (y : Int) : daysI y 8 = 31 := by unfold daysI; rw [if_neg (by omega), if_neg (by omega)]; decide
theorem daysI_9 (y : Int) : daysI y 9 = 30 := by unfold daysI; rw [if_neg (by omega), if_neg (by omega)]; decide
theorem daysI_10 (y : Int) : daysI y 10 = 31 := by unfold daysI; rw [if_neg (by omega), if_neg (by omega)]; decide
theorem daysI_11 (y : Int) : daysI y 11 = 30 := by unfold daysI; rw [if_neg (by omega), if_neg (by omega)]; decide
theorem daysI_12 (y : Int) : daysI y 12 = 31 := by unfold daysI; rw [if_neg (by omega), if_neg (by omega)]; decide

/-- The days of a year ahead of a month. -/
def feb (y : Int) : Int := if leapI y then 29 else 28
/-- The first day of a year. -/
def newY (y : Int) : Int := 365 * y + (y - 1) / 4 - (y - 1) / 100 + (y - 1) / 400 - 59
theorem ahead_newY (y : Int) : aheadI y 1 1 = newY y := by
  unfold aheadI aheadM newY; rw [if_pos (by omega)]; omega
theorem newY_step {y : Int} (h : 1 ≤ y) : newY (y + 1) = newY y + yearI y := by
  unfold newY yearI
  have hl := leapI_pos (y := y) (by omega)
  by_cases hb : leapI y = true
  · rw [if_pos hb]
    have := hl.1 hb
    have g1 : y / 4 = (y - 1) / 4 + (if y % 4 = 0 then 1 else 0) := by split <;> omega
    have g2 : y / 100 = (y - 1) / 100 + (if y % 100 = 0 then 1 else 0) := by split <;> omega
    have g3 : y / 400 = (y - 1) / 400 + (if y % 400 = 0 then 1 else 0) := by split <;> omega
    rw [show y + 1 - 1 = y by omega, g1, g2, g3]
    (repeat' split) <;> omega
  · rw [if_neg hb]
    have : ¬ ((y % 4 = 0 ∧ y % 100 ≠ 0) ∨ y % 400 = 0) := fun h => hb (hl.2 h)
    have g1 : y / 4 = (y - 1) / 4 + (if y % 4 = 0 then 1 else 0) := by split <;> omega
    have g2 : y / 100 = (y - 1) / 100 + (if y % 100 = 0 then 1 else 0) := by split <;> omega
    have g3 : y / 400 = (y - 1) / 400 + (if y % 400 = 0 then 1 else 0) := by split <;> omega
    rw [show y + 1 - 1 = y by omega, g1, g2, g3]
    (repeat' split) <;> omega
theorem newY_mono {y z : Int} (h : y ≤ z) : newY y ≤ newY z := by
  unfold newY
  have a1 : (y - 1) / 4 ≤ (z - 1) / 4 := by omega
  have a2 : (y - 1) / 400 ≤ (z - 1) / 400 := by omega
  have a3 : (z - 1) / 100 - (y - 1) / 100 ≤ z - y := by omega
  omega
/-- A date's day, off the first day of its year. -/
theorem ahead_in {y m d : Int} (hy : 1 ≤ y) (h1 : 1 ≤ m) (h2 : m ≤ 12) :
    aheadI y m d = newY y + d - 1 + (if m = 1 then 0 else if m = 2 then 31 else feb y + (if m = 3 then 31 else if m = 4 then 62 else if m = 5 then 92 else if m = 6 then 123 else if m = 7 then 153 else if m = 8 then 184 else if m = 9 then 215 else if m = 10 then 245 else if m = 11 then 276 else 306)) := by
  have hn := newY_step hy
  have hf : feb y = yearI y - 337 := by unfold feb yearI; split <;> rfl
  have hq : newY (y + 1) = 365 * (y + 1) + y / 4 - y / 100 + y / 400 - 59 := by unfold newY; rw [show y + 1 - 1 = y by omega]
  rcases m_cases h1 h2 with rfl | rfl | rfl | rfl | rfl | rfl | rfl | rfl | rfl | rfl | rfl | rfl
  · unfold aheadI aheadM newY; rw [if_pos (by omega)]; simp; omega
  · unfold aheadI aheadM newY; rw [if_pos (by omega)]; simp; omega
  all_goals (unfold aheadI aheadM; rw [if_neg (by omega)]; simp; omega)
theorem month_step {y m : Int} (hy : 1 ≤ y) (h1 : 1 ≤ m) (h2 : m ≤ 11) : aheadI y (m + 1) 1 = aheadI y m 1 + daysI y m := by
  rw [ahead_in hy (by omega) (by omega), ahead_in hy (by omega) (by omega)]
  have hf : daysI y 2 = feb y := daysI_2 y
  rcases m_cases h1 (by omega) with rfl | rfl | rfl | rfl | rfl | rfl | rfl | rfl | rfl | rfl | rfl | rfl
  · rw [daysI_1]; simp
  · rw [hf]; simp; omega
  · rw [daysI_3]; simp; omega
  · rw [daysI_4]; simp; omega
  · rw [daysI_5]; simp; omega
  · rw [daysI_6]; simp; omega
  · rw [daysI_7]; simp; omega
  · rw [daysI_8]; simp; omega
  · rw [daysI_9]; simp; omega
  · rw [daysI_10]; simp; omega
  · rw [daysI_11]; simp; omega
  · omega
theorem last_step {y : Int} (hy : 1 ≤ y) : newY (y + 1) = aheadI y 12 1 + 31 := by
  rw [ahead_in hy (by omega) (by omega), newY_step hy]
  have hf : feb y = yearI y - 337 := by unfold feb yearI; split <;> rfl
  rw [hf]; simp; omega
theorem ahead_d (y m d : Int) : aheadI y m d = aheadI y m 1 + d - 1 := by
  unfold aheadI aheadM; split <;> omega
theorem feb_bd (y : Int) : 28 ≤ feb y ∧ feb y ≤ 29 := by unfold feb; split <;> omega
theorem days_bd {y m : Int} (h1 : 1 ≤ m) (h2 : m ≤ 12) : 28 ≤ daysI y m ∧ daysI y m ≤ 31 := by
  have := feb_bd y
  have hf : daysI y 2 = feb y := daysI_2 y
  rcases m_cases h1 h2 with rfl | rfl | rfl | rfl | rfl | rfl | rfl | rfl | rfl | rfl | rfl | rfl
  · rw [daysI_1]; omega
  · rw [hf]; omega
  · rw [daysI_3]; omega
  · rw [daysI_4]; omega
  · rw [daysI_5]; omega
  · rw [daysI_6]; omega
  · rw [daysI_7]; omega
  · rw [daysI_8]; omega
  · rw [daysI_9]; omega
  · rw [daysI_10]; omega
  · rw [daysI_11]; omega
  · rw [daysI_12]; omega
/-- The months of a year lie one behind the other. -/
theorem month_le {y : Int} (hy : 1 ≤ y) : ∀ (k : Nat) {m : Int}, 1 ≤ m → m + k ≤ 12 → aheadI y m 1 ≤ aheadI y (m + k) 1
  | 0, m, _, _ => by simp
  | k + 1, m, h1, h2 => by
    have a := month_le hy k h1 (by omega)
    have b := month_step hy (m := m + k) (by omega) (by omega)
    have c := days_bd (y := y) (m := m + k) (by omega) (by omega)
    have e : m + ((k + 1 : Nat) : Int) = m + k + 1 := by omega
    rw [e]; omega
theorem month_end {y m : Int} (hy : 1 ≤ y) (h1 : 1 ≤ m) (h2 : m ≤ 12) : aheadI y m 1 + daysI y m ≤ newY (y + 1) := by
  by_cases h : m = 12
  · subst h; rw [last_step hy, daysI_12]; omega
  · rw [← month_step hy h1 (by omega)]
    have a := month_le hy (11 - m).toNat (m := m + 1) (by omega) (by omega)
    rw [show m + 1 + ((11 - m).toNat : Int) = 12 by omega] at a
    have := last_step hy
    omega
theorem month_start {y m : Int} (hy : 1 ≤ y) (h1 : 1 ≤ m) (h2 : m ≤ 12) : newY y ≤ aheadI y m 1 := by
  have a := month_le hy (m - 1).toNat (m := 1) (by omega) (by omega)
  rw [show 1 + ((m - 1).toNat : Int) = m by omega, ahead_newY] at a
  exact a
/-- A day has one date. -/
theorem ahead_inj {y m d y' m' d' : Int} (hy : 1 ≤ y) (hy' : 1 ≤ y') (h1 : 1 ≤ m) (h2 : m ≤ 12) (h1' : 1 ≤ m') (h2' : m' ≤ 12)
    (h3 : 1 ≤ d) (h4 : d ≤ daysI y m) (h3' : 1 ≤ d') (h4' : d' ≤ daysI y' m') (h : aheadI y m d = aheadI y' m' d') : y = y' ∧ m = m' ∧ d = d' := by
  rw [ahead_d, ahead_d y' m' d'] at h
  have a := month_start hy h1 h2
  have b := month_end hy h1 h2
  have a' := month_start hy' h1' h2'
  have b' := month_end hy' h1' h2'
  have hyy : y = y' := by
    rcases Int.lt_trichotomy y y' with g | g | g
    · have := newY_mono (y := y + 1) (z := y') (by omega); omega
    · exact g
    · have := newY_mono (y := y' + 1) (z := y) (by omega); omega
  subst hyy
  have hmm : m = m' := by
    rcases Int.lt_trichotomy m m' with g | g | g
    · have c := month_le hy (m' - m - 1).toNat (m := m + 1) (by omega) (by omega)
      rw [show m + 1 + ((m' - m - 1).toNat : Int) = m' by omega, month_step hy h1 (by omega)] at c
      omega
    · exact g
    · have c := month_le hy (m - m' - 1).toNat (m := m' + 1) (by omega) (by omega)
      rw [show m' + 1 + ((m - m' - 1).toNat : Int) = m by omega, month_step hy h1' (by omega)] at c
      omega
  subst hmm
  exact ⟨rfl, rfl, by omega⟩
/-- The date by centuries and by fours is a date, and it is the day's. -/
theorem civ_ahead {N : Int} (h0 : 0 ≤ N) (h1 : N ≤ 4000000) : aheadI (yI N) (mI N) (dI N) = N := by
  obtain ⟨a1, a2, a3, a4, _⟩ := cen_bd h0 h1
  obtain ⟨b1, b2, b3, b4, _⟩ := yrs_bd h0 h1
  obtain ⟨c1, c2, c3, c4⟩ := mon_bd h0 h1
  have key : aheadM (100 * cenI N + yrsI N) (monI N) (dI N) = N := by
    have e1 : dayI N = remI N - 1461 * yrsI N / 4 := rfl
    have e2 : remI N = N - 146097 * cenI N / 4 := rfl
    have e3 : dI N = dayI N - (153 * monI N + 2) / 5 + 1 := rfl
    have g1 : (100 * cenI N + yrsI N) / 4 = 25 * cenI N + yrsI N / 4 := by omega
    have g2 : (100 * cenI N + yrsI N) / 100 = cenI N := by omega
    have g3 : (100 * cenI N + yrsI N) / 400 = cenI N / 4 := by omega
    have g4 : 146097 * cenI N / 4 = 36524 * cenI N + cenI N / 4 := by omega
    have g5 : 1461 * yrsI N / 4 = 365 * yrsI N + yrsI N / 4 := by omega
    unfold aheadM
    rw [g1, g2, g3]
    rw [g5] at e1
    rw [g4] at e2
    omega
  unfold aheadI yI mI
  by_cases h : 9 < monI N
  · rw [if_pos h, if_pos h, if_pos (by omega), show 100 * cenI N + yrsI N + 1 - 1 = 100 * cenI N + yrsI N by omega, show monI N - 9 + 9 = monI N by omega]
    exact key
  · rw [if_neg h, if_neg h, if_neg (by omega), show monI N + 3 - 3 = monI N by omega]
    exact key
theorem civ_bd {N : Int} (h0 : 0 ≤ N) (h1 : N ≤ 4000000) : 0 ≤ yI N ∧ 1 ≤ mI N ∧ mI N ≤ 12 ∧ 1 ≤ dI N ∧ dI N ≤ daysI (yI N) (mI N) := by
  obtain ⟨a1, a2, a3, a4, _⟩ := cen_bd h0 h1
  obtain ⟨b1, b2, b3, b4, b5⟩ := yrs_bd h0 h1
  obtain ⟨c1, c2, c3, c4⟩ := mon_bd h0 h1
  have hy : 0 ≤ yI N := by unfold yI; split <;> omega
  have hm : 1 ≤ mI N ∧ mI N ≤ 12 := by unfold mI; split <;> omega
  refine ⟨hy, hm.1, hm.2, c3, ?_⟩
  have e3 : dI N = dayI N - (153 * monI N + 2) / 5 + 1 := rfl
  have e4 : 153 * monI N ≤ 5 * dayI N + 2 ∧ 5 * dayI N + 2 < 153 * monI N + 153 := by unfold monI; omega
  by_cases h : monI N = 11
  · have em : mI N = 2 := by unfold mI; rw [if_pos (by omega)]; omega
    have ey : yI N = 100 * cenI N + yrsI N + 1 := by unfold yI; rw [if_pos (by omega)]
    rw [em, daysI_2]
    by_cases hd : dayI N = 365
    · have hl : leapI (yI N) = true := (leapI_pos hy).2 (by
        obtain ⟨g1, g2⟩ := b5 hd
        rw [ey]
        by_cases g3 : yrsI N = 99
        · have := g2 g3; right; omega
        · left; omega)
      rw [hl]; simp; omega
    · split <;> omega
  · have hc : monI N = 0 ∨ monI N = 1 ∨ monI N = 2 ∨ monI N = 3 ∨ monI N = 4 ∨ monI N = 5 ∨ monI N = 6 ∨ monI N = 7 ∨ monI N = 8 ∨ monI N = 9 ∨ monI N = 10 := by omega
    unfold mI
    rcases hc with g | g | g | g | g | g | g | g | g | g | g <;> rw [g] at e3 e4 ⊢ <;> simp only [Int.reduceLT, Int.reduceAdd, Int.reduceSub, if_true, if_false, ↓reduceIte]
    · rw [daysI_3]; omega
    · rw [daysI_4]; omega
    · rw [daysI_5]; omega
    · rw [daysI_6]; omega
    · rw [daysI_7]; omega
    · rw [daysI_8]; omega
    · rw [daysI_9]; omega
    · rw [daysI_10]; omega
    · rw [daysI_11]; omega
    · rw [daysI_12]; omega
    · rw [daysI_1]; omega
theorem newY_1970 : newY 1970 = 719468 := by decide
theorem newY_10000 : newY 10000 = 3652365 := by decide
/-- Any day of the years 1970 to 9999. -/
theorem civ_right {N : Int} (h0 : 719468 ≤ N) (h1 : N < 3652365) : rightI (yI N) (mI N) (dI N) = true := by
  obtain ⟨b0, b1, b2, b3, b4⟩ := civ_bd (N := N) (by omega) (by omega)
  have ha := civ_ahead (N := N) (by omega) (by omega)
  rw [ahead_d] at ha
  have hyp : 1 ≤ yI N := by
    by_cases h : yI N = 0
    · exfalso
      rw [h] at ha
      have : aheadI 0 (mI N) 1 ≤ 1000 := by unfold aheadI aheadM; split <;> omega
      have := daysI_le (yI N) (mI N)
      omega
    · omega
  have a := month_start hyp b1 b2
  have b := month_end hyp b1 b2
  have := daysI_le (yI N) (mI N)
  refine rightI_iff.2 ⟨⟨?_, ?_⟩, ⟨b1, b2⟩, ⟨b3, by omega⟩, b4⟩
  · by_cases h : 1970 ≤ yI N
    · exact h
    · have := newY_mono (y := yI N + 1) (z := 1970) (by omega)
      rw [newY_1970] at this; omega
  · by_cases h : yI N ≤ 9999
    · exact h
    · have := newY_mono (y := 10000) (z := yI N) (by omega)
      rw [newY_10000] at this; omega
end Go.Proofs.Ytndpkahhmgnhpaa
