/-
  The walks and the laws that the statement leans on, part 14.
-/
import Derived.Test.YtpidkkgjgichdaaDoorZ13
namespace Go.Proofs.YtpidkkgjgichdaaDoor
open Go
set_option linter.unusedVariables false
set_option linter.unusedSimpArgs false
theorem drop_at (zs : List Int) (i : Nat) : (zs.drop i).getD 0 0 = zs.getD i 0 := by simp [List.getD_eq_getElem?_getD, List.getElem?_drop]
theorem elR_w (zs : List Int) (i : Nat) : 1 ≤ (elR zs i).2 := by
  unfold elR
  split
  · simp
  · split <;> simp
theorem rnF_more (zs : List Int) : ∀ f i f', zs.length - i ≤ f → zs.length - i ≤ f' → rnF zs f i = rnF zs f' i := by
  intro f
  induction f with
  | zero =>
    intro i f' h h'
    cases f' with
    | zero => rfl
    | succ f' => rw [rnF_succ, if_neg (by omega)]; rfl
  | succ f ih =>
    intro i f' h h'
    cases f' with
    | zero => rw [rnF_succ, if_neg (by omega)]; rfl
    | succ f' =>
      rw [rnF_succ, rnF_succ]
      have := elR_w zs i
      rw [ih (i + (elR zs i).2) f' (by omega) (by omega)]
def Gd (zs : List Int) (i : Nat) : Prop := ∀ r ∈ rnF zs (zs.length - i) i, r ≠ -1
theorem Gd_end {zs : List Int} {i : Nat} (h : zs.length ≤ i) : Gd zs i := by
  unfold Gd
  rw [show zs.length - i = 0 by omega]
  intro r hr; cases hr
theorem Gd_step {zs : List Int} {i : Nat} (h : i < zs.length) : Gd zs i ↔ ((elR zs i).1 ≠ -1 ∧ Gd zs (i + (elR zs i).2)) := by
  unfold Gd
  obtain ⟨f, hf⟩ : ∃ f, zs.length - i = f + 1 := ⟨zs.length - i - 1, by omega⟩
  rw [hf, rnF_succ, if_pos h]
  have := elR_w zs i
  rw [rnF_more zs f (i + (elR zs i).2) (zs.length - (i + (elR zs i).2)) (by omega) (by omega)]
  simp only [List.mem_cons, forall_eq_or_imp]
theorem Gd_lo {zs : List Int} (hb : By zs) {i : Nat} (h : i < zs.length) (h0 : zs.getD i 0 < 128) : Gd zs i ↔ Gd zs (i + 1) := by
  rw [Gd_step h]
  have e : elR zs i = (zs.getD i 0, 1) := by unfold elR; rw [if_pos h0]
  rw [e]
  have := hb i h
  constructor
  · exact fun h => h.2
  · exact fun h => ⟨by simp only; omega, h⟩
theorem Gd_los {zs : List Int} (hb : By zs) : ∀ (k i : Nat), i + k ≤ zs.length → (∀ j, j < k → zs.getD (i + j) 0 < 128) → (Gd zs i ↔ Gd zs (i + k)) := by
  intro k
  induction k with
  | zero => intro i _ _; exact Iff.rfl
  | succ k ih =>
    intro i h hj
    rw [ih i (by omega) fun j h => hj j (by omega), Gd_lo hb (by omega) (hj k (by omega))]
    exact Iff.rfl
def szB (b : Int) : Nat := if b < 194 then 1 else if b < 224 then 2 else if b < 240 then 3 else if b < 245 then 4 else 1
def acB (b : Int) : Nat := if b < 194 then 15 else if b = 224 then 1 else if b = 237 then 2 else if b = 240 then 3 else if b = 244 then 4 else if b < 245 then 0 else 15
def loB (b : Int) : Int := if b = 224 then 160 else if b = 240 then 144 else 128
def hiB (b : Int) : Int := if b = 237 then 159 else if b = 244 then 143 else 191
theorem el_one {zs : List Int} (hb : By zs) {i : Nat} (h : i < zs.length) (h0 : 128 ≤ zs.getD i 0) (h1 : szB (zs.getD i 0) = 1) : ¬ Gd zs i := by
  rw [Gd_step h]
  have hx := hb i h
  have e : elR zs i = (-1, 1) := by
    unfold elR
    rw [if_neg (by omega), if_neg]
    rintro ⟨a1, a2, a3⟩
    unfold szB at h1
    have hz : zs.getD i 0 < 194 ∨ 245 ≤ zs.getD i 0 := by
      by_cases c1 : zs.getD i 0 < 194
      · exact .inl c1
      · rw [if_neg c1] at h1
        by_cases c2 : zs.getD i 0 < 224
        · rw [if_pos c2] at h1; cases h1
        · rw [if_neg c2] at h1
          by_cases c3 : zs.getD i 0 < 240
          · rw [if_pos c3] at h1; cases h1
          · rw [if_neg c3] at h1
            by_cases c4 : zs.getD i 0 < 245
            · rw [if_pos c4] at h1; cases h1
            · exact .inr (by omega)
    rcases hz with hz | hz
    · by_cases c : 192 ≤ zs.getD i 0
      · have hn : nB (zs.getD i 0) = 1 := by unfold nB; rw [if_pos (by omega)]
        rw [hn] at a2 a3
        have a4 := a2 1 (by omega) (by omega)
        have a5 : (128 : Int) ≤ 64 * (zs.getD i 0 - 192) + zs.getD (i + 1) 0 - 128 := a3.1
        have := a4.2
        omega
      · exact a1 (by unfold nB; rw [if_neg (by omega), if_neg (by omega), if_neg (by omega)])
    · by_cases c : zs.getD i 0 < 248
      · have hn : nB (zs.getD i 0) = 3 := by unfold nB; rw [if_neg (by omega), if_neg (by omega), if_pos (by omega)]
        rw [hn] at a2 a3
        have a4 := a2 1 (by omega) (by omega)
        have a5 := a2 2 (by omega) (by omega)
        have a6 := a2 3 (by omega) (by omega)
        have a7 : 64 * (64 * (64 * (zs.getD i 0 - 240) + zs.getD (i + 1) 0 - 128) + zs.getD (i + 2) 0 - 128) + zs.getD (i + 3) 0 - 128 ≤ 1114111 := a3.2.1
        have := a4.2; have := a5.2; have := a6.2
        omega
      · exact a1 (by unfold nB; rw [if_neg (by omega), if_neg (by omega), if_neg (by omega)])
  rw [e]
  exact fun hh => hh.1 rfl
def rest (zs : List Int) (i : Nat) : Prop := i + szB (zs.getD i 0) ≤ zs.length ∧ (loB (zs.getD i 0) ≤ zs.getD (i + 1) 0 ∧ zs.getD (i + 1) 0 ≤ hiB (zs.getD i 0)) ∧ (3 ≤ szB (zs.getD i 0) → 128 ≤ zs.getD (i + 2) 0 ∧ zs.getD (i + 2) 0 ≤ 191) ∧ (4 ≤ szB (zs.getD i 0) → 128 ≤ zs.getD (i + 3) 0 ∧ zs.getD (i + 3) 0 ≤ 191)
theorem el_rest {zs : List Int} (hb : By zs) {i : Nat} (h : i < zs.length) (h0 : 128 ≤ zs.getD i 0) (h1 : szB (zs.getD i 0) ≠ 1) : Gd zs i ↔ (rest zs i ∧ Gd zs (i + szB (zs.getD i 0))) := by
  rw [Gd_step h]
  have hx := hb i h
  suffices key : (rest zs i → (elR zs i).1 ≠ -1 ∧ (elR zs i).2 = szB (zs.getD i 0)) ∧ (¬ rest zs i → (elR zs i).1 = -1) by
    by_cases hr : rest zs i
    · obtain ⟨k1, k2⟩ := key.1 hr
      rw [k2]
      exact ⟨fun hh => ⟨hr, hh.2⟩, fun hh => ⟨k1, hh.2⟩⟩
    · exact ⟨fun hh => absurd (key.2 hr) hh.1, fun hh => absurd hh.1 hr⟩
  unfold elR
  rw [if_neg (by omega)]
  unfold rest
  generalize hz : zs.getD i 0 = z at *
  have hc0 : ∀ n, cP zs i n 0 = z - bsR n := fun n => by rw [← hz]; rfl
  by_cases n1 : z < 224
  · have hlo : 194 ≤ z := by
      unfold szB at h1
      by_cases c : z < 194
      · rw [if_pos c] at h1; exact absurd rfl h1
      · omega
    have hs : szB z = 2 := by unfold szB; rw [if_neg (by omega), if_pos n1]
    have hn : nB z = 1 := by unfold nB; rw [if_pos (by omega)]
    have hl : loB z = 128 := by unfold loB; rw [if_neg (by omega), if_neg (by omega)]
    have hh : hiB z = 191 := by unfold hiB; rw [if_neg (by omega), if_neg (by omega)]
    have hcp : cP zs i 1 1 = 64 * (z - 192) + zs.getD (i + 1) 0 - 128 := by rw [cP_succ, hc0]; rfl
    rw [hs, hn, hl, hh]
    constructor
    · rintro ⟨a1, a2, -, -⟩
      have ha : allC zs i 1 := fun k k1 k2 => by rcases (show k = 1 by omega) with rfl; exact ⟨by omega, a2.1, a2.2⟩
      have hf : fitR 1 (cP zs i 1 1) := by rw [hcp]; exact ⟨by show (128 : Int) ≤ _; omega, by omega, by omega⟩
      rw [if_pos ⟨by decide, ha, hf⟩]
      exact ⟨by simp only; rw [hcp]; omega, rfl⟩
    · intro hno
      rw [if_neg]
      rintro ⟨-, a2, -⟩
      have a4 := a2 1 (by omega) (by omega)
      exact hno ⟨by have := a4.1; omega, a4.2, by omega, by omega⟩
  by_cases n2 : z < 240
  · have hs : szB z = 3 := by unfold szB; rw [if_neg (by omega), if_neg n1, if_pos n2]
    have hn : nB z = 2 := by unfold nB; rw [if_neg (by omega), if_pos (by omega)]
    have hcp : cP zs i 2 2 = 64 * (64 * (z - 224) + zs.getD (i + 1) 0 - 128) + zs.getD (i + 2) 0 - 128 := by rw [cP_succ, cP_succ, hc0]; rfl
    have hlh : (z = 224 ∧ loB z = 160 ∧ hiB z = 191) ∨ (z = 237 ∧ loB z = 128 ∧ hiB z = 159) ∨ (z ≠ 224 ∧ z ≠ 237 ∧ loB z = 128 ∧ hiB z = 191) := by
      by_cases c1 : z = 224
      · exact .inl ⟨c1, by rw [c1]; rfl, by rw [c1]; rfl⟩
      by_cases c2 : z = 237
      · exact .inr (.inl ⟨c2, by rw [c2]; rfl, by rw [c2]; rfl⟩)
      exact .inr (.inr ⟨c1, c2, by unfold loB; rw [if_neg c1, if_neg (by omega)], by unfold hiB; rw [if_neg c2, if_neg (by omega)]⟩)
    rw [hs, hn]
    constructor
    · rintro ⟨a1, a2, a3, -⟩
      have a3 := a3 (by omega)
      have ha : allC zs i 2 := fun k k1 k2 => by rcases (by omega : k = 1 ∨ k = 2) with rfl | rfl; exact ⟨by omega, by omega, by omega⟩; exact ⟨by omega, a3.1, a3.2⟩
      have hf : fitR 2 (cP zs i 2 2) := by rw [hcp]; exact ⟨by show (2048 : Int) ≤ _; omega, by omega, by omega⟩
      rw [if_pos ⟨by decide, ha, hf⟩]
      exact ⟨by simp only; rw [hcp]; omega, rfl⟩
    · intro hno
      rw [if_neg]
      rintro ⟨-, a2, f1, f2, f3⟩
      have a4 := a2 1 (by omega) (by omega)
      have a5 := a2 2 (by omega) (by omega)
      have f1 : (2048 : Int) ≤ _ := f1
      rw [hcp] at f1 f2 f3
      have b4 := a4.2; have b5 := a5.2
      exact hno ⟨by have := a5.1; omega, ⟨by omega, by omega⟩, fun _ => b5, by omega⟩
  · have hlt : z < 245 := by
      unfold szB at h1
      by_cases c : z < 245
      · exact c
      · rw [if_neg (by omega), if_neg n1, if_neg n2, if_neg c] at h1; exact absurd rfl h1
    have hs : szB z = 4 := by unfold szB; rw [if_neg (by omega), if_neg n1, if_neg n2, if_pos hlt]
    have hn : nB z = 3 := by unfold nB; rw [if_neg (by omega), if_neg (by omega), if_pos (by omega)]
    have hcp : cP zs i 3 3 = 64 * (64 * (64 * (z - 240) + zs.getD (i + 1) 0 - 128) + zs.getD (i + 2) 0 - 128) + zs.getD (i + 3) 0 - 128 := by rw [cP_succ, cP_succ, cP_succ, hc0]; rfl
    have hlh : (z = 240 ∧ loB z = 144 ∧ hiB z = 191) ∨ (z = 244 ∧ loB z = 128 ∧ hiB z = 143) ∨ (z ≠ 240 ∧ z ≠ 244 ∧ loB z = 128 ∧ hiB z = 191) := by
      by_cases c1 : z = 240
      · exact .inl ⟨c1, by rw [c1]; rfl, by rw [c1]; rfl⟩
      by_cases c2 : z = 244
      · exact .inr (.inl ⟨c2, by rw [c2]; rfl, by rw [c2]; rfl⟩)
      exact .inr (.inr ⟨c1, c2, by unfold loB; rw [if_neg (by omega), if_neg c1], by unfold hiB; rw [if_neg (by omega), if_neg c2]⟩)
    rw [hs, hn]
    constructor
    · rintro ⟨a1, a2, a3, a6⟩
      have a3 := a3 (by omega)
      have a6 := a6 (by omega)
      have ha : allC zs i 3 := fun k k1 k2 => by rcases (by omega : k = 1 ∨ k = 2 ∨ k = 3) with rfl | rfl | rfl; exact ⟨by omega, by omega, by omega⟩; exact ⟨by omega, a3.1, a3.2⟩; exact ⟨by omega, a6.1, a6.2⟩
      have hf : fitR 3 (cP zs i 3 3) := by rw [hcp]; exact ⟨by show (65536 : Int) ≤ _; omega, by omega, by omega⟩
      rw [if_pos ⟨by decide, ha, hf⟩]
      exact ⟨by simp only; rw [hcp]; omega, rfl⟩
    · intro hno
      rw [if_neg]
      rintro ⟨-, a2, f1, f2, f3⟩
      have a4 := a2 1 (by omega) (by omega)
      have a5 := a2 2 (by omega) (by omega)
      have a6 := a2 3 (by omega) (by omega)
      have f1 : (65536 : Int) ≤ _ := f1
      rw [hcp] at f1 f2 f3
      have b4 := a4.2; have b5 := a5.2; have b6 := a6.2
      exact hno ⟨by have := a6.1; omega, ⟨by omega, by omega⟩, fun _ => b5, fun _ => b6⟩
def fsZ : List Int := [240, 240, 240, 240, 240, 240, 240, 240, 240, 240, 240, 240, 240, 240, 240, 240, 240, 240, 240, 240, 240, 240, 240, 240, 240, 240, 240, 240, 240, 240, 240, 240, 240, 240, 240, 240, 240, 240, 240, 240, 240, 240, 240, 240, 240, 240, 240, 240, 240, 240, 240, 240, 240, 240, 240, 240, 240, 240, 240, 240, 240, 240, 240, 240, 240, 240, 240, 240, 240, 240, 240, 240, 240, 240, 240, 240, 240, 240, 240, 240, 240, 240, 240, 240, 240, 240, 240, 240, 240, 240, 240, 240, 240, 240, 240, 240, 240, 240, 240, 240, 240, 240, 240, 240, 240, 240, 240, 240, 240, 240, 240, 240, 240, 240, 240, 240, 240, 240, 240, 240, 240, 240, 240, 240, 240, 240, 240, 240, 241, 241, 241, 241, 241, 241, 241, 241, 241, 241, 241, 241, 241, 241, 241, 241, 241, 241, 241, 241, 241, 241, 241, 241, 241, 241, 241, 241, 241, 241, 241, 241, 241, 241, 241, 241, 241, 241, 241, 241, 241, 241, 241, 241, 241, 241, 241, 241, 241, 241, 241, 241, 241, 241, 241, 241, 241, 241, 241, 241, 241, 241, 241, 241, 241, 241, 2, 2, 2, 2, 2, 2, 2, 2, 2, 2, 2, 2, 2, 2, 2, 2, 2, 2, 2, 2, 2, 2, 2, 2, 2, 2, 2, 2, 2, 2, 19, 3, 3, 3, 3, 3, 3, 3, 3, 3, 3, 3, 3, 35, 3, 3, 52, 4, 4, 4, 68, 241, 241, 241, 241, 241, 241, 241, 241, 241, 241, 241]
def acZ : List Int := [128, 191, 160, 191, 128, 159, 144, 191, 128, 143, 0, 0, 0, 0, 0, 0, 0, 0, 0, 0, 0, 0, 0, 0, 0, 0, 0, 0, 0, 0, 0, 0]
theorem fsZ_len : fsZ.length = 256 := by decide +kernel
theorem acZ_len : acZ.length = 32 := by decide +kernel
theorem fs_at : ∀ n : Nat, n < 256 → 128 ≤ n → fsZ.getD n 0 = ((16 * acB (n : Int) + szB (n : Int) : Nat) : Int) := by decide +kernel
theorem and7 : ∀ x : Nat, x < 256 → ibit .and .u8 (x : Int) 7 = ((x % 8 : Nat) : Int) := by decide +kernel
theorem ac_at : ∀ n : Nat, n < 256 → 194 ≤ n → n < 245 → acZ.getD (2 * acB (n : Int)) 0 = loB (n : Int) ∧ acZ.getD (2 * acB (n : Int) + 1) 0 = hiB (n : Int) := by decide +kernel
theorem ac_lt : ∀ n : Nat, n < 256 → 128 ≤ n → acB (n : Int) < 16 ∧ szB (n : Int) < 8 := by decide +kernel
end Go.Proofs.YtpidkkgjgichdaaDoor
