/-
  The walks and the laws that the statement leans on, part 25.
-/
import Derived.Test.YtaffbklkjjmmdaaDoorB18
import Derived.Test.YtaffbklkjjmmdaaDoorB23
namespace Go.Proofs.YtaffbklkjjmmdaaDoor
open Go
set_option linter.unusedVariables false
set_option linter.unusedSimpArgs false
theorem getD_drop (zs : List Int) (p q : Nat) : (zs.drop p).getD q 0 = zs.getD (p + q) 0 := by simp [List.getD_eq_getElem?_getD, List.getElem?_drop]
theorem cP_drop (zs : List Int) (p q n : Nat) : ∀ k, cP (zs.drop p) q n k = cP zs (p + q) n k := by
  intro k
  induction k with
  | zero => show (zs.drop p).getD q 0 - _ = zs.getD (p + q) 0 - _; rw [getD_drop]
  | succ k ih => rw [cP_succ, cP_succ, ih, getD_drop, Nat.add_assoc]
theorem ctB_drop (zs : List Int) (p k : Nat) : ctB (zs.drop p) k ↔ ctB zs (p + k) := by
  unfold ctB
  rw [getD_drop, List.length_drop]
  constructor
  · rintro ⟨h1, h2⟩; exact ⟨by omega, h2⟩
  · rintro ⟨h1, h2⟩; exact ⟨by omega, h2⟩
theorem allC_drop (zs : List Int) (p q n : Nat) : allC (zs.drop p) q n ↔ allC zs (p + q) n := by
  unfold allC
  constructor
  · intro h k h1 h2
    have := (ctB_drop zs p (q + k)).1 (h k h1 h2)
    rwa [← Nat.add_assoc] at this
  · intro h k h1 h2
    have := h k h1 h2
    rw [Nat.add_assoc] at this
    exact (ctB_drop zs p (q + k)).2 this
theorem elR_drop (zs : List Int) (p q : Nat) : elR (zs.drop p) q = elR zs (p + q) := by
  have e0 := getD_drop zs p q
  unfold elR
  rw [e0]
  by_cases h0 : zs.getD (p + q) 0 < 128
  · rw [if_pos h0, if_pos h0]
  rw [if_neg h0, if_neg h0]
  have hi : (nB (zs.getD (p + q) 0) ≠ 0 ∧ allC (zs.drop p) q (nB (zs.getD (p + q) 0)) ∧ fitR (nB (zs.getD (p + q) 0)) (cP (zs.drop p) q (nB (zs.getD (p + q) 0)) (nB (zs.getD (p + q) 0)))) ↔
      (nB (zs.getD (p + q) 0) ≠ 0 ∧ allC zs (p + q) (nB (zs.getD (p + q) 0)) ∧ fitR (nB (zs.getD (p + q) 0)) (cP zs (p + q) (nB (zs.getD (p + q) 0)) (nB (zs.getD (p + q) 0)))) := by
    rw [allC_drop, cP_drop]
  by_cases hC : nB (zs.getD (p + q) 0) ≠ 0 ∧ allC zs (p + q) (nB (zs.getD (p + q) 0)) ∧ fitR (nB (zs.getD (p + q) 0)) (cP zs (p + q) (nB (zs.getD (p + q) 0)) (nB (zs.getD (p + q) 0)))
  · rw [if_pos (hi.2 hC), if_pos hC, cP_drop]
  · rw [if_neg (fun h => hC (hi.1 h)), if_neg hC]
theorem rnF_drop (zs : List Int) (p : Nat) : ∀ f q, rnF (zs.drop p) f q = rnF zs f (p + q) := by
  intro f
  induction f with
  | zero => intro q; rfl
  | succ f ih =>
    intro q
    rw [rnF_succ, rnF_succ, elR_drop, ih, List.length_drop]
    by_cases h : p + q < zs.length
    · rw [if_pos h, if_pos (by omega), Nat.add_assoc]
    · rw [if_neg h, if_neg (by omega)]
theorem rn_drop (zs : List Int) (p : Nat) : rn (zs.drop p) = rF zs p := by
  unfold rn rF
  rw [rnF_drop, List.length_drop, Nat.add_zero]
def enc8 (r : Int) : List Int :=
  if r < 128 then [r] else if r < 2048 then [192 + r / 64, 128 + r % 64] else if r < 65536 then [224 + r / 4096, 128 + r / 64 % 64, 128 + r % 64]
  else [240 + r / 262144, 128 + r / 4096 % 64, 128 + r / 64 % 64, 128 + r % 64]
def Gr (r : Int) : Prop := 0 ≤ r ∧ r ≤ 1114111 ∧ ¬ (55296 ≤ r ∧ r < 57344)
theorem enc8_len (r : Int) : 1 ≤ (enc8 r).length ∧ (enc8 r).length ≤ 4 := by unfold enc8; (repeat' split) <;> simp
theorem enc8_by {r : Int} (h : Gr r) : By (enc8 r) := by
  obtain ⟨h1, h2, -⟩ := h
  have key : ∀ x ∈ enc8 r, 0 ≤ x ∧ x ≤ 255 := by
    unfold enc8
    intro x hx
    split at hx
    · simp only [List.mem_cons, List.not_mem_nil, or_false] at hx; omega
    · split at hx
      · simp only [List.mem_cons, List.not_mem_nil, or_false] at hx; omega
      · split at hx
        · simp only [List.mem_cons, List.not_mem_nil, or_false] at hx; omega
        · simp only [List.mem_cons, List.not_mem_nil, or_false] at hx; omega
  intro i hi
  rw [List.getD_eq_getElem?_getD, List.getElem?_eq_getElem hi, Option.getD_some]
  exact key _ (List.getElem_mem hi)
theorem el_Gr {zs : List Int} (hb : By zs) {i : Nat} (h : i < zs.length) (hg : (elR zs i).1 ≠ -1) : Gr (elR zs i).1 := by
  have hbi := hb i h
  unfold elR at hg ⊢
  by_cases h0 : zs.getD i 0 < 128
  · rw [if_pos h0] at hg ⊢
    exact ⟨hbi.1, by simp only; omega, by simp only; omega⟩
  rw [if_neg h0] at hg ⊢
  by_cases hC : nB (zs.getD i 0) ≠ 0 ∧ allC zs i (nB (zs.getD i 0)) ∧ fitR (nB (zs.getD i 0)) (cP zs i (nB (zs.getD i 0)) (nB (zs.getD i 0)))
  · rw [if_pos hC]
    obtain ⟨h1, -, h2, h3, h4⟩ := hC
    have hls : 0 ≤ lsR (nB (zs.getD i 0)) := by
      unfold nB
      (repeat' split) <;> decide
    exact ⟨by simp only; omega, h3, h4⟩
  · rw [if_neg hC] at hg
    exact absurd rfl hg
theorem gd_el {zs : List Int} (hb : By zs) {i : Nat} (h : i < zs.length) (hg : Gd zs i) : Gr (elR zs i).1 ∧ Gd zs (i + (elR zs i).2) :=
  ⟨el_Gr hb h ((Gd_step h).1 hg).1, ((Gd_step h).1 hg).2⟩
theorem By.app {xs ys : List Int} (hx : By xs) (hy : By ys) : By (xs ++ ys) := fun i hi => by
  rw [List.length_append] at hi
  by_cases h : i < xs.length
  · have := hx i h
    simpa [List.getD_eq_getElem?_getD, List.getElem?_append_left h] using this
  · have := hy (i - xs.length) (by omega)
    simpa [List.getD_eq_getElem?_getD, List.getElem?_append_right (show xs.length ≤ i by omega)] using this
theorem By.nil : By [] := fun i hi => absurd hi (Nat.not_lt_zero _)
theorem elR_enc {r : Int} (hr : Gr r) (T : List Int) : elR (enc8 r ++ T) 0 = (r, (enc8 r).length) := by
  obtain ⟨h0, h1, h2⟩ := hr
  by_cases c1 : r < 128
  · have e : enc8 r = [r] := by unfold enc8; rw [if_pos c1]
    rw [e]
    have g : ([r] ++ T).getD 0 0 = r := rfl
    unfold elR
    rw [g, if_pos c1]; rfl
  by_cases c2 : r < 2048
  · have e : enc8 r = [192 + r / 64, 128 + r % 64] := by unfold enc8; rw [if_neg c1, if_pos c2]
    rw [e]
    obtain ⟨zs, hzs⟩ : ∃ zs, zs = [192 + r / 64, 128 + r % 64] ++ T := ⟨_, rfl⟩
    have g0 : zs.getD 0 0 = 192 + r / 64 := by rw [hzs]; rfl
    have g1 : zs.getD (0 + 1) 0 = 128 + r % 64 := by rw [hzs]; rfl
    have hl : 2 ≤ zs.length := by rw [hzs]; simp
    rw [← hzs]
    have hn : nB (192 + r / 64) = 1 := by unfold nB; rw [if_pos (by omega)]
    have hcp : cP zs 0 1 1 = r := by
      rw [cP_succ, g1]; show 64 * (zs.getD 0 0 - 192) + _ - _ = _; rw [g0]; omega
    have ha : allC zs 0 1 := fun k k1 k2 => by rcases (show k = 1 by omega) with rfl; exact ⟨by omega, by omega, by omega⟩
    unfold elR
    rw [g0, hn, if_neg (by omega), hcp, if_pos ⟨by decide, ha, by show (128 : Int) ≤ _; omega, h1, h2⟩]; rfl
  by_cases c3 : r < 65536
  · have e : enc8 r = [224 + r / 4096, 128 + r / 64 % 64, 128 + r % 64] := by unfold enc8; rw [if_neg c1, if_neg c2, if_pos c3]
    rw [e]
    obtain ⟨zs, hzs⟩ : ∃ zs, zs = [224 + r / 4096, 128 + r / 64 % 64, 128 + r % 64] ++ T := ⟨_, rfl⟩
    have g0 : zs.getD 0 0 = 224 + r / 4096 := by rw [hzs]; rfl
    have g1 : zs.getD (0 + 1) 0 = 128 + r / 64 % 64 := by rw [hzs]; rfl
    have g2 : zs.getD (0 + (1 + 1)) 0 = 128 + r % 64 := by rw [hzs]; rfl
    have g2' : zs.getD (0 + 2) 0 = 128 + r % 64 := by rw [hzs]; rfl
    have hl : 3 ≤ zs.length := by rw [hzs]; simp
    rw [← hzs]
    have hn : nB (224 + r / 4096) = 2 := by unfold nB; rw [if_neg (by omega), if_pos (by omega)]
    have hcp : cP zs 0 2 2 = r := by
      rw [cP_succ, cP_succ, g1, g2]; show 64 * (64 * (zs.getD 0 0 - 224) + _ - _) + _ - _ = _; rw [g0]; omega
    have ha : allC zs 0 2 := fun k k1 k2 => by rcases (by omega : k = 1 ∨ k = 2) with rfl | rfl; exact ⟨by omega, by omega, by omega⟩; exact ⟨by omega, by omega, by omega⟩
    unfold elR
    rw [g0, hn, if_neg (by omega), hcp, if_pos ⟨by decide, ha, by show (2048 : Int) ≤ _; omega, h1, h2⟩]; rfl
  · have e : enc8 r = [240 + r / 262144, 128 + r / 4096 % 64, 128 + r / 64 % 64, 128 + r % 64] := by unfold enc8; rw [if_neg c1, if_neg c2, if_neg c3]
    rw [e]
    obtain ⟨zs, hzs⟩ : ∃ zs, zs = [240 + r / 262144, 128 + r / 4096 % 64, 128 + r / 64 % 64, 128 + r % 64] ++ T := ⟨_, rfl⟩
    have g0 : zs.getD 0 0 = 240 + r / 262144 := by rw [hzs]; rfl
    have g1 : zs.getD (0 + 1) 0 = 128 + r / 4096 % 64 := by rw [hzs]; rfl
    have g2 : zs.getD (0 + (1 + 1)) 0 = 128 + r / 64 % 64 := by rw [hzs]; rfl
    have g3 : zs.getD (0 + (1 + 1 + 1)) 0 = 128 + r % 64 := by rw [hzs]; rfl
    have g2' : zs.getD (0 + 2) 0 = 128 + r / 64 % 64 := by rw [hzs]; rfl
    have g3' : zs.getD (0 + 3) 0 = 128 + r % 64 := by rw [hzs]; rfl
    have hl : 4 ≤ zs.length := by rw [hzs]; simp
    rw [← hzs]
    have hn : nB (240 + r / 262144) = 3 := by unfold nB; rw [if_neg (by omega), if_neg (by omega), if_pos (by omega)]
    have hcp : cP zs 0 3 3 = r := by
      rw [cP_succ, cP_succ, cP_succ, g1, g2, g3]; show 64 * (64 * (64 * (zs.getD 0 0 - 240) + _ - _) + _ - _) + _ - _ = _; rw [g0]; omega
    have ha : allC zs 0 3 := fun k k1 k2 => by rcases (by omega : k = 1 ∨ k = 2 ∨ k = 3) with rfl | rfl | rfl; exact ⟨by omega, by omega, by omega⟩; exact ⟨by omega, by omega, by omega⟩; exact ⟨by omega, by omega, by omega⟩
    unfold elR
    rw [g0, hn, if_neg (by omega), hcp, if_pos ⟨by decide, ha, by show (65536 : Int) ≤ _; omega, h1, h2⟩]; rfl
theorem rn_enc {r : Int} (hr : Gr r) (T : List Int) : rn (enc8 r ++ T) = r :: rn T := by
  have hl := enc8_len r
  have h : 0 < (enc8 r ++ T).length := by rw [List.length_append]; omega
  rw [← rF_zero, rF_step h, elR_enc hr, ← rn_drop, Nat.zero_add, List.drop_left]
theorem rn_nil : rn [] = [] := rfl
theorem rn_encs {l : List Int} (hl : ∀ r ∈ l, Gr r) (T : List Int) : rn (l.flatMap enc8 ++ T) = l ++ rn T := by
  induction l with
  | nil => rfl
  | cons r l ih => rw [List.flatMap_cons, List.append_assoc, rn_enc (hl r (by simp)), ih fun x hx => hl x (by simp [hx])]; rfl
theorem rn_encs0 {l : List Int} (hl : ∀ r ∈ l, Gr r) : rn (l.flatMap enc8) = l := by
  have := rn_encs hl []
  rwa [List.append_nil, rn_nil, List.append_nil] at this
theorem gd_encs {l : List Int} (hl : ∀ r ∈ l, Gr r) : Gd (l.flatMap enc8) 0 := fun r hr => by
  have e : rnF (l.flatMap enc8) ((l.flatMap enc8).length - 0) 0 = rn (l.flatMap enc8) := rfl
  rw [e, rn_encs0 hl] at hr
  have := hl r hr
  unfold Gr at this
  omega
theorem by_encs {l : List Int} (hl : ∀ r ∈ l, Gr r) : By (l.flatMap enc8) := by
  induction l with
  | nil => exact By.nil
  | cons r l ih => rw [List.flatMap_cons]; exact (enc8_by (hl r (by simp))).app (ih fun x hx => hl x (by simp [hx]))
theorem drop_cons2 {zs : List Int} {i : Nat} (h : i < zs.length) : zs.drop i = zs.getD i 0 :: zs.drop (i + 1) := by
  rw [List.drop_eq_getElem_cons h, List.getD_eq_getElem?_getD, List.getElem?_eq_getElem h, Option.getD_some]
theorem enc_el {zs : List Int} (hb : By zs) {i : Nat} (h : i < zs.length) (hg : (elR zs i).1 ≠ -1) : zs.drop i = enc8 (elR zs i).1 ++ zs.drop (i + (elR zs i).2) := by
  have hbi := hb i h
  unfold elR at hg ⊢
  by_cases h0 : zs.getD i 0 < 128
  · rw [if_pos h0] at hg ⊢
    have e : enc8 (zs.getD i 0) = [zs.getD i 0] := by unfold enc8; rw [if_pos h0]
    simp only
    rw [e, drop_cons2 h]; rfl
  rw [if_neg h0] at hg ⊢
  by_cases hC : nB (zs.getD i 0) ≠ 0 ∧ allC zs i (nB (zs.getD i 0)) ∧ fitR (nB (zs.getD i 0)) (cP zs i (nB (zs.getD i 0)) (nB (zs.getD i 0)))
  case neg => rw [if_neg hC] at hg; exact absurd rfl hg
  rw [if_pos hC]
  simp only
  clear hg
  obtain ⟨hn0, ha, hf⟩ := hC
  obtain ⟨n, hn⟩ : ∃ n, n = nB (zs.getD i 0) := ⟨_, rfl⟩
  rw [← hn] at hn0 ha hf ⊢
  have d0 := drop_cons2 h
  have hcase : (n = 1 ∧ 192 ≤ zs.getD i 0 ∧ zs.getD i 0 < 224) ∨ (n = 2 ∧ 224 ≤ zs.getD i 0 ∧ zs.getD i 0 < 240) ∨ (n = 3 ∧ 240 ≤ zs.getD i 0 ∧ zs.getD i 0 < 248) := by
    unfold nB at hn
    split at hn
    · exact .inl ⟨hn, by omega, by omega⟩
    · split at hn
      · exact .inr (.inl ⟨hn, by omega, by omega⟩)
      · split at hn
        · exact .inr (.inr ⟨hn, by omega, by omega⟩)
        · exact absurd hn hn0
  rcases hcase with ⟨rfl, b1, b2⟩ | ⟨rfl, b1, b2⟩ | ⟨rfl, b1, b2⟩
  · have a1 := ha 1 (by omega) (by omega)
    obtain ⟨hf1, hf2, hf3⟩ := hf
    have hcp : cP zs i 1 1 = 64 * (zs.getD i 0 - 192) + zs.getD (i + 1) 0 - 128 := rfl
    have d1 := drop_cons2 a1.1
    have hf1 : (128 : Int) ≤ cP zs i 1 1 := hf1
    obtain ⟨a1, a2, a3⟩ := a1
    obtain ⟨z, hz⟩ : ∃ z, z = zs.getD i 0 := ⟨_, rfl⟩
    obtain ⟨y, hy⟩ : ∃ z, z = zs.getD (i + 1) 0 := ⟨_, rfl⟩
    rw [← hz, ← hy] at hcp
    rw [← hz] at b1 b2 d0
    rw [← hy] at a2 a3 d1
    have e : enc8 (cP zs i 1 1) = [z, y] := by
      unfold enc8
      rw [if_neg (by omega), if_pos (by omega)]
      rw [show 192 + cP zs i 1 1 / 64 = z by omega, show 128 + cP zs i 1 1 % 64 = y by omega]
    rw [e, d0, d1]; rfl
  · have a1 := ha 1 (by omega) (by omega)
    have a4 := ha 2 (by omega) (by omega)
    obtain ⟨hf1, hf2, hf3⟩ := hf
    have hcp : cP zs i 2 2 = 64 * (64 * (zs.getD i 0 - 224) + zs.getD (i + 1) 0 - 128) + zs.getD (i + 2) 0 - 128 := rfl
    have d1 := drop_cons2 a1.1
    have d2 := drop_cons2 a4.1
    have hf1 : (2048 : Int) ≤ cP zs i 2 2 := hf1
    obtain ⟨a1, a2, a3⟩ := a1
    obtain ⟨a4, a5, a6⟩ := a4
    obtain ⟨z, hz⟩ : ∃ z, z = zs.getD i 0 := ⟨_, rfl⟩
    obtain ⟨y, hy⟩ : ∃ z, z = zs.getD (i + 1) 0 := ⟨_, rfl⟩
    obtain ⟨x, hx⟩ : ∃ z, z = zs.getD (i + 2) 0 := ⟨_, rfl⟩
    rw [← hz, ← hy, ← hx] at hcp
    rw [← hz] at b1 b2 d0
    rw [← hy] at a2 a3 d1
    rw [← hx] at a5 a6 d2
    have e : enc8 (cP zs i 2 2) = [z, y, x] := by
      unfold enc8
      rw [if_neg (by omega), if_neg (by omega), if_pos (by omega)]
      rw [show 224 + cP zs i 2 2 / 4096 = z by omega, show 128 + cP zs i 2 2 / 64 % 64 = y by omega, show 128 + cP zs i 2 2 % 64 = x by omega]
    rw [e, d0, d1, d2]; rfl
  · have a1 := ha 1 (by omega) (by omega)
    have a4 := ha 2 (by omega) (by omega)
    have a7 := ha 3 (by omega) (by omega)
    obtain ⟨hf1, hf2, hf3⟩ := hf
    have hcp : cP zs i 3 3 = 64 * (64 * (64 * (zs.getD i 0 - 240) + zs.getD (i + 1) 0 - 128) + zs.getD (i + 2) 0 - 128) + zs.getD (i + 3) 0 - 128 := rfl
    have d1 := drop_cons2 a1.1
    have d2 := drop_cons2 a4.1
    have d3 := drop_cons2 a7.1
    have hf1 : (65536 : Int) ≤ cP zs i 3 3 := hf1
    obtain ⟨a1, a2, a3⟩ := a1
    obtain ⟨a4, a5, a6⟩ := a4
    obtain ⟨a7, a8, a9⟩ := a7
    obtain ⟨z, hz⟩ : ∃ z, z = zs.getD i 0 := ⟨_, rfl⟩
    obtain ⟨y, hy⟩ : ∃ z, z = zs.getD (i + 1) 0 := ⟨_, rfl⟩
    obtain ⟨x, hx⟩ : ∃ z, z = zs.getD (i + 2) 0 := ⟨_, rfl⟩
    obtain ⟨w, hw⟩ : ∃ z, z = zs.getD (i + 3) 0 := ⟨_, rfl⟩
    rw [← hz, ← hy, ← hx, ← hw] at hcp
    rw [← hz] at b1 b2 d0
    rw [← hy] at a2 a3 d1
    rw [← hx] at a5 a6 d2
    rw [← hw] at a8 a9 d3
    have e : enc8 (cP zs i 3 3) = [z, y, x, w] := by
      unfold enc8
      rw [if_neg (by omega), if_neg (by omega), if_neg (by omega)]
      rw [show 240 + cP zs i 3 3 / 262144 = z by omega, show 128 + cP zs i 3 3 / 4096 % 64 = y by omega, show 128 + cP zs i 3 3 / 64 % 64 = x by omega, show 128 + cP zs i 3 3 % 64 = w by omega]
    rw [e, d0, d1, d2, d3]; rfl
theorem gr_rF {zs : List Int} (hb : By zs) : ∀ k i, zs.length - i ≤ k → Gd zs i → ∀ r ∈ rF zs i, Gr r := by
  intro k
  induction k with
  | zero => intro i hk _ r hr; rw [rF_end (by omega)] at hr; cases hr
  | succ k ih =>
    intro i hk hg r hr
    by_cases h : i < zs.length
    · have hw := elR_w zs i
      have hg2 := gd_el hb h hg
      rw [rF_step h] at hr
      rcases List.mem_cons.1 hr with e | e
      · rw [e]; exact hg2.1
      · exact ih _ (by omega) hg2.2 r e
    · rw [rF_end (by omega)] at hr; cases hr
theorem gr_rn {zs : List Int} (hb : By zs) (hg : Gd zs 0) : ∀ r ∈ rn zs, Gr r := by
  rw [← rF_zero]; exact gr_rF hb _ 0 (Nat.le_refl _) hg
theorem gdB_iff {zs : List Int} : gdB zs = true ↔ Gd zs 0 := by
  unfold gdB
  exact ⟨fun h => @of_decide_eq_true _ (Classical.propDecidable _) h, fun h => @decide_eq_true _ (Classical.propDecidable _) h⟩
def Mt : List Int → List Int → Prop
  | [], t => t = []
  | c :: l, t => if c = 42 then ∃ k, k ≤ t.length ∧ Mt l (t.drop k) else ∃ x t', t = x :: t' ∧ (c = 63 ∨ c = x) ∧ Mt l t'
theorem Mt_nil (t : List Int) : Mt [] t ↔ t = [] := Iff.rfl
theorem Mt_star (l t : List Int) : Mt (42 :: l) t ↔ ∃ k, k ≤ t.length ∧ Mt l (t.drop k) := by
  show (if (42 : Int) = 42 then _ else _) ↔ _
  rw [if_pos rfl]
theorem Mt_one {c : Int} (hc : c ≠ 42) (l t : List Int) : Mt (c :: l) t ↔ ∃ x t', t = x :: t' ∧ (c = 63 ∨ c = x) ∧ Mt l t' := by
  show (if c = 42 then _ else _) ↔ _
  rw [if_neg hc]
theorem Mt_all (t : List Int) : Mt [42] t := (Mt_star _ _).2 ⟨t.length, Nat.le_refl _, by simp [Mt_nil]⟩
/-! ### beginnings -/
open Classical in
noncomputable def bf (l t : List Int) (i j : Nat) : Bool := decide (Mt (l.take i) (t.take j))
/-! ### ends -/
def ef (l t : List Int) (i j : Nat) : Prop := j ≤ t.length ∧ Mt (l.drop i) (t.drop j)
theorem ef_end {l t : List Int} {j : Nat} (h : ef l t l.length j) : j = t.length := by
  obtain ⟨h1, h2⟩ := h
  rw [List.drop_length, Mt_nil] at h2
  have := congrArg List.length h2
  simp at this
  omega
theorem drop_one (l : List Int) {i : Nat} (h : i < l.length) : l.drop i = l.getD i 0 :: l.drop (i + 1) := by
  rw [List.drop_eq_getElem_cons h, List.getD_eq_getElem?_getD, List.getElem?_eq_getElem h]; rfl
theorem ef_star {l t : List Int} {i : Nat} (hi : i < l.length) (hc : l.getD i 0 = 42) (j : Nat) : ef l t i j ↔ ∃ j', j ≤ j' ∧ ef l t (i + 1) j' := by
  unfold ef
  rw [drop_one l hi, hc, Mt_star]
  constructor
  · rintro ⟨h1, k, hk, h⟩
    rw [List.length_drop] at hk
    rw [List.drop_drop] at h
    exact ⟨j + k, by omega, by omega, h⟩
  · rintro ⟨j', h1, h2, h⟩
    refine ⟨by omega, j' - j, by rw [List.length_drop]; omega, ?_⟩
    rw [List.drop_drop, show j + (j' - j) = j' by omega]; exact h
theorem ef_one {l t : List Int} {i : Nat} (hi : i < l.length) (hc : l.getD i 0 ≠ 42) {j : Nat} : ef l t i j ↔ (j < t.length ∧ (l.getD i 0 = 63 ∨ l.getD i 0 = t.getD j 0) ∧ ef l t (i + 1) (j + 1)) := by
  unfold ef
  rw [drop_one l hi, Mt_one hc]
  constructor
  · rintro ⟨h1, x, t', e, hx, h⟩
    have hj : j < t.length := by
      have := congrArg List.length e; simp at this; omega
    rw [drop_one t hj] at e
    simp only [List.cons.injEq] at e
    obtain ⟨rfl, rfl⟩ := e
    exact ⟨hj, hx, by omega, h⟩
  · rintro ⟨hj, hx, h1, h⟩
    exact ⟨by omega, t.getD j 0, t.drop (j + 1), drop_one t hj, hx, h⟩
theorem ef_run {l t : List Int} : ∀ (d i j : Nat), i + d ≤ l.length → (∀ q, q < d → l.getD (i + q) 0 ≠ 42) → ef l t i j → ef l t (i + d) (j + d) := by
  intro d
  induction d with
  | zero => intro i j _ _ h; exact h
  | succ d ih =>
    intro i j hl hq h
    have h1 := ((ef_one (by omega) (by simpa using hq 0 (by omega))).1 h).2.2
    have := ih (i + 1) (j + 1) (by omega) (fun q hq' => by rw [show i + 1 + q = i + (q + 1) by omega]; exact hq (q + 1) (by omega)) h1
    rwa [show i + 1 + d = i + (d + 1) by omega, show j + 1 + d = j + (d + 1) by omega] at this
theorem ef_marks {l t : List Int} : ∀ (d i : Nat), i + d = l.length → (ef l t i t.length ↔ ∀ c ∈ l.drop i, c = 42) := by
  intro d
  induction d with
  | zero => intro i h; simp [ef, List.drop_eq_nil_of_le (show l.length ≤ i by omega), Mt_nil]
  | succ d ih =>
    intro i h
    rw [drop_one l (by omega)]
    by_cases hc : l.getD i 0 = 42
    · rw [ef_star (by omega) hc]
      have e : (∃ j', t.length ≤ j' ∧ ef l t (i + 1) j') ↔ ef l t (i + 1) t.length := by
        constructor
        · rintro ⟨j', h1, h2⟩
          have := h2.1
          rwa [show j' = t.length by omega] at h2
        · intro h; exact ⟨_, Nat.le_refl _, h⟩
      rw [e, ih (i + 1) (by omega), hc]
      simp only [List.mem_cons, forall_eq_or_imp, true_and]
    · constructor
      · intro h; exact absurd ((ef_one (by omega) hc).1 h).1 (Nat.lt_irrefl _)
      · intro h; exact absurd (h _ (List.mem_cons_self ..)) hc
/-! ### the walk of the code -/
structure Gs where
  i : Nat
  j : Nat
  b : Bool
  st : Nat
  fr : Nat
structure Inv (l t : List Int) (g : Gs) : Prop where
  hi : g.i ≤ l.length
  hj : g.j ≤ t.length
  hf : g.fr ≤ g.j
  iff : Mt l t ↔ (ef l t g.i g.j ∨ (g.b = true ∧ ∃ j', g.fr < j' ∧ ef l t (g.st + 1) j'))
  hs : g.b = true → g.st < g.i ∧ g.i - (g.st + 1) = g.j - g.fr ∧ ∀ q, g.st < q → q < g.i → l.getD q 0 ≠ 42
  h0 : g.b = false → g.fr = 0
theorem Inv.start (l t : List Int) : Inv l t ⟨0, 0, false, 0, 0⟩ := ⟨Nat.zero_le _, Nat.zero_le _, Nat.le_refl _, by simp [ef], by simp, fun _ => rfl⟩
theorem Inv.later {l t : List Int} {g : Gs} (h : Inv l t g) (hb : g.b = true) {j' : Nat} (hj : g.fr < j') (he : ef l t (g.st + 1) j') : ef l t g.i (j' + (g.j - g.fr)) := by
  obtain ⟨h1, h2, h3⟩ := h.hs hb
  have := ef_run (g.i - (g.st + 1)) (g.st + 1) j' (by have := h.hi; omega) (fun q hq => h3 _ (by omega) (by omega)) he
  rwa [show g.st + 1 + (g.i - (g.st + 1)) = g.i by omega, h2] at this
theorem Inv.star {l t : List Int} {g : Gs} (h : Inv l t g) (hi : g.i < l.length) (hc : l.getD g.i 0 = 42) : Inv l t ⟨g.i + 1, g.j, true, g.i, g.j⟩ := by
  refine ⟨hi, h.hj, Nat.le_refl _, ?_, fun _ => ⟨Nat.lt_succ_self _, by simp, fun q h1 h2 => by simp only at h1 h2; omega⟩, by simp⟩
  rw [h.iff]
  simp only [true_and]
  constructor
  · rintro (h1 | ⟨hb, j', h1, h2⟩)
    · obtain ⟨j', h1, h2⟩ := (ef_star hi hc _).1 h1
      rcases Nat.lt_or_eq_of_le h1 with h3 | rfl
      · exact .inr ⟨j', h3, h2⟩
      · exact .inl h2
    · have h3 := h.later hb h1 h2
      obtain ⟨j2, h4, h5⟩ := (ef_star hi hc _).1 h3
      have := h.hf
      exact .inr ⟨j2, by omega, h5⟩
  · rintro (h1 | ⟨j', h1, h2⟩)
    · exact .inl ((ef_star hi hc _).2 ⟨_, Nat.le_refl _, h1⟩)
    · exact .inl ((ef_star hi hc _).2 ⟨_, by omega, h2⟩)
theorem Inv.one {l t : List Int} {g : Gs} (h : Inv l t g) (hi : g.i < l.length) (hj : g.j < t.length) (hc : l.getD g.i 0 ≠ 42) (hx : l.getD g.i 0 = 63 ∨ l.getD g.i 0 = t.getD g.j 0) : Inv l t ⟨g.i + 1, g.j + 1, g.b, g.st, g.fr⟩ := by
  refine ⟨hi, hj, by have := h.hf; simp only; omega, ?_, fun hb => ?_, h.h0⟩
  · rw [h.iff, ef_one hi hc]
    simp only [hj, hx, true_and]
  · obtain ⟨h1, h2, h3⟩ := h.hs hb
    have := h.hf
    refine ⟨by simp only at *; omega, by simp only at *; omega, fun q h4 h5 => ?_⟩
    by_cases e : q = g.i
    · subst e; exact hc
    · exact h3 q h4 (by simp only at h5; omega)
theorem Inv.no {l t : List Int} {g : Gs} (h : Inv l t g) (hj : g.j < t.length) (hn : g.i = l.length ∨ (l.getD g.i 0 ≠ 42 ∧ ¬ (l.getD g.i 0 = 63 ∨ l.getD g.i 0 = t.getD g.j 0))) : ¬ ef l t g.i g.j := by
  intro he
  by_cases e : g.i = l.length
  · rw [e] at he
    have := ef_end he; omega
  · rcases hn with hn | ⟨hn, hx⟩
    · exact e hn
    · exact hx ((ef_one (by have := h.hi; omega) hn).1 he).2.1
theorem Inv.back {l t : List Int} {g : Gs} (h : Inv l t g) (hj : g.j < t.length) (hb : g.b = true) (hn : g.i = l.length ∨ (l.getD g.i 0 ≠ 42 ∧ ¬ (l.getD g.i 0 = 63 ∨ l.getD g.i 0 = t.getD g.j 0))) : Inv l t ⟨g.st + 1, g.fr + 1, true, g.st, g.fr + 1⟩ := by
  have hno := h.no hj hn
  obtain ⟨h1, h2, h3⟩ := h.hs hb
  have h4 := h.hf
  have h5 := h.hi
  refine ⟨by simp only; omega, by simp only; omega, Nat.le_refl _, ?_, fun _ => ⟨Nat.lt_succ_self _, by simp, fun q h1 h2 => by simp only at h1 h2; omega⟩, by simp⟩
  rw [h.iff]
  simp only [hno, false_or, hb, true_and]
  constructor
  · rintro ⟨j', h6, h7⟩
    rcases Nat.lt_or_eq_of_le (show g.fr + 1 ≤ j' from h6) with h8 | rfl
    · exact .inr ⟨j', h8, h7⟩
    · exact .inl h7
  · rintro (h6 | ⟨j', h6, h7⟩)
    · exact ⟨_, Nat.lt_succ_self _, h6⟩
    · exact ⟨j', by omega, h7⟩
theorem Inv.bad {l t : List Int} {g : Gs} (h : Inv l t g) (hj : g.j < t.length) (hb : g.b = false) (hn : g.i = l.length ∨ (l.getD g.i 0 ≠ 42 ∧ ¬ (l.getD g.i 0 = 63 ∨ l.getD g.i 0 = t.getD g.j 0))) : ¬ Mt l t := by
  rw [h.iff]
  simp [h.no hj hn, hb]
theorem Inv.over {l t : List Int} {g : Gs} (h : Inv l t g) (hj : g.j = t.length) : Mt l t ↔ ∀ c ∈ l.drop g.i, c = 42 := by
  rw [h.iff, hj, ← ef_marks (t := t) (l.length - g.i) g.i (by have := h.hi; omega)]
  constructor
  · rintro (h1 | ⟨hb, j', h1, h2⟩)
    · exact h1
    · have h3 := (h.later hb h1 h2).1
      have := h.hf
      omega
  · exact .inl
def Gs.mu (n m : Nat) (g : Gs) : Nat := (m + 1 - g.fr) * (n + m + 2) + (n - g.i) + (m - g.j)
theorem mu_star {n m : Nat} {g : Gs} (hi : g.i < n) (hj : g.j ≤ m) (hf : g.fr ≤ g.j) : Gs.mu n m ⟨g.i + 1, g.j, true, g.i, g.j⟩ < g.mu n m := by
  unfold Gs.mu
  have := Nat.mul_le_mul_right (n + m + 2) (show m + 1 - g.j ≤ m + 1 - g.fr by omega)
  simp only
  omega
theorem mu_one {n m : Nat} {g : Gs} (hi : g.i < n) (hj : g.j < m) : Gs.mu n m ⟨g.i + 1, g.j + 1, g.b, g.st, g.fr⟩ < g.mu n m := by
  unfold Gs.mu
  simp only
  omega
theorem mu_back {n m : Nat} {g : Gs} (hj : g.j < m) (hf : g.fr ≤ g.j) : Gs.mu n m ⟨g.st + 1, g.fr + 1, true, g.st, g.fr + 1⟩ < g.mu n m := by
  unfold Gs.mu
  have e : m + 1 - g.fr = (m + 1 - (g.fr + 1)) + 1 := by omega
  rw [e, Nat.succ_mul]
  simp only
  omega
/-! ### the code's runes: what stands for a bad byte -/
abbrev wrg : List Int := [239, 191, 189]
theorem enc_wrg : enc8 65533 = wrg := by decide +kernel
theorem gr_wrg : Gr 65533 := by unfold Gr; omega
theorem wrg_by : By wrg := by rw [← enc_wrg]; exact enc8_by gr_wrg
theorem el_wrg {zs : List Int} (hb : By zs) {i : Nat} (h : i < zs.length) : ∃ r w : Nat, Utf8.decode (bstr zs) i = (r, w) ∧ r < 2000000 ∧ (elR zs i).2 = w ∧
    ((((r : Int) == 65533) && !decide ((zs.drop i).take 3 = wrg)) = true → (elR zs i).1 = -1) ∧ ((((r : Int) == 65533) && !decide ((zs.drop i).take 3 = wrg)) = false → (elR zs i).1 = (r : Int)) := by
  obtain ⟨r, w, hd, hr, h1⟩ := el_dec hb h
  refine ⟨r, w, hd, hr, ?_⟩
  rcases h1 with ⟨e, h1, h2, h3⟩ | ⟨e, rfl, rfl⟩
  · refine ⟨by rw [e], fun hx => ?_, fun _ => by rw [e]⟩
    simp only [Bool.and_eq_true, beq_iff_eq, Bool.not_eq_true', decide_eq_false_iff_not] at hx
    obtain ⟨hx1, hx2⟩ := hx
    exfalso
    have := enc_el hb h (by rw [e]; simp only; omega)
    rw [e] at this
    simp only at this
    rw [hx1, enc_wrg] at this
    exact hx2 (by rw [this]; rfl)
  · refine ⟨by rw [e], fun _ => by rw [e], fun hx => ?_⟩
    exfalso
    simp only [Bool.and_eq_false_iff, beq_eq_false_iff_ne, Bool.not_eq_false', decide_eq_true_eq] at hx
    rcases hx with hx | hx
    · exact hx rfl
    · have e2 : zs.drop i = wrg ++ (zs.drop i).drop 3 := by rw [← hx, List.take_append_drop]
      have e3 := elR_enc gr_wrg ((zs.drop i).drop 3)
      rw [enc_wrg, ← e2, elR_drop, Nat.add_zero, e] at e3
      simp at e3
/-! ### trimmed -/
def trL (c : Int) (zs : List Int) : List Int := zs.dropWhile (· == c)
def trR (c : Int) (zs : List Int) : List Int := (zs.reverse.dropWhile (· == c)).reverse
theorem trR_snoc (c z : Int) (zs : List Int) : trR c (zs ++ [z]) = if z = c then trR c zs else zs ++ [z] := by
  unfold trR
  rw [List.reverse_append]
  simp only [List.reverse_cons, List.reverse_nil, List.nil_append, List.singleton_append, List.dropWhile_cons, beq_iff_eq]
  split
  · rfl
  · simp
theorem trL_cons (c z : Int) (zs : List Int) : trL c (z :: zs) = if z = c then trL c zs else z :: zs := by
  unfold trL
  simp only [List.dropWhile_cons, beq_iff_eq]
theorem dw_nil {c : Int} : ∀ {l : List Int}, l.dropWhile (· == c) = [] ↔ ∀ z ∈ l, z = c
  | [] => by simp
  | z :: r => by
    simp only [List.dropWhile_cons, beq_iff_eq, List.mem_cons, forall_eq_or_imp]
    split
    · rename_i h; rw [dw_nil]; simp [h]
    · rename_i h; simp [h]
theorem trim_nil (c : Int) (zs : List Int) : trL c (trR c zs) = [] ↔ ∀ z ∈ zs, z = c := by
  constructor
  · intro h
    by_cases h2 : trR c zs = []
    · unfold trR at h2
      rw [List.reverse_eq_nil_iff, dw_nil] at h2
      intro z hz
      exact h2 z (List.mem_reverse.2 hz)
    · exfalso
      unfold trL at h
      rw [dw_nil] at h
      -- the last one is no such
      obtain ⟨M, z, hM⟩ : ∃ M z, trR c zs = M ++ [z] := by
        obtain h3 | ⟨M, z, h3⟩ := List.eq_nil_or_concat (trR c zs)
        · exact absurd h3 h2
        · exact ⟨M, z, by rw [h3]; simp⟩
      have hz := h z (by rw [hM]; simp)
      unfold trR at hM
      have h4 := congrArg List.reverse hM
      rw [List.reverse_reverse, List.reverse_append] at h4
      have h5 := List.head?_dropWhile_not (· == c) zs.reverse
      rw [h4] at h5
      simp [hz] at h5
  · intro h
    have : trR c zs = [] := by
      unfold trR
      rw [List.reverse_eq_nil_iff, dw_nil]
      intro z hz
      exact h z (List.mem_reverse.1 hz)
    rw [this]; rfl
theorem trR_len (c : Int) (zs : List Int) : (trR c zs).length ≤ zs.length := by
  unfold trR
  rw [List.length_reverse]
  have := (List.dropWhile_suffix (l := zs.reverse) (· == c)).length_le
  simpa using this
theorem By.of_mem {zs : List Int} (h : ∀ z ∈ zs, 0 ≤ z ∧ z ≤ 255) : By zs := fun i hi => by
  rw [List.getD_eq_getElem?_getD, List.getElem?_eq_getElem hi, Option.getD_some]
  exact h _ (List.getElem_mem hi)
theorem By.mem {zs : List Int} (h : By zs) : ∀ z ∈ zs, 0 ≤ z ∧ z ≤ 255 := fun z hz => by
  obtain ⟨i, hi, rfl⟩ := List.mem_iff_getElem.1 hz
  have := h i hi
  rwa [List.getD_eq_getElem?_getD, List.getElem?_eq_getElem hi, Option.getD_some] at this
theorem By.trR {zs : List Int} (h : By zs) (c : Int) : By (trR c zs) := By.of_mem fun z hz => h.mem z (by
  unfold Proofs.YtaffbklkjjmmdaaDoor.trR at hz
  rw [List.mem_reverse] at hz
  exact List.mem_reverse.1 ((List.dropWhile_suffix (l := zs.reverse) (· == c)).subset hz))
theorem By.trL {zs : List Int} (h : By zs) (c : Int) : By (trL c zs) := By.of_mem fun z hz => h.mem z ((List.dropWhile_suffix (l := zs) (· == c)).subset hz)
/-! ### runes as a text -/
theorem enc_star {r : Int} (hr : Gr r) : Utf8.encode r = bstr (enc8 r) := by
  obtain ⟨h0, h1, h2⟩ := hr
  obtain ⟨n, rfl⟩ := Int.eq_ofNat_of_zero_le h0
  have hv : Utf8.valid ((n : Nat) : Int) = true := (valid_iff n).2 ⟨by omega, by omega⟩
  have q0 : ∀ x : Int, 0 ≤ x → UInt8.ofNat x.toNat = UInt8.ofNat x.toNat := fun _ _ => rfl
  unfold Utf8.encode enc8
  rw [if_pos hv]
  simp only [Int.toNat_natCast]
  by_cases c1 : n < 128
  · rw [if_pos c1, if_pos (show (n : Int) < 128 by omega)]; unfold bstr; simp
  · rw [if_neg c1, if_neg (show ¬ (n : Int) < 128 by omega)]
    by_cases c2 : n < 2048
    · rw [if_pos c2, if_pos (show (n : Int) < 2048 by omega)]
      unfold bstr
      simp only [List.map_cons, List.map_nil]
      rw [show (192 + (n : Int) / 64).toNat = 192 + n / 64 by omega, show (128 + (n : Int) % 64).toNat = 128 + n % 64 by omega]
    · rw [if_neg c2, if_neg (show ¬ (n : Int) < 2048 by omega)]
      by_cases c3 : n < 65536
      · rw [if_pos c3, if_pos (show (n : Int) < 65536 by omega)]
        unfold bstr
        simp only [List.map_cons, List.map_nil]
        rw [show (224 + (n : Int) / 4096).toNat = 224 + n / 4096 by omega, show (128 + (n : Int) / 64 % 64).toNat = 128 + n / 64 % 64 by omega, show (128 + (n : Int) % 64).toNat = 128 + n % 64 by omega]
      · rw [if_neg c3, if_neg (show ¬ (n : Int) < 65536 by omega)]
        unfold bstr
        simp only [List.map_cons, List.map_nil]
        rw [show (240 + (n : Int) / 262144).toNat = 240 + n / 262144 by omega, show (128 + (n : Int) / 4096 % 64).toNat = 128 + n / 4096 % 64 by omega, show (128 + (n : Int) / 64 % 64).toNat = 128 + n / 64 % 64 by omega, show (128 + (n : Int) % 64).toNat = 128 + n % 64 by omega]
theorem rstr_enc : ∀ {l : List Int}, (∀ r ∈ l, Gr r) → rstr l = bstr (l.flatMap enc8) := by
  have key : ∀ (l : List Int) (A : List Int), (∀ r ∈ l, Gr r) → l.foldl (fun r n => r ++ Utf8.encode n) (bstr A) = bstr (A ++ l.flatMap enc8) := by
    intro l
    induction l with
    | nil => intro A _; simp
    | cons r l ih =>
      intro A h
      rw [List.foldl_cons, enc_star (h r (List.mem_cons_self ..)), bstr_app, ih _ fun x hx => h x (List.mem_cons_of_mem _ hx)]
      simp
  intro l h
  have := key l [] h
  exact this
theorem enc_marks {l : List Int} (h : ∀ r ∈ l, Gr r) : (∀ z ∈ l.flatMap enc8, z = 42) ↔ ∀ r ∈ l, r = 42 := by
  constructor
  · intro hz r hr
    have hg := h r hr
    obtain ⟨h0, h1, -⟩ := hg
    have hm : ∀ z ∈ enc8 r, z = 42 := fun z hz' => hz z (List.mem_flatMap.2 ⟨r, hr, hz'⟩)
    unfold enc8 at hm
    split at hm
    · exact hm r (by simp)
    · split at hm
      · have := hm (192 + r / 64) (by simp); omega
      · split at hm
        · have := hm (224 + r / 4096) (by simp); omega
        · have := hm (240 + r / 262144) (by simp); omega
  · intro hr z hz
    obtain ⟨r, h1, h2⟩ := List.mem_flatMap.1 hz
    have := hr r h1
    subst this
    have : enc8 42 = [42] := by decide +kernel
    rw [this] at h2
    simpa using h2
end Go.Proofs.YtaffbklkjjmmdaaDoor
