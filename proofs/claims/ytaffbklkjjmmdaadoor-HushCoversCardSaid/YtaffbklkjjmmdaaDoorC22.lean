/-
  The walks and the laws that the statement leans on, part 22.
-/
import Derived.Test.YtaffbklkjjmmdaaDoorC16
namespace Go.Proofs.YtaffbklkjjmmdaaDoor
open Go
set_option linter.unusedVariables false
set_option linter.unusedSimpArgs false
theorem getD_drop (zs : List Int) (p q : Nat) : (zs.drop p).getD q 0 = zs.getD (p + q) 0 := by simp [List.getD_eq_getElem?_getD, List.getElem?_drop]
theorem cP_drop (zs : List Int) (p q n : Nat) : ∀ k, cP (zs.drop p) q n k = cP zs (p + q) n k := by
  intro k
  induction k with
  | zero => show (zs.drop p).getD q 0 - _ = zs.getD (p + q) 0 - _; rw [getD_drop]
  | succ k ih => rw [cP_succ, cP_succ, ih, getD_drop, Nat.add_assoc]
theorem ctB_drop (zs : List Int) (p k : Nat) : ctB (zs.drop p) k ↔ ctB zs (p + k) := by
  unfold ctB
  rw [getD_drop, List.length_drop]
  constructor
  · rintro ⟨h1, h2⟩; exact ⟨by omega, h2⟩
  · rintro ⟨h1, h2⟩; exact ⟨by omega, h2⟩
theorem allC_drop (zs : List Int) (p q n : Nat) : allC (zs.drop p) q n ↔ allC zs (p + q) n := by
  unfold allC
  constructor
  · intro h k h1 h2
    have := (ctB_drop zs p (q + k)).1 (h k h1 h2)
    rwa [← Nat.add_assoc] at this
  · intro h k h1 h2
    have := h k h1 h2
    rw [Nat.add_assoc] at this
    exact (ctB_drop zs p (q + k)).2 this
theorem elR_drop (zs : List Int) (p q : Nat) : elR (zs.drop p) q = elR zs (p + q) := by
  have e0 := getD_drop zs p q
  unfold elR
  rw [e0]
  by_cases h0 : zs.getD (p + q) 0 < 128
  · rw [if_pos h0, if_pos h0]
  rw [if_neg h0, if_neg h0]
  have hi : (nB (zs.getD (p + q) 0) ≠ 0 ∧ allC (zs.drop p) q (nB (zs.getD (p + q) 0)) ∧ fitR (nB (zs.getD (p + q) 0)) (cP (zs.drop p) q (nB (zs.getD (p + q) 0)) (nB (zs.getD (p + q) 0)))) ↔
      (nB (zs.getD (p + q) 0) ≠ 0 ∧ allC zs (p + q) (nB (zs.getD (p + q) 0)) ∧ fitR (nB (zs.getD (p + q) 0)) (cP zs (p + q) (nB (zs.getD (p + q) 0)) (nB (zs.getD (p + q) 0)))) := by
    rw [allC_drop, cP_drop]
  by_cases hC : nB (zs.getD (p + q) 0) ≠ 0 ∧ allC zs (p + q) (nB (zs.getD (p + q) 0)) ∧ fitR (nB (zs.getD (p + q) 0)) (cP zs (p + q) (nB (zs.getD (p + q) 0)) (nB (zs.getD (p + q) 0)))
  · rw [if_pos (hi.2 hC), if_pos hC, cP_drop]
  · rw [if_neg (fun h => hC (hi.1 h)), if_neg hC]
theorem rnF_drop (zs : List Int) (p : Nat) : ∀ f q, rnF (zs.drop p) f q = rnF zs f (p + q) := by
  intro f
  induction f with
  | zero => intro q; rfl
  | succ f ih =>
    intro q
    rw [rnF_succ, rnF_succ, elR_drop, ih, List.length_drop]
    by_cases h : p + q < zs.length
    · rw [if_pos h, if_pos (by omega), Nat.add_assoc]
    · rw [if_neg h, if_neg (by omega)]
theorem rn_drop (zs : List Int) (p : Nat) : rn (zs.drop p) = rF zs p := by
  unfold rn rF
  rw [rnF_drop, List.length_drop, Nat.add_zero]
def enc8 (r : Int) : List Int :=
  if r < 128 then [r] else if r < 2048 then [192 + r / 64, 128 + r % 64] else if r < 65536 then [224 + r / 4096, 128 + r / 64 % 64, 128 + r % 64]
  else [240 + r / 262144, 128 + r / 4096 % 64, 128 + r / 64 % 64, 128 + r % 64]
def Gr (r : Int) : Prop := 0 ≤ r ∧ r ≤ 1114111 ∧ ¬ (55296 ≤ r ∧ r < 57344)
theorem enc8_len (r : Int) : 1 ≤ (enc8 r).length ∧ (enc8 r).length ≤ 4 := by unfold enc8; (repeat' split) <;> simp
theorem enc8_by {r : Int} (h : Gr r) : By (enc8 r) := by
  obtain ⟨h1, h2, -⟩ := h
  have key : ∀ x ∈ enc8 r, 0 ≤ x ∧ x ≤ 255 := by
    unfold enc8
    intro x hx
    split at hx
    · simp only [List.mem_cons, List.not_mem_nil, or_false] at hx; omega
    · split at hx
      · simp only [List.mem_cons, List.not_mem_nil, or_false] at hx; omega
      · split at hx
        · simp only [List.mem_cons, List.not_mem_nil, or_false] at hx; omega
        · simp only [List.mem_cons, List.not_mem_nil, or_false] at hx; omega
  intro i hi
  rw [List.getD_eq_getElem?_getD, List.getElem?_eq_getElem hi, Option.getD_some]
  exact key _ (List.getElem_mem hi)
theorem el_Gr {zs : List Int} (hb : By zs) {i : Nat} (h : i < zs.length) (hg : (elR zs i).1 ≠ -1) : Gr (elR zs i).1 := by
  have hbi := hb i h
  unfold elR at hg ⊢
  by_cases h0 : zs.getD i 0 < 128
  · rw [if_pos h0] at hg ⊢
    exact ⟨hbi.1, by simp only; omega, by simp only; omega⟩
  rw [if_neg h0] at hg ⊢
  by_cases hC : nB (zs.getD i 0) ≠ 0 ∧ allC zs i (nB (zs.getD i 0)) ∧ fitR (nB (zs.getD i 0)) (cP zs i (nB (zs.getD i 0)) (nB (zs.getD i 0)))
  · rw [if_pos hC]
    obtain ⟨h1, -, h2, h3, h4⟩ := hC
    have hls : 0 ≤ lsR (nB (zs.getD i 0)) := by
      unfold nB
      (repeat' split) <;> decide
    exact ⟨by simp only; omega, h3, h4⟩
  · rw [if_neg hC] at hg
    exact absurd rfl hg
theorem gd_el {zs : List Int} (hb : By zs) {i : Nat} (h : i < zs.length) (hg : Gd zs i) : Gr (elR zs i).1 ∧ Gd zs (i + (elR zs i).2) :=
  ⟨el_Gr hb h ((Gd_step h).1 hg).1, ((Gd_step h).1 hg).2⟩
theorem By.app {xs ys : List Int} (hx : By xs) (hy : By ys) : By (xs ++ ys) := fun i hi => by
  rw [List.length_append] at hi
  by_cases h : i < xs.length
  · have := hx i h
    simpa [List.getD_eq_getElem?_getD, List.getElem?_append_left h] using this
  · have := hy (i - xs.length) (by omega)
    simpa [List.getD_eq_getElem?_getD, List.getElem?_append_right (show xs.length ≤ i by omega)] using this
theorem By.nil : By [] := fun i hi => absurd hi (Nat.not_lt_zero _)
theorem elR_enc {r : Int} (hr : Gr r) (T : List Int) : elR (enc8 r ++ T) 0 = (r, (enc8 r).length) := by
  obtain ⟨h0, h1, h2⟩ := hr
  by_cases c1 : r < 128
  · have e : enc8 r = [r] := by unfold enc8; rw [if_pos c1]
    rw [e]
    have g : ([r] ++ T).getD 0 0 = r := rfl
    unfold elR
    rw [g, if_pos c1]; rfl
  by_cases c2 : r < 2048
  · have e : enc8 r = [192 + r / 64, 128 + r % 64] := by unfold enc8; rw [if_neg c1, if_pos c2]
    rw [e]
    obtain ⟨zs, hzs⟩ : ∃ zs, zs = [192 + r / 64, 128 + r % 64] ++ T := ⟨_, rfl⟩
    have g0 : zs.getD 0 0 = 192 + r / 64 := by rw [hzs]; rfl
    have g1 : zs.getD (0 + 1) 0 = 128 + r % 64 := by rw [hzs]; rfl
    have hl : 2 ≤ zs.length := by rw [hzs]; simp
    rw [← hzs]
    have hn : nB (192 + r / 64) = 1 := by unfold nB; rw [if_pos (by omega)]
    have hcp : cP zs 0 1 1 = r := by
      rw [cP_succ, g1]; show 64 * (zs.getD 0 0 - 192) + _ - _ = _; rw [g0]; omega
    have ha : allC zs 0 1 := fun k k1 k2 => by rcases (show k = 1 by omega) with rfl; exact ⟨by omega, by omega, by omega⟩
    unfold elR
    rw [g0, hn, if_neg (by omega), hcp, if_pos ⟨by decide, ha, by show (128 : Int) ≤ _; omega, h1, h2⟩]; rfl
  by_cases c3 : r < 65536
  · have e : enc8 r = [224 + r / 4096, 128 + r / 64 % 64, 128 + r % 64] := by unfold enc8; rw [if_neg c1, if_neg c2, if_pos c3]
    rw [e]
    obtain ⟨zs, hzs⟩ : ∃ zs, zs = [224 + r / 4096, 128 + r / 64 % 64, 128 + r % 64] ++ T := ⟨_, rfl⟩
    have g0 : zs.getD 0 0 = 224 + r / 4096 := by rw [hzs]; rfl
    have g1 : zs.getD (0 + 1) 0 = 128 + r / 64 % 64 := by rw [hzs]; rfl
    have g2 : zs.getD (0 + (1 + 1)) 0 = 128 + r % 64 := by rw [hzs]; rfl
    have g2' : zs.getD (0 + 2) 0 = 128 + r % 64 := by rw [hzs]; rfl
    have hl : 3 ≤ zs.length := by rw [hzs]; simp
    rw [← hzs]
    have hn : nB (224 + r / 4096) = 2 := by unfold nB; rw [if_neg (by omega), if_pos (by omega)]
    have hcp : cP zs 0 2 2 = r := by
      rw [cP_succ, cP_succ, g1, g2]; show 64 * (64 * (zs.getD 0 0 - 224) + _ - _) + _ - _ = _; rw [g0]; omega
    have ha : allC zs 0 2 := fun k k1 k2 => by rcases (by omega : k = 1 ∨ k = 2) with rfl | rfl; exact ⟨by omega, by omega, by omega⟩; exact ⟨by omega, by omega, by omega⟩
    unfold elR
    rw [g0, hn, if_neg (by omega), hcp, if_pos ⟨by decide, ha, by show (2048 : Int) ≤ _; omega, h1, h2⟩]; rfl
  · have e : enc8 r = [240 + r / 262144, 128 + r / 4096 % 64, 128 + r / 64 % 64, 128 + r % 64] := by unfold enc8; rw [if_neg c1, if_neg c2, if_neg c3]
    rw [e]
    obtain ⟨zs, hzs⟩ : ∃ zs, zs = [240 + r / 262144, 128 + r / 4096 % 64, 128 + r / 64 % 64, 128 + r % 64] ++ T := ⟨_, rfl⟩
    have g0 : zs.getD 0 0 = 240 + r / 262144 := by rw [hzs]; rfl
    have g1 : zs.getD (0 + 1) 0 = 128 + r / 4096 % 64 := by rw [hzs]; rfl
    have g2 : zs.getD (0 + (1 + 1)) 0 = 128 + r / 64 % 64 := by rw [hzs]; rfl
    have g3 : zs.getD (0 + (1 + 1 + 1)) 0 = 128 + r % 64 := by rw [hzs]; rfl
    have g2' : zs.getD (0 + 2) 0 = 128 + r / 64 % 64 := by rw [hzs]; rfl
    have g3' : zs.getD (0 + 3) 0 = 128 + r % 64 := by rw [hzs]; rfl
    have hl : 4 ≤ zs.length := by rw [hzs]; simp
    rw [← hzs]
    have hn : nB (240 + r / 262144) = 3 := by unfold nB; rw [if_neg (by omega), if_neg (by omega), if_pos (by omega)]
    have hcp : cP zs 0 3 3 = r := by
      rw [cP_succ, cP_succ, cP_succ, g1, g2, g3]; show 64 * (64 * (64 * (zs.getD 0 0 - 240) + _ - _) + _ - _) + _ - _ = _; rw [g0]; omega
    have ha : allC zs 0 3 := fun k k1 k2 => by rcases (by omega : k = 1 ∨ k = 2 ∨ k = 3) with rfl | rfl | rfl; exact ⟨by omega, by omega, by omega⟩; exact ⟨by omega, by omega, by omega⟩; exact ⟨by omega, by omega, by omega⟩
    unfold elR
    rw [g0, hn, if_neg (by omega), hcp, if_pos ⟨by decide, ha, by show (65536 : Int) ≤ _; omega, h1, h2⟩]; rfl
theorem rn_enc {r : Int} (hr : Gr r) (T : List Int) : rn (enc8 r ++ T) = r :: rn T := by
  have hl := enc8_len r
  have h : 0 < (enc8 r ++ T).length := by rw [List.length_append]; omega
  rw [← rF_zero, rF_step h, elR_enc hr, ← rn_drop, Nat.zero_add, List.drop_left]
theorem rn_nil : rn [] = [] := rfl
theorem rn_encs {l : List Int} (hl : ∀ r ∈ l, Gr r) (T : List Int) : rn (l.flatMap enc8 ++ T) = l ++ rn T := by
  induction l with
  | nil => rfl
  | cons r l ih => rw [List.flatMap_cons, List.append_assoc, rn_enc (hl r (by simp)), ih fun x hx => hl x (by simp [hx])]; rfl
theorem rn_encs0 {l : List Int} (hl : ∀ r ∈ l, Gr r) : rn (l.flatMap enc8) = l := by
  have := rn_encs hl []
  rwa [List.append_nil, rn_nil, List.append_nil] at this
theorem gd_encs {l : List Int} (hl : ∀ r ∈ l, Gr r) : Gd (l.flatMap enc8) 0 := fun r hr => by
  have e : rnF (l.flatMap enc8) ((l.flatMap enc8).length - 0) 0 = rn (l.flatMap enc8) := rfl
  rw [e, rn_encs0 hl] at hr
  have := hl r hr
  unfold Gr at this
  omega
theorem by_encs {l : List Int} (hl : ∀ r ∈ l, Gr r) : By (l.flatMap enc8) := by
  induction l with
  | nil => exact By.nil
  | cons r l ih => rw [List.flatMap_cons]; exact (enc8_by (hl r (by simp))).app (ih fun x hx => hl x (by simp [hx]))
theorem drop_cons2 {zs : List Int} {i : Nat} (h : i < zs.length) : zs.drop i = zs.getD i 0 :: zs.drop (i + 1) := by
  rw [List.drop_eq_getElem_cons h, List.getD_eq_getElem?_getD, List.getElem?_eq_getElem h, Option.getD_some]
theorem enc_el {zs : List Int} (hb : By zs) {i : Nat} (h : i < zs.length) (hg : (elR zs i).1 ≠ -1) : zs.drop i = enc8 (elR zs i).1 ++ zs.drop (i + (elR zs i).2) := by
  have hbi := hb i h
  unfold elR at hg ⊢
  by_cases h0 : zs.getD i 0 < 128
  · rw [if_pos h0] at hg ⊢
    have e : enc8 (zs.getD i 0) = [zs.getD i 0] := by unfold enc8; rw [if_pos h0]
    simp only
    rw [e, drop_cons2 h]; rfl
  rw [if_neg h0] at hg ⊢
  by_cases hC : nB (zs.getD i 0) ≠ 0 ∧ allC zs i (nB (zs.getD i 0)) ∧ fitR (nB (zs.getD i 0)) (cP zs i (nB (zs.getD i 0)) (nB (zs.getD i 0)))
  case neg => rw [if_neg hC] at hg; exact absurd rfl hg
  rw [if_pos hC]
  simp only
  clear hg
  obtain ⟨hn0, ha, hf⟩ := hC
  obtain ⟨n, hn⟩ : ∃ n, n = nB (zs.getD i 0) := ⟨_, rfl⟩
  rw [← hn] at hn0 ha hf ⊢
  have d0 := drop_cons2 h
  have hcase : (n = 1 ∧ 192 ≤ zs.getD i 0 ∧ zs.getD i 0 < 224) ∨ (n = 2 ∧ 224 ≤ zs.getD i 0 ∧ zs.getD i 0 < 240) ∨ (n = 3 ∧ 240 ≤ zs.getD i 0 ∧ zs.getD i 0 < 248) := by
    unfold nB at hn
    split at hn
    · exact .inl ⟨hn, by omega, by omega⟩
    · split at hn
      · exact .inr (.inl ⟨hn, by omega, by omega⟩)
      · split at hn
        · exact .inr (.inr ⟨hn, by omega, by omega⟩)
        · exact absurd hn hn0
  rcases hcase with ⟨rfl, b1, b2⟩ | ⟨rfl, b1, b2⟩ | ⟨rfl, b1, b2⟩
  · have a1 := ha 1 (by omega) (by omega)
    obtain ⟨hf1, hf2, hf3⟩ := hf
    have hcp : cP zs i 1 1 = 64 * (zs.getD i 0 - 192) + zs.getD (i + 1) 0 - 128 := rfl
    have d1 := drop_cons2 a1.1
    have hf1 : (128 : Int) ≤ cP zs i 1 1 := hf1
    obtain ⟨a1, a2, a3⟩ := a1
    obtain ⟨z, hz⟩ : ∃ z, z = zs.getD i 0 := ⟨_, rfl⟩
    obtain ⟨y, hy⟩ : ∃ z, z = zs.getD (i + 1) 0 := ⟨_, rfl⟩
    rw [← hz, ← hy] at hcp
    rw [← hz] at b1 b2 d0
    rw [← hy] at a2 a3 d1
    have e : enc8 (cP zs i 1 1) = [z, y] := by
      unfold enc8
      rw [if_neg (by omega), if_pos (by omega)]
      rw [show 192 + cP zs i 1 1 / 64 = z by omega, show 128 + cP zs i 1 1 % 64 = y by omega]
    rw [e, d0, d1]; rfl
  · have a1 := ha 1 (by omega) (by omega)
    have a4 := ha 2 (by omega) (by omega)
    obtain ⟨hf1, hf2, hf3⟩ := hf
    have hcp : cP zs i 2 2 = 64 * (64 * (zs.getD i 0 - 224) + zs.getD (i + 1) 0 - 128) + zs.getD (i + 2) 0 - 128 := rfl
    have d1 := drop_cons2 a1.1
    have d2 := drop_cons2 a4.1
    have hf1 : (2048 : Int) ≤ cP zs i 2 2 := hf1
    obtain ⟨a1, a2, a3⟩ := a1
    obtain ⟨a4, a5, a6⟩ := a4
    obtain ⟨z, hz⟩ : ∃ z, z = zs.getD i 0 := ⟨_, rfl⟩
    obtain ⟨y, hy⟩ : ∃ z, z = zs.getD (i + 1) 0 := ⟨_, rfl⟩
    obtain ⟨x, hx⟩ : ∃ z, z = zs.getD (i + 2) 0 := ⟨_, rfl⟩
    rw [← hz, ← hy, ← hx] at hcp
    rw [← hz] at b1 b2 d0
    rw [← hy] at a2 a3 d1
    rw [← hx] at a5 a6 d2
    have e : enc8 (cP zs i 2 2) = [z, y, x] := by
      unfold enc8
      rw [if_neg (by omega), if_neg (by omega), if_pos (by omega)]
      rw [show 224 + cP zs i 2 2 / 4096 = z by omega, show 128 + cP zs i 2 2 / 64 % 64 = y by omega, show 128 + cP zs i 2 2 % 64 = x by omega]
    rw [e, d0, d1, d2]; rfl
  · have a1 := ha 1 (by omega) (by omega)
    have a4 := ha 2 (by omega) (by omega)
    have a7 := ha 3 (by omega) (by omega)
    obtain ⟨hf1, hf2, hf3⟩ := hf
    have hcp : cP zs i 3 3 = 64 * (64 * (64 * (zs.getD i 0 - 240) + zs.getD (i + 1) 0 - 128) + zs.getD (i + 2) 0 - 128) + zs.getD (i + 3) 0 - 128 := rfl
    have d1 := drop_cons2 a1.1
    have d2 := drop_cons2 a4.1
    have d3 := drop_cons2 a7.1
    have hf1 : (65536 : Int) ≤ cP zs i 3 3 := hf1
    obtain ⟨a1, a2, a3⟩ := a1
    obtain ⟨a4, a5, a6⟩ := a4
    obtain ⟨a7, a8, a9⟩ := a7
    obtain ⟨z, hz⟩ : ∃ z, z = zs.getD i 0 := ⟨_, rfl⟩
    obtain ⟨y, hy⟩ : ∃ z, z = zs.getD (i + 1) 0 := ⟨_, rfl⟩
    obtain ⟨x, hx⟩ : ∃ z, z = zs.getD (i + 2) 0 := ⟨_, rfl⟩
    obtain ⟨w, hw⟩ : ∃ z, z = zs.getD (i + 3) 0 := ⟨_, rfl⟩
    rw [← hz, ← hy, ← hx, ← hw] at hcp
    rw [← hz] at b1 b2 d0
    rw [← hy] at a2 a3 d1
    rw [← hx] at a5 a6 d2
    rw [← hw] at a8 a9 d3
    have e : enc8 (cP zs i 3 3) = [z, y, x, w] := by
      unfold enc8
      rw [if_neg (by omega), if_neg (by omega), if_neg (by omega)]
      rw [show 240 + cP zs i 3 3 / 262144 = z by omega, show 128 + cP zs i 3 3 / 4096 % 64 = y by omega, show 128 + cP zs i 3 3 / 64 % 64 = x by omega, show 128 + cP zs i 3 3 % 64 = w by omega]
    rw [e, d0, d1, d2, d3]; rfl
theorem gr_rF {zs : List Int} (hb : By zs) : ∀ k i, zs.length - i ≤ k → Gd zs i → ∀ r ∈ rF zs i, Gr r := by
  intro k
  induction k with
  | zero => intro i hk _ r hr; rw [rF_end (by omega)] at hr; cases hr
  | succ k ih =>
    intro i hk hg r hr
    by_cases h : i < zs.length
    · have hw := elR_w zs i
      have hg2 := gd_el hb h hg
      rw [rF_step h] at hr
      rcases List.mem_cons.1 hr with e | e
      · rw [e]; exact hg2.1
      · exact ih _ (by omega) hg2.2 r e
    · rw [rF_end (by omega)] at hr; cases hr
theorem gr_rn {zs : List Int} (hb : By zs) (hg : Gd zs 0) : ∀ r ∈ rn zs, Gr r := by
  rw [← rF_zero]; exact gr_rF hb _ 0 (Nat.le_refl _) hg
theorem gdB_iff {zs : List Int} : gdB zs = true ↔ Gd zs 0 := by
  unfold gdB
  exact ⟨fun h => @of_decide_eq_true _ (Classical.propDecidable _) h, fun h => @decide_eq_true _ (Classical.propDecidable _) h⟩
end Go.Proofs.YtaffbklkjjmmdaaDoor
