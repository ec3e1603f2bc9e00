/-
  The walks and the laws that the statement leans on, part 14.
-/
import Derived.Test.YtdkkfgcdnojmaaaDoorS10
import Derived.Test.YtdkkfgcdnojmaaaDoorS13
namespace Go.Proofs.YtdkkfgcdnojmaaaDoor
open Go
set_option linter.unusedVariables false
set_option linter.unusedSimpArgs false
abbrev stz (zs : List Int) : AV := .lit (.string (bstr zs))
theorem bstr_size (zs : List Int) : (bstr zs).size = zs.length := by simp [bstr, ByteArray.size]
def By (zs : List Int) : Prop := ∀ i, i < zs.length → 0 ≤ zs.getD i 0 ∧ zs.getD i 0 ≤ 255
theorem bstr_get {zs : List Int} (hb : By zs) {i : Nat} (h : i < zs.length) : (((bstr zs).get! i).toNat : Int) = zs.getD i 0 := by
  have hb := hb i h
  have e : (bstr zs).get! i = UInt8.ofNat (zs.getD i 0).toNat := by
    unfold bstr
    show (Array.mk _)[i]! = _
    rw [getElem!_pos _ _ (by simpa using h)]
    simp [List.getD_eq_getElem?_getD, List.getElem?_eq_getElem h]
  rw [e]
  have : (UInt8.ofNat (zs.getD i 0).toNat).toNat = (zs.getD i 0).toNat := by rw [UInt8.toNat_ofNat']; exact Nat.mod_eq_of_lt (by omega)
  rw [this]
  omega
theorem dec_lo {zs : List Int} (hb : By zs) {i : Nat} (h : i < zs.length) (hl : zs.getD i 0 < 128) : Utf8.decode (bstr zs) i = ((zs.getD i 0).toNat, 1) := by
  have hg := bstr_get hb h
  unfold Utf8.decode
  simp only [Nat.add_zero]
  rw [if_pos (by omega)]
  congr 1
  omega
theorem bstr_app (xs ys : List Int) : bstr xs ++ bstr ys = bstr (xs ++ ys) := by
  apply ByteArray.ext
  simp [bstr, ByteArray.data_append]
theorem bstr_at {zs : List Int} (hb : By zs) {i : Nat} (h : i < zs.length) : (((bstr zs).data.toList.getD i 0).toNat : Int) = zs.getD i 0 := by
  have hb := hb i h
  unfold bstr
  simp only [List.getD_eq_getElem?_getD, List.getElem?_map, List.getElem?_eq_getElem h, Option.map_some, Option.getD_some]
  rw [List.getD_eq_getElem?_getD, List.getElem?_eq_getElem h, Option.getD_some] at hb
  rw [UInt8.toNat_ofNat', Nat.mod_eq_of_lt (by omega)]
  omega
theorem bstr_ext (zs : List Int) (lo hi : Nat) : (bstr zs).extract lo hi = bstr ((zs.take hi).drop lo) := by
  apply ByteArray.ext
  rw [ByteArray.data_extract]
  apply Array.ext'
  simp [bstr, List.map_take, List.map_drop, List.drop_take]
theorem str_eq (xs ys : List Int) (hx : By xs) (hy : By ys) : ((bstr xs).toList == (bstr ys).toList) = decide (xs = ys) := by
  have h1 : ((bstr xs).toList == (bstr ys).toList) = (bstr xs == bstr ys) := by first | rw [beq_toListBytes] | rw [← beq_toListBytes]
  rw [h1]
  by_cases h : xs = ys
  · subst h; rw [decide_eq_true rfl]
    show ((bstr xs).data == (bstr xs).data) = true
    exact beq_self_eq_true _
  · rw [decide_eq_false h]
    have : ¬ (bstr xs == bstr ys) = true := fun hb => h (by
      have hb : (bstr xs).data == (bstr ys).data := hb
      have hb := eq_of_beq hb
      have hl : xs.length = ys.length := by have := congrArg Array.size hb; simpa [bstr] using this
      refine List.ext_getElem hl fun i h1 h2 => ?_
      have a := bstr_get hx h1
      have b := bstr_get hy h2
      have e : bstr xs = bstr ys := ByteArray.ext hb
      rw [e] at a
      rw [a] at b
      simpa [List.getD_eq_getElem?_getD, List.getElem?_eq_getElem h1, List.getElem?_eq_getElem h2] using b)
    simpa using this
theorem By.drop {zs : List Int} (h : By zs) (k : Nat) : By (zs.drop k) := fun i hi => by
  rw [List.length_drop] at hi
  have := h (k + i) (by omega)
  simpa [List.getD_eq_getElem?_getD, List.getElem?_drop] using this
def ctB (zs : List Int) (k : Nat) : Prop := k < zs.length ∧ 128 ≤ zs.getD k 0 ∧ zs.getD k 0 ≤ 191
def nB (b : Int) : Nat := if 192 ≤ b ∧ b < 224 then 1 else if 224 ≤ b ∧ b < 240 then 2 else if 240 ≤ b ∧ b < 248 then 3 else 0
def bsR (n : Nat) : Int := [0, 192, 224, 240].getD n 0
def lsR (n : Nat) : Int := [0, 128, 2048, 65536].getD n 0
def cP (zs : List Int) (i n : Nat) : Nat → Int
  | 0 => zs.getD i 0 - bsR n
  | k + 1 => 64 * cP zs i n k + zs.getD (i + (k + 1)) 0 - 128
theorem cP_succ (zs : List Int) (i n k : Nat) : cP zs i n (k + 1) = 64 * cP zs i n k + zs.getD (i + (k + 1)) 0 - 128 := rfl
def allC (zs : List Int) (i n : Nat) : Prop := ∀ k, 1 ≤ k → k ≤ n → ctB zs (i + k)
def fitR (n : Nat) (c : Int) : Prop := lsR n ≤ c ∧ c ≤ 1114111 ∧ ¬ (55296 ≤ c ∧ c < 57344)
open Classical in
noncomputable def elR (zs : List Int) (i : Nat) : Int × Nat :=
  if zs.getD i 0 < 128 then (zs.getD i 0, 1)
  else if nB (zs.getD i 0) ≠ 0 ∧ allC zs i (nB (zs.getD i 0)) ∧ fitR (nB (zs.getD i 0)) (cP zs i (nB (zs.getD i 0)) (nB (zs.getD i 0))) then (cP zs i (nB (zs.getD i 0)) (nB (zs.getD i 0)), nB (zs.getD i 0) + 1) else (-1, 1)
theorem ct_cases {zs : List Int} (hb : By zs) (k : Nat) : (decide (k < (bstr zs).size) && (((bstr zs).get! k).toNat / 64 == 2)) = true ↔ ctB zs k := by
  rw [bstr_size]
  simp only [Bool.and_eq_true, decide_eq_true_eq, beq_iff_eq]
  unfold ctB
  constructor
  · rintro ⟨h1, h2⟩
    have := bstr_get hb h1
    exact ⟨h1, by omega, by omega⟩
  · rintro ⟨h1, h2, h3⟩
    have := bstr_get hb h1
    exact ⟨h1, by omega⟩
theorem valid_iff (c : Nat) : Utf8.valid (c : Int) = true ↔ (c : Int) ≤ 1114111 ∧ ¬ (55296 ≤ (c : Int) ∧ (c : Int) < 57344) := by
  unfold Utf8.valid
  simp only [Bool.and_eq_true, Bool.or_eq_true, decide_eq_true_eq]
  omega
theorem el_dec {zs : List Int} (hb : By zs) {i : Nat} (h : i < zs.length) : ∃ r w, Utf8.decode (bstr zs) i = (r, w) ∧ r < 2000000 ∧ ((elR zs i = ((r : Int), w) ∧ 1 ≤ w ∧ w ≤ 4 ∧ i + w ≤ zs.length) ∨ (elR zs i = (-1, 1) ∧ r = 65533 ∧ w = 1)) := by
  have hg := bstr_get hb h
  have hb0 := hb i h
  have c1 := ct_cases hb (i + 1)
  have c2 := ct_cases hb (i + 2)
  have c3 := ct_cases hb (i + 3)
  obtain ⟨G, hG⟩ : ∃ G : Nat → Nat, ∀ k, ((bstr zs).get! k).toNat = G k := ⟨_, fun _ => rfl⟩
  rw [hG] at hg
  simp only [hG] at c1 c2 c3
  by_cases h0 : zs.getD i 0 < 128
  · refine ⟨_, _, dec_lo hb h h0, by omega, .inl ⟨?_, by decide, by decide, by omega⟩⟩
    unfold elR; rw [if_pos h0]
    congr 1; omega
  have g1 : ctB zs (i + 1) → ((G (i + 1) : Nat) : Int) = zs.getD (i + 1) 0 := fun hc => by rw [← hG]; exact bstr_get hb hc.1
  have g2 : ctB zs (i + 2) → ((G (i + 2) : Nat) : Int) = zs.getD (i + 2) 0 := fun hc => by rw [← hG]; exact bstr_get hb hc.1
  have g3 : ctB zs (i + 3) → ((G (i + 3) : Nat) : Int) = zs.getD (i + 3) 0 := fun hc => by rw [← hG]; exact bstr_get hb hc.1
  have bad : ∀ (hx : ¬ (nB (zs.getD i 0) ≠ 0 ∧ allC zs i (nB (zs.getD i 0)) ∧ fitR (nB (zs.getD i 0)) (cP zs i (nB (zs.getD i 0)) (nB (zs.getD i 0))))), elR zs i = (-1, 1) := fun hx => by
    unfold elR; rw [if_neg h0, if_neg hx]
  have good : ∀ n, nB (zs.getD i 0) = n → n ≠ 0 → allC zs i n → fitR n (cP zs i n n) → elR zs i = (cP zs i n n, n + 1) := fun n e hn ha hf => by
    subst e; unfold elR; rw [if_neg h0, if_pos ⟨hn, ha, hf⟩]
  have key : ∃ r w, Utf8.decode (bstr zs) i = (r, w) ∧ ((elR zs i = ((r : Int), w) ∧ 1 ≤ w ∧ w ≤ 4 ∧ i + w ≤ zs.length ∧ r < 2000000) ∨ (elR zs i = (-1, 1) ∧ r = 65533 ∧ w = 1)) := by
    unfold Utf8.decode
    simp only [Nat.add_zero, hG]
    generalize hm0 : G i = m0 at hg ⊢
    generalize hm1 : G (i + 1) = m1 at c1 g1 ⊢
    generalize hm2 : G (i + 2) = m2 at c2 g2 ⊢
    generalize hm3 : G (i + 3) = m3 at c3 g3 ⊢
    generalize hk1 : (decide (i + 1 < (bstr zs).size) && (m1 / 64 == 2)) = k1 at c1 ⊢
    generalize hk2 : (decide (i + 2 < (bstr zs).size) && (m2 / 64 == 2)) = k2 at c2 ⊢
    generalize hk3 : (decide (i + 3 < (bstr zs).size) && (m3 / 64 == 2)) = k3 at c3 ⊢
    rw [if_neg (by omega)]
    by_cases n1 : 192 ≤ zs.getD i 0 ∧ zs.getD i 0 < 224
    · have hn : nB (zs.getD i 0) = 1 := by unfold nB; rw [if_pos n1]
      have e6 : (m0 / 32 == 6) = true := beq_iff_eq.2 (by omega)
      have e14 : (m0 / 16 == 14) = false := beq_eq_false_iff_ne.2 (by omega)
      have e30 : (m0 / 8 == 30) = false := beq_eq_false_iff_ne.2 (by omega)
      rw [e6, e14, e30]
      cases k1
      · simp only [Bool.and_false, Bool.false_and, Bool.false_eq_true, if_false]
        refine ⟨_, _, rfl, .inr ⟨bad fun hx => ?_, rfl, rfl⟩⟩
        rw [hn] at hx
        have := c1.2 (hx.2.1 1 (by omega) (by omega)); cases this
      · have hc := c1.1 rfl
        have hz := g1 hc
        obtain ⟨_, hz1, hz2⟩ := hc
        have hall : allC zs i 1 := fun k h1 h2 => by rcases (show k = 1 by omega) with rfl; exact c1.1 rfl
        have hcp : cP zs i 1 1 = ((m0 % 32 * 64 + m1 % 64 : Nat) : Int) := by
          show 64 * (zs.getD i 0 - 192) + zs.getD (i + 1) 0 - 128 = _
          omega
        simp only [Bool.and_true, if_true, Bool.true_and]
        by_cases hv : m0 % 32 * 64 + m1 % 64 ≥ 128
        · rw [if_pos hv]
          refine ⟨_, _, rfl, .inl ⟨?_, by decide, by decide, by have := (c1.1 rfl).1; omega, by omega⟩⟩
          rw [good 1 hn (by decide) hall (by rw [hcp]; exact ⟨by show (128 : Int) ≤ _; omega, by omega, by omega⟩), hcp]
        · rw [if_neg hv]
          refine ⟨_, _, rfl, .inr ⟨bad fun hx => ?_, rfl, rfl⟩⟩
          rw [hn] at hx
          have := hx.2.2.1
          rw [hcp] at this
          have this : (128 : Int) ≤ _ := this
          omega
    have e6 : (m0 / 32 == 6) = false := beq_eq_false_iff_ne.2 (by omega)
    rw [e6]
    by_cases n2 : 224 ≤ zs.getD i 0 ∧ zs.getD i 0 < 240
    · have hn : nB (zs.getD i 0) = 2 := by unfold nB; rw [if_neg n1, if_pos n2]
      have e14 : (m0 / 16 == 14) = true := beq_iff_eq.2 (by omega)
      have e30 : (m0 / 8 == 30) = false := beq_eq_false_iff_ne.2 (by omega)
      rw [e14, e30]
      by_cases hk : k1 = true ∧ k2 = true
      · obtain ⟨rfl, rfl⟩ := hk
        have hc1 := c1.1 rfl
        have hc2 := c2.1 rfl
        have hz1 := g1 hc1
        have hz2 := g2 hc2
        have hall : allC zs i 2 := fun k h1 h2 => by rcases (by omega : k = 1 ∨ k = 2) with rfl | rfl; exact hc1; exact hc2
        have hcp : cP zs i 2 2 = ((m0 % 16 * 4096 + m1 % 64 * 64 + m2 % 64 : Nat) : Int) := by
          show 64 * (64 * (zs.getD i 0 - 224) + zs.getD (i + 1) 0 - 128) + zs.getD (i + 2) 0 - 128 = _
          have := hc1.2; have := hc2.2
          omega
        simp only [Bool.false_and, Bool.and_true, Bool.true_and, if_true, Bool.false_eq_true, if_false]
        by_cases hv : m0 % 16 * 4096 + m1 % 64 * 64 + m2 % 64 ≥ 2048 ∧ Utf8.valid ((m0 % 16 * 4096 + m1 % 64 * 64 + m2 % 64 : Nat) : Int) = true
        · rw [if_pos (by simp only [Bool.and_eq_true, decide_eq_true_eq]; exact hv)]
          have hv2 := (valid_iff _).1 hv.2
          refine ⟨_, _, rfl, .inl ⟨?_, by decide, by decide, by have := hc2.1; omega, by omega⟩⟩
          rw [good 2 hn (by decide) hall (by rw [hcp]; exact ⟨by show (2048 : Int) ≤ _; omega, hv2.1, hv2.2⟩), hcp]
        · rw [if_neg (by simp only [Bool.and_eq_true, decide_eq_true_eq]; exact hv)]
          refine ⟨_, _, rfl, .inr ⟨bad fun hx => ?_, rfl, rfl⟩⟩
          rw [hn] at hx
          obtain ⟨f1, f2, f3⟩ := hx.2.2
          rw [hcp] at f1 f2 f3
          have f1 : (2048 : Int) ≤ _ := f1
          exact hv ⟨by omega, (valid_iff _).2 ⟨f2, f3⟩⟩
      · have hk' : (k1 && k2) = false := by cases k1 <;> cases k2 <;> simp_all
        have hx' : elR zs i = (-1, 1) := bad fun hx => by
          rw [hn] at hx
          exact hk ⟨c1.2 (hx.2.1 1 (by omega) (by omega)), c2.2 (hx.2.1 2 (by omega) (by omega))⟩
        have hif : (false && k1) = false := rfl
        refine ⟨Utf8.runeError, 1, ?_, .inr ⟨hx', rfl, rfl⟩⟩
        simp only [Bool.false_and, Bool.true_and, hk', Bool.false_eq_true, if_false]
    have e14 : (m0 / 16 == 14) = false := beq_eq_false_iff_ne.2 (by omega)
    rw [e14]
    by_cases n3 : 240 ≤ zs.getD i 0 ∧ zs.getD i 0 < 248
    · have hn : nB (zs.getD i 0) = 3 := by unfold nB; rw [if_neg n1, if_neg n2, if_pos n3]
      have e30 : (m0 / 8 == 30) = true := beq_iff_eq.2 (by omega)
      rw [e30]
      by_cases hk : k1 = true ∧ k2 = true ∧ k3 = true
      · obtain ⟨rfl, rfl, rfl⟩ := hk
        have hc1 := c1.1 rfl
        have hc2 := c2.1 rfl
        have hc3 := c3.1 rfl
        have hz1 := g1 hc1
        have hz2 := g2 hc2
        have hz3 := g3 hc3
        have hall : allC zs i 3 := fun k h1 h2 => by rcases (by omega : k = 1 ∨ k = 2 ∨ k = 3) with rfl | rfl | rfl; exact hc1; exact hc2; exact hc3
        have hcp : cP zs i 3 3 = ((m0 % 8 * 262144 + m1 % 64 * 4096 + m2 % 64 * 64 + m3 % 64 : Nat) : Int) := by
          show 64 * (64 * (64 * (zs.getD i 0 - 240) + zs.getD (i + 1) 0 - 128) + zs.getD (i + 2) 0 - 128) + zs.getD (i + 3) 0 - 128 = _
          have := hc1.2; have := hc2.2; have := hc3.2
          omega
        simp only [Bool.false_and, Bool.and_true, Bool.true_and, if_true, Bool.false_eq_true, if_false]
        by_cases hv : m0 % 8 * 262144 + m1 % 64 * 4096 + m2 % 64 * 64 + m3 % 64 ≥ 65536 ∧ Utf8.valid ((m0 % 8 * 262144 + m1 % 64 * 4096 + m2 % 64 * 64 + m3 % 64 : Nat) : Int) = true
        · rw [if_pos (by simp only [Bool.and_eq_true, decide_eq_true_eq]; exact hv)]
          have hv2 := (valid_iff _).1 hv.2
          refine ⟨_, _, rfl, .inl ⟨?_, by decide, by decide, by have := hc3.1; omega, by omega⟩⟩
          rw [good 3 hn (by decide) hall (by rw [hcp]; exact ⟨by show (65536 : Int) ≤ _; omega, hv2.1, hv2.2⟩), hcp]
        · rw [if_neg (by simp only [Bool.and_eq_true, decide_eq_true_eq]; exact hv)]
          refine ⟨_, _, rfl, .inr ⟨bad fun hx => ?_, rfl, rfl⟩⟩
          rw [hn] at hx
          obtain ⟨f1, f2, f3⟩ := hx.2.2
          rw [hcp] at f1 f2 f3
          have f1 : (65536 : Int) ≤ _ := f1
          exact hv ⟨by omega, (valid_iff _).2 ⟨f2, f3⟩⟩
      · have hk' : (k1 && k2 && k3) = false := by cases k1 <;> cases k2 <;> cases k3 <;> simp_all
        have hx' : elR zs i = (-1, 1) := bad fun hx => by
          rw [hn] at hx
          exact hk ⟨c1.2 (hx.2.1 1 (by omega) (by omega)), c2.2 (hx.2.1 2 (by omega) (by omega)), c3.2 (hx.2.1 3 (by omega) (by omega))⟩
        refine ⟨Utf8.runeError, 1, ?_, .inr ⟨hx', rfl, rfl⟩⟩
        simp only [Bool.false_and, Bool.true_and, hk', Bool.false_eq_true, if_false]
    have e30 : (m0 / 8 == 30) = false := beq_eq_false_iff_ne.2 (by omega)
    rw [e30]
    have hn : nB (zs.getD i 0) = 0 := by unfold nB; rw [if_neg n1, if_neg n2, if_neg n3]
    refine ⟨Utf8.runeError, 1, ?_, .inr ⟨bad fun hx => hx.1 hn, rfl, rfl⟩⟩
    simp only [Bool.false_and, Bool.false_eq_true, if_false]
  obtain ⟨r, w, e, h1 | h1⟩ := key
  · exact ⟨r, w, e, h1.2.2.2.2, .inl ⟨h1.1, h1.2.1, h1.2.2.1, h1.2.2.2.1⟩⟩
  · exact ⟨r, w, e, by have := h1.2.1; omega, .inr h1⟩
end Go.Proofs.YtdkkfgcdnojmaaaDoor
