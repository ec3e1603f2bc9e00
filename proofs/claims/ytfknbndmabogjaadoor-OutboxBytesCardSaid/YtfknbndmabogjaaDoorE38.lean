/-
  The walks and the laws that the statement leans on, part 38.
-/
import Derived.Test.YtfknbndmabogjaaDoorE34
import Derived.Test.YtfknbndmabogjaaDoorE37
namespace Go.Proofs.YtfknbndmabogjaaDoor.Wi
open Go
set_option linter.unusedVariables false
set_option linter.unusedSimpArgs false
theorem gF_eq {sgn S : Int} {m : Int} {K : Nat} (t : List Int) (h2 : ibit .andNot .u8 m sgn = (K : Int)) (h1 : ibit .and .u8 m sgn = S) :
    gF sgn (m :: t) = if 8 < K ∨ t.length < K ∨ (0 < K ∧ t.getD 0 0 = 0) then none else some (S, valL (t.take K), t.drop K) := by
  rw [gF, h1, h2, Int.toNat_natCast]
theorem rdF_none {kind most : Int} {zs : List Int} (h3 : kind ≠ 3) (h0 : gF (if kind = 1 then 16 else 0) zs = none) : rdF kind most zs = none := by
  unfold rdF
  rw [if_neg h3]
  by_cases h1 : kind = 1
  · rw [if_pos h1] at h0 ⊢
    simp only [iF, h0]; rfl
  · rw [if_neg h1] at h0 ⊢
    have hn : nF zs = none := by unfold nF; rw [h0]; rfl
    have hc : cF most zs = none := by unfold cF; rw [hn]
    have ht : tF most zs = none := by unfold tF; rw [hc]
    rw [hn, hc, ht]
    split
    · rfl
    · split <;> rfl
theorem rdF_tail {kind most : Int} {zs r : List Int} {N : Nat} {ng : Bool} (h3 : kind ≠ 3) (hng : ng = true → kind = 1) (h0 : gF (if kind = 1 then 16 else 0) zs = some (if ng then 16 else 0, N, r)) : rdF kind most zs = tailF kind most ng N r := by
  unfold rdF tailF
  rw [if_neg h3]
  by_cases h1 : kind = 1
  · rw [if_pos h1] at h0 ⊢
    rw [if_pos h1]
    simp only [iF, h0]
    cases ng
    · simp only [Bool.false_eq_true, if_false, ne_eq, not_true_eq_false, false_and, true_and, false_or]
      split <;> rfl
    · simp only [if_true]
      by_cases hc : N = 0 ∨ 9223372036854775808 < N
      · rw [if_pos (.inl ⟨by decide, hc⟩), if_pos hc]; rfl
      · rw [if_neg hc, if_neg (by rintro (⟨_, h⟩ | ⟨h, _⟩); exact hc h; cases h), if_pos (by decide)]; rfl
  · rw [if_neg h1] at h0 ⊢
    rw [if_neg h1]
    have hn : nF zs = some (N, r) := by unfold nF; rw [h0]; rfl
    by_cases hk0 : kind = 0
    · rw [if_pos hk0, if_pos hk0, hn]; rfl
    · rw [if_neg hk0, if_neg hk0]
      by_cases hm : most < 0 ∨ most < (N : Int)
      · have hc : cF most zs = none := by unfold cF; rw [hn]; simp only; rw [if_pos hm]
        have ht : tF most zs = none := by unfold tF; rw [hc]
        rw [if_pos hm, hc, ht]
        split <;> rfl
      · have hc : cF most zs = some (N, r) := by unfold cF; rw [hn]; simp only; rw [if_neg hm]
        rw [if_neg hm, hc]
        by_cases hk4 : kind = 4
        · rw [if_pos hk4, if_pos hk4]; rfl
        · rw [if_neg hk4, if_neg hk4]
          unfold tF
          rw [hc]
          simp only
          split <;> rfl
theorem refGet_ct (Z : List Int) (at_ : Nat) (kind most : Int) (hat : at_ ≤ Z.length) (hb : By Z) (hz : Z.length ≤ 60000) (hm1 : -9223372036854775808 ≤ most) (hm2 : most ≤ 9223372036854775807) :
    ACt Tryd.prog 92 [.slz .u8 Z, iv .i64 (at_ : Int), .agg [iv .i64 kind, iv .i64 most]] [] (Post3 Z.length (rdF kind most (Z.drop at_))) := by
  cases hd : Z.drop at_ with
  | nil =>
    have he : at_ = Z.length := by
      have : (Z.drop at_).length = 0 := by rw [hd]; rfl
      simp at this; omega
    have hn : rdF kind most [] = none := by
      by_cases h3 : kind = 3
      · subst h3; rfl
      · exact rdF_none h3 rfl
    rw [hn, he]
    exact refG_end Z kind most
  | cons m t =>
    have hbt : By (m :: t) := by rw [← hd]; exact hb.drop _
    have hm := hbt m (List.mem_cons_self ..)
    obtain ⟨m, rfl⟩ := Int.eq_ofNat_of_zero_le hm.1
    obtain ⟨h1, h2, h3', h4, h5⟩ := drop_facts hd
    by_cases h3 : kind = 3
    · subst h3
      have hf : rdF 3 most ((m : Int) :: t) = (fF ((m : Int) :: t)).map fun p => (.agg [nu 0, iv .i64 0, eS, bv p.1], p.2) := rfl
      have hF : fF ((m : Int) :: t) = if 1 < (m : Int) then none else some ((m : Int) == 1, t) := rfl
      rw [hf, hF]
      by_cases hm2 : 1 < (m : Int)
      · rw [if_pos hm2]
        exact refG_flagB Z t at_ m most hd hz (by omega)
      · rw [if_neg hm2]
        have := refG_flag Z t at_ m most hd hz (by omega)
        rw [show at_ + 1 = Z.length - t.length by omega] at this
        exact this
    · obtain ⟨k, s, hk, a1, a2, a5, a6, a3, a4⟩ := and256 m (by omega)
      obtain ⟨K, ng, hH, hKm, e2, e1, hng⟩ : ∃ (K : Nat) (ng : Bool), HeadK kind m K ng ∧ K ≤ 255 ∧ ibit .andNot .u8 (m : Int) (if kind = 1 then 16 else 0) = (K : Int) ∧ ibit .and .u8 (m : Int) (if kind = 1 then 16 else 0) = (if ng then 16 else 0) ∧ (ng = true → kind = 1) := by
        by_cases hk1 : kind = 1
        · simp only [if_pos hk1]
          by_cases hs : m / 16 % 2 = 1
          · rw [if_pos hs] at a5 a6
            exact ⟨m - 16, true, .inr (.inr ⟨hk1, hs, rfl, rfl⟩), by omega, by rw [a1, a5], by rw [a2, a6]; rfl, fun _ => hk1⟩
          · rw [if_neg hs] at a5 a6
            exact ⟨m, false, .inr (.inl ⟨hk1, hs, rfl, rfl⟩), by omega, by rw [a1, a5], by rw [a2, a6]; rfl, fun h => by cases h⟩
        · simp only [if_neg hk1]
          exact ⟨m, false, .inl ⟨hk1, rfl, rfl⟩, by omega, a3, by rw [a4]; rfl, fun h => by cases h⟩
      have hg := gF_eq t e2 e1
      by_cases hbad : 8 < K ∨ t.length < K ∨ (0 < K ∧ t.getD 0 0 = 0)
      · rw [if_pos hbad] at hg
        rw [rdF_none h3 hg]
        exact refG_bad Z t at_ m K ng kind most hd hz h3 (by omega) hH hbad
      · rw [if_neg hbad] at hg
        rw [rdF_tail h3 hng hg]
        have hgood : K ≤ 8 ∧ K ≤ t.length ∧ (K = 0 ∨ t.getD 0 0 ≠ 0) := by
          refine ⟨by omega, by omega, ?_⟩
          by_cases h0 : K = 0
          · exact .inl h0
          · exact .inr fun h => hbad (.inr (.inr ⟨by omega, h⟩))
        cases ng
        · exact refG_goodF Z t at_ m K kind most hd hbt.tail hz h3 (by omega) hH hgood hm1 hm2
        · exact refG_goodT Z t at_ m K kind most hd hbt.tail hz h3 (by omega) hH hgood hm1 hm2
theorem valL_byteL (n : Nat) : ∀ k, valL (byteL n k) = n % 256 ^ k
  | 0 => by simp [byteL, valL, Nat.mod_one]
  | k + 1 => by
    rw [byteL, valL, byteL_len, valL_byteL n k, Int.toNat_natCast, Nat.mod_pow_succ, Nat.add_comm, Nat.mul_comm]
theorem by_byteL (n : Nat) : ∀ k, By (byteL n k)
  | 0 => fun x hx => by cases hx
  | k + 1 => fun x hx => by
    rcases List.mem_cons.1 hx with rfl | hx
    · omega
    · exact by_byteL n k x hx
theorem By.app {a b : List Int} (ha : By a) (hb : By b) : By (a ++ b) := fun x hx => by
  rcases List.mem_append.1 hx with h | h
  · exact ha x h
  · exact hb x h
theorem by_putL (n : Nat) (hn : n < 18446744073709551616) : By (putL 0 n) := by
  obtain ⟨k, _, hk, h, _⟩ := putL0 n hn
  rw [h]
  intro x hx
  rcases List.mem_cons.1 hx with rfl | hx
  · omega
  · exact by_byteL n k x hx
theorem nF_put (n : Nat) (rest : List Int) (hn : n < 18446744073709551616) : nF (putL 0 n ++ rest) = some (n, rest) := by
  obtain ⟨k, hk, hk9, h, _⟩ := putL0 n hn
  have a := and16 k hk9
  have hlt : n < 256 ^ k := size_le.1 (Nat.le_of_eq hk.symm)
  have hlb := byteL_len n k
  rw [h]
  unfold nF
  rw [List.cons_append]
  simp only [gF, a.2.2.2.2.2, a.2.2.2.2.1, Int.toNat_natCast]
  have hz : ¬ (0 < k ∧ (byteL n k ++ rest).getD 0 0 = 0) := by
    rintro ⟨h0, h1⟩
    have e : (byteL n k ++ rest).getD 0 0 = ((n / 256 ^ (k - 1 - 0) % 256 : Nat) : Int) := by
      rw [← byteL_at n k 0 h0]
      simp only [List.getD_eq_getElem?_getD]
      rw [List.getElem?_append_left (by omega)]
    have hge : 256 ^ (k - 1) ≤ n := by
      apply Classical.byContradiction; intro hc
      have := size_le.2 (show n < 256 ^ (k - 1) by omega)
      omega
    have hne := byteL_hd (k := k - 1) (by rw [show k - 1 + 1 = k by omega]; exact hlt) hge
    rw [e, Nat.sub_zero] at h1
    exact hne (by exact_mod_cast h1)
  rw [if_neg]
  · simp only [Option.map_some, List.take_left' hlb, List.drop_left' hlb, valL_byteL, Nat.mod_eq_of_lt hlt]
  · rintro (h1 | h1 | h1)
    · omega
    · rw [List.length_append] at h1; omega
    · exact hz h1
end Go.Proofs.YtfknbndmabogjaaDoor.Wi
