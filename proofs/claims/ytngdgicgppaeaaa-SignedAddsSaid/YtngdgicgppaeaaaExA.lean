/-
  Waits that double, and numbers as lists of bits: plain Lean.
-/
import Derived.Test.YtngdgicgppaeaaaLayR
import Derived.Test.YtngdgicgppaeaaaLayT
namespace Go.Proofs.Ytngdgicgppaeaaa
open Go
def lenN (q : Nat) : Nat := if q = 0 then 0 else Nat.log2 q + 1
theorem lenN_le {q d : Nat} : lenN q ≤ d ↔ q < 2 ^ d := by
  unfold lenN
  by_cases h : q = 0
  · subst h; simp [Nat.two_pow_pos]
  · rw [if_neg h, ← Nat.log2_lt h]; omega
/-- the bit lists -/
def valB : List Bool → Nat
  | [] => 0
  | b :: l => b.toNat + 2 * valB l
theorem valB_app : ∀ (a b : List Bool), valB (a ++ b) = valB a + 2 ^ a.length * valB b
  | [], b => by simp [valB]
  | x :: a, b => by simp [valB, valB_app a b, Nat.pow_succ, Nat.mul_add]; rw [Nat.mul_comm (2 ^ a.length) 2, Nat.mul_assoc]; omega
theorem valB_lt : ∀ l : List Bool, valB l < 2 ^ l.length
  | [] => by simp [valB]
  | b :: l => by
    have := valB_lt l
    simp only [valB, List.length_cons, Nat.pow_succ]
    cases b <;> simp <;> omega
def bitsN (n : Nat) (k : Nat) : List Bool := (List.range k).map fun i => decide (n / 2 ^ i % 2 = 1)
theorem bitsN_len (n k : Nat) : (bitsN n k).length = k := by simp [bitsN]
theorem bitsN_succ (n k : Nat) : bitsN n (k + 1) = bitsN n k ++ [decide (n / 2 ^ k % 2 = 1)] := by simp [bitsN, List.range_succ]
theorem valB_bitsN (n : Nat) : ∀ k, valB (bitsN n k) = n % 2 ^ k
  | 0 => by simp [bitsN, valB, Nat.mod_one]
  | k + 1 => by
    rw [bitsN_succ, valB_app, valB_bitsN n k, bitsN_len, Nat.pow_succ, Nat.mod_mul]
    congr 2
    simp only [valB]
    have : n / 2 ^ k % 2 < 2 := Nat.mod_lt _ (by omega)
    by_cases h : n / 2 ^ k % 2 = 1 <;> simp [h] <;> omega
def bitA (l : List Bool) (i : Nat) : Nat := if i < l.length ∧ l.getD i false = true then 1 else 0
theorem bitA_eq (l : List Bool) (i : Nat) : bitA l i = (l.getD i false).toNat := by
  unfold bitA
  by_cases h : i < l.length
  · cases e : l.getD i false <;> simp [h]
  · simp [h]
theorem valB_drop (l : List Bool) (i : Nat) : valB (l.drop i) = bitA l i + 2 * valB (l.drop (i + 1)) := by
  rw [bitA_eq]
  by_cases h : i < l.length
  · rw [List.drop_eq_getElem_cons h]; simp [valB, List.getD, List.getElem?_eq_getElem h]
  · rw [List.drop_eq_nil_of_le (by omega), List.drop_eq_nil_of_le (by omega)]; simp [valB, List.getD, List.getElem?_eq_none (show l.length ≤ i by omega)]
def plusG (a b : List Bool) : Nat → Nat → Nat → List Bool
  | 0, _, _ => []
  | n + 1, i, up => if (i < a.length ∨ i < b.length) ∨ 0 < up then decide ((bitA a i + bitA b i + up) % 2 = 1) :: plusG a b n (i + 1) ((bitA a i + bitA b i + up) / 2) else []
theorem bitA_le (l : List Bool) (i : Nat) : bitA l i ≤ 1 := by unfold bitA; split <;> omega
def plusF (a b : List Bool) : List Bool := plusG a b (max a.length b.length + 1) 0 0
theorem plusG_val (a b : List Bool) : ∀ n i up, up ≤ 1 → max a.length b.length + 1 - i ≤ n → (max a.length b.length + 1 ≤ i → up = 0) → valB (plusG a b n i up) = valB (a.drop i) + valB (b.drop i) + up
  | 0, i, up, h1, h2, h3 => by
    rw [List.drop_eq_nil_of_le (by omega), List.drop_eq_nil_of_le (by omega), h3 (by omega)]; simp [plusG, valB]
  | n + 1, i, up, h1, h2, h3 => by
    simp only [plusG]
    have ha := bitA_le a i
    have hb := bitA_le b i
    by_cases h : (i < a.length ∨ i < b.length) ∨ 0 < up
    · rw [if_pos h, valB, plusG_val a b n (i + 1) _ (by omega) (by omega) (fun h4 => ?_), valB_drop a i, valB_drop b i]
      · generalize bitA a i = x at *
        generalize bitA b i = y at *
        by_cases hh : (x + y + up) % 2 = 1 <;> simp [hh] <;> omega
      · have e1 : bitA a i = 0 := by unfold bitA; rw [if_neg (by omega)]
        have e2 : bitA b i = 0 := by unfold bitA; rw [if_neg (by omega)]
        omega
    · rw [if_neg h, List.drop_eq_nil_of_le (by omega), List.drop_eq_nil_of_le (by omega)]; simp only [valB]; omega
theorem plusF_val (a b : List Bool) : valB (plusF a b) = valB a + valB b := by
  unfold plusF
  rw [plusG_val a b _ 0 0 (by omega) (by omega) (by omega)]; simp
theorem plusG_len (a b : List Bool) : ∀ n i up, (plusG a b n i up).length ≤ n
  | 0, i, up => by simp [plusG]
  | n + 1, i, up => by
    simp only [plusG]
    split
    · have := plusG_len a b n (i + 1) ((bitA a i + bitA b i + up) / 2); simp; omega
    · simp
theorem plusF_len (a b : List Bool) : (plusF a b).length ≤ max a.length b.length + 1 := plusG_len a b _ 0 0
theorem valB_rep : ∀ (i : Nat) (a : List Bool), valB (List.replicate i false ++ a) = 2 ^ i * valB a
  | 0, a => by simp
  | i + 1, a => by rw [List.replicate_succ, List.cons_append, valB, valB_rep i a, Nat.pow_succ]; simp; rw [← Nat.mul_assoc, Nat.mul_comm 2]
theorem valB_take (l : List Bool) (i : Nat) (h : i < l.length) : valB (l.take (i + 1)) = valB (l.take i) + 2 ^ i * (l.getD i false).toNat := by
  rw [List.take_succ_eq_append_getElem h, valB_app, List.length_take, Nat.min_eq_left (by omega)]
  simp [valB, List.getD, List.getElem?_eq_getElem h]
theorem wrap_u64_nat {n : Nat} (h : n < 18446744073709551616) : IntKind.u64.wrap (n : Int) = (n : Int) := wrap_u64 (by omega) (by omega)
theorem wrap_u64_big (n : Nat) : IntKind.u64.wrap (n : Int) = ((n % 18446744073709551616 : Nat) : Int) := by rw [wrap_u64_mod]; omega
theorem wrap_i64_nat {n : Nat} (h : n < 9223372036854775808) : IntKind.i64.wrap (n : Int) = (n : Int) := wrap_i64 (by omega) (by omega)
theorem ofInt_nat (n : Nat) : BitVec.ofInt 64 (n : Int) = BitVec.ofNat 64 n := by
  apply BitVec.eq_of_toNat_eq; simp
theorem and_low32 (x : Nat) (h : x < 18446744073709551616) : ibit .and .u64 (x : Int) 4294967295 = ((x % 4294967296 : Nat) : Int) := by
  have e : ibit .and .u64 (x : Int) 4294967295 = IntKind.u64.wrap ((BitVec.ofInt 64 (x : Int) &&& BitVec.ofInt 64 ((4294967295 : Nat) : Int)).toNat : Int) := rfl
  rw [e, ofInt_nat, ofInt_nat, BitVec.toNat_and, BitVec.toNat_ofNat, BitVec.toNat_ofNat, Nat.mod_eq_of_lt h, show (4294967295 : Nat) % 2 ^ 64 = 2 ^ 32 - 1 from by decide, Nat.and_two_pow_sub_one_eq_mod]
  exact wrap_u64_nat (by omega)
end Go.Proofs.Ytngdgicgppaeaaa
