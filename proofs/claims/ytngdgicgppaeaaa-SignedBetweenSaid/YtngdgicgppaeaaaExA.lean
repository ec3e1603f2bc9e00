/-
  Waits that double, and numbers as lists of bits: plain Lean.
-/
import Derived.Test.YtngdgicgppaeaaaLayR
import Derived.Test.YtngdgicgppaeaaaLayT
namespace Go.Proofs.Ytngdgicgppaeaaa
open Go
def lenN (q : Nat) : Nat := if q = 0 then 0 else Nat.log2 q + 1
theorem lenN_le {q d : Nat} : lenN q ≤ d ↔ q < 2 ^ d := by
  unfold lenN
  by_cases h : q = 0
  · subst h; simp [Nat.two_pow_pos]
  · rw [if_neg h, ← Nat.log2_lt h]; omega
def dub (f m : Nat) : Nat := lenN ((m - 1) / f)
theorem dub_le {f m d : Nat} (hf : 1 ≤ f) (hm : 1 ≤ m) : dub f m ≤ d ↔ m ≤ f * 2 ^ d := by
  unfold dub
  rw [lenN_le, Nat.div_lt_iff_lt_mul (by omega), Nat.mul_comm]; omega
def waitN (f m i : Nat) : Nat := if f * 2 ^ i < m then f * 2 ^ i else m
def totN (f m : Nat) : Nat → Nat
  | 0 => 0
  | n + 1 => totN f m n + waitN f m n
theorem waitN_dub {f m i : Nat} (hf : 1 ≤ f) (hm : 1 ≤ m) : waitN f m i = if dub f m ≤ i then m else f * 2 ^ i := by
  unfold waitN
  have := dub_le (d := i) hf hm
  by_cases h : dub f m ≤ i
  · rw [if_pos h, if_neg (by omega)]
  · rw [if_neg h, if_pos (by omega)]
theorem totN_closed {f m : Nat} (hf : 1 ≤ f) (hm : 1 ≤ m) : ∀ n, totN f m n = f * (2 ^ min n (dub f m) - 1) + (n - min n (dub f m)) * m
  | 0 => by simp [totN]
  | n + 1 => by
    rw [totN, totN_closed hf hm n, waitN_dub hf hm]
    by_cases h : dub f m ≤ n
    · rw [if_pos h, show min n (dub f m) = dub f m by omega, show min (n + 1) (dub f m) = dub f m by omega, show n + 1 - dub f m = (n - dub f m) + 1 by omega, Nat.add_mul]; omega
    · rw [if_neg h, show min n (dub f m) = n by omega, show min (n + 1) (dub f m) = n + 1 by omega, Nat.sub_self, Nat.sub_self, Nat.pow_succ]
      have := Nat.two_pow_pos n
      have e : f * (2 ^ n * 2 - 1) = f * (2 ^ n - 1) + f * 2 ^ n := by rw [← Nat.mul_add]; congr 1; omega
      omega
theorem waitN_mono {f m i : Nat} : waitN f m i ≤ waitN f m (i + 1) ∧ waitN f m (i + 1) ≤ m ∧ waitN f m (i + 1) ≤ 2 * waitN f m i ∧ (f ≤ m → f ≤ waitN f m i) := by
  unfold waitN
  rw [Nat.pow_succ, ← Nat.mul_assoc]
  have := Nat.two_pow_pos i
  have h2 : f ≤ f * 2 ^ i := Nat.le_mul_of_pos_right f this
  generalize f * 2 ^ i = x at *
  split <;> split <;> omega
theorem totN_bd {f m : Nat} : ∀ n, totN f m n ≤ n * m
  | 0 => by simp [totN]
  | n + 1 => by
    have := totN_bd (f := f) (m := m) n
    have h : waitN f m n ≤ m := by unfold waitN; split <;> omega
    rw [totN, Nat.add_mul]; omega
/-- the bit lists -/
def valB : List Bool → Nat
  | [] => 0
  | b :: l => b.toNat + 2 * valB l
theorem valB_app : ∀ (a b : List Bool), valB (a ++ b) = valB a + 2 ^ a.length * valB b
  | [], b => by simp [valB]
  | x :: a, b => by simp [valB, valB_app a b, Nat.pow_succ, Nat.mul_add]; rw [Nat.mul_comm (2 ^ a.length) 2, Nat.mul_assoc]; omega
theorem valB_lt : ∀ l : List Bool, valB l < 2 ^ l.length
  | [] => by simp [valB]
  | b :: l => by
    have := valB_lt l
    simp only [valB, List.length_cons, Nat.pow_succ]
    cases b <;> simp <;> omega
def bitsN (n : Nat) (k : Nat) : List Bool := (List.range k).map fun i => decide (n / 2 ^ i % 2 = 1)
theorem bitsN_len (n k : Nat) : (bitsN n k).length = k := by simp [bitsN]
theorem bitsN_succ (n k : Nat) : bitsN n (k + 1) = bitsN n k ++ [decide (n / 2 ^ k % 2 = 1)] := by simp [bitsN, List.range_succ]
theorem valB_bitsN (n : Nat) : ∀ k, valB (bitsN n k) = n % 2 ^ k
  | 0 => by simp [bitsN, valB, Nat.mod_one]
  | k + 1 => by
    rw [bitsN_succ, valB_app, valB_bitsN n k, bitsN_len, Nat.pow_succ, Nat.mod_mul]
    congr 2
    simp only [valB]
    have : n / 2 ^ k % 2 < 2 := Nat.mod_lt _ (by omega)
    by_cases h : n / 2 ^ k % 2 = 1 <;> simp [h] <;> omega
def bitA (l : List Bool) (i : Nat) : Nat := if i < l.length ∧ l.getD i false = true then 1 else 0
theorem bitA_eq (l : List Bool) (i : Nat) : bitA l i = (l.getD i false).toNat := by
  unfold bitA
  by_cases h : i < l.length
  · cases e : l.getD i false <;> simp [h]
  · simp [h]
theorem valB_drop (l : List Bool) (i : Nat) : valB (l.drop i) = bitA l i + 2 * valB (l.drop (i + 1)) := by
  rw [bitA_eq]
  by_cases h : i < l.length
  · rw [List.drop_eq_getElem_cons h]; simp [valB, List.getD, List.getElem?_eq_getElem h]
  · rw [List.drop_eq_nil_of_le (by omega), List.drop_eq_nil_of_le (by omega)]; simp [valB, List.getD, List.getElem?_eq_none (show l.length ≤ i by omega)]
def plusG (a b : List Bool) : Nat → Nat → Nat → List Bool
  | 0, _, _ => []
  | n + 1, i, up => if (i < a.length ∨ i < b.length) ∨ 0 < up then decide ((bitA a i + bitA b i + up) % 2 = 1) :: plusG a b n (i + 1) ((bitA a i + bitA b i + up) / 2) else []
theorem bitA_le (l : List Bool) (i : Nat) : bitA l i ≤ 1 := by unfold bitA; split <;> omega
def plusF (a b : List Bool) : List Bool := plusG a b (max a.length b.length + 1) 0 0
theorem plusG_val (a b : List Bool) : ∀ n i up, up ≤ 1 → max a.length b.length + 1 - i ≤ n → (max a.length b.length + 1 ≤ i → up = 0) → valB (plusG a b n i up) = valB (a.drop i) + valB (b.drop i) + up
  | 0, i, up, h1, h2, h3 => by
    rw [List.drop_eq_nil_of_le (by omega), List.drop_eq_nil_of_le (by omega), h3 (by omega)]; simp [plusG, valB]
  | n + 1, i, up, h1, h2, h3 => by
    simp only [plusG]
    have ha := bitA_le a i
    have hb := bitA_le b i
    by_cases h : (i < a.length ∨ i < b.length) ∨ 0 < up
    · rw [if_pos h, valB, plusG_val a b n (i + 1) _ (by omega) (by omega) (fun h4 => ?_), valB_drop a i, valB_drop b i]
      · generalize bitA a i = x at *
        generalize bitA b i = y at *
        by_cases hh : (x + y + up) % 2 = 1 <;> simp [hh] <;> omega
      · have e1 : bitA a i = 0 := by unfold bitA; rw [if_neg (by omega)]
        have e2 : bitA b i = 0 := by unfold bitA; rw [if_neg (by omega)]
        omega
    · rw [if_neg h, List.drop_eq_nil_of_le (by omega), List.drop_eq_nil_of_le (by omega)]; simp only [valB]; omega
theorem plusF_val (a b : List Bool) : valB (plusF a b) = valB a + valB b := by
  unfold plusF
  rw [plusG_val a b _ 0 0 (by omega) (by omega) (by omega)]; simp
theorem plusG_len (a b : List Bool) : ∀ n i up, (plusG a b n i up).length ≤ n
  | 0, i, up => by simp [plusG]
  | n + 1, i, up => by
    simp only [plusG]
    split
    · have := plusG_len a b n (i + 1) ((bitA a i + bitA b i + up) / 2); simp; omega
    · simp
theorem plusF_len (a b : List Bool) : (plusF a b).length ≤ max a.length b.length + 1 := plusG_len a b _ 0 0
def timesF (a b : List Bool) : Nat → List Bool
  | 0 => []
  | i + 1 => if b.getD i false = true then plusF (timesF a b i) (List.replicate i false ++ a) else timesF a b i
theorem valB_rep : ∀ (i : Nat) (a : List Bool), valB (List.replicate i false ++ a) = 2 ^ i * valB a
  | 0, a => by simp
  | i + 1, a => by rw [List.replicate_succ, List.cons_append, valB, valB_rep i a, Nat.pow_succ]; simp; rw [← Nat.mul_assoc, Nat.mul_comm 2]
theorem valB_take (l : List Bool) (i : Nat) (h : i < l.length) : valB (l.take (i + 1)) = valB (l.take i) + 2 ^ i * (l.getD i false).toNat := by
  rw [List.take_succ_eq_append_getElem h, valB_app, List.length_take, Nat.min_eq_left (by omega)]
  simp [valB, List.getD, List.getElem?_eq_getElem h]
theorem timesF_val (a b : List Bool) : ∀ i, i ≤ b.length → valB (timesF a b i) = valB a * valB (b.take i)
  | 0, _ => by simp [timesF, valB]
  | i + 1, h => by
    rw [timesF, valB_take b i h]
    have := timesF_val a b i (by omega)
    by_cases hb : b.getD i false = true
    · rw [if_pos hb, plusF_val, this, valB_rep, hb, Nat.mul_add]; simp [Nat.mul_comm]
    · rw [if_neg hb, this, (Bool.not_eq_true _).mp hb]; simp
theorem timesF_len (a b : List Bool) : ∀ i, (timesF a b i).length ≤ a.length + i
  | 0 => by simp [timesF]
  | i + 1 => by
    have := timesF_len a b i
    have h2 := plusF_len (timesF a b i) (List.replicate i false ++ a)
    simp only [timesF]
    split <;> simp at * <;> omega
def tabS : List Nat := (List.range 256).map fun i => lenN i
theorem wrap_u64_nat {n : Nat} (h : n < 18446744073709551616) : IntKind.u64.wrap (n : Int) = (n : Int) := wrap_u64 (by omega) (by omega)
theorem wrap_u64_big (n : Nat) : IntKind.u64.wrap (n : Int) = ((n % 18446744073709551616 : Nat) : Int) := by rw [wrap_u64_mod]; omega
theorem wrap_i64_nat {n : Nat} (h : n < 9223372036854775808) : IntKind.i64.wrap (n : Int) = (n : Int) := wrap_i64 (by omega) (by omega)
theorem ofInt_nat (n : Nat) : BitVec.ofInt 64 (n : Int) = BitVec.ofNat 64 n := by
  apply BitVec.eq_of_toNat_eq; simp
theorem and_low32 (x : Nat) (h : x < 18446744073709551616) : ibit .and .u64 (x : Int) 4294967295 = ((x % 4294967296 : Nat) : Int) := by
  have e : ibit .and .u64 (x : Int) 4294967295 = IntKind.u64.wrap ((BitVec.ofInt 64 (x : Int) &&& BitVec.ofInt 64 ((4294967295 : Nat) : Int)).toNat : Int) := rfl
  rw [e, ofInt_nat, ofInt_nat, BitVec.toNat_and, BitVec.toNat_ofNat, BitVec.toNat_ofNat, Nat.mod_eq_of_lt h, show (4294967295 : Nat) % 2 ^ 64 = 2 ^ 32 - 1 from by decide, Nat.and_two_pow_sub_one_eq_mod]
  exact wrap_u64_nat (by omega)
theorem shr_nat (x k : Nat) (h : k ≤ 64) : (x : Int).fdiv (2 ^ (min (k : Int).toNat 64)) = ((x / 2 ^ k : Nat) : Int) := by
  rw [Int.toNat_natCast, Nat.min_eq_left h, Int.fdiv_eq_ediv_of_nonneg _ (by exact Int.le_of_lt (Int.pow_pos (by omega)))]
  simp
theorem mul_le_sq {a b : Nat} (ha : a ≤ 4294967295) (hb : b ≤ 4294967295) : a * b ≤ 18446744065119617025 := Nat.mul_le_mul ha hb
theorem mul_parts (x y : Nat) (hx : x < 18446744073709551616) (hy : y < 18446744073709551616) :
    let x0 := x % 4294967296; let x1 := x / 4294967296; let y0 := y % 4294967296; let y1 := y / 4294967296
    let t := x1 * y0 + x0 * y0 / 4294967296
    let w1 := t % 4294967296 + x0 * y1
    x0 * y0 < 18446744073709551616 ∧ x1 * y0 < 18446744073709551616 ∧ t < 18446744073709551616 ∧ x0 * y1 < 18446744073709551616 ∧ w1 < 18446744073709551616 ∧ x1 * y1 < 18446744073709551616 ∧ x1 * y1 + t / 4294967296 < 18446744073709551616 ∧
    x1 * y1 + t / 4294967296 + w1 / 4294967296 = x * y / 18446744073709551616 ∧ x * y / 18446744073709551616 < 18446744073709551616 := by
  intro x0 x1 y0 y1 t w1
  have b1 : x0 * y0 ≤ _ := mul_le_sq (show x0 ≤ 4294967295 by omega) (show y0 ≤ 4294967295 by omega)
  have b2 : x1 * y0 ≤ _ := mul_le_sq (show x1 ≤ 4294967295 by omega) (show y0 ≤ 4294967295 by omega)
  have b3 : x0 * y1 ≤ _ := mul_le_sq (show x0 ≤ 4294967295 by omega) (show y1 ≤ 4294967295 by omega)
  have b4 : x1 * y1 ≤ _ := mul_le_sq (show x1 ≤ 4294967295 by omega) (show y1 ≤ 4294967295 by omega)
  have e : x * y = x1 * y1 * 18446744073709551616 + (x1 * y0 + x0 * y1) * 4294967296 + x0 * y0 := by
    have ex : x = x1 * 4294967296 + x0 := by omega
    have ey : y = y1 * 4294967296 + y0 := by omega
    conv => lhs; rw [ex, ey]
    rw [Nat.add_mul, Nat.mul_add, Nat.mul_add, Nat.add_mul]
    have c1 : x1 * 4294967296 * (y1 * 4294967296) = x1 * y1 * 18446744073709551616 := by
      rw [Nat.mul_mul_mul_comm]
    have c2 : x1 * 4294967296 * y0 = x1 * y0 * 4294967296 := by rw [Nat.mul_right_comm]
    have c3 : x0 * (y1 * 4294967296) = x0 * y1 * 4294967296 := by rw [Nat.mul_assoc]
    omega
  have ht : t = x1 * y0 + x0 * y0 / 4294967296 := rfl
  have hw : w1 = t % 4294967296 + x0 * y1 := rfl
  clear_value x0 x1 y0 y1 t w1
  generalize x0 * y0 = p at *
  generalize x1 * y0 = q at *
  generalize x0 * y1 = r at *
  generalize x1 * y1 = s at *
  generalize x * y = z at *
  refine ⟨?_, ?_, ?_, ?_, ?_, ?_, ?_, ?_, ?_⟩ <;> omega
end Go.Proofs.Ytngdgicgppaeaaa
