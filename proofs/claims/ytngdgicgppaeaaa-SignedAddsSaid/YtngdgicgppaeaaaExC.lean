/-
  A long division by digits of 32 bits, in plain Lean.
-/
import Derived.Test.YtngdgicgppaeaaaExF
namespace Go.Proofs.Ytngdgicgppaeaaa
open Go
set_option linter.unusedVariables false
/-- One digit of a long division: the greatest q with q*y ≤ u*B+c. -/
structure DInvD (B yn1 yn0 u c q r : Nat) : Prop where
  eq : q * yn1 + r = u
  ge : (u * B + c) / (yn1 * B + yn0) ≤ q
theorem dig_start {B yn1 yn0 u c : Nat} (h1 : 0 < yn1) (hc : c < B) (hB : 0 < B) : DInvD B yn1 yn0 u c (u / yn1) (u - u / yn1 * yn1) := by
  have e : u / yn1 * yn1 ≤ u := Nat.div_mul_le_self u yn1
  refine ⟨by omega, ?_⟩
  have hy : 0 < yn1 * B + yn0 := Nat.add_pos_left (Nat.mul_pos h1 hB) _
  rw [Nat.le_div_iff_mul_le h1]
  have hq : (u * B + c) / (yn1 * B + yn0) * (yn1 * B + yn0) ≤ u * B + c := Nat.div_mul_le_self _ _
  generalize (u * B + c) / (yn1 * B + yn0) = q at *
  rw [Nat.mul_add, ← Nat.mul_assoc] at hq
  have h2 : q * yn1 * B < (u + 1) * B := by rw [Nat.add_mul]; omega
  have := Nat.lt_of_mul_lt_mul_right h2
  omega
theorem dig_stop {B yn1 yn0 u c q r : Nat} (h1 : 0 < yn1) (hB : 0 < B) (D : DInvD B yn1 yn0 u c q r) (ht : q * yn0 ≤ B * r + c) : q = (u * B + c) / (yn1 * B + yn0) := by
  have hy : 0 < yn1 * B + yn0 := Nat.add_pos_left (Nat.mul_pos h1 hB) _
  refine Nat.le_antisymm ?_ D.ge
  rw [Nat.le_div_iff_mul_le hy, Nat.mul_add, ← Nat.mul_assoc, ← D.eq, Nat.add_mul]
  have : B * r = r * B := Nat.mul_comm _ _
  omega
theorem dig_lt {B y u c : Nat} (hu : u < y) (hc : c < B) : (u * B + c) / y < B := by
  rw [Nat.div_lt_iff_lt_mul (by omega)]
  have h : (u + 1) * B ≤ y * B := Nat.mul_le_mul_right _ hu
  rw [Nat.add_mul, Nat.mul_comm y B] at h
  omega
theorem dig_next {B yn1 yn0 u c q r : Nat} (h1 : 0 < yn1) (hB : 0 < B) (hu : u < yn1 * B + yn0) (hc : c < B) (D : DInvD B yn1 yn0 u c q r) (ht : B ≤ q ∨ B * r + c < q * yn0) : 0 < q ∧ DInvD B yn1 yn0 u c (q - 1) (r + yn1) := by
  have hy : 0 < yn1 * B + yn0 := Nat.add_pos_left (Nat.mul_pos h1 hB) _
  have hq : 0 < q := by
    rcases ht with h | h
    · omega
    · apply Nat.pos_of_ne_zero; intro e; rw [e, Nat.zero_mul] at h; omega
  refine ⟨hq, ?_, ?_⟩
  · have e : q * yn1 = (q - 1) * yn1 + yn1 := by
      conv => lhs; rw [show q = (q - 1) + 1 by omega, Nat.add_mul, Nat.one_mul]
    have := D.eq
    omega
  · have hlt : (u * B + c) / (yn1 * B + yn0) < q := by
      rcases ht with h | h
      · have := dig_lt hu hc; omega
      · rw [Nat.div_lt_iff_lt_mul hy, Nat.mul_add, ← Nat.mul_assoc, ← D.eq, Nat.add_mul]
        have : B * r = r * B := Nat.mul_comm _ _
        omega
    omega
theorem dig_break {B yn1 yn0 u c q r : Nat} (h1 : 0 < yn1) (hB : 0 < B) (h0 : yn0 < B) (hu : u < yn1 * B + yn0) (D : DInvD B yn1 yn0 u c q r) (hr : B ≤ r) : q = (u * B + c) / (yn1 * B + yn0) := by
  refine dig_stop h1 hB D ?_
  have hq : q < B := by
    have : q * yn1 < B * yn1 := by rw [Nat.mul_comm B yn1]; have := D.eq; omega
    exact Nat.lt_of_mul_lt_mul_right this
  have h2 : q * yn0 ≤ B * B := Nat.mul_le_mul (by omega) (by omega)
  have h3 : B * B ≤ B * r := Nat.mul_le_mul_left _ hr
  omega
/-- two digits are one number -/
theorem two_digits {B y u c1 c0 : Nat} (hu : u < y) (h1 : c1 < B) (h0 : c0 < B) :
    ((u * B + c1) * B + c0) / y = (u * B + c1) / y * B + ((u * B + c1) % y * B + c0) / y ∧ ((u * B + c1) * B + c0) % y = ((u * B + c1) % y * B + c0) % y := by
  have hy : 0 < y := by omega
  have e : (u * B + c1) * B + c0 = ((u * B + c1) % y * B + c0) + y * ((u * B + c1) / y * B) := by
    have h := Nat.div_add_mod (u * B + c1) y
    generalize u * B + c1 = a at *
    conv => lhs; rw [← h, Nat.add_mul, Nat.mul_assoc]
    omega
  rw [e, Nat.add_mul_div_left _ _ hy, Nat.add_mul_mod_self_left]
  omega
theorem or_shift (a b s : Nat) (ha : a * 2 ^ s < 18446744073709551616) (hb : b < 2 ^ s) (hb2 : b < 18446744073709551616) : ibit .or .u64 ((a * 2 ^ s : Nat) : Int) (b : Int) = ((a * 2 ^ s + b : Nat) : Int) := by
  have e : ibit .or .u64 ((a * 2 ^ s : Nat) : Int) (b : Int) = IntKind.u64.wrap ((BitVec.ofInt 64 ((a * 2 ^ s : Nat) : Int) ||| BitVec.ofInt 64 ((b : Nat) : Int)).toNat : Int) := rfl
  have h2 : a * 2 ^ s ||| b = a * 2 ^ s + b := by rw [Nat.mul_comm, Nat.two_pow_add_eq_or_of_lt hb]
  rw [e, ofInt_nat, ofInt_nat, BitVec.toNat_or, BitVec.toNat_ofNat, BitVec.toNat_ofNat, Nat.mod_eq_of_lt ha, Nat.mod_eq_of_lt hb2, h2]
  have h3 : a * 2 ^ s + b < 18446744073709551616 := by
    rw [← h2]; exact Nat.or_lt_two_pow (n := 64) ha hb2
  exact wrap_u64_nat h3
theorem norm_bd {y : Nat} (h0 : 0 < y) (h : y < 18446744073709551616) : 1 ≤ lenN y ∧ lenN y ≤ 64 ∧ y * 2 ^ (64 - lenN y) < 18446744073709551616 ∧ 9223372036854775808 ≤ y * 2 ^ (64 - lenN y) := by
  have h1 : lenN y ≤ 64 := lenN_le.2 h
  have h2 : 1 ≤ lenN y := by
    apply Classical.byContradiction; intro hc
    have := lenN_le.1 (show lenN y ≤ 0 by omega)
    omega
  have h3 := lenN_le.1 (Nat.le_refl (lenN y))
  have h4 : 2 ^ (lenN y - 1) ≤ y := by
    apply Classical.byContradiction; intro hc
    have := lenN_le.2 (show y < 2 ^ (lenN y - 1) by omega)
    omega
  have e1 : 2 ^ lenN y * 2 ^ (64 - lenN y) = 18446744073709551616 := by rw [← Nat.pow_add, show lenN y + (64 - lenN y) = 64 by omega]
  have e2 : 2 ^ (lenN y - 1) * 2 ^ (64 - lenN y) = 9223372036854775808 := by rw [← Nat.pow_add, show lenN y - 1 + (64 - lenN y) = 63 by omega]
  refine ⟨h2, h1, ?_, ?_⟩
  · rw [← e1]; exact Nat.mul_lt_mul_of_pos_right h3 (Nat.two_pow_pos _)
  · rw [← e2]; exact Nat.mul_le_mul_right _ h4
/-- the number that is divided, moved up -/
theorem shift_parts {hi lo y s : Nat} (hy : hi < y) (hlo : lo < 18446744073709551616) (hs : s ≤ 64) (hY : y * 2 ^ s < 18446744073709551616) :
    hi * 2 ^ s + lo / 2 ^ (64 - s) < y * 2 ^ s ∧ lo / 2 ^ (64 - s) < 2 ^ s ∧ hi * 2 ^ s < 18446744073709551616 ∧
    (hi * 18446744073709551616 + lo) * 2 ^ s = (hi * 2 ^ s + lo / 2 ^ (64 - s)) * 18446744073709551616 + lo * 2 ^ s % 18446744073709551616 := by
  have e1 : 2 ^ (64 - s) * 2 ^ s = 18446744073709551616 := by rw [← Nat.pow_add, show 64 - s + s = 64 by omega]
  have h1 : lo / 2 ^ (64 - s) < 2 ^ s := by rw [Nat.div_lt_iff_lt_mul (Nat.two_pow_pos _), Nat.mul_comm, e1]; exact hlo
  have h2 : (hi + 1) * 2 ^ s ≤ y * 2 ^ s := Nat.mul_le_mul_right _ hy
  rw [Nat.add_mul, Nat.one_mul] at h2
  have e2 : lo * 2 ^ s / 18446744073709551616 = lo / 2 ^ (64 - s) := by rw [← e1, Nat.mul_div_mul_right _ _ (Nat.two_pow_pos s)]
  refine ⟨by omega, h1, by omega, ?_⟩
  rw [Nat.add_mul, Nat.add_mul, Nat.mul_right_comm]
  have := Nat.div_add_mod (lo * 2 ^ s) 18446744073709551616
  rw [e2] at this
  omega
theorem unshift {a y s : Nat} (hy : 0 < y) : a * 2 ^ s / (y * 2 ^ s) = a / y ∧ a * 2 ^ s % (y * 2 ^ s) / 2 ^ s = a % y := by
  rw [Nat.mul_div_mul_right _ _ (Nat.two_pow_pos s), Nat.mul_mod_mul_right, Nat.mul_div_cancel _ (Nat.two_pow_pos s)]
  exact ⟨rfl, rfl⟩
end Go.Proofs.Ytngdgicgppaeaaa
