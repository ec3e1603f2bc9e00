/-
  Plain lemmas on the numbers that the layer's formulas speak of.
-/
import Derived.Test.YtbnkmhlnoaebcaaLayL
namespace Go.Proofs.Ytbnkmhlnoaebcaa
open Go
set_option linter.unusedSimpArgs false

theorem drop_getD0 {α : Type} (l : List α) (i : Nat) (d : α) : (l.drop i).getD 0 d = l.getD i d := by simp [List.getD]
theorem fresh_nil (b : Nat) : fresh [] b = True := by simp [fresh]
theorem fresh_cons (b0 : Nat) (m : MB) (H : Hp) (b : Nat) : fresh ((b0, m) :: H) b = ((b0 ≠ b ∧ b ≠ b0) ∧ fresh H b) := by simp [fresh]
theorem freshBut_nil (b b' : Nat) : freshBut [] b b' = True := by simp [freshBut]
theorem freshBut_cons (b0 : Nat) (m : MB) (H : Hp) (b b' : Nat) : freshBut ((b0, m) :: H) b b' = ((b0 = b ∨ (b0 ≠ b' ∧ b' ≠ b0)) ∧ freshBut H b b') := by simp [freshBut]
theorem intsA_map (k : IntKind) : ∀ l : List Int, intsA k (l.map (iv k)) = some l
  | [] => rfl
  | x :: r => by simp only [List.map_cons, intsA, if_true, intsA_map k r, Option.map_some]
theorem oneC_map (k : IntKind) (l : List Int) : (l.map (iv k)).all oneC = true := by
  rw [List.all_eq_true]; intro y hy; obtain ⟨z, _, rfl⟩ := List.mem_map.1 hy; rfl
theorem wrap_i64 {n : Int} (h1 : -9223372036854775808 ≤ n) (h2 : n ≤ 9223372036854775807) : IntKind.i64.wrap n = n := by
  simp only [IntKind.wrap, IntKind.bits, IntKind.signed]
  simp
  omega
theorem wrap_u64 {n : Int} (h1 : 0 ≤ n) (h2 : n ≤ 18446744073709551615) : IntKind.u64.wrap n = n := by
  simp only [IntKind.wrap, IntKind.bits, IntKind.signed]
  simp
  omega
theorem wrap_u32 {n : Int} (h1 : 0 ≤ n) (h2 : n ≤ 4294967295) : IntKind.u32.wrap n = n := by
  simp only [IntKind.wrap, IntKind.bits, IntKind.signed]
  simp
  omega
theorem wrap_u8 {n : Int} (h1 : 0 ≤ n) (h2 : n ≤ 255) : IntKind.u8.wrap n = n := by
  simp only [IntKind.wrap, IntKind.bits, IntKind.signed]
  simp
  omega
theorem wrap_u64_mod (n : Int) : IntKind.u64.wrap n = n % 18446744073709551616 := by
  simp only [IntKind.wrap, IntKind.bits, IntKind.signed]
  simp
theorem wrap_u32_mod (n : Int) : IntKind.u32.wrap n = n % 4294967296 := by
  simp only [IntKind.wrap, IntKind.bits, IntKind.signed]
  simp
theorem wrap_u8_mod (n : Int) : IntKind.u8.wrap n = n % 256 := by
  simp only [IntKind.wrap, IntKind.bits, IntKind.signed]
  simp

/-! Words of 32 bits as numbers -/
def U (b : BitVec 32) : Int := b.toNat

theorem U_bd (b : BitVec 32) : 0 ≤ U b ∧ U b ≤ 4294967295 := by unfold U; have := b.isLt; omega
theorem U_ofInt (b : BitVec 32) : BitVec.ofInt 32 (U b) = b := by
  unfold U
  apply BitVec.eq_of_toNat_eq
  simp
theorem U_inj {a b : BitVec 32} (h : U a = U b) : a = b := by
  unfold U at h
  exact BitVec.eq_of_toNat_eq (by omega)
theorem wrap_toNat (b : BitVec 32) : IntKind.u32.wrap (b.toNat : Int) = U b := wrap_u32 (U_bd b).1 (U_bd b).2
theorem ibit_xor_U (a b : BitVec 32) : ibit .xor .u32 (U a) (U b) = U (a ^^^ b) := by
  have h : ibit .xor .u32 (U a) (U b) = IntKind.u32.wrap ((BitVec.ofInt 32 (U a) ^^^ BitVec.ofInt 32 (U b)).toNat : Int) := rfl
  rw [h, U_ofInt, U_ofInt, wrap_toNat]
theorem ibit_and_U (a b : BitVec 32) : ibit .and .u32 (U a) (U b) = U (a &&& b) := by
  have h : ibit .and .u32 (U a) (U b) = IntKind.u32.wrap ((BitVec.ofInt 32 (U a) &&& BitVec.ofInt 32 (U b)).toNat : Int) := rfl
  rw [h, U_ofInt, U_ofInt, wrap_toNat]
theorem ibit_or_U (a b : BitVec 32) : ibit .or .u32 (U a) (U b) = U (a ||| b) := by
  have h : ibit .or .u32 (U a) (U b) = IntKind.u32.wrap ((BitVec.ofInt 32 (U a) ||| BitVec.ofInt 32 (U b)).toNat : Int) := rfl
  rw [h, U_ofInt, U_ofInt, wrap_toNat]
theorem U_shr (a : BitVec 32) (k : Nat) : (U a).fdiv (2 ^ k) = U (a >>> k) := by
  unfold U
  rw [BitVec.toNat_ushiftRight, Nat.shiftRight_eq_div_pow, Int.fdiv_eq_ediv_of_nonneg _ (by exact Int.le_of_lt (Int.pow_pos (by omega)))]
  simp
theorem U_ofNat (n : Nat) (h : n < 4294967296) : (n : Int) = U (BitVec.ofNat 32 n) := by
  unfold U
  simp
  omega
end Go.Proofs.Ytbnkmhlnoaebcaa
