/-
  The sum of chapter 8 in plain Lean: bit by bit, and by tables of four bits; that they are one.
-/
import Derived.Test.YtkfodhcljknibaaLayO
namespace Go.Proofs.Ytkfodhcljknibaa
open Go

theorem getD_bytes (bs : List UInt8) (i : Nat) : (bs.map fun b => (b.toNat : Int)).getD i 0 = ((bs.getD i 0).toNat : Int) := by
  simp only [List.getD, List.getElem?_map]
  cases bs[i]? <;> rfl

def poly : BitVec 32 := 0x82F63B78#32
def st1 (c : BitVec 32) : BitVec 32 := (c >>> 1) ^^^ (if c.getLsbD 0 then poly else 0#32)
def st4 (c : BitVec 32) : BitVec 32 := st1 (st1 (st1 (st1 c)))
def tabI (i : Nat) : BitVec 32 := st4 (BitVec.ofNat 32 i)
def X (b : UInt8) : BitVec 32 := BitVec.ofNat 32 b.toNat

theorem X_eq (b : UInt8) : (b.toNat : Int) = U (X b) := U_ofNat _ (by have := b.toNat_lt; omega)
theorem wrap_X (b : UInt8) : IntKind.u32.wrap (b.toNat : Int) = U (X b) := by rw [wrap_u32 (by omega) (by have := b.toNat_lt; omega), X_eq]

theorem ibit_and_1 (a : BitVec 32) : ibit .and .u32 (U a) 1 = U (a &&& 1#32) := ibit_and_U a 1#32
theorem ibit_and_15 (a : BitVec 32) : ibit .and .u32 (U a) 15 = U (a &&& 15#32) := ibit_and_U a 15#32

theorem and1 (c : BitVec 32) : c &&& 1#32 = if c.getLsbD 0 then 1#32 else 0#32 := by
  apply BitVec.eq_of_toNat_eq
  simp only [BitVec.toNat_and, BitVec.getLsbD, Nat.testBit_zero]
  rw [show (1#32).toNat = 1 from rfl, Nat.and_one_is_mod]
  by_cases h : c.toNat % 2 = 1
  · simp [h]
  · have : c.toNat % 2 = 0 := by omega
    simp [this]

theorem st1_code (c : BitVec 32) : ibit .xor .u32 ((U c).fdiv (2 ^ 1)) (IntKind.u32.wrap (2197175160 * ibit .and .u32 (U c) 1)) = U (st1 c) := by
  rw [ibit_and_1, U_shr, and1]
  unfold st1
  split
  · rw [show IntKind.u32.wrap (2197175160 * U 1#32) = U poly from by decide +kernel, ibit_xor_U]
  · rw [show IntKind.u32.wrap (2197175160 * U 0#32) = U 0#32 from by decide +kernel, ibit_xor_U]

/-! One step is additive -/

theorem st1_xor (a b : BitVec 32) : st1 (a ^^^ b) = st1 a ^^^ st1 b := by
  unfold st1
  have h : (a ^^^ b).getLsbD 0 = (a.getLsbD 0 ^^ b.getLsbD 0) := by simp
  rw [h, BitVec.ushiftRight_xor_distrib]
  cases a.getLsbD 0 <;> cases b.getLsbD 0 <;> simp only [Bool.false_bne, Bool.true_bne, Bool.not_false, Bool.not_true, Bool.false_eq_true, if_true, if_false, BitVec.xor_zero]
  · rw [BitVec.xor_assoc]
  · rw [BitVec.xor_assoc, BitVec.xor_assoc, BitVec.xor_comm poly]
  · rw [BitVec.xor_assoc (a >>> 1) poly, ← BitVec.xor_assoc poly, BitVec.xor_comm poly (b >>> 1), BitVec.xor_assoc (b >>> 1), BitVec.xor_self, BitVec.xor_zero]

theorem st1_even (a : BitVec 32) (h : a.getLsbD 0 = false) : st1 a = a >>> 1 := by unfold st1; rw [h]; simp

theorem st4_xor (a b : BitVec 32) : st4 (a ^^^ b) = st4 a ^^^ st4 b := by unfold st4; rw [st1_xor, st1_xor, st1_xor, st1_xor]

theorem st4_high (a : BitVec 32) (h : ∀ i, i < 4 → a.getLsbD i = false) : st4 a = a >>> 4 := by
  unfold st4
  have g : ∀ k i, (a >>> k).getLsbD i = a.getLsbD (k + i) := fun k i => by simp
  rw [st1_even a (h 0 (by omega)), st1_even (a >>> 1) (by rw [g]; exact h 1 (by omega)), ← BitVec.shiftRight_add, st1_even (a >>> (1 + 1)) (by rw [g]; exact h 2 (by omega)), ← BitVec.shiftRight_add,
    st1_even (a >>> (1 + 1 + 1)) (by rw [g]; exact h 3 (by omega)), ← BitVec.shiftRight_add]

theorem and15 (i : Nat) : (15#32).getLsbD i = decide (i < 4) := by
  by_cases h : i < 4
  · rcases (by omega : i = 0 ∨ i = 1 ∨ i = 2 ∨ i = 3) with rfl | rfl | rfl | rfl <;> rfl
  · have h15 : (15#32).toNat < 2 ^ i := Nat.lt_of_lt_of_le (show 15 < 2 ^ 4 by omega) (Nat.pow_le_pow_right (by omega) (by omega))
    simp only [BitVec.getLsbD, Nat.testBit_lt_two_pow h15, h, decide_false]

/-- Four bits at once, by the table. -/
theorem nib (c : BitVec 32) : st4 c = (c >>> 4) ^^^ tabI (c &&& 15#32).toNat := by
  have h1 : c = (c &&& ~~~15#32) ^^^ (c &&& 15#32) := by
    apply BitVec.eq_of_getLsbD_eq
    intro i hi
    simp only [BitVec.getLsbD_xor, BitVec.getLsbD_and, BitVec.getLsbD_not, hi, decide_true, Bool.true_and]
    cases c.getLsbD i <;> cases (15#32).getLsbD i <;> rfl
  have h2 : st4 (c &&& ~~~15#32) = (c &&& ~~~15#32) >>> 4 := st4_high _ fun i hi => by
    simp only [BitVec.getLsbD_and, BitVec.getLsbD_not, and15]
    simp [hi]
  have h3 : (c &&& ~~~15#32) >>> 4 = c >>> 4 := by
    apply BitVec.eq_of_getLsbD_eq
    intro i hi
    simp only [BitVec.getLsbD_ushiftRight, BitVec.getLsbD_and, BitVec.getLsbD_not, and15]
    by_cases h : 4 + i < 32
    · have : ¬ (4 + i < 4) := by omega
      simp [h]
    · have : c.getLsbD (4 + i) = false := BitVec.getLsbD_of_ge c (4 + i) (by omega)
      simp [this]
  have h4 : tabI (c &&& 15#32).toNat = st4 (c &&& 15#32) := by
    unfold tabI
    rw [BitVec.ofNat_toNat, BitVec.setWidth_eq]
  calc st4 c = st4 ((c &&& ~~~15#32) ^^^ (c &&& 15#32)) := by rw [← h1]
    _ = _ := by rw [st4_xor, h2, h3, h4]

/-- One byte of the program. -/
def byteP (c : BitVec 32) (x : UInt8) : BitVec 32 := st4 (st4 (c ^^^ X x))
def onS (s : BitVec 32) (bs : List UInt8) : BitVec 32 := ~~~ (bs.foldl byteP (~~~ s))
def ofS (bs : List UInt8) : BitVec 32 := onS 0#32 bs

theorem onS_append (a b : List UInt8) (s : BitVec 32) : onS (onS s a) b = onS s (a ++ b) := by
  unfold onS
  simp [List.foldl_append]

/-- One bit of the reference. -/
def bitR (c : BitVec 32) (x : UInt8) (k : Nat) : BitVec 32 := (c >>> 1) ^^^ (if c.getLsbD 0 ^^ (X x).getLsbD k then poly else 0#32)
def bitsR (c : BitVec 32) (x : UInt8) : Nat → BitVec 32
  | 0 => c
  | k + 1 => bitR (bitsR c x k) x k
def byteR (c : BitVec 32) (x : UInt8) : BitVec 32 := bitsR c x 8

def st1n (c : BitVec 32) : Nat → BitVec 32
  | 0 => c
  | k + 1 => st1 (st1n c k)

theorem bits_eq (c : BitVec 32) (x : UInt8) : ∀ k, st1n (c ^^^ X x) k = bitsR c x k ^^^ (X x >>> k)
  | 0 => by simp [st1n, bitsR]
  | k + 1 => by
    simp only [st1n, bitsR, bits_eq c x k, bitR]
    unfold st1
    have h : (bitsR c x k ^^^ X x >>> k).getLsbD 0 = ((bitsR c x k).getLsbD 0 ^^ (X x).getLsbD k) := by simp
    rw [h, BitVec.ushiftRight_xor_distrib, ← BitVec.shiftRight_add, BitVec.xor_assoc, BitVec.xor_assoc]
    congr 1
    rw [BitVec.xor_comm]

theorem byte_eq (c : BitVec 32) (x : UInt8) : byteP c x = byteR c x := by
  have h : byteP c x = st1n (c ^^^ X x) 8 := rfl
  rw [h, bits_eq]
  have h2 : X x >>> 8 = 0#32 := by
    apply BitVec.eq_of_toNat_eq
    have := x.toNat_lt
    simp only [X, BitVec.toNat_ushiftRight, BitVec.toNat_ofNat, Nat.shiftRight_eq_div_pow]
    have h3 : x.toNat % 2 ^ 32 = x.toNat := Nat.mod_eq_of_lt (by omega)
    rw [h3]
    simp
    omega
  rw [h2]
  simp [byteR]

def ofR (bs : List UInt8) : BitVec 32 := ~~~ (bs.foldl byteR (~~~ 0#32))

theorem of_eq (bs : List UInt8) : ofS bs = ofR bs := by
  unfold ofS onS ofR
  have : byteP = byteR := by funext c x; exact byte_eq c x
  rw [this]

theorem not_code (c : BitVec 32) : ibit .xor .u32 (if IntKind.u32.signed then -1 else IntKind.u32.max) (U c) = U (~~~ c) := by
  have h : (if IntKind.u32.signed then -1 else IntKind.u32.max) = U (BitVec.allOnes 32) := by decide +kernel
  rw [h, ibit_xor_U]
  congr 1
end Go.Proofs.Ytkfodhcljknibaa
