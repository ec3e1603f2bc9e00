/-
  The walks and the laws that the statement leans on, part 19.
-/
import Derived.Test.YtpjnhcjfkgjbnaaDoorL18
namespace Go.Proofs.YtpjnhcjfkgjbnaaDoor
open Go
set_option linter.unusedVariables false
set_option linter.unusedSimpArgs false
def bodyB (bs : List UInt8) : List UInt8 := (bs.drop 9).take (lenW bs)
def IsF (bs : List UInt8) : Prop := 10 ≤ bs.length ∧ (bs.getD 0 0).toNat = 245 ∧ lenW bs + 10 ≤ bs.length ∧ (bs.getD (9 + lenW bs) 0).toNat = 95 ∧ wordB 0 ((bs.drop 5).take 4) = ofS (bodyB bs)
instance (bs : List UInt8) : Decidable (IsF bs) := by unfold IsF; infer_instance
theorem list4 {l : List UInt8} (h : l.length = 4) : ∃ a b c d, l = [a, b, c, d] := by
  match l, h with
  | [a, b, c, d], _ => exact ⟨a, b, c, d, rfl⟩
theorem be4_w {l : List UInt8} (h : l.length = 4) : be4 ((wordB 0 l).toNat : Int) = l := by
  obtain ⟨a, b, c, d, rfl⟩ := list4 h
  rw [word4]
  have ha := a.toNat_lt
  have hb := b.toNat_lt
  have hc := c.toNat_lt
  have hd := d.toNat_lt
  unfold be4
  simp only [Int.fdiv_eq_ediv_of_nonneg _ (show (0 : Int) ≤ 16777216 by decide), Int.fdiv_eq_ediv_of_nonneg _ (show (0 : Int) ≤ 65536 by decide), Int.fdiv_eq_ediv_of_nonneg _ (show (0 : Int) ≤ 256 by decide)]
  have e1 : ((((((a.toNat * 256 + b.toNat) * 256 + c.toNat) * 256 + d.toNat : Nat) : Int) / 16777216) % 256).toNat = a.toNat := by omega
  have e2 : ((((((a.toNat * 256 + b.toNat) * 256 + c.toNat) * 256 + d.toNat : Nat) : Int) / 65536) % 256).toNat = b.toNat := by omega
  have e3 : ((((((a.toNat * 256 + b.toNat) * 256 + c.toNat) * 256 + d.toNat : Nat) : Int) / 256) % 256).toNat = c.toNat := by omega
  have e4 : (((((a.toNat * 256 + b.toNat) * 256 + c.toNat) * 256 + d.toNat : Nat) : Int) % 256).toNat = d.toNat := by omega
  rw [e1, e2, e3, e4]
  simp
theorem word_be4U (s : BitVec 32) : wordB 0 (be4 (U s)) = s := by
  apply BitVec.eq_of_toNat_eq
  exact word_be4 s.toNat s.isLt
theorem body_len (bs : List UInt8) (h : lenW bs + 10 ≤ bs.length) : (bodyB bs).length = lenW bs := by simp [bodyB]; omega
theorem take_one (l : List UInt8) (h : 0 < l.length) : l.take 1 = [l.getD 0 0] := by
  cases l with
  | nil => simp at h
  | cons x r => simp
theorem take_frame (bs : List UInt8) (n : Nat) (h : n + 10 ≤ bs.length) : bs.take (n + 10) = bs.getD 0 0 :: ((bs.drop 1).take 4 ++ (bs.drop 5).take 4 ++ (bs.drop 9).take n ++ [bs.getD (9 + n) 0]) := by
  have e1 : bs.take (1 + 4 + 4 + n + 1) = bs.take 1 ++ (bs.drop 1).take 4 ++ (bs.drop (1 + 4)).take 4 ++ (bs.drop (1 + 4 + 4)).take n ++ (bs.drop (1 + 4 + 4 + n)).take 1 := by
    rw [List.take_add, List.take_add, List.take_add, List.take_add]
  rw [show n + 10 = 1 + 4 + 4 + n + 1 by omega, e1, take_one _ (by omega), take_one _ (by simp; omega)]
  have e2 : (bs.drop (1 + 4 + 4 + n)).getD 0 0 = bs.getD (9 + n) 0 := by simp [List.getD]
  rw [e2]
  simp
theorem isF_iff (bs : List UInt8) (h10 : 10 ≤ bs.length) (hn : lenW bs + 10 ≤ bs.length) : frameB (bodyB bs) = bs.take (lenW bs + 10) ↔ IsF bs := by
  rw [take_frame bs _ hn]
  unfold frameB
  have hw1 : be4 ((bodyB bs).length : Int) = (bs.drop 1).take 4 := by
    rw [body_len bs hn]
    exact be4_w (by simp; omega)
  rw [hw1]
  have hw2 : ((bs.drop 5).take 4).length = 4 := by simp; omega
  constructor
  · intro h
    simp only [List.cons.injEq] at h
    obtain ⟨h0, h1⟩ := h
    obtain ⟨h2, h3⟩ := List.append_inj' h1 rfl
    obtain ⟨h4, h5⟩ := List.append_inj' h2 rfl
    have h6 := List.append_cancel_left h4
    refine ⟨h10, ?_, hn, ?_, ?_⟩
    · rw [← h0]; rfl
    · simp at h3; rw [show bs.getD (9 + lenW bs) 0 = 95 by simpa using h3.symm]; rfl
    · rw [← h6, word_be4U]
  · rintro ⟨_, h0, _, h1, h2⟩
    have g0 : bs.getD 0 0 = 245 := UInt8.toNat_inj.1 h0
    have g1 : bs.getD (9 + lenW bs) 0 = 95 := UInt8.toNat_inj.1 h1
    have g2 : be4 (U (ofS (bodyB bs))) = (bs.drop 5).take 4 := by rw [← h2]; exact be4_w hw2
    rw [g0, g1, g2]
    rfl
theorem frame_front (b tail : List UInt8) (hb : b.length < 4294967296) : lenW (frameB b ++ tail) = b.length ∧ bodyB (frameB b ++ tail) = b ∧ IsF (frameB b ++ tail) := by
  have h1 : ((frameB b ++ tail).drop 1).take 4 = be4 b.length := by simp [frameB, be4]
  have h2 : lenW (frameB b ++ tail) = b.length := by unfold lenW; rw [h1, word_be4 _ hb]
  have h3 : bodyB (frameB b ++ tail) = b := by unfold bodyB; rw [h2]; simp [frameB, be4]
  have hl : (frameB b ++ tail).length = b.length + 10 + tail.length := by simp [frame_len]
  refine ⟨h2, h3, (isF_iff _ (by omega) (by omega)).1 ?_⟩
  rw [h2, h3, List.take_append_of_le_length (by rw [frame_len]; omega), List.take_of_length_le (by rw [frame_len]; omega)]
def allF : Nat → List UInt8 → List (List UInt8) × Nat
  | 0, _ => ([], 0)
  | k + 1, bs => if IsF bs then (bodyB bs :: (allF k (bs.drop (lenW bs + 10))).1, lenW bs + 10 + (allF k (bs.drop (lenW bs + 10))).2) else ([], 0)
theorem allF_no (k : Nat) (bs : List UInt8) (h : ¬ IsF bs) : allF k bs = ([], 0) := by
  cases k with
  | zero => rfl
  | succ k => simp [allF, h]
structure AllI (bs : List UInt8) (l : List (List UInt8)) (at_ k : Nat) : Prop where
  eq : allF bs.length bs = (l ++ (allF k (bs.drop at_)).1, at_ + (allF k (bs.drop at_)).2)
  fuel : (bs.drop at_).length ≤ k
  le : at_ ≤ bs.length
  few : l.length * 10 ≤ at_
theorem AllI.init (bs : List UInt8) : AllI bs [] 0 bs.length := ⟨by simp, by simp, by omega, by simp⟩
theorem AllI.step {bs : List UInt8} {l : List (List UInt8)} {at_ k : Nat} (h : AllI bs l at_ k) (hf : IsF (bs.drop at_)) :
    ∃ k', AllI bs (l ++ [bodyB (bs.drop at_)]) (at_ + (lenW (bs.drop at_) + 10)) k' ∧ at_ + (lenW (bs.drop at_) + 10) ≤ bs.length := by
  have h1 := hf.1
  have h2 := hf.2.2.1
  simp only [List.length_drop] at h1 h2
  have hfu := h.fuel
  simp only [List.length_drop] at hfu
  obtain ⟨k', rfl⟩ : ∃ k', k = k' + 1 := ⟨k - 1, by omega⟩
  have he := h.eq
  have hw := h.few
  simp only [allF, if_pos hf, List.drop_drop] at he
  refine ⟨k', ⟨?_, by simp only [List.length_drop]; omega, by omega, by simp; omega⟩, by omega⟩
  rw [he]
  simp [Nat.add_assoc]
theorem AllI.stop {bs : List UInt8} {l : List (List UInt8)} {at_ k : Nat} (h : AllI bs l at_ k) (hf : ¬ IsF (bs.drop at_)) : l = (allF bs.length bs).1 ∧ at_ = (allF bs.length bs).2 := by
  have he := h.eq
  rw [allF_no _ _ hf] at he
  rw [he]
  simp
def rowsA (l : List (List UInt8)) : List AV := l.map fun x => .slz .u8 (ub x)
theorem rowsA_len (l : List (List UInt8)) : (rowsA l).length = l.length := by simp [rowsA]
theorem rowsA_get (l : List (List UInt8)) (i : Nat) (h : i < l.length) : (rowsA l).getD i .any = .slz .u8 (ub (l.getD i [])) := by simp [rowsA, List.getD, h]
theorem rowsA_snoc (l : List (List UInt8)) (x : List UInt8) : rowsA l ++ [.slz .u8 (ub x)] = rowsA (l ++ [x]) := by simp [rowsA]
theorem rowsA_one (l : List (List UInt8)) : (rowsA l).all oneC = true := by
  rw [List.all_eq_true]
  intro y hy
  obtain ⟨z, _, rfl⟩ := List.mem_map.1 hy
  rfl
theorem bstr_ub (bs : List UInt8) : bstr (ub bs) = ⟨bs.toArray⟩ := by
  unfold bstr ub
  congr 2
  rw [List.map_map]
  have : ((fun n : Int => UInt8.ofNat n.toNat) ∘ fun b : UInt8 => (b.toNat : Int)) = id := by
    funext b
    simp
  rw [this]
  simp
theorem bstr_list (bs : List UInt8) : (bstr (ub bs)).toList = bs := by
  rw [bstr_ub, ByteArray.toList_mk]
end Go.Proofs.YtpjnhcjfkgjbnaaDoor
