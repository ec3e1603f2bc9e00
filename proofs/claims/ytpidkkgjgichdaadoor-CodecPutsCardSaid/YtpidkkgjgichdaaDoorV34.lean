/-
  The walks and the laws that the statement leans on, part 34.
-/
import Derived.Test.YtpidkkgjgichdaaDoorV17
import Derived.Test.YtpidkkgjgichdaaDoorV24
import Derived.Test.YtpidkkgjgichdaaDoorV33
namespace Go.Proofs.YtpidkkgjgichdaaDoor.Wi
open Go
set_option linter.unusedVariables false
set_option linter.unusedSimpArgs false
theorem gF16_put (sg : Bool) (n : Nat) (rest : List Int) (hn : n < 18446744073709551616) : gF 16 (putL (if sg then 16 else 0) n ++ rest) = some (if sg then 16 else 0, n, rest) := by
  obtain ⟨k, hk, hk9, h0, h16⟩ := putL0 n hn
  have a := and16 k hk9
  have hlt : n < 256 ^ k := size_le.1 (Nat.le_of_eq hk.symm)
  have hlb := byteL_len n k
  have hz : ¬ (0 < k ∧ (byteL n k ++ rest).getD 0 0 = 0) := by
    rintro ⟨h0, h1⟩
    have e : (byteL n k ++ rest).getD 0 0 = ((n / 256 ^ (k - 1 - 0) % 256 : Nat) : Int) := by
      rw [← byteL_at n k 0 h0]
      simp only [List.getD_eq_getElem?_getD]
      rw [List.getElem?_append_left (by omega)]
    have hge : 256 ^ (k - 1) ≤ n := by
      apply Classical.byContradiction; intro hc
      have := size_le.2 (show n < 256 ^ (k - 1) by omega)
      omega
    have hne := byteL_hd (k := k - 1) (by rw [show k - 1 + 1 = k by omega]; exact hlt) hge
    rw [e, Nat.sub_zero] at h1
    exact hne (by exact_mod_cast h1)
  have hcond : ¬ (8 < k ∨ (byteL n k ++ rest).length < k ∨ 0 < k ∧ (byteL n k ++ rest).getD 0 0 = 0) := by
    rintro (h1 | h1 | h1)
    · omega
    · rw [List.length_append] at h1; omega
    · exact hz h1
  cases sg
  · simp only [Bool.false_eq_true, if_false]
    rw [h0, List.cons_append]
    simp only [gF, a.2.2.2.1, a.2.2.1, Int.toNat_natCast]
    rw [if_neg hcond, List.take_left' hlb, List.drop_left' hlb, valL_byteL, Nat.mod_eq_of_lt hlt]
  · simp only [if_true]
    rw [h16, List.cons_append]
    simp only [gF, a.2.1, a.1, Int.toNat_natCast]
    rw [if_neg hcond, List.take_left' hlb, List.drop_left' hlb, valL_byteL, Nat.mod_eq_of_lt hlt]
theorem iF_put (i : Int) (rest : List Int) (h1 : -9223372036854775808 ≤ i) (h2 : i ≤ 9223372036854775807) : iF (intL i ++ rest) = some (i, rest) := by
  unfold intL
  by_cases h : i < 0
  · rw [if_pos h]
    have e := gF16_put true (-i).toNat rest (by omega)
    simp only [if_true] at e
    unfold iF
    rw [e]
    simp only
    rw [if_neg (by omega), if_pos (by decide)]
    simp only [Option.some.injEq, Prod.mk.injEq, and_true]
    omega
  · rw [if_neg h]
    have e := gF16_put false i.toNat rest (by omega)
    simp only [Bool.false_eq_true, if_false] at e
    unfold iF
    rw [e]
    simp only
    rw [if_neg (by omega), if_neg (by decide)]
    simp only [Option.some.injEq, Prod.mk.injEq, and_true]
    omega
theorem cF_put (n m : Nat) (rest : List Int) (hn : n < 18446744073709551616) (hm : n ≤ m) : cF m (putL 0 n ++ rest) = some (n, rest) := by
  unfold cF
  rw [nF_put n rest hn]
  simp only
  rw [if_neg (by omega)]
theorem tF_put (s : ByteArray) (m : Nat) (rest : List Int) (hs : s.size ≤ m) (hm : m ≤ 1000000) : tF m (putL 0 s.size ++ strL s ++ rest) = some (strL s, rest) := by
  unfold tF
  rw [List.append_assoc, cF_put s.size m _ (by omega) hs]
  have hl := strL_len s
  simp only
  rw [if_neg (by rw [List.length_append]; omega), List.take_left' hl, List.drop_left' hl]
theorem fF_put (f : Bool) (rest : List Int) : fF ([if f then 1 else 0] ++ rest) = some (f, rest) := by
  cases f
  · show (if (1 : Int) < 0 then none else some (((0 : Int) == 1), rest)) = _
    rw [if_neg (by decide)]; rfl
  · show (if (1 : Int) < 1 then none else some (((1 : Int) == 1), rest)) = _
    rw [if_neg (by decide)]; rfl
end Go.Proofs.YtpidkkgjgichdaaDoor.Wi
namespace Go.Proofs.YtpidkkgjgichdaaDoor
open Go Wi
set_option linter.unusedVariables false
set_option linter.unusedSimpArgs false
theorem rF_size {zs : List Int} (hb : By zs) : ∀ d i, zs.length - i ≤ d → zs.length - i ≤ 4 * (rF zs i).length
  | 0, i, h => by omega
  | d + 1, i, h => by
    by_cases hi : i < zs.length
    · have h1 := elR_in hb hi
      have h2 := elR_w zs i
      rw [rF_step hi, List.length_cons]
      have := rF_size hb d (i + (elR zs i).2) (by omega)
      omega
    · omega
theorem rn_size {zs : List Int} (hb : By zs) : zs.length ≤ 4 * (rn zs).length := by
  have := rF_size hb zs.length 0 (by omega)
  rw [rF_zero] at this
  omega
theorem bs_len (s : ByteArray) : (bs s).length = s.size := by
  obtain ⟨e, hb⟩ := s_bstr s
  conv => rhs; rw [e, bstr_size]
open Classical in
theorem nmS_size {s : ByteArray} (h : nmS s = true) : s.size ≤ 96 := by
  obtain ⟨e, hb⟩ := s_bstr s
  have := rn_size hb
  have hl := bs_len s
  unfold nmS nmB at h
  have h := (of_decide_eq_true h).2.1
  have hl : (ub s.data.toList).length = s.size := hl
  omega
theorem glB_size {s : ByteArray} (h : glB s = true) : s.size ≤ 160 := by
  obtain ⟨e, hb⟩ := s_bstr s
  have := rn_size hb
  have hl : (ub s.data.toList).length = s.size := bs_len s
  unfold glB at h
  simp only [Bool.and_eq_true, decide_eq_true_eq] at h
  have h := h.2.2
  have h : ((rn (ub s.data.toList)).length : Int) ≤ 40 := h
  omega
theorem kr_bd {k : Ky} (h : krB k = true) : k.g.size ≤ 96 ∧ k.r.size ≤ 96 ∧ 0 < k.e ∧ k.e ≤ 4611686018427387904 := by
  unfold krB at h
  simp only [Bool.and_eq_true, decide_eq_true_eq] at h
  exact ⟨nmS_size h.1, nmS_size h.2.1, h.2.2.1, h.2.2.2⟩
theorem sr_bd {s : Sl} (h : srB s = true) : s.nm.size ≤ 96 ∧ s.gl.size ≤ 160 ∧ (0 ≤ s.w ∧ s.w ≤ 2) ∧ 0 ≤ s.f ∧ s.f < s.t ∧ s.t ≤ 253402300799 := by
  unfold srB at h
  simp only [Bool.and_eq_true, decide_eq_true_eq] at h
  exact ⟨nmS_size h.1, glB_size h.2.1, h.2.2.1, h.2.2.2.1, h.2.2.2.2.1, h.2.2.2.2.2⟩
theorem kgX_put {k : Ky} (h : krB k = true) (rest : List Int) : kgX (kL k ++ rest) = some (k, rest) := by
  obtain ⟨h1, h2, h3, h4⟩ := kr_bd h
  obtain ⟨g, r, p, e, s⟩ := k
  simp only at h1 h2 h3 h4
  obtain ⟨e, rfl⟩ := Int.eq_ofNat_of_zero_le (show 0 ≤ e by omega)
  have e0 : kL ⟨g, r, p, (e : Int), s⟩ ++ rest = putL 0 g.size ++ strL g ++ (putL 0 r.size ++ strL r ++ ([if p then 1 else 0] ++ (putL 0 e ++ ([if s then 1 else 0] ++ rest)))) := by simp [kL, txL]
  rw [e0]
  unfold kgX
  have p1 : ∀ X, tF 96 (putL 0 g.size ++ strL g ++ X) = some (strL g, X) := fun X => tF_put g 96 X h1 (by omega)
  have p2 : ∀ X, tF 96 (putL 0 r.size ++ strL r ++ X) = some (strL r, X) := fun X => tF_put r 96 X h2 (by omega)
  rw [p1]
  simp only
  rw [p2]
  simp only
  rw [fF_put]
  simp only
  rw [nF_put e _ (by omega)]
  simp only
  rw [fF_put]
  simp only [bstr_strL]
theorem sgX_put {k : Sl} (h : srB k = true) (rest : List Int) : sgX (sL k ++ rest) = some (k, rest) := by
  obtain ⟨h1, h2, h3, h4, h5, h6⟩ := sr_bd h
  obtain ⟨g, r, w, f, t⟩ := k
  simp only at h1 h2 h3 h4 h5 h6
  have e0 : sL ⟨g, r, w, f, t⟩ ++ rest = putL 0 g.size ++ strL g ++ (putL 0 r.size ++ strL r ++ (intL w ++ (intL f ++ (intL t ++ rest)))) := by simp [sL, txL]
  rw [e0]
  unfold sgX
  have p1 : ∀ X, tF 160 (putL 0 g.size ++ strL g ++ X) = some (strL g, X) := fun X => tF_put g 160 X (by omega) (by omega)
  have p2 : ∀ X, tF 160 (putL 0 r.size ++ strL r ++ X) = some (strL r, X) := fun X => tF_put r 160 X h2 (by omega)
  rw [p1]
  simp only
  rw [p2]
  simp only
  rw [iF_put w _ (by omega) (by omega)]
  simp only
  rw [iF_put f _ (by omega) (by omega)]
  simp only
  rw [iF_put t _ (by omega) (by omega)]
  simp only [bstr_strL]
theorem kgS_X (zs : List Int) : kgS (some zs) = (match kgX zs with
    | none => (k0, none)
    | some (k, r) => if krB k = true then (k, some r) else (k0, none)) := by
  unfold kgS kgX
  cases e1 : tF 96 zs with
  | none => rw [show tS 96 (some zs) = ([], none) from rS_bad e1]; rfl
  | some p =>
    obtain ⟨g, z1⟩ := p
    rw [show tS 96 (some zs) = (g, some z1) from rS_good e1]
    simp only
    cases e2 : tF 96 z1 with
    | none => rw [show tS 96 (some z1) = ([], none) from rS_bad e2]; rfl
    | some p =>
      obtain ⟨r, z2⟩ := p
      rw [show tS 96 (some z1) = (r, some z2) from rS_good e2]
      simp only
      cases e3 : fF z2 with
      | none => rw [show fS (some z2) = (false, none) from rS_bad e3]; rfl
      | some p =>
        obtain ⟨p, z3⟩ := p
        rw [show fS (some z2) = (p, some z3) from rS_good e3]
        simp only
        cases e4 : nF z3 with
        | none => rw [show nS (some z3) = (0, none) from rS_bad e4]; rfl
        | some p' =>
          obtain ⟨e, z4⟩ := p'
          rw [show nS (some z3) = (e, some z4) from rS_good e4]
          simp only
          cases e5 : fF z4 with
          | none => rw [show fS (some z4) = (false, none) from rS_bad e5]; rfl
          | some p' =>
            obtain ⟨s, z5⟩ := p'
            rw [show fS (some z4) = (s, some z5) from rS_good e5]
            simp only [Option.isSome_some, Bool.true_and]
theorem sgS_X (zs : List Int) : sgS (some zs) = (match sgX zs with
    | none => (s0, none)
    | some (k, r) => if srB k = true then (k, some r) else (s0, none)) := by
  unfold sgS sgX
  cases e1 : tF 160 zs with
  | none => rw [show tS 160 (some zs) = ([], none) from rS_bad e1]; rfl
  | some p =>
    obtain ⟨g, z1⟩ := p
    rw [show tS 160 (some zs) = (g, some z1) from rS_good e1]
    simp only
    cases e2 : tF 160 z1 with
    | none => rw [show tS 160 (some z1) = ([], none) from rS_bad e2]; rfl
    | some p =>
      obtain ⟨r, z2⟩ := p
      rw [show tS 160 (some z1) = (r, some z2) from rS_good e2]
      simp only
      cases e3 : iF z2 with
      | none => rw [show iS (some z2) = (0, none) from rS_bad e3]; rfl
      | some p =>
        obtain ⟨p, z3⟩ := p
        rw [show iS (some z2) = (p, some z3) from rS_good e3]
        simp only
        cases e4 : iF z3 with
        | none => rw [show iS (some z3) = (0, none) from rS_bad e4]; rfl
        | some p' =>
          obtain ⟨e, z4⟩ := p'
          rw [show iS (some z3) = (e, some z4) from rS_good e4]
          simp only
          cases e5 : iF z4 with
          | none => rw [show iS (some z4) = (0, none) from rS_bad e5]; rfl
          | some p' =>
            obtain ⟨s, z5⟩ := p'
            rw [show iS (some z4) = (s, some z5) from rS_good e5]
            simp only [Option.isSome_some, Bool.true_and]
end Go.Proofs.YtpidkkgjgichdaaDoor
