/-
  The walks and the laws that the statement leans on, part 38.
-/
import Derived.Test.YtpidkkgjgichdaaDoorW18
import Derived.Test.YtpidkkgjgichdaaDoorW27
import Derived.Test.YtpidkkgjgichdaaDoorW37
namespace Go.Proofs.YtpidkkgjgichdaaDoor.Wi
open Go
set_option linter.unusedVariables false
set_option linter.unusedSimpArgs false
theorem gF16_canon {zs r : List Int} {s : Int} {n : Nat} (hb : By zs) (h : gF 16 zs = some (s, n, r)) : (s = 0 ∨ s = 16) ∧ zs = putL s n ++ r := by
  cases zs with
  | nil => cases h
  | cons c t =>
    have hc := hb c (List.mem_cons_self ..)
    obtain ⟨m, rfl⟩ := Int.eq_ofNat_of_zero_le hc.1
    obtain ⟨k, s', hk, a1, a2, hke, hse, _, _⟩ := and256 m (by omega)
    simp only [gF, a1, a2, Int.toNat_natCast] at h
    split at h
    · cases h
    rename_i hg
    simp only [Option.some.injEq, Prod.mk.injEq] at h
    obtain ⟨rfl, rfl, rfl⟩ := h
    have hbt := hb.tail.take k
    have hlen : (t.take k).length = k := by simp; omega
    have hs := valL_size hbt (by
      by_cases h0 : k = 0
      · subst h0; left; rfl
      · right
        intro h1
        have : (t.take k).getD 0 0 = t.getD 0 0 := by
          simp only [List.getD_eq_getElem?_getD]
          rw [List.getElem?_take_of_lt (by omega)]
        rw [this] at h1
        exact hg (.inr (.inr ⟨by omega, h1⟩)))
    have hv := byteL_valL hbt
    rw [hlen] at hs hv
    by_cases hbit : m / 16 % 2 = 1
    · rw [if_pos hbit] at hke hse
      refine ⟨.inr (by rw [hse]; rfl), ?_⟩
      unfold putL
      rw [← hs, hv, hse]
      have := or16 k (by omega)
      rw [show ((16 : Nat) : Int) = 16 from rfl, this, List.cons_append, List.take_append_drop]
      congr 1
      omega
    · rw [if_neg hbit] at hke hse
      refine ⟨.inl (by rw [hse]; rfl), ?_⟩
      unfold putL
      rw [← hs, hv, hse]
      have := or0 k (by omega)
      rw [show ((0 : Nat) : Int) = 0 from rfl, this, List.cons_append, List.take_append_drop]
      congr 1
      omega
theorem iF_canon {zs r : List Int} {i : Int} (hb : By zs) (h : iF zs = some (i, r)) : zs = intL i ++ r := by
  unfold iF at h
  cases hg : gF 16 zs with
  | none => rw [hg] at h; cases h
  | some q =>
    obtain ⟨s, n, r'⟩ := q
    rw [hg] at h
    simp only at h
    split at h
    · cases h
    rename_i hc
    simp only [Option.some.injEq, Prod.mk.injEq] at h
    obtain ⟨rfl, rfl⟩ := h
    obtain ⟨hs, e⟩ := gF16_canon hb hg
    rw [e]
    congr 1
    unfold intL
    rcases hs with rfl | rfl
    · rw [if_neg (show ¬ ((0 : Int) ≠ 0) by decide), if_neg (by omega), Int.toNat_natCast]
    · rw [if_pos (show (16 : Int) ≠ 0 by decide), if_pos (by omega)]
      congr 1
      omega
theorem cF_canon {zs r : List Int} {m : Int} {n : Nat} (hb : By zs) (h : cF m zs = some (n, r)) : zs = putL 0 n ++ r ∧ (n : Int) ≤ m := by
  unfold cF at h
  cases hn : nF zs with
  | none => rw [hn] at h; cases h
  | some q =>
    obtain ⟨n', r'⟩ := q
    rw [hn] at h
    simp only at h
    split at h
    · cases h
    · cases h
      exact ⟨nF_canon hb hn, by omega⟩
theorem strL_bstr {l : List Int} (hb : By l) : strL (bstr l) = l := by
  unfold strL bstr
  simp only [List.map_map]
  have : l.map ((fun b : UInt8 => (b.toNat : Int)) ∘ fun n : Int => UInt8.ofNat n.toNat) = l.map id := List.map_congr_left fun x hx => by
    have := hb x hx
    simp only [Function.comp, id]
    rw [UInt8.toNat_ofNat', Nat.mod_eq_of_lt (by omega)]
    omega
  rw [this, List.map_id]
theorem tF_canon {zs l r : List Int} {m : Int} (hb : By zs) (h : tF m zs = some (l, r)) : zs = putL 0 (bstr l).size ++ strL (bstr l) ++ r ∧ ((bstr l).size : Int) ≤ m ∧ (bstr l).size ≤ zs.length ∧ By l := by
  unfold tF at h
  cases hn : cF m zs with
  | none => rw [hn] at h; cases h
  | some q =>
    obtain ⟨n, r'⟩ := q
    rw [hn] at h
    simp only at h
    split at h
    · cases h
    rename_i hlt
    cases h
    obtain ⟨e, hm⟩ := cF_canon hb hn
    have hb' : By r' := fun x hx => hb x (by rw [e]; exact List.mem_append_right _ hx)
    have hsz : (bstr (r'.take n)).size = n := by
      have : (bstr (r'.take n)).size = (r'.take n).length := by simp [bstr, ByteArray.size]
      rw [this, List.length_take]; omega
    refine ⟨?_, by rw [hsz]; exact hm, ?_, hb'.take n⟩
    · rw [hsz, strL_bstr (hb'.take n), List.append_assoc, List.take_append_drop]
      exact e
    · rw [hsz, e, List.length_append]; omega
theorem fF_canon {zs r : List Int} {f : Bool} (hb : By zs) (h : fF zs = some (f, r)) : zs = [if f then 1 else 0] ++ r := by
  cases zs with
  | nil => cases h
  | cons c t =>
    have hc := hb c (List.mem_cons_self ..)
    simp only [fF] at h
    split at h
    · cases h
    rename_i h1
    cases h
    have : c = 0 ∨ c = 1 := by omega
    rcases this with rfl | rfl <;> rfl
end Go.Proofs.YtpidkkgjgichdaaDoor.Wi
namespace Go.Proofs.YtpidkkgjgichdaaDoor
open Go Wi
set_option linter.unusedVariables false
set_option linter.unusedSimpArgs false
theorem rF_size {zs : List Int} (hb : By zs) : ∀ d i, zs.length - i ≤ d → zs.length - i ≤ 4 * (rF zs i).length
  | 0, i, h => by omega
  | d + 1, i, h => by
    by_cases hi : i < zs.length
    · have h1 := elR_in hb hi
      have h2 := elR_w zs i
      rw [rF_step hi, List.length_cons]
      have := rF_size hb d (i + (elR zs i).2) (by omega)
      omega
    · omega
theorem rn_size {zs : List Int} (hb : By zs) : zs.length ≤ 4 * (rn zs).length := by
  have := rF_size hb zs.length 0 (by omega)
  rw [rF_zero] at this
  omega
theorem bs_len (s : ByteArray) : (bs s).length = s.size := by
  obtain ⟨e, hb⟩ := s_bstr s
  conv => rhs; rw [e, bstr_size]
open Classical in
theorem nmS_size {s : ByteArray} (h : nmS s = true) : s.size ≤ 96 := by
  obtain ⟨e, hb⟩ := s_bstr s
  have := rn_size hb
  have hl := bs_len s
  unfold nmS nmB at h
  have h := (of_decide_eq_true h).2.1
  have hl : (ub s.data.toList).length = s.size := hl
  omega
theorem glB_size {s : ByteArray} (h : glB s = true) : s.size ≤ 160 := by
  obtain ⟨e, hb⟩ := s_bstr s
  have := rn_size hb
  have hl : (ub s.data.toList).length = s.size := bs_len s
  unfold glB at h
  simp only [Bool.and_eq_true, decide_eq_true_eq] at h
  have h := h.2.2
  have h : ((rn (ub s.data.toList)).length : Int) ≤ 40 := h
  omega
theorem kr_bd {k : Ky} (h : krB k = true) : k.g.size ≤ 96 ∧ k.r.size ≤ 96 ∧ 0 < k.e ∧ k.e ≤ 4611686018427387904 := by
  unfold krB at h
  simp only [Bool.and_eq_true, decide_eq_true_eq] at h
  exact ⟨nmS_size h.1, nmS_size h.2.1, h.2.2.1, h.2.2.2⟩
theorem sr_bd {s : Sl} (h : srB s = true) : s.nm.size ≤ 96 ∧ s.gl.size ≤ 160 ∧ (0 ≤ s.w ∧ s.w ≤ 2) ∧ 0 ≤ s.f ∧ s.f < s.t ∧ s.t ≤ 253402300799 := by
  unfold srB at h
  simp only [Bool.and_eq_true, decide_eq_true_eq] at h
  exact ⟨nmS_size h.1, glB_size h.2.1, h.2.2.1, h.2.2.2.1, h.2.2.2.2.1, h.2.2.2.2.2⟩
theorem by_app {a b : List Int} (h : Wi.By (a ++ b)) : Wi.By b := fun x hx => h x (List.mem_append_right _ hx)
theorem kgX_canon {zs r : List Int} {k : Ky} (hb : Wi.By zs) (h : kgX zs = some (k, r)) : zs = kL k ++ r := by
  unfold kgX at h
  split at h
  · cases h
  rename_i g z1 e1
  split at h
  · cases h
  rename_i rr z2 e2
  split at h
  · cases h
  rename_i p z3 e3
  split at h
  · cases h
  rename_i e z4 e4
  split at h
  · cases h
  rename_i s z5 e5
  cases h
  have q1 := (tF_canon hb e1).1
  have b1 : Wi.By z1 := by_app (q1 ▸ hb)
  have q2 := (tF_canon b1 e2).1
  have b2 : Wi.By z2 := by_app (q2 ▸ b1)
  have q3 := fF_canon b2 e3
  have b3 : Wi.By z3 := by_app (q3 ▸ b2)
  have q4 := nF_canon b3 e4
  have b4 : Wi.By z4 := by_app (q4 ▸ b3)
  have q5 := fF_canon b4 e5
  rw [q1, q2, q3, q4, q5]
  simp [kL, txL]
theorem sgX_canon {zs r : List Int} {k : Sl} (hb : Wi.By zs) (h : sgX zs = some (k, r)) : zs = sL k ++ r := by
  unfold sgX at h
  split at h
  · cases h
  rename_i g z1 e1
  split at h
  · cases h
  rename_i rr z2 e2
  split at h
  · cases h
  rename_i p z3 e3
  split at h
  · cases h
  rename_i e z4 e4
  split at h
  · cases h
  rename_i s z5 e5
  cases h
  have q1 := (tF_canon hb e1).1
  have b1 : Wi.By z1 := by_app (q1 ▸ hb)
  have q2 := (tF_canon b1 e2).1
  have b2 : Wi.By z2 := by_app (q2 ▸ b1)
  have q3 := iF_canon b2 e3
  have b3 : Wi.By z3 := by_app (q3 ▸ b2)
  have q4 := iF_canon b3 e4
  have b4 : Wi.By z4 := by_app (q4 ▸ b3)
  have q5 := iF_canon b4 e5
  rw [q1, q2, q3, q4, q5]
  simp [sL, txL]
theorem kgS_X (zs : List Int) : kgS (some zs) = (match kgX zs with
    | none => (k0, none)
    | some (k, r) => if krB k = true then (k, some r) else (k0, none)) := by
  unfold kgS kgX
  cases e1 : tF 96 zs with
  | none => rw [show tS 96 (some zs) = ([], none) from rS_bad e1]; rfl
  | some p =>
    obtain ⟨g, z1⟩ := p
    rw [show tS 96 (some zs) = (g, some z1) from rS_good e1]
    simp only
    cases e2 : tF 96 z1 with
    | none => rw [show tS 96 (some z1) = ([], none) from rS_bad e2]; rfl
    | some p =>
      obtain ⟨r, z2⟩ := p
      rw [show tS 96 (some z1) = (r, some z2) from rS_good e2]
      simp only
      cases e3 : fF z2 with
      | none => rw [show fS (some z2) = (false, none) from rS_bad e3]; rfl
      | some p =>
        obtain ⟨p, z3⟩ := p
        rw [show fS (some z2) = (p, some z3) from rS_good e3]
        simp only
        cases e4 : nF z3 with
        | none => rw [show nS (some z3) = (0, none) from rS_bad e4]; rfl
        | some p' =>
          obtain ⟨e, z4⟩ := p'
          rw [show nS (some z3) = (e, some z4) from rS_good e4]
          simp only
          cases e5 : fF z4 with
          | none => rw [show fS (some z4) = (false, none) from rS_bad e5]; rfl
          | some p' =>
            obtain ⟨s, z5⟩ := p'
            rw [show fS (some z4) = (s, some z5) from rS_good e5]
            simp only [Option.isSome_some, Bool.true_and]
theorem sgS_X (zs : List Int) : sgS (some zs) = (match sgX zs with
    | none => (s0, none)
    | some (k, r) => if srB k = true then (k, some r) else (s0, none)) := by
  unfold sgS sgX
  cases e1 : tF 160 zs with
  | none => rw [show tS 160 (some zs) = ([], none) from rS_bad e1]; rfl
  | some p =>
    obtain ⟨g, z1⟩ := p
    rw [show tS 160 (some zs) = (g, some z1) from rS_good e1]
    simp only
    cases e2 : tF 160 z1 with
    | none => rw [show tS 160 (some z1) = ([], none) from rS_bad e2]; rfl
    | some p =>
      obtain ⟨r, z2⟩ := p
      rw [show tS 160 (some z1) = (r, some z2) from rS_good e2]
      simp only
      cases e3 : iF z2 with
      | none => rw [show iS (some z2) = (0, none) from rS_bad e3]; rfl
      | some p =>
        obtain ⟨p, z3⟩ := p
        rw [show iS (some z2) = (p, some z3) from rS_good e3]
        simp only
        cases e4 : iF z3 with
        | none => rw [show iS (some z3) = (0, none) from rS_bad e4]; rfl
        | some p' =>
          obtain ⟨e, z4⟩ := p'
          rw [show iS (some z3) = (e, some z4) from rS_good e4]
          simp only
          cases e5 : iF z4 with
          | none => rw [show iS (some z4) = (0, none) from rS_bad e5]; rfl
          | some p' =>
            obtain ⟨s, z5⟩ := p'
            rw [show iS (some z4) = (s, some z5) from rS_good e5]
            simp only [Option.isSome_some, Bool.true_and]
end Go.Proofs.YtpidkkgjgichdaaDoor
