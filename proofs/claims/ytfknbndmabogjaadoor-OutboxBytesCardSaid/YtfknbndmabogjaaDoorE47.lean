/-
  The walks and the laws that the statement leans on, part 47.
-/
import Derived.Test.YtfknbndmabogjaaDoorE41
import Derived.Test.YtfknbndmabogjaaDoorE46
namespace Go.Proofs.YtfknbndmabogjaaDoor
open Go Wi
set_option linter.unusedVariables false
set_option linter.unusedSimpArgs false
theorem rnF_size {zs : List Int} (hb : By zs) : ∀ f i, zs.length - i ≤ f → zs.length - i ≤ 4 * (rnF zs f i).length
  | 0, i, h => by omega
  | f + 1, i, h => by
    rw [rnF_succ]
    by_cases hi : i < zs.length
    · obtain ⟨r, w, -, -, ⟨e, h1, h2, h3⟩ | ⟨e, -, hw⟩⟩ := el_dec hb hi
      · have := rnF_size hb f (i + (elR zs i).2) (by rw [e]; simp only; omega)
        rw [if_pos hi, List.length_cons]
        rw [e] at this ⊢
        simp only at this ⊢
        omega
      · have := rnF_size hb f (i + (elR zs i).2) (by rw [e]; simp only; omega)
        rw [if_pos hi, List.length_cons]
        rw [e] at this ⊢
        simp only at this ⊢
        omega
    · omega
theorem rn_size {zs : List Int} (hb : By zs) : zs.length ≤ 4 * (rn zs).length := by
  have := rnF_size hb zs.length 0 (by omega)
  unfold rn
  omega
abbrev bs (s : ByteArray) : List Int := ub s.data.toList
theorem bs_len (s : ByteArray) : (bs s).length = s.size := by
  obtain ⟨e, hb⟩ := s_bstr s
  conv => rhs; rw [e, bstr_size]
open Classical in
theorem nmS_size {s : ByteArray} (h : nmS s = true) : s.size ≤ 96 := by
  obtain ⟨e, hb⟩ := s_bstr s
  have := rn_size hb
  have hl := bs_len s
  unfold nmS nmB at h
  have h := (of_decide_eq_true h).2.1
  have hl : (ub s.data.toList).length = s.size := hl
  omega
theorem kr_bd {k : Ky} (h : krB k = true) : k.g.size ≤ 96 ∧ k.r.size ≤ 96 ∧ 0 < k.e ∧ k.e ≤ 4611686018427387904 := by
  unfold krB at h
  simp only [Bool.and_eq_true, decide_eq_true_eq] at h
  exact ⟨nmS_size h.1, nmS_size h.2.1, h.2.2.1, h.2.2.2⟩
theorem kgX_put {k : Ky} (h : krB k = true) (rest : List Int) : kgX (kL k ++ rest) = some (k, rest) := by
  obtain ⟨h1, h2, h3, h4⟩ := kr_bd h
  obtain ⟨g, r, p, e, s⟩ := k
  simp only at h1 h2 h3 h4
  obtain ⟨e, rfl⟩ := Int.eq_ofNat_of_zero_le (show 0 ≤ e by omega)
  have e0 : kL ⟨g, r, p, (e : Int), s⟩ ++ rest = putL 0 g.size ++ strL g ++ (putL 0 r.size ++ strL r ++ ([if p then 1 else 0] ++ (putL 0 e ++ ([if s then 1 else 0] ++ rest)))) := by simp [kL, txL]
  rw [e0]
  unfold kgX
  have p1 : ∀ X, tF 96 (putL 0 g.size ++ strL g ++ X) = some (strL g, X) := fun X => tF_put g 96 X h1 (by omega)
  have p2 : ∀ X, tF 96 (putL 0 r.size ++ strL r ++ X) = some (strL r, X) := fun X => tF_put r 96 X h2 (by omega)
  rw [p1]
  simp only
  rw [p2]
  simp only
  rw [fF_put]
  simp only
  rw [nF_put e _ (by omega)]
  simp only
  rw [fF_put]
  simp only [bstr_strL]
theorem kgS_X (zs : List Int) : kgS (some zs) = (match kgX zs with
    | none => (k0, none)
    | some (k, r) => if krB k = true then (k, some r) else (k0, none)) := by
  unfold kgS kgX
  cases e1 : tF 96 zs with
  | none => rw [show tS 96 (some zs) = ([], none) from rS_bad e1]; rfl
  | some p =>
    obtain ⟨g, z1⟩ := p
    rw [show tS 96 (some zs) = (g, some z1) from rS_good e1]
    simp only
    cases e2 : tF 96 z1 with
    | none => rw [show tS 96 (some z1) = ([], none) from rS_bad e2]; rfl
    | some p =>
      obtain ⟨r, z2⟩ := p
      rw [show tS 96 (some z1) = (r, some z2) from rS_good e2]
      simp only
      cases e3 : fF z2 with
      | none => rw [show fS (some z2) = (false, none) from rS_bad e3]; rfl
      | some p =>
        obtain ⟨p, z3⟩ := p
        rw [show fS (some z2) = (p, some z3) from rS_good e3]
        simp only
        cases e4 : nF z3 with
        | none => rw [show nS (some z3) = (0, none) from rS_bad e4]; rfl
        | some p' =>
          obtain ⟨e, z4⟩ := p'
          rw [show nS (some z3) = (e, some z4) from rS_good e4]
          simp only
          cases e5 : fF z4 with
          | none => rw [show fS (some z4) = (false, none) from rS_bad e5]; rfl
          | some p' =>
            obtain ⟨s, z5⟩ := p'
            rw [show fS (some z4) = (s, some z5) from rS_good e5]
            simp only [Option.isSome_some, Bool.true_and]
end Go.Proofs.YtfknbndmabogjaaDoor
