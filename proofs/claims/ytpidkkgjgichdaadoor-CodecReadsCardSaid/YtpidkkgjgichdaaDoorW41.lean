/-
  The walks and the laws that the statement leans on, part 41.
-/
import Derived.Test.YtpidkkgjgichdaaDoorW34
import Derived.Test.YtpidkkgjgichdaaDoorW40
namespace Go.Proofs.YtpidkkgjgichdaaDoor
open Go Wi
set_option linter.unusedVariables false
set_option linter.unusedSimpArgs false
theorem rdG_none {Z : List Int} (h : (rdS Z).2 = none) : rdG Z = false := by
  unfold rdG
  rw [h]
  rfl
theorem rdS_X {Z : List Int} : (∀ o z, rrX Z = some (o, z) → rdS Z = (o, some z)) ∧ (rrX Z = none → rdG Z = false) := by
  have hr : rdS Z = rdK (cS 9 (some Z)).1 (cS 9 (some Z)).2 := rfl
  unfold rrX
  cases h0 : nF Z with
  | none =>
    have e : cS 9 (some Z) = (0, none) := rS_bad (by unfold cF; rw [h0])
    refine ⟨fun o z h => (by cases h), fun _ => rdG_none ?_⟩
    rw [hr, e]
    rfl
  | some p =>
    obtain ⟨n, r⟩ := p
    simp only
    by_cases h9 : 9 < n
    · have e : cS 9 (some Z) = (0, none) := rS_bad (by unfold cF; rw [h0]; simp only; rw [if_pos (by omega)])
      rw [if_pos (.inr h9)]
      refine ⟨fun o z h => (by cases h), fun _ => rdG_none ?_⟩
      rw [hr, e]
      rfl
    have e : cS 9 (some Z) = (n, some r) := rS_good (by unfold cF; rw [h0]; simp only; rw [if_neg (by omega)])
    rw [e] at hr
    simp only at hr
    by_cases hn1 : n < 1
    · obtain rfl : n = 0 := by omega
      rw [if_pos (.inl hn1)]
      refine ⟨fun o z h => (by cases h), fun _ => ?_⟩
      unfold rdG
      rw [hr]
      have : gsB (rdK 0 (some r)).1 = false := by
        cases hg : gsB (rdK 0 (some r)).1 with
        | false => rfl
        | true =>
          have := (gs_of hg).1
          simp [rdK] at this
      rw [this, Bool.and_false]
    rw [if_neg (by omega)]
    unfold rdG
    rw [hr]
    clear hr e h0
    have fin : ∀ (x : Oq × Option (List Int)) (y : Option (Oq × List Int)), (∀ o z, y = some (o, z) → x = (o, some z)) → (y = none → x.2 = none) →
        (∀ o z, y = some (o, z) → x = (o, some z)) ∧ (y = none → (decide (x.2 = some []) && gsB x.1) = false) := fun x y h1 h2 => ⟨h1, fun h => by rw [h2 h]; rfl⟩
    refine fin _ _ ?_ ?_
    · intro o z h
      unfold rxK at h
      unfold rdK
      by_cases h1 : n = 1 ∨ n = 6 ∨ n = 7
      · rw [if_pos h1] at h ⊢
        cases e1 : tF 40000 r with
        | none => rw [e1] at h; cases h
        | some p =>
          obtain ⟨l, z'⟩ := p
          rw [e1] at h
          cases h
          rw [show tS 40000 (some r) = (l, some z) from rS_good e1]
      rw [if_neg h1] at h ⊢
      by_cases h2 : n = 2
      · rw [if_pos h2] at h ⊢
        split at h
        · cases h
        rename_i l z1 e1
        split at h
        · cases h
        rename_i i z2 e2
        split at h
        · cases h
        rename_i g z3 e3
        split at h
        · cases h
        rename_i t z4 e4
        cases h
        rw [show tS 40000 (some r) = (l, some z1) from rS_good e1]
        simp only
        rw [show iS (some z1) = (i, some z2) from rS_good e2]
        simp only
        rw [show nS (some z2) = (g, some z3) from rS_good e3]
        simp only
        rw [show nS (some z3) = (t, some z) from rS_good e4]
      rw [if_neg h2] at h ⊢
      by_cases h3 : n = 3
      · rw [if_pos h3] at h ⊢
        cases e1 : iF r with
        | none => rw [e1] at h; cases h
        | some p =>
          obtain ⟨l, z'⟩ := p
          rw [e1] at h
          cases h
          rw [show iS (some r) = (l, some z) from rS_good e1]
      rw [if_neg h3] at h ⊢
      by_cases h4 : n = 4
      · rw [if_pos h4] at h ⊢
        rw [kgS_X]
        cases e1 : kgX r with
        | none => rw [e1] at h; cases h
        | some p =>
          obtain ⟨k, z'⟩ := p
          rw [e1] at h
          simp only at h ⊢
          by_cases hk : krB k = true
          · rw [if_pos hk] at h
            cases h
            rw [if_pos hk]
          · rw [if_neg hk] at h; cases h
      rw [if_neg h4] at h ⊢
      by_cases h5 : n = 5
      · rw [if_pos h5] at h ⊢
        rw [sgS_X]
        cases e1 : sgX r with
        | none => rw [e1] at h; cases h
        | some p =>
          obtain ⟨k, z'⟩ := p
          rw [e1] at h
          simp only at h ⊢
          by_cases hk : srB k = true
          · rw [if_pos hk] at h
            cases h
            rw [if_pos hk]
          · rw [if_neg hk] at h; cases h
      rw [if_neg h5] at h ⊢
      cases h
      rfl
    · intro h
      unfold rxK at h
      unfold rdK
      by_cases h1 : n = 1 ∨ n = 6 ∨ n = 7
      · rw [if_pos h1] at h ⊢
        cases e1 : tF 40000 r with
        | none => rw [show tS 40000 (some r) = ([], none) from rS_bad e1]
        | some p => rw [e1] at h; cases h
      rw [if_neg h1] at h ⊢
      by_cases h2 : n = 2
      · rw [if_pos h2] at h ⊢
        cases e1 : tF 40000 r with
        | none => rw [show tS 40000 (some r) = ([], none) from rS_bad e1]; rfl
        | some p =>
          obtain ⟨l, z1⟩ := p
          rw [e1] at h
          simp only at h
          rw [show tS 40000 (some r) = (l, some z1) from rS_good e1]
          simp only
          cases e2 : iF z1 with
          | none => rw [show iS (some z1) = (0, none) from rS_bad e2]; rfl
          | some p =>
            obtain ⟨i, z2⟩ := p
            rw [e2] at h
            simp only at h
            rw [show iS (some z1) = (i, some z2) from rS_good e2]
            simp only
            cases e3 : nF z2 with
            | none => rw [show nS (some z2) = (0, none) from rS_bad e3]; rfl
            | some p =>
              obtain ⟨g, z3⟩ := p
              rw [e3] at h
              simp only at h
              rw [show nS (some z2) = (g, some z3) from rS_good e3]
              simp only
              cases e4 : nF z3 with
              | none => rw [show nS (some z3) = (0, none) from rS_bad e4]
              | some p => rw [e4] at h; cases h
      rw [if_neg h2] at h ⊢
      by_cases h3 : n = 3
      · rw [if_pos h3] at h ⊢
        cases e1 : iF r with
        | none => rw [show iS (some r) = (0, none) from rS_bad e1]
        | some p => rw [e1] at h; cases h
      rw [if_neg h3] at h ⊢
      by_cases h4 : n = 4
      · rw [if_pos h4] at h ⊢
        rw [kgS_X]
        cases e1 : kgX r with
        | none => rfl
        | some p =>
          obtain ⟨k, z'⟩ := p
          rw [e1] at h
          simp only at h ⊢
          by_cases hk : krB k = true
          · rw [if_pos hk] at h; cases h
          · rw [if_neg hk]
      rw [if_neg h4] at h ⊢
      by_cases h5 : n = 5
      · rw [if_pos h5] at h ⊢
        rw [sgS_X]
        cases e1 : sgX r with
        | none => rfl
        | some p =>
          obtain ⟨k, z'⟩ := p
          rw [e1] at h
          simp only at h ⊢
          by_cases hk : srB k = true
          · rw [if_pos hk] at h; cases h
          · rw [if_neg hk]
      rw [if_neg h5] at h
      cases h
theorem read_was {Z : List Int} (hb : Wi.By Z) : ((rrS Z).2 = false ∧ rdG Z = false) ∨ ∃ o, rrS Z = (o, true) ∧ gsB o = true ∧ Om o ∧ oL o = Z ∧ rdG Z = true ∧ (rdS Z).1 = o ∧ o.tx.size ≤ Z.length := by
  rw [rrS_X]
  cases h : rrX Z with
  | none => exact .inl ⟨rfl, rdS_X.2 h⟩
  | some p =>
    obtain ⟨o, z⟩ := p
    have e := rdS_X.1 _ _ h
    obtain ⟨q1, q2, q3, q4⟩ := rrX_canon hb h
    by_cases hz : z = []
    · subst hz
      rw [List.append_nil] at q3
      refine .inr ⟨o, rfl, q1, q2, q3.symm, ?_, by rw [e], q4⟩
      unfold rdG
      rw [e]
      simp [q1]
    · refine .inl ⟨by simp [oS, hz], ?_⟩
      unfold rdG
      rw [e]
      simp [hz]
end Go.Proofs.YtpidkkgjgichdaaDoor
