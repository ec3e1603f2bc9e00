/-
  The walks and the laws that the statement leans on, part 37.
-/
import Derived.Test.YtpidkkgjgichdaaDoorV31
import Derived.Test.YtpidkkgjgichdaaDoorV36
namespace Go.Proofs.YtpidkkgjgichdaaDoor
open Go Wi
set_option linter.unusedVariables false
set_option linter.unusedSimpArgs false
theorem rdG_none {Z : List Int} (h : (rdS Z).2 = none) : rdG Z = false := by
  unfold rdG
  rw [h]
  rfl
theorem rdS_X {Z : List Int} : (∀ o z, rrX Z = some (o, z) → rdS Z = (o, some z)) ∧ (rrX Z = none → rdG Z = false) := by
  have hr : rdS Z = rdK (cS 9 (some Z)).1 (cS 9 (some Z)).2 := rfl
  unfold rrX
  cases h0 : nF Z with
  | none =>
    have e : cS 9 (some Z) = (0, none) := rS_bad (by unfold cF; rw [h0])
    refine ⟨fun o z h => (by cases h), fun _ => rdG_none ?_⟩
    rw [hr, e]
    rfl
  | some p =>
    obtain ⟨n, r⟩ := p
    simp only
    by_cases h9 : 9 < n
    · have e : cS 9 (some Z) = (0, none) := rS_bad (by unfold cF; rw [h0]; simp only; rw [if_pos (by omega)])
      rw [if_pos (.inr h9)]
      refine ⟨fun o z h => (by cases h), fun _ => rdG_none ?_⟩
      rw [hr, e]
      rfl
    have e : cS 9 (some Z) = (n, some r) := rS_good (by unfold cF; rw [h0]; simp only; rw [if_neg (by omega)])
    rw [e] at hr
    simp only at hr
    by_cases hn1 : n < 1
    · obtain rfl : n = 0 := by omega
      rw [if_pos (.inl hn1)]
      refine ⟨fun o z h => (by cases h), fun _ => ?_⟩
      unfold rdG
      rw [hr]
      have : gsB (rdK 0 (some r)).1 = false := by
        cases hg : gsB (rdK 0 (some r)).1 with
        | false => rfl
        | true =>
          have := (gs_of hg).1
          simp [rdK] at this
      rw [this, Bool.and_false]
    rw [if_neg (by omega)]
    unfold rdG
    rw [hr]
    clear hr e h0
    have fin : ∀ (x : Oq × Option (List Int)) (y : Option (Oq × List Int)), (∀ o z, y = some (o, z) → x = (o, some z)) → (y = none → x.2 = none) →
        (∀ o z, y = some (o, z) → x = (o, some z)) ∧ (y = none → (decide (x.2 = some []) && gsB x.1) = false) := fun x y h1 h2 => ⟨h1, fun h => by rw [h2 h]; rfl⟩
    refine fin _ _ ?_ ?_
    · intro o z h
      unfold rxK at h
      unfold rdK
      by_cases h1 : n = 1 ∨ n = 6 ∨ n = 7
      · rw [if_pos h1] at h ⊢
        cases e1 : tF 40000 r with
        | none => rw [e1] at h; cases h
        | some p =>
          obtain ⟨l, z'⟩ := p
          rw [e1] at h
          cases h
          rw [show tS 40000 (some r) = (l, some z) from rS_good e1]
      rw [if_neg h1] at h ⊢
      by_cases h2 : n = 2
      · rw [if_pos h2] at h ⊢
        split at h
        · cases h
        rename_i l z1 e1
        split at h
        · cases h
        rename_i i z2 e2
        split at h
        · cases h
        rename_i g z3 e3
        split at h
        · cases h
        rename_i t z4 e4
        cases h
        rw [show tS 40000 (some r) = (l, some z1) from rS_good e1]
        simp only
        rw [show iS (some z1) = (i, some z2) from rS_good e2]
        simp only
        rw [show nS (some z2) = (g, some z3) from rS_good e3]
        simp only
        rw [show nS (some z3) = (t, some z) from rS_good e4]
      rw [if_neg h2] at h ⊢
      by_cases h3 : n = 3
      · rw [if_pos h3] at h ⊢
        cases e1 : iF r with
        | none => rw [e1] at h; cases h
        | some p =>
          obtain ⟨l, z'⟩ := p
          rw [e1] at h
          cases h
          rw [show iS (some r) = (l, some z) from rS_good e1]
      rw [if_neg h3] at h ⊢
      by_cases h4 : n = 4
      · rw [if_pos h4] at h ⊢
        rw [kgS_X]
        cases e1 : kgX r with
        | none => rw [e1] at h; cases h
        | some p =>
          obtain ⟨k, z'⟩ := p
          rw [e1] at h
          simp only at h ⊢
          by_cases hk : krB k = true
          · rw [if_pos hk] at h
            cases h
            rw [if_pos hk]
          · rw [if_neg hk] at h; cases h
      rw [if_neg h4] at h ⊢
      by_cases h5 : n = 5
      · rw [if_pos h5] at h ⊢
        rw [sgS_X]
        cases e1 : sgX r with
        | none => rw [e1] at h; cases h
        | some p =>
          obtain ⟨k, z'⟩ := p
          rw [e1] at h
          simp only at h ⊢
          by_cases hk : srB k = true
          · rw [if_pos hk] at h
            cases h
            rw [if_pos hk]
          · rw [if_neg hk] at h; cases h
      rw [if_neg h5] at h ⊢
      cases h
      rfl
    · intro h
      unfold rxK at h
      unfold rdK
      by_cases h1 : n = 1 ∨ n = 6 ∨ n = 7
      · rw [if_pos h1] at h ⊢
        cases e1 : tF 40000 r with
        | none => rw [show tS 40000 (some r) = ([], none) from rS_bad e1]
        | some p => rw [e1] at h; cases h
      rw [if_neg h1] at h ⊢
      by_cases h2 : n = 2
      · rw [if_pos h2] at h ⊢
        cases e1 : tF 40000 r with
        | none => rw [show tS 40000 (some r) = ([], none) from rS_bad e1]; rfl
        | some p =>
          obtain ⟨l, z1⟩ := p
          rw [e1] at h
          simp only at h
          rw [show tS 40000 (some r) = (l, some z1) from rS_good e1]
          simp only
          cases e2 : iF z1 with
          | none => rw [show iS (some z1) = (0, none) from rS_bad e2]; rfl
          | some p =>
            obtain ⟨i, z2⟩ := p
            rw [e2] at h
            simp only at h
            rw [show iS (some z1) = (i, some z2) from rS_good e2]
            simp only
            cases e3 : nF z2 with
            | none => rw [show nS (some z2) = (0, none) from rS_bad e3]; rfl
            | some p =>
              obtain ⟨g, z3⟩ := p
              rw [e3] at h
              simp only at h
              rw [show nS (some z2) = (g, some z3) from rS_good e3]
              simp only
              cases e4 : nF z3 with
              | none => rw [show nS (some z3) = (0, none) from rS_bad e4]
              | some p => rw [e4] at h; cases h
      rw [if_neg h2] at h ⊢
      by_cases h3 : n = 3
      · rw [if_pos h3] at h ⊢
        cases e1 : iF r with
        | none => rw [show iS (some r) = (0, none) from rS_bad e1]
        | some p => rw [e1] at h; cases h
      rw [if_neg h3] at h ⊢
      by_cases h4 : n = 4
      · rw [if_pos h4] at h ⊢
        rw [kgS_X]
        cases e1 : kgX r with
        | none => rfl
        | some p =>
          obtain ⟨k, z'⟩ := p
          rw [e1] at h
          simp only at h ⊢
          by_cases hk : krB k = true
          · rw [if_pos hk] at h; cases h
          · rw [if_neg hk]
      rw [if_neg h4] at h ⊢
      by_cases h5 : n = 5
      · rw [if_pos h5] at h ⊢
        rw [sgS_X]
        cases e1 : sgX r with
        | none => rfl
        | some p =>
          obtain ⟨k, z'⟩ := p
          rw [e1] at h
          simp only at h ⊢
          by_cases hk : srB k = true
          · rw [if_pos hk] at h; cases h
          · rw [if_neg hk]
      rw [if_neg h5] at h
      cases h
theorem read_put {o : Oq} (hg : gsB o = true) (hm : Om o) : rdG (oL o) = true ∧ (rdS (oL o)).1 = o := by
  have h := rrX_put hg hm []
  rw [List.append_nil] at h
  have e := rdS_X.1 _ _ h
  unfold rdG
  rw [e]
  exact ⟨by simp [hg], rfl⟩
theorem rput_ct (o : Oq) (hg : gsB o = true) (hw : Ow o) : ACt Tryd.prog 14 [ov o] [] (Row .u8 5 (oL o)) := by
  obtain ⟨⟨h1, h2⟩, -⟩ := gs_of hg
  obtain ⟨hz, hx, -, ha, hG, hT, hK, hS⟩ := hw
  obtain ⟨kd, tx, a, g, t, k, s⟩ := o
  simp only at h1 h2 hx ha hG hT hK hS
  have hk : kd = 1 ∨ kd = 2 ∨ kd = 3 ∨ kd = 4 ∨ kd = 5 ∨ kd = 6 ∨ kd = 7 ∨ kd = 8 ∨ kd = 9 := by omega
  have e : ∀ {L M : List Int}, L = M → ACt Tryd.prog 14 [ov ⟨kd, tx, a, g, t, k, s⟩] [] (Row .u8 5 M) → ACt Tryd.prog 14 [ov ⟨kd, tx, a, g, t, k, s⟩] [] (Row .u8 5 L) := fun h h2 => by rw [h]; exact h2
  rcases hk with rfl | rfl | rfl | rfl | rfl | rfl | rfl | rfl | rfl
  · exact e (by simp [oL, txK, atK]) (rput_1 tx a g t k s hx)
  · obtain ⟨g, rfl⟩ := Int.eq_ofNat_of_zero_le hG.1
    obtain ⟨t, rfl⟩ := Int.eq_ofNat_of_zero_le hT.1
    exact e (by simp [oL, txK, atK]) (rput_2 tx a g t k s hx ha (by omega) (by omega))
  · exact e (by simp [oL, txK, atK]) (rput_3 tx a g t k s ha)
  · exact e (by simp [oL, txK, atK]) (rput_4 tx a g t k s hK)
  · exact e (by simp [oL, txK, atK]) (rput_5 tx a g t k s hS)
  · exact e (by simp [oL, txK, atK]) (rput_6 tx a g t k s hx)
  · exact e (by simp [oL, txK, atK]) (rput_7 tx a g t k s hx)
  · exact e (by simp [oL, txK, atK]) (rput_8 tx a g t k s)
  · exact e (by simp [oL, txK, atK]) (rput_9 tx a g t k s)
theorem cput_row (n0 n1 b cap : Nat) (zs : List Int) (o : Oq) (hz : zs.length ≤ 10) (h1 : zs.length ≤ cap) (h2 : cap ≤ 9223372036854775807) (hg : gsB o = true) (hw : Ow o) :
    ACt Tryd.prog 9 [ms b 0 zs.length cap, ov o] [(b, .zs .u8 zs cap 5), (0, .zs .u8 fsZ 256 n0), (1, .zs .u8 acZ 32 n1)] (RowT (zs ++ oL o) n0 n1) := by
  have cG := goes_ct o n0 n1 (.inl hw.z)
  rw [hg] at cG
  obtain ⟨⟨g1, g2⟩, -⟩ := gs_of hg
  obtain ⟨hzz, hx, -, ha, hG, hT, hK, hS⟩ := hw
  obtain ⟨kd, tx, a, g, t, k, s⟩ := o
  simp only at g1 g2 hx ha hG hT hK hS
  have hk : kd = 1 ∨ kd = 2 ∨ kd = 3 ∨ kd = 4 ∨ kd = 5 ∨ kd = 6 ∨ kd = 7 ∨ kd = 8 ∨ kd = 9 := by omega
  have e : ∀ {L M : List Int}, L = M → ∀ {r F'}, RowT M n0 n1 r F' → RowT L n0 n1 r F' := fun h _ _ h2 => by rw [h]; exact h2
  rcases hk with rfl | rfl | rfl | rfl | rfl | rfl | rfl | rfl | rfl
  · exact (cput_r1 n0 n1 fsZ acZ b cap zs tx a g t k s hz h1 h2 hx cG).mono fun r F' h => e (by simp [oL, txK, atK]) h
  · obtain ⟨g, rfl⟩ := Int.eq_ofNat_of_zero_le hG.1
    obtain ⟨t, rfl⟩ := Int.eq_ofNat_of_zero_le hT.1
    exact (cput_r2 n0 n1 fsZ acZ b cap zs tx a g t k s hz h1 h2 hx ha (by omega) (by omega) cG).mono fun r F' h => e (by simp [oL, txK, atK]) h
  · exact (cput_r3 n0 n1 fsZ acZ b cap zs tx a g t k s hz h1 h2 ha cG).mono fun r F' h => e (by simp [oL, txK, atK]) h
  · exact (cput_r4 n0 n1 fsZ acZ b cap zs tx a g t k s hz h1 h2 hK cG).mono fun r F' h => e (by simp [oL, txK, atK]) h
  · exact (cput_r5 n0 n1 fsZ acZ b cap zs tx a g t k s hz h1 h2 hS cG).mono fun r F' h => e (by simp [oL, txK, atK]) h
  · exact (cput_r6 n0 n1 fsZ acZ b cap zs tx a g t k s hz h1 h2 hx cG).mono fun r F' h => e (by simp [oL, txK, atK]) h
  · exact (cput_r7 n0 n1 fsZ acZ b cap zs tx a g t k s hz h1 h2 hx cG).mono fun r F' h => e (by simp [oL, txK, atK]) h
  · exact (cput_r8 n0 n1 fsZ acZ b cap zs tx a g t k s hz h1 h2 cG).mono fun r F' h => e (by simp [oL, txK, atK]) h
  · exact (cput_r9 n0 n1 fsZ acZ b cap zs tx a g t k s hz h1 h2 cG).mono fun r F' h => e (by simp [oL, txK, atK]) h
end Go.Proofs.YtpidkkgjgichdaaDoor
