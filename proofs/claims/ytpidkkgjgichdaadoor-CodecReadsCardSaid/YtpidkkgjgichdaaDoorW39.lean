/-
  The walks and the laws that the statement leans on, part 39.
-/
import Derived.Test.YtpidkkgjgichdaaDoorW38
namespace Go.Proofs.YtpidkkgjgichdaaDoor
open Go Wi
set_option linter.unusedVariables false
set_option linter.unusedSimpArgs false
noncomputable def rxK (n : Nat) (r : List Int) : Option (Oq × List Int) :=
  if n = 1 ∨ n = 6 ∨ n = 7 then (match tF 40000 r with
    | none => none
    | some (l, z) => some (⟨n, bstr l, 0, 0, 0, k0, s0⟩, z))
  else if n = 2 then (match tF 40000 r with
    | none => none
    | some (l, z1) => match iF z1 with
      | none => none
      | some (i, z2) => match nF z2 with
        | none => none
        | some (g, z3) => match nF z3 with
          | none => none
          | some (t, z) => some (⟨2, bstr l, i, (g : Nat), (t : Nat), k0, s0⟩, z))
  else if n = 3 then (match iF r with
    | none => none
    | some (i, z) => some (⟨3, ⟨#[]⟩, i, 0, 0, k0, s0⟩, z))
  else if n = 4 then (match kgX r with
    | none => none
    | some (k, z) => if krB k = true then some (⟨4, ⟨#[]⟩, 0, 0, 0, k, s0⟩, z) else none)
  else if n = 5 then (match sgX r with
    | none => none
    | some (s, z) => if srB s = true then some (⟨5, ⟨#[]⟩, 0, 0, 0, k0, s⟩, z) else none)
  else some (⟨n, ⟨#[]⟩, 0, 0, 0, k0, s0⟩, r)
noncomputable def rrX (Z : List Int) : Option (Oq × List Int) :=
  match nF Z with
  | none => none
  | some (n, r) => if n < 1 ∨ 9 < n then none else rxK n r
def oS (x : Option (Oq × List Int)) : Oq × Bool := match x with
  | none => (o0, false)
  | some (o, z) => (o, decide (z = []))
theorem rrS_X (Z : List Int) : rrS Z = oS (rrX Z) := by
  unfold rrS rrX
  cases nF Z with
  | none => rfl
  | some p =>
    obtain ⟨n, r⟩ := p
    simp only
    by_cases hn : n < 1 ∨ 9 < n
    · rw [if_pos hn, if_pos hn]; rfl
    rw [if_neg hn, if_neg hn]
    unfold rrK rxK
    by_cases h1 : n = 1 ∨ n = 6 ∨ n = 7
    · rw [if_pos h1, if_pos h1]
      cases tF 40000 r with
      | none => rfl
      | some p => rfl
    rw [if_neg h1, if_neg h1]
    by_cases h2 : n = 2
    · rw [if_pos h2, if_pos h2]
      cases tF 40000 r with
      | none => rfl
      | some p =>
        obtain ⟨l, z1⟩ := p
        simp only
        cases iF z1 with
        | none => rfl
        | some p =>
          obtain ⟨i, z2⟩ := p
          simp only
          cases nF z2 with
          | none => rfl
          | some p =>
            obtain ⟨g, z3⟩ := p
            simp only
            cases nF z3 with
            | none => rfl
            | some p => rfl
    rw [if_neg h2, if_neg h2]
    by_cases h3 : n = 3
    · rw [if_pos h3, if_pos h3]
      cases iF r with
      | none => rfl
      | some p => rfl
    rw [if_neg h3, if_neg h3]
    by_cases h4 : n = 4
    · rw [if_pos h4, if_pos h4]
      cases kgX r with
      | none => rfl
      | some p =>
        obtain ⟨k, z⟩ := p
        simp only
        cases krB k <;> rfl
    rw [if_neg h4, if_neg h4]
    by_cases h5 : n = 5
    · rw [if_pos h5, if_pos h5]
      cases sgX r with
      | none => rfl
      | some p =>
        obtain ⟨k, z⟩ := p
        simp only
        cases srB k <;> rfl
    rw [if_neg h5, if_neg h5]
    rfl
structure Om (o : Oq) : Prop where
  a : -9223372036854775808 ≤ o.a ∧ o.a ≤ 9223372036854775807
  g : 0 ≤ o.g ∧ o.g ≤ 18446744073709551615
  t : 0 ≤ o.t ∧ o.t ≤ 18446744073709551615
theorem gs_of {o : Oq} (h : gsB o = true) : (1 ≤ o.kd ∧ o.kd ≤ 9) ∧ usF o = o ∧ o.tx.size ≤ 40000 ∧ (o.kd = 4 → krB o.k = true) ∧ (o.kd = 5 → srB o.s = true) := by
  unfold gsB rtB at h
  simp only [Bool.and_eq_true, decide_eq_true_eq, Bool.or_eq_true, Bool.not_eq_true', beq_eq_false_iff_ne, oqB_iff] at h
  obtain ⟨⟨h1, h2, h3⟩, h4, h5, h6⟩ := h
  exact ⟨⟨h1, h2⟩, h3, h4, fun e => h5.resolve_left (fun h => h e), fun e => h6.resolve_left (fun h => h e)⟩
theorem gs_mk {o : Oq} (h1 : 1 ≤ o.kd ∧ o.kd ≤ 9) (h2 : usF o = o) (h3 : o.tx.size ≤ 40000) (h4 : o.kd = 4 → krB o.k = true) (h5 : o.kd = 5 → srB o.s = true) : gsB o = true := by
  unfold gsB rtB
  simp only [Bool.and_eq_true, decide_eq_true_eq, Bool.or_eq_true, Bool.not_eq_true', beq_eq_false_iff_ne, oqB_iff]
  refine ⟨⟨h1.1, h1.2, h2⟩, h3, ?_, ?_⟩
  · by_cases e : o.kd = 4
    · exact .inr (h4 e)
    · exact .inl e
  · by_cases e : o.kd = 5
    · exact .inr (h5 e)
    · exact .inl e
theorem rrX_canon {Z z : List Int} {o : Oq} (hb : Wi.By Z) (h : rrX Z = some (o, z)) : gsB o = true ∧ Om o ∧ Z = oL o ++ z ∧ o.tx.size ≤ Z.length := by
  unfold rrX at h
  cases h0 : nF Z with
  | none => rw [h0] at h; cases h
  | some p =>
    obtain ⟨n, r⟩ := p
    rw [h0] at h
    simp only at h
    by_cases hn : n < 1 ∨ 9 < n
    · rw [if_pos hn] at h; cases h
    rw [if_neg hn] at h
    have hZ := nF_canon hb h0
    have hbr : Wi.By r := by_app (hZ ▸ hb)
    have hrl : r.length ≤ Z.length := by rw [hZ, List.length_append]; omega
    have z0 : ∀ {a : Int}, -9223372036854775808 ≤ a ∧ a ≤ 9223372036854775807 → ∀ {n : Int} {tx : ByteArray} {k : Ky} {s : Sl}, Om ⟨n, tx, a, 0, 0, k, s⟩ := fun ha => ⟨ha, by simp, by simp⟩
    have txt : ∀ n : Nat, (n = 1 ∨ n = 6 ∨ n = 7) → (match tF 40000 r with | none => none | some (l, z) => some ((⟨n, bstr l, 0, 0, 0, k0, s0⟩ : Oq), z)) = some (o, z) → Z = putL 0 n ++ r → gsB o = true ∧ Om o ∧ Z = oL o ++ z ∧ o.tx.size ≤ Z.length := by
      intro n hn h hZ
      cases e1 : tF 40000 r with
      | none => rw [e1] at h; cases h
      | some p =>
        obtain ⟨l, z'⟩ := p
        rw [e1] at h
        cases h
        obtain ⟨q1, q2, q3, q4⟩ := tF_canon hbr e1
        have hq : oL ⟨n, bstr l, 0, 0, 0, k0, s0⟩ = putL 0 n ++ txL (bstr l) := by
          rcases hn with rfl | rfl | rfl <;> simp [oL, txK, atK]
        refine ⟨gs_mk (by simp only; omega) ?_ (by simp only; omega) (fun e => by simp only at e; omega) (fun e => by simp only at e; omega), z0 (by simp), ?_, by simp only; omega⟩
        · rcases hn with rfl | rfl | rfl <;> rfl
        · rw [hq, hZ, List.append_assoc]
          congr 1
    match n, (show 1 ≤ n ∧ n ≤ 9 by omega) with
    | 1, _ => exact txt 1 (by omega) h hZ
    | 6, _ => exact txt 6 (by omega) h hZ
    | 7, _ => exact txt 7 (by omega) h hZ
    | 8, _ =>
      cases h
      exact ⟨gs_mk (by simp) rfl (by simp only; decide) (fun e => by simp at e) (fun e => by simp at e), z0 (by simp), by rw [hZ]; simp [oL, txK, atK], Nat.zero_le _⟩
    | 9, _ =>
      cases h
      exact ⟨gs_mk (by simp) rfl (by simp only; decide) (fun e => by simp at e) (fun e => by simp at e), z0 (by simp), by rw [hZ]; simp [oL, txK, atK], Nat.zero_le _⟩
    | 3, _ =>
      have h : (match iF r with | none => none | some (i, z) => some ((⟨3, ⟨#[]⟩, i, 0, 0, k0, s0⟩ : Oq), z)) = some (o, z) := h
      cases e1 : iF r with
      | none => rw [e1] at h; cases h
      | some p =>
        obtain ⟨i, z'⟩ := p
        rw [e1] at h
        cases h
        have q1 := iF_canon hbr e1
        have q2 := iF_bd hbr e1
        refine ⟨gs_mk (by simp) rfl (by simp only; decide) (fun e => by simp at e) (fun e => by simp at e), z0 q2, ?_, Nat.zero_le _⟩
        rw [hZ, q1]; simp [oL, txK, atK]
    | 2, _ =>
      have h : (match tF 40000 r with
        | none => none
        | some (l, z1) => match iF z1 with
          | none => none
          | some (i, z2) => match nF z2 with
            | none => none
            | some (g, z3) => match nF z3 with
              | none => none
              | some (t, z) => some ((⟨2, bstr l, i, (g : Nat), (t : Nat), k0, s0⟩ : Oq), z)) = some (o, z) := h
      split at h
      · cases h
      rename_i l z1 e1
      split at h
      · cases h
      rename_i i z2 e2
      split at h
      · cases h
      rename_i g z3 e3
      split at h
      · cases h
      rename_i t z4 e4
      cases h
      obtain ⟨q1, q1b, q1c, q1d⟩ := tF_canon hbr e1
      have b1 : Wi.By z1 := by_app (q1 ▸ hbr)
      have q2 := iF_canon b1 e2
      have q2b := iF_bd b1 e2
      have b2 : Wi.By z2 := by_app (q2 ▸ b1)
      have q3 := nF_canon b2 e3
      have q3b := (nF_bd b2 e3).1
      have b3 : Wi.By z3 := by_app (q3 ▸ b2)
      have q4 := nF_canon b3 e4
      have q4b := (nF_bd b3 e4).1
      refine ⟨gs_mk (by simp) rfl (by simp only; omega) (fun e => by simp at e) (fun e => by simp at e), ⟨q2b, by simp only; omega, by simp only; omega⟩, ?_, by simp only; omega⟩
      rw [hZ, q1, q2, q3, q4]
      simp [oL, txK, atK, txL]
    | 4, _ =>
      have h : (match kgX r with | none => none | some (k, z) => if krB k = true then some ((⟨4, ⟨#[]⟩, 0, 0, 0, k, s0⟩ : Oq), z) else none) = some (o, z) := h
      cases e1 : kgX r with
      | none => rw [e1] at h; cases h
      | some p =>
        obtain ⟨k, z'⟩ := p
        rw [e1] at h
        simp only at h
        by_cases hk : krB k = true
        · rw [if_pos hk] at h
          cases h
          refine ⟨gs_mk (by simp) rfl (by simp only; decide) (fun _ => hk) (fun e => by simp at e), z0 (by simp), ?_, Nat.zero_le _⟩
          rw [hZ, kgX_canon hbr e1]; simp [oL, txK, atK]
        · rw [if_neg hk] at h; cases h
    | 5, _ =>
      have h : (match sgX r with | none => none | some (k, z) => if srB k = true then some ((⟨5, ⟨#[]⟩, 0, 0, 0, k0, k⟩ : Oq), z) else none) = some (o, z) := h
      cases e1 : sgX r with
      | none => rw [e1] at h; cases h
      | some p =>
        obtain ⟨k, z'⟩ := p
        rw [e1] at h
        simp only at h
        by_cases hk : srB k = true
        · rw [if_pos hk] at h
          cases h
          refine ⟨gs_mk (by simp) rfl (by simp only; decide) (fun e => by simp at e) (fun _ => hk), z0 (by simp), ?_, Nat.zero_le _⟩
          rw [hZ, sgX_canon hbr e1]; simp [oL, txK, atK]
        · rw [if_neg hk] at h; cases h
end Go.Proofs.YtpidkkgjgichdaaDoor
