/-
  The walks and the laws that the statement leans on, part 50.
-/
import Derived.Test.YtmbecppmkglmhaaDoorC48
import Derived.Test.YtmbecppmkglmhaaDoorC49
namespace Go.Proofs.YtmbecppmkglmhaaDoor
open Go Wi
set_option linter.unusedVariables false
set_option linter.unusedSimpArgs false
theorem slV_nil (D : List Int) (k : Nat) (h : (slV D k).1 = 0) : (slV D k).2 = [] := by
  unfold slV at h ⊢
  cases hn : nF D with
  | none => rfl
  | some p =>
    obtain ⟨n, q⟩ := p
    rw [hn] at h
    simp only at h ⊢
    split
    · rfl
    · rename_i h2
      rw [if_neg h2] at h
      exact absurd (Or.inl h) h2
theorem slF_nil (R : Bs) (k : Nat) (h : (slF R k).1 = 0) : (slF R k).2 = [] := by
  unfold slF at h ⊢
  split
  · rename_i hF; rw [if_pos hF] at h; exact slV_nil _ _ h
  · rfl
theorem slF_len (R : Bs) (k : Nat) : (slF R k).2.length ≤ R.length := by
  unfold slF
  split
  · unfold slV
    cases hn : nF (ub (bodyB R)) with
    | none => simp
    | some p =>
      obtain ⟨n, q⟩ := p
      have h1 := (nF_bd (by_ub _) hn).2.2.1
      rw [ub_len] at h1
      have h2 : (bodyB R).length ≤ R.length := by unfold bodyB; rw [List.length_take, List.length_drop]; omega
      simp only
      split
      · simp
      · simp only; omega
  · simp
theorem slE_slN (A B : Nat × List Int) (hA : A.1 = 0 → A.2 = []) : slE A B 2 = slN A B := by
  have : slN (0, []) A = A := by
    unfold slN
    simp only
    split
    · rfl
    · rename_i h
      have h0 : A.1 = 0 := by omega
      obtain ⟨n, q⟩ := A
      simp only at h0 hA ⊢
      rw [h0, hA h0]
  show slN (slN (0, []) A) B = _
  rw [this]
theorem cfE_slN (W : Bs) (m s : Nat) : cfE W m s = slN (slF ((W.drop (0 * s)).take (m * s)) 0) (slF ((W.drop ((0 + m) * s)).take (m * s)) 1) := slE_slN _ _ (slF_nil _ _)
theorem cfE_nil (W : Bs) (m s : Nat) (h : (cfE W m s).1 = 0) : (cfE W m s).2 = [] := by
  rw [cfE_slN] at h ⊢
  unfold slN at h ⊢
  split
  · rename_i h1; rw [if_pos h1] at h; exact slF_nil _ _ h
  · rename_i h1; rw [if_neg h1] at h; exact slF_nil _ _ h
theorem cfE_len (W : Bs) (m s : Nat) : (cfE W m s).2.length ≤ m * s := by
  rw [cfE_slN]
  unfold slN
  split
  · exact Nat.le_trans (slF_len _ _) (by rw [List.length_take]; omega)
  · exact Nat.le_trans (slF_len _ _) (by rw [List.length_take]; omega)
theorem cfE_cong {W W' : Bs} (m s : Nat) (h : W'.take (2 * m * s) = W.take (2 * m * s)) : cfE W' m s = cfE W m s := by
  have hm : m * s + m * s = 2 * m * s := by rw [Nat.mul_assoc, Nat.two_mul]
  have e0 : ∀ V : Bs, (V.drop (0 * s)).take (m * s) = (V.take (2 * m * s)).take (m * s) := fun V => by
    rw [Nat.zero_mul, List.drop_zero, List.take_take, Nat.min_eq_left (by omega)]
  have e1 : ∀ V : Bs, (V.drop ((0 + m) * s)).take (m * s) = (V.take (2 * m * s)).drop (m * s) := fun V => by
    rw [Nat.zero_add, List.drop_take, ← hm, Nat.add_sub_cancel_left]
  unfold cfE
  rw [e0 W, e0 W', e1 W, e1 W', h]
theorem cf_again {W R4 : Bs} {s : Nat} (hW : W.length = 10 * s) (hR4 : R4.length = 3 * s) :
    let W' := W.take (cfF W 10 2 s * s) ++ (R4 ++ W.drop ((cfF W 10 2 s + 3) * s))
    W'.length = 10 * s ∧ W'.take (4 * s) = W.take (4 * s) ∧ cfE W' 2 s = cfE W 2 s ∧ cfF W' 10 2 s = cfF W 10 2 s ∧ cfR W' 10 2 s = R4 ∧ W'.take (cfF W 10 2 s * s) = W.take (cfF W 10 2 s * s) ∧ W'.drop ((cfF W 10 2 s + 3) * s) = W.drop ((cfF W 10 2 s + 3) * s) := by
  intro W'
  obtain ⟨h1, -⟩ := cfF_le W 10 2 s (by omega)
  have h4 : 4 ≤ cfF W 10 2 s := by unfold cfF; omega
  change cfF W 10 2 s + 3 ≤ 10 at h1
  obtain ⟨f, hf⟩ : ∃ f, f = cfF W 10 2 s := ⟨_, rfl⟩
  have hf2 : f = 2 * 2 + (cfE W 2 s).1 % 2 * cfN 10 2 := hf
  have hW' : W' = W.take (f * s) ++ (R4 ++ W.drop ((f + 3) * s)) := by rw [hf]
  rw [← hf] at h1 h4 ⊢
  have m1 := Nat.mul_le_mul_right s h1
  have m2 := Nat.mul_le_mul_right s h4
  rw [Nat.add_mul] at m1
  have lP : (W.take (f * s)).length = f * s := by rw [List.length_take]; omega
  have t4 : W'.take (4 * s) = W.take (4 * s) := by
    rw [hW', List.take_append_of_le_length (by omega), List.take_take, Nat.min_eq_left (by omega)]
  have eE : cfE W' 2 s = cfE W 2 s := cfE_cong 2 s t4
  have eF : cfF W' 10 2 s = f := by unfold cfF; rw [eE]; exact hf2.symm
  refine ⟨?_, t4, eE, eF, ?_, ?_, ?_⟩
  · rw [hW', List.length_append, List.length_append, lP, hR4, List.length_drop, Nat.add_mul]; omega
  · unfold cfR
    have e1 := List.drop_left (l₁ := W.take (f * s)) (l₂ := R4 ++ W.drop ((f + 3) * s))
    rw [lP] at e1
    rw [eF, hW', e1, show cfN 10 2 * s = R4.length from by rw [hR4]; rfl, List.take_left]
  · rw [hW']
    have := List.take_left (l₁ := W.take (f * s)) (l₂ := R4 ++ W.drop ((f + 3) * s))
    rwa [lP] at this
  · have e1 := List.drop_left (l₁ := W.take (f * s) ++ R4) (l₂ := W.drop ((f + 3) * s))
    rw [List.append_assoc, List.length_append, lP, hR4, ← Nat.add_mul] at e1
    rw [hW']; exact e1
theorem ext_ub (W : Bs) (i j : Nat) : (bstr (ub W)).extract i j = bstr (ub ((W.drop i).take (j - i))) := by
  rw [bstr_ext, ub_map, ub_map, List.map_take, List.map_drop, List.drop_take]
end Go.Proofs.YtmbecppmkglmhaaDoor
