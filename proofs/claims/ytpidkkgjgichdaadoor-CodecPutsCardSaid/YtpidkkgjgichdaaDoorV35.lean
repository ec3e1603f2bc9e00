/-
  The walks and the laws that the statement leans on, part 35.
-/
import Derived.Test.YtpidkkgjgichdaaDoorV34
namespace Go.Proofs.YtpidkkgjgichdaaDoor
open Go Wi
set_option linter.unusedVariables false
set_option linter.unusedSimpArgs false
noncomputable def rxK (n : Nat) (r : List Int) : Option (Oq × List Int) :=
  if n = 1 ∨ n = 6 ∨ n = 7 then (match tF 40000 r with
    | none => none
    | some (l, z) => some (⟨n, bstr l, 0, 0, 0, k0, s0⟩, z))
  else if n = 2 then (match tF 40000 r with
    | none => none
    | some (l, z1) => match iF z1 with
      | none => none
      | some (i, z2) => match nF z2 with
        | none => none
        | some (g, z3) => match nF z3 with
          | none => none
          | some (t, z) => some (⟨2, bstr l, i, (g : Nat), (t : Nat), k0, s0⟩, z))
  else if n = 3 then (match iF r with
    | none => none
    | some (i, z) => some (⟨3, ⟨#[]⟩, i, 0, 0, k0, s0⟩, z))
  else if n = 4 then (match kgX r with
    | none => none
    | some (k, z) => if krB k = true then some (⟨4, ⟨#[]⟩, 0, 0, 0, k, s0⟩, z) else none)
  else if n = 5 then (match sgX r with
    | none => none
    | some (s, z) => if srB s = true then some (⟨5, ⟨#[]⟩, 0, 0, 0, k0, s⟩, z) else none)
  else some (⟨n, ⟨#[]⟩, 0, 0, 0, k0, s0⟩, r)
noncomputable def rrX (Z : List Int) : Option (Oq × List Int) :=
  match nF Z with
  | none => none
  | some (n, r) => if n < 1 ∨ 9 < n then none else rxK n r
structure Om (o : Oq) : Prop where
  a : -9223372036854775808 ≤ o.a ∧ o.a ≤ 9223372036854775807
  g : 0 ≤ o.g ∧ o.g ≤ 18446744073709551615
  t : 0 ≤ o.t ∧ o.t ≤ 18446744073709551615
theorem gs_of {o : Oq} (h : gsB o = true) : (1 ≤ o.kd ∧ o.kd ≤ 9) ∧ usF o = o ∧ o.tx.size ≤ 40000 ∧ (o.kd = 4 → krB o.k = true) ∧ (o.kd = 5 → srB o.s = true) := by
  unfold gsB rtB at h
  simp only [Bool.and_eq_true, decide_eq_true_eq, Bool.or_eq_true, Bool.not_eq_true', beq_eq_false_iff_ne, oqB_iff] at h
  obtain ⟨⟨h1, h2, h3⟩, h4, h5, h6⟩ := h
  exact ⟨⟨h1, h2⟩, h3, h4, fun e => h5.resolve_left (fun h => h e), fun e => h6.resolve_left (fun h => h e)⟩
theorem rrX_put {o : Oq} (h : gsB o = true) (hm : Om o) (rest : List Int) : rrX (oL o ++ rest) = some (o, rest) := by
  obtain ⟨⟨h1, h2⟩, hu, h3, h4, h5⟩ := gs_of h
  obtain ⟨m1, m2, m3⟩ := hm
  obtain ⟨kd, tx, a, g, t, k, s⟩ := o
  simp only at h1 h2 h3 h4 h5 m1 m2 m3
  have key : ∀ (n : Nat) (X : List Int), n < 18446744073709551616 → 1 ≤ n ∧ n ≤ 9 → rrX (putL 0 n ++ X) = rxK n X := fun n X hn hn2 => by
    unfold rrX
    rw [nF_put n X hn]
    simp only
    rw [if_neg (by omega)]
  have ktx : ∀ X, tF 40000 (putL 0 tx.size ++ strL tx ++ X) = some (strL tx, X) := fun X => tF_put tx 40000 X h3 (by omega)
  have hk : kd = 1 ∨ kd = 2 ∨ kd = 3 ∨ kd = 4 ∨ kd = 5 ∨ kd = 6 ∨ kd = 7 ∨ kd = 8 ∨ kd = 9 := by omega
  have txt : ∀ n : Nat, (n = 1 ∨ n = 6 ∨ n = 7) → rrX (putL 0 n ++ (putL 0 tx.size ++ strL tx ++ rest)) = some (⟨n, tx, 0, 0, 0, k0, s0⟩, rest) := fun n hn => by
    rw [key n _ (by omega) (by omega)]
    unfold rxK
    rw [if_pos hn, ktx]
    simp only [bstr_strL]
  have e : ∀ (x y : Oq), x = y → rrX (oL x ++ rest) = some (x, rest) → rrX (oL y ++ rest) = some (y, rest) := fun x y hxy hx => by rw [← hxy]; exact hx
  rcases hk with rfl | rfl | rfl | rfl | rfl | rfl | rfl | rfl | rfl
  · refine e ⟨1, tx, 0, 0, 0, k0, s0⟩ _ hu ?_
    have := txt 1 (by omega)
    rw [show oL ⟨1, tx, 0, 0, 0, k0, s0⟩ ++ rest = putL 0 1 ++ (putL 0 tx.size ++ strL tx ++ rest) by simp [oL, txK, atK, txL]]
    exact this
  · refine e ⟨2, tx, a, g, t, k0, s0⟩ _ hu ?_
    obtain ⟨g, rfl⟩ := Int.eq_ofNat_of_zero_le m2.1
    obtain ⟨t, rfl⟩ := Int.eq_ofNat_of_zero_le m3.1
    rw [show oL ⟨2, tx, a, (g : Int), (t : Int), k0, s0⟩ ++ rest = putL 0 2 ++ (putL 0 tx.size ++ strL tx ++ (intL a ++ (putL 0 g ++ (putL 0 t ++ rest)))) by simp [oL, txK, atK, txL]]
    rw [key 2 _ (by omega) (by omega)]
    unfold rxK
    rw [if_neg (by decide), if_pos rfl, ktx]
    simp only
    rw [iF_put a _ m1.1 m1.2]
    simp only
    rw [nF_put g _ (by omega)]
    simp only
    rw [nF_put t _ (by omega)]
    simp only [bstr_strL]
  · refine e ⟨3, ⟨#[]⟩, a, 0, 0, k0, s0⟩ _ hu ?_
    rw [show oL ⟨3, ⟨#[]⟩, a, 0, 0, k0, s0⟩ ++ rest = putL 0 3 ++ (intL a ++ rest) by simp [oL, txK, atK]]
    rw [key 3 _ (by omega) (by omega)]
    show (match iF (intL a ++ rest) with | none => none | some (i, z) => some ((⟨3, ⟨#[]⟩, i, 0, 0, k0, s0⟩ : Oq), z)) = _
    rw [iF_put a _ m1.1 m1.2]
  · refine e ⟨4, ⟨#[]⟩, 0, 0, 0, k, s0⟩ _ hu ?_
    rw [show oL ⟨4, ⟨#[]⟩, 0, 0, 0, k, s0⟩ ++ rest = putL 0 4 ++ (kL k ++ rest) by simp [oL, txK, atK]]
    rw [key 4 _ (by omega) (by omega)]
    show (match kgX (kL k ++ rest) with | none => none | some (k, z) => if krB k = true then some ((⟨4, ⟨#[]⟩, 0, 0, 0, k, s0⟩ : Oq), z) else none) = _
    rw [kgX_put (h4 rfl)]
    simp only
    rw [if_pos (h4 rfl)]
  · refine e ⟨5, ⟨#[]⟩, 0, 0, 0, k0, s⟩ _ hu ?_
    rw [show oL ⟨5, ⟨#[]⟩, 0, 0, 0, k0, s⟩ ++ rest = putL 0 5 ++ (sL s ++ rest) by simp [oL, txK, atK]]
    rw [key 5 _ (by omega) (by omega)]
    show (match sgX (sL s ++ rest) with | none => none | some (k, z) => if srB k = true then some ((⟨5, ⟨#[]⟩, 0, 0, 0, k0, k⟩ : Oq), z) else none) = _
    rw [sgX_put (h5 rfl)]
    simp only
    rw [if_pos (h5 rfl)]
  · refine e ⟨6, tx, 0, 0, 0, k0, s0⟩ _ hu ?_
    have := txt 6 (by omega)
    rw [show oL ⟨6, tx, 0, 0, 0, k0, s0⟩ ++ rest = putL 0 6 ++ (putL 0 tx.size ++ strL tx ++ rest) by simp [oL, txK, atK, txL]]
    exact this
  · refine e ⟨7, tx, 0, 0, 0, k0, s0⟩ _ hu ?_
    have := txt 7 (by omega)
    rw [show oL ⟨7, tx, 0, 0, 0, k0, s0⟩ ++ rest = putL 0 7 ++ (putL 0 tx.size ++ strL tx ++ rest) by simp [oL, txK, atK, txL]]
    exact this
  · refine e ⟨8, ⟨#[]⟩, 0, 0, 0, k0, s0⟩ _ hu ?_
    rw [show oL ⟨8, ⟨#[]⟩, 0, 0, 0, k0, s0⟩ ++ rest = putL 0 8 ++ rest by simp [oL, txK, atK]]
    rw [key 8 _ (by omega) (by omega)]
    rfl
  · refine e ⟨9, ⟨#[]⟩, 0, 0, 0, k0, s0⟩ _ hu ?_
    rw [show oL ⟨9, ⟨#[]⟩, 0, 0, 0, k0, s0⟩ ++ rest = putL 0 9 ++ rest by simp [oL, txK, atK]]
    rw [key 9 _ (by omega) (by omega)]
    rfl
theorem gs_mk {o : Oq} (h1 : 1 ≤ o.kd ∧ o.kd ≤ 9) (h2 : usF o = o) (h3 : o.tx.size ≤ 40000) (h4 : o.kd = 4 → krB o.k = true) (h5 : o.kd = 5 → srB o.s = true) : gsB o = true := by
  unfold gsB rtB
  simp only [Bool.and_eq_true, decide_eq_true_eq, Bool.or_eq_true, Bool.not_eq_true', beq_eq_false_iff_ne, oqB_iff]
  refine ⟨⟨h1.1, h1.2, h2⟩, h3, ?_, ?_⟩
  · by_cases e : o.kd = 4
    · exact .inr (h4 e)
    · exact .inl e
  · by_cases e : o.kd = 5
    · exact .inr (h5 e)
    · exact .inl e
end Go.Proofs.YtpidkkgjgichdaaDoor
