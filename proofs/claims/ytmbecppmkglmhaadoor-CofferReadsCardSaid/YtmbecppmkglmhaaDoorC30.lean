/-
  The walks and the laws that the statement leans on, part 30.
-/
import Derived.Test.YtmbecppmkglmhaaDoorC29
namespace Go.Proofs.YtmbecppmkglmhaaDoor
open Go
set_option linter.unusedVariables false
set_option linter.unusedSimpArgs false
def Com (s n f m : Nat) (P Q N R : Bs) (a : DA) (X : DA × Int) : Prop :=
  (X.2 = 0 ∧ Rg s n f m P Q N X.1 ∧ (a.f = -1 → X.1.f = -1)) ∨ (X.2 = 12 ∧ a.f ≠ -1 ∧ Dg s n f m P Q N R X.1)
theorem Com.up {s n f m : Nat} {P Q N R : Bs} {a : DA} {X : DA × Int} (h : Com s n f m P Q N R a X) (hf : a.f = -1) : X.2 = 0 ∧ Rg s n f m P Q N X.1 ∧ X.1.f = -1 := by
  rcases h with ⟨h1, h2, h3⟩ | ⟨h1, h2, h3⟩
  · exact ⟨h1, h2, h3 hf⟩
  · exact absurd hf h2
theorem fmt_rg {c s n f m : Nat} {P Q R : Bs} {a : DA} (hA : AOk c a) (hR : Rg s n f m P Q R a) (hfm : f + m ≤ n) : Com s n f m P Q (zrs (m * s)) R a (lyR a f (cks s (List.replicate (m * s) 0))) := by
  obtain ⟨j, h1, h2⟩ := lay_rg hA hR hfm 0 (zrs (m * s)) (by simp) (Nat.zero_le _) f (by simp)
  have hj : j = 0 := by simp at h1; omega
  subst hj
  have e1 : put R (0 * s) (zrs (m * s) ++ zrs 0) = zrs (m * s) := by
    unfold put
    rw [List.drop_of_length_le (by rw [hR.lR]; simp)]
    simp
  rw [e1, ub_zrs] at h2
  exact h2
def clR (R : Bs) : Bs := R.take (all R).2 ++ zrs (R.length - (all R).2)
theorem opD_cl {R : Bs} (h : opD R = false) : clR R = R := by
  have hz : ∀ x ∈ R.drop (all R).2, x = 0 := fun x hx => by
    have := List.any_eq_false.1 h x hx
    simpa using this
  have e : R.drop (all R).2 = zrs (R.length - (all R).2) := by
    rw [← List.length_drop]
    exact List.eq_replicate_iff.2 ⟨rfl, hz⟩
  unfold clR
  rw [← e, List.take_append_drop]
theorem clR_len (R : Bs) : (clR R).length = R.length := by
  have := all_le R
  simp only [clR, List.length_append, List.length_take, zrs, List.length_replicate]; omega
theorem clR_frs (R : Bs) : clR R = frs (all R).1 ++ zrs (R.length - usd (all R).1) := by
  obtain ⟨h1, h2, h3, h4, h5⟩ := all_split _ R (Nat.le_refl _)
  unfold clR
  rw [h2]
  congr 1
  have e := congrArg (List.take (usd (all R).1)) h1
  rw [List.take_append_of_le_length (show usd (all R).1 ≤ (frs (all R).1).length from Nat.le_refl _)] at e
  rw [e]
  exact List.take_length
theorem all_frz (L : List Bs) (w : Nat) (h : Sml L) : all (frs L ++ zrs w) = (L, usd L) := by
  rw [all_frs L _ h, all_no (zrs_noF _)]; simp
theorem opD_frz (L : List Bs) (w : Nat) (h : Sml L) : opD (frs L ++ zrs w) = false := by
  unfold opD
  rw [all_frz L w h]
  simp only
  rw [show (frs L ++ zrs w).drop (usd L) = zrs w from by unfold usd; exact List.drop_left]
  rw [List.any_eq_false]
  intro x hx
  rw [List.eq_of_mem_replicate hx]; simp
theorem open_rg {c s n f m : Nat} {P Q R : Bs} {a : DA} (hA : AOk c a) (hR : Rg s n f m P Q R a) (hfm : f + m ≤ n) : Com s n f m P Q (clR R) R a (opR a f s R) := by
  unfold opR
  cases hD : opD R with
  | false =>
    rw [if_neg (by simp)]
    exact .inl ⟨rfl, by rw [opD_cl hD]; exact hR, fun h => h⟩
  | true =>
    rw [if_pos rfl]
    have hs1 : 1 ≤ s := by have := hA.s1; have := hR.st.s; omega
    obtain ⟨hzl, hdv, hkm⟩ := opZ_len R s m _ hs1 hR.lR rfl
    obtain ⟨k, hk⟩ : ∃ k, k = (all R).2 / s := ⟨_, rfl⟩
    rw [← hk] at hzl hdv hkm
    have hms : (m - k) * s + k * s = m * s := by rw [← Nat.add_mul]; congr 1; omega
    obtain ⟨j, h1, h2⟩ := lay_rg hA hR hfm k (opZ R s) (by rw [hzl]; omega) hkm (f + k) rfl
    have hj : j = 0 := by rw [hzl] at h1; omega
    subst hj
    have e1 : put R (k * s) (opZ R s ++ zrs 0) = clR R := by
      unfold opZ clR
      rw [hk]
      exact put_clean R (all R).2 s (all_le R)
    rw [e1] at h2
    rw [← hk]
    exact h2
theorem app_rg {c s n f m : Nat} {P Q : Bs} {L : List Bs} {w : Nat} {a : DA} (hA : AOk c a) (hR : Rg s n f m P Q (frs L ++ zrs w) a) (hfm : f + m ≤ n) (z : Bs) (hz : z.length + 10 ≤ w) :
    Com s n f m P Q (frs (L ++ [z]) ++ zrs (w - (z.length + 10))) (frs L ++ zrs w) a (lyR a (f + usd L / s) (cks s (ub (tlB (frs L ++ zrs w) (usd L) s ++ frameB z)))) := by
  have hs1 : 1 ≤ s := by have := hA.s1; have := hR.st.s; omega
  have hl : usd L + w = m * s := by rw [← hR.lR]; simp [usd, zrs]
  have hdv := Nat.div_mul_le_self (usd L) s
  have htl : (tlB (frs L ++ zrs w) (usd L) s).length = usd L - usd L / s * s := by
    simp only [tlB, List.length_drop, List.length_take, List.length_append, zrs, List.length_replicate]
    unfold usd; omega
  have hkm : usd L / s ≤ m := by
    have : usd L / s * s ≤ m * s := by omega
    exact Nat.le_of_mul_le_mul_right this (by omega)
  obtain ⟨j, h1, h2⟩ := lay_rg hA hR hfm (usd L / s) (tlB (frs L ++ zrs w) (usd L) s ++ frameB z) (by rw [List.length_append, htl, frame_len]; omega) hkm (f + usd L / s) rfl
  rw [List.length_append, htl, frame_len] at h1
  have e1 := put_frame L z w s j (by omega)
  unfold tlB at h2 ⊢
  rw [e1] at h2
  exact h2
theorem tail_app (L : List Bs) (z : Bs) (w s : Nat) (hs : 1 ≤ s) (hz : z.length + 10 ≤ w) :
    (tlB (frs L ++ zrs w) (usd L) s ++ frameB z).drop ((tlB (frs L ++ zrs w) (usd L) s ++ frameB z).length - (usd L + (z.length + 10)) % s) = tlB (frs (L ++ [z]) ++ zrs (w - (z.length + 10))) (usd (L ++ [z])) s := by
  have e0 : (frs L ++ zrs w).take (usd L) = frs L := by unfold usd; rw [List.take_append_of_le_length (Nat.le_refl _), List.take_length]
  have e1 : (frs (L ++ [z]) ++ zrs (w - (z.length + 10))).take (usd (L ++ [z])) = frs (L ++ [z]) := by unfold usd; rw [List.take_append_of_le_length (Nat.le_refl _), List.take_length]
  unfold tlB
  rw [e0, e1, usd_snoc, frs_snoc]
  obtain ⟨u, hu⟩ : ∃ u, u = usd L := ⟨_, rfl⟩
  have hul : (frs L).length = u := hu.symm
  rw [← hu]
  obtain ⟨v, hv⟩ : ∃ v, v = u + (z.length + 10) := ⟨_, rfl⟩
  rw [← hv]
  have hdv := Nat.div_mul_le_self u s
  have hdw := Nat.div_mul_le_self v s
  have hmv : v / s * s + v % s = v := by rw [Nat.mul_comm]; exact Nat.div_add_mod v s
  have hle : u / s * s ≤ v / s * s := Nat.mul_le_mul_right s (Nat.div_le_div_right (by omega))
  have hfl := frame_len z
  have e2 : (frs L).drop (u / s * s) ++ frameB z = (frs L ++ frameB z).drop (u / s * s) := by rw [List.drop_append_of_le_length (by omega)]
  rw [e2, List.drop_drop]
  congr 1
  simp only [List.length_drop, List.length_append, hul, hfl]
  omega
end Go.Proofs.YtmbecppmkglmhaaDoor
