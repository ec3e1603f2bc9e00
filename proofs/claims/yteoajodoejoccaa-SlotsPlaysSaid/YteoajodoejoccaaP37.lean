/-
  The walks and the laws that the statement leans on, part 37.
-/
import Derived.Test.YteoajodoejoccaaP36
namespace Go.Proofs.Yteoajodoejoccaa
open Go Wi
set_option linter.unusedVariables false
set_option linter.unusedSimpArgs false
def slP (W : Bs) (f m s : Nat) : Nat × List Int := slN (slF ((W.drop (f * s)).take (m * s)) 0) (slF ((W.drop ((f + m) * s)).take (m * s)) 1)
theorem slP_E (W : Bs) (f m s : Nat) : slE (slF ((W.drop (f * s)).take (m * s)) 0) (slF ((W.drop ((f + m) * s)).take (m * s)) 1) 2 = slP W f m s := slE_slN _ _ (slF_nil _ _)
theorem slN_cases (A B : Nat × List Int) : slN A B = A ∨ slN A B = B := by unfold slN; split <;> simp
theorem slP_nil (W : Bs) (f m s : Nat) (h : (slP W f m s).1 = 0) : (slP W f m s).2 = [] := by
  unfold slP at h ⊢
  rcases slN_cases (slF ((W.drop (f * s)).take (m * s)) 0) (slF ((W.drop ((f + m) * s)).take (m * s)) 1) with e | e <;> rw [e] at h ⊢ <;> exact slF_nil _ _ h
theorem slP_len (W : Bs) (f m s : Nat) : (slP W f m s).2.length ≤ m * s := by
  unfold slP
  rcases slN_cases (slF ((W.drop (f * s)).take (m * s)) 0) (slF ((W.drop ((f + m) * s)).take (m * s)) 1) with e | e <;> rw [e] <;> exact Nat.le_trans (slF_len _ _) (by rw [List.length_take]; omega)
theorem slP_bd (W : Bs) (f m s : Nat) : (slP W f m s).1 < 18446744073709551616 := by
  unfold slP
  rcases slN_cases (slF ((W.drop (f * s)).take (m * s)) 0) (slF ((W.drop ((f + m) * s)).take (m * s)) 1) with e | e <;> rw [e] <;> exact slF_bd _ _
theorem open11_ct {c s n : Nat} {W : Bs} (b : Nat) (a : DA) (l : DL) (hA : AOk c a) (hS : Stl s n (ub W) a) (hl : LOk b a l) (f m : Nat) (hfm : f + 2 * m ≤ n) (hm : 1 ≤ m) (hms5 : m * s ≤ 5000) :
    ACt Try.prog 11 [pt b 0, iv .i64 (f : Int), iv .i64 (m : Int)] (dH b a l) (fun r F' => ∃ x : Nat, r = .tup [pt x 0, iv .i64 0] ∧ F' = (x, slO b f m (slP W f m s) false) :: dH b a l) := by
  have h := slopen_ct b a l hA hS hl f m hfm hm hms5
  rw [slP_E] at h
  exact h
theorem slP_put {W R' : Bs} {f m n s : Nat} (hW : W.length = n * s) (hR' : R'.length = m * s) (hfm : f + 2 * m ≤ n) (p : Nat) (hp : p < 2) (W' : Bs) (hW' : W' = W.take ((f + p * m) * s) ++ (R' ++ W.drop ((f + p * m + m) * s))) :
    W'.length = n * s ∧ W'.take (f * s) = W.take (f * s) ∧ W'.drop ((f + 2 * m) * s) = W.drop ((f + 2 * m) * s) ∧
    (p = 0 → (W'.drop (f * s)).take (m * s) = R' ∧ (W'.drop ((f + m) * s)).take (m * s) = (W.drop ((f + m) * s)).take (m * s)) ∧
    (p = 1 → (W'.drop (f * s)).take (m * s) = (W.drop (f * s)).take (m * s) ∧ (W'.drop ((f + m) * s)).take (m * s) = R') := by
  have m1 := Nat.mul_le_mul_right s hfm
  have e2 : (f + 2 * m) * s = f * s + m * s + m * s := by rw [Nat.add_mul, Nat.mul_assoc, Nat.two_mul]; omega
  have e1 : (f + m) * s = f * s + m * s := Nat.add_mul _ _ _
  rw [e2] at m1
  obtain ⟨F, hF⟩ : ∃ F, F = f * s := ⟨_, rfl⟩
  obtain ⟨M, hM⟩ : ∃ M, M = m * s := ⟨_, rfl⟩
  rw [e1, e2, ← hF, ← hM]
  rw [← hF, ← hM] at m1
  rw [← hM] at hR'
  rcases (by omega : p = 0 ∨ p = 1) with rfl | rfl
  · have a1 : (f + 0 * m) * s = F := by rw [Nat.zero_mul, Nat.add_zero, hF]
    have a2 : (f + 0 * m + m) * s = F + M := by rw [Nat.zero_mul, Nat.add_zero, e1, hF, hM]
    rw [a1, a2] at hW'
    have l1 : (W.take F).length = F := by rw [List.length_take]; omega
    have d1 : W'.drop F = R' ++ W.drop (F + M) := by rw [hW', List.drop_append_of_le_length (by omega), List.drop_of_length_le (by omega), List.nil_append]
    have d2 : W'.drop (F + M) = W.drop (F + M) := by rw [← List.drop_drop, d1, ← hR', List.drop_left]
    refine ⟨?_, ?_, ?_, fun _ => ⟨?_, ?_⟩, fun h => by cases h⟩
    · rw [hW']; simp only [List.length_append, List.length_drop, l1]; omega
    · rw [hW', List.take_append_of_le_length (by omega), List.take_take, Nat.min_self]
    · rw [← List.drop_drop, d2, List.drop_drop]
    · rw [d1, ← hR', List.take_left]
    · rw [d2]
  · have a1 : (f + 1 * m) * s = F + M := by rw [Nat.one_mul, e1, hF, hM]
    have a2 : (f + 1 * m + m) * s = F + M + M := by rw [Nat.one_mul, Nat.add_mul, e1, hF, hM]
    rw [a1, a2] at hW'
    have l1 : (W.take (F + M)).length = F + M := by rw [List.length_take]; omega
    have d2 : W'.drop (F + M) = R' ++ W.drop (F + M + M) := by rw [hW', List.drop_append_of_le_length (by omega), List.drop_of_length_le (by omega), List.nil_append]
    have d3 : W'.drop (F + M + M) = W.drop (F + M + M) := by rw [← List.drop_drop, d2, ← hR', List.drop_left]
    have t1 : W'.take (F + M) = W.take (F + M) := by rw [hW', List.take_append_of_le_length (by omega), List.take_take, Nat.min_self]
    refine ⟨?_, ?_, d3, (fun h => by cases h), fun _ => ⟨?_, ?_⟩⟩
    · rw [hW']; simp only [List.length_append, List.length_drop, l1]; omega
    · have h1 : (W'.take (F + M)).take F = (W.take (F + M)).take F := by rw [t1]
      rwa [List.take_take, List.take_take, Nat.min_eq_left (by omega)] at h1
    · have h1 : (W'.take (F + M)).drop F = (W.take (F + M)).drop F := by rw [t1]
      rwa [List.drop_take, List.drop_take, Nat.add_sub_cancel_left] at h1
    · rw [d2, ← hR', List.take_left]
theorem slP_new {W R' : Bs} {f m n s : Nat} (hW : W.length = n * s) (hR' : R'.length = m * s) (hfm : f + 2 * m ≤ n) (W' : Bs)
    (hW' : W' = W.take ((f + ((slP W f m s).1 + 1) % 2 * m) * s) ++ (R' ++ W.drop ((f + ((slP W f m s).1 + 1) % 2 * m + m) * s))) (z : List Int) :
    (slF R' (((slP W f m s).1 + 1) % 2) = ((slP W f m s).1 + 1, z) → slP W' f m s = ((slP W f m s).1 + 1, z)) ∧
    (slF R' (((slP W f m s).1 + 1) % 2) = (0, []) → slP W' f m s = slP W f m s) ∧
    (R' = (W.drop ((f + ((slP W f m s).1 + 1) % 2 * m) * s)).take (m * s) ∨ slF R' (((slP W f m s).1 + 1) % 2) = slF ((W.drop ((f + ((slP W f m s).1 + 1) % 2 * m) * s)).take (m * s)) (((slP W f m s).1 + 1) % 2) → slP W' f m s = slP W f m s) := by
  obtain ⟨p, hp⟩ : ∃ p, p = ((slP W f m s).1 + 1) % 2 := ⟨_, rfl⟩
  have hp2 : p < 2 := by omega
  rw [← hp] at hW' ⊢
  obtain ⟨-, -, -, h0, h1⟩ := slP_put hW hR' hfm p hp2 W' hW'
  obtain ⟨n0, n1⟩ := slN_new (A := slF ((W.drop (f * s)).take (m * s)) 0) (B := slF ((W.drop ((f + m) * s)).take (m * s)) 1) (slF_par _ _) (slF_par _ _) (slF_nil _ _) (slF_nil _ _) z
  change (((slP W f m s).1 + 1) % 2 = 0 → slN (0, []) _ = slP W f m s ∧ slN ((slP W f m s).1 + 1, z) _ = ((slP W f m s).1 + 1, z)) at n0
  change (((slP W f m s).1 + 1) % 2 = 1 → slN _ (0, []) = slP W f m s ∧ slN _ ((slP W f m s).1 + 1, z) = ((slP W f m s).1 + 1, z)) at n1
  rw [← hp] at n0 n1
  rcases (by omega : p = 0 ∨ p = 1) with hp0 | hp0
  · obtain ⟨s0, s1⟩ := h0 hp0
    obtain ⟨g0, g1⟩ := n0 hp0
    have e : slP W' f m s = slN (slF R' 0) (slF ((W.drop ((f + m) * s)).take (m * s)) 1) := by unfold slP; rw [s0, s1]
    rw [hp0]
    refine ⟨fun h => by rw [e, h]; exact g1, fun h => by rw [e, h]; exact g0, fun h => ?_⟩
    rw [e]
    rcases h with h | h
    · rw [h, Nat.zero_mul, Nat.add_zero]; rfl
    · rw [h, Nat.zero_mul, Nat.add_zero]; rfl
  · obtain ⟨s0, s1⟩ := h1 hp0
    obtain ⟨g0, g1⟩ := n1 hp0
    have e : slP W' f m s = slN (slF ((W.drop (f * s)).take (m * s)) 0) (slF R' 1) := by unfold slP; rw [s0, s1]
    rw [hp0]
    refine ⟨fun h => by rw [e, h]; exact g1, fun h => by rw [e, h]; exact g0, fun h => ?_⟩
    rw [e]
    rcases h with h | h
    · rw [h, Nat.one_mul]; rfl
    · rw [h, Nat.one_mul]; rfl
theorem put_spec {c s n f m : Nat} {W : Bs} (y b : Nat) (a : DA) (l : DL) (hA : AOk c a) (hS : Stl s n (ub W) a) (hW : W.length = n * s) (hl : LOk b a l) (hfm : f + 2 * m ≤ n) (hm : 1 ≤ m) (hms : m * s ≤ 5000) (z : Bs) (hz : z.length ≤ 2000) (hc : c + 2 * m ≤ 900) :
    ∃ (X : DA × Int) (E1 : Nat × List Int) (ov : Bool), ACt Try.prog 15 [pt y 0, .slz .u8 (ub z)] ((y, slO b f m (slP W f m s) false) :: dH b a l) (fun r F' => ∃ q : LS b X.1, r = iv .i64 X.2 ∧ F' = (y, slO b f m E1 ov) :: dH b X.1 q.1) ∧ AOk (c + 2 * m + 2) X.1 ∧
      ((X.2 = 0 ∧ E1 = (rpE (slP W f m s) (m * s) (ub z)).1 ∧ ov = false ∧ (rpE (slP W f m s) (m * s) (ub z)).2 = 0 ∧ (a.f = -1 → X.1.f = -1) ∧ ∃ W', Stl s n (ub W') X.1 ∧ W'.length = n * s ∧ slP W' f m s = E1 ∧ W'.take (f * s) = W.take (f * s) ∧ W'.drop ((f + 2 * m) * s) = W.drop ((f + 2 * m) * s)) ∨
       (X.2 = (rpE (slP W f m s) (m * s) (ub z)).2 ∧ (X.2 = 11 ∨ X.2 = 3) ∧ X.1 = a ∧ E1 = slP W f m s ∧ ov = false ∧ (rpE (slP W f m s) (m * s) (ub z)).1 = slP W f m s) ∨
       (X.2 = 12 ∧ a.f ≠ -1 ∧ X.1.dk = true ∧ E1 = slP W f m s ∧ ov = true ∧ (rpE (slP W f m s) (m * s) (ub z)).2 = 0 ∧ ∀ K T : Int, ∃ W', Stl s n (ub W') (crA X.1 K T) ∧ W'.length = n * s ∧ (slP W' f m s = slP W f m s ∨ slP W' f m s = (rpE (slP W f m s) (m * s) (ub z)).1))) := by
  have hs := hS.s
  have hn := hS.n
  have hn2 := hA.n2
  have hs2 := hA.s2
  have hEb := slP_bd W f m s
  have zl := ub_len z
  by_cases h1 : m * s < z.length + 19
  · have e : rpE (slP W f m s) (m * s) (ub z) = (slP W f m s, 11) := by unfold rpE; rw [if_pos (by rw [zl]; exact h1)]
    refine ⟨(a, 11), slP W f m s, false, ?_, hA.le (by omega), .inr (.inl ⟨by rw [e], .inl rfl, rfl, rfl, rfl, by rw [e]⟩)⟩
    exact (put_full y b f m s (slP W f m s) a l (ub z) hS.dk hs (by omega) (by omega) (by rw [zl]; exact h1)).mono fun r F' ⟨e1, e2⟩ => ⟨⟨l, hl⟩, e1, e2⟩
  by_cases h2 : (slP W f m s).1 = 18446744073709551615
  · have e : rpE (slP W f m s) (m * s) (ub z) = (slP W f m s, 3) := by unfold rpE; rw [if_neg (by rw [zl]; exact h1), if_pos h2]
    refine ⟨(a, 3), slP W f m s, false, ?_, hA.le (by omega), .inr (.inl ⟨by rw [e], .inr rfl, rfl, rfl, rfl, by rw [e]⟩)⟩
    exact (put_over y b f m s (slP W f m s) a l (ub z) hS.dk hs (by omega) (by omega) (by rw [zl]; omega) h2).mono fun r F' ⟨e1, e2⟩ => ⟨⟨l, hl⟩, e1, e2⟩
  have e : rpE (slP W f m s) (m * s) (ub z) = (((slP W f m s).1 + 1, ub z), 0) := by unfold rpE; rw [if_neg (by rw [zl]; exact h1), if_neg h2]
  have hpm : ((slP W f m s).1 + 1) % 2 * m ≤ 1 * m := Nat.mul_le_mul_right _ (by omega)
  have hat : f + ((slP W f m s).1 + 1) % 2 * m + m ≤ n := by omega
  have hR := rg_of (f := f + ((slP W f m s).1 + 1) % 2 * m) (m := m) hS hW hat
  have hNl := numB_len ((slP W f m s).1 + 1) (by omega)
  have hfl : (frm ((slP W f m s).1 + 1) z).length = (numB ((slP W f m s).1 + 1)).length + z.length + 10 := by unfold frm; rw [frame_len, List.length_append]
  have hG := put_go y b f m (slP W f m s) a l hA hl hs hS.dk hn hfm hm (by omega) z hz (by omega) hc
  have hP := put_rg (E := (slP W f m s).1) (z := z) hA hR hat hm (by omega)
  obtain ⟨X, hX⟩ : ∃ X, X = puX f m s (slP W f m s).1 a z := ⟨_, rfl⟩
  have hXA : AOk (c + 2 * m + 2) X.1 := by
    rw [hX]
    have hs1 : 1 ≤ s := by have := hA.s1; omega
    have hZA : AOk (c + m + 1) (fmX (f + ((slP W f m s).1 + 1) % 2 * m) s m a).1 := by
      refine (lyR_ok _ a _ c hA).le ?_
      have := cks_m (m := m) hs1 (z := List.replicate (m * s) (0 : Int)) (by simp)
      omega
    unfold puX
    split
    · refine (lyR_ok _ _ _ _ hZA).le ?_
      have := cks_len_le hs1 (z := ub (frm ((slP W f m s).1 + 1) z)) (k := m) (by rw [ub_len]; omega)
      omega
    · exact hZA.le (by omega)
  rw [← hX] at hG hP
  have hsl := fun (R' : Bs) (h : R'.length = m * s) => slP_new hW h hfm _ rfl (ub z)
  rw [e]
  rcases hP with ⟨p1, p2, p3⟩ | ⟨p1, p2, p3, p4⟩
  · refine ⟨X, ((slP W f m s).1 + 1, ub z), false, ?_, hXA, .inl ⟨p1, rfl, rfl, rfl, p3, ?_⟩⟩
    · rw [p1]; exact hG.1 p1
    · obtain ⟨q1, q2, q3, -, -⟩ := slP_put hW p2.lR hfm (((slP W f m s).1 + 1) % 2) (by omega) _ rfl
      exact ⟨_, p2.st, q1, (hsl _ p2.lR).1 (slF_frm _ z _ (by omega) (by omega) (by omega)), q2, q3⟩
  · refine ⟨X, slP W f m s, true, hG.2 (by rw [p1]; decide), hXA, .inr (.inr ⟨p1, p2, p3, rfl, rfl, rfl, fun K T => ?_⟩)⟩
    obtain ⟨R4, q, hR4, hRg⟩ := p4 K T
    obtain ⟨q1, -, -, -, -⟩ := slP_put hW hRg.lR hfm (((slP W f m s).1 + 1) % 2) (by omega) _ rfl
    refine ⟨_, hRg.st, q1, ?_⟩
    obtain ⟨g1, g2, g3⟩ := hsl _ hRg.lR
    rcases hR4 with rfl | rfl
    · rcases slF_mix0 ((W.drop ((f + ((slP W f m s).1 + 1) % 2 * m) * s)).take (m * s)) (m * s) q (((slP W f m s).1 + 1) % 2) hR.lR.symm with h | h
      · exact .inl (g3 (.inr h))
      · exact .inl (g2 h)
    · rcases slF_mixF ((slP W f m s).1 + 1) z (m * s - (frm ((slP W f m s).1 + 1) z).length) (m * s) q (by omega) (by omega) (by omega) (by omega) with h | h
      · exact .inr (g1 h)
      · exact .inl (g2 h)
end Go.Proofs.Yteoajodoejoccaa
