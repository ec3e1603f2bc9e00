/-
  One act, whatever it is: both rings stay side by side.
-/
import Derived.Test.YtbnkmhlnoaebcaaRgP
namespace Go.Proofs.Ytbnkmhlnoaebcaa
open Go
set_option linter.unusedVariables false
set_option linter.unusedSimpArgs false

abbrev IS (w k n : Nat) : Type := {s : RS // Inv w k n s}
theorem Inv.up {w k n : Nat} {s : RS} (h : Inv w k n s) : Inv w k (n + 1) s := ⟨h.now, h.at_, h.gt, by have := h.len; omega, h.sum, h.ok⟩
theorem does_ct (rb lb mb W G k w n : Nat) (kind at_ : Int) (gd tt : Nat) (s : RS) (h : Inv w k n s) (hn : n < 1000) (hg : goP W G) (hgo : GoOk W G k w)
    (hmb : ∀ p ∈ evB s.E s.o, p.1 ≠ mb) (hne : (rb ≠ lb ∧ lb ≠ rb) ∧ (rb ≠ mb ∧ mb ≠ rb) ∧ lb ≠ mb ∧ mb ≠ lb) (ht : tt < 18446744073709551616) :
    ACt Try.prog 16 [pt rb 0, pt mb 0, actA kind at_ gd tt] (blk rb lb mb W G w k s) (fun r F' => ∃ q : IS w k (n + 1), r = bv true ∧ F' = blk rb lb mb W G w k q.1) := by
  have hk1 := hgo.k1
  have hk2 := hgo.k2
  have hw := hgo.w0
  have h0 := h.now
  have hl := h.len
  have hq : s.now / w ≤ s.now := Nat.div_le_self _ _
  have hs := h.sum
  have hgs : sG (winP s.now w k) s.E ≤ sT (winP s.now w k) s.E := sG_le_sT h.gt
  have hE : ∀ e ∈ s.E, e.at_ ≤ 253402300799 := fun e he => Nat.le_trans (h.at_ e he) h0
  by_cases k1 : kind = 1
  · subst k1
    by_cases hr : 0 ≤ at_ ∧ at_ ≤ 253402300799
    · obtain ⟨m, rfl⟩ := Int.eq_ofNat_of_zero_le hr.1
      by_cases hlt : m < s.now
      · refine (does_move rb lb mb gd tt m 13 _ _ _ _ _ _ _ hne (Move_late rb lb w k (s.now / w) s.now _ _ _ _ m (by omega) hlt) (refMove_late mb W G s.now _ m (by omega) hlt)).mono ?_
        rintro r F' ⟨e1, e2⟩
        exact ⟨⟨s, h.up⟩, e1, e2⟩
      · refine (does_move rb lb mb gd tt m 0 _ _ _ _ _ _ _ hne (Move_step rb lb m hne.1 hw hk1 hk2 h (by omega) (by omega)) (refMove_ok mb W G s.now _ m (by omega) (by omega))).mono ?_
        rintro r F' ⟨e1, e2⟩
        refine ⟨⟨⟨s.E, m, s.o⟩, ⟨by simp only; omega, fun e he => Nat.le_trans (h.at_ e he) (by simp only; omega), h.gt, by simp only; omega, Nat.le_trans (sT_mono fun e he hp => ?_) hs, h.ok⟩⟩, e1, e2⟩
        unfold winP at hp ⊢
        have := Nat.div_le_div_right (c := w) (show s.now ≤ m by omega)
        simp only [decide_eq_true_eq] at hp ⊢
        omega
    · refine (does_move rb lb mb gd tt at_ 8 _ _ _ _ _ _ _ hne (Move_range rb lb w k (s.now / w) s.now _ _ _ _ at_ hr) (refMove_bad mb W G s.now _ at_ hr)).mono ?_
      rintro r F' ⟨e1, e2⟩
      exact ⟨⟨s, h.up⟩, e1, e2⟩
  by_cases k2 : kind = 2
  · subst k2
    by_cases hc : codeB at_ gd tt s.now w k (sT (winP s.now w k) s.E) = 0
    · have hc' := hc
      unfold codeB at hc
      have h1 : ¬ tt < gd := by intro h; rw [if_pos h] at hc; cases hc
      rw [if_neg h1] at hc
      have h2 : 0 ≤ at_ ∧ at_ ≤ 253402300799 := by
        apply Classical.byContradiction; intro h; rw [if_pos h] at hc; cases hc
      rw [if_neg (by simpa using h2)] at hc
      have h3 : ¬ (s.now : Int) < at_ := by intro h; rw [if_pos h] at hc; cases hc
      obtain ⟨m, rfl⟩ := Int.eq_ofNat_of_zero_le h2.1
      rw [if_neg h3, Int.toNat_natCast] at hc
      have h4 : s.now / w < m / w + k := by
        apply Classical.byContradiction; intro h; rw [if_pos h] at hc; cases hc
      rw [if_neg (by simpa using h4)] at hc
      have h5 : ¬ 9223372036854775807 < sT (winP s.now w k) s.E + tt := by intro h; rw [if_pos h] at hc; cases hc
      have cA := Add_step rb lb m gd tt hne.1 hw hk1 hk2 h hc' h4
      have cB := refAdd_ok mb W G k w s.now gd tt m s.E s.o hg hgo h0 hE (by omega) h.ok hmb (by omega) (by omega) ht hc'
      refine (does_addx rb lb mb gd tt m 0 _ _ _ _ _ (fun q : Gm (s.E.length + 1) => mM W G s.now (ms q.1.1 0 (s.E.length + 1) q.1.2)) _ (fun q => [(q.1.1, .cells (evC (s.E ++ [⟨m, gd, tt⟩])) (q.1.2 * 3) 70)]) hne cA cB).mono ?_
      rintro r F' ⟨q, e1, e2⟩
      have hlen : (s.E ++ [(⟨m, gd, tt⟩ : Ev)]).length = s.E.length + 1 := by simp
      refine ⟨⟨⟨s.E ++ [⟨m, gd, tt⟩], s.now, some q.1⟩, ⟨h0, ?_, ?_, by simp only [hlen]; omega, ?_, ?_⟩⟩, e1, ?_⟩
      · intro e he
        rcases List.mem_append.1 he with he | he
        · exact h.at_ e he
        · rw [List.mem_singleton.1 he]; simp only; omega
      · intro e he
        rcases List.mem_append.1 he with he | he
        · exact h.gt e he
        · rw [List.mem_singleton.1 he]; simp only; omega
      · simp only
        rw [sT_app]
        have : sT (winP s.now w k) [⟨m, gd, tt⟩] ≤ tt := by unfold sT; split <;> simp [sT]
        omega
      · have := q.2
        show _ ≤ _ ∧ _
        rw [hlen]; exact this
      · rw [e2]
        have e3 : ms q.1.1 0 (s.E ++ [(⟨m, gd, tt⟩ : Ev)]).length q.1.2 = ms q.1.1 0 (s.E.length + 1) q.1.2 := by rw [hlen]
        exact congrArg (fun z => [(rb, R1 lb w k (s.E ++ [⟨m, gd, tt⟩]) s.now), (lb, L1 w k (s.E ++ [⟨m, gd, tt⟩]) s.now), (mb, mM W G s.now z)] ++ [(q.1.1, MB.cells (evC (s.E ++ [⟨m, gd, tt⟩])) (q.1.2 * 3) 70)]) e3.symm
    · have cA := Add_bad rb lb w k (s.now / w) s.now (sG (winP s.now w k) s.E) (sT (winP s.now w k) s.E) gd tt (slG (s.now / w) w k s.E) (slT (s.now / w) w k s.E) at_ hw hk1 hk2 (by omega) hs (by rw [codeAB]; exact hc)
      rw [codeAB] at cA
      have cB := refAdd_bad mb W G k w s.now gd tt s.E s.o at_ hg hgo h0 hE (by omega) h.ok hmb (by omega) (by omega) ht hc
      refine (does_adds rb lb mb gd tt at_ _ _ _ _ _ _ _ _ [] hne cA cB).mono ?_
      rintro r F' ⟨e1, e2⟩
      exact ⟨⟨s, h.up⟩, e1, e2⟩
  by_cases k3 : kind = 3
  · subst k3
    refine (does_reset rb lb mb gd tt at_ _ _ _ _ W G s.now _ _ hne (Reset_ct rb lb w k (s.now / w) s.now _ _ _ _ hne.1 hk1 hk2)).mono ?_
    rintro r F' ⟨e1, e2⟩
    exact ⟨⟨⟨[], s.now, none⟩, ⟨h0, fun e he => (by cases he), fun e he => (by cases he), by simp, by simp [sT], rfl⟩⟩, e1, e2⟩
  · refine (does_none rb lb mb gd tt kind at_ _ _ _ _ ⟨k1, k2, k3⟩).mono ?_
    rintro r F' ⟨e1, e2⟩
    exact ⟨⟨s, h.up⟩, e1, e2⟩
end Go.Proofs.Ytbnkmhlnoaebcaa
