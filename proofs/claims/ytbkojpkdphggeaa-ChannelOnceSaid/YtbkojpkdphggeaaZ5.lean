/-
  The walks and the laws that the statement leans on, part 5.
-/
import Derived.Test.YtbkojpkdphggeaaZ4
namespace Go.Proofs.Ytbkojpkdphggeaa
open Go
set_option linter.unusedVariables false
set_option linter.unusedSimpArgs false
set_option linter.defProp false
theorem fr0 : ¬ ((1 : Nat) = 0) := Nat.one_ne_zero
theorem fr0S : Sm (¬ ((1 : Nat) = 0)) := Sm.mk Nat.one_ne_zero
def TFTxC :=
  And.intro (And.intro tyc4 (And.intro zmb4 tyc21)) (And.intro zmb21 (And.intro Try.underlying4 Try.underlying21))
def letB (r : Int) : Bool := decide ((97 ≤ r ∧ r ≤ 122) ∨ (65 ≤ r ∧ r ≤ 90) ∨ (192 ≤ r ∧ r ≤ 591 ∧ r ≠ 215 ∧ r ≠ 247) ∨ (880 ≤ r ∧ r ≤ 1279))
def digB (r : Int) : Bool := decide (48 ≤ r ∧ r ≤ 57)
theorem let_cases (r : Int) : ∃ b1 b2 b3 b4 b5 b6 b7 b8 b9 b10 b11 b12 : Bool, decide (r ≥ 97) = b1 ∧ decide (r ≤ 122) = b2 ∧ decide (r ≥ 65) = b3 ∧ decide (r ≤ 90) = b4 ∧ (r == 215) = b5 ∧ (r == 247) = b6 ∧ decide (r ≥ 192) = b7 ∧ decide (r ≤ 591) = b8 ∧ decide (r ≥ 880) = b9 ∧ decide (r ≤ 1279) = b10 ∧ (r != 215) = b11 ∧ (r != 247) = b12 ∧
    ((b1 = false ∧ b2 = true ∧ b3 = false ∧ b4 = true ∧ b5 = false ∧ b6 = false ∧ b7 = false ∧ b8 = true ∧ b9 = false ∧ b10 = true ∧ b11 = true ∧ b12 = true ∧ letB r = false) ∨
     (b1 = false ∧ b2 = true ∧ b3 = true ∧ b4 = true ∧ b5 = false ∧ b6 = false ∧ b7 = false ∧ b8 = true ∧ b9 = false ∧ b10 = true ∧ b11 = true ∧ b12 = true ∧ letB r = true) ∨
     (b1 = false ∧ b2 = true ∧ b3 = true ∧ b4 = false ∧ b5 = false ∧ b6 = false ∧ b7 = false ∧ b8 = true ∧ b9 = false ∧ b10 = true ∧ b11 = true ∧ b12 = true ∧ letB r = false) ∨
     (b1 = true ∧ b2 = true ∧ b3 = true ∧ b4 = false ∧ b5 = false ∧ b6 = false ∧ b7 = false ∧ b8 = true ∧ b9 = false ∧ b10 = true ∧ b11 = true ∧ b12 = true ∧ letB r = true) ∨
     (b1 = true ∧ b2 = false ∧ b3 = true ∧ b4 = false ∧ b5 = false ∧ b6 = false ∧ b7 = false ∧ b8 = true ∧ b9 = false ∧ b10 = true ∧ b11 = true ∧ b12 = true ∧ letB r = false) ∨
     (b1 = true ∧ b2 = false ∧ b3 = true ∧ b4 = false ∧ b5 = true ∧ b6 = false ∧ b7 = true ∧ b8 = true ∧ b9 = false ∧ b10 = true ∧ b11 = false ∧ b12 = true ∧ letB r = false) ∨
     (b1 = true ∧ b2 = false ∧ b3 = true ∧ b4 = false ∧ b5 = false ∧ b6 = true ∧ b7 = true ∧ b8 = true ∧ b9 = false ∧ b10 = true ∧ b11 = true ∧ b12 = false ∧ letB r = false) ∨
     (b1 = true ∧ b2 = false ∧ b3 = true ∧ b4 = false ∧ b5 = false ∧ b6 = false ∧ b7 = true ∧ b8 = true ∧ b9 = false ∧ b10 = true ∧ b11 = true ∧ b12 = true ∧ letB r = true) ∨
     (b1 = true ∧ b2 = false ∧ b3 = true ∧ b4 = false ∧ b5 = false ∧ b6 = false ∧ b7 = true ∧ b8 = false ∧ b9 = false ∧ b10 = true ∧ b11 = true ∧ b12 = true ∧ letB r = false) ∨
     (b1 = true ∧ b2 = false ∧ b3 = true ∧ b4 = false ∧ b5 = false ∧ b6 = false ∧ b7 = true ∧ b8 = false ∧ b9 = true ∧ b10 = true ∧ b11 = true ∧ b12 = true ∧ letB r = true) ∨
     (b1 = true ∧ b2 = false ∧ b3 = true ∧ b4 = false ∧ b5 = false ∧ b6 = false ∧ b7 = true ∧ b8 = false ∧ b9 = true ∧ b10 = false ∧ b11 = true ∧ b12 = true ∧ letB r = false)) := by
  refine ⟨_, _, _, _, _, _, _, _, _, _, _, _, rfl, rfl, rfl, rfl, rfl, rfl, rfl, rfl, rfl, rfl, rfl, rfl, ?_⟩
  by_cases h0 : r < 65
  · exact .inl ⟨decide_eq_false (by omega), decide_eq_true (by omega), decide_eq_false (by omega), decide_eq_true (by omega), beq_eq_false_iff_ne.2 (by omega), beq_eq_false_iff_ne.2 (by omega), decide_eq_false (by omega), decide_eq_true (by omega), decide_eq_false (by omega), decide_eq_true (by omega), bne_iff_ne.2 (by omega), bne_iff_ne.2 (by omega), decide_eq_false (by omega)⟩
  by_cases h1 : r ≤ 90
  · exact .inr (.inl ⟨decide_eq_false (by omega), decide_eq_true (by omega), decide_eq_true (by omega), decide_eq_true (by omega), beq_eq_false_iff_ne.2 (by omega), beq_eq_false_iff_ne.2 (by omega), decide_eq_false (by omega), decide_eq_true (by omega), decide_eq_false (by omega), decide_eq_true (by omega), bne_iff_ne.2 (by omega), bne_iff_ne.2 (by omega), decide_eq_true (by omega)⟩)
  by_cases h2 : r < 97
  · exact .inr (.inr (.inl ⟨decide_eq_false (by omega), decide_eq_true (by omega), decide_eq_true (by omega), decide_eq_false (by omega), beq_eq_false_iff_ne.2 (by omega), beq_eq_false_iff_ne.2 (by omega), decide_eq_false (by omega), decide_eq_true (by omega), decide_eq_false (by omega), decide_eq_true (by omega), bne_iff_ne.2 (by omega), bne_iff_ne.2 (by omega), decide_eq_false (by omega)⟩))
  by_cases h3 : r ≤ 122
  · exact .inr (.inr (.inr (.inl ⟨decide_eq_true (by omega), decide_eq_true (by omega), decide_eq_true (by omega), decide_eq_false (by omega), beq_eq_false_iff_ne.2 (by omega), beq_eq_false_iff_ne.2 (by omega), decide_eq_false (by omega), decide_eq_true (by omega), decide_eq_false (by omega), decide_eq_true (by omega), bne_iff_ne.2 (by omega), bne_iff_ne.2 (by omega), decide_eq_true (by omega)⟩)))
  by_cases h4 : r < 192
  · exact .inr (.inr (.inr (.inr (.inl ⟨decide_eq_true (by omega), decide_eq_false (by omega), decide_eq_true (by omega), decide_eq_false (by omega), beq_eq_false_iff_ne.2 (by omega), beq_eq_false_iff_ne.2 (by omega), decide_eq_false (by omega), decide_eq_true (by omega), decide_eq_false (by omega), decide_eq_true (by omega), bne_iff_ne.2 (by omega), bne_iff_ne.2 (by omega), decide_eq_false (by omega)⟩))))
  by_cases h5 : r = 215
  · exact .inr (.inr (.inr (.inr (.inr (.inl ⟨decide_eq_true (by omega), decide_eq_false (by omega), decide_eq_true (by omega), decide_eq_false (by omega), beq_iff_eq.2 (by omega), beq_eq_false_iff_ne.2 (by omega), decide_eq_true (by omega), decide_eq_true (by omega), decide_eq_false (by omega), decide_eq_true (by omega), by rw [bne_eq_false_iff_eq]; omega, bne_iff_ne.2 (by omega), decide_eq_false (by omega)⟩)))))
  by_cases h6 : r = 247
  · exact .inr (.inr (.inr (.inr (.inr (.inr (.inl ⟨decide_eq_true (by omega), decide_eq_false (by omega), decide_eq_true (by omega), decide_eq_false (by omega), beq_eq_false_iff_ne.2 (by omega), beq_iff_eq.2 (by omega), decide_eq_true (by omega), decide_eq_true (by omega), decide_eq_false (by omega), decide_eq_true (by omega), bne_iff_ne.2 (by omega), by rw [bne_eq_false_iff_eq]; omega, decide_eq_false (by omega)⟩))))))
  by_cases h7 : r ≤ 591
  · exact .inr (.inr (.inr (.inr (.inr (.inr (.inr (.inl ⟨decide_eq_true (by omega), decide_eq_false (by omega), decide_eq_true (by omega), decide_eq_false (by omega), beq_eq_false_iff_ne.2 (by omega), beq_eq_false_iff_ne.2 (by omega), decide_eq_true (by omega), decide_eq_true (by omega), decide_eq_false (by omega), decide_eq_true (by omega), bne_iff_ne.2 (by omega), bne_iff_ne.2 (by omega), decide_eq_true (by omega)⟩)))))))
  by_cases h8 : r < 880
  · exact .inr (.inr (.inr (.inr (.inr (.inr (.inr (.inr (.inl ⟨decide_eq_true (by omega), decide_eq_false (by omega), decide_eq_true (by omega), decide_eq_false (by omega), beq_eq_false_iff_ne.2 (by omega), beq_eq_false_iff_ne.2 (by omega), decide_eq_true (by omega), decide_eq_false (by omega), decide_eq_false (by omega), decide_eq_true (by omega), bne_iff_ne.2 (by omega), bne_iff_ne.2 (by omega), decide_eq_false (by omega)⟩))))))))
  by_cases h9 : r ≤ 1279
  · exact .inr (.inr (.inr (.inr (.inr (.inr (.inr (.inr (.inr (.inl ⟨decide_eq_true (by omega), decide_eq_false (by omega), decide_eq_true (by omega), decide_eq_false (by omega), beq_eq_false_iff_ne.2 (by omega), beq_eq_false_iff_ne.2 (by omega), decide_eq_true (by omega), decide_eq_false (by omega), decide_eq_true (by omega), decide_eq_true (by omega), bne_iff_ne.2 (by omega), bne_iff_ne.2 (by omega), decide_eq_true (by omega)⟩)))))))))
  exact .inr (.inr (.inr (.inr (.inr (.inr (.inr (.inr (.inr (.inr (⟨decide_eq_true (by omega), decide_eq_false (by omega), decide_eq_true (by omega), decide_eq_false (by omega), beq_eq_false_iff_ne.2 (by omega), beq_eq_false_iff_ne.2 (by omega), decide_eq_true (by omega), decide_eq_false (by omega), decide_eq_true (by omega), decide_eq_false (by omega), bne_iff_ne.2 (by omega), bne_iff_ne.2 (by omega), decide_eq_false (by omega)⟩))))))))))
theorem letter_ct (r : Int) : ACt Try.prog 46 [iv .i32 r] [] (Fn (bv (letB r))) := by
  obtain ⟨b1, b2, b3, b4, b5, b6, b7, b8, b9, b10, b11, b12, q1, q2, q3, q4, q5, q6, q7, q8, q9, q10, q11, q12, h⟩ := let_cases r
  rcases h with ⟨rfl, rfl, rfl, rfl, rfl, rfl, rfl, rfl, rfl, rfl, rfl, rfl, e⟩ | ⟨rfl, rfl, rfl, rfl, rfl, rfl, rfl, rfl, rfl, rfl, rfl, rfl, e⟩ | ⟨rfl, rfl, rfl, rfl, rfl, rfl, rfl, rfl, rfl, rfl, rfl, rfl, e⟩ | ⟨rfl, rfl, rfl, rfl, rfl, rfl, rfl, rfl, rfl, rfl, rfl, rfl, e⟩ | ⟨rfl, rfl, rfl, rfl, rfl, rfl, rfl, rfl, rfl, rfl, rfl, rfl, e⟩ | ⟨rfl, rfl, rfl, rfl, rfl, rfl, rfl, rfl, rfl, rfl, rfl, rfl, e⟩ | ⟨rfl, rfl, rfl, rfl, rfl, rfl, rfl, rfl, rfl, rfl, rfl, rfl, e⟩ | ⟨rfl, rfl, rfl, rfl, rfl, rfl, rfl, rfl, rfl, rfl, rfl, rfl, e⟩ | ⟨rfl, rfl, rfl, rfl, rfl, rfl, rfl, rfl, rfl, rfl, rfl, rfl, e⟩ | ⟨rfl, rfl, rfl, rfl, rfl, rfl, rfl, rfl, rfl, rfl, rfl, rfl, e⟩ | ⟨rfl, rfl, rfl, rfl, rfl, rfl, rfl, rfl, rfl, rfl, rfl, rfl, e⟩
  all_goals
    rw [e]
    refine ACt.intro Try.func46 rfl (by kernel_rfl) (by simp [Try.ntmps46]) (fun cx => ?_)
    simp only [argE, Try.ntmps46, Try.results46]
  all_goals (
      first | (have FRx := FR; clear FRx) | have FR := fr0S
      repeat' first | (refine Sm.mk ?_; try simp -dsimp only [ZK, rvc, drawF, headN, pureH, stp, dvc, calleeOf, gcall, pev, eff, newB, okd, og, ogs, ogo, ogp, slv, bltv, opd, litv, strip, one, both, putE, St.put, look, gdOf, gdv, picka, pickv, pickw, binv, bini, bins, binb, binp, binq, isSlT, bina, shp, eqCells, unv, convv, nilv, faddv, addp, idxav, idxp, load1, load1m, loadn, loadnm, loadv, hget, hset, hrep, hdel, slicev, slice3v, bnd, shift1, lenv, capv, IntKind.bits, extractv, fieldv, indexv, min2v, max2v, mkiv, tasv, tasz, cellsA, fillA, buildv, stC, oneC, rowMB, intsA, plN, appE, appZ, appC, appS, srcB, appNZ, appNC, VwL, srcC, srcZ, srcM, isBoolT, isPtrT, isSliceT, uOk, Value.oneCell', Nat.reducePow, Int.reducePow, Nat.reduceAdd, Nat.reduceMul, Nat.reduceSub, Nat.reduceLT, Nat.reduceLeDiff, Nat.reduceEqDiff, Nat.reduceBEq, Nat.reduceDiv, Nat.reduceMod, ↓reduceIte, reduceCtorEq, Int.reduceToNat, Int.reduceLT, Int.reduceLE, TFTxC, SeqQ, BlkQ, LoopQ, BodyQ, q1, q2, q3, q4, q5, q6, q7, q8, q9, q10, q11, q12, FR.out]) | refine WP.seq fun K hK => ?_ | refine WP.region (rvc_sound _ _ (Sm.out ?_)) | refine WP.drawK rfl mixed (by decide +kernel) (Sm.out ?_) | (refine Ob.mk ?_; focus (first | assumption | omega | decide | trivial | (intro hob; simp only [hob, ZF]; done) | (intros; (repeat' refine And.intro ?_ ?_) <;> first | assumption | omega | trivial | decide) | (intros; simp only [ZE] at *; (repeat' refine And.intro ?_ ?_) <;> first | assumption | omega | trivial))) | refine And.intro (Ob.out ?_) ?_ | refine WP.block ?_ | (refine WP.cond rfl (fun hc => ?_) (fun hc => ?_) <;> (try simp only [ZC, reduceCtorEq, ZD] at hc) <;> (try exact absurd hc (by decide)) <;> (try (exfalso; omega))) | ((first | refine WP.skip ?_ | refine WP.exit ?_); simp only [SeqQ, BlkQ, LoopQ, BodyQ, ↓reduceIte, Nat.reduceEqDiff, reduceCtorEq, look, true_and]) | refine WP.ret (Sm.out ?_) | (first | refine ExG.no (Sm.out ?_) | refine Or.inl (ExG.no (Sm.out ?_)) | refine Or.inl (And.intro (fun hg => absurd hg (by decide)) (ExG.no (Sm.out ?_)))) | (refine Rt.mk ?_; refine And.intro ?_ ?_ <;> (intro hg; first | exact absurd hg (by decide) | refine Sm.out ?_)) | (refine Nu.mk ?_; first | (fail_if_success have := nb1); intro nb1 | (fail_if_success have := nb2); intro nb2 | (fail_if_success have := nb3); intro nb3 | intro nbz) | (refine Fr.mk ?_; intro hfr; (first | (have hFRb : _ ≤ _ ∧ _ ≤ _ := And.intro hfr.1 hfr.2.1) | (have hFRb : _ ≤ _ := hfr.1) | skip); replace FR := Sm.mk (And.intro hfr FR.out); clear hfr; refine Sm.out ?_) | refine Two.mk ?_ ?_ | (refine Cs.mk ?_; intro hcs; first | exact False.elim hcs | (exfalso; omega) | (refine Sm.out ?_)) | go_step | omega | (simp only [maxLen_eq]; omega))
  all_goals (refine OutQ.all ?_ ?_; (focus (simp only [resv, ZK, look, loadv, loadn, loadnm, load1, load1m, hget, ↓reduceIte, Nat.reduceEqDiff, Nat.reduceAdd, Nat.reduceMul, Nat.reduceLeDiff, Nat.reduceLT, reduceCtorEq, TFTxC])); (try simp only [resv, resA, Fn, ZK, look, loadv, loadn, loadnm, load1, load1m, hget, ↓reduceIte, Nat.reduceEqDiff, Nat.reduceAdd, Nat.reduceMul, Nat.reduceLeDiff, Nat.reduceLT, reduceCtorEq, TFTxC]); (try simp [resA, Fn, look]))
theorem digit_ct (r : Int) : ACt Try.prog 47 [iv .i32 r] [] (Fn (bv (digB r))) := by
  unfold digB
  by_cases h1 : 48 ≤ r
  · have q1 : decide (r ≥ 48) = true := decide_eq_true h1
    by_cases h2 : r ≤ 57
    · have q2 : decide (r ≤ 57) = true := decide_eq_true h2
      rw [decide_eq_true (⟨h1, h2⟩ : 48 ≤ r ∧ r ≤ 57)]
      refine ACt.intro Try.func47 rfl (by kernel_rfl) (by simp [Try.ntmps47]) (fun cx => ?_)
      simp only [argE, Try.ntmps47, Try.results47]
      first | (have FRx := FR; clear FRx) | have FR := fr0S
      repeat' first | (refine Sm.mk ?_; try simp -dsimp only [ZK, rvc, drawF, headN, pureH, stp, dvc, calleeOf, gcall, pev, eff, newB, okd, og, ogs, ogo, ogp, slv, bltv, opd, litv, strip, one, both, putE, St.put, look, gdOf, gdv, picka, pickv, pickw, binv, bini, bins, binb, binp, binq, isSlT, bina, shp, eqCells, unv, convv, nilv, faddv, addp, idxav, idxp, load1, load1m, loadn, loadnm, loadv, hget, hset, hrep, hdel, slicev, slice3v, bnd, shift1, lenv, capv, IntKind.bits, extractv, fieldv, indexv, min2v, max2v, mkiv, tasv, tasz, cellsA, fillA, buildv, stC, oneC, rowMB, intsA, plN, appE, appZ, appC, appS, srcB, appNZ, appNC, VwL, srcC, srcZ, srcM, isBoolT, isPtrT, isSliceT, uOk, Value.oneCell', Nat.reducePow, Int.reducePow, Nat.reduceAdd, Nat.reduceMul, Nat.reduceSub, Nat.reduceLT, Nat.reduceLeDiff, Nat.reduceEqDiff, Nat.reduceBEq, Nat.reduceDiv, Nat.reduceMod, ↓reduceIte, reduceCtorEq, Int.reduceToNat, Int.reduceLT, Int.reduceLE, TFTxC, SeqQ, BlkQ, LoopQ, BodyQ, q1, q2, FR.out]) | refine WP.seq fun K hK => ?_ | refine WP.region (rvc_sound _ _ (Sm.out ?_)) | refine WP.drawK rfl mixed (by decide +kernel) (Sm.out ?_) | (refine Ob.mk ?_; focus (first | assumption | omega | decide | trivial | (intro hob; simp only [hob, ZF]; done) | (intros; (repeat' refine And.intro ?_ ?_) <;> first | assumption | omega | trivial | decide) | (intros; simp only [ZE] at *; (repeat' refine And.intro ?_ ?_) <;> first | assumption | omega | trivial))) | refine And.intro (Ob.out ?_) ?_ | refine WP.block ?_ | (refine WP.cond rfl (fun hc => ?_) (fun hc => ?_) <;> (try simp only [ZC, reduceCtorEq, ZD] at hc) <;> (try exact absurd hc (by decide)) <;> (try (exfalso; omega))) | ((first | refine WP.skip ?_ | refine WP.exit ?_); simp only [SeqQ, BlkQ, LoopQ, BodyQ, ↓reduceIte, Nat.reduceEqDiff, reduceCtorEq, look, true_and]) | refine WP.ret (Sm.out ?_) | (first | refine ExG.no (Sm.out ?_) | refine Or.inl (ExG.no (Sm.out ?_)) | refine Or.inl (And.intro (fun hg => absurd hg (by decide)) (ExG.no (Sm.out ?_)))) | (refine Rt.mk ?_; refine And.intro ?_ ?_ <;> (intro hg; first | exact absurd hg (by decide) | refine Sm.out ?_)) | (refine Nu.mk ?_; first | (fail_if_success have := nb1); intro nb1 | (fail_if_success have := nb2); intro nb2 | (fail_if_success have := nb3); intro nb3 | intro nbz) | (refine Fr.mk ?_; intro hfr; (first | (have hFRb : _ ≤ _ ∧ _ ≤ _ := And.intro hfr.1 hfr.2.1) | (have hFRb : _ ≤ _ := hfr.1) | skip); replace FR := Sm.mk (And.intro hfr FR.out); clear hfr; refine Sm.out ?_) | refine Two.mk ?_ ?_ | (refine Cs.mk ?_; intro hcs; first | exact False.elim hcs | (exfalso; omega) | (refine Sm.out ?_)) | go_step | omega | (simp only [maxLen_eq]; omega)
      (refine OutQ.all ?_ ?_; (focus (simp only [resv, ZK, look, loadv, loadn, loadnm, load1, load1m, hget, ↓reduceIte, Nat.reduceEqDiff, Nat.reduceAdd, Nat.reduceMul, Nat.reduceLeDiff, Nat.reduceLT, reduceCtorEq, TFTxC])); (try simp only [resv, resA, Fn, ZK, look, loadv, loadn, loadnm, load1, load1m, hget, ↓reduceIte, Nat.reduceEqDiff, Nat.reduceAdd, Nat.reduceMul, Nat.reduceLeDiff, Nat.reduceLT, reduceCtorEq, TFTxC]); (try simp [resA, Fn, look]))
    · have q2 : decide (r ≤ 57) = false := decide_eq_false h2
      rw [decide_eq_false (fun h => h2 h.2 : ¬ (48 ≤ r ∧ r ≤ 57))]
      refine ACt.intro Try.func47 rfl (by kernel_rfl) (by simp [Try.ntmps47]) (fun cx => ?_)
      simp only [argE, Try.ntmps47, Try.results47]
      first | (have FRx := FR; clear FRx) | have FR := fr0S
      repeat' first | (refine Sm.mk ?_; try simp -dsimp only [ZK, rvc, drawF, headN, pureH, stp, dvc, calleeOf, gcall, pev, eff, newB, okd, og, ogs, ogo, ogp, slv, bltv, opd, litv, strip, one, both, putE, St.put, look, gdOf, gdv, picka, pickv, pickw, binv, bini, bins, binb, binp, binq, isSlT, bina, shp, eqCells, unv, convv, nilv, faddv, addp, idxav, idxp, load1, load1m, loadn, loadnm, loadv, hget, hset, hrep, hdel, slicev, slice3v, bnd, shift1, lenv, capv, IntKind.bits, extractv, fieldv, indexv, min2v, max2v, mkiv, tasv, tasz, cellsA, fillA, buildv, stC, oneC, rowMB, intsA, plN, appE, appZ, appC, appS, srcB, appNZ, appNC, VwL, srcC, srcZ, srcM, isBoolT, isPtrT, isSliceT, uOk, Value.oneCell', Nat.reducePow, Int.reducePow, Nat.reduceAdd, Nat.reduceMul, Nat.reduceSub, Nat.reduceLT, Nat.reduceLeDiff, Nat.reduceEqDiff, Nat.reduceBEq, Nat.reduceDiv, Nat.reduceMod, ↓reduceIte, reduceCtorEq, Int.reduceToNat, Int.reduceLT, Int.reduceLE, TFTxC, SeqQ, BlkQ, LoopQ, BodyQ, q1, q2, FR.out]) | refine WP.seq fun K hK => ?_ | refine WP.region (rvc_sound _ _ (Sm.out ?_)) | refine WP.drawK rfl mixed (by decide +kernel) (Sm.out ?_) | (refine Ob.mk ?_; focus (first | assumption | omega | decide | trivial | (intro hob; simp only [hob, ZF]; done) | (intros; (repeat' refine And.intro ?_ ?_) <;> first | assumption | omega | trivial | decide) | (intros; simp only [ZE] at *; (repeat' refine And.intro ?_ ?_) <;> first | assumption | omega | trivial))) | refine And.intro (Ob.out ?_) ?_ | refine WP.block ?_ | (refine WP.cond rfl (fun hc => ?_) (fun hc => ?_) <;> (try simp only [ZC, reduceCtorEq, ZD] at hc) <;> (try exact absurd hc (by decide)) <;> (try (exfalso; omega))) | ((first | refine WP.skip ?_ | refine WP.exit ?_); simp only [SeqQ, BlkQ, LoopQ, BodyQ, ↓reduceIte, Nat.reduceEqDiff, reduceCtorEq, look, true_and]) | refine WP.ret (Sm.out ?_) | (first | refine ExG.no (Sm.out ?_) | refine Or.inl (ExG.no (Sm.out ?_)) | refine Or.inl (And.intro (fun hg => absurd hg (by decide)) (ExG.no (Sm.out ?_)))) | (refine Rt.mk ?_; refine And.intro ?_ ?_ <;> (intro hg; first | exact absurd hg (by decide) | refine Sm.out ?_)) | (refine Nu.mk ?_; first | (fail_if_success have := nb1); intro nb1 | (fail_if_success have := nb2); intro nb2 | (fail_if_success have := nb3); intro nb3 | intro nbz) | (refine Fr.mk ?_; intro hfr; (first | (have hFRb : _ ≤ _ ∧ _ ≤ _ := And.intro hfr.1 hfr.2.1) | (have hFRb : _ ≤ _ := hfr.1) | skip); replace FR := Sm.mk (And.intro hfr FR.out); clear hfr; refine Sm.out ?_) | refine Two.mk ?_ ?_ | (refine Cs.mk ?_; intro hcs; first | exact False.elim hcs | (exfalso; omega) | (refine Sm.out ?_)) | go_step | omega | (simp only [maxLen_eq]; omega)
      (refine OutQ.all ?_ ?_; (focus (simp only [resv, ZK, look, loadv, loadn, loadnm, load1, load1m, hget, ↓reduceIte, Nat.reduceEqDiff, Nat.reduceAdd, Nat.reduceMul, Nat.reduceLeDiff, Nat.reduceLT, reduceCtorEq, TFTxC])); (try simp only [resv, resA, Fn, ZK, look, loadv, loadn, loadnm, load1, load1m, hget, ↓reduceIte, Nat.reduceEqDiff, Nat.reduceAdd, Nat.reduceMul, Nat.reduceLeDiff, Nat.reduceLT, reduceCtorEq, TFTxC]); (try simp [resA, Fn, look]))
  · have q1 : decide (r ≥ 48) = false := decide_eq_false h1
    rw [decide_eq_false (fun h => h1 h.1 : ¬ (48 ≤ r ∧ r ≤ 57))]
    refine ACt.intro Try.func47 rfl (by kernel_rfl) (by simp [Try.ntmps47]) (fun cx => ?_)
    simp only [argE, Try.ntmps47, Try.results47]
    first | (have FRx := FR; clear FRx) | have FR := fr0S
    repeat' first | (refine Sm.mk ?_; try simp -dsimp only [ZK, rvc, drawF, headN, pureH, stp, dvc, calleeOf, gcall, pev, eff, newB, okd, og, ogs, ogo, ogp, slv, bltv, opd, litv, strip, one, both, putE, St.put, look, gdOf, gdv, picka, pickv, pickw, binv, bini, bins, binb, binp, binq, isSlT, bina, shp, eqCells, unv, convv, nilv, faddv, addp, idxav, idxp, load1, load1m, loadn, loadnm, loadv, hget, hset, hrep, hdel, slicev, slice3v, bnd, shift1, lenv, capv, IntKind.bits, extractv, fieldv, indexv, min2v, max2v, mkiv, tasv, tasz, cellsA, fillA, buildv, stC, oneC, rowMB, intsA, plN, appE, appZ, appC, appS, srcB, appNZ, appNC, VwL, srcC, srcZ, srcM, isBoolT, isPtrT, isSliceT, uOk, Value.oneCell', Nat.reducePow, Int.reducePow, Nat.reduceAdd, Nat.reduceMul, Nat.reduceSub, Nat.reduceLT, Nat.reduceLeDiff, Nat.reduceEqDiff, Nat.reduceBEq, Nat.reduceDiv, Nat.reduceMod, ↓reduceIte, reduceCtorEq, Int.reduceToNat, Int.reduceLT, Int.reduceLE, TFTxC, SeqQ, BlkQ, LoopQ, BodyQ, q1, FR.out]) | refine WP.seq fun K hK => ?_ | refine WP.region (rvc_sound _ _ (Sm.out ?_)) | refine WP.drawK rfl mixed (by decide +kernel) (Sm.out ?_) | (refine Ob.mk ?_; focus (first | assumption | omega | decide | trivial | (intro hob; simp only [hob, ZF]; done) | (intros; (repeat' refine And.intro ?_ ?_) <;> first | assumption | omega | trivial | decide) | (intros; simp only [ZE] at *; (repeat' refine And.intro ?_ ?_) <;> first | assumption | omega | trivial))) | refine And.intro (Ob.out ?_) ?_ | refine WP.block ?_ | (refine WP.cond rfl (fun hc => ?_) (fun hc => ?_) <;> (try simp only [ZC, reduceCtorEq, ZD] at hc) <;> (try exact absurd hc (by decide)) <;> (try (exfalso; omega))) | ((first | refine WP.skip ?_ | refine WP.exit ?_); simp only [SeqQ, BlkQ, LoopQ, BodyQ, ↓reduceIte, Nat.reduceEqDiff, reduceCtorEq, look, true_and]) | refine WP.ret (Sm.out ?_) | (first | refine ExG.no (Sm.out ?_) | refine Or.inl (ExG.no (Sm.out ?_)) | refine Or.inl (And.intro (fun hg => absurd hg (by decide)) (ExG.no (Sm.out ?_)))) | (refine Rt.mk ?_; refine And.intro ?_ ?_ <;> (intro hg; first | exact absurd hg (by decide) | refine Sm.out ?_)) | (refine Nu.mk ?_; first | (fail_if_success have := nb1); intro nb1 | (fail_if_success have := nb2); intro nb2 | (fail_if_success have := nb3); intro nb3 | intro nbz) | (refine Fr.mk ?_; intro hfr; (first | (have hFRb : _ ≤ _ ∧ _ ≤ _ := And.intro hfr.1 hfr.2.1) | (have hFRb : _ ≤ _ := hfr.1) | skip); replace FR := Sm.mk (And.intro hfr FR.out); clear hfr; refine Sm.out ?_) | refine Two.mk ?_ ?_ | (refine Cs.mk ?_; intro hcs; first | exact False.elim hcs | (exfalso; omega) | (refine Sm.out ?_)) | go_step | omega | (simp only [maxLen_eq]; omega)
    (refine OutQ.all ?_ ?_; (focus (simp only [resv, ZK, look, loadv, loadn, loadnm, load1, load1m, hget, ↓reduceIte, Nat.reduceEqDiff, Nat.reduceAdd, Nat.reduceMul, Nat.reduceLeDiff, Nat.reduceLT, reduceCtorEq, TFTxC])); (try simp only [resv, resA, Fn, ZK, look, loadv, loadn, loadnm, load1, load1m, hget, ↓reduceIte, Nat.reduceEqDiff, Nat.reduceAdd, Nat.reduceMul, Nat.reduceLeDiff, Nat.reduceLT, reduceCtorEq, TFTxC]); (try simp [resA, Fn, look]))
def ctB (zs : List Int) (k : Nat) : Prop := k < zs.length ∧ 128 ≤ zs.getD k 0 ∧ zs.getD k 0 ≤ 191
def nB (b : Int) : Nat := if 192 ≤ b ∧ b < 224 then 1 else if 224 ≤ b ∧ b < 240 then 2 else if 240 ≤ b ∧ b < 248 then 3 else 0
def bsR (n : Nat) : Int := [0, 192, 224, 240].getD n 0
def lsR (n : Nat) : Int := [0, 128, 2048, 65536].getD n 0
def cP (zs : List Int) (i n : Nat) : Nat → Int
  | 0 => zs.getD i 0 - bsR n
  | k + 1 => 64 * cP zs i n k + zs.getD (i + (k + 1)) 0 - 128
def allC (zs : List Int) (i n : Nat) : Prop := ∀ k, 1 ≤ k → k ≤ n → ctB zs (i + k)
def fitR (n : Nat) (c : Int) : Prop := lsR n ≤ c ∧ c ≤ 1114111 ∧ ¬ (55296 ≤ c ∧ c < 57344)
open Classical in
noncomputable def elR (zs : List Int) (i : Nat) : Int × Nat :=
  if zs.getD i 0 < 128 then (zs.getD i 0, 1)
  else if nB (zs.getD i 0) ≠ 0 ∧ allC zs i (nB (zs.getD i 0)) ∧ fitR (nB (zs.getD i 0)) (cP zs i (nB (zs.getD i 0)) (nB (zs.getD i 0))) then (cP zs i (nB (zs.getD i 0)) (nB (zs.getD i 0)), nB (zs.getD i 0) + 1) else (-1, 1)
theorem ct_cases {zs : List Int} (hb : By zs) (k : Nat) : (decide (k < (bstr zs).size) && (((bstr zs).get! k).toNat / 64 == 2)) = true ↔ ctB zs k := by
  rw [bstr_size]
  simp only [Bool.and_eq_true, decide_eq_true_eq, beq_iff_eq]
  unfold ctB
  constructor
  · rintro ⟨h1, h2⟩
    have := bstr_get hb h1
    exact ⟨h1, by omega, by omega⟩
  · rintro ⟨h1, h2, h3⟩
    have := bstr_get hb h1
    exact ⟨h1, by omega⟩
theorem valid_iff (c : Nat) : Utf8.valid (c : Int) = true ↔ (c : Int) ≤ 1114111 ∧ ¬ (55296 ≤ (c : Int) ∧ (c : Int) < 57344) := by
  unfold Utf8.valid
  simp only [Bool.and_eq_true, Bool.or_eq_true, decide_eq_true_eq]
  omega
theorem el_dec {zs : List Int} (hb : By zs) {i : Nat} (h : i < zs.length) : ∃ r w, Utf8.decode (bstr zs) i = (r, w) ∧ r < 2000000 ∧ ((elR zs i = ((r : Int), w) ∧ 1 ≤ w ∧ w ≤ 4 ∧ i + w ≤ zs.length) ∨ (elR zs i = (-1, 1) ∧ r = 65533 ∧ w = 1)) := by
  have hg := bstr_get hb h
  have hb0 := hb i h
  have c1 := ct_cases hb (i + 1)
  have c2 := ct_cases hb (i + 2)
  have c3 := ct_cases hb (i + 3)
  obtain ⟨G, hG⟩ : ∃ G : Nat → Nat, ∀ k, ((bstr zs).get! k).toNat = G k := ⟨_, fun _ => rfl⟩
  rw [hG] at hg
  simp only [hG] at c1 c2 c3
  by_cases h0 : zs.getD i 0 < 128
  · refine ⟨_, _, dec_lo hb h h0, by omega, .inl ⟨?_, by decide, by decide, by omega⟩⟩
    unfold elR; rw [if_pos h0]
    congr 1; omega
  have g1 : ctB zs (i + 1) → ((G (i + 1) : Nat) : Int) = zs.getD (i + 1) 0 := fun hc => by rw [← hG]; exact bstr_get hb hc.1
  have g2 : ctB zs (i + 2) → ((G (i + 2) : Nat) : Int) = zs.getD (i + 2) 0 := fun hc => by rw [← hG]; exact bstr_get hb hc.1
  have g3 : ctB zs (i + 3) → ((G (i + 3) : Nat) : Int) = zs.getD (i + 3) 0 := fun hc => by rw [← hG]; exact bstr_get hb hc.1
  have bad : ∀ (hx : ¬ (nB (zs.getD i 0) ≠ 0 ∧ allC zs i (nB (zs.getD i 0)) ∧ fitR (nB (zs.getD i 0)) (cP zs i (nB (zs.getD i 0)) (nB (zs.getD i 0))))), elR zs i = (-1, 1) := fun hx => by
    unfold elR; rw [if_neg h0, if_neg hx]
  have good : ∀ n, nB (zs.getD i 0) = n → n ≠ 0 → allC zs i n → fitR n (cP zs i n n) → elR zs i = (cP zs i n n, n + 1) := fun n e hn ha hf => by
    subst e; unfold elR; rw [if_neg h0, if_pos ⟨hn, ha, hf⟩]
  have key : ∃ r w, Utf8.decode (bstr zs) i = (r, w) ∧ ((elR zs i = ((r : Int), w) ∧ 1 ≤ w ∧ w ≤ 4 ∧ i + w ≤ zs.length ∧ r < 2000000) ∨ (elR zs i = (-1, 1) ∧ r = 65533 ∧ w = 1)) := by
    unfold Utf8.decode
    simp only [Nat.add_zero, hG]
    generalize hm0 : G i = m0 at hg ⊢
    generalize hm1 : G (i + 1) = m1 at c1 g1 ⊢
    generalize hm2 : G (i + 2) = m2 at c2 g2 ⊢
    generalize hm3 : G (i + 3) = m3 at c3 g3 ⊢
    generalize hk1 : (decide (i + 1 < (bstr zs).size) && (m1 / 64 == 2)) = k1 at c1 ⊢
    generalize hk2 : (decide (i + 2 < (bstr zs).size) && (m2 / 64 == 2)) = k2 at c2 ⊢
    generalize hk3 : (decide (i + 3 < (bstr zs).size) && (m3 / 64 == 2)) = k3 at c3 ⊢
    rw [if_neg (by omega)]
    by_cases n1 : 192 ≤ zs.getD i 0 ∧ zs.getD i 0 < 224
    · have hn : nB (zs.getD i 0) = 1 := by unfold nB; rw [if_pos n1]
      have e6 : (m0 / 32 == 6) = true := beq_iff_eq.2 (by omega)
      have e14 : (m0 / 16 == 14) = false := beq_eq_false_iff_ne.2 (by omega)
      have e30 : (m0 / 8 == 30) = false := beq_eq_false_iff_ne.2 (by omega)
      rw [e6, e14, e30]
      cases k1
      · simp only [Bool.and_false, Bool.false_and, Bool.false_eq_true, if_false]
        refine ⟨_, _, rfl, .inr ⟨bad fun hx => ?_, rfl, rfl⟩⟩
        rw [hn] at hx
        have := c1.2 (hx.2.1 1 (by omega) (by omega)); cases this
      · have hc := c1.1 rfl
        have hz := g1 hc
        obtain ⟨_, hz1, hz2⟩ := hc
        have hall : allC zs i 1 := fun k h1 h2 => by rcases (show k = 1 by omega) with rfl; exact c1.1 rfl
        have hcp : cP zs i 1 1 = ((m0 % 32 * 64 + m1 % 64 : Nat) : Int) := by
          show 64 * (zs.getD i 0 - 192) + zs.getD (i + 1) 0 - 128 = _
          omega
        simp only [Bool.and_true, if_true, Bool.true_and]
        by_cases hv : m0 % 32 * 64 + m1 % 64 ≥ 128
        · rw [if_pos hv]
          refine ⟨_, _, rfl, .inl ⟨?_, by decide, by decide, by have := (c1.1 rfl).1; omega, by omega⟩⟩
          rw [good 1 hn (by decide) hall (by rw [hcp]; exact ⟨by show (128 : Int) ≤ _; omega, by omega, by omega⟩), hcp]
        · rw [if_neg hv]
          refine ⟨_, _, rfl, .inr ⟨bad fun hx => ?_, rfl, rfl⟩⟩
          rw [hn] at hx
          have := hx.2.2.1
          rw [hcp] at this
          have this : (128 : Int) ≤ _ := this
          omega
    have e6 : (m0 / 32 == 6) = false := beq_eq_false_iff_ne.2 (by omega)
    rw [e6]
    by_cases n2 : 224 ≤ zs.getD i 0 ∧ zs.getD i 0 < 240
    · have hn : nB (zs.getD i 0) = 2 := by unfold nB; rw [if_neg n1, if_pos n2]
      have e14 : (m0 / 16 == 14) = true := beq_iff_eq.2 (by omega)
      have e30 : (m0 / 8 == 30) = false := beq_eq_false_iff_ne.2 (by omega)
      rw [e14, e30]
      by_cases hk : k1 = true ∧ k2 = true
      · obtain ⟨rfl, rfl⟩ := hk
        have hc1 := c1.1 rfl
        have hc2 := c2.1 rfl
        have hz1 := g1 hc1
        have hz2 := g2 hc2
        have hall : allC zs i 2 := fun k h1 h2 => by rcases (by omega : k = 1 ∨ k = 2) with rfl | rfl; exact hc1; exact hc2
        have hcp : cP zs i 2 2 = ((m0 % 16 * 4096 + m1 % 64 * 64 + m2 % 64 : Nat) : Int) := by
          show 64 * (64 * (zs.getD i 0 - 224) + zs.getD (i + 1) 0 - 128) + zs.getD (i + 2) 0 - 128 = _
          have := hc1.2; have := hc2.2
          omega
        simp only [Bool.false_and, Bool.and_true, Bool.true_and, if_true, Bool.false_eq_true, if_false]
        by_cases hv : m0 % 16 * 4096 + m1 % 64 * 64 + m2 % 64 ≥ 2048 ∧ Utf8.valid ((m0 % 16 * 4096 + m1 % 64 * 64 + m2 % 64 : Nat) : Int) = true
        · rw [if_pos (by simp only [Bool.and_eq_true, decide_eq_true_eq]; exact hv)]
          have hv2 := (valid_iff _).1 hv.2
          refine ⟨_, _, rfl, .inl ⟨?_, by decide, by decide, by have := hc2.1; omega, by omega⟩⟩
          rw [good 2 hn (by decide) hall (by rw [hcp]; exact ⟨by show (2048 : Int) ≤ _; omega, hv2.1, hv2.2⟩), hcp]
        · rw [if_neg (by simp only [Bool.and_eq_true, decide_eq_true_eq]; exact hv)]
          refine ⟨_, _, rfl, .inr ⟨bad fun hx => ?_, rfl, rfl⟩⟩
          rw [hn] at hx
          obtain ⟨f1, f2, f3⟩ := hx.2.2
          rw [hcp] at f1 f2 f3
          have f1 : (2048 : Int) ≤ _ := f1
          exact hv ⟨by omega, (valid_iff _).2 ⟨f2, f3⟩⟩
      · have hk' : (k1 && k2) = false := by cases k1 <;> cases k2 <;> simp_all
        have hx' : elR zs i = (-1, 1) := bad fun hx => by
          rw [hn] at hx
          exact hk ⟨c1.2 (hx.2.1 1 (by omega) (by omega)), c2.2 (hx.2.1 2 (by omega) (by omega))⟩
        have hif : (false && k1) = false := rfl
        refine ⟨Utf8.runeError, 1, ?_, .inr ⟨hx', rfl, rfl⟩⟩
        simp only [Bool.false_and, Bool.true_and, hk', Bool.false_eq_true, if_false]
    have e14 : (m0 / 16 == 14) = false := beq_eq_false_iff_ne.2 (by omega)
    rw [e14]
    by_cases n3 : 240 ≤ zs.getD i 0 ∧ zs.getD i 0 < 248
    · have hn : nB (zs.getD i 0) = 3 := by unfold nB; rw [if_neg n1, if_neg n2, if_pos n3]
      have e30 : (m0 / 8 == 30) = true := beq_iff_eq.2 (by omega)
      rw [e30]
      by_cases hk : k1 = true ∧ k2 = true ∧ k3 = true
      · obtain ⟨rfl, rfl, rfl⟩ := hk
        have hc1 := c1.1 rfl
        have hc2 := c2.1 rfl
        have hc3 := c3.1 rfl
        have hz1 := g1 hc1
        have hz2 := g2 hc2
        have hz3 := g3 hc3
        have hall : allC zs i 3 := fun k h1 h2 => by rcases (by omega : k = 1 ∨ k = 2 ∨ k = 3) with rfl | rfl | rfl; exact hc1; exact hc2; exact hc3
        have hcp : cP zs i 3 3 = ((m0 % 8 * 262144 + m1 % 64 * 4096 + m2 % 64 * 64 + m3 % 64 : Nat) : Int) := by
          show 64 * (64 * (64 * (zs.getD i 0 - 240) + zs.getD (i + 1) 0 - 128) + zs.getD (i + 2) 0 - 128) + zs.getD (i + 3) 0 - 128 = _
          have := hc1.2; have := hc2.2; have := hc3.2
          omega
        simp only [Bool.false_and, Bool.and_true, Bool.true_and, if_true, Bool.false_eq_true, if_false]
        by_cases hv : m0 % 8 * 262144 + m1 % 64 * 4096 + m2 % 64 * 64 + m3 % 64 ≥ 65536 ∧ Utf8.valid ((m0 % 8 * 262144 + m1 % 64 * 4096 + m2 % 64 * 64 + m3 % 64 : Nat) : Int) = true
        · rw [if_pos (by simp only [Bool.and_eq_true, decide_eq_true_eq]; exact hv)]
          have hv2 := (valid_iff _).1 hv.2
          refine ⟨_, _, rfl, .inl ⟨?_, by decide, by decide, by have := hc3.1; omega, by omega⟩⟩
          rw [good 3 hn (by decide) hall (by rw [hcp]; exact ⟨by show (65536 : Int) ≤ _; omega, hv2.1, hv2.2⟩), hcp]
        · rw [if_neg (by simp only [Bool.and_eq_true, decide_eq_true_eq]; exact hv)]
          refine ⟨_, _, rfl, .inr ⟨bad fun hx => ?_, rfl, rfl⟩⟩
          rw [hn] at hx
          obtain ⟨f1, f2, f3⟩ := hx.2.2
          rw [hcp] at f1 f2 f3
          have f1 : (65536 : Int) ≤ _ := f1
          exact hv ⟨by omega, (valid_iff _).2 ⟨f2, f3⟩⟩
      · have hk' : (k1 && k2 && k3) = false := by cases k1 <;> cases k2 <;> cases k3 <;> simp_all
        have hx' : elR zs i = (-1, 1) := bad fun hx => by
          rw [hn] at hx
          exact hk ⟨c1.2 (hx.2.1 1 (by omega) (by omega)), c2.2 (hx.2.1 2 (by omega) (by omega)), c3.2 (hx.2.1 3 (by omega) (by omega))⟩
        refine ⟨Utf8.runeError, 1, ?_, .inr ⟨hx', rfl, rfl⟩⟩
        simp only [Bool.false_and, Bool.true_and, hk', Bool.false_eq_true, if_false]
    have e30 : (m0 / 8 == 30) = false := beq_eq_false_iff_ne.2 (by omega)
    rw [e30]
    have hn : nB (zs.getD i 0) = 0 := by unfold nB; rw [if_neg n1, if_neg n2, if_neg n3]
    refine ⟨Utf8.runeError, 1, ?_, .inr ⟨bad fun hx => hx.1 hn, rfl, rfl⟩⟩
    simp only [Bool.false_and, Bool.false_eq_true, if_false]
  obtain ⟨r, w, e, h1 | h1⟩ := key
  · exact ⟨r, w, e, h1.2.2.2.2, .inl ⟨h1.1, h1.2.1, h1.2.2.1, h1.2.2.2.1⟩⟩
  · exact ⟨r, w, e, by have := h1.2.1; omega, .inr h1⟩
noncomputable def rnF (zs : List Int) : Nat → Nat → List Int
  | 0, _ => []
  | f + 1, i => if i < zs.length then (elR zs i).1 :: rnF zs f (i + (elR zs i).2) else []
theorem rnF_succ (zs : List Int) (f i : Nat) : rnF zs (f + 1) i = if i < zs.length then (elR zs i).1 :: rnF zs f (i + (elR zs i).2) else [] := rfl
noncomputable def rn (zs : List Int) : List Int := rnF zs zs.length 0
def okN (n i : Nat) (x : Int) : Prop := letB x = true ∨ digB x = true ∨ (i ≠ n - 1 ∧ (x = 95 ∨ x = 45))
def NameP (L : List Int) : Prop := 0 < L.length ∧ L.length ≤ 24 ∧ letB (L.getD 0 0) = true ∧ ∀ i, i < L.length → okN L.length i (L.getD i 0)
open Classical in
noncomputable def nmB (L : List Int) : Bool := decide (NameP L)
open Classical in
theorem nmB_true {L : List Int} (h : NameP L) : nmB L = true := by unfold nmB; exact decide_eq_true h
open Classical in
theorem nmB_false {L : List Int} (h : ¬ NameP L) : nmB L = false := by unfold nmB; exact decide_eq_false h
def TFTxG :=
  And.intro (And.intro (And.intro tyc0 (And.intro tyc3 zmb3)) (And.intro (And.intro tyc4 zmb4) (And.intro tyc9 zmb9))) (And.intro (And.intro tyc21 (And.intro zmb21 Try.underlying0)) (And.intro (And.intro Try.underlying3 Try.underlying4) (And.intro Try.underlying9 Try.underlying21)))
def inP (q : Nat) (x : Int) : Prop := letB x = true ∨ (0 < q ∧ (digB x = true ∨ x = 95 ∨ x = 45))
structure NmG where
  i : Nat
  f : Nat
  A : List Int
  last : Int
theorem getD_last (A : List Int) (e : Int) : (A ++ [e]).getD A.length 0 = e := by simp [List.getD_eq_getElem?_getD]
theorem getD_app (A : List Int) (e : Int) {q : Nat} (h : q < A.length) : (A ++ [e]).getD q 0 = A.getD q 0 := by simp [List.getD_eq_getElem?_getD, List.getElem?_append_left h]
theorem getD_mid (A T : List Int) (e : Int) : (A ++ e :: T).getD A.length 0 = e := by simp [List.getD_eq_getElem?_getD]
theorem bad_rune : letB (-1) = false ∧ digB (-1) = false ∧ letB 65533 = false ∧ digB 65533 = false := by decide +kernel
theorem name_end (L : List Int) (last : Int) (h0 : 0 < L.length) (h24 : L.length ≤ 24) (hp : ∀ q, q < L.length → inP q (L.getD q 0)) (hl : last = L.getD (L.length - 1) 0) : nmB L = (letB last || digB last) := by
  cases h1 : letB last
  · cases h2 : digB last
    · refine nmB_false fun h => ?_
      have := h.2.2.2 (L.length - 1) (by omega)
      rw [← hl] at this
      rcases this with h3 | h3 | h3
      · rw [h1] at h3; cases h3
      · rw [h2] at h3; cases h3
      · exact h3.1 rfl
    · refine nmB_true ⟨h0, h24, ?_, fun i hi => ?_⟩
      · rcases hp 0 h0 with h | h
        · exact h
        · omega
      · rcases hp i hi with h | h
        · exact .inl h
        · by_cases he : i = L.length - 1
          · refine .inr (.inl ?_); rw [he, ← hl]; exact h2
          · rcases h.2 with h3 | h3
            · exact .inr (.inl h3)
            · exact .inr (.inr ⟨he, h3⟩)
  · refine nmB_true ⟨h0, h24, ?_, fun i hi => ?_⟩
    · rcases hp 0 h0 with h | h
      · exact h
      · omega
    · rcases hp i hi with h | h
      · exact .inl h
      · by_cases he : i = L.length - 1
        · refine .inl ?_; rw [he, ← hl]; exact h1
        · rcases h.2 with h3 | h3
          · exact .inr (.inl h3)
          · exact .inr (.inr ⟨he, h3⟩)
set_option maxHeartbeats 8000000 in
theorem name_ct (zs : List Int) (hb : By zs) (hl : zs.length ≤ 1000) : ACt Try.prog 43 [stz zs] [] (Fn (bv (nmB (rn zs)))) := by
  have hs := bstr_size zs
  have hel := fun i (h : i < zs.length) => el_dec hb h
  obtain ⟨B, hB⟩ : ∃ B, B = bstr zs := ⟨_, rfl⟩
  unfold stz
  rw [← hB] at hs ⊢
  simp only [← hB] at hel
  obtain ⟨L, hL⟩ : ∃ L, L = rn zs := ⟨_, rfl⟩
  rw [← hL]
  obtain ⟨R, hR⟩ : ∃ R, R = nmB L := ⟨_, rfl⟩
  rw [← hR]
  refine ACt.intro Try.func43 rfl (by kernel_rfl) (by simp [Try.ntmps43]) (fun cx => ?_)
  simp only [argE, Try.ntmps43, Try.results43]
  first | (have FRx := FR; clear FRx) | have FR := fr0S
  repeat' first | (refine Sm.mk ?_; try simp -dsimp only [ZK, rvc, drawF, headN, pureH, stp, dvc, calleeOf, gcall, pev, eff, newB, okd, og, ogs, ogo, ogp, slv, bltv, opd, litv, strip, one, both, putE, St.put, look, gdOf, gdv, picka, pickv, pickw, binv, bini, bins, binb, binp, binq, isSlT, bina, shp, eqCells, unv, convv, nilv, faddv, addp, idxav, idxp, load1, load1m, loadn, loadnm, loadv, hget, hset, hrep, hdel, slicev, slice3v, bnd, shift1, lenv, capv, IntKind.bits, extractv, fieldv, indexv, min2v, max2v, mkiv, tasv, tasz, cellsA, fillA, buildv, stC, oneC, rowMB, intsA, plN, appE, appZ, appC, appS, srcB, appNZ, appNC, VwL, srcC, srcZ, srcM, isBoolT, isPtrT, isSliceT, uOk, Value.oneCell', Nat.reducePow, Int.reducePow, Nat.reduceAdd, Nat.reduceMul, Nat.reduceSub, Nat.reduceLT, Nat.reduceLeDiff, Nat.reduceEqDiff, Nat.reduceBEq, Nat.reduceDiv, Nat.reduceMod, ↓reduceIte, reduceCtorEq, Int.reduceToNat, Int.reduceLT, Int.reduceLE, TFTxG, SeqQ, BlkQ, LoopQ, BodyQ, FR.out]) | refine WP.seq fun K hK => ?_ | refine WP.region (rvc_sound _ _ (Sm.out ?_)) | refine WP.drawK rfl mixed (by decide +kernel) (Sm.out ?_) | (refine Ob.mk ?_; focus (first | assumption | omega | decide | trivial | (intro hob; simp only [hob, ZF]; done) | (intros; (repeat' refine And.intro ?_ ?_) <;> first | assumption | omega | trivial | decide) | (intros; simp only [ZE] at *; (repeat' refine And.intro ?_ ?_) <;> first | assumption | omega | trivial))) | refine And.intro (Ob.out ?_) ?_ | refine WP.block ?_ | (refine WP.cond rfl (fun hc => ?_) (fun hc => ?_) <;> (try simp only [ZC, reduceCtorEq, ZD] at hc) <;> (try exact absurd hc (by decide)) <;> (try (exfalso; omega))) | ((first | refine WP.skip ?_ | refine WP.exit ?_); simp only [SeqQ, BlkQ, LoopQ, BodyQ, ↓reduceIte, Nat.reduceEqDiff, reduceCtorEq, look, true_and]) | refine WP.ret (Sm.out ?_) | (first | refine ExG.no (Sm.out ?_) | refine Or.inl (ExG.no (Sm.out ?_)) | refine Or.inl (And.intro (fun hg => absurd hg (by decide)) (ExG.no (Sm.out ?_)))) | (refine Rt.mk ?_; refine And.intro ?_ ?_ <;> (intro hg; first | exact absurd hg (by decide) | refine Sm.out ?_)) | (refine Nu.mk ?_; first | (fail_if_success have := nb1); intro nb1 | (fail_if_success have := nb2); intro nb2 | (fail_if_success have := nb3); intro nb3 | (fail_if_success have := nb4); intro nb4 | intro nbz) | (refine Fr.mk ?_; intro hfr; (first | (have hFRb : _ ≤ _ ∧ _ ≤ _ := And.intro hfr.1 hfr.2.1) | (have hFRb : _ ≤ _ := hfr.1) | skip); replace FR := Sm.mk (And.intro hfr FR.out); clear hfr; refine Sm.out ?_) | refine Two.mk ?_ ?_ | (refine Cs.mk ?_; intro hcs; first | exact False.elim hcs | (exfalso; omega) | (refine Sm.out ?_)) | go_step | omega | (simp only [maxLen_eq]; omega)
  refine WP.loop (Γ := NmG) (fun g => ⟨[(9, pt nb1 0), (3, iv .i64 (g.A.length : Int)), (4, iv .i32 g.last)], [(nb1, .obj (.stringIter B g.i))]⟩)
    (fun g => g.i ≤ zs.length ∧ zs.length - g.i ≤ g.f ∧ g.A.length ≤ g.i ∧ (g.A.length = 0 → g.i = 0) ∧ L = g.A ++ rnF zs g.f g.i ∧ (∀ q, q < g.A.length → inP q (g.A.getD q 0)) ∧ (0 < g.A.length → g.last = g.A.getD (g.A.length - 1) 0)) (fun g => zs.length - g.i) ⟨0, zs.length, [], 32⟩
    ⟨by simp, by simp, by simp, fun _ => rfl, hL, fun q hq => absurd hq (Nat.not_lt_zero _), fun h => absurd h (Nat.lt_irrefl _)⟩ (Sub.pick (by simp [pickB, hget, hdel, FR.out]) (by simp [look])) ?_
  intro ⟨i, f, A, last⟩ ⟨h1, h2, h3, h4, h5, h6, h7⟩
  simp only at h1 h2 h3 h4 h5 h6 h7 ⊢
  have FR : Sm (¬ ((1 : Nat) = 0)) := Sm.mk Nat.one_ne_zero
  obtain ⟨n, hn⟩ : ∃ n, n = A.length := ⟨_, rfl⟩
  rw [← hn] at h3 h4 h6 h7 ⊢
  have hAn : A.length = n := hn.symm
  by_cases hi : i < zs.length
  · obtain ⟨f, rfl⟩ : ∃ f', f = f' + 1 := ⟨f - 1, by omega⟩
    rw [rnF_succ, if_pos hi] at h5
    obtain ⟨r, w, hdec, hr, hcs⟩ := hel i hi
    have s1 : IntKind.i64.wrap ((n : Int) + 1) = ((n + 1 : Nat) : Int) := by rw [wrap_i64 (by omega) (by omega)]; omega
    have cL := letter_ct (r : Int)
    have cD := digit_ct (r : Int)
    have hgi : (0 < n ↔ 0 < i) := ⟨fun h => by omega, fun h => by
      by_cases h0 : n = 0
      · have := h4 h0; omega
      · omega⟩
    obtain ⟨b1, b2, b3, b4, b5, q1, q2, q3, q4, q5, hbs⟩ : ∃ b1 b2 b3 b4 b5 : Bool, letB (r : Int) = b1 ∧ decide ((i : Int) > 0) = b2 ∧ digB (r : Int) = b3 ∧ ((r : Int) == 95) = b4 ∧ ((r : Int) == 45) = b5 ∧
        (((b1 = true ∨ b1 = false ∧ b2 = true ∧ b3 = true ∨ b1 = false ∧ b2 = true ∧ b3 = false ∧ b4 = true ∨ b1 = false ∧ b2 = true ∧ b3 = false ∧ b4 = false ∧ b5 = true) ∧ inP n (r : Int)) ∨
         ((b1 = false ∧ b2 = false ∨ b1 = false ∧ b2 = true ∧ b3 = false ∧ b4 = false ∧ b5 = false) ∧ ¬ inP n (r : Int))) := by
      refine ⟨_, _, _, _, _, rfl, rfl, rfl, rfl, rfl, ?_⟩
      unfold inP
      cases hB1 : letB (r : Int)
      · by_cases hi0 : 0 < i
        · cases hB3 : digB (r : Int)
          · by_cases h95 : r = 95
            · exact .inl ⟨.inr (.inr (.inl ⟨rfl, decide_eq_true (by omega), rfl, beq_iff_eq.2 (by omega)⟩)), .inr ⟨by omega, .inr (.inl (by omega))⟩⟩
            · by_cases h45 : r = 45
              · exact .inl ⟨.inr (.inr (.inr ⟨rfl, decide_eq_true (by omega), rfl, beq_eq_false_iff_ne.2 (by omega), beq_iff_eq.2 (by omega)⟩)), .inr ⟨by omega, .inr (.inr (by omega))⟩⟩
              · exact .inr ⟨.inr ⟨rfl, decide_eq_true (by omega), rfl, beq_eq_false_iff_ne.2 (by omega), beq_eq_false_iff_ne.2 (by omega)⟩, fun h => by
                  rcases h with h | ⟨_, h | h | h⟩
                  · cases h
                  · cases h
                  · omega
                  · omega⟩
          · exact .inl ⟨.inr (.inl ⟨rfl, decide_eq_true (by omega), rfl⟩), .inr ⟨by omega, .inl rfl⟩⟩
        · exact .inr ⟨.inl ⟨rfl, decide_eq_false (by omega)⟩, fun h => by
            rcases h with h | h
            · cases h
            · omega⟩
      · exact .inl ⟨.inl rfl, .inl rfl⟩
    rw [q1] at cL
    rw [q3] at cD
    have hdec2 : Utf8.decode B i = (r, w) := hdec
    rcases hbs with ⟨hbs, hgo⟩ | ⟨hbs, hgo⟩
    · have he : elR zs i = ((r : Int), w) ∧ 1 ≤ w ∧ w ≤ 4 ∧ i + w ≤ zs.length := by
        rcases hcs with h | h
        · exact h
        · exfalso
          obtain ⟨d1, d2, d3, d4⟩ := bad_rune
          have hr' : (r : Int) = 65533 := by omega
          rw [hr'] at hgo
          rcases hgo with h' | ⟨_, h' | h' | h'⟩
          · rw [d3] at h'; cases h'
          · rw [d4] at h'; cases h'
          · omega
          · omega
      obtain ⟨he, hw1, hw2, hw3⟩ := he
      rw [he] at h5
      have hlen : (A ++ [(r : Int)]).length = n + 1 := by rw [List.length_append, hAn]; rfl
      have hA1 : ∀ q, q < (A ++ [(r : Int)]).length → inP q ((A ++ [(r : Int)]).getD q 0) := fun q hq => by
        rw [hlen] at hq
        by_cases hqn : q = n
        · rw [hqn, hn, getD_last, ← hn]; exact hgo
        · rw [getD_app _ _ (by omega)]; exact h6 q (by omega)
      have hA2 : (r : Int) = (A ++ [(r : Int)]).getD ((A ++ [(r : Int)]).length - 1) 0 := by
        rw [hlen, Nat.add_sub_cancel, hn, getD_last]
      have hL2 : L = (A ++ [(r : Int)]) ++ rnF zs f (i + w) := by rw [h5]; simp
      rcases hbs with rfl | ⟨rfl, rfl, rfl⟩ | ⟨rfl, rfl, rfl, rfl⟩ | ⟨rfl, rfl, rfl, rfl, rfl⟩
      all_goals (
          first | (have FRx := FR; clear FRx) | have FR := fr0S
          repeat' first | (refine Sm.mk ?_; try simp -dsimp only [ZK, rvc, drawF, headN, pureH, stp, dvc, calleeOf, gcall, pev, eff, newB, okd, og, ogs, ogo, ogp, slv, bltv, opd, litv, strip, one, both, putE, St.put, look, gdOf, gdv, picka, pickv, pickw, binv, bini, bins, binb, binp, binq, isSlT, bina, shp, eqCells, unv, convv, nilv, faddv, addp, idxav, idxp, load1, load1m, loadn, loadnm, loadv, hget, hset, hrep, hdel, slicev, slice3v, bnd, shift1, lenv, capv, IntKind.bits, extractv, fieldv, indexv, min2v, max2v, mkiv, tasv, tasz, cellsA, fillA, buildv, stC, oneC, rowMB, intsA, plN, appE, appZ, appC, appS, srcB, appNZ, appNC, VwL, srcC, srcZ, srcM, isBoolT, isPtrT, isSliceT, uOk, Value.oneCell', Nat.reducePow, Int.reducePow, Nat.reduceAdd, Nat.reduceMul, Nat.reduceSub, Nat.reduceLT, Nat.reduceLeDiff, Nat.reduceEqDiff, Nat.reduceBEq, Nat.reduceDiv, Nat.reduceMod, ↓reduceIte, reduceCtorEq, Int.reduceToNat, Int.reduceLT, Int.reduceLE, TFTxG, SeqQ, BlkQ, LoopQ, BodyQ, hdec, hs, s1, q2, q4, q5, FR.out]) | (first | refine CallV.fn (cL) (Sm.out ?_) | refine ExF.mk (cL) (Sm.out ?_) | refine ExG.mk (fun _ => cL) (Sm.out ?_) | refine ExG.mkJ (fun _ => cL) (Sm.out ?_) | refine ExG.mkI (Ob.out ?_) (fun _ => cL) (Sm.out ?_)) | (first | refine CallV.fn (cD) (Sm.out ?_) | refine ExF.mk (cD) (Sm.out ?_) | refine ExG.mk (fun _ => cD) (Sm.out ?_) | refine ExG.mkJ (fun _ => cD) (Sm.out ?_) | refine ExG.mkI (Ob.out ?_) (fun _ => cD) (Sm.out ?_)) | refine WP.seq fun K hK => ?_ | refine WP.region (rvc_sound _ _ (Sm.out ?_)) | refine WP.drawK rfl mixed (by decide +kernel) (Sm.out ?_) | (refine Ob.mk ?_; focus (first | assumption | omega | decide | trivial | (intro hob; simp only [hob, ZF]; done) | (intros; (repeat' refine And.intro ?_ ?_) <;> first | assumption | omega | trivial | decide) | (intros; simp only [ZE] at *; (repeat' refine And.intro ?_ ?_) <;> first | assumption | omega | trivial))) | refine And.intro (Ob.out ?_) ?_ | refine WP.block ?_ | (refine WP.cond rfl (fun hc => ?_) (fun hc => ?_) <;> (try simp only [ZC, reduceCtorEq, ZD] at hc) <;> (try exact absurd hc (by decide)) <;> (try (exfalso; omega))) | ((first | refine WP.skip ?_ | refine WP.exit ?_); simp only [SeqQ, BlkQ, LoopQ, BodyQ, ↓reduceIte, Nat.reduceEqDiff, reduceCtorEq, look, true_and]) | refine WP.ret (Sm.out ?_) | (first | refine ExG.no (Sm.out ?_) | refine Or.inl (ExG.no (Sm.out ?_)) | refine Or.inl (And.intro (fun hg => absurd hg (by decide)) (ExG.no (Sm.out ?_)))) | (refine Rt.mk ?_; refine And.intro ?_ ?_ <;> (intro hg; first | exact absurd hg (by decide) | refine Sm.out ?_)) | (refine Nu.mk ?_; first | (fail_if_success have := nb1); intro nb1 | (fail_if_success have := nb2); intro nb2 | (fail_if_success have := nb3); intro nb3 | (fail_if_success have := nb4); intro nb4 | intro nbz) | (refine Fr.mk ?_; intro hfr; (first | (have hFRb : _ ≤ _ ∧ _ ≤ _ := And.intro hfr.1 hfr.2.1) | (have hFRb : _ ≤ _ := hfr.1) | skip); replace FR := Sm.mk (And.intro hfr FR.out); clear hfr; refine Sm.out ?_) | refine Two.mk ?_ ?_ | (refine Cs.mk ?_; intro hcs; first | exact False.elim hcs | (exfalso; omega) | (refine Sm.out ?_)) | go_step | omega | (simp only [maxLen_eq]; omega))
      all_goals exact ⟨⟨i + w, f, A ++ [(r : Int)], (r : Int)⟩, ⟨by simp only; omega, by simp only; omega, by simp only [hlen]; omega, fun h => by simp at h, hL2, hA1, fun _ => hA2⟩, by simp only; omega, (Sub.pick (by simp [pickB, hget, hdel, FR.out, hAn]) (by simp [look, hAn]))⟩
    · have hno : ¬ NameP L := fun hN => by
        have hLn : L.getD n 0 = (elR zs i).1 := by rw [h5, hn]; exact getD_mid _ _ _
        have hlen : n < L.length := by rw [h5, List.length_append, hAn]; simp
        have hin : inP n (elR zs i).1 := by
          by_cases hn0 : n = 0
          · left; have := hN.2.2.1; rw [hn0] at hLn; rw [hLn] at this; exact this
          · have := hN.2.2.2 n hlen
            rw [hLn] at this
            rcases this with h | h | h
            · exact .inl h
            · exact .inr ⟨by omega, .inl h⟩
            · exact .inr ⟨by omega, .inr h.2⟩
        rcases hcs with h | h
        · rw [h.1] at hin; exact hgo hin
        · rw [h.1] at hin
          obtain ⟨d1, d2, d3, d4⟩ := bad_rune
          rcases hin with h' | ⟨_, h' | h' | h'⟩
          · rw [d1] at h'; cases h'
          · rw [d2] at h'; cases h'
          · omega
          · omega
      have e : R = false := by rw [hR]; exact nmB_false hno
      rcases hbs with ⟨rfl, rfl⟩ | ⟨rfl, rfl, rfl, rfl, rfl⟩
      all_goals (
          first | (have FRx := FR; clear FRx) | have FR := fr0S
          repeat' first | (refine Sm.mk ?_; try simp -dsimp only [ZK, rvc, drawF, headN, pureH, stp, dvc, calleeOf, gcall, pev, eff, newB, okd, og, ogs, ogo, ogp, slv, bltv, opd, litv, strip, one, both, putE, St.put, look, gdOf, gdv, picka, pickv, pickw, binv, bini, bins, binb, binp, binq, isSlT, bina, shp, eqCells, unv, convv, nilv, faddv, addp, idxav, idxp, load1, load1m, loadn, loadnm, loadv, hget, hset, hrep, hdel, slicev, slice3v, bnd, shift1, lenv, capv, IntKind.bits, extractv, fieldv, indexv, min2v, max2v, mkiv, tasv, tasz, cellsA, fillA, buildv, stC, oneC, rowMB, intsA, plN, appE, appZ, appC, appS, srcB, appNZ, appNC, VwL, srcC, srcZ, srcM, isBoolT, isPtrT, isSliceT, uOk, Value.oneCell', Nat.reducePow, Int.reducePow, Nat.reduceAdd, Nat.reduceMul, Nat.reduceSub, Nat.reduceLT, Nat.reduceLeDiff, Nat.reduceEqDiff, Nat.reduceBEq, Nat.reduceDiv, Nat.reduceMod, ↓reduceIte, reduceCtorEq, Int.reduceToNat, Int.reduceLT, Int.reduceLE, TFTxG, SeqQ, BlkQ, LoopQ, BodyQ, hdec, hs, s1, q2, q4, q5, FR.out]) | (first | refine CallV.fn (cL) (Sm.out ?_) | refine ExF.mk (cL) (Sm.out ?_) | refine ExG.mk (fun _ => cL) (Sm.out ?_) | refine ExG.mkJ (fun _ => cL) (Sm.out ?_) | refine ExG.mkI (Ob.out ?_) (fun _ => cL) (Sm.out ?_)) | (first | refine CallV.fn (cD) (Sm.out ?_) | refine ExF.mk (cD) (Sm.out ?_) | refine ExG.mk (fun _ => cD) (Sm.out ?_) | refine ExG.mkJ (fun _ => cD) (Sm.out ?_) | refine ExG.mkI (Ob.out ?_) (fun _ => cD) (Sm.out ?_)) | refine WP.seq fun K hK => ?_ | refine WP.region (rvc_sound _ _ (Sm.out ?_)) | refine WP.drawK rfl mixed (by decide +kernel) (Sm.out ?_) | (refine Ob.mk ?_; focus (first | assumption | omega | decide | trivial | (intro hob; simp only [hob, ZF]; done) | (intros; (repeat' refine And.intro ?_ ?_) <;> first | assumption | omega | trivial | decide) | (intros; simp only [ZE] at *; (repeat' refine And.intro ?_ ?_) <;> first | assumption | omega | trivial))) | refine And.intro (Ob.out ?_) ?_ | refine WP.block ?_ | (refine WP.cond rfl (fun hc => ?_) (fun hc => ?_) <;> (try simp only [ZC, reduceCtorEq, ZD] at hc) <;> (try exact absurd hc (by decide)) <;> (try (exfalso; omega))) | ((first | refine WP.skip ?_ | refine WP.exit ?_); simp only [SeqQ, BlkQ, LoopQ, BodyQ, ↓reduceIte, Nat.reduceEqDiff, reduceCtorEq, look, true_and]) | refine WP.ret (Sm.out ?_) | (first | refine ExG.no (Sm.out ?_) | refine Or.inl (ExG.no (Sm.out ?_)) | refine Or.inl (And.intro (fun hg => absurd hg (by decide)) (ExG.no (Sm.out ?_)))) | (refine Rt.mk ?_; refine And.intro ?_ ?_ <;> (intro hg; first | exact absurd hg (by decide) | refine Sm.out ?_)) | (refine Nu.mk ?_; first | (fail_if_success have := nb1); intro nb1 | (fail_if_success have := nb2); intro nb2 | (fail_if_success have := nb3); intro nb3 | (fail_if_success have := nb4); intro nb4 | intro nbz) | (refine Fr.mk ?_; intro hfr; (first | (have hFRb : _ ≤ _ ∧ _ ≤ _ := And.intro hfr.1 hfr.2.1) | (have hFRb : _ ≤ _ := hfr.1) | skip); replace FR := Sm.mk (And.intro hfr FR.out); clear hfr; refine Sm.out ?_) | refine Two.mk ?_ ?_ | (refine Cs.mk ?_; intro hcs; first | exact False.elim hcs | (exfalso; omega) | (refine Sm.out ?_)) | go_step | omega | (simp only [maxLen_eq]; omega))
      all_goals (refine OutQ.all ?_ ?_; (focus (simp only [resv, ZK, look, loadv, loadn, loadnm, load1, load1m, hget, ↓reduceIte, Nat.reduceEqDiff, Nat.reduceAdd, Nat.reduceMul, Nat.reduceLeDiff, Nat.reduceLT, reduceCtorEq, TFTxG, e])); (try simp only [resv, resA, Fn, ZK, look, loadv, loadn, loadnm, load1, load1m, hget, ↓reduceIte, Nat.reduceEqDiff, Nat.reduceAdd, Nat.reduceMul, Nat.reduceLeDiff, Nat.reduceLT, reduceCtorEq, TFTxG, e]); (try simp [resA, Fn, look, e]))
  · obtain rfl : i = zs.length := by omega
    have hLA : L = A := by
      rw [h5]
      cases f with
      | zero => exact List.append_nil _
      | succ f => rw [rnF_succ, if_neg (Nat.lt_irrefl _), List.append_nil]
    by_cases h0 : n = 0
    · have k1 : decide ((n : Int) > 0) = false := decide_eq_false (by omega)
      have e : R = false := by rw [hR]; exact nmB_false fun h => by have := h.1; rw [hLA] at this; omega
      first | (have FRx := FR; clear FRx) | have FR := fr0S
      repeat' first | (refine Sm.mk ?_; try simp -dsimp only [ZK, rvc, drawF, headN, pureH, stp, dvc, calleeOf, gcall, pev, eff, newB, okd, og, ogs, ogo, ogp, slv, bltv, opd, litv, strip, one, both, putE, St.put, look, gdOf, gdv, picka, pickv, pickw, binv, bini, bins, binb, binp, binq, isSlT, bina, shp, eqCells, unv, convv, nilv, faddv, addp, idxav, idxp, load1, load1m, loadn, loadnm, loadv, hget, hset, hrep, hdel, slicev, slice3v, bnd, shift1, lenv, capv, IntKind.bits, extractv, fieldv, indexv, min2v, max2v, mkiv, tasv, tasz, cellsA, fillA, buildv, stC, oneC, rowMB, intsA, plN, appE, appZ, appC, appS, srcB, appNZ, appNC, VwL, srcC, srcZ, srcM, isBoolT, isPtrT, isSliceT, uOk, Value.oneCell', Nat.reducePow, Int.reducePow, Nat.reduceAdd, Nat.reduceMul, Nat.reduceSub, Nat.reduceLT, Nat.reduceLeDiff, Nat.reduceEqDiff, Nat.reduceBEq, Nat.reduceDiv, Nat.reduceMod, ↓reduceIte, reduceCtorEq, Int.reduceToNat, Int.reduceLT, Int.reduceLE, TFTxG, SeqQ, BlkQ, LoopQ, BodyQ, hs, k1, FR.out]) | (first | refine CallV.fn (letter_ct last) (Sm.out ?_) | refine ExF.mk (letter_ct last) (Sm.out ?_) | refine ExG.mk (fun _ => letter_ct last) (Sm.out ?_) | refine ExG.mkJ (fun _ => letter_ct last) (Sm.out ?_) | refine ExG.mkI (Ob.out ?_) (fun _ => letter_ct last) (Sm.out ?_)) | (first | refine CallV.fn (digit_ct last) (Sm.out ?_) | refine ExF.mk (digit_ct last) (Sm.out ?_) | refine ExG.mk (fun _ => digit_ct last) (Sm.out ?_) | refine ExG.mkJ (fun _ => digit_ct last) (Sm.out ?_) | refine ExG.mkI (Ob.out ?_) (fun _ => digit_ct last) (Sm.out ?_)) | refine WP.seq fun K hK => ?_ | refine WP.region (rvc_sound _ _ (Sm.out ?_)) | refine WP.drawK rfl mixed (by decide +kernel) (Sm.out ?_) | (refine Ob.mk ?_; focus (first | assumption | omega | decide | trivial | (intro hob; simp only [hob, ZF]; done) | (intros; (repeat' refine And.intro ?_ ?_) <;> first | assumption | omega | trivial | decide) | (intros; simp only [ZE] at *; (repeat' refine And.intro ?_ ?_) <;> first | assumption | omega | trivial))) | refine And.intro (Ob.out ?_) ?_ | refine WP.block ?_ | (refine WP.cond rfl (fun hc => ?_) (fun hc => ?_) <;> (try simp only [ZC, reduceCtorEq, ZD] at hc) <;> (try exact absurd hc (by decide)) <;> (try (exfalso; omega))) | ((first | refine WP.skip ?_ | refine WP.exit ?_); simp only [SeqQ, BlkQ, LoopQ, BodyQ, ↓reduceIte, Nat.reduceEqDiff, reduceCtorEq, look, true_and]) | refine WP.ret (Sm.out ?_) | (first | refine ExG.no (Sm.out ?_) | refine Or.inl (ExG.no (Sm.out ?_)) | refine Or.inl (And.intro (fun hg => absurd hg (by decide)) (ExG.no (Sm.out ?_)))) | (refine Rt.mk ?_; refine And.intro ?_ ?_ <;> (intro hg; first | exact absurd hg (by decide) | refine Sm.out ?_)) | (refine Nu.mk ?_; first | (fail_if_success have := nb1); intro nb1 | (fail_if_success have := nb2); intro nb2 | (fail_if_success have := nb3); intro nb3 | (fail_if_success have := nb4); intro nb4 | intro nbz) | (refine Fr.mk ?_; intro hfr; (first | (have hFRb : _ ≤ _ ∧ _ ≤ _ := And.intro hfr.1 hfr.2.1) | (have hFRb : _ ≤ _ := hfr.1) | skip); replace FR := Sm.mk (And.intro hfr FR.out); clear hfr; refine Sm.out ?_) | refine Two.mk ?_ ?_ | (refine Cs.mk ?_; intro hcs; first | exact False.elim hcs | (exfalso; omega) | (refine Sm.out ?_)) | go_step | omega | (simp only [maxLen_eq]; omega)
      (refine OutQ.all ?_ ?_; (focus (simp only [resv, ZK, look, loadv, loadn, loadnm, load1, load1m, hget, ↓reduceIte, Nat.reduceEqDiff, Nat.reduceAdd, Nat.reduceMul, Nat.reduceLeDiff, Nat.reduceLT, reduceCtorEq, TFTxG, e])); (try simp only [resv, resA, Fn, ZK, look, loadv, loadn, loadnm, load1, load1m, hget, ↓reduceIte, Nat.reduceEqDiff, Nat.reduceAdd, Nat.reduceMul, Nat.reduceLeDiff, Nat.reduceLT, reduceCtorEq, TFTxG, e]); (try simp [resA, Fn, look, e]))
    have k1 : decide ((n : Int) > 0) = true := decide_eq_true (by omega)
    by_cases h24 : n > 24
    · have k2 : decide ((n : Int) ≤ 24) = false := decide_eq_false (by omega)
      have e : R = false := by rw [hR]; exact nmB_false fun h => by have := h.2.1; rw [hLA] at this; omega
      first | (have FRx := FR; clear FRx) | have FR := fr0S
      repeat' first | (refine Sm.mk ?_; try simp -dsimp only [ZK, rvc, drawF, headN, pureH, stp, dvc, calleeOf, gcall, pev, eff, newB, okd, og, ogs, ogo, ogp, slv, bltv, opd, litv, strip, one, both, putE, St.put, look, gdOf, gdv, picka, pickv, pickw, binv, bini, bins, binb, binp, binq, isSlT, bina, shp, eqCells, unv, convv, nilv, faddv, addp, idxav, idxp, load1, load1m, loadn, loadnm, loadv, hget, hset, hrep, hdel, slicev, slice3v, bnd, shift1, lenv, capv, IntKind.bits, extractv, fieldv, indexv, min2v, max2v, mkiv, tasv, tasz, cellsA, fillA, buildv, stC, oneC, rowMB, intsA, plN, appE, appZ, appC, appS, srcB, appNZ, appNC, VwL, srcC, srcZ, srcM, isBoolT, isPtrT, isSliceT, uOk, Value.oneCell', Nat.reducePow, Int.reducePow, Nat.reduceAdd, Nat.reduceMul, Nat.reduceSub, Nat.reduceLT, Nat.reduceLeDiff, Nat.reduceEqDiff, Nat.reduceBEq, Nat.reduceDiv, Nat.reduceMod, ↓reduceIte, reduceCtorEq, Int.reduceToNat, Int.reduceLT, Int.reduceLE, TFTxG, SeqQ, BlkQ, LoopQ, BodyQ, hs, k1, k2, FR.out]) | (first | refine CallV.fn (letter_ct last) (Sm.out ?_) | refine ExF.mk (letter_ct last) (Sm.out ?_) | refine ExG.mk (fun _ => letter_ct last) (Sm.out ?_) | refine ExG.mkJ (fun _ => letter_ct last) (Sm.out ?_) | refine ExG.mkI (Ob.out ?_) (fun _ => letter_ct last) (Sm.out ?_)) | (first | refine CallV.fn (digit_ct last) (Sm.out ?_) | refine ExF.mk (digit_ct last) (Sm.out ?_) | refine ExG.mk (fun _ => digit_ct last) (Sm.out ?_) | refine ExG.mkJ (fun _ => digit_ct last) (Sm.out ?_) | refine ExG.mkI (Ob.out ?_) (fun _ => digit_ct last) (Sm.out ?_)) | refine WP.seq fun K hK => ?_ | refine WP.region (rvc_sound _ _ (Sm.out ?_)) | refine WP.drawK rfl mixed (by decide +kernel) (Sm.out ?_) | (refine Ob.mk ?_; focus (first | assumption | omega | decide | trivial | (intro hob; simp only [hob, ZF]; done) | (intros; (repeat' refine And.intro ?_ ?_) <;> first | assumption | omega | trivial | decide) | (intros; simp only [ZE] at *; (repeat' refine And.intro ?_ ?_) <;> first | assumption | omega | trivial))) | refine And.intro (Ob.out ?_) ?_ | refine WP.block ?_ | (refine WP.cond rfl (fun hc => ?_) (fun hc => ?_) <;> (try simp only [ZC, reduceCtorEq, ZD] at hc) <;> (try exact absurd hc (by decide)) <;> (try (exfalso; omega))) | ((first | refine WP.skip ?_ | refine WP.exit ?_); simp only [SeqQ, BlkQ, LoopQ, BodyQ, ↓reduceIte, Nat.reduceEqDiff, reduceCtorEq, look, true_and]) | refine WP.ret (Sm.out ?_) | (first | refine ExG.no (Sm.out ?_) | refine Or.inl (ExG.no (Sm.out ?_)) | refine Or.inl (And.intro (fun hg => absurd hg (by decide)) (ExG.no (Sm.out ?_)))) | (refine Rt.mk ?_; refine And.intro ?_ ?_ <;> (intro hg; first | exact absurd hg (by decide) | refine Sm.out ?_)) | (refine Nu.mk ?_; first | (fail_if_success have := nb1); intro nb1 | (fail_if_success have := nb2); intro nb2 | (fail_if_success have := nb3); intro nb3 | (fail_if_success have := nb4); intro nb4 | intro nbz) | (refine Fr.mk ?_; intro hfr; (first | (have hFRb : _ ≤ _ ∧ _ ≤ _ := And.intro hfr.1 hfr.2.1) | (have hFRb : _ ≤ _ := hfr.1) | skip); replace FR := Sm.mk (And.intro hfr FR.out); clear hfr; refine Sm.out ?_) | refine Two.mk ?_ ?_ | (refine Cs.mk ?_; intro hcs; first | exact False.elim hcs | (exfalso; omega) | (refine Sm.out ?_)) | go_step | omega | (simp only [maxLen_eq]; omega)
      (refine OutQ.all ?_ ?_; (focus (simp only [resv, ZK, look, loadv, loadn, loadnm, load1, load1m, hget, ↓reduceIte, Nat.reduceEqDiff, Nat.reduceAdd, Nat.reduceMul, Nat.reduceLeDiff, Nat.reduceLT, reduceCtorEq, TFTxG, e])); (try simp only [resv, resA, Fn, ZK, look, loadv, loadn, loadnm, load1, load1m, hget, ↓reduceIte, Nat.reduceEqDiff, Nat.reduceAdd, Nat.reduceMul, Nat.reduceLeDiff, Nat.reduceLT, reduceCtorEq, TFTxG, e]); (try simp [resA, Fn, look, e]))
    have k2 : decide ((n : Int) ≤ 24) = true := decide_eq_true (by omega)
    have hend := name_end A last (by omega) (by omega) (fun q hq => h6 q (by omega)) (by rw [hAn]; exact h7 (by omega))
    rw [← hLA, ← hR] at hend
    have cL := letter_ct last
    have cD := digit_ct last
    obtain ⟨b1, hb1⟩ : ∃ b1, b1 = letB last := ⟨_, rfl⟩
    obtain ⟨b2, hb2⟩ : ∃ b2, b2 = digB last := ⟨_, rfl⟩
    rw [← hb1] at cL hend
    rw [← hb2] at cD hend
    cases b1
    · cases b2
      · have e : R = false := hend
        first | (have FRx := FR; clear FRx) | have FR := fr0S
        repeat' first | (refine Sm.mk ?_; try simp -dsimp only [ZK, rvc, drawF, headN, pureH, stp, dvc, calleeOf, gcall, pev, eff, newB, okd, og, ogs, ogo, ogp, slv, bltv, opd, litv, strip, one, both, putE, St.put, look, gdOf, gdv, picka, pickv, pickw, binv, bini, bins, binb, binp, binq, isSlT, bina, shp, eqCells, unv, convv, nilv, faddv, addp, idxav, idxp, load1, load1m, loadn, loadnm, loadv, hget, hset, hrep, hdel, slicev, slice3v, bnd, shift1, lenv, capv, IntKind.bits, extractv, fieldv, indexv, min2v, max2v, mkiv, tasv, tasz, cellsA, fillA, buildv, stC, oneC, rowMB, intsA, plN, appE, appZ, appC, appS, srcB, appNZ, appNC, VwL, srcC, srcZ, srcM, isBoolT, isPtrT, isSliceT, uOk, Value.oneCell', Nat.reducePow, Int.reducePow, Nat.reduceAdd, Nat.reduceMul, Nat.reduceSub, Nat.reduceLT, Nat.reduceLeDiff, Nat.reduceEqDiff, Nat.reduceBEq, Nat.reduceDiv, Nat.reduceMod, ↓reduceIte, reduceCtorEq, Int.reduceToNat, Int.reduceLT, Int.reduceLE, TFTxG, SeqQ, BlkQ, LoopQ, BodyQ, hs, k1, k2, FR.out]) | (first | refine CallV.fn (cL) (Sm.out ?_) | refine ExF.mk (cL) (Sm.out ?_) | refine ExG.mk (fun _ => cL) (Sm.out ?_) | refine ExG.mkJ (fun _ => cL) (Sm.out ?_) | refine ExG.mkI (Ob.out ?_) (fun _ => cL) (Sm.out ?_)) | (first | refine CallV.fn (cD) (Sm.out ?_) | refine ExF.mk (cD) (Sm.out ?_) | refine ExG.mk (fun _ => cD) (Sm.out ?_) | refine ExG.mkJ (fun _ => cD) (Sm.out ?_) | refine ExG.mkI (Ob.out ?_) (fun _ => cD) (Sm.out ?_)) | refine WP.seq fun K hK => ?_ | refine WP.region (rvc_sound _ _ (Sm.out ?_)) | refine WP.drawK rfl mixed (by decide +kernel) (Sm.out ?_) | (refine Ob.mk ?_; focus (first | assumption | omega | decide | trivial | (intro hob; simp only [hob, ZF]; done) | (intros; (repeat' refine And.intro ?_ ?_) <;> first | assumption | omega | trivial | decide) | (intros; simp only [ZE] at *; (repeat' refine And.intro ?_ ?_) <;> first | assumption | omega | trivial))) | refine And.intro (Ob.out ?_) ?_ | refine WP.block ?_ | (refine WP.cond rfl (fun hc => ?_) (fun hc => ?_) <;> (try simp only [ZC, reduceCtorEq, ZD] at hc) <;> (try exact absurd hc (by decide)) <;> (try (exfalso; omega))) | ((first | refine WP.skip ?_ | refine WP.exit ?_); simp only [SeqQ, BlkQ, LoopQ, BodyQ, ↓reduceIte, Nat.reduceEqDiff, reduceCtorEq, look, true_and]) | refine WP.ret (Sm.out ?_) | (first | refine ExG.no (Sm.out ?_) | refine Or.inl (ExG.no (Sm.out ?_)) | refine Or.inl (And.intro (fun hg => absurd hg (by decide)) (ExG.no (Sm.out ?_)))) | (refine Rt.mk ?_; refine And.intro ?_ ?_ <;> (intro hg; first | exact absurd hg (by decide) | refine Sm.out ?_)) | (refine Nu.mk ?_; first | (fail_if_success have := nb1); intro nb1 | (fail_if_success have := nb2); intro nb2 | (fail_if_success have := nb3); intro nb3 | (fail_if_success have := nb4); intro nb4 | intro nbz) | (refine Fr.mk ?_; intro hfr; (first | (have hFRb : _ ≤ _ ∧ _ ≤ _ := And.intro hfr.1 hfr.2.1) | (have hFRb : _ ≤ _ := hfr.1) | skip); replace FR := Sm.mk (And.intro hfr FR.out); clear hfr; refine Sm.out ?_) | refine Two.mk ?_ ?_ | (refine Cs.mk ?_; intro hcs; first | exact False.elim hcs | (exfalso; omega) | (refine Sm.out ?_)) | go_step | omega | (simp only [maxLen_eq]; omega)
        (refine OutQ.all ?_ ?_; (focus (simp only [resv, ZK, look, loadv, loadn, loadnm, load1, load1m, hget, ↓reduceIte, Nat.reduceEqDiff, Nat.reduceAdd, Nat.reduceMul, Nat.reduceLeDiff, Nat.reduceLT, reduceCtorEq, TFTxG, e])); (try simp only [resv, resA, Fn, ZK, look, loadv, loadn, loadnm, load1, load1m, hget, ↓reduceIte, Nat.reduceEqDiff, Nat.reduceAdd, Nat.reduceMul, Nat.reduceLeDiff, Nat.reduceLT, reduceCtorEq, TFTxG, e]); (try simp [resA, Fn, look, e]))
      · have e : R = true := hend
        first | (have FRx := FR; clear FRx) | have FR := fr0S
        repeat' first | (refine Sm.mk ?_; try simp -dsimp only [ZK, rvc, drawF, headN, pureH, stp, dvc, calleeOf, gcall, pev, eff, newB, okd, og, ogs, ogo, ogp, slv, bltv, opd, litv, strip, one, both, putE, St.put, look, gdOf, gdv, picka, pickv, pickw, binv, bini, bins, binb, binp, binq, isSlT, bina, shp, eqCells, unv, convv, nilv, faddv, addp, idxav, idxp, load1, load1m, loadn, loadnm, loadv, hget, hset, hrep, hdel, slicev, slice3v, bnd, shift1, lenv, capv, IntKind.bits, extractv, fieldv, indexv, min2v, max2v, mkiv, tasv, tasz, cellsA, fillA, buildv, stC, oneC, rowMB, intsA, plN, appE, appZ, appC, appS, srcB, appNZ, appNC, VwL, srcC, srcZ, srcM, isBoolT, isPtrT, isSliceT, uOk, Value.oneCell', Nat.reducePow, Int.reducePow, Nat.reduceAdd, Nat.reduceMul, Nat.reduceSub, Nat.reduceLT, Nat.reduceLeDiff, Nat.reduceEqDiff, Nat.reduceBEq, Nat.reduceDiv, Nat.reduceMod, ↓reduceIte, reduceCtorEq, Int.reduceToNat, Int.reduceLT, Int.reduceLE, TFTxG, SeqQ, BlkQ, LoopQ, BodyQ, hs, k1, k2, FR.out]) | (first | refine CallV.fn (cL) (Sm.out ?_) | refine ExF.mk (cL) (Sm.out ?_) | refine ExG.mk (fun _ => cL) (Sm.out ?_) | refine ExG.mkJ (fun _ => cL) (Sm.out ?_) | refine ExG.mkI (Ob.out ?_) (fun _ => cL) (Sm.out ?_)) | (first | refine CallV.fn (cD) (Sm.out ?_) | refine ExF.mk (cD) (Sm.out ?_) | refine ExG.mk (fun _ => cD) (Sm.out ?_) | refine ExG.mkJ (fun _ => cD) (Sm.out ?_) | refine ExG.mkI (Ob.out ?_) (fun _ => cD) (Sm.out ?_)) | refine WP.seq fun K hK => ?_ | refine WP.region (rvc_sound _ _ (Sm.out ?_)) | refine WP.drawK rfl mixed (by decide +kernel) (Sm.out ?_) | (refine Ob.mk ?_; focus (first | assumption | omega | decide | trivial | (intro hob; simp only [hob, ZF]; done) | (intros; (repeat' refine And.intro ?_ ?_) <;> first | assumption | omega | trivial | decide) | (intros; simp only [ZE] at *; (repeat' refine And.intro ?_ ?_) <;> first | assumption | omega | trivial))) | refine And.intro (Ob.out ?_) ?_ | refine WP.block ?_ | (refine WP.cond rfl (fun hc => ?_) (fun hc => ?_) <;> (try simp only [ZC, reduceCtorEq, ZD] at hc) <;> (try exact absurd hc (by decide)) <;> (try (exfalso; omega))) | ((first | refine WP.skip ?_ | refine WP.exit ?_); simp only [SeqQ, BlkQ, LoopQ, BodyQ, ↓reduceIte, Nat.reduceEqDiff, reduceCtorEq, look, true_and]) | refine WP.ret (Sm.out ?_) | (first | refine ExG.no (Sm.out ?_) | refine Or.inl (ExG.no (Sm.out ?_)) | refine Or.inl (And.intro (fun hg => absurd hg (by decide)) (ExG.no (Sm.out ?_)))) | (refine Rt.mk ?_; refine And.intro ?_ ?_ <;> (intro hg; first | exact absurd hg (by decide) | refine Sm.out ?_)) | (refine Nu.mk ?_; first | (fail_if_success have := nb1); intro nb1 | (fail_if_success have := nb2); intro nb2 | (fail_if_success have := nb3); intro nb3 | (fail_if_success have := nb4); intro nb4 | intro nbz) | (refine Fr.mk ?_; intro hfr; (first | (have hFRb : _ ≤ _ ∧ _ ≤ _ := And.intro hfr.1 hfr.2.1) | (have hFRb : _ ≤ _ := hfr.1) | skip); replace FR := Sm.mk (And.intro hfr FR.out); clear hfr; refine Sm.out ?_) | refine Two.mk ?_ ?_ | (refine Cs.mk ?_; intro hcs; first | exact False.elim hcs | (exfalso; omega) | (refine Sm.out ?_)) | go_step | omega | (simp only [maxLen_eq]; omega)
        (refine OutQ.all ?_ ?_; (focus (simp only [resv, ZK, look, loadv, loadn, loadnm, load1, load1m, hget, ↓reduceIte, Nat.reduceEqDiff, Nat.reduceAdd, Nat.reduceMul, Nat.reduceLeDiff, Nat.reduceLT, reduceCtorEq, TFTxG, e])); (try simp only [resv, resA, Fn, ZK, look, loadv, loadn, loadnm, load1, load1m, hget, ↓reduceIte, Nat.reduceEqDiff, Nat.reduceAdd, Nat.reduceMul, Nat.reduceLeDiff, Nat.reduceLT, reduceCtorEq, TFTxG, e]); (try simp [resA, Fn, look, e]))
    · have e : R = true := hend
      first | (have FRx := FR; clear FRx) | have FR := fr0S
      repeat' first | (refine Sm.mk ?_; try simp -dsimp only [ZK, rvc, drawF, headN, pureH, stp, dvc, calleeOf, gcall, pev, eff, newB, okd, og, ogs, ogo, ogp, slv, bltv, opd, litv, strip, one, both, putE, St.put, look, gdOf, gdv, picka, pickv, pickw, binv, bini, bins, binb, binp, binq, isSlT, bina, shp, eqCells, unv, convv, nilv, faddv, addp, idxav, idxp, load1, load1m, loadn, loadnm, loadv, hget, hset, hrep, hdel, slicev, slice3v, bnd, shift1, lenv, capv, IntKind.bits, extractv, fieldv, indexv, min2v, max2v, mkiv, tasv, tasz, cellsA, fillA, buildv, stC, oneC, rowMB, intsA, plN, appE, appZ, appC, appS, srcB, appNZ, appNC, VwL, srcC, srcZ, srcM, isBoolT, isPtrT, isSliceT, uOk, Value.oneCell', Nat.reducePow, Int.reducePow, Nat.reduceAdd, Nat.reduceMul, Nat.reduceSub, Nat.reduceLT, Nat.reduceLeDiff, Nat.reduceEqDiff, Nat.reduceBEq, Nat.reduceDiv, Nat.reduceMod, ↓reduceIte, reduceCtorEq, Int.reduceToNat, Int.reduceLT, Int.reduceLE, TFTxG, SeqQ, BlkQ, LoopQ, BodyQ, hs, k1, k2, FR.out]) | (first | refine CallV.fn (cL) (Sm.out ?_) | refine ExF.mk (cL) (Sm.out ?_) | refine ExG.mk (fun _ => cL) (Sm.out ?_) | refine ExG.mkJ (fun _ => cL) (Sm.out ?_) | refine ExG.mkI (Ob.out ?_) (fun _ => cL) (Sm.out ?_)) | (first | refine CallV.fn (cD) (Sm.out ?_) | refine ExF.mk (cD) (Sm.out ?_) | refine ExG.mk (fun _ => cD) (Sm.out ?_) | refine ExG.mkJ (fun _ => cD) (Sm.out ?_) | refine ExG.mkI (Ob.out ?_) (fun _ => cD) (Sm.out ?_)) | refine WP.seq fun K hK => ?_ | refine WP.region (rvc_sound _ _ (Sm.out ?_)) | refine WP.drawK rfl mixed (by decide +kernel) (Sm.out ?_) | (refine Ob.mk ?_; focus (first | assumption | omega | decide | trivial | (intro hob; simp only [hob, ZF]; done) | (intros; (repeat' refine And.intro ?_ ?_) <;> first | assumption | omega | trivial | decide) | (intros; simp only [ZE] at *; (repeat' refine And.intro ?_ ?_) <;> first | assumption | omega | trivial))) | refine And.intro (Ob.out ?_) ?_ | refine WP.block ?_ | (refine WP.cond rfl (fun hc => ?_) (fun hc => ?_) <;> (try simp only [ZC, reduceCtorEq, ZD] at hc) <;> (try exact absurd hc (by decide)) <;> (try (exfalso; omega))) | ((first | refine WP.skip ?_ | refine WP.exit ?_); simp only [SeqQ, BlkQ, LoopQ, BodyQ, ↓reduceIte, Nat.reduceEqDiff, reduceCtorEq, look, true_and]) | refine WP.ret (Sm.out ?_) | (first | refine ExG.no (Sm.out ?_) | refine Or.inl (ExG.no (Sm.out ?_)) | refine Or.inl (And.intro (fun hg => absurd hg (by decide)) (ExG.no (Sm.out ?_)))) | (refine Rt.mk ?_; refine And.intro ?_ ?_ <;> (intro hg; first | exact absurd hg (by decide) | refine Sm.out ?_)) | (refine Nu.mk ?_; first | (fail_if_success have := nb1); intro nb1 | (fail_if_success have := nb2); intro nb2 | (fail_if_success have := nb3); intro nb3 | (fail_if_success have := nb4); intro nb4 | intro nbz) | (refine Fr.mk ?_; intro hfr; (first | (have hFRb : _ ≤ _ ∧ _ ≤ _ := And.intro hfr.1 hfr.2.1) | (have hFRb : _ ≤ _ := hfr.1) | skip); replace FR := Sm.mk (And.intro hfr FR.out); clear hfr; refine Sm.out ?_) | refine Two.mk ?_ ?_ | (refine Cs.mk ?_; intro hcs; first | exact False.elim hcs | (exfalso; omega) | (refine Sm.out ?_)) | go_step | omega | (simp only [maxLen_eq]; omega)
      (refine OutQ.all ?_ ?_; (focus (simp only [resv, ZK, look, loadv, loadn, loadnm, load1, load1m, hget, ↓reduceIte, Nat.reduceEqDiff, Nat.reduceAdd, Nat.reduceMul, Nat.reduceLeDiff, Nat.reduceLT, reduceCtorEq, TFTxG, e])); (try simp only [resv, resA, Fn, ZK, look, loadv, loadn, loadnm, load1, load1m, hget, ↓reduceIte, Nat.reduceEqDiff, Nat.reduceAdd, Nat.reduceMul, Nat.reduceLeDiff, Nat.reduceLT, reduceCtorEq, TFTxG, e]); (try simp [resA, Fn, look, e]))
end Go.Proofs.Ytbkojpkdphggeaa
