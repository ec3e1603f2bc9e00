/-
  The walks and the laws that the statement leans on, part 5.
-/
import Derived.Test.YtbkojpkdphggeaaZ4
namespace Go.Proofs.Ytbkojpkdphggeaa
open Go
set_option linter.unusedVariables false
set_option linter.unusedSimpArgs false
set_option linter.defProp false
theorem fr0 : ¬ ((1 : Nat) = 0) := Nat.one_ne_zero
theorem fr0S : Sm (¬ ((1 : Nat) = 0)) := Sm.mk Nat.one_ne_zero
def TFTxC :=
  And.intro (And.intro tyc4 (And.intro zmb4 tyc21)) (And.intro zmb21 (And.intro Try.underlying4 Try.underlying21))
def letB (r : Int) : Bool := decide ((97 ≤ r ∧ r ≤ 122) ∨ (65 ≤ r ∧ r ≤ 90) ∨ (192 ≤ r ∧ r ≤ 591 ∧ r ≠ 215 ∧ r ≠ 247) ∨ (880 ≤ r ∧ r ≤ 1279))
def digB (r : Int) : Bool := decide (48 ≤ r ∧ r ≤ 57)
theorem let_cases (r : Int) : ∃ b1 b2 b3 b4 b5 b6 b7 b8 b9 b10 b11 b12 : Bool, decide (r ≥ 97) = b1 ∧ decide (r ≤ 122) = b2 ∧ decide (r ≥ 65) = b3 ∧ decide (r ≤ 90) = b4 ∧ (r == 215) = b5 ∧ (r == 247) = b6 ∧ decide (r ≥ 192) = b7 ∧ decide (r ≤ 591) = b8 ∧ decide (r ≥ 880) = b9 ∧ decide (r ≤ 1279) = b10 ∧ (r != 215) = b11 ∧ (r != 247) = b12 ∧
    ((b1 = false ∧ b2 = true ∧ b3 = false ∧ b4 = true ∧ b5 = false ∧ b6 = false ∧ b7 = false ∧ b8 = true ∧ b9 = false ∧ b10 = true ∧ b11 = true ∧ b12 = true ∧ letB r = false) ∨
     (b1 = false ∧ b2 = true ∧ b3 = true ∧ b4 = true ∧ b5 = false ∧ b6 = false ∧ b7 = false ∧ b8 = true ∧ b9 = false ∧ b10 = true ∧ b11 = true ∧ b12 = true ∧ letB r = true) ∨
     (b1 = false ∧ b2 = true ∧ b3 = true ∧ b4 = false ∧ b5 = false ∧ b6 = false ∧ b7 = false ∧ b8 = true ∧ b9 = false ∧ b10 = true ∧ b11 = true ∧ b12 = true ∧ letB r = false) ∨
     (b1 = true ∧ b2 = true ∧ b3 = true ∧ b4 = false ∧ b5 = false ∧ b6 = false ∧ b7 = false ∧ b8 = true ∧ b9 = false ∧ b10 = true ∧ b11 = true ∧ b12 = true ∧ letB r = true) ∨
     (b1 = true ∧ b2 = false ∧ b3 = true ∧ b4 = false ∧ b5 = false ∧ b6 = false ∧ b7 = false ∧ b8 = true ∧ b9 = false ∧ b10 = true ∧ b11 = true ∧ b12 = true ∧ letB r = false) ∨
     (b1 = true ∧ b2 = false ∧ b3 = true ∧ b4 = false ∧ b5 = true ∧ b6 = false ∧ b7 = true ∧ b8 = true ∧ b9 = false ∧ b10 = true ∧ b11 = false ∧ b12 = true ∧ letB r = false) ∨
     (b1 = true ∧ b2 = false ∧ b3 = true ∧ b4 = false ∧ b5 = false ∧ b6 = true ∧ b7 = true ∧ b8 = true ∧ b9 = false ∧ b10 = true ∧ b11 = true ∧ b12 = false ∧ letB r = false) ∨
     (b1 = true ∧ b2 = false ∧ b3 = true ∧ b4 = false ∧ b5 = false ∧ b6 = false ∧ b7 = true ∧ b8 = true ∧ b9 = false ∧ b10 = true ∧ b11 = true ∧ b12 = true ∧ letB r = true) ∨
     (b1 = true ∧ b2 = false ∧ b3 = true ∧ b4 = false ∧ b5 = false ∧ b6 = false ∧ b7 = true ∧ b8 = false ∧ b9 = false ∧ b10 = true ∧ b11 = true ∧ b12 = true ∧ letB r = false) ∨
     (b1 = true ∧ b2 = false ∧ b3 = true ∧ b4 = false ∧ b5 = false ∧ b6 = false ∧ b7 = true ∧ b8 = false ∧ b9 = true ∧ b10 = true ∧ b11 = true ∧ b12 = true ∧ letB r = true) ∨
     (b1 = true ∧ b2 = false ∧ b3 = true ∧ b4 = false ∧ b5 = false ∧ b6 = false ∧ b7 = true ∧ b8 = false ∧ b9 = true ∧ b10 = false ∧ b11 = true ∧ b12 = true ∧ letB r = false)) := by
  refine ⟨_, _, _, _, _, _, _, _, _, _, _, _, rfl, rfl, rfl, rfl, rfl, rfl, rfl, rfl, rfl, rfl, rfl, rfl, ?_⟩
  by_cases h0 : r < 65
  · exact .inl ⟨decide_eq_false (by omega), decide_eq_true (by omega), decide_eq_false (by omega), decide_eq_true (by omega), beq_eq_false_iff_ne.2 (by omega), beq_eq_false_iff_ne.2 (by omega), decide_eq_false (by omega), decide_eq_true (by omega), decide_eq_false (by omega), decide_eq_true (by omega), bne_iff_ne.2 (by omega), bne_iff_ne.2 (by omega), decide_eq_false (by omega)⟩
  by_cases h1 : r ≤ 90
  · exact .inr (.inl ⟨decide_eq_false (by omega), decide_eq_true (by omega), decide_eq_true (by omega), decide_eq_true (by omega), beq_eq_false_iff_ne.2 (by omega), beq_eq_false_iff_ne.2 (by omega), decide_eq_false (by omega), decide_eq_true (by omega), decide_eq_false (by omega), decide_eq_true (by omega), bne_iff_ne.2 (by omega), bne_iff_ne.2 (by omega), decide_eq_true (by omega)⟩)
  by_cases h2 : r < 97
  · exact .inr (.inr (.inl ⟨decide_eq_false (by omega), decide_eq_true (by omega), decide_eq_true (by omega), decide_eq_false (by omega), beq_eq_false_iff_ne.2 (by omega), beq_eq_false_iff_ne.2 (by omega), decide_eq_false (by omega), decide_eq_true (by omega), decide_eq_false (by omega), decide_eq_true (by omega), bne_iff_ne.2 (by omega), bne_iff_ne.2 (by omega), decide_eq_false (by omega)⟩))
  by_cases h3 : r ≤ 122
  · exact .inr (.inr (.inr (.inl ⟨decide_eq_true (by omega), decide_eq_true (by omega), decide_eq_true (by omega), decide_eq_false (by omega), beq_eq_false_iff_ne.2 (by omega), beq_eq_false_iff_ne.2 (by omega), decide_eq_false (by omega), decide_eq_true (by omega), decide_eq_false (by omega), decide_eq_true (by omega), bne_iff_ne.2 (by omega), bne_iff_ne.2 (by omega), decide_eq_true (by omega)⟩)))
  by_cases h4 : r < 192
  · exact .inr (.inr (.inr (.inr (.inl ⟨decide_eq_true (by omega), decide_eq_false (by omega), decide_eq_true (by omega), decide_eq_false (by omega), beq_eq_false_iff_ne.2 (by omega), beq_eq_false_iff_ne.2 (by omega), decide_eq_false (by omega), decide_eq_true (by omega), decide_eq_false (by omega), decide_eq_true (by omega), bne_iff_ne.2 (by omega), bne_iff_ne.2 (by omega), decide_eq_false (by omega)⟩))))
  by_cases h5 : r = 215
  · exact .inr (.inr (.inr (.inr (.inr (.inl ⟨decide_eq_true (by omega), decide_eq_false (by omega), decide_eq_true (by omega), decide_eq_false (by omega), beq_iff_eq.2 (by omega), beq_eq_false_iff_ne.2 (by omega), decide_eq_true (by omega), decide_eq_true (by omega), decide_eq_false (by omega), decide_eq_true (by omega), by rw [bne_eq_false_iff_eq]; omega, bne_iff_ne.2 (by omega), decide_eq_false (by omega)⟩)))))
  by_cases h6 : r = 247
  · exact .inr (.inr (.inr (.inr (.inr (.inr (.inl ⟨decide_eq_true (by omega), decide_eq_false (by omega), decide_eq_true (by omega), decide_eq_false (by omega), beq_eq_false_iff_ne.2 (by omega), beq_iff_eq.2 (by omega), decide_eq_true (by omega), decide_eq_true (by omega), decide_eq_false (by omega), decide_eq_true (by omega), bne_iff_ne.2 (by omega), by rw [bne_eq_false_iff_eq]; omega, decide_eq_false (by omega)⟩))))))
  by_cases h7 : r ≤ 591
  · exact .inr (.inr (.inr (.inr (.inr (.inr (.inr (.inl ⟨decide_eq_true (by omega), decide_eq_false (by omega), decide_eq_true (by omega), decide_eq_false (by omega), beq_eq_false_iff_ne.2 (by omega), beq_eq_false_iff_ne.2 (by omega), decide_eq_true (by omega), decide_eq_true (by omega), decide_eq_false (by omega), decide_eq_true (by omega), bne_iff_ne.2 (by omega), bne_iff_ne.2 (by omega), decide_eq_true (by omega)⟩)))))))
  by_cases h8 : r < 880
  · exact .inr (.inr (.inr (.inr (.inr (.inr (.inr (.inr (.inl ⟨decide_eq_true (by omega), decide_eq_false (by omega), decide_eq_true (by omega), decide_eq_false (by omega), beq_eq_false_iff_ne.2 (by omega), beq_eq_false_iff_ne.2 (by omega), decide_eq_true (by omega), decide_eq_false (by omega), decide_eq_false (by omega), decide_eq_true (by omega), bne_iff_ne.2 (by omega), bne_iff_ne.2 (by omega), decide_eq_false (by omega)⟩))))))))
  by_cases h9 : r ≤ 1279
  · exact .inr (.inr (.inr (.inr (.inr (.inr (.inr (.inr (.inr (.inl ⟨decide_eq_true (by omega), decide_eq_false (by omega), decide_eq_true (by omega), decide_eq_false (by omega), beq_eq_false_iff_ne.2 (by omega), beq_eq_false_iff_ne.2 (by omega), decide_eq_true (by omega), decide_eq_false (by omega), decide_eq_true (by omega), decide_eq_true (by omega), bne_iff_ne.2 (by omega), bne_iff_ne.2 (by omega), decide_eq_true (by omega)⟩)))))))))
  exact .inr (.inr (.inr (.inr (.inr (.inr (.inr (.inr (.inr (.inr (⟨decide_eq_true (by omega), decide_eq_false (by omega), decide_eq_true (by omega), decide_eq_false (by omega), beq_eq_false_iff_ne.2 (by omega), beq_eq_false_iff_ne.2 (by omega), decide_eq_true (by omega), decide_eq_false (by omega), decide_eq_true (by omega), decide_eq_false (by omega), bne_iff_ne.2 (by omega), bne_iff_ne.2 (by omega), decide_eq_false (by omega)⟩))))))))))
theorem letter_ct (r : Int) : ACt Try.prog 46 [iv .i32 r] [] (Fn (bv (letB r))) := by
  obtain ⟨b1, b2, b3, b4, b5, b6, b7, b8, b9, b10, b11, b12, q1, q2, q3, q4, q5, q6, q7, q8, q9, q10, q11, q12, h⟩ := let_cases r
  rcases h with ⟨rfl, rfl, rfl, rfl, rfl, rfl, rfl, rfl, rfl, rfl, rfl, rfl, e⟩ | ⟨rfl, rfl, rfl, rfl, rfl, rfl, rfl, rfl, rfl, rfl, rfl, rfl, e⟩ | ⟨rfl, rfl, rfl, rfl, rfl, rfl, rfl, rfl, rfl, rfl, rfl, rfl, e⟩ | ⟨rfl, rfl, rfl, rfl, rfl, rfl, rfl, rfl, rfl, rfl, rfl, rfl, e⟩ | ⟨rfl, rfl, rfl, rfl, rfl, rfl, rfl, rfl, rfl, rfl, rfl, rfl, e⟩ | ⟨rfl, rfl, rfl, rfl, rfl, rfl, rfl, rfl, rfl, rfl, rfl, rfl, e⟩ | ⟨rfl, rfl, rfl, rfl, rfl, rfl, rfl, rfl, rfl, rfl, rfl, rfl, e⟩ | ⟨rfl, rfl, rfl, rfl, rfl, rfl, rfl, rfl, rfl, rfl, rfl, rfl, e⟩ | ⟨rfl, rfl, rfl, rfl, rfl, rfl, rfl, rfl, rfl, rfl, rfl, rfl, e⟩ | ⟨rfl, rfl, rfl, rfl, rfl, rfl, rfl, rfl, rfl, rfl, rfl, rfl, e⟩ | ⟨rfl, rfl, rfl, rfl, rfl, rfl, rfl, rfl, rfl, rfl, rfl, rfl, e⟩
  all_goals
    rw [e]
    refine ACt.intro Try.func46 rfl (by kernel_rfl) (by simp [Try.ntmps46]) (fun cx => ?_)
    simp only [argE, Try.ntmps46, Try.results46]
  all_goals (
      first | (have FRx := FR; clear FRx) | have FR := fr0S
      repeat' first | (refine Sm.mk ?_; try simp -dsimp only [ZK, rvc, drawF, headN, pureH, stp, dvc, calleeOf, gcall, pev, eff, newB, okd, og, ogs, ogo, ogp, slv, bltv, opd, litv, strip, one, both, putE, St.put, look, gdOf, gdv, picka, pickv, pickw, binv, bini, bins, binb, binp, binq, isSlT, bina, shp, eqCells, unv, convv, nilv, faddv, addp, idxav, idxp, load1, load1m, loadn, loadnm, loadv, hget, hset, hrep, hdel, slicev, slice3v, bnd, shift1, lenv, capv, IntKind.bits, extractv, fieldv, indexv, min2v, max2v, mkiv, tasv, tasz, cellsA, fillA, buildv, stC, oneC, rowMB, intsA, plN, appE, appZ, appC, appS, srcB, appNZ, appNC, VwL, srcC, srcZ, srcM, isBoolT, isPtrT, isSliceT, uOk, Value.oneCell', Nat.reducePow, Int.reducePow, Nat.reduceAdd, Nat.reduceMul, Nat.reduceSub, Nat.reduceLT, Nat.reduceLeDiff, Nat.reduceEqDiff, Nat.reduceBEq, Nat.reduceDiv, Nat.reduceMod, ↓reduceIte, reduceCtorEq, Int.reduceToNat, Int.reduceLT, Int.reduceLE, TFTxC, SeqQ, BlkQ, LoopQ, BodyQ, q1, q2, q3, q4, q5, q6, q7, q8, q9, q10, q11, q12, FR.out]) | refine WP.seq fun K hK => ?_ | refine WP.region (rvc_sound _ _ (Sm.out ?_)) | refine WP.drawK rfl mixed (by decide +kernel) (Sm.out ?_) | (refine Ob.mk ?_; focus (first | assumption | omega | decide | trivial | (intro hob; simp only [hob, ZF]; done) | (intros; (repeat' refine And.intro ?_ ?_) <;> first | assumption | omega | trivial | decide) | (intros; simp only [ZE] at *; (repeat' refine And.intro ?_ ?_) <;> first | assumption | omega | trivial))) | refine And.intro (Ob.out ?_) ?_ | refine WP.block ?_ | (refine WP.cond rfl (fun hc => ?_) (fun hc => ?_) <;> (try simp only [ZC, reduceCtorEq, ZD] at hc) <;> (try exact absurd hc (by decide)) <;> (try (exfalso; omega))) | ((first | refine WP.skip ?_ | refine WP.exit ?_); simp only [SeqQ, BlkQ, LoopQ, BodyQ, ↓reduceIte, Nat.reduceEqDiff, reduceCtorEq, look, true_and]) | refine WP.ret (Sm.out ?_) | (first | refine ExG.no (Sm.out ?_) | refine Or.inl (ExG.no (Sm.out ?_)) | refine Or.inl (And.intro (fun hg => absurd hg (by decide)) (ExG.no (Sm.out ?_)))) | (refine Rt.mk ?_; refine And.intro ?_ ?_ <;> (intro hg; first | exact absurd hg (by decide) | refine Sm.out ?_)) | (refine Nu.mk ?_; first | (fail_if_success have := nb1); intro nb1 | (fail_if_success have := nb2); intro nb2 | (fail_if_success have := nb3); intro nb3 | intro nbz) | (refine Fr.mk ?_; intro hfr; (first | (have hFRb : _ ≤ _ ∧ _ ≤ _ := And.intro hfr.1 hfr.2.1) | (have hFRb : _ ≤ _ := hfr.1) | skip); replace FR := Sm.mk (And.intro hfr FR.out); clear hfr; refine Sm.out ?_) | refine Two.mk ?_ ?_ | (refine Cs.mk ?_; intro hcs; first | exact False.elim hcs | (exfalso; omega) | (refine Sm.out ?_)) | go_step | omega | (simp only [maxLen_eq]; omega))
  all_goals (refine OutQ.all ?_ ?_; (focus (simp only [resv, ZK, look, loadv, loadn, loadnm, load1, load1m, hget, ↓reduceIte, Nat.reduceEqDiff, Nat.reduceAdd, Nat.reduceMul, Nat.reduceLeDiff, Nat.reduceLT, reduceCtorEq, TFTxC])); (try simp only [resv, resA, Fn, ZK, look, loadv, loadn, loadnm, load1, load1m, hget, ↓reduceIte, Nat.reduceEqDiff, Nat.reduceAdd, Nat.reduceMul, Nat.reduceLeDiff, Nat.reduceLT, reduceCtorEq, TFTxC]); (try simp [resA, Fn, look]))
theorem rletter_ct (r : Int) : ACt Try.prog 45 [iv .i32 r] [] (Fn (bv (letB r))) := by
  obtain ⟨b1, b2, b3, b4, b5, b6, b7, b8, b9, b10, b11, b12, q1, q2, q3, q4, q5, q6, q7, q8, q9, q10, q11, q12, h⟩ := let_cases r
  rcases h with ⟨rfl, rfl, rfl, rfl, rfl, rfl, rfl, rfl, rfl, rfl, rfl, rfl, e⟩ | ⟨rfl, rfl, rfl, rfl, rfl, rfl, rfl, rfl, rfl, rfl, rfl, rfl, e⟩ | ⟨rfl, rfl, rfl, rfl, rfl, rfl, rfl, rfl, rfl, rfl, rfl, rfl, e⟩ | ⟨rfl, rfl, rfl, rfl, rfl, rfl, rfl, rfl, rfl, rfl, rfl, rfl, e⟩ | ⟨rfl, rfl, rfl, rfl, rfl, rfl, rfl, rfl, rfl, rfl, rfl, rfl, e⟩ | ⟨rfl, rfl, rfl, rfl, rfl, rfl, rfl, rfl, rfl, rfl, rfl, rfl, e⟩ | ⟨rfl, rfl, rfl, rfl, rfl, rfl, rfl, rfl, rfl, rfl, rfl, rfl, e⟩ | ⟨rfl, rfl, rfl, rfl, rfl, rfl, rfl, rfl, rfl, rfl, rfl, rfl, e⟩ | ⟨rfl, rfl, rfl, rfl, rfl, rfl, rfl, rfl, rfl, rfl, rfl, rfl, e⟩ | ⟨rfl, rfl, rfl, rfl, rfl, rfl, rfl, rfl, rfl, rfl, rfl, rfl, e⟩ | ⟨rfl, rfl, rfl, rfl, rfl, rfl, rfl, rfl, rfl, rfl, rfl, rfl, e⟩
  all_goals
    rw [e]
    refine ACt.intro Try.func45 rfl (by kernel_rfl) (by simp [Try.ntmps45]) (fun cx => ?_)
    simp only [argE, Try.ntmps45, Try.results45]
  all_goals (
      first | (have FRx := FR; clear FRx) | have FR := fr0S
      repeat' first | (refine Sm.mk ?_; try simp -dsimp only [ZK, rvc, drawF, headN, pureH, stp, dvc, calleeOf, gcall, pev, eff, newB, okd, og, ogs, ogo, ogp, slv, bltv, opd, litv, strip, one, both, putE, St.put, look, gdOf, gdv, picka, pickv, pickw, binv, bini, bins, binb, binp, binq, isSlT, bina, shp, eqCells, unv, convv, nilv, faddv, addp, idxav, idxp, load1, load1m, loadn, loadnm, loadv, hget, hset, hrep, hdel, slicev, slice3v, bnd, shift1, lenv, capv, IntKind.bits, extractv, fieldv, indexv, min2v, max2v, mkiv, tasv, tasz, cellsA, fillA, buildv, stC, oneC, rowMB, intsA, plN, appE, appZ, appC, appS, srcB, appNZ, appNC, VwL, srcC, srcZ, srcM, isBoolT, isPtrT, isSliceT, uOk, Value.oneCell', Nat.reducePow, Int.reducePow, Nat.reduceAdd, Nat.reduceMul, Nat.reduceSub, Nat.reduceLT, Nat.reduceLeDiff, Nat.reduceEqDiff, Nat.reduceBEq, Nat.reduceDiv, Nat.reduceMod, ↓reduceIte, reduceCtorEq, Int.reduceToNat, Int.reduceLT, Int.reduceLE, TFTxC, SeqQ, BlkQ, LoopQ, BodyQ, q1, q2, q3, q4, q5, q6, q7, q8, q9, q10, q11, q12, FR.out]) | refine WP.seq fun K hK => ?_ | refine WP.region (rvc_sound _ _ (Sm.out ?_)) | refine WP.drawK rfl mixed (by decide +kernel) (Sm.out ?_) | (refine Ob.mk ?_; focus (first | assumption | omega | decide | trivial | (intro hob; simp only [hob, ZF]; done) | (intros; (repeat' refine And.intro ?_ ?_) <;> first | assumption | omega | trivial | decide) | (intros; simp only [ZE] at *; (repeat' refine And.intro ?_ ?_) <;> first | assumption | omega | trivial))) | refine And.intro (Ob.out ?_) ?_ | refine WP.block ?_ | (refine WP.cond rfl (fun hc => ?_) (fun hc => ?_) <;> (try simp only [ZC, reduceCtorEq, ZD] at hc) <;> (try exact absurd hc (by decide)) <;> (try (exfalso; omega))) | ((first | refine WP.skip ?_ | refine WP.exit ?_); simp only [SeqQ, BlkQ, LoopQ, BodyQ, ↓reduceIte, Nat.reduceEqDiff, reduceCtorEq, look, true_and]) | refine WP.ret (Sm.out ?_) | (first | refine ExG.no (Sm.out ?_) | refine Or.inl (ExG.no (Sm.out ?_)) | refine Or.inl (And.intro (fun hg => absurd hg (by decide)) (ExG.no (Sm.out ?_)))) | (refine Rt.mk ?_; refine And.intro ?_ ?_ <;> (intro hg; first | exact absurd hg (by decide) | refine Sm.out ?_)) | (refine Nu.mk ?_; first | (fail_if_success have := nb1); intro nb1 | (fail_if_success have := nb2); intro nb2 | (fail_if_success have := nb3); intro nb3 | intro nbz) | (refine Fr.mk ?_; intro hfr; (first | (have hFRb : _ ≤ _ ∧ _ ≤ _ := And.intro hfr.1 hfr.2.1) | (have hFRb : _ ≤ _ := hfr.1) | skip); replace FR := Sm.mk (And.intro hfr FR.out); clear hfr; refine Sm.out ?_) | refine Two.mk ?_ ?_ | (refine Cs.mk ?_; intro hcs; first | exact False.elim hcs | (exfalso; omega) | (refine Sm.out ?_)) | go_step | omega | (simp only [maxLen_eq]; omega))
  all_goals (refine OutQ.all ?_ ?_; (focus (simp only [resv, ZK, look, loadv, loadn, loadnm, load1, load1m, hget, ↓reduceIte, Nat.reduceEqDiff, Nat.reduceAdd, Nat.reduceMul, Nat.reduceLeDiff, Nat.reduceLT, reduceCtorEq, TFTxC])); (try simp only [resv, resA, Fn, ZK, look, loadv, loadn, loadnm, load1, load1m, hget, ↓reduceIte, Nat.reduceEqDiff, Nat.reduceAdd, Nat.reduceMul, Nat.reduceLeDiff, Nat.reduceLT, reduceCtorEq, TFTxC]); (try simp [resA, Fn, look]))
theorem digit_ct (r : Int) : ACt Try.prog 47 [iv .i32 r] [] (Fn (bv (digB r))) := by
  unfold digB
  by_cases h1 : 48 ≤ r
  · have q1 : decide (r ≥ 48) = true := decide_eq_true h1
    by_cases h2 : r ≤ 57
    · have q2 : decide (r ≤ 57) = true := decide_eq_true h2
      rw [decide_eq_true (⟨h1, h2⟩ : 48 ≤ r ∧ r ≤ 57)]
      refine ACt.intro Try.func47 rfl (by kernel_rfl) (by simp [Try.ntmps47]) (fun cx => ?_)
      simp only [argE, Try.ntmps47, Try.results47]
      first | (have FRx := FR; clear FRx) | have FR := fr0S
      repeat' first | (refine Sm.mk ?_; try simp -dsimp only [ZK, rvc, drawF, headN, pureH, stp, dvc, calleeOf, gcall, pev, eff, newB, okd, og, ogs, ogo, ogp, slv, bltv, opd, litv, strip, one, both, putE, St.put, look, gdOf, gdv, picka, pickv, pickw, binv, bini, bins, binb, binp, binq, isSlT, bina, shp, eqCells, unv, convv, nilv, faddv, addp, idxav, idxp, load1, load1m, loadn, loadnm, loadv, hget, hset, hrep, hdel, slicev, slice3v, bnd, shift1, lenv, capv, IntKind.bits, extractv, fieldv, indexv, min2v, max2v, mkiv, tasv, tasz, cellsA, fillA, buildv, stC, oneC, rowMB, intsA, plN, appE, appZ, appC, appS, srcB, appNZ, appNC, VwL, srcC, srcZ, srcM, isBoolT, isPtrT, isSliceT, uOk, Value.oneCell', Nat.reducePow, Int.reducePow, Nat.reduceAdd, Nat.reduceMul, Nat.reduceSub, Nat.reduceLT, Nat.reduceLeDiff, Nat.reduceEqDiff, Nat.reduceBEq, Nat.reduceDiv, Nat.reduceMod, ↓reduceIte, reduceCtorEq, Int.reduceToNat, Int.reduceLT, Int.reduceLE, TFTxC, SeqQ, BlkQ, LoopQ, BodyQ, q1, q2, FR.out]) | refine WP.seq fun K hK => ?_ | refine WP.region (rvc_sound _ _ (Sm.out ?_)) | refine WP.drawK rfl mixed (by decide +kernel) (Sm.out ?_) | (refine Ob.mk ?_; focus (first | assumption | omega | decide | trivial | (intro hob; simp only [hob, ZF]; done) | (intros; (repeat' refine And.intro ?_ ?_) <;> first | assumption | omega | trivial | decide) | (intros; simp only [ZE] at *; (repeat' refine And.intro ?_ ?_) <;> first | assumption | omega | trivial))) | refine And.intro (Ob.out ?_) ?_ | refine WP.block ?_ | (refine WP.cond rfl (fun hc => ?_) (fun hc => ?_) <;> (try simp only [ZC, reduceCtorEq, ZD] at hc) <;> (try exact absurd hc (by decide)) <;> (try (exfalso; omega))) | ((first | refine WP.skip ?_ | refine WP.exit ?_); simp only [SeqQ, BlkQ, LoopQ, BodyQ, ↓reduceIte, Nat.reduceEqDiff, reduceCtorEq, look, true_and]) | refine WP.ret (Sm.out ?_) | (first | refine ExG.no (Sm.out ?_) | refine Or.inl (ExG.no (Sm.out ?_)) | refine Or.inl (And.intro (fun hg => absurd hg (by decide)) (ExG.no (Sm.out ?_)))) | (refine Rt.mk ?_; refine And.intro ?_ ?_ <;> (intro hg; first | exact absurd hg (by decide) | refine Sm.out ?_)) | (refine Nu.mk ?_; first | (fail_if_success have := nb1); intro nb1 | (fail_if_success have := nb2); intro nb2 | (fail_if_success have := nb3); intro nb3 | intro nbz) | (refine Fr.mk ?_; intro hfr; (first | (have hFRb : _ ≤ _ ∧ _ ≤ _ := And.intro hfr.1 hfr.2.1) | (have hFRb : _ ≤ _ := hfr.1) | skip); replace FR := Sm.mk (And.intro hfr FR.out); clear hfr; refine Sm.out ?_) | refine Two.mk ?_ ?_ | (refine Cs.mk ?_; intro hcs; first | exact False.elim hcs | (exfalso; omega) | (refine Sm.out ?_)) | go_step | omega | (simp only [maxLen_eq]; omega)
      (refine OutQ.all ?_ ?_; (focus (simp only [resv, ZK, look, loadv, loadn, loadnm, load1, load1m, hget, ↓reduceIte, Nat.reduceEqDiff, Nat.reduceAdd, Nat.reduceMul, Nat.reduceLeDiff, Nat.reduceLT, reduceCtorEq, TFTxC])); (try simp only [resv, resA, Fn, ZK, look, loadv, loadn, loadnm, load1, load1m, hget, ↓reduceIte, Nat.reduceEqDiff, Nat.reduceAdd, Nat.reduceMul, Nat.reduceLeDiff, Nat.reduceLT, reduceCtorEq, TFTxC]); (try simp [resA, Fn, look]))
    · have q2 : decide (r ≤ 57) = false := decide_eq_false h2
      rw [decide_eq_false (fun h => h2 h.2 : ¬ (48 ≤ r ∧ r ≤ 57))]
      refine ACt.intro Try.func47 rfl (by kernel_rfl) (by simp [Try.ntmps47]) (fun cx => ?_)
      simp only [argE, Try.ntmps47, Try.results47]
      first | (have FRx := FR; clear FRx) | have FR := fr0S
      repeat' first | (refine Sm.mk ?_; try simp -dsimp only [ZK, rvc, drawF, headN, pureH, stp, dvc, calleeOf, gcall, pev, eff, newB, okd, og, ogs, ogo, ogp, slv, bltv, opd, litv, strip, one, both, putE, St.put, look, gdOf, gdv, picka, pickv, pickw, binv, bini, bins, binb, binp, binq, isSlT, bina, shp, eqCells, unv, convv, nilv, faddv, addp, idxav, idxp, load1, load1m, loadn, loadnm, loadv, hget, hset, hrep, hdel, slicev, slice3v, bnd, shift1, lenv, capv, IntKind.bits, extractv, fieldv, indexv, min2v, max2v, mkiv, tasv, tasz, cellsA, fillA, buildv, stC, oneC, rowMB, intsA, plN, appE, appZ, appC, appS, srcB, appNZ, appNC, VwL, srcC, srcZ, srcM, isBoolT, isPtrT, isSliceT, uOk, Value.oneCell', Nat.reducePow, Int.reducePow, Nat.reduceAdd, Nat.reduceMul, Nat.reduceSub, Nat.reduceLT, Nat.reduceLeDiff, Nat.reduceEqDiff, Nat.reduceBEq, Nat.reduceDiv, Nat.reduceMod, ↓reduceIte, reduceCtorEq, Int.reduceToNat, Int.reduceLT, Int.reduceLE, TFTxC, SeqQ, BlkQ, LoopQ, BodyQ, q1, q2, FR.out]) | refine WP.seq fun K hK => ?_ | refine WP.region (rvc_sound _ _ (Sm.out ?_)) | refine WP.drawK rfl mixed (by decide +kernel) (Sm.out ?_) | (refine Ob.mk ?_; focus (first | assumption | omega | decide | trivial | (intro hob; simp only [hob, ZF]; done) | (intros; (repeat' refine And.intro ?_ ?_) <;> first | assumption | omega | trivial | decide) | (intros; simp only [ZE] at *; (repeat' refine And.intro ?_ ?_) <;> first | assumption | omega | trivial))) | refine And.intro (Ob.out ?_) ?_ | refine WP.block ?_ | (refine WP.cond rfl (fun hc => ?_) (fun hc => ?_) <;> (try simp only [ZC, reduceCtorEq, ZD] at hc) <;> (try exact absurd hc (by decide)) <;> (try (exfalso; omega))) | ((first | refine WP.skip ?_ | refine WP.exit ?_); simp only [SeqQ, BlkQ, LoopQ, BodyQ, ↓reduceIte, Nat.reduceEqDiff, reduceCtorEq, look, true_and]) | refine WP.ret (Sm.out ?_) | (first | refine ExG.no (Sm.out ?_) | refine Or.inl (ExG.no (Sm.out ?_)) | refine Or.inl (And.intro (fun hg => absurd hg (by decide)) (ExG.no (Sm.out ?_)))) | (refine Rt.mk ?_; refine And.intro ?_ ?_ <;> (intro hg; first | exact absurd hg (by decide) | refine Sm.out ?_)) | (refine Nu.mk ?_; first | (fail_if_success have := nb1); intro nb1 | (fail_if_success have := nb2); intro nb2 | (fail_if_success have := nb3); intro nb3 | intro nbz) | (refine Fr.mk ?_; intro hfr; (first | (have hFRb : _ ≤ _ ∧ _ ≤ _ := And.intro hfr.1 hfr.2.1) | (have hFRb : _ ≤ _ := hfr.1) | skip); replace FR := Sm.mk (And.intro hfr FR.out); clear hfr; refine Sm.out ?_) | refine Two.mk ?_ ?_ | (refine Cs.mk ?_; intro hcs; first | exact False.elim hcs | (exfalso; omega) | (refine Sm.out ?_)) | go_step | omega | (simp only [maxLen_eq]; omega)
      (refine OutQ.all ?_ ?_; (focus (simp only [resv, ZK, look, loadv, loadn, loadnm, load1, load1m, hget, ↓reduceIte, Nat.reduceEqDiff, Nat.reduceAdd, Nat.reduceMul, Nat.reduceLeDiff, Nat.reduceLT, reduceCtorEq, TFTxC])); (try simp only [resv, resA, Fn, ZK, look, loadv, loadn, loadnm, load1, load1m, hget, ↓reduceIte, Nat.reduceEqDiff, Nat.reduceAdd, Nat.reduceMul, Nat.reduceLeDiff, Nat.reduceLT, reduceCtorEq, TFTxC]); (try simp [resA, Fn, look]))
  · have q1 : decide (r ≥ 48) = false := decide_eq_false h1
    rw [decide_eq_false (fun h => h1 h.1 : ¬ (48 ≤ r ∧ r ≤ 57))]
    refine ACt.intro Try.func47 rfl (by kernel_rfl) (by simp [Try.ntmps47]) (fun cx => ?_)
    simp only [argE, Try.ntmps47, Try.results47]
    first | (have FRx := FR; clear FRx) | have FR := fr0S
    repeat' first | (refine Sm.mk ?_; try simp -dsimp only [ZK, rvc, drawF, headN, pureH, stp, dvc, calleeOf, gcall, pev, eff, newB, okd, og, ogs, ogo, ogp, slv, bltv, opd, litv, strip, one, both, putE, St.put, look, gdOf, gdv, picka, pickv, pickw, binv, bini, bins, binb, binp, binq, isSlT, bina, shp, eqCells, unv, convv, nilv, faddv, addp, idxav, idxp, load1, load1m, loadn, loadnm, loadv, hget, hset, hrep, hdel, slicev, slice3v, bnd, shift1, lenv, capv, IntKind.bits, extractv, fieldv, indexv, min2v, max2v, mkiv, tasv, tasz, cellsA, fillA, buildv, stC, oneC, rowMB, intsA, plN, appE, appZ, appC, appS, srcB, appNZ, appNC, VwL, srcC, srcZ, srcM, isBoolT, isPtrT, isSliceT, uOk, Value.oneCell', Nat.reducePow, Int.reducePow, Nat.reduceAdd, Nat.reduceMul, Nat.reduceSub, Nat.reduceLT, Nat.reduceLeDiff, Nat.reduceEqDiff, Nat.reduceBEq, Nat.reduceDiv, Nat.reduceMod, ↓reduceIte, reduceCtorEq, Int.reduceToNat, Int.reduceLT, Int.reduceLE, TFTxC, SeqQ, BlkQ, LoopQ, BodyQ, q1, FR.out]) | refine WP.seq fun K hK => ?_ | refine WP.region (rvc_sound _ _ (Sm.out ?_)) | refine WP.drawK rfl mixed (by decide +kernel) (Sm.out ?_) | (refine Ob.mk ?_; focus (first | assumption | omega | decide | trivial | (intro hob; simp only [hob, ZF]; done) | (intros; (repeat' refine And.intro ?_ ?_) <;> first | assumption | omega | trivial | decide) | (intros; simp only [ZE] at *; (repeat' refine And.intro ?_ ?_) <;> first | assumption | omega | trivial))) | refine And.intro (Ob.out ?_) ?_ | refine WP.block ?_ | (refine WP.cond rfl (fun hc => ?_) (fun hc => ?_) <;> (try simp only [ZC, reduceCtorEq, ZD] at hc) <;> (try exact absurd hc (by decide)) <;> (try (exfalso; omega))) | ((first | refine WP.skip ?_ | refine WP.exit ?_); simp only [SeqQ, BlkQ, LoopQ, BodyQ, ↓reduceIte, Nat.reduceEqDiff, reduceCtorEq, look, true_and]) | refine WP.ret (Sm.out ?_) | (first | refine ExG.no (Sm.out ?_) | refine Or.inl (ExG.no (Sm.out ?_)) | refine Or.inl (And.intro (fun hg => absurd hg (by decide)) (ExG.no (Sm.out ?_)))) | (refine Rt.mk ?_; refine And.intro ?_ ?_ <;> (intro hg; first | exact absurd hg (by decide) | refine Sm.out ?_)) | (refine Nu.mk ?_; first | (fail_if_success have := nb1); intro nb1 | (fail_if_success have := nb2); intro nb2 | (fail_if_success have := nb3); intro nb3 | intro nbz) | (refine Fr.mk ?_; intro hfr; (first | (have hFRb : _ ≤ _ ∧ _ ≤ _ := And.intro hfr.1 hfr.2.1) | (have hFRb : _ ≤ _ := hfr.1) | skip); replace FR := Sm.mk (And.intro hfr FR.out); clear hfr; refine Sm.out ?_) | refine Two.mk ?_ ?_ | (refine Cs.mk ?_; intro hcs; first | exact False.elim hcs | (exfalso; omega) | (refine Sm.out ?_)) | go_step | omega | (simp only [maxLen_eq]; omega)
    (refine OutQ.all ?_ ?_; (focus (simp only [resv, ZK, look, loadv, loadn, loadnm, load1, load1m, hget, ↓reduceIte, Nat.reduceEqDiff, Nat.reduceAdd, Nat.reduceMul, Nat.reduceLeDiff, Nat.reduceLT, reduceCtorEq, TFTxC])); (try simp only [resv, resA, Fn, ZK, look, loadv, loadn, loadnm, load1, load1m, hget, ↓reduceIte, Nat.reduceEqDiff, Nat.reduceAdd, Nat.reduceMul, Nat.reduceLeDiff, Nat.reduceLT, reduceCtorEq, TFTxC]); (try simp [resA, Fn, look]))
def ctB (zs : List Int) (k : Nat) : Prop := k < zs.length ∧ 128 ≤ zs.getD k 0 ∧ zs.getD k 0 ≤ 191
def nB (b : Int) : Nat := if 192 ≤ b ∧ b < 224 then 1 else if 224 ≤ b ∧ b < 240 then 2 else if 240 ≤ b ∧ b < 248 then 3 else 0
def bsR (n : Nat) : Int := [0, 192, 224, 240].getD n 0
def lsR (n : Nat) : Int := [0, 128, 2048, 65536].getD n 0
def cP (zs : List Int) (i n : Nat) : Nat → Int
  | 0 => zs.getD i 0 - bsR n
  | k + 1 => 64 * cP zs i n k + zs.getD (i + (k + 1)) 0 - 128
theorem cP_succ (zs : List Int) (i n k : Nat) : cP zs i n (k + 1) = 64 * cP zs i n k + zs.getD (i + (k + 1)) 0 - 128 := rfl
def allC (zs : List Int) (i n : Nat) : Prop := ∀ k, 1 ≤ k → k ≤ n → ctB zs (i + k)
def fitR (n : Nat) (c : Int) : Prop := lsR n ≤ c ∧ c ≤ 1114111 ∧ ¬ (55296 ≤ c ∧ c < 57344)
open Classical in
noncomputable def elR (zs : List Int) (i : Nat) : Int × Nat :=
  if zs.getD i 0 < 128 then (zs.getD i 0, 1)
  else if nB (zs.getD i 0) ≠ 0 ∧ allC zs i (nB (zs.getD i 0)) ∧ fitR (nB (zs.getD i 0)) (cP zs i (nB (zs.getD i 0)) (nB (zs.getD i 0))) then (cP zs i (nB (zs.getD i 0)) (nB (zs.getD i 0)), nB (zs.getD i 0) + 1) else (-1, 1)
theorem ct_cases {zs : List Int} (hb : By zs) (k : Nat) : (decide (k < (bstr zs).size) && (((bstr zs).get! k).toNat / 64 == 2)) = true ↔ ctB zs k := by
  rw [bstr_size]
  simp only [Bool.and_eq_true, decide_eq_true_eq, beq_iff_eq]
  unfold ctB
  constructor
  · rintro ⟨h1, h2⟩
    have := bstr_get hb h1
    exact ⟨h1, by omega, by omega⟩
  · rintro ⟨h1, h2, h3⟩
    have := bstr_get hb h1
    exact ⟨h1, by omega⟩
theorem valid_iff (c : Nat) : Utf8.valid (c : Int) = true ↔ (c : Int) ≤ 1114111 ∧ ¬ (55296 ≤ (c : Int) ∧ (c : Int) < 57344) := by
  unfold Utf8.valid
  simp only [Bool.and_eq_true, Bool.or_eq_true, decide_eq_true_eq]
  omega
theorem el_dec {zs : List Int} (hb : By zs) {i : Nat} (h : i < zs.length) : ∃ r w, Utf8.decode (bstr zs) i = (r, w) ∧ r < 2000000 ∧ ((elR zs i = ((r : Int), w) ∧ 1 ≤ w ∧ w ≤ 4 ∧ i + w ≤ zs.length) ∨ (elR zs i = (-1, 1) ∧ r = 65533 ∧ w = 1)) := by
  have hg := bstr_get hb h
  have hb0 := hb i h
  have c1 := ct_cases hb (i + 1)
  have c2 := ct_cases hb (i + 2)
  have c3 := ct_cases hb (i + 3)
  obtain ⟨G, hG⟩ : ∃ G : Nat → Nat, ∀ k, ((bstr zs).get! k).toNat = G k := ⟨_, fun _ => rfl⟩
  rw [hG] at hg
  simp only [hG] at c1 c2 c3
  by_cases h0 : zs.getD i 0 < 128
  · refine ⟨_, _, dec_lo hb h h0, by omega, .inl ⟨?_, by decide, by decide, by omega⟩⟩
    unfold elR; rw [if_pos h0]
    congr 1; omega
  have g1 : ctB zs (i + 1) → ((G (i + 1) : Nat) : Int) = zs.getD (i + 1) 0 := fun hc => by rw [← hG]; exact bstr_get hb hc.1
  have g2 : ctB zs (i + 2) → ((G (i + 2) : Nat) : Int) = zs.getD (i + 2) 0 := fun hc => by rw [← hG]; exact bstr_get hb hc.1
  have g3 : ctB zs (i + 3) → ((G (i + 3) : Nat) : Int) = zs.getD (i + 3) 0 := fun hc => by rw [← hG]; exact bstr_get hb hc.1
  have bad : ∀ (hx : ¬ (nB (zs.getD i 0) ≠ 0 ∧ allC zs i (nB (zs.getD i 0)) ∧ fitR (nB (zs.getD i 0)) (cP zs i (nB (zs.getD i 0)) (nB (zs.getD i 0))))), elR zs i = (-1, 1) := fun hx => by
    unfold elR; rw [if_neg h0, if_neg hx]
  have good : ∀ n, nB (zs.getD i 0) = n → n ≠ 0 → allC zs i n → fitR n (cP zs i n n) → elR zs i = (cP zs i n n, n + 1) := fun n e hn ha hf => by
    subst e; unfold elR; rw [if_neg h0, if_pos ⟨hn, ha, hf⟩]
  have key : ∃ r w, Utf8.decode (bstr zs) i = (r, w) ∧ ((elR zs i = ((r : Int), w) ∧ 1 ≤ w ∧ w ≤ 4 ∧ i + w ≤ zs.length ∧ r < 2000000) ∨ (elR zs i = (-1, 1) ∧ r = 65533 ∧ w = 1)) := by
    unfold Utf8.decode
    simp only [Nat.add_zero, hG]
    generalize hm0 : G i = m0 at hg ⊢
    generalize hm1 : G (i + 1) = m1 at c1 g1 ⊢
    generalize hm2 : G (i + 2) = m2 at c2 g2 ⊢
    generalize hm3 : G (i + 3) = m3 at c3 g3 ⊢
    generalize hk1 : (decide (i + 1 < (bstr zs).size) && (m1 / 64 == 2)) = k1 at c1 ⊢
    generalize hk2 : (decide (i + 2 < (bstr zs).size) && (m2 / 64 == 2)) = k2 at c2 ⊢
    generalize hk3 : (decide (i + 3 < (bstr zs).size) && (m3 / 64 == 2)) = k3 at c3 ⊢
    rw [if_neg (by omega)]
    by_cases n1 : 192 ≤ zs.getD i 0 ∧ zs.getD i 0 < 224
    · have hn : nB (zs.getD i 0) = 1 := by unfold nB; rw [if_pos n1]
      have e6 : (m0 / 32 == 6) = true := beq_iff_eq.2 (by omega)
      have e14 : (m0 / 16 == 14) = false := beq_eq_false_iff_ne.2 (by omega)
      have e30 : (m0 / 8 == 30) = false := beq_eq_false_iff_ne.2 (by omega)
      rw [e6, e14, e30]
      cases k1
      · simp only [Bool.and_false, Bool.false_and, Bool.false_eq_true, if_false]
        refine ⟨_, _, rfl, .inr ⟨bad fun hx => ?_, rfl, rfl⟩⟩
        rw [hn] at hx
        have := c1.2 (hx.2.1 1 (by omega) (by omega)); cases this
      · have hc := c1.1 rfl
        have hz := g1 hc
        obtain ⟨_, hz1, hz2⟩ := hc
        have hall : allC zs i 1 := fun k h1 h2 => by rcases (show k = 1 by omega) with rfl; exact c1.1 rfl
        have hcp : cP zs i 1 1 = ((m0 % 32 * 64 + m1 % 64 : Nat) : Int) := by
          show 64 * (zs.getD i 0 - 192) + zs.getD (i + 1) 0 - 128 = _
          omega
        simp only [Bool.and_true, if_true, Bool.true_and]
        by_cases hv : m0 % 32 * 64 + m1 % 64 ≥ 128
        · rw [if_pos hv]
          refine ⟨_, _, rfl, .inl ⟨?_, by decide, by decide, by have := (c1.1 rfl).1; omega, by omega⟩⟩
          rw [good 1 hn (by decide) hall (by rw [hcp]; exact ⟨by show (128 : Int) ≤ _; omega, by omega, by omega⟩), hcp]
        · rw [if_neg hv]
          refine ⟨_, _, rfl, .inr ⟨bad fun hx => ?_, rfl, rfl⟩⟩
          rw [hn] at hx
          have := hx.2.2.1
          rw [hcp] at this
          have this : (128 : Int) ≤ _ := this
          omega
    have e6 : (m0 / 32 == 6) = false := beq_eq_false_iff_ne.2 (by omega)
    rw [e6]
    by_cases n2 : 224 ≤ zs.getD i 0 ∧ zs.getD i 0 < 240
    · have hn : nB (zs.getD i 0) = 2 := by unfold nB; rw [if_neg n1, if_pos n2]
      have e14 : (m0 / 16 == 14) = true := beq_iff_eq.2 (by omega)
      have e30 : (m0 / 8 == 30) = false := beq_eq_false_iff_ne.2 (by omega)
      rw [e14, e30]
      by_cases hk : k1 = true ∧ k2 = true
      · obtain ⟨rfl, rfl⟩ := hk
        have hc1 := c1.1 rfl
        have hc2 := c2.1 rfl
        have hz1 := g1 hc1
        have hz2 := g2 hc2
        have hall : allC zs i 2 := fun k h1 h2 => by rcases (by omega : k = 1 ∨ k = 2) with rfl | rfl; exact hc1; exact hc2
        have hcp : cP zs i 2 2 = ((m0 % 16 * 4096 + m1 % 64 * 64 + m2 % 64 : Nat) : Int) := by
          show 64 * (64 * (zs.getD i 0 - 224) + zs.getD (i + 1) 0 - 128) + zs.getD (i + 2) 0 - 128 = _
          have := hc1.2; have := hc2.2
          omega
        simp only [Bool.false_and, Bool.and_true, Bool.true_and, if_true, Bool.false_eq_true, if_false]
        by_cases hv : m0 % 16 * 4096 + m1 % 64 * 64 + m2 % 64 ≥ 2048 ∧ Utf8.valid ((m0 % 16 * 4096 + m1 % 64 * 64 + m2 % 64 : Nat) : Int) = true
        · rw [if_pos (by simp only [Bool.and_eq_true, decide_eq_true_eq]; exact hv)]
          have hv2 := (valid_iff _).1 hv.2
          refine ⟨_, _, rfl, .inl ⟨?_, by decide, by decide, by have := hc2.1; omega, by omega⟩⟩
          rw [good 2 hn (by decide) hall (by rw [hcp]; exact ⟨by show (2048 : Int) ≤ _; omega, hv2.1, hv2.2⟩), hcp]
        · rw [if_neg (by simp only [Bool.and_eq_true, decide_eq_true_eq]; exact hv)]
          refine ⟨_, _, rfl, .inr ⟨bad fun hx => ?_, rfl, rfl⟩⟩
          rw [hn] at hx
          obtain ⟨f1, f2, f3⟩ := hx.2.2
          rw [hcp] at f1 f2 f3
          have f1 : (2048 : Int) ≤ _ := f1
          exact hv ⟨by omega, (valid_iff _).2 ⟨f2, f3⟩⟩
      · have hk' : (k1 && k2) = false := by cases k1 <;> cases k2 <;> simp_all
        have hx' : elR zs i = (-1, 1) := bad fun hx => by
          rw [hn] at hx
          exact hk ⟨c1.2 (hx.2.1 1 (by omega) (by omega)), c2.2 (hx.2.1 2 (by omega) (by omega))⟩
        have hif : (false && k1) = false := rfl
        refine ⟨Utf8.runeError, 1, ?_, .inr ⟨hx', rfl, rfl⟩⟩
        simp only [Bool.false_and, Bool.true_and, hk', Bool.false_eq_true, if_false]
    have e14 : (m0 / 16 == 14) = false := beq_eq_false_iff_ne.2 (by omega)
    rw [e14]
    by_cases n3 : 240 ≤ zs.getD i 0 ∧ zs.getD i 0 < 248
    · have hn : nB (zs.getD i 0) = 3 := by unfold nB; rw [if_neg n1, if_neg n2, if_pos n3]
      have e30 : (m0 / 8 == 30) = true := beq_iff_eq.2 (by omega)
      rw [e30]
      by_cases hk : k1 = true ∧ k2 = true ∧ k3 = true
      · obtain ⟨rfl, rfl, rfl⟩ := hk
        have hc1 := c1.1 rfl
        have hc2 := c2.1 rfl
        have hc3 := c3.1 rfl
        have hz1 := g1 hc1
        have hz2 := g2 hc2
        have hz3 := g3 hc3
        have hall : allC zs i 3 := fun k h1 h2 => by rcases (by omega : k = 1 ∨ k = 2 ∨ k = 3) with rfl | rfl | rfl; exact hc1; exact hc2; exact hc3
        have hcp : cP zs i 3 3 = ((m0 % 8 * 262144 + m1 % 64 * 4096 + m2 % 64 * 64 + m3 % 64 : Nat) : Int) := by
          show 64 * (64 * (64 * (zs.getD i 0 - 240) + zs.getD (i + 1) 0 - 128) + zs.getD (i + 2) 0 - 128) + zs.getD (i + 3) 0 - 128 = _
          have := hc1.2; have := hc2.2; have := hc3.2
          omega
        simp only [Bool.false_and, Bool.and_true, Bool.true_and, if_true, Bool.false_eq_true, if_false]
        by_cases hv : m0 % 8 * 262144 + m1 % 64 * 4096 + m2 % 64 * 64 + m3 % 64 ≥ 65536 ∧ Utf8.valid ((m0 % 8 * 262144 + m1 % 64 * 4096 + m2 % 64 * 64 + m3 % 64 : Nat) : Int) = true
        · rw [if_pos (by simp only [Bool.and_eq_true, decide_eq_true_eq]; exact hv)]
          have hv2 := (valid_iff _).1 hv.2
          refine ⟨_, _, rfl, .inl ⟨?_, by decide, by decide, by have := hc3.1; omega, by omega⟩⟩
          rw [good 3 hn (by decide) hall (by rw [hcp]; exact ⟨by show (65536 : Int) ≤ _; omega, hv2.1, hv2.2⟩), hcp]
        · rw [if_neg (by simp only [Bool.and_eq_true, decide_eq_true_eq]; exact hv)]
          refine ⟨_, _, rfl, .inr ⟨bad fun hx => ?_, rfl, rfl⟩⟩
          rw [hn] at hx
          obtain ⟨f1, f2, f3⟩ := hx.2.2
          rw [hcp] at f1 f2 f3
          have f1 : (65536 : Int) ≤ _ := f1
          exact hv ⟨by omega, (valid_iff _).2 ⟨f2, f3⟩⟩
      · have hk' : (k1 && k2 && k3) = false := by cases k1 <;> cases k2 <;> cases k3 <;> simp_all
        have hx' : elR zs i = (-1, 1) := bad fun hx => by
          rw [hn] at hx
          exact hk ⟨c1.2 (hx.2.1 1 (by omega) (by omega)), c2.2 (hx.2.1 2 (by omega) (by omega)), c3.2 (hx.2.1 3 (by omega) (by omega))⟩
        refine ⟨Utf8.runeError, 1, ?_, .inr ⟨hx', rfl, rfl⟩⟩
        simp only [Bool.false_and, Bool.true_and, hk', Bool.false_eq_true, if_false]
    have e30 : (m0 / 8 == 30) = false := beq_eq_false_iff_ne.2 (by omega)
    rw [e30]
    have hn : nB (zs.getD i 0) = 0 := by unfold nB; rw [if_neg n1, if_neg n2, if_neg n3]
    refine ⟨Utf8.runeError, 1, ?_, .inr ⟨bad fun hx => hx.1 hn, rfl, rfl⟩⟩
    simp only [Bool.false_and, Bool.false_eq_true, if_false]
  obtain ⟨r, w, e, h1 | h1⟩ := key
  · exact ⟨r, w, e, h1.2.2.2.2, .inl ⟨h1.1, h1.2.1, h1.2.2.1, h1.2.2.2.1⟩⟩
  · exact ⟨r, w, e, by have := h1.2.1; omega, .inr h1⟩
def TFTxE :=
  And.intro (And.intro (And.intro (And.intro tyc3 zmb3) (And.intro tyc4 (And.intro zmb4 tyc5))) (And.intro (And.intro zmb5 (And.intro tyc9 zmb9)) (And.intro tyc21 (And.intro zmb21 tyc74)))) (And.intro (And.intro (And.intro elt74 mkz74) (And.intro apT74 (And.intro elk74 zmb74))) (And.intro (And.intro Try.underlying3 (And.intro Try.underlying4 Try.underlying5)) (And.intro Try.underlying9 (And.intro Try.underlying21 Try.underlying74))))
theorem wrap_i32 {n : Int} (h1 : -2147483648 ≤ n) (h2 : n ≤ 2147483647) : IntKind.i32.wrap n = n := by
  simp only [IntKind.wrap, IntKind.bits, IntKind.signed]
  simp
  omega
noncomputable def rnF (zs : List Int) : Nat → Nat → List Int
  | 0, _ => []
  | f + 1, i => if i < zs.length then (elR zs i).1 :: rnF zs f (i + (elR zs i).2) else []
theorem rnF_succ (zs : List Int) (f i : Nat) : rnF zs (f + 1) i = if i < zs.length then (elR zs i).1 :: rnF zs f (i + (elR zs i).2) else [] := rfl
noncomputable def rn (zs : List Int) : List Int := rnF zs zs.length 0
theorem nB_le (b : Int) : nB b ≤ 3 := by unfold nB; (repeat' split) <;> omega
theorem bs_all : ∀ n, n < 4 → 0 ≤ bsR n ∧ bsR n ≤ 240 ∧ 0 ≤ lsR n ∧ lsR n ≤ 65536 := by decide +kernel
theorem nB_bd {b : Int} (hb : 128 ≤ b ∧ b ≤ 255) : 0 ≤ b - bsR (nB b) ∧ b - bsR (nB b) ≤ 255 ∧ (nB b ≠ 0 → b - bsR (nB b) < 32) := by
  unfold nB
  by_cases h1 : 192 ≤ b ∧ b < 224
  · rw [if_pos h1]; show 0 ≤ b - 192 ∧ b - 192 ≤ 255 ∧ (1 ≠ 0 → b - 192 < 32); omega
  rw [if_neg h1]
  by_cases h2 : 224 ≤ b ∧ b < 240
  · rw [if_pos h2]; show 0 ≤ b - 224 ∧ b - 224 ≤ 255 ∧ (2 ≠ 0 → b - 224 < 32); omega
  rw [if_neg h2]
  by_cases h3 : 240 ≤ b ∧ b < 248
  · rw [if_pos h3]; show 0 ≤ b - 240 ∧ b - 240 ≤ 255 ∧ (3 ≠ 0 → b - 240 < 32); omega
  rw [if_neg h3]; show 0 ≤ b - 0 ∧ b - 0 ≤ 255 ∧ (0 ≠ 0 → b - 0 < 32); omega
structure RnG where
  i : Nat
  f : Nat
  A : List Int
  x : Nat
  k : Nat
set_option maxHeartbeats 8000000 in
theorem runes_ct (zs : List Int) (hb : By zs) (hl : zs.length ≤ 5000) : ACt Try.prog 44 [stz zs] [] (Row .i32 21 (rn zs)) := by
  have hs := bstr_size zs
  have hat := fun i (h : i < zs.length) => bstr_at hb h
  have hel := fun i (h : i < zs.length) => el_dec hb h
  obtain ⟨B, hB⟩ : ∃ B, B = bstr zs := ⟨_, rfl⟩
  unfold stz
  rw [← hB] at hs ⊢
  simp only [← hB] at hat
  obtain ⟨T, hT⟩ : ∃ T, T = rn zs := ⟨_, rfl⟩
  rw [← hT]
  have t1 : ∀ k : Nat, ((k : Nat) : Int).toNat = k := fun k => by omega
  refine ACt.intro Try.func44 rfl (by kernel_rfl) (by simp [Try.ntmps44]) (fun cx => ?_)
  simp only [argE, Try.ntmps44, Try.results44]
  first | (have FRx := FR; clear FRx) | have FR := fr0S
  repeat' first | (refine Sm.mk ?_; try simp -dsimp only [ZK, rvc, drawF, headN, pureH, stp, dvc, calleeOf, gcall, pev, eff, newB, okd, og, ogs, ogo, ogp, slv, bltv, opd, litv, strip, one, both, putE, St.put, look, gdOf, gdv, picka, pickv, pickw, binv, bini, bins, binb, binp, binq, isSlT, bina, shp, eqCells, unv, convv, nilv, faddv, addp, idxav, idxp, load1, load1m, loadn, loadnm, loadv, hget, hset, hrep, hdel, slicev, slice3v, bnd, shift1, lenv, capv, IntKind.bits, extractv, fieldv, indexv, min2v, max2v, mkiv, tasv, tasz, cellsA, fillA, buildv, stC, oneC, rowMB, intsA, plN, appE, appZ, appC, appS, srcB, appNZ, appNC, VwL, srcC, srcZ, srcM, isBoolT, isPtrT, isSliceT, uOk, Value.oneCell', Nat.reducePow, Int.reducePow, Nat.reduceAdd, Nat.reduceMul, Nat.reduceSub, Nat.reduceLT, Nat.reduceLeDiff, Nat.reduceEqDiff, Nat.reduceBEq, Nat.reduceDiv, Nat.reduceMod, ↓reduceIte, reduceCtorEq, Int.reduceToNat, Int.reduceLT, Int.reduceLE, TFTxE, SeqQ, BlkQ, LoopQ, BodyQ, FR.out]) | refine WP.seq fun K hK => ?_ | refine WP.region (rvc_sound _ _ (Sm.out ?_)) | refine WP.drawK rfl mixed (by decide +kernel) (Sm.out ?_) | (refine Ob.mk ?_; focus (first | assumption | omega | decide | trivial | (intro hob; simp only [hob, ZF]; done) | (intros; (repeat' refine And.intro ?_ ?_) <;> first | assumption | omega | trivial | decide) | (intros; simp only [ZE] at *; (repeat' refine And.intro ?_ ?_) <;> first | assumption | omega | trivial))) | refine And.intro (Ob.out ?_) ?_ | refine WP.block ?_ | (refine WP.cond rfl (fun hc => ?_) (fun hc => ?_) <;> (try simp only [ZC, reduceCtorEq, ZD] at hc) <;> (try exact absurd hc (by decide)) <;> (try (exfalso; omega))) | ((first | refine WP.skip ?_ | refine WP.exit ?_); simp only [SeqQ, BlkQ, LoopQ, BodyQ, ↓reduceIte, Nat.reduceEqDiff, reduceCtorEq, look, true_and]) | refine WP.ret (Sm.out ?_) | (first | refine ExG.no (Sm.out ?_) | refine Or.inl (ExG.no (Sm.out ?_)) | refine Or.inl (And.intro (fun hg => absurd hg (by decide)) (ExG.no (Sm.out ?_)))) | (refine Rt.mk ?_; refine And.intro ?_ ?_ <;> (intro hg; first | exact absurd hg (by decide) | refine Sm.out ?_)) | (refine Nu.mk ?_; first | (fail_if_success have := nb1); intro nb1 | (fail_if_success have := nb2); intro nb2 | (fail_if_success have := nb3); intro nb3 | (fail_if_success have := nb4); intro nb4 | (fail_if_success have := nb5); intro nb5 | (fail_if_success have := nb6); intro nb6 | (fail_if_success have := nb7); intro nb7 | (fail_if_success have := nb8); intro nb8 | (fail_if_success have := nb9); intro nb9 | (fail_if_success have := nb10); intro nb10 | (fail_if_success have := nb11); intro nb11 | (fail_if_success have := nb12); intro nb12 | intro nbz) | (refine Fr.mk ?_; intro hfr; (first | (have hFRb : _ ≤ _ ∧ _ ≤ _ := And.intro hfr.1 hfr.2.1) | (have hFRb : _ ≤ _ := hfr.1) | skip); replace FR := Sm.mk (And.intro hfr FR.out); clear hfr; refine Sm.out ?_) | refine Two.mk ?_ ?_ | (refine Cs.mk ?_; intro hcs; first | exact False.elim hcs | (exfalso; omega) | (refine Sm.out ?_)) | go_step | omega | (simp only [maxLen_eq]; omega)
  refine WP.loop (Γ := RnG) (fun g => ⟨[(4, iv .i64 (g.i : Int)), (3, ms g.x 0 g.A.length g.k), (0, .lit (.string B))], [(g.x, .zs .i32 g.A g.k 21)]⟩)
    (fun g => zs.length - g.i ≤ g.f ∧ g.i ≤ zs.length ∧ g.A.length ≤ g.i ∧ g.A.length ≤ g.k ∧ g.k ≤ 9223372036854775807 ∧ T = g.A ++ rnF zs g.f g.i) (fun g => zs.length - g.i) ⟨0, zs.length, [], nb1, 0⟩
    ⟨by simp, by simp, by simp, by simp, by simp, hT⟩ (Sub.pick (by simp [pickB, hget, hdel, FR.out]) (by simp [look])) ?_
  intro ⟨i, f, A, x, k⟩ ⟨h1, h2, h3, h4, h5, h6⟩
  simp only at h1 h2 h3 h4 h5 h6 ⊢
  have FR : Sm (¬ ((1 : Nat) = 0)) := Sm.mk Nat.one_ne_zero
  obtain ⟨a, ha⟩ : ∃ a, a = A.length := ⟨_, rfl⟩
  rw [← ha] at h3 h4 ⊢
  have haA : A.length = a := ha.symm
  have l1 : a + 1 ≤ 9223372036854775807 ∧ (a + 1) * 4 ≤ 140737488355328 := by omega
  have l2 : k ≤ 9223372036854775807 := h5
  by_cases hi : i < zs.length
  · have ki : decide ((i : Int) < (zs.length : Int)) = true := decide_eq_true (by omega)
    obtain ⟨f, rfl⟩ : ∃ f', f = f' + 1 := ⟨f - 1, by omega⟩
    rw [rnF_succ, if_pos hi] at h6
    have hzc := hat i hi
    have hbi := hb i hi
    obtain ⟨z, hz⟩ : ∃ z, z = zs.getD i 0 := ⟨_, rfl⟩
    rw [← hz] at hzc hbi
    have w1 : IntKind.i32.wrap z = z := wrap_i32 (by omega) (by omega)
    have s1 : IntKind.i64.wrap ((i : Int) + 1) = ((i + 1 : Nat) : Int) := by rw [wrap_i64 (by omega) (by omega)]; omega
    by_cases h0 : z < 128
    · have k0 : decide (z < 128) = true := decide_eq_true h0
      have e : elR zs i = (z, 1) := by unfold elR; rw [if_pos (by rw [← hz]; exact h0), ← hz]
      rw [e] at h6
      first | (have FRx := FR; clear FRx) | have FR := fr0S
      repeat' first | (refine Sm.mk ?_; try simp -dsimp only [ZK, rvc, drawF, headN, pureH, stp, dvc, calleeOf, gcall, pev, eff, newB, okd, og, ogs, ogo, ogp, slv, bltv, opd, litv, strip, one, both, putE, St.put, look, gdOf, gdv, picka, pickv, pickw, binv, bini, bins, binb, binp, binq, isSlT, bina, shp, eqCells, unv, convv, nilv, faddv, addp, idxav, idxp, load1, load1m, loadn, loadnm, loadv, hget, hset, hrep, hdel, slicev, slice3v, bnd, shift1, lenv, capv, IntKind.bits, extractv, fieldv, indexv, min2v, max2v, mkiv, tasv, tasz, cellsA, fillA, buildv, stC, oneC, rowMB, intsA, plN, appE, appZ, appC, appS, srcB, appNZ, appNC, VwL, srcC, srcZ, srcM, isBoolT, isPtrT, isSliceT, uOk, Value.oneCell', Nat.reducePow, Int.reducePow, Nat.reduceAdd, Nat.reduceMul, Nat.reduceSub, Nat.reduceLT, Nat.reduceLeDiff, Nat.reduceEqDiff, Nat.reduceBEq, Nat.reduceDiv, Nat.reduceMod, ↓reduceIte, reduceCtorEq, Int.reduceToNat, Int.reduceLT, Int.reduceLE, TFTxE, SeqQ, BlkQ, LoopQ, BodyQ, hs, ki, hzc, t1, w1, s1, k0, haA, l1, l2, FR.out]) | refine WP.seq fun K hK => ?_ | refine WP.region (rvc_sound _ _ (Sm.out ?_)) | refine WP.drawK rfl mixed (by decide +kernel) (Sm.out ?_) | (refine Ob.mk ?_; focus (first | assumption | omega | decide | trivial | (intro hob; simp only [hob, ZF]; done) | (intros; (repeat' refine And.intro ?_ ?_) <;> first | assumption | omega | trivial | decide) | (intros; simp only [ZE] at *; (repeat' refine And.intro ?_ ?_) <;> first | assumption | omega | trivial))) | refine And.intro (Ob.out ?_) ?_ | refine WP.block ?_ | (refine WP.cond rfl (fun hc => ?_) (fun hc => ?_) <;> (try simp only [ZC, reduceCtorEq, ZD] at hc) <;> (try exact absurd hc (by decide)) <;> (try (exfalso; omega))) | ((first | refine WP.skip ?_ | refine WP.exit ?_); simp only [SeqQ, BlkQ, LoopQ, BodyQ, ↓reduceIte, Nat.reduceEqDiff, reduceCtorEq, look, true_and]) | refine WP.ret (Sm.out ?_) | (first | refine ExG.no (Sm.out ?_) | refine Or.inl (ExG.no (Sm.out ?_)) | refine Or.inl (And.intro (fun hg => absurd hg (by decide)) (ExG.no (Sm.out ?_)))) | (refine Rt.mk ?_; refine And.intro ?_ ?_ <;> (intro hg; first | exact absurd hg (by decide) | refine Sm.out ?_)) | (refine Nu.mk ?_; first | (fail_if_success have := nb1); intro nb1 | (fail_if_success have := nb2); intro nb2 | (fail_if_success have := nb3); intro nb3 | (fail_if_success have := nb4); intro nb4 | (fail_if_success have := nb5); intro nb5 | (fail_if_success have := nb6); intro nb6 | (fail_if_success have := nb7); intro nb7 | (fail_if_success have := nb8); intro nb8 | (fail_if_success have := nb9); intro nb9 | (fail_if_success have := nb10); intro nb10 | (fail_if_success have := nb11); intro nb11 | (fail_if_success have := nb12); intro nb12 | intro nbz) | (refine Fr.mk ?_; intro hfr; (first | (have hFRb : _ ≤ _ ∧ _ ≤ _ := And.intro hfr.1 hfr.2.1) | (have hFRb : _ ≤ _ := hfr.1) | skip); replace FR := Sm.mk (And.intro hfr FR.out); clear hfr; refine Sm.out ?_) | refine Two.mk ?_ ?_ | (refine Cs.mk ?_; intro hcs; first | exact False.elim hcs | (exfalso; omega) | (refine Sm.out ?_)) | go_step | omega | (simp only [maxLen_eq]; omega)
      have hzc2 : ((B.data[i]?.getD 0).toNat : Int) = z := by simpa using hzc
      refine ⟨⟨i + 1, f, A ++ [z], nb3, nb4⟩, ⟨by simp only; omega, by simp only; omega, by simp only [List.length_append, List.length_cons, List.length_nil]; omega, by simp only [List.length_append, List.length_cons, List.length_nil]; omega, by simp only; omega, by simp only; rw [h6]; simp⟩, by simp only; omega, (Sub.pick (by simp [pickB, hget, hdel, FR.out, hzc2, w1, haA]) (by simp [look, hzc2, w1, haA]))⟩
    have k0 : decide (z < 128) = false := decide_eq_false h0
    have hzz : 128 ≤ z ∧ z ≤ 255 := by omega
    obtain ⟨n, hn⟩ : ∃ n, n = nB z := ⟨_, rfl⟩
    have hn3 := nB_le z
    have hcb := nB_bd hzz
    have hlsb := bs_all (nB z) (by omega)
    rw [← hn] at hn3 hcb hlsb
    have hel := hel i hi
    obtain ⟨c0, hc0⟩ : ∃ c0, c0 = z - bsR n := ⟨_, rfl⟩
    obtain ⟨ls, hls⟩ : ∃ ls, ls = lsR n := ⟨_, rfl⟩
    have hcp0 : cP zs i n 0 = c0 := by rw [hc0, hz]; rfl
    rw [← hc0] at hcb
    rw [← hls] at hlsb
    -- what the rune is
    have hbad : ¬ (n ≠ 0 ∧ allC zs i n ∧ fitR n (cP zs i n n)) → T = (A ++ [-1]) ++ rnF zs f (i + 1) := fun hx => by
      have e : elR zs i = (-1, 1) := by unfold elR; rw [if_neg (by rw [← hz]; exact h0), if_neg (by rw [← hz, ← hn]; exact hx)]
      rw [h6, e]; simp
    have hgood : (n ≠ 0 ∧ allC zs i n ∧ fitR n (cP zs i n n)) → T = (A ++ [cP zs i n n]) ++ rnF zs f (i + (n + 1)) := fun hx => by
      have e : elR zs i = (cP zs i n n, n + 1) := by unfold elR; rw [if_neg (by rw [← hz]; exact h0), if_pos (by rw [← hz, ← hn]; exact hx), ← hz, ← hn]
      rw [h6, e]; simp
    clear h6 hel
    have hat2 := hat
    first | (have FRx := FR; clear FRx) | have FR := fr0S
    repeat' first | (refine Sm.mk ?_; try simp -dsimp only [ZK, rvc, drawF, headN, pureH, stp, dvc, calleeOf, gcall, pev, eff, newB, okd, og, ogs, ogo, ogp, slv, bltv, opd, litv, strip, one, both, putE, St.put, look, gdOf, gdv, picka, pickv, pickw, binv, bini, bins, binb, binp, binq, isSlT, bina, shp, eqCells, unv, convv, nilv, faddv, addp, idxav, idxp, load1, load1m, loadn, loadnm, loadv, hget, hset, hrep, hdel, slicev, slice3v, bnd, shift1, lenv, capv, IntKind.bits, extractv, fieldv, indexv, min2v, max2v, mkiv, tasv, tasz, cellsA, fillA, buildv, stC, oneC, rowMB, intsA, plN, appE, appZ, appC, appS, srcB, appNZ, appNC, VwL, srcC, srcZ, srcM, isBoolT, isPtrT, isSliceT, uOk, Value.oneCell', Nat.reducePow, Int.reducePow, Nat.reduceAdd, Nat.reduceMul, Nat.reduceSub, Nat.reduceLT, Nat.reduceLeDiff, Nat.reduceEqDiff, Nat.reduceBEq, Nat.reduceDiv, Nat.reduceMod, ↓reduceIte, reduceCtorEq, Int.reduceToNat, Int.reduceLT, Int.reduceLE, TFTxE, SeqQ, BlkQ, LoopQ, BodyQ, hs, ki, hzc, t1, w1, s1, haA, l1, l2, FR.out]) | refine WP.seq fun K hK => ?_ | ((fail_if_success (show WP _ _ _ (.region 7 _ _) _ _)); refine WP.region (rvc_sound _ _ (Sm.out ?_))) | ((fail_if_success (show WP _ _ _ (.region 7 _ _) _ _)); refine WP.drawK rfl mixed (by decide +kernel) (Sm.out ?_)) | (refine Ob.mk ?_; focus (first | assumption | omega | decide | trivial | (intro hob; simp only [hob, ZF]; done) | (intros; (repeat' refine And.intro ?_ ?_) <;> first | assumption | omega | trivial | decide) | (intros; simp only [ZE] at *; (repeat' refine And.intro ?_ ?_) <;> first | assumption | omega | trivial))) | refine And.intro (Ob.out ?_) ?_ | refine WP.block ?_ | (refine WP.cond rfl (fun hc => ?_) (fun hc => ?_) <;> (try simp only [ZC, reduceCtorEq, ZD] at hc) <;> (try exact absurd hc (by decide)) <;> (try (exfalso; omega))) | ((first | refine WP.skip ?_ | refine WP.exit ?_); simp only [SeqQ, BlkQ, LoopQ, BodyQ, ↓reduceIte, Nat.reduceEqDiff, reduceCtorEq, look, true_and]) | refine WP.ret (Sm.out ?_) | (first | refine ExG.no (Sm.out ?_) | refine Or.inl (ExG.no (Sm.out ?_)) | refine Or.inl (And.intro (fun hg => absurd hg (by decide)) (ExG.no (Sm.out ?_)))) | (refine Rt.mk ?_; refine And.intro ?_ ?_ <;> (intro hg; first | exact absurd hg (by decide) | refine Sm.out ?_)) | (refine Nu.mk ?_; first | (fail_if_success have := nb1); intro nb1 | (fail_if_success have := nb2); intro nb2 | (fail_if_success have := nb3); intro nb3 | (fail_if_success have := nb4); intro nb4 | (fail_if_success have := nb5); intro nb5 | (fail_if_success have := nb6); intro nb6 | (fail_if_success have := nb7); intro nb7 | (fail_if_success have := nb8); intro nb8 | (fail_if_success have := nb9); intro nb9 | (fail_if_success have := nb10); intro nb10 | (fail_if_success have := nb11); intro nb11 | (fail_if_success have := nb12); intro nb12 | intro nbz) | (refine Fr.mk ?_; intro hfr; (first | (have hFRb : _ ≤ _ ∧ _ ≤ _ := And.intro hfr.1 hfr.2.1) | (have hFRb : _ ≤ _ := hfr.1) | skip); replace FR := Sm.mk (And.intro hfr FR.out); clear hfr; refine Sm.out ?_) | refine Two.mk ?_ ?_ | (refine Cs.mk ?_; intro hcs; first | exact False.elim hcs | (exfalso; omega) | (refine Sm.out ?_)) | go_step | omega | (simp only [maxLen_eq]; omega)
    rename_i K2 hK2
    have cont : Sm (∀ s', Sub s' ⟨[(6, iv .i64 (n : Int)), (5, iv .i32 c0), (7, iv .i32 ls), (4, iv .i64 (i : Int)), (3, ms x 0 a k), (0, .lit (.string B))], [(x, .zs .i32 A k 21)]⟩ → K2 s') := Sm.mk fun s' hsb => by
      refine hK2 s' (WP.sub hsb ?_)
      clear hK2 hsb hzc hat
      obtain ⟨ob, hob⟩ : ∃ ob : Bool, ob = decide ((n : Int) > 0) := ⟨_, rfl⟩
      first | (have FRx := FR; clear FRx) | have FR := fr0S
      repeat' first | (refine Sm.mk ?_; try simp -dsimp only [ZK, rvc, drawF, headN, pureH, stp, dvc, calleeOf, gcall, pev, eff, newB, okd, og, ogs, ogo, ogp, slv, bltv, opd, litv, strip, one, both, putE, St.put, look, gdOf, gdv, picka, pickv, pickw, binv, bini, bins, binb, binp, binq, isSlT, bina, shp, eqCells, unv, convv, nilv, faddv, addp, idxav, idxp, load1, load1m, loadn, loadnm, loadv, hget, hset, hrep, hdel, slicev, slice3v, bnd, shift1, lenv, capv, IntKind.bits, extractv, fieldv, indexv, min2v, max2v, mkiv, tasv, tasz, cellsA, fillA, buildv, stC, oneC, rowMB, intsA, plN, appE, appZ, appC, appS, srcB, appNZ, appNC, VwL, srcC, srcZ, srcM, isBoolT, isPtrT, isSliceT, uOk, Value.oneCell', Nat.reducePow, Int.reducePow, Nat.reduceAdd, Nat.reduceMul, Nat.reduceSub, Nat.reduceLT, Nat.reduceLeDiff, Nat.reduceEqDiff, Nat.reduceBEq, Nat.reduceDiv, Nat.reduceMod, ↓reduceIte, reduceCtorEq, Int.reduceToNat, Int.reduceLT, Int.reduceLE, TFTxE, SeqQ, BlkQ, LoopQ, BodyQ, ← hob, FR.out]) | refine WP.seq fun K hK => ?_ | refine WP.region (rvc_sound _ _ (Sm.out ?_)) | refine WP.drawK rfl mixed (by decide +kernel) (Sm.out ?_) | (refine Ob.mk ?_; focus (first | assumption | omega | decide | trivial | (intro hob; simp only [hob, ZF]; done) | (intros; (repeat' refine And.intro ?_ ?_) <;> first | assumption | omega | trivial | decide) | (intros; simp only [ZE] at *; (repeat' refine And.intro ?_ ?_) <;> first | assumption | omega | trivial))) | refine And.intro (Ob.out ?_) ?_ | refine WP.block ?_ | (refine WP.cond rfl (fun hc => ?_) (fun hc => ?_) <;> (try simp only [ZC, reduceCtorEq, ZD] at hc) <;> (try exact absurd hc (by decide)) <;> (try (exfalso; omega))) | ((first | refine WP.skip ?_ | refine WP.exit ?_); simp only [SeqQ, BlkQ, LoopQ, BodyQ, ↓reduceIte, Nat.reduceEqDiff, reduceCtorEq, look, true_and]) | refine WP.ret (Sm.out ?_) | (first | refine ExG.no (Sm.out ?_) | refine Or.inl (ExG.no (Sm.out ?_)) | refine Or.inl (And.intro (fun hg => absurd hg (by decide)) (ExG.no (Sm.out ?_)))) | (refine Rt.mk ?_; refine And.intro ?_ ?_ <;> (intro hg; first | exact absurd hg (by decide) | refine Sm.out ?_)) | (refine Nu.mk ?_; first | (fail_if_success have := nb1); intro nb1 | (fail_if_success have := nb2); intro nb2 | (fail_if_success have := nb3); intro nb3 | (fail_if_success have := nb4); intro nb4 | (fail_if_success have := nb5); intro nb5 | (fail_if_success have := nb6); intro nb6 | (fail_if_success have := nb7); intro nb7 | (fail_if_success have := nb8); intro nb8 | (fail_if_success have := nb9); intro nb9 | (fail_if_success have := nb10); intro nb10 | (fail_if_success have := nb11); intro nb11 | (fail_if_success have := nb12); intro nb12 | intro nbz) | (refine Fr.mk ?_; intro hfr; (first | (have hFRb : _ ≤ _ ∧ _ ≤ _ := And.intro hfr.1 hfr.2.1) | (have hFRb : _ ≤ _ := hfr.1) | skip); replace FR := Sm.mk (And.intro hfr FR.out); clear hfr; refine Sm.out ?_) | refine Two.mk ?_ ?_ | (refine Cs.mk ?_; intro hcs; first | exact False.elim hcs | (exfalso; omega) | (refine Sm.out ?_)) | go_step | omega | (simp only [maxLen_eq]; omega)
      refine WP.loop (Γ := Nat) (fun m => ⟨[(9, iv .i64 ((m + 1 : Nat) : Int)), (8, bv ob), (6, iv .i64 (n : Int)), (5, iv .i32 (cP zs i n m)), (7, iv .i32 ls), (4, iv .i64 (i : Int)), (3, ms x 0 a k), (0, .lit (.string B))], [(x, .zs .i32 A k 21)]⟩)
        (fun m => m ≤ n ∧ (∀ q, 1 ≤ q → q ≤ m → ctB zs (i + q)) ∧ 0 ≤ cP zs i n m ∧ (n ≠ 0 → cP zs i n m < 33 * 64 ^ m)) (fun m => n - m) 0
        ⟨Nat.zero_le _, fun q h1 h2 => by omega, by rw [hcp0]; exact hcb.1, fun hn0 => by rw [hcp0]; have := hcb.2.2 hn0; simp; omega⟩ (Sub.pick (by simp [pickB, hget, hdel, FR.out, hcp0]) (by simp [look, hcp0])) ?_
      intro m ⟨m1, m2, m3, m4⟩
      have FR : Sm (¬ ((1 : Nat) = 0)) := Sm.mk Nat.one_ne_zero
      obtain ⟨c, hcc⟩ : ∃ c, c = cP zs i n m := ⟨_, rfl⟩
      rw [← hcc] at m3 m4 ⊢
      by_cases hmn : m + 1 ≤ n
      · have kk : decide (((m + 1 : Nat) : Int) ≤ (n : Int)) = true := decide_eq_true (by omega)
        have hn0 : n ≠ 0 := by omega
        have hob1 : ob = true := by rw [hob]; exact decide_eq_true (by omega)
        have m4 := m4 hn0
        have hm64 : (64 : Int) ^ m ≤ 4096 := by rcases (by omega : m = 0 ∨ m = 1 ∨ m = 2) with rfl | rfl | rfl <;> decide
        obtain ⟨p, hp⟩ : ∃ p, p = i + (m + 1) := ⟨_, rfl⟩
        have wp : IntKind.i64.wrap ((i : Int) + ((m + 1 : Nat) : Int)) = (p : Int) := by rw [wrap_i64 (by omega) (by omega)]; omega
        have bad2 : ¬ ctB zs p → T = (A ++ [-1]) ++ rnF zs f (i + 1) := fun hx => hbad fun h => hx (by rw [hp]; exact h.2.1 (m + 1) (by omega) hmn)
        obtain ⟨mm, hmm⟩ : ∃ mm, mm = m + 1 := ⟨_, rfl⟩
        rw [← hmm] at kk wp
        simp only [← hmm]
        have sm : IntKind.i64.wrap ((mm : Int) + 1) = ((mm + 1 : Nat) : Int) := by rw [wrap_i64 (by omega) (by omega)]; omega
        have wm1 : IntKind.i32.wrap (-1) = -1 := by decide
        by_cases hpl : p < zs.length
        · have kp : decide ((p : Int) ≥ (zs.length : Int)) = false := decide_eq_false (by omega)
          have hzp := hat2 p hpl
          have hbp := hb p hpl
          obtain ⟨y, hy⟩ : ∃ y, y = zs.getD p 0 := ⟨_, rfl⟩
          rw [← hy] at hzp hbp
          by_cases hy1 : y < 128
          · have ky : decide (y < 128) = true := decide_eq_true hy1
            have hT2 := bad2 (fun h => by have := h.2.1; omega)
            first | (have FRx := FR; clear FRx) | have FR := fr0S
            repeat' first | (refine Sm.mk ?_; try simp -dsimp only [ZK, rvc, drawF, headN, pureH, stp, dvc, calleeOf, gcall, pev, eff, newB, okd, og, ogs, ogo, ogp, slv, bltv, opd, litv, strip, one, both, putE, St.put, look, gdOf, gdv, picka, pickv, pickw, binv, bini, bins, binb, binp, binq, isSlT, bina, shp, eqCells, unv, convv, nilv, faddv, addp, idxav, idxp, load1, load1m, loadn, loadnm, loadv, hget, hset, hrep, hdel, slicev, slice3v, bnd, shift1, lenv, capv, IntKind.bits, extractv, fieldv, indexv, min2v, max2v, mkiv, tasv, tasz, cellsA, fillA, buildv, stC, oneC, rowMB, intsA, plN, appE, appZ, appC, appS, srcB, appNZ, appNC, VwL, srcC, srcZ, srcM, isBoolT, isPtrT, isSliceT, uOk, Value.oneCell', Nat.reducePow, Int.reducePow, Nat.reduceAdd, Nat.reduceMul, Nat.reduceSub, Nat.reduceLT, Nat.reduceLeDiff, Nat.reduceEqDiff, Nat.reduceBEq, Nat.reduceDiv, Nat.reduceMod, ↓reduceIte, reduceCtorEq, Int.reduceToNat, Int.reduceLT, Int.reduceLE, TFTxE, SeqQ, BlkQ, LoopQ, BodyQ, hs, kk, wp, kp, hzp, t1, ky, s1, haA, l1, l2, FR.out]) | refine WP.seq fun K hK => ?_ | refine WP.region (rvc_sound _ _ (Sm.out ?_)) | refine WP.drawK rfl mixed (by decide +kernel) (Sm.out ?_) | (refine Ob.mk ?_; focus (first | assumption | omega | decide | trivial | (intro hob; simp only [hob, ZF]; done) | (intros; (repeat' refine And.intro ?_ ?_) <;> first | assumption | omega | trivial | decide) | (intros; simp only [ZE] at *; (repeat' refine And.intro ?_ ?_) <;> first | assumption | omega | trivial))) | refine And.intro (Ob.out ?_) ?_ | refine WP.block ?_ | (refine WP.cond rfl (fun hc => ?_) (fun hc => ?_) <;> (try simp only [ZC, reduceCtorEq, ZD] at hc) <;> (try exact absurd hc (by decide)) <;> (try (exfalso; omega))) | ((first | refine WP.skip ?_ | refine WP.exit ?_); simp only [SeqQ, BlkQ, LoopQ, BodyQ, ↓reduceIte, Nat.reduceEqDiff, reduceCtorEq, look, true_and]) | refine WP.ret (Sm.out ?_) | (first | refine ExG.no (Sm.out ?_) | refine Or.inl (ExG.no (Sm.out ?_)) | refine Or.inl (And.intro (fun hg => absurd hg (by decide)) (ExG.no (Sm.out ?_)))) | (refine Rt.mk ?_; refine And.intro ?_ ?_ <;> (intro hg; first | exact absurd hg (by decide) | refine Sm.out ?_)) | (refine Nu.mk ?_; first | (fail_if_success have := nb1); intro nb1 | (fail_if_success have := nb2); intro nb2 | (fail_if_success have := nb3); intro nb3 | (fail_if_success have := nb4); intro nb4 | (fail_if_success have := nb5); intro nb5 | (fail_if_success have := nb6); intro nb6 | (fail_if_success have := nb7); intro nb7 | (fail_if_success have := nb8); intro nb8 | (fail_if_success have := nb9); intro nb9 | (fail_if_success have := nb10); intro nb10 | (fail_if_success have := nb11); intro nb11 | (fail_if_success have := nb12); intro nb12 | intro nbz) | (refine Fr.mk ?_; intro hfr; (first | (have hFRb : _ ≤ _ ∧ _ ≤ _ := And.intro hfr.1 hfr.2.1) | (have hFRb : _ ≤ _ := hfr.1) | skip); replace FR := Sm.mk (And.intro hfr FR.out); clear hfr; refine Sm.out ?_) | refine Two.mk ?_ ?_ | (refine Cs.mk ?_; intro hcs; first | exact False.elim hcs | (exfalso; omega) | (refine Sm.out ?_)) | go_step | omega | (simp only [maxLen_eq]; omega)
            refine ⟨⟨i + 1, f, A ++ [-1], nb3, nb4⟩, ⟨by simp only; omega, by simp only; omega, by simp only [List.length_append, List.length_cons, List.length_nil]; omega, by simp only [List.length_append, List.length_cons, List.length_nil]; omega, by simp only; omega, hT2⟩, by simp only; omega, (Sub.pick (by simp [pickB, hget, hdel, FR.out, haA]) (by simp [look, haA]))⟩
          have ky : decide (y < 128) = false := decide_eq_false hy1
          by_cases hy2 : y > 191
          · have ky2 : decide (y > 191) = true := decide_eq_true hy2
            have hT2 := bad2 (fun h => by have := h.2.2; omega)
            first | (have FRx := FR; clear FRx) | have FR := fr0S
            repeat' first | (refine Sm.mk ?_; try simp -dsimp only [ZK, rvc, drawF, headN, pureH, stp, dvc, calleeOf, gcall, pev, eff, newB, okd, og, ogs, ogo, ogp, slv, bltv, opd, litv, strip, one, both, putE, St.put, look, gdOf, gdv, picka, pickv, pickw, binv, bini, bins, binb, binp, binq, isSlT, bina, shp, eqCells, unv, convv, nilv, faddv, addp, idxav, idxp, load1, load1m, loadn, loadnm, loadv, hget, hset, hrep, hdel, slicev, slice3v, bnd, shift1, lenv, capv, IntKind.bits, extractv, fieldv, indexv, min2v, max2v, mkiv, tasv, tasz, cellsA, fillA, buildv, stC, oneC, rowMB, intsA, plN, appE, appZ, appC, appS, srcB, appNZ, appNC, VwL, srcC, srcZ, srcM, isBoolT, isPtrT, isSliceT, uOk, Value.oneCell', Nat.reducePow, Int.reducePow, Nat.reduceAdd, Nat.reduceMul, Nat.reduceSub, Nat.reduceLT, Nat.reduceLeDiff, Nat.reduceEqDiff, Nat.reduceBEq, Nat.reduceDiv, Nat.reduceMod, ↓reduceIte, reduceCtorEq, Int.reduceToNat, Int.reduceLT, Int.reduceLE, TFTxE, SeqQ, BlkQ, LoopQ, BodyQ, hs, kk, wp, kp, hzp, t1, ky, ky2, s1, haA, l1, l2, FR.out]) | refine WP.seq fun K hK => ?_ | refine WP.region (rvc_sound _ _ (Sm.out ?_)) | refine WP.drawK rfl mixed (by decide +kernel) (Sm.out ?_) | (refine Ob.mk ?_; focus (first | assumption | omega | decide | trivial | (intro hob; simp only [hob, ZF]; done) | (intros; (repeat' refine And.intro ?_ ?_) <;> first | assumption | omega | trivial | decide) | (intros; simp only [ZE] at *; (repeat' refine And.intro ?_ ?_) <;> first | assumption | omega | trivial))) | refine And.intro (Ob.out ?_) ?_ | refine WP.block ?_ | (refine WP.cond rfl (fun hc => ?_) (fun hc => ?_) <;> (try simp only [ZC, reduceCtorEq, ZD] at hc) <;> (try exact absurd hc (by decide)) <;> (try (exfalso; omega))) | ((first | refine WP.skip ?_ | refine WP.exit ?_); simp only [SeqQ, BlkQ, LoopQ, BodyQ, ↓reduceIte, Nat.reduceEqDiff, reduceCtorEq, look, true_and]) | refine WP.ret (Sm.out ?_) | (first | refine ExG.no (Sm.out ?_) | refine Or.inl (ExG.no (Sm.out ?_)) | refine Or.inl (And.intro (fun hg => absurd hg (by decide)) (ExG.no (Sm.out ?_)))) | (refine Rt.mk ?_; refine And.intro ?_ ?_ <;> (intro hg; first | exact absurd hg (by decide) | refine Sm.out ?_)) | (refine Nu.mk ?_; first | (fail_if_success have := nb1); intro nb1 | (fail_if_success have := nb2); intro nb2 | (fail_if_success have := nb3); intro nb3 | (fail_if_success have := nb4); intro nb4 | (fail_if_success have := nb5); intro nb5 | (fail_if_success have := nb6); intro nb6 | (fail_if_success have := nb7); intro nb7 | (fail_if_success have := nb8); intro nb8 | (fail_if_success have := nb9); intro nb9 | (fail_if_success have := nb10); intro nb10 | (fail_if_success have := nb11); intro nb11 | (fail_if_success have := nb12); intro nb12 | intro nbz) | (refine Fr.mk ?_; intro hfr; (first | (have hFRb : _ ≤ _ ∧ _ ≤ _ := And.intro hfr.1 hfr.2.1) | (have hFRb : _ ≤ _ := hfr.1) | skip); replace FR := Sm.mk (And.intro hfr FR.out); clear hfr; refine Sm.out ?_) | refine Two.mk ?_ ?_ | (refine Cs.mk ?_; intro hcs; first | exact False.elim hcs | (exfalso; omega) | (refine Sm.out ?_)) | go_step | omega | (simp only [maxLen_eq]; omega)
            refine ⟨⟨i + 1, f, A ++ [-1], nb3, nb4⟩, ⟨by simp only; omega, by simp only; omega, by simp only [List.length_append, List.length_cons, List.length_nil]; omega, by simp only [List.length_append, List.length_cons, List.length_nil]; omega, by simp only; omega, hT2⟩, by simp only; omega, (Sub.pick (by simp [pickB, hget, hdel, FR.out, haA]) (by simp [look, haA]))⟩
          have ky2 : decide (y > 191) = false := decide_eq_false hy2
          have hcn : cP zs i n mm = 64 * c + y - 128 := by rw [hmm, cP_succ, ← hcc, ← hp, ← hy]
          have v1 : IntKind.i32.wrap (64 * c) = 64 * c := wrap_i32 (by omega) (by omega)
          have v2 : IntKind.i32.wrap y = y := wrap_i32 (by omega) (by omega)
          have v3 : IntKind.i32.wrap (64 * c + y) = 64 * c + y := wrap_i32 (by omega) (by omega)
          have v4 : IntKind.i32.wrap (64 * c + y - 128) = cP zs i n mm := by rw [hcn, wrap_i32 (by omega) (by omega)]
          have hzp2 : ((B.data[p]?.getD 0).toNat : Int) = y := by simpa using hzp
          first | (have FRx := FR; clear FRx) | have FR := fr0S
          repeat' first | (refine Sm.mk ?_; try simp -dsimp only [ZK, rvc, drawF, headN, pureH, stp, dvc, calleeOf, gcall, pev, eff, newB, okd, og, ogs, ogo, ogp, slv, bltv, opd, litv, strip, one, both, putE, St.put, look, gdOf, gdv, picka, pickv, pickw, binv, bini, bins, binb, binp, binq, isSlT, bina, shp, eqCells, unv, convv, nilv, faddv, addp, idxav, idxp, load1, load1m, loadn, loadnm, loadv, hget, hset, hrep, hdel, slicev, slice3v, bnd, shift1, lenv, capv, IntKind.bits, extractv, fieldv, indexv, min2v, max2v, mkiv, tasv, tasz, cellsA, fillA, buildv, stC, oneC, rowMB, intsA, plN, appE, appZ, appC, appS, srcB, appNZ, appNC, VwL, srcC, srcZ, srcM, isBoolT, isPtrT, isSliceT, uOk, Value.oneCell', Nat.reducePow, Int.reducePow, Nat.reduceAdd, Nat.reduceMul, Nat.reduceSub, Nat.reduceLT, Nat.reduceLeDiff, Nat.reduceEqDiff, Nat.reduceBEq, Nat.reduceDiv, Nat.reduceMod, ↓reduceIte, reduceCtorEq, Int.reduceToNat, Int.reduceLT, Int.reduceLE, TFTxE, SeqQ, BlkQ, LoopQ, BodyQ, hs, kk, wp, kp, hzp, t1, ky, ky2, v1, v2, v3, v4, sm, FR.out]) | refine WP.seq fun K hK => ?_ | refine WP.region (rvc_sound _ _ (Sm.out ?_)) | refine WP.drawK rfl mixed (by decide +kernel) (Sm.out ?_) | (refine Ob.mk ?_; focus (first | assumption | omega | decide | trivial | (intro hob; simp only [hob, ZF]; done) | (intros; (repeat' refine And.intro ?_ ?_) <;> first | assumption | omega | trivial | decide) | (intros; simp only [ZE] at *; (repeat' refine And.intro ?_ ?_) <;> first | assumption | omega | trivial))) | refine And.intro (Ob.out ?_) ?_ | refine WP.block ?_ | (refine WP.cond rfl (fun hc => ?_) (fun hc => ?_) <;> (try simp only [ZC, reduceCtorEq, ZD] at hc) <;> (try exact absurd hc (by decide)) <;> (try (exfalso; omega))) | ((first | refine WP.skip ?_ | refine WP.exit ?_); simp only [SeqQ, BlkQ, LoopQ, BodyQ, ↓reduceIte, Nat.reduceEqDiff, reduceCtorEq, look, true_and]) | refine WP.ret (Sm.out ?_) | (first | refine ExG.no (Sm.out ?_) | refine Or.inl (ExG.no (Sm.out ?_)) | refine Or.inl (And.intro (fun hg => absurd hg (by decide)) (ExG.no (Sm.out ?_)))) | (refine Rt.mk ?_; refine And.intro ?_ ?_ <;> (intro hg; first | exact absurd hg (by decide) | refine Sm.out ?_)) | (refine Nu.mk ?_; first | (fail_if_success have := nb1); intro nb1 | (fail_if_success have := nb2); intro nb2 | (fail_if_success have := nb3); intro nb3 | (fail_if_success have := nb4); intro nb4 | (fail_if_success have := nb5); intro nb5 | (fail_if_success have := nb6); intro nb6 | (fail_if_success have := nb7); intro nb7 | (fail_if_success have := nb8); intro nb8 | (fail_if_success have := nb9); intro nb9 | (fail_if_success have := nb10); intro nb10 | (fail_if_success have := nb11); intro nb11 | (fail_if_success have := nb12); intro nb12 | intro nbz) | (refine Fr.mk ?_; intro hfr; (first | (have hFRb : _ ≤ _ ∧ _ ≤ _ := And.intro hfr.1 hfr.2.1) | (have hFRb : _ ≤ _ := hfr.1) | skip); replace FR := Sm.mk (And.intro hfr FR.out); clear hfr; refine Sm.out ?_) | refine Two.mk ?_ ?_ | (refine Cs.mk ?_; intro hcs; first | exact False.elim hcs | (exfalso; omega) | (refine Sm.out ?_)) | go_step | omega | (simp only [maxLen_eq]; omega)
          refine ⟨mm, ⟨by omega, fun q h1 h2 => ?_, by rw [hcn]; omega, fun _ => ?_⟩, by omega, (Sub.pick (by simp [pickB, hget, hdel, FR.out, hzp2, v2, v3, v4]) (by simp [look, hzp2, v2, v3, v4]))⟩
          · by_cases hq : q ≤ m
            · exact m2 q h1 hq
            · obtain rfl : q = m + 1 := by omega
              rw [← hp]; exact ⟨hpl, by omega, by omega⟩
          · rw [hcn, hmm, Int.pow_succ]; omega
        · have kp : decide ((p : Int) ≥ (zs.length : Int)) = true := decide_eq_true (by omega)
          have hT2 := bad2 (fun h => hpl h.1)
          first | (have FRx := FR; clear FRx) | have FR := fr0S
          repeat' first | (refine Sm.mk ?_; try simp -dsimp only [ZK, rvc, drawF, headN, pureH, stp, dvc, calleeOf, gcall, pev, eff, newB, okd, og, ogs, ogo, ogp, slv, bltv, opd, litv, strip, one, both, putE, St.put, look, gdOf, gdv, picka, pickv, pickw, binv, bini, bins, binb, binp, binq, isSlT, bina, shp, eqCells, unv, convv, nilv, faddv, addp, idxav, idxp, load1, load1m, loadn, loadnm, loadv, hget, hset, hrep, hdel, slicev, slice3v, bnd, shift1, lenv, capv, IntKind.bits, extractv, fieldv, indexv, min2v, max2v, mkiv, tasv, tasz, cellsA, fillA, buildv, stC, oneC, rowMB, intsA, plN, appE, appZ, appC, appS, srcB, appNZ, appNC, VwL, srcC, srcZ, srcM, isBoolT, isPtrT, isSliceT, uOk, Value.oneCell', Nat.reducePow, Int.reducePow, Nat.reduceAdd, Nat.reduceMul, Nat.reduceSub, Nat.reduceLT, Nat.reduceLeDiff, Nat.reduceEqDiff, Nat.reduceBEq, Nat.reduceDiv, Nat.reduceMod, ↓reduceIte, reduceCtorEq, Int.reduceToNat, Int.reduceLT, Int.reduceLE, TFTxE, SeqQ, BlkQ, LoopQ, BodyQ, hs, kk, wp, kp, t1, s1, haA, l1, l2, FR.out]) | refine WP.seq fun K hK => ?_ | refine WP.region (rvc_sound _ _ (Sm.out ?_)) | refine WP.drawK rfl mixed (by decide +kernel) (Sm.out ?_) | (refine Ob.mk ?_; focus (first | assumption | omega | decide | trivial | (intro hob; simp only [hob, ZF]; done) | (intros; (repeat' refine And.intro ?_ ?_) <;> first | assumption | omega | trivial | decide) | (intros; simp only [ZE] at *; (repeat' refine And.intro ?_ ?_) <;> first | assumption | omega | trivial))) | refine And.intro (Ob.out ?_) ?_ | refine WP.block ?_ | (refine WP.cond rfl (fun hc => ?_) (fun hc => ?_) <;> (try simp only [ZC, reduceCtorEq, ZD] at hc) <;> (try exact absurd hc (by decide)) <;> (try (exfalso; omega))) | ((first | refine WP.skip ?_ | refine WP.exit ?_); simp only [SeqQ, BlkQ, LoopQ, BodyQ, ↓reduceIte, Nat.reduceEqDiff, reduceCtorEq, look, true_and]) | refine WP.ret (Sm.out ?_) | (first | refine ExG.no (Sm.out ?_) | refine Or.inl (ExG.no (Sm.out ?_)) | refine Or.inl (And.intro (fun hg => absurd hg (by decide)) (ExG.no (Sm.out ?_)))) | (refine Rt.mk ?_; refine And.intro ?_ ?_ <;> (intro hg; first | exact absurd hg (by decide) | refine Sm.out ?_)) | (refine Nu.mk ?_; first | (fail_if_success have := nb1); intro nb1 | (fail_if_success have := nb2); intro nb2 | (fail_if_success have := nb3); intro nb3 | (fail_if_success have := nb4); intro nb4 | (fail_if_success have := nb5); intro nb5 | (fail_if_success have := nb6); intro nb6 | (fail_if_success have := nb7); intro nb7 | (fail_if_success have := nb8); intro nb8 | (fail_if_success have := nb9); intro nb9 | (fail_if_success have := nb10); intro nb10 | (fail_if_success have := nb11); intro nb11 | (fail_if_success have := nb12); intro nb12 | intro nbz) | (refine Fr.mk ?_; intro hfr; (first | (have hFRb : _ ≤ _ ∧ _ ≤ _ := And.intro hfr.1 hfr.2.1) | (have hFRb : _ ≤ _ := hfr.1) | skip); replace FR := Sm.mk (And.intro hfr FR.out); clear hfr; refine Sm.out ?_) | refine Two.mk ?_ ?_ | (refine Cs.mk ?_; intro hcs; first | exact False.elim hcs | (exfalso; omega) | (refine Sm.out ?_)) | go_step | omega | (simp only [maxLen_eq]; omega)
          refine ⟨⟨i + 1, f, A ++ [-1], nb3, nb4⟩, ⟨by simp only; omega, by simp only; omega, by simp only [List.length_append, List.length_cons, List.length_nil]; omega, by simp only [List.length_append, List.length_cons, List.length_nil]; omega, by simp only; omega, hT2⟩, by simp only; omega, (Sub.pick (by simp [pickB, hget, hdel, FR.out, haA]) (by simp [look, haA]))⟩
      · obtain rfl : m = n := by omega
        have kk : decide (((m + 1 : Nat) : Int) ≤ (m : Int)) = false := decide_eq_false (by omega)
        obtain ⟨mm, hmm⟩ : ∃ mm, mm = m + 1 := ⟨_, rfl⟩
        rw [← hmm] at kk
        simp only [← hmm]
        by_cases hm0 : m = 0
        · have hob0 : ob = false := by rw [hob]; exact decide_eq_false (by omega)
          subst hob0
          have hT2 := hbad fun h => h.1 hm0
          first | (have FRx := FR; clear FRx) | have FR := fr0S
          repeat' first | (refine Sm.mk ?_; try simp -dsimp only [ZK, rvc, drawF, headN, pureH, stp, dvc, calleeOf, gcall, pev, eff, newB, okd, og, ogs, ogo, ogp, slv, bltv, opd, litv, strip, one, both, putE, St.put, look, gdOf, gdv, picka, pickv, pickw, binv, bini, bins, binb, binp, binq, isSlT, bina, shp, eqCells, unv, convv, nilv, faddv, addp, idxav, idxp, load1, load1m, loadn, loadnm, loadv, hget, hset, hrep, hdel, slicev, slice3v, bnd, shift1, lenv, capv, IntKind.bits, extractv, fieldv, indexv, min2v, max2v, mkiv, tasv, tasz, cellsA, fillA, buildv, stC, oneC, rowMB, intsA, plN, appE, appZ, appC, appS, srcB, appNZ, appNC, VwL, srcC, srcZ, srcM, isBoolT, isPtrT, isSliceT, uOk, Value.oneCell', Nat.reducePow, Int.reducePow, Nat.reduceAdd, Nat.reduceMul, Nat.reduceSub, Nat.reduceLT, Nat.reduceLeDiff, Nat.reduceEqDiff, Nat.reduceBEq, Nat.reduceDiv, Nat.reduceMod, ↓reduceIte, reduceCtorEq, Int.reduceToNat, Int.reduceLT, Int.reduceLE, TFTxE, SeqQ, BlkQ, LoopQ, BodyQ, hs, kk, s1, haA, l1, l2, FR.out]) | refine WP.seq fun K hK => ?_ | refine WP.region (rvc_sound _ _ (Sm.out ?_)) | refine WP.drawK rfl mixed (by decide +kernel) (Sm.out ?_) | (refine Ob.mk ?_; focus (first | assumption | omega | decide | trivial | (intro hob; simp only [hob, ZF]; done) | (intros; (repeat' refine And.intro ?_ ?_) <;> first | assumption | omega | trivial | decide) | (intros; simp only [ZE] at *; (repeat' refine And.intro ?_ ?_) <;> first | assumption | omega | trivial))) | refine And.intro (Ob.out ?_) ?_ | refine WP.block ?_ | (refine WP.cond rfl (fun hc => ?_) (fun hc => ?_) <;> (try simp only [ZC, reduceCtorEq, ZD] at hc) <;> (try exact absurd hc (by decide)) <;> (try (exfalso; omega))) | ((first | refine WP.skip ?_ | refine WP.exit ?_); simp only [SeqQ, BlkQ, LoopQ, BodyQ, ↓reduceIte, Nat.reduceEqDiff, reduceCtorEq, look, true_and]) | refine WP.ret (Sm.out ?_) | (first | refine ExG.no (Sm.out ?_) | refine Or.inl (ExG.no (Sm.out ?_)) | refine Or.inl (And.intro (fun hg => absurd hg (by decide)) (ExG.no (Sm.out ?_)))) | (refine Rt.mk ?_; refine And.intro ?_ ?_ <;> (intro hg; first | exact absurd hg (by decide) | refine Sm.out ?_)) | (refine Nu.mk ?_; first | (fail_if_success have := nb1); intro nb1 | (fail_if_success have := nb2); intro nb2 | (fail_if_success have := nb3); intro nb3 | (fail_if_success have := nb4); intro nb4 | (fail_if_success have := nb5); intro nb5 | (fail_if_success have := nb6); intro nb6 | (fail_if_success have := nb7); intro nb7 | (fail_if_success have := nb8); intro nb8 | (fail_if_success have := nb9); intro nb9 | (fail_if_success have := nb10); intro nb10 | (fail_if_success have := nb11); intro nb11 | (fail_if_success have := nb12); intro nb12 | intro nbz) | (refine Fr.mk ?_; intro hfr; (first | (have hFRb : _ ≤ _ ∧ _ ≤ _ := And.intro hfr.1 hfr.2.1) | (have hFRb : _ ≤ _ := hfr.1) | skip); replace FR := Sm.mk (And.intro hfr FR.out); clear hfr; refine Sm.out ?_) | refine Two.mk ?_ ?_ | (refine Cs.mk ?_; intro hcs; first | exact False.elim hcs | (exfalso; omega) | (refine Sm.out ?_)) | go_step | omega | (simp only [maxLen_eq]; omega)
          refine ⟨⟨i + 1, f, A ++ [-1], nb3, nb4⟩, ⟨by simp only; omega, by simp only; omega, by simp only [List.length_append, List.length_cons, List.length_nil]; omega, by simp only [List.length_append, List.length_cons, List.length_nil]; omega, by simp only; omega, hT2⟩, by simp only; omega, (Sub.pick (by simp [pickB, hget, hdel, FR.out, haA]) (by simp [look, haA]))⟩
        have hob1 : ob = true := by rw [hob]; exact decide_eq_true (by omega)
        subst hob1
        have m4 := m4 hm0
        have hm64 : (64 : Int) ^ m ≤ 262144 := by rcases (by omega : m = 0 ∨ m = 1 ∨ m = 2 ∨ m = 3) with rfl | rfl | rfl | rfl <;> decide
        have hend := (m2 m (by omega) (Nat.le_refl _)).1
        obtain ⟨b1, b2, b3, b4, p1, p2, p3, p4, hbs⟩ : ∃ b1 b2 b3 b4 : Bool, decide (c < ls) = b1 ∧ decide (c > 1114111) = b2 ∧ decide (c ≥ 55296) = b3 ∧ decide (c < 57344) = b4 ∧
            (((b1 = true ∨ (b1 = false ∧ b2 = true) ∨ (b1 = false ∧ b2 = false ∧ b3 = true ∧ b4 = true)) ∧ ¬ fitR m c) ∨ ((b1 = false ∧ b2 = false ∧ b3 = false ∨ b1 = false ∧ b2 = false ∧ b3 = true ∧ b4 = false) ∧ fitR m c)) := by
          refine ⟨_, _, _, _, rfl, rfl, rfl, rfl, ?_⟩
          unfold fitR
          rw [← hls]
          by_cases h1 : c < ls
          · exact .inl ⟨.inl (decide_eq_true h1), fun h => by omega⟩
          by_cases h2 : c > 1114111
          · exact .inl ⟨.inr (.inl ⟨decide_eq_false h1, decide_eq_true h2⟩), fun h => by omega⟩
          by_cases h3 : c ≥ 55296
          · by_cases h4 : c < 57344
            · exact .inl ⟨.inr (.inr ⟨decide_eq_false h1, decide_eq_false h2, decide_eq_true h3, decide_eq_true h4⟩), fun h => by omega⟩
            · exact .inr ⟨.inr ⟨decide_eq_false h1, decide_eq_false h2, decide_eq_true h3, decide_eq_false h4⟩, by omega⟩
          · exact .inr ⟨.inl ⟨decide_eq_false h1, decide_eq_false h2, decide_eq_false h3⟩, by omega⟩
        rcases hbs with ⟨hbs, hfit⟩ | ⟨hbs, hfit⟩
        · have hT2 := hbad fun h => hfit (by rw [hcc]; exact h.2.2)
          rcases hbs with rfl | ⟨rfl, rfl⟩ | ⟨rfl, rfl, rfl, rfl⟩
          all_goals (
              first | (have FRx := FR; clear FRx) | have FR := fr0S
              repeat' first | (refine Sm.mk ?_; try simp -dsimp only [ZK, rvc, drawF, headN, pureH, stp, dvc, calleeOf, gcall, pev, eff, newB, okd, og, ogs, ogo, ogp, slv, bltv, opd, litv, strip, one, both, putE, St.put, look, gdOf, gdv, picka, pickv, pickw, binv, bini, bins, binb, binp, binq, isSlT, bina, shp, eqCells, unv, convv, nilv, faddv, addp, idxav, idxp, load1, load1m, loadn, loadnm, loadv, hget, hset, hrep, hdel, slicev, slice3v, bnd, shift1, lenv, capv, IntKind.bits, extractv, fieldv, indexv, min2v, max2v, mkiv, tasv, tasz, cellsA, fillA, buildv, stC, oneC, rowMB, intsA, plN, appE, appZ, appC, appS, srcB, appNZ, appNC, VwL, srcC, srcZ, srcM, isBoolT, isPtrT, isSliceT, uOk, Value.oneCell', Nat.reducePow, Int.reducePow, Nat.reduceAdd, Nat.reduceMul, Nat.reduceSub, Nat.reduceLT, Nat.reduceLeDiff, Nat.reduceEqDiff, Nat.reduceBEq, Nat.reduceDiv, Nat.reduceMod, ↓reduceIte, reduceCtorEq, Int.reduceToNat, Int.reduceLT, Int.reduceLE, TFTxE, SeqQ, BlkQ, LoopQ, BodyQ, hs, kk, s1, p1, p2, p3, p4, haA, l1, l2, FR.out]) | refine WP.seq fun K hK => ?_ | refine WP.region (rvc_sound _ _ (Sm.out ?_)) | refine WP.drawK rfl mixed (by decide +kernel) (Sm.out ?_) | (refine Ob.mk ?_; focus (first | assumption | omega | decide | trivial | (intro hob; simp only [hob, ZF]; done) | (intros; (repeat' refine And.intro ?_ ?_) <;> first | assumption | omega | trivial | decide) | (intros; simp only [ZE] at *; (repeat' refine And.intro ?_ ?_) <;> first | assumption | omega | trivial))) | refine And.intro (Ob.out ?_) ?_ | refine WP.block ?_ | (refine WP.cond rfl (fun hc => ?_) (fun hc => ?_) <;> (try simp only [ZC, reduceCtorEq, ZD] at hc) <;> (try exact absurd hc (by decide)) <;> (try (exfalso; omega))) | ((first | refine WP.skip ?_ | refine WP.exit ?_); simp only [SeqQ, BlkQ, LoopQ, BodyQ, ↓reduceIte, Nat.reduceEqDiff, reduceCtorEq, look, true_and]) | refine WP.ret (Sm.out ?_) | (first | refine ExG.no (Sm.out ?_) | refine Or.inl (ExG.no (Sm.out ?_)) | refine Or.inl (And.intro (fun hg => absurd hg (by decide)) (ExG.no (Sm.out ?_)))) | (refine Rt.mk ?_; refine And.intro ?_ ?_ <;> (intro hg; first | exact absurd hg (by decide) | refine Sm.out ?_)) | (refine Nu.mk ?_; first | (fail_if_success have := nb1); intro nb1 | (fail_if_success have := nb2); intro nb2 | (fail_if_success have := nb3); intro nb3 | (fail_if_success have := nb4); intro nb4 | (fail_if_success have := nb5); intro nb5 | (fail_if_success have := nb6); intro nb6 | (fail_if_success have := nb7); intro nb7 | (fail_if_success have := nb8); intro nb8 | (fail_if_success have := nb9); intro nb9 | (fail_if_success have := nb10); intro nb10 | (fail_if_success have := nb11); intro nb11 | (fail_if_success have := nb12); intro nb12 | intro nbz) | (refine Fr.mk ?_; intro hfr; (first | (have hFRb : _ ≤ _ ∧ _ ≤ _ := And.intro hfr.1 hfr.2.1) | (have hFRb : _ ≤ _ := hfr.1) | skip); replace FR := Sm.mk (And.intro hfr FR.out); clear hfr; refine Sm.out ?_) | refine Two.mk ?_ ?_ | (refine Cs.mk ?_; intro hcs; first | exact False.elim hcs | (exfalso; omega) | (refine Sm.out ?_)) | go_step | omega | (simp only [maxLen_eq]; omega))
          all_goals exact ⟨⟨i + 1, f, A ++ [-1], nb3, nb4⟩, ⟨by simp only; omega, by simp only; omega, by simp only [List.length_append, List.length_cons, List.length_nil]; omega, by simp only [List.length_append, List.length_cons, List.length_nil]; omega, by simp only; omega, hT2⟩, by simp only; omega, (Sub.pick (by simp [pickB, hget, hdel, FR.out, haA]) (by simp [look, haA]))⟩
        · have hT2 := hgood ⟨hm0, m2, by rw [← hcc]; exact hfit⟩
          rw [← hcc] at hT2
          have s2 : IntKind.i64.wrap (((i + 1 : Nat) : Int) + (m : Int)) = ((i + (m + 1) : Nat) : Int) := by rw [wrap_i64 (by omega) (by omega)]; omega
          rcases hbs with ⟨rfl, rfl, rfl⟩ | ⟨rfl, rfl, rfl, rfl⟩
          all_goals (
              first | (have FRx := FR; clear FRx) | have FR := fr0S
              repeat' first | (refine Sm.mk ?_; try simp -dsimp only [ZK, rvc, drawF, headN, pureH, stp, dvc, calleeOf, gcall, pev, eff, newB, okd, og, ogs, ogo, ogp, slv, bltv, opd, litv, strip, one, both, putE, St.put, look, gdOf, gdv, picka, pickv, pickw, binv, bini, bins, binb, binp, binq, isSlT, bina, shp, eqCells, unv, convv, nilv, faddv, addp, idxav, idxp, load1, load1m, loadn, loadnm, loadv, hget, hset, hrep, hdel, slicev, slice3v, bnd, shift1, lenv, capv, IntKind.bits, extractv, fieldv, indexv, min2v, max2v, mkiv, tasv, tasz, cellsA, fillA, buildv, stC, oneC, rowMB, intsA, plN, appE, appZ, appC, appS, srcB, appNZ, appNC, VwL, srcC, srcZ, srcM, isBoolT, isPtrT, isSliceT, uOk, Value.oneCell', Nat.reducePow, Int.reducePow, Nat.reduceAdd, Nat.reduceMul, Nat.reduceSub, Nat.reduceLT, Nat.reduceLeDiff, Nat.reduceEqDiff, Nat.reduceBEq, Nat.reduceDiv, Nat.reduceMod, ↓reduceIte, reduceCtorEq, Int.reduceToNat, Int.reduceLT, Int.reduceLE, TFTxE, SeqQ, BlkQ, LoopQ, BodyQ, hs, kk, s1, s2, p1, p2, p3, p4, haA, l1, l2, FR.out]) | refine WP.seq fun K hK => ?_ | refine WP.region (rvc_sound _ _ (Sm.out ?_)) | refine WP.drawK rfl mixed (by decide +kernel) (Sm.out ?_) | (refine Ob.mk ?_; focus (first | assumption | omega | decide | trivial | (intro hob; simp only [hob, ZF]; done) | (intros; (repeat' refine And.intro ?_ ?_) <;> first | assumption | omega | trivial | decide) | (intros; simp only [ZE] at *; (repeat' refine And.intro ?_ ?_) <;> first | assumption | omega | trivial))) | refine And.intro (Ob.out ?_) ?_ | refine WP.block ?_ | (refine WP.cond rfl (fun hc => ?_) (fun hc => ?_) <;> (try simp only [ZC, reduceCtorEq, ZD] at hc) <;> (try exact absurd hc (by decide)) <;> (try (exfalso; omega))) | ((first | refine WP.skip ?_ | refine WP.exit ?_); simp only [SeqQ, BlkQ, LoopQ, BodyQ, ↓reduceIte, Nat.reduceEqDiff, reduceCtorEq, look, true_and]) | refine WP.ret (Sm.out ?_) | (first | refine ExG.no (Sm.out ?_) | refine Or.inl (ExG.no (Sm.out ?_)) | refine Or.inl (And.intro (fun hg => absurd hg (by decide)) (ExG.no (Sm.out ?_)))) | (refine Rt.mk ?_; refine And.intro ?_ ?_ <;> (intro hg; first | exact absurd hg (by decide) | refine Sm.out ?_)) | (refine Nu.mk ?_; first | (fail_if_success have := nb1); intro nb1 | (fail_if_success have := nb2); intro nb2 | (fail_if_success have := nb3); intro nb3 | (fail_if_success have := nb4); intro nb4 | (fail_if_success have := nb5); intro nb5 | (fail_if_success have := nb6); intro nb6 | (fail_if_success have := nb7); intro nb7 | (fail_if_success have := nb8); intro nb8 | (fail_if_success have := nb9); intro nb9 | (fail_if_success have := nb10); intro nb10 | (fail_if_success have := nb11); intro nb11 | (fail_if_success have := nb12); intro nb12 | intro nbz) | (refine Fr.mk ?_; intro hfr; (first | (have hFRb : _ ≤ _ ∧ _ ≤ _ := And.intro hfr.1 hfr.2.1) | (have hFRb : _ ≤ _ := hfr.1) | skip); replace FR := Sm.mk (And.intro hfr FR.out); clear hfr; refine Sm.out ?_) | refine Two.mk ?_ ?_ | (refine Cs.mk ?_; intro hcs; first | exact False.elim hcs | (exfalso; omega) | (refine Sm.out ?_)) | go_step | omega | (simp only [maxLen_eq]; omega))
          all_goals exact ⟨⟨i + (m + 1), f, A ++ [c], nb3, nb4⟩, ⟨by simp only; omega, by simp only; omega, by simp only [List.length_append, List.length_cons, List.length_nil]; omega, by simp only [List.length_append, List.length_cons, List.length_nil]; omega, by simp only; omega, hT2⟩, by simp only; omega, (Sub.pick (by simp [pickB, hget, hdel, FR.out, haA]) (by simp [look, haA]))⟩
    clear hK2
    by_cases n1 : 192 ≤ z ∧ z < 224
    · have en : n = 1 := by rw [hn]; unfold nB; rw [if_pos n1]
      have ec : c0 = z - 192 := by rw [hc0, en]; rfl
      have el : ls = 128 := by rw [hls, en]; rfl
      have v1 : IntKind.i32.wrap (z - 192) = c0 := by rw [wrap_i32 (by omega) (by omega), ec]
      have a1 : decide (z ≥ 192) = true := decide_eq_true n1.1
      have a2 : decide (z < 224) = true := decide_eq_true n1.2
      first | (have FRx := FR; clear FRx) | have FR := fr0S
      repeat' first | (refine Sm.mk ?_; try simp -dsimp only [ZK, rvc, drawF, headN, pureH, stp, dvc, calleeOf, gcall, pev, eff, newB, okd, og, ogs, ogo, ogp, slv, bltv, opd, litv, strip, one, both, putE, St.put, look, gdOf, gdv, picka, pickv, pickw, binv, bini, bins, binb, binp, binq, isSlT, bina, shp, eqCells, unv, convv, nilv, faddv, addp, idxav, idxp, load1, load1m, loadn, loadnm, loadv, hget, hset, hrep, hdel, slicev, slice3v, bnd, shift1, lenv, capv, IntKind.bits, extractv, fieldv, indexv, min2v, max2v, mkiv, tasv, tasz, cellsA, fillA, buildv, stC, oneC, rowMB, intsA, plN, appE, appZ, appC, appS, srcB, appNZ, appNC, VwL, srcC, srcZ, srcM, isBoolT, isPtrT, isSliceT, uOk, Value.oneCell', Nat.reducePow, Int.reducePow, Nat.reduceAdd, Nat.reduceMul, Nat.reduceSub, Nat.reduceLT, Nat.reduceLeDiff, Nat.reduceEqDiff, Nat.reduceBEq, Nat.reduceDiv, Nat.reduceMod, ↓reduceIte, reduceCtorEq, Int.reduceToNat, Int.reduceLT, Int.reduceLE, TFTxE, SeqQ, BlkQ, LoopQ, BodyQ, k0, a1, a2, v1, FR.out]) | refine WP.seq fun K hK => ?_ | refine WP.region (rvc_sound _ _ (Sm.out ?_)) | refine WP.drawK rfl mixed (by decide +kernel) (Sm.out ?_) | (refine Ob.mk ?_; focus (first | assumption | omega | decide | trivial | (intro hob; simp only [hob, ZF]; done) | (intros; (repeat' refine And.intro ?_ ?_) <;> first | assumption | omega | trivial | decide) | (intros; simp only [ZE] at *; (repeat' refine And.intro ?_ ?_) <;> first | assumption | omega | trivial))) | refine And.intro (Ob.out ?_) ?_ | refine WP.block ?_ | (refine WP.cond rfl (fun hc => ?_) (fun hc => ?_) <;> (try simp only [ZC, reduceCtorEq, ZD] at hc) <;> (try exact absurd hc (by decide)) <;> (try (exfalso; omega))) | ((first | refine WP.skip ?_ | refine WP.exit ?_); simp only [SeqQ, BlkQ, LoopQ, BodyQ, ↓reduceIte, Nat.reduceEqDiff, reduceCtorEq, look, true_and]) | refine WP.ret (Sm.out ?_) | (first | refine ExG.no (Sm.out ?_) | refine Or.inl (ExG.no (Sm.out ?_)) | refine Or.inl (And.intro (fun hg => absurd hg (by decide)) (ExG.no (Sm.out ?_)))) | (refine Rt.mk ?_; refine And.intro ?_ ?_ <;> (intro hg; first | exact absurd hg (by decide) | refine Sm.out ?_)) | (refine Nu.mk ?_; first | (fail_if_success have := nb1); intro nb1 | (fail_if_success have := nb2); intro nb2 | (fail_if_success have := nb3); intro nb3 | (fail_if_success have := nb4); intro nb4 | (fail_if_success have := nb5); intro nb5 | (fail_if_success have := nb6); intro nb6 | (fail_if_success have := nb7); intro nb7 | (fail_if_success have := nb8); intro nb8 | (fail_if_success have := nb9); intro nb9 | (fail_if_success have := nb10); intro nb10 | (fail_if_success have := nb11); intro nb11 | (fail_if_success have := nb12); intro nb12 | intro nbz) | (refine Fr.mk ?_; intro hfr; (first | (have hFRb : _ ≤ _ ∧ _ ≤ _ := And.intro hfr.1 hfr.2.1) | (have hFRb : _ ≤ _ := hfr.1) | skip); replace FR := Sm.mk (And.intro hfr FR.out); clear hfr; refine Sm.out ?_) | refine Two.mk ?_ ?_ | (refine Cs.mk ?_; intro hcs; first | exact False.elim hcs | (exfalso; omega) | (refine Sm.out ?_)) | go_step | omega | (simp only [maxLen_eq]; omega)
      exact cont.out _ (Sub.pick (by simp [pickB, hget, hdel, FR.out, en, el, v1]) (by simp [look, en, el, v1]))
    by_cases n2 : 224 ≤ z ∧ z < 240
    · have en : n = 2 := by rw [hn]; unfold nB; rw [if_neg n1, if_pos n2]
      have ec : c0 = z - 224 := by rw [hc0, en]; rfl
      have el : ls = 2048 := by rw [hls, en]; rfl
      have v1 : IntKind.i32.wrap (z - 224) = c0 := by rw [wrap_i32 (by omega) (by omega), ec]
      have a1 : decide (z ≥ 192) = true := decide_eq_true (by omega)
      have a2 : decide (z < 224) = false := decide_eq_false (by omega)
      have a3 : decide (z ≥ 224) = true := decide_eq_true n2.1
      have a4 : decide (z < 240) = true := decide_eq_true n2.2
      first | (have FRx := FR; clear FRx) | have FR := fr0S
      repeat' first | (refine Sm.mk ?_; try simp -dsimp only [ZK, rvc, drawF, headN, pureH, stp, dvc, calleeOf, gcall, pev, eff, newB, okd, og, ogs, ogo, ogp, slv, bltv, opd, litv, strip, one, both, putE, St.put, look, gdOf, gdv, picka, pickv, pickw, binv, bini, bins, binb, binp, binq, isSlT, bina, shp, eqCells, unv, convv, nilv, faddv, addp, idxav, idxp, load1, load1m, loadn, loadnm, loadv, hget, hset, hrep, hdel, slicev, slice3v, bnd, shift1, lenv, capv, IntKind.bits, extractv, fieldv, indexv, min2v, max2v, mkiv, tasv, tasz, cellsA, fillA, buildv, stC, oneC, rowMB, intsA, plN, appE, appZ, appC, appS, srcB, appNZ, appNC, VwL, srcC, srcZ, srcM, isBoolT, isPtrT, isSliceT, uOk, Value.oneCell', Nat.reducePow, Int.reducePow, Nat.reduceAdd, Nat.reduceMul, Nat.reduceSub, Nat.reduceLT, Nat.reduceLeDiff, Nat.reduceEqDiff, Nat.reduceBEq, Nat.reduceDiv, Nat.reduceMod, ↓reduceIte, reduceCtorEq, Int.reduceToNat, Int.reduceLT, Int.reduceLE, TFTxE, SeqQ, BlkQ, LoopQ, BodyQ, k0, a1, a2, a3, a4, v1, FR.out]) | refine WP.seq fun K hK => ?_ | refine WP.region (rvc_sound _ _ (Sm.out ?_)) | refine WP.drawK rfl mixed (by decide +kernel) (Sm.out ?_) | (refine Ob.mk ?_; focus (first | assumption | omega | decide | trivial | (intro hob; simp only [hob, ZF]; done) | (intros; (repeat' refine And.intro ?_ ?_) <;> first | assumption | omega | trivial | decide) | (intros; simp only [ZE] at *; (repeat' refine And.intro ?_ ?_) <;> first | assumption | omega | trivial))) | refine And.intro (Ob.out ?_) ?_ | refine WP.block ?_ | (refine WP.cond rfl (fun hc => ?_) (fun hc => ?_) <;> (try simp only [ZC, reduceCtorEq, ZD] at hc) <;> (try exact absurd hc (by decide)) <;> (try (exfalso; omega))) | ((first | refine WP.skip ?_ | refine WP.exit ?_); simp only [SeqQ, BlkQ, LoopQ, BodyQ, ↓reduceIte, Nat.reduceEqDiff, reduceCtorEq, look, true_and]) | refine WP.ret (Sm.out ?_) | (first | refine ExG.no (Sm.out ?_) | refine Or.inl (ExG.no (Sm.out ?_)) | refine Or.inl (And.intro (fun hg => absurd hg (by decide)) (ExG.no (Sm.out ?_)))) | (refine Rt.mk ?_; refine And.intro ?_ ?_ <;> (intro hg; first | exact absurd hg (by decide) | refine Sm.out ?_)) | (refine Nu.mk ?_; first | (fail_if_success have := nb1); intro nb1 | (fail_if_success have := nb2); intro nb2 | (fail_if_success have := nb3); intro nb3 | (fail_if_success have := nb4); intro nb4 | (fail_if_success have := nb5); intro nb5 | (fail_if_success have := nb6); intro nb6 | (fail_if_success have := nb7); intro nb7 | (fail_if_success have := nb8); intro nb8 | (fail_if_success have := nb9); intro nb9 | (fail_if_success have := nb10); intro nb10 | (fail_if_success have := nb11); intro nb11 | (fail_if_success have := nb12); intro nb12 | intro nbz) | (refine Fr.mk ?_; intro hfr; (first | (have hFRb : _ ≤ _ ∧ _ ≤ _ := And.intro hfr.1 hfr.2.1) | (have hFRb : _ ≤ _ := hfr.1) | skip); replace FR := Sm.mk (And.intro hfr FR.out); clear hfr; refine Sm.out ?_) | refine Two.mk ?_ ?_ | (refine Cs.mk ?_; intro hcs; first | exact False.elim hcs | (exfalso; omega) | (refine Sm.out ?_)) | go_step | omega | (simp only [maxLen_eq]; omega)
      exact cont.out _ (Sub.pick (by simp [pickB, hget, hdel, FR.out, en, el, v1]) (by simp [look, en, el, v1]))
    by_cases n3 : 240 ≤ z ∧ z < 248
    · have en : n = 3 := by rw [hn]; unfold nB; rw [if_neg n1, if_neg n2, if_pos n3]
      have ec : c0 = z - 240 := by rw [hc0, en]; rfl
      have el : ls = 65536 := by rw [hls, en]; rfl
      have v1 : IntKind.i32.wrap (z - 240) = c0 := by rw [wrap_i32 (by omega) (by omega), ec]
      have a1 : decide (z ≥ 192) = true := decide_eq_true (by omega)
      have a2 : decide (z < 224) = false := decide_eq_false (by omega)
      have a3 : decide (z ≥ 224) = true := decide_eq_true (by omega)
      have a4 : decide (z < 240) = false := decide_eq_false (by omega)
      have a5 : decide (z ≥ 240) = true := decide_eq_true n3.1
      have a6 : decide (z < 248) = true := decide_eq_true n3.2
      first | (have FRx := FR; clear FRx) | have FR := fr0S
      repeat' first | (refine Sm.mk ?_; try simp -dsimp only [ZK, rvc, drawF, headN, pureH, stp, dvc, calleeOf, gcall, pev, eff, newB, okd, og, ogs, ogo, ogp, slv, bltv, opd, litv, strip, one, both, putE, St.put, look, gdOf, gdv, picka, pickv, pickw, binv, bini, bins, binb, binp, binq, isSlT, bina, shp, eqCells, unv, convv, nilv, faddv, addp, idxav, idxp, load1, load1m, loadn, loadnm, loadv, hget, hset, hrep, hdel, slicev, slice3v, bnd, shift1, lenv, capv, IntKind.bits, extractv, fieldv, indexv, min2v, max2v, mkiv, tasv, tasz, cellsA, fillA, buildv, stC, oneC, rowMB, intsA, plN, appE, appZ, appC, appS, srcB, appNZ, appNC, VwL, srcC, srcZ, srcM, isBoolT, isPtrT, isSliceT, uOk, Value.oneCell', Nat.reducePow, Int.reducePow, Nat.reduceAdd, Nat.reduceMul, Nat.reduceSub, Nat.reduceLT, Nat.reduceLeDiff, Nat.reduceEqDiff, Nat.reduceBEq, Nat.reduceDiv, Nat.reduceMod, ↓reduceIte, reduceCtorEq, Int.reduceToNat, Int.reduceLT, Int.reduceLE, TFTxE, SeqQ, BlkQ, LoopQ, BodyQ, k0, a1, a2, a3, a4, a5, a6, v1, FR.out]) | refine WP.seq fun K hK => ?_ | refine WP.region (rvc_sound _ _ (Sm.out ?_)) | refine WP.drawK rfl mixed (by decide +kernel) (Sm.out ?_) | (refine Ob.mk ?_; focus (first | assumption | omega | decide | trivial | (intro hob; simp only [hob, ZF]; done) | (intros; (repeat' refine And.intro ?_ ?_) <;> first | assumption | omega | trivial | decide) | (intros; simp only [ZE] at *; (repeat' refine And.intro ?_ ?_) <;> first | assumption | omega | trivial))) | refine And.intro (Ob.out ?_) ?_ | refine WP.block ?_ | (refine WP.cond rfl (fun hc => ?_) (fun hc => ?_) <;> (try simp only [ZC, reduceCtorEq, ZD] at hc) <;> (try exact absurd hc (by decide)) <;> (try (exfalso; omega))) | ((first | refine WP.skip ?_ | refine WP.exit ?_); simp only [SeqQ, BlkQ, LoopQ, BodyQ, ↓reduceIte, Nat.reduceEqDiff, reduceCtorEq, look, true_and]) | refine WP.ret (Sm.out ?_) | (first | refine ExG.no (Sm.out ?_) | refine Or.inl (ExG.no (Sm.out ?_)) | refine Or.inl (And.intro (fun hg => absurd hg (by decide)) (ExG.no (Sm.out ?_)))) | (refine Rt.mk ?_; refine And.intro ?_ ?_ <;> (intro hg; first | exact absurd hg (by decide) | refine Sm.out ?_)) | (refine Nu.mk ?_; first | (fail_if_success have := nb1); intro nb1 | (fail_if_success have := nb2); intro nb2 | (fail_if_success have := nb3); intro nb3 | (fail_if_success have := nb4); intro nb4 | (fail_if_success have := nb5); intro nb5 | (fail_if_success have := nb6); intro nb6 | (fail_if_success have := nb7); intro nb7 | (fail_if_success have := nb8); intro nb8 | (fail_if_success have := nb9); intro nb9 | (fail_if_success have := nb10); intro nb10 | (fail_if_success have := nb11); intro nb11 | (fail_if_success have := nb12); intro nb12 | intro nbz) | (refine Fr.mk ?_; intro hfr; (first | (have hFRb : _ ≤ _ ∧ _ ≤ _ := And.intro hfr.1 hfr.2.1) | (have hFRb : _ ≤ _ := hfr.1) | skip); replace FR := Sm.mk (And.intro hfr FR.out); clear hfr; refine Sm.out ?_) | refine Two.mk ?_ ?_ | (refine Cs.mk ?_; intro hcs; first | exact False.elim hcs | (exfalso; omega) | (refine Sm.out ?_)) | go_step | omega | (simp only [maxLen_eq]; omega)
      exact cont.out _ (Sub.pick (by simp [pickB, hget, hdel, FR.out, en, el, v1]) (by simp [look, en, el, v1]))
    · have en : n = 0 := by rw [hn]; unfold nB; rw [if_neg n1, if_neg n2, if_neg n3]
      have ec : c0 = z := by rw [hc0, en]; show z - 0 = z; omega
      have el : ls = 0 := by rw [hls, en]; rfl
      obtain ⟨b1, b2, a1, a2, hbs⟩ : ∃ b1 b2 : Bool, decide (z ≥ 192) = b1 ∧ decide (z < 248) = b2 ∧ (b1 = false ∨ b1 = true ∧ b2 = false) := by
        refine ⟨_, _, rfl, rfl, ?_⟩
        by_cases h : 192 ≤ z
        · exact .inr ⟨decide_eq_true h, decide_eq_false (by omega)⟩
        · exact .inl (decide_eq_false h)
      rcases hbs with rfl | ⟨rfl, rfl⟩
      · have hlo : z < 192 := by simpa using a1
        have a3 : decide (z ≥ 224) = false := decide_eq_false (by omega)
        have a5 : decide (z ≥ 240) = false := decide_eq_false (by omega)
        first | (have FRx := FR; clear FRx) | have FR := fr0S
        repeat' first | (refine Sm.mk ?_; try simp -dsimp only [ZK, rvc, drawF, headN, pureH, stp, dvc, calleeOf, gcall, pev, eff, newB, okd, og, ogs, ogo, ogp, slv, bltv, opd, litv, strip, one, both, putE, St.put, look, gdOf, gdv, picka, pickv, pickw, binv, bini, bins, binb, binp, binq, isSlT, bina, shp, eqCells, unv, convv, nilv, faddv, addp, idxav, idxp, load1, load1m, loadn, loadnm, loadv, hget, hset, hrep, hdel, slicev, slice3v, bnd, shift1, lenv, capv, IntKind.bits, extractv, fieldv, indexv, min2v, max2v, mkiv, tasv, tasz, cellsA, fillA, buildv, stC, oneC, rowMB, intsA, plN, appE, appZ, appC, appS, srcB, appNZ, appNC, VwL, srcC, srcZ, srcM, isBoolT, isPtrT, isSliceT, uOk, Value.oneCell', Nat.reducePow, Int.reducePow, Nat.reduceAdd, Nat.reduceMul, Nat.reduceSub, Nat.reduceLT, Nat.reduceLeDiff, Nat.reduceEqDiff, Nat.reduceBEq, Nat.reduceDiv, Nat.reduceMod, ↓reduceIte, reduceCtorEq, Int.reduceToNat, Int.reduceLT, Int.reduceLE, TFTxE, SeqQ, BlkQ, LoopQ, BodyQ, k0, a1, a2, a3, a5, FR.out]) | refine WP.seq fun K hK => ?_ | refine WP.region (rvc_sound _ _ (Sm.out ?_)) | refine WP.drawK rfl mixed (by decide +kernel) (Sm.out ?_) | (refine Ob.mk ?_; focus (first | assumption | omega | decide | trivial | (intro hob; simp only [hob, ZF]; done) | (intros; (repeat' refine And.intro ?_ ?_) <;> first | assumption | omega | trivial | decide) | (intros; simp only [ZE] at *; (repeat' refine And.intro ?_ ?_) <;> first | assumption | omega | trivial))) | refine And.intro (Ob.out ?_) ?_ | refine WP.block ?_ | (refine WP.cond rfl (fun hc => ?_) (fun hc => ?_) <;> (try simp only [ZC, reduceCtorEq, ZD] at hc) <;> (try exact absurd hc (by decide)) <;> (try (exfalso; omega))) | ((first | refine WP.skip ?_ | refine WP.exit ?_); simp only [SeqQ, BlkQ, LoopQ, BodyQ, ↓reduceIte, Nat.reduceEqDiff, reduceCtorEq, look, true_and]) | refine WP.ret (Sm.out ?_) | (first | refine ExG.no (Sm.out ?_) | refine Or.inl (ExG.no (Sm.out ?_)) | refine Or.inl (And.intro (fun hg => absurd hg (by decide)) (ExG.no (Sm.out ?_)))) | (refine Rt.mk ?_; refine And.intro ?_ ?_ <;> (intro hg; first | exact absurd hg (by decide) | refine Sm.out ?_)) | (refine Nu.mk ?_; first | (fail_if_success have := nb1); intro nb1 | (fail_if_success have := nb2); intro nb2 | (fail_if_success have := nb3); intro nb3 | (fail_if_success have := nb4); intro nb4 | (fail_if_success have := nb5); intro nb5 | (fail_if_success have := nb6); intro nb6 | (fail_if_success have := nb7); intro nb7 | (fail_if_success have := nb8); intro nb8 | (fail_if_success have := nb9); intro nb9 | (fail_if_success have := nb10); intro nb10 | (fail_if_success have := nb11); intro nb11 | (fail_if_success have := nb12); intro nb12 | intro nbz) | (refine Fr.mk ?_; intro hfr; (first | (have hFRb : _ ≤ _ ∧ _ ≤ _ := And.intro hfr.1 hfr.2.1) | (have hFRb : _ ≤ _ := hfr.1) | skip); replace FR := Sm.mk (And.intro hfr FR.out); clear hfr; refine Sm.out ?_) | refine Two.mk ?_ ?_ | (refine Cs.mk ?_; intro hcs; first | exact False.elim hcs | (exfalso; omega) | (refine Sm.out ?_)) | go_step | omega | (simp only [maxLen_eq]; omega)
        exact cont.out _ (Sub.pick (by simp [pickB, hget, hdel, FR.out, en, el, ec]) (by simp [look, en, el, ec]))
      · have hhi : 248 ≤ z := by simpa using a2
        have b2 : decide (z < 224) = false := decide_eq_false (by omega)
        have a3 : decide (z ≥ 224) = true := decide_eq_true (by omega)
        have a4 : decide (z < 240) = false := decide_eq_false (by omega)
        have a5 : decide (z ≥ 240) = true := decide_eq_true (by omega)
        first | (have FRx := FR; clear FRx) | have FR := fr0S
        repeat' first | (refine Sm.mk ?_; try simp -dsimp only [ZK, rvc, drawF, headN, pureH, stp, dvc, calleeOf, gcall, pev, eff, newB, okd, og, ogs, ogo, ogp, slv, bltv, opd, litv, strip, one, both, putE, St.put, look, gdOf, gdv, picka, pickv, pickw, binv, bini, bins, binb, binp, binq, isSlT, bina, shp, eqCells, unv, convv, nilv, faddv, addp, idxav, idxp, load1, load1m, loadn, loadnm, loadv, hget, hset, hrep, hdel, slicev, slice3v, bnd, shift1, lenv, capv, IntKind.bits, extractv, fieldv, indexv, min2v, max2v, mkiv, tasv, tasz, cellsA, fillA, buildv, stC, oneC, rowMB, intsA, plN, appE, appZ, appC, appS, srcB, appNZ, appNC, VwL, srcC, srcZ, srcM, isBoolT, isPtrT, isSliceT, uOk, Value.oneCell', Nat.reducePow, Int.reducePow, Nat.reduceAdd, Nat.reduceMul, Nat.reduceSub, Nat.reduceLT, Nat.reduceLeDiff, Nat.reduceEqDiff, Nat.reduceBEq, Nat.reduceDiv, Nat.reduceMod, ↓reduceIte, reduceCtorEq, Int.reduceToNat, Int.reduceLT, Int.reduceLE, TFTxE, SeqQ, BlkQ, LoopQ, BodyQ, k0, a1, a2, b2, a3, a4, a5, FR.out]) | refine WP.seq fun K hK => ?_ | refine WP.region (rvc_sound _ _ (Sm.out ?_)) | refine WP.drawK rfl mixed (by decide +kernel) (Sm.out ?_) | (refine Ob.mk ?_; focus (first | assumption | omega | decide | trivial | (intro hob; simp only [hob, ZF]; done) | (intros; (repeat' refine And.intro ?_ ?_) <;> first | assumption | omega | trivial | decide) | (intros; simp only [ZE] at *; (repeat' refine And.intro ?_ ?_) <;> first | assumption | omega | trivial))) | refine And.intro (Ob.out ?_) ?_ | refine WP.block ?_ | (refine WP.cond rfl (fun hc => ?_) (fun hc => ?_) <;> (try simp only [ZC, reduceCtorEq, ZD] at hc) <;> (try exact absurd hc (by decide)) <;> (try (exfalso; omega))) | ((first | refine WP.skip ?_ | refine WP.exit ?_); simp only [SeqQ, BlkQ, LoopQ, BodyQ, ↓reduceIte, Nat.reduceEqDiff, reduceCtorEq, look, true_and]) | refine WP.ret (Sm.out ?_) | (first | refine ExG.no (Sm.out ?_) | refine Or.inl (ExG.no (Sm.out ?_)) | refine Or.inl (And.intro (fun hg => absurd hg (by decide)) (ExG.no (Sm.out ?_)))) | (refine Rt.mk ?_; refine And.intro ?_ ?_ <;> (intro hg; first | exact absurd hg (by decide) | refine Sm.out ?_)) | (refine Nu.mk ?_; first | (fail_if_success have := nb1); intro nb1 | (fail_if_success have := nb2); intro nb2 | (fail_if_success have := nb3); intro nb3 | (fail_if_success have := nb4); intro nb4 | (fail_if_success have := nb5); intro nb5 | (fail_if_success have := nb6); intro nb6 | (fail_if_success have := nb7); intro nb7 | (fail_if_success have := nb8); intro nb8 | (fail_if_success have := nb9); intro nb9 | (fail_if_success have := nb10); intro nb10 | (fail_if_success have := nb11); intro nb11 | (fail_if_success have := nb12); intro nb12 | intro nbz) | (refine Fr.mk ?_; intro hfr; (first | (have hFRb : _ ≤ _ ∧ _ ≤ _ := And.intro hfr.1 hfr.2.1) | (have hFRb : _ ≤ _ := hfr.1) | skip); replace FR := Sm.mk (And.intro hfr FR.out); clear hfr; refine Sm.out ?_) | refine Two.mk ?_ ?_ | (refine Cs.mk ?_; intro hcs; first | exact False.elim hcs | (exfalso; omega) | (refine Sm.out ?_)) | go_step | omega | (simp only [maxLen_eq]; omega)
        exact cont.out _ (Sub.pick (by simp [pickB, hget, hdel, FR.out, en, el, ec]) (by simp [look, en, el, ec]))
  · obtain rfl : i = zs.length := by omega
    have ki : decide ((zs.length : Int) < (zs.length : Int)) = false := decide_eq_false (by omega)
    have eT : T = A := by
      rw [h6]
      cases f with
      | zero => exact List.append_nil _
      | succ f => rw [rnF_succ, if_neg (Nat.lt_irrefl _), List.append_nil]
    subst eT
    first | (have FRx := FR; clear FRx) | have FR := fr0S
    repeat' first | (refine Sm.mk ?_; try simp -dsimp only [ZK, rvc, drawF, headN, pureH, stp, dvc, calleeOf, gcall, pev, eff, newB, okd, og, ogs, ogo, ogp, slv, bltv, opd, litv, strip, one, both, putE, St.put, look, gdOf, gdv, picka, pickv, pickw, binv, bini, bins, binb, binp, binq, isSlT, bina, shp, eqCells, unv, convv, nilv, faddv, addp, idxav, idxp, load1, load1m, loadn, loadnm, loadv, hget, hset, hrep, hdel, slicev, slice3v, bnd, shift1, lenv, capv, IntKind.bits, extractv, fieldv, indexv, min2v, max2v, mkiv, tasv, tasz, cellsA, fillA, buildv, stC, oneC, rowMB, intsA, plN, appE, appZ, appC, appS, srcB, appNZ, appNC, VwL, srcC, srcZ, srcM, isBoolT, isPtrT, isSliceT, uOk, Value.oneCell', Nat.reducePow, Int.reducePow, Nat.reduceAdd, Nat.reduceMul, Nat.reduceSub, Nat.reduceLT, Nat.reduceLeDiff, Nat.reduceEqDiff, Nat.reduceBEq, Nat.reduceDiv, Nat.reduceMod, ↓reduceIte, reduceCtorEq, Int.reduceToNat, Int.reduceLT, Int.reduceLE, TFTxE, SeqQ, BlkQ, LoopQ, BodyQ, hs, ki, FR.out]) | refine WP.seq fun K hK => ?_ | refine WP.region (rvc_sound _ _ (Sm.out ?_)) | refine WP.drawK rfl mixed (by decide +kernel) (Sm.out ?_) | (refine Ob.mk ?_; focus (first | assumption | omega | decide | trivial | (intro hob; simp only [hob, ZF]; done) | (intros; (repeat' refine And.intro ?_ ?_) <;> first | assumption | omega | trivial | decide) | (intros; simp only [ZE] at *; (repeat' refine And.intro ?_ ?_) <;> first | assumption | omega | trivial))) | refine And.intro (Ob.out ?_) ?_ | refine WP.block ?_ | (refine WP.cond rfl (fun hc => ?_) (fun hc => ?_) <;> (try simp only [ZC, reduceCtorEq, ZD] at hc) <;> (try exact absurd hc (by decide)) <;> (try (exfalso; omega))) | ((first | refine WP.skip ?_ | refine WP.exit ?_); simp only [SeqQ, BlkQ, LoopQ, BodyQ, ↓reduceIte, Nat.reduceEqDiff, reduceCtorEq, look, true_and]) | refine WP.ret (Sm.out ?_) | (first | refine ExG.no (Sm.out ?_) | refine Or.inl (ExG.no (Sm.out ?_)) | refine Or.inl (And.intro (fun hg => absurd hg (by decide)) (ExG.no (Sm.out ?_)))) | (refine Rt.mk ?_; refine And.intro ?_ ?_ <;> (intro hg; first | exact absurd hg (by decide) | refine Sm.out ?_)) | (refine Nu.mk ?_; first | (fail_if_success have := nb1); intro nb1 | (fail_if_success have := nb2); intro nb2 | (fail_if_success have := nb3); intro nb3 | (fail_if_success have := nb4); intro nb4 | (fail_if_success have := nb5); intro nb5 | (fail_if_success have := nb6); intro nb6 | (fail_if_success have := nb7); intro nb7 | (fail_if_success have := nb8); intro nb8 | (fail_if_success have := nb9); intro nb9 | (fail_if_success have := nb10); intro nb10 | (fail_if_success have := nb11); intro nb11 | (fail_if_success have := nb12); intro nb12 | intro nbz) | (refine Fr.mk ?_; intro hfr; (first | (have hFRb : _ ≤ _ ∧ _ ≤ _ := And.intro hfr.1 hfr.2.1) | (have hFRb : _ ≤ _ := hfr.1) | skip); replace FR := Sm.mk (And.intro hfr FR.out); clear hfr; refine Sm.out ?_) | refine Two.mk ?_ ?_ | (refine Cs.mk ?_; intro hcs; first | exact False.elim hcs | (exfalso; omega) | (refine Sm.out ?_)) | go_step | omega | (simp only [maxLen_eq]; omega)
    (refine OutQ.row (by simp only [resv, ZK, look, loadv, loadn, loadnm, load1, load1m, hget, ↓reduceIte, Nat.reduceEqDiff, Nat.reduceAdd, Nat.reduceMul, Nat.reduceLeDiff, Nat.reduceLT, reduceCtorEq, TFTxE, FR.out, haA]) (by simp only [resv, resA, ZK, look, loadv, loadn, loadnm, load1, load1m, hget, ↓reduceIte, Nat.reduceEqDiff, Nat.reduceAdd, Nat.reduceMul, Nat.reduceLeDiff, Nat.reduceLT, reduceCtorEq, TFTxE, FR.out, haA]; first | done | rfl) (by simp only [hget, ↓reduceIte, if_true, if_false, FR.out, haA]; first | done | rfl) ?_ ?_ ?_ ?_ <;> first | omega | (simp only [maxLen_eq]; omega) | skip)
    all_goals rfl
end Go.Proofs.Ytbkojpkdphggeaa
