/-
  The walks and the laws that the statement leans on, part 11.
-/
import Derived.Test.YtjdjpgjjnajjhaaDoorZ10
namespace Go.Proofs.YtjdjpgjjnajjhaaDoor
open Go
set_option linter.unusedVariables false
set_option linter.unusedSimpArgs false
theorem TFTxW : ((((((type_of% tyc0) ∧ (type_of% tyc3)) ∧ ((type_of% zmb3) ∧ ((type_of% tyc4) ∧ (type_of% zmb4)))) ∧ (((type_of% tyc21) ∧ (type_of% zmb21)) ∧ ((type_of% tyc38) ∧ ((type_of% foff38_0) ∧ (type_of% fpart38_0))))) ∧ ((((type_of% foff38_1) ∧ (type_of% fpart38_1)) ∧ ((type_of% zmb38) ∧ ((type_of% bldT38) ∧ (type_of% tyc41)))) ∧ (((type_of% tyc48) ∧ (type_of% mth48_38)) ∧ ((type_of% mth48_29) ∧ ((type_of% mth48_39) ∧ (type_of% con48)))))) ∧ (((((type_of% zmb48) ∧ (type_of% tyc50)) ∧ ((type_of% foff50_0) ∧ ((type_of% fpart50_0) ∧ (type_of% foff50_1)))) ∧ (((type_of% fpart50_1) ∧ (type_of% foff50_2)) ∧ ((type_of% fpart50_2) ∧ ((type_of% foff50_3) ∧ (type_of% fpart50_3))))) ∧ ((((type_of% zmb50) ∧ (type_of% bldT50)) ∧ ((type_of% Tryd.underlying0) ∧ ((type_of% Tryd.underlying3) ∧ (type_of% Tryd.underlying4)))) ∧ (((type_of% Tryd.underlying21) ∧ (type_of% Tryd.underlying38)) ∧ ((type_of% Tryd.underlying41) ∧ ((type_of% Tryd.underlying48) ∧ (type_of% Tryd.underlying50))))))) :=
  ⟨⟨⟨⟨⟨tyc0, tyc3⟩, ⟨zmb3, ⟨tyc4, zmb4⟩⟩⟩, ⟨⟨tyc21, zmb21⟩, ⟨tyc38, ⟨foff38_0, fpart38_0⟩⟩⟩⟩, ⟨⟨⟨foff38_1, fpart38_1⟩, ⟨zmb38, ⟨bldT38, tyc41⟩⟩⟩, ⟨⟨tyc48, mth48_38⟩, ⟨mth48_29, ⟨mth48_39, con48⟩⟩⟩⟩⟩, ⟨⟨⟨⟨zmb48, tyc50⟩, ⟨foff50_0, ⟨fpart50_0, foff50_1⟩⟩⟩, ⟨⟨fpart50_1, foff50_2⟩, ⟨fpart50_2, ⟨foff50_3, fpart50_3⟩⟩⟩⟩, ⟨⟨⟨zmb50, bldT50⟩, ⟨Tryd.underlying0, ⟨Tryd.underlying3, Tryd.underlying4⟩⟩⟩, ⟨⟨Tryd.underlying21, Tryd.underlying38⟩, ⟨Tryd.underlying41, ⟨Tryd.underlying48, Tryd.underlying50⟩⟩⟩⟩⟩⟩
theorem tk_ended (b : Nat) (A S : AV) (nn ct r : Int) : ACt Tryd.prog 29 [pt b 0, iv .i32 r] [(b, .cells [A, S, iv .i64 4, iv .i32 nn, iv .i64 ct] 5 50)] (fun a F' => a = bv false ∧ F' = [(b, .cells [A, S, iv .i64 4, iv .i32 nn, iv .i64 ct] 5 50)]) := by
  refine ACt.intro Tryd.func29 rfl (by kernel_rfl) (by simp [Tryd.ntmps29]) (fun cx => ?_)
  simp only [argE, Tryd.ntmps29, Tryd.results29]
  first | (have FRx := FR; clear FRx) | (have FR : Sm (¬ ((1 : Nat) = 0)) := Sm.mk Nat.one_ne_zero)
  repeat' first
    | (refine Sm.mk ?_; try simp -dsimp only [ZK, rvc, drawF, headN, pureH, stp, dvc, calleeOf, gcall, pev, eff, newB, okd, og, ogs, ogo, ogp, slv, bltv, opd, litv, strip, one, both, putE, St.put, look, gdOf, gdv, picka, pickv, pickw, binv, bini, bins, binb, binp, binq, isSlT, bina, shp, eqCells, unv, convv, nilv, faddv, addp, idxav, idxp, load1, load1m, loadn, loadnm, loadv, hget, hset, hrep, hdel, slicev, bnd, shift1, lenv, capv, IntKind.bits, extractv, fieldv, indexv, min2v, max2v, mkiv, cellsA, fillA, buildv, stC, oneC, rowMB, intsA, plN, appE, appZ, appC, appNZ, appNC, VwL, srcC, srcZ, srcM, isBoolT, isPtrT, isSliceT, uOk, Value.oneCell', Nat.reducePow, Int.reducePow, Nat.reduceAdd, Nat.reduceMul, Nat.reduceSub, Nat.reduceLT, Nat.reduceLeDiff, Nat.reduceEqDiff, Nat.reduceBEq, Nat.reduceDiv, Nat.reduceMod, ↓reduceIte, reduceCtorEq, Int.reduceToNat, Int.reduceLT, Int.reduceLE, TFTxW, SeqQ, BlkQ, LoopQ, BodyQ, FR.out])
    | (refine WP.seq fun K hK => ?_)
    | (refine WP.region (rvc_sound _ _ (Sm.out ?_)))
    | (refine WP.drawK rfl mixed (by decide +kernel) (Sm.out ?_))
    | (refine Ob.mk ?_; focus (first | assumption | omega | decide | trivial | (intro hob; simp only [hob, ZF]; done) | (intros; (repeat' refine And.intro ?_ ?_) <;> first | assumption | omega | trivial | decide) | (intros; simp only [ZE] at *; (repeat' refine And.intro ?_ ?_) <;> first | assumption | omega | trivial)))
    | (refine And.intro (Ob.out ?_) ?_)
    | (refine WP.block ?_)
    | (refine WP.cond rfl (fun hc => ?_) (fun hc => ?_) <;> (try simp only [ZC, reduceCtorEq, ZD] at hc) <;> (try (exact absurd hc (by decide))) <;> (try (exfalso; omega)))
    | ((first | refine WP.skip ?_ | refine WP.exit ?_); simp only [SeqQ, BlkQ, LoopQ, BodyQ, ↓reduceIte, Nat.reduceEqDiff, reduceCtorEq, look, true_and])
    | (refine WP.ret (Sm.out ?_))
    | (first | refine ExG.no (Sm.out ?_) | refine Or.inl (ExG.no (Sm.out ?_)) | refine Or.inl (And.intro (fun hg => absurd hg (by decide)) (ExG.no (Sm.out ?_))))
    | (refine Rt.mk ?_; refine And.intro ?_ ?_ <;> (intro hg; first | exact absurd hg (by decide) | refine Sm.out ?_))
    | (refine Nu.mk ?_; first | (fail_if_success (have := nb1)); intro nb1 | (fail_if_success (have := nb2)); intro nb2 | (fail_if_success (have := nb3)); intro nb3 | (fail_if_success (have := nb4)); intro nb4 | intro nbz)
    | (refine Fr.mk ?_; intro hfr; (first | (have hFRb : _ ≤ _ ∧ _ ≤ _ := And.intro hfr.1 hfr.2.1) | (have hFRb : _ ≤ _ := hfr.1) | skip); replace FR := Sm.mk (And.intro hfr FR.out); clear hfr; refine Sm.out ?_)
    | (refine Two.mk ?_ ?_)
    | (refine Cs.mk ?_; intro hcs; first | exact False.elim hcs | (exfalso; omega) | (refine Sm.out ?_))
    | go_step
    | omega
    | (simp only [maxLen_eq]; omega)
  (refine OutQ.upd (by simp only [resv, ZK, look, loadv, loadn, loadnm, load1, load1m, hget, ↓reduceIte, Nat.reduceEqDiff, Nat.reduceAdd, Nat.reduceMul, Nat.reduceLeDiff, Nat.reduceLT, reduceCtorEq, TFTxW, FR.out]) (by simp only [resv, resA, ZK, look, loadv, loadn, loadnm, load1, load1m, hget, ↓reduceIte, Nat.reduceEqDiff, Nat.reduceAdd, Nat.reduceMul, Nat.reduceLeDiff, Nat.reduceLT, reduceCtorEq, TFTxW, FR.out]; first | done | rfl) (by simp only [hget, ↓reduceIte, if_true, if_false, FR.out]; first | done | rfl) ?_ <;> first | exact rfl | (simp only [ZK, look, loadv, loadn, loadnm, load1, load1m, hget, ↓reduceIte, Nat.reduceEqDiff, Nat.reduceAdd, Nat.reduceMul, Nat.reduceLeDiff, Nat.reduceLT, reduceCtorEq, TFTxW, FR.out]; done) | skip)
theorem tk_open (b : Nat) (A S : AV) (nn ct r : Int) : ACt Tryd.prog 29 [pt b 0, iv .i32 r] [(b, .cells [A, S, iv .i64 2, iv .i32 nn, iv .i64 ct] 5 50)] (fun a F' => a = bv (r == 123) ∧ F' = [(b, .cells [A, S, iv .i64 3, iv .i32 0, iv .i64 0] 5 50)]) := by
  obtain ⟨y, hy⟩ : ∃ y, y = (r == 123) := ⟨_, rfl⟩
  rw [← hy]
  refine ACt.intro Tryd.func29 rfl (by kernel_rfl) (by simp [Tryd.ntmps29]) (fun cx => ?_)
  simp only [argE, Tryd.ntmps29, Tryd.results29]
  first | (have FRx := FR; clear FRx) | (have FR : Sm (¬ ((1 : Nat) = 0)) := Sm.mk Nat.one_ne_zero)
  repeat' first
    | (refine Sm.mk ?_; try simp -dsimp only [ZK, rvc, drawF, headN, pureH, stp, dvc, calleeOf, gcall, pev, eff, newB, okd, og, ogs, ogo, ogp, slv, bltv, opd, litv, strip, one, both, putE, St.put, look, gdOf, gdv, picka, pickv, pickw, binv, bini, bins, binb, binp, binq, isSlT, bina, shp, eqCells, unv, convv, nilv, faddv, addp, idxav, idxp, load1, load1m, loadn, loadnm, loadv, hget, hset, hrep, hdel, slicev, bnd, shift1, lenv, capv, IntKind.bits, extractv, fieldv, indexv, min2v, max2v, mkiv, cellsA, fillA, buildv, stC, oneC, rowMB, intsA, plN, appE, appZ, appC, appNZ, appNC, VwL, srcC, srcZ, srcM, isBoolT, isPtrT, isSliceT, uOk, Value.oneCell', Nat.reducePow, Int.reducePow, Nat.reduceAdd, Nat.reduceMul, Nat.reduceSub, Nat.reduceLT, Nat.reduceLeDiff, Nat.reduceEqDiff, Nat.reduceBEq, Nat.reduceDiv, Nat.reduceMod, ↓reduceIte, reduceCtorEq, Int.reduceToNat, Int.reduceLT, Int.reduceLE, TFTxW, SeqQ, BlkQ, LoopQ, BodyQ, ← hy, FR.out])
    | (refine WP.seq fun K hK => ?_)
    | (refine WP.region (rvc_sound _ _ (Sm.out ?_)))
    | (refine WP.drawK rfl mixed (by decide +kernel) (Sm.out ?_))
    | (refine Ob.mk ?_; focus (first | assumption | omega | decide | trivial | (intro hob; simp only [hob, ZF]; done) | (intros; (repeat' refine And.intro ?_ ?_) <;> first | assumption | omega | trivial | decide) | (intros; simp only [ZE] at *; (repeat' refine And.intro ?_ ?_) <;> first | assumption | omega | trivial)))
    | (refine And.intro (Ob.out ?_) ?_)
    | (refine WP.block ?_)
    | (refine WP.cond rfl (fun hc => ?_) (fun hc => ?_) <;> (try simp only [ZC, reduceCtorEq, ZD] at hc) <;> (try (exact absurd hc (by decide))) <;> (try (exfalso; omega)))
    | ((first | refine WP.skip ?_ | refine WP.exit ?_); simp only [SeqQ, BlkQ, LoopQ, BodyQ, ↓reduceIte, Nat.reduceEqDiff, reduceCtorEq, look, true_and])
    | (refine WP.ret (Sm.out ?_))
    | (first | refine ExG.no (Sm.out ?_) | refine Or.inl (ExG.no (Sm.out ?_)) | refine Or.inl (And.intro (fun hg => absurd hg (by decide)) (ExG.no (Sm.out ?_))))
    | (refine Rt.mk ?_; refine And.intro ?_ ?_ <;> (intro hg; first | exact absurd hg (by decide) | refine Sm.out ?_))
    | (refine Nu.mk ?_; first | (fail_if_success (have := nb1)); intro nb1 | (fail_if_success (have := nb2)); intro nb2 | (fail_if_success (have := nb3)); intro nb3 | (fail_if_success (have := nb4)); intro nb4 | intro nbz)
    | (refine Fr.mk ?_; intro hfr; (first | (have hFRb : _ ≤ _ ∧ _ ≤ _ := And.intro hfr.1 hfr.2.1) | (have hFRb : _ ≤ _ := hfr.1) | skip); replace FR := Sm.mk (And.intro hfr FR.out); clear hfr; refine Sm.out ?_)
    | (refine Two.mk ?_ ?_)
    | (refine Cs.mk ?_; intro hcs; first | exact False.elim hcs | (exfalso; omega) | (refine Sm.out ?_))
    | go_step
    | omega
    | (simp only [maxLen_eq]; omega)
  (refine OutQ.upd (by simp only [resv, ZK, look, loadv, loadn, loadnm, load1, load1m, hget, ↓reduceIte, Nat.reduceEqDiff, Nat.reduceAdd, Nat.reduceMul, Nat.reduceLeDiff, Nat.reduceLT, reduceCtorEq, TFTxW, FR.out]) (by simp only [resv, resA, ZK, look, loadv, loadn, loadnm, load1, load1m, hget, ↓reduceIte, Nat.reduceEqDiff, Nat.reduceAdd, Nat.reduceMul, Nat.reduceLeDiff, Nat.reduceLT, reduceCtorEq, TFTxW, FR.out]; first | done | rfl) (by simp only [hget, ↓reduceIte, if_true, if_false, FR.out]; first | done | rfl) ?_ <;> first | exact rfl | (simp only [ZK, look, loadv, loadn, loadnm, load1, load1m, hget, ↓reduceIte, Nat.reduceEqDiff, Nat.reduceAdd, Nat.reduceMul, Nat.reduceLeDiff, Nat.reduceLT, reduceCtorEq, TFTxW, FR.out]; done) | skip)
theorem tk_mark (b : Nat) (A S : AV) (nn ct : Int) : ACt Tryd.prog 29 [pt b 0, iv .i32 34] [(b, .cells [A, S, iv .i64 0, iv .i32 nn, iv .i64 ct] 5 50)] (fun a F' => a = bv true ∧ F' = [(b, .cells [A, S, iv .i64 4, iv .i32 nn, iv .i64 ct] 5 50)]) := by
  refine ACt.intro Tryd.func29 rfl (by kernel_rfl) (by simp [Tryd.ntmps29]) (fun cx => ?_)
  simp only [argE, Tryd.ntmps29, Tryd.results29]
  first | (have FRx := FR; clear FRx) | (have FR : Sm (¬ ((1 : Nat) = 0)) := Sm.mk Nat.one_ne_zero)
  repeat' first
    | (refine Sm.mk ?_; try simp -dsimp only [ZK, rvc, drawF, headN, pureH, stp, dvc, calleeOf, gcall, pev, eff, newB, okd, og, ogs, ogo, ogp, slv, bltv, opd, litv, strip, one, both, putE, St.put, look, gdOf, gdv, picka, pickv, pickw, binv, bini, bins, binb, binp, binq, isSlT, bina, shp, eqCells, unv, convv, nilv, faddv, addp, idxav, idxp, load1, load1m, loadn, loadnm, loadv, hget, hset, hrep, hdel, slicev, bnd, shift1, lenv, capv, IntKind.bits, extractv, fieldv, indexv, min2v, max2v, mkiv, cellsA, fillA, buildv, stC, oneC, rowMB, intsA, plN, appE, appZ, appC, appNZ, appNC, VwL, srcC, srcZ, srcM, isBoolT, isPtrT, isSliceT, uOk, Value.oneCell', Nat.reducePow, Int.reducePow, Nat.reduceAdd, Nat.reduceMul, Nat.reduceSub, Nat.reduceLT, Nat.reduceLeDiff, Nat.reduceEqDiff, Nat.reduceBEq, Nat.reduceDiv, Nat.reduceMod, ↓reduceIte, reduceCtorEq, Int.reduceToNat, Int.reduceLT, Int.reduceLE, TFTxW, SeqQ, BlkQ, LoopQ, BodyQ, FR.out])
    | (refine WP.seq fun K hK => ?_)
    | (refine WP.region (rvc_sound _ _ (Sm.out ?_)))
    | (refine WP.drawK rfl mixed (by decide +kernel) (Sm.out ?_))
    | (refine Ob.mk ?_; focus (first | assumption | omega | decide | trivial | (intro hob; simp only [hob, ZF]; done) | (intros; (repeat' refine And.intro ?_ ?_) <;> first | assumption | omega | trivial | decide) | (intros; simp only [ZE] at *; (repeat' refine And.intro ?_ ?_) <;> first | assumption | omega | trivial)))
    | (refine And.intro (Ob.out ?_) ?_)
    | (refine WP.block ?_)
    | (refine WP.cond rfl (fun hc => ?_) (fun hc => ?_) <;> (try simp only [ZC, reduceCtorEq, ZD] at hc) <;> (try (exact absurd hc (by decide))) <;> (try (exfalso; omega)))
    | ((first | refine WP.skip ?_ | refine WP.exit ?_); simp only [SeqQ, BlkQ, LoopQ, BodyQ, ↓reduceIte, Nat.reduceEqDiff, reduceCtorEq, look, true_and])
    | (refine WP.ret (Sm.out ?_))
    | (first | refine ExG.no (Sm.out ?_) | refine Or.inl (ExG.no (Sm.out ?_)) | refine Or.inl (And.intro (fun hg => absurd hg (by decide)) (ExG.no (Sm.out ?_))))
    | (refine Rt.mk ?_; refine And.intro ?_ ?_ <;> (intro hg; first | exact absurd hg (by decide) | refine Sm.out ?_))
    | (refine Nu.mk ?_; first | (fail_if_success (have := nb1)); intro nb1 | (fail_if_success (have := nb2)); intro nb2 | (fail_if_success (have := nb3)); intro nb3 | (fail_if_success (have := nb4)); intro nb4 | intro nbz)
    | (refine Fr.mk ?_; intro hfr; (first | (have hFRb : _ ≤ _ ∧ _ ≤ _ := And.intro hfr.1 hfr.2.1) | (have hFRb : _ ≤ _ := hfr.1) | skip); replace FR := Sm.mk (And.intro hfr FR.out); clear hfr; refine Sm.out ?_)
    | (refine Two.mk ?_ ?_)
    | (refine Cs.mk ?_; intro hcs; first | exact False.elim hcs | (exfalso; omega) | (refine Sm.out ?_))
    | go_step
    | omega
    | (simp only [maxLen_eq]; omega)
  (refine OutQ.upd (by simp only [resv, ZK, look, loadv, loadn, loadnm, load1, load1m, hget, ↓reduceIte, Nat.reduceEqDiff, Nat.reduceAdd, Nat.reduceMul, Nat.reduceLeDiff, Nat.reduceLT, reduceCtorEq, TFTxW, FR.out]) (by simp only [resv, resA, ZK, look, loadv, loadn, loadnm, load1, load1m, hget, ↓reduceIte, Nat.reduceEqDiff, Nat.reduceAdd, Nat.reduceMul, Nat.reduceLeDiff, Nat.reduceLT, reduceCtorEq, TFTxW, FR.out]; first | done | rfl) (by simp only [hget, ↓reduceIte, if_true, if_false, FR.out]; first | done | rfl) ?_ <;> first | exact rfl | (simp only [ZK, look, loadv, loadn, loadnm, load1, load1m, hget, ↓reduceIte, Nat.reduceEqDiff, Nat.reduceAdd, Nat.reduceMul, Nat.reduceLeDiff, Nat.reduceLT, reduceCtorEq, TFTxW, FR.out]; done) | skip)
theorem tk_back (b : Nat) (A S : AV) (nn ct : Int) : ACt Tryd.prog 29 [pt b 0, iv .i32 92] [(b, .cells [A, S, iv .i64 0, iv .i32 nn, iv .i64 ct] 5 50)] (fun a F' => a = bv true ∧ F' = [(b, .cells [A, S, iv .i64 1, iv .i32 nn, iv .i64 ct] 5 50)]) := by
  refine ACt.intro Tryd.func29 rfl (by kernel_rfl) (by simp [Tryd.ntmps29]) (fun cx => ?_)
  simp only [argE, Tryd.ntmps29, Tryd.results29]
  first | (have FRx := FR; clear FRx) | (have FR : Sm (¬ ((1 : Nat) = 0)) := Sm.mk Nat.one_ne_zero)
  repeat' first
    | (refine Sm.mk ?_; try simp -dsimp only [ZK, rvc, drawF, headN, pureH, stp, dvc, calleeOf, gcall, pev, eff, newB, okd, og, ogs, ogo, ogp, slv, bltv, opd, litv, strip, one, both, putE, St.put, look, gdOf, gdv, picka, pickv, pickw, binv, bini, bins, binb, binp, binq, isSlT, bina, shp, eqCells, unv, convv, nilv, faddv, addp, idxav, idxp, load1, load1m, loadn, loadnm, loadv, hget, hset, hrep, hdel, slicev, bnd, shift1, lenv, capv, IntKind.bits, extractv, fieldv, indexv, min2v, max2v, mkiv, cellsA, fillA, buildv, stC, oneC, rowMB, intsA, plN, appE, appZ, appC, appNZ, appNC, VwL, srcC, srcZ, srcM, isBoolT, isPtrT, isSliceT, uOk, Value.oneCell', Nat.reducePow, Int.reducePow, Nat.reduceAdd, Nat.reduceMul, Nat.reduceSub, Nat.reduceLT, Nat.reduceLeDiff, Nat.reduceEqDiff, Nat.reduceBEq, Nat.reduceDiv, Nat.reduceMod, ↓reduceIte, reduceCtorEq, Int.reduceToNat, Int.reduceLT, Int.reduceLE, TFTxW, SeqQ, BlkQ, LoopQ, BodyQ, FR.out])
    | (refine WP.seq fun K hK => ?_)
    | (refine WP.region (rvc_sound _ _ (Sm.out ?_)))
    | (refine WP.drawK rfl mixed (by decide +kernel) (Sm.out ?_))
    | (refine Ob.mk ?_; focus (first | assumption | omega | decide | trivial | (intro hob; simp only [hob, ZF]; done) | (intros; (repeat' refine And.intro ?_ ?_) <;> first | assumption | omega | trivial | decide) | (intros; simp only [ZE] at *; (repeat' refine And.intro ?_ ?_) <;> first | assumption | omega | trivial)))
    | (refine And.intro (Ob.out ?_) ?_)
    | (refine WP.block ?_)
    | (refine WP.cond rfl (fun hc => ?_) (fun hc => ?_) <;> (try simp only [ZC, reduceCtorEq, ZD] at hc) <;> (try (exact absurd hc (by decide))) <;> (try (exfalso; omega)))
    | ((first | refine WP.skip ?_ | refine WP.exit ?_); simp only [SeqQ, BlkQ, LoopQ, BodyQ, ↓reduceIte, Nat.reduceEqDiff, reduceCtorEq, look, true_and])
    | (refine WP.ret (Sm.out ?_))
    | (first | refine ExG.no (Sm.out ?_) | refine Or.inl (ExG.no (Sm.out ?_)) | refine Or.inl (And.intro (fun hg => absurd hg (by decide)) (ExG.no (Sm.out ?_))))
    | (refine Rt.mk ?_; refine And.intro ?_ ?_ <;> (intro hg; first | exact absurd hg (by decide) | refine Sm.out ?_))
    | (refine Nu.mk ?_; first | (fail_if_success (have := nb1)); intro nb1 | (fail_if_success (have := nb2)); intro nb2 | (fail_if_success (have := nb3)); intro nb3 | (fail_if_success (have := nb4)); intro nb4 | intro nbz)
    | (refine Fr.mk ?_; intro hfr; (first | (have hFRb : _ ≤ _ ∧ _ ≤ _ := And.intro hfr.1 hfr.2.1) | (have hFRb : _ ≤ _ := hfr.1) | skip); replace FR := Sm.mk (And.intro hfr FR.out); clear hfr; refine Sm.out ?_)
    | (refine Two.mk ?_ ?_)
    | (refine Cs.mk ?_; intro hcs; first | exact False.elim hcs | (exfalso; omega) | (refine Sm.out ?_))
    | go_step
    | omega
    | (simp only [maxLen_eq]; omega)
  (refine OutQ.upd (by simp only [resv, ZK, look, loadv, loadn, loadnm, load1, load1m, hget, ↓reduceIte, Nat.reduceEqDiff, Nat.reduceAdd, Nat.reduceMul, Nat.reduceLeDiff, Nat.reduceLT, reduceCtorEq, TFTxW, FR.out]) (by simp only [resv, resA, ZK, look, loadv, loadn, loadnm, load1, load1m, hget, ↓reduceIte, Nat.reduceEqDiff, Nat.reduceAdd, Nat.reduceMul, Nat.reduceLeDiff, Nat.reduceLT, reduceCtorEq, TFTxW, FR.out]; first | done | rfl) (by simp only [hget, ↓reduceIte, if_true, if_false, FR.out]; first | done | rfl) ?_ <;> first | exact rfl | (simp only [ZK, look, loadv, loadn, loadnm, load1, load1m, hget, ↓reduceIte, Nat.reduceEqDiff, Nat.reduceAdd, Nat.reduceMul, Nat.reduceLeDiff, Nat.reduceLT, reduceCtorEq, TFTxW, FR.out]; done) | skip)
theorem tk_low (b : Nat) (A S : AV) (nn ct r : Int) (h : r < 32 ∨ r = 127) : ACt Tryd.prog 29 [pt b 0, iv .i32 r] [(b, .cells [A, S, iv .i64 0, iv .i32 nn, iv .i64 ct] 5 50)] (fun a F' => a = bv false ∧ F' = [(b, .cells [A, S, iv .i64 0, iv .i32 nn, iv .i64 ct] 5 50)]) := by
  have k1 : (r == 34) = false := beq_eq_false_iff_ne.2 (by omega)
  have k2 : (r == 92) = false := beq_eq_false_iff_ne.2 (by omega)
  obtain ⟨x, y, k3, k4, hxy⟩ : ∃ x y : Bool, decide (r < 32) = x ∧ (r == 127) = y ∧ (x || y) = true := ⟨_, _, rfl, rfl, by
    rcases h with h | h
    · rw [decide_eq_true h]; rfl
    · rw [show (r == 127) = true from beq_iff_eq.2 h]; simp⟩
  clear h
  cases x <;> cases y
  all_goals first | (cases hxy; done) | skip
  all_goals
    refine ACt.intro Tryd.func29 rfl (by kernel_rfl) (by simp [Tryd.ntmps29]) (fun cx => ?_)
    simp only [argE, Tryd.ntmps29, Tryd.results29]
  all_goals (
      first | (have FRx := FR; clear FRx) | (have FR : Sm (¬ ((1 : Nat) = 0)) := Sm.mk Nat.one_ne_zero)
      repeat' first
        | (refine Sm.mk ?_; try simp -dsimp only [ZK, rvc, drawF, headN, pureH, stp, dvc, calleeOf, gcall, pev, eff, newB, okd, og, ogs, ogo, ogp, slv, bltv, opd, litv, strip, one, both, putE, St.put, look, gdOf, gdv, picka, pickv, pickw, binv, bini, bins, binb, binp, binq, isSlT, bina, shp, eqCells, unv, convv, nilv, faddv, addp, idxav, idxp, load1, load1m, loadn, loadnm, loadv, hget, hset, hrep, hdel, slicev, bnd, shift1, lenv, capv, IntKind.bits, extractv, fieldv, indexv, min2v, max2v, mkiv, cellsA, fillA, buildv, stC, oneC, rowMB, intsA, plN, appE, appZ, appC, appNZ, appNC, VwL, srcC, srcZ, srcM, isBoolT, isPtrT, isSliceT, uOk, Value.oneCell', Nat.reducePow, Int.reducePow, Nat.reduceAdd, Nat.reduceMul, Nat.reduceSub, Nat.reduceLT, Nat.reduceLeDiff, Nat.reduceEqDiff, Nat.reduceBEq, Nat.reduceDiv, Nat.reduceMod, ↓reduceIte, reduceCtorEq, Int.reduceToNat, Int.reduceLT, Int.reduceLE, TFTxW, SeqQ, BlkQ, LoopQ, BodyQ, k1, k2, k3, k4, FR.out])
        | (refine WP.seq fun K hK => ?_)
        | (refine WP.region (rvc_sound _ _ (Sm.out ?_)))
        | (refine WP.drawK rfl mixed (by decide +kernel) (Sm.out ?_))
        | (refine Ob.mk ?_; focus (first | assumption | omega | decide | trivial | (intro hob; simp only [hob, ZF]; done) | (intros; (repeat' refine And.intro ?_ ?_) <;> first | assumption | omega | trivial | decide) | (intros; simp only [ZE] at *; (repeat' refine And.intro ?_ ?_) <;> first | assumption | omega | trivial)))
        | (refine And.intro (Ob.out ?_) ?_)
        | (refine WP.block ?_)
        | (refine WP.cond rfl (fun hc => ?_) (fun hc => ?_) <;> (try simp only [ZC, reduceCtorEq, ZD] at hc) <;> (try (exact absurd hc (by decide))) <;> (try (exfalso; omega)))
        | ((first | refine WP.skip ?_ | refine WP.exit ?_); simp only [SeqQ, BlkQ, LoopQ, BodyQ, ↓reduceIte, Nat.reduceEqDiff, reduceCtorEq, look, true_and])
        | (refine WP.ret (Sm.out ?_))
        | (first | refine ExG.no (Sm.out ?_) | refine Or.inl (ExG.no (Sm.out ?_)) | refine Or.inl (And.intro (fun hg => absurd hg (by decide)) (ExG.no (Sm.out ?_))))
        | (refine Rt.mk ?_; refine And.intro ?_ ?_ <;> (intro hg; first | exact absurd hg (by decide) | refine Sm.out ?_))
        | (refine Nu.mk ?_; first | (fail_if_success (have := nb1)); intro nb1 | (fail_if_success (have := nb2)); intro nb2 | (fail_if_success (have := nb3)); intro nb3 | (fail_if_success (have := nb4)); intro nb4 | intro nbz)
        | (refine Fr.mk ?_; intro hfr; (first | (have hFRb : _ ≤ _ ∧ _ ≤ _ := And.intro hfr.1 hfr.2.1) | (have hFRb : _ ≤ _ := hfr.1) | skip); replace FR := Sm.mk (And.intro hfr FR.out); clear hfr; refine Sm.out ?_)
        | (refine Two.mk ?_ ?_)
        | (refine Cs.mk ?_; intro hcs; first | exact False.elim hcs | (exfalso; omega) | (refine Sm.out ?_))
        | go_step
        | omega
        | (simp only [maxLen_eq]; omega))
  all_goals (refine OutQ.upd (by simp only [resv, ZK, look, loadv, loadn, loadnm, load1, load1m, hget, ↓reduceIte, Nat.reduceEqDiff, Nat.reduceAdd, Nat.reduceMul, Nat.reduceLeDiff, Nat.reduceLT, reduceCtorEq, TFTxW, FR.out]) (by simp only [resv, resA, ZK, look, loadv, loadn, loadnm, load1, load1m, hget, ↓reduceIte, Nat.reduceEqDiff, Nat.reduceAdd, Nat.reduceMul, Nat.reduceLeDiff, Nat.reduceLT, reduceCtorEq, TFTxW, FR.out]; first | done | rfl) (by simp only [hget, ↓reduceIte, if_true, if_false, FR.out]; first | done | rfl) ?_ <;> first | exact rfl | (simp only [ZK, look, loadv, loadn, loadnm, load1, load1m, hget, ↓reduceIte, Nat.reduceEqDiff, Nat.reduceAdd, Nat.reduceMul, Nat.reduceLeDiff, Nat.reduceLT, reduceCtorEq, TFTxW, FR.out]; done) | skip)
theorem tk_pl_nil (b : Nat) (nn ct r : Int) (hr : Gr r) (h : r ≠ 34 ∧ r ≠ 92 ∧ 32 ≤ r ∧ r ≠ 127) : ACt Tryd.prog 29 [pt b 0, iv .i32 r] [(b, .cells [nps, nsl, iv .i64 0, iv .i32 nn, iv .i64 ct] 5 50)] (fun a F' => ∃ x k : Nat, ((enc8 r).length ≤ k ∧ k ≤ 9223372036854775807) ∧ a = bv true ∧ F' = [(x, .zs .u8 (enc8 r) k 5), (b, .cells [pt b 0, ms x 0 (enc8 r).length k, iv .i64 0, iv .i32 nn, iv .i64 ct] 5 50)]) := by
  have cW := wrR_nil b (iv .i64 0) (iv .i32 nn) (iv .i64 ct) r hr
  obtain ⟨E, hE⟩ : ∃ E, E = enc8 r := ⟨_, rfl⟩
  rw [← hE] at cW ⊢
  obtain ⟨l, hl'⟩ : ∃ l, l = E.length := ⟨_, rfl⟩
  rw [← hl'] at cW ⊢
  clear hE
  have k1 : (r == 34) = false := beq_eq_false_iff_ne.2 (by omega)
  have k2 : (r == 92) = false := beq_eq_false_iff_ne.2 (by omega)
  have k3 : decide (r < 32) = false := decide_eq_false (by omega)
  have k4 : (r == 127) = false := beq_eq_false_iff_ne.2 (by omega)
  refine ACt.intro Tryd.func29 rfl (by kernel_rfl) (by simp [Tryd.ntmps29]) (fun cx => ?_)
  simp only [argE, Tryd.ntmps29, Tryd.results29]
  first | (have FRx := FR; clear FRx) | (have FR : Sm (¬ ((1 : Nat) = 0)) := Sm.mk Nat.one_ne_zero)
  repeat' first
    | (refine Sm.mk ?_; try simp -dsimp only [ZK, rvc, drawF, headN, pureH, stp, dvc, calleeOf, gcall, pev, eff, newB, okd, og, ogs, ogo, ogp, slv, bltv, opd, litv, strip, one, both, putE, St.put, look, gdOf, gdv, picka, pickv, pickw, binv, bini, bins, binb, binp, binq, isSlT, bina, shp, eqCells, unv, convv, nilv, faddv, addp, idxav, idxp, load1, load1m, loadn, loadnm, loadv, hget, hset, hrep, hdel, slicev, bnd, shift1, lenv, capv, IntKind.bits, extractv, fieldv, indexv, min2v, max2v, mkiv, cellsA, fillA, buildv, stC, oneC, rowMB, intsA, plN, appE, appZ, appC, appNZ, appNC, VwL, srcC, srcZ, srcM, isBoolT, isPtrT, isSliceT, uOk, Value.oneCell', Nat.reducePow, Int.reducePow, Nat.reduceAdd, Nat.reduceMul, Nat.reduceSub, Nat.reduceLT, Nat.reduceLeDiff, Nat.reduceEqDiff, Nat.reduceBEq, Nat.reduceDiv, Nat.reduceMod, ↓reduceIte, reduceCtorEq, Int.reduceToNat, Int.reduceLT, Int.reduceLE, TFTxW, SeqQ, BlkQ, LoopQ, BodyQ, k1, k2, k3, k4, FR.out])
    | (refine CallV.newC (cW) (perm1 (by simp only [hget, hdel, ↓reduceIte, FR.out, k1, k2, k3, k4]; first | done | rfl)) (fun _ _ => rfl) (Sm.out ?_))
    | (refine WP.seq fun K hK => ?_)
    | (refine WP.region (rvc_sound _ _ (Sm.out ?_)))
    | (refine WP.drawK rfl mixed (by decide +kernel) (Sm.out ?_))
    | (refine Ob.mk ?_; focus (first | assumption | omega | decide | trivial | (intro hob; simp only [hob, ZF]; done) | (intros; (repeat' refine And.intro ?_ ?_) <;> first | assumption | omega | trivial | decide) | (intros; simp only [ZE] at *; (repeat' refine And.intro ?_ ?_) <;> first | assumption | omega | trivial)))
    | (refine And.intro (Ob.out ?_) ?_)
    | (refine WP.block ?_)
    | (refine WP.cond rfl (fun hc => ?_) (fun hc => ?_) <;> (try simp only [ZC, reduceCtorEq, ZD] at hc) <;> (try (exact absurd hc (by decide))) <;> (try (exfalso; omega)))
    | ((first | refine WP.skip ?_ | refine WP.exit ?_); simp only [SeqQ, BlkQ, LoopQ, BodyQ, ↓reduceIte, Nat.reduceEqDiff, reduceCtorEq, look, true_and])
    | (refine WP.ret (Sm.out ?_))
    | (first | refine ExG.no (Sm.out ?_) | refine Or.inl (ExG.no (Sm.out ?_)) | refine Or.inl (And.intro (fun hg => absurd hg (by decide)) (ExG.no (Sm.out ?_))))
    | (refine Rt.mk ?_; refine And.intro ?_ ?_ <;> (intro hg; first | exact absurd hg (by decide) | refine Sm.out ?_))
    | (refine Nu.mk ?_; first | (fail_if_success (have := nb1)); intro nb1 | (fail_if_success (have := nb2)); intro nb2 | (fail_if_success (have := nb3)); intro nb3 | (fail_if_success (have := nb4)); intro nb4 | intro nbz)
    | (refine Fr.mk ?_; intro hfr; (first | (have hFRb : _ ≤ _ ∧ _ ≤ _ := And.intro hfr.1 hfr.2.1) | (have hFRb : _ ≤ _ := hfr.1) | skip); replace FR := Sm.mk (And.intro hfr FR.out); clear hfr; refine Sm.out ?_)
    | (refine Two.mk ?_ ?_)
    | (refine Cs.mk ?_; intro hcs; first | exact False.elim hcs | (exfalso; omega) | (refine Sm.out ?_))
    | go_step
    | omega
    | (simp only [maxLen_eq]; omega)
  (refine OutQ.drop _ _ (perm2 (by simp only [hget, hdel, ↓reduceIte, if_true, if_false, FR.out]; first | done | rfl) (by simp only [hget, hdel, ↓reduceIte, if_true, if_false, FR.out]; first | done | rfl)) (by simp only [resv, ZK, look, loadv, loadn, loadnm, load1, load1m, hget, ↓reduceIte, Nat.reduceEqDiff, Nat.reduceAdd, Nat.reduceMul, Nat.reduceLeDiff, Nat.reduceLT, reduceCtorEq, TFTxW, FR.out]) ⟨nb1, nb2, FR.out.1.1, (by simp only [resv, resA, ZK, look, loadv, loadn, loadnm, load1, load1m, hget, ↓reduceIte, Nat.reduceEqDiff, Nat.reduceAdd, Nat.reduceMul, Nat.reduceLeDiff, Nat.reduceLT, reduceCtorEq, TFTxW, FR.out]; first | done | rfl), rfl⟩)
theorem tk_pl_used (b x n k : Nat) (zs : List Int) (hd : b ≠ x ∧ x ≠ b) (hn : zs.length = n) (hnk : n ≤ k ∧ k ≤ 9223372036854775807) (hln : n ≤ 100000) (nn ct r : Int) (hr : Gr r) (h : r ≠ 34 ∧ r ≠ 92 ∧ 32 ≤ r ∧ r ≠ 127) : ACt Tryd.prog 29 [pt b 0, iv .i32 r] [(x, .zs .u8 zs k 5), (b, .cells [pt b 0, ms x 0 n k, iv .i64 0, iv .i32 nn, iv .i64 ct] 5 50)] (fun a F' => ∃ x k : Nat, (n + (enc8 r).length ≤ k ∧ k ≤ 9223372036854775807) ∧ a = bv true ∧ F' = [(x, .zs .u8 (zs ++ enc8 r) k 5), (b, .cells [pt b 0, ms x 0 (n + (enc8 r).length) k, iv .i64 0, iv .i32 nn, iv .i64 ct] 5 50)]) := by
  have cW := wrR_used b x n k (iv .i64 0) (iv .i32 nn) (iv .i64 ct) zs hd hn hnk hln r hr
  obtain ⟨E, hE⟩ : ∃ E, E = enc8 r := ⟨_, rfl⟩
  rw [← hE] at cW ⊢
  obtain ⟨l, hl'⟩ : ∃ l, l = E.length := ⟨_, rfl⟩
  rw [← hl'] at cW ⊢
  clear hE
  have k1 : (r == 34) = false := beq_eq_false_iff_ne.2 (by omega)
  have k2 : (r == 92) = false := beq_eq_false_iff_ne.2 (by omega)
  have k3 : decide (r < 32) = false := decide_eq_false (by omega)
  have k4 : (r == 127) = false := beq_eq_false_iff_ne.2 (by omega)
  refine ACt.intro Tryd.func29 rfl (by kernel_rfl) (by simp [Tryd.ntmps29]) (fun cx => ?_)
  simp only [argE, Tryd.ntmps29, Tryd.results29]
  first | (have FRx := FR; clear FRx) | (have FR : Sm (¬ ((1 : Nat) = 0)) := Sm.mk Nat.one_ne_zero)
  repeat' first
    | (refine Sm.mk ?_; try simp -dsimp only [ZK, rvc, drawF, headN, pureH, stp, dvc, calleeOf, gcall, pev, eff, newB, okd, og, ogs, ogo, ogp, slv, bltv, opd, litv, strip, one, both, putE, St.put, look, gdOf, gdv, picka, pickv, pickw, binv, bini, bins, binb, binp, binq, isSlT, bina, shp, eqCells, unv, convv, nilv, faddv, addp, idxav, idxp, load1, load1m, loadn, loadnm, loadv, hget, hset, hrep, hdel, slicev, bnd, shift1, lenv, capv, IntKind.bits, extractv, fieldv, indexv, min2v, max2v, mkiv, cellsA, fillA, buildv, stC, oneC, rowMB, intsA, plN, appE, appZ, appC, appNZ, appNC, VwL, srcC, srcZ, srcM, isBoolT, isPtrT, isSliceT, uOk, Value.oneCell', Nat.reducePow, Int.reducePow, Nat.reduceAdd, Nat.reduceMul, Nat.reduceSub, Nat.reduceLT, Nat.reduceLeDiff, Nat.reduceEqDiff, Nat.reduceBEq, Nat.reduceDiv, Nat.reduceMod, ↓reduceIte, reduceCtorEq, Int.reduceToNat, Int.reduceLT, Int.reduceLE, TFTxW, SeqQ, BlkQ, LoopQ, BodyQ, k1, k2, k3, k4, hd, FR.out])
    | (refine CallV.newR (cW) ((pmz _)) (Sm.out ?_))
    | (refine WP.seq fun K hK => ?_)
    | (refine WP.region (rvc_sound _ _ (Sm.out ?_)))
    | (refine WP.drawK rfl mixed (by decide +kernel) (Sm.out ?_))
    | (refine Ob.mk ?_; focus (first | assumption | omega | decide | trivial | (intro hob; simp only [hob, ZF]; done) | (intros; (repeat' refine And.intro ?_ ?_) <;> first | assumption | omega | trivial | decide) | (intros; simp only [ZE] at *; (repeat' refine And.intro ?_ ?_) <;> first | assumption | omega | trivial)))
    | (refine And.intro (Ob.out ?_) ?_)
    | (refine WP.block ?_)
    | (refine WP.cond rfl (fun hc => ?_) (fun hc => ?_) <;> (try simp only [ZC, reduceCtorEq, ZD] at hc) <;> (try (exact absurd hc (by decide))) <;> (try (exfalso; omega)))
    | ((first | refine WP.skip ?_ | refine WP.exit ?_); simp only [SeqQ, BlkQ, LoopQ, BodyQ, ↓reduceIte, Nat.reduceEqDiff, reduceCtorEq, look, true_and])
    | (refine WP.ret (Sm.out ?_))
    | (first | refine ExG.no (Sm.out ?_) | refine Or.inl (ExG.no (Sm.out ?_)) | refine Or.inl (And.intro (fun hg => absurd hg (by decide)) (ExG.no (Sm.out ?_))))
    | (refine Rt.mk ?_; refine And.intro ?_ ?_ <;> (intro hg; first | exact absurd hg (by decide) | refine Sm.out ?_))
    | (refine Nu.mk ?_; first | (fail_if_success (have := nb1)); intro nb1 | (fail_if_success (have := nb2)); intro nb2 | (fail_if_success (have := nb3)); intro nb3 | (fail_if_success (have := nb4)); intro nb4 | intro nbz)
    | (refine Fr.mk ?_; intro hfr; (first | (have hFRb : _ ≤ _ ∧ _ ≤ _ := And.intro hfr.1 hfr.2.1) | (have hFRb : _ ≤ _ := hfr.1) | skip); replace FR := Sm.mk (And.intro hfr FR.out); clear hfr; refine Sm.out ?_)
    | (refine Two.mk ?_ ?_)
    | (refine Cs.mk ?_; intro hcs; first | exact False.elim hcs | (exfalso; omega) | (refine Sm.out ?_))
    | go_step
    | omega
    | (simp only [maxLen_eq]; omega)
  (refine OutQ.drop _ _ (perm2 (by simp only [hget, hdel, ↓reduceIte, if_true, if_false, FR.out, hd]; first | done | rfl) (by simp only [hget, hdel, ↓reduceIte, if_true, if_false, FR.out, hd]; first | done | rfl)) (by simp only [resv, ZK, look, loadv, loadn, loadnm, load1, load1m, hget, ↓reduceIte, Nat.reduceEqDiff, Nat.reduceAdd, Nat.reduceMul, Nat.reduceLeDiff, Nat.reduceLT, reduceCtorEq, TFTxW, FR.out, hd]) ⟨nb1, nb2, FR.out.1.1, (by simp only [resv, resA, ZK, look, loadv, loadn, loadnm, load1, load1m, hget, ↓reduceIte, Nat.reduceEqDiff, Nat.reduceAdd, Nat.reduceMul, Nat.reduceLeDiff, Nat.reduceLT, reduceCtorEq, TFTxW, FR.out, hd]; first | done | rfl), rfl⟩)
theorem tk_eu (b : Nat) (A S : AV) (nn ct : Int) : ACt Tryd.prog 29 [pt b 0, iv .i32 117] [(b, .cells [A, S, iv .i64 1, iv .i32 nn, iv .i64 ct] 5 50)] (fun a F' => a = bv true ∧ F' = [(b, .cells [A, S, iv .i64 2, iv .i32 nn, iv .i64 ct] 5 50)]) := by
  have cW := after_u b A S 1 nn ct
  refine ACt.intro Tryd.func29 rfl (by kernel_rfl) (by simp [Tryd.ntmps29]) (fun cx => ?_)
  simp only [argE, Tryd.ntmps29, Tryd.results29]
  first | (have FRx := FR; clear FRx) | (have FR : Sm (¬ ((1 : Nat) = 0)) := Sm.mk Nat.one_ne_zero)
  repeat' first
    | (refine Sm.mk ?_; try simp -dsimp only [ZK, rvc, drawF, headN, pureH, stp, dvc, calleeOf, gcall, pev, eff, newB, okd, og, ogs, ogo, ogp, slv, bltv, opd, litv, strip, one, both, putE, St.put, look, gdOf, gdv, picka, pickv, pickw, binv, bini, bins, binb, binp, binq, isSlT, bina, shp, eqCells, unv, convv, nilv, faddv, addp, idxav, idxp, load1, load1m, loadn, loadnm, loadv, hget, hset, hrep, hdel, slicev, bnd, shift1, lenv, capv, IntKind.bits, extractv, fieldv, indexv, min2v, max2v, mkiv, cellsA, fillA, buildv, stC, oneC, rowMB, intsA, plN, appE, appZ, appC, appNZ, appNC, VwL, srcC, srcZ, srcM, isBoolT, isPtrT, isSliceT, uOk, Value.oneCell', Nat.reducePow, Int.reducePow, Nat.reduceAdd, Nat.reduceMul, Nat.reduceSub, Nat.reduceLT, Nat.reduceLeDiff, Nat.reduceEqDiff, Nat.reduceBEq, Nat.reduceDiv, Nat.reduceMod, ↓reduceIte, reduceCtorEq, Int.reduceToNat, Int.reduceLT, Int.reduceLE, TFTxW, SeqQ, BlkQ, LoopQ, BodyQ, FR.out])
    | (refine CallV.upd (by simp only [hget, ↓reduceIte, FR.out]; first | done | rfl) (cW) (Sm.out ?_))
    | (refine WP.seq fun K hK => ?_)
    | (refine WP.region (rvc_sound _ _ (Sm.out ?_)))
    | (refine WP.drawK rfl mixed (by decide +kernel) (Sm.out ?_))
    | (refine Ob.mk ?_; focus (first | assumption | omega | decide | trivial | (intro hob; simp only [hob, ZF]; done) | (intros; (repeat' refine And.intro ?_ ?_) <;> first | assumption | omega | trivial | decide) | (intros; simp only [ZE] at *; (repeat' refine And.intro ?_ ?_) <;> first | assumption | omega | trivial)))
    | (refine And.intro (Ob.out ?_) ?_)
    | (refine WP.block ?_)
    | (refine WP.cond rfl (fun hc => ?_) (fun hc => ?_) <;> (try simp only [ZC, reduceCtorEq, ZD] at hc) <;> (try (exact absurd hc (by decide))) <;> (try (exfalso; omega)))
    | ((first | refine WP.skip ?_ | refine WP.exit ?_); simp only [SeqQ, BlkQ, LoopQ, BodyQ, ↓reduceIte, Nat.reduceEqDiff, reduceCtorEq, look, true_and])
    | (refine WP.ret (Sm.out ?_))
    | (first | refine ExG.no (Sm.out ?_) | refine Or.inl (ExG.no (Sm.out ?_)) | refine Or.inl (And.intro (fun hg => absurd hg (by decide)) (ExG.no (Sm.out ?_))))
    | (refine Rt.mk ?_; refine And.intro ?_ ?_ <;> (intro hg; first | exact absurd hg (by decide) | refine Sm.out ?_))
    | (refine Nu.mk ?_; first | (fail_if_success (have := nb1)); intro nb1 | (fail_if_success (have := nb2)); intro nb2 | (fail_if_success (have := nb3)); intro nb3 | (fail_if_success (have := nb4)); intro nb4 | intro nbz)
    | (refine Fr.mk ?_; intro hfr; (first | (have hFRb : _ ≤ _ ∧ _ ≤ _ := And.intro hfr.1 hfr.2.1) | (have hFRb : _ ≤ _ := hfr.1) | skip); replace FR := Sm.mk (And.intro hfr FR.out); clear hfr; refine Sm.out ?_)
    | (refine Two.mk ?_ ?_)
    | (refine Cs.mk ?_; intro hcs; first | exact False.elim hcs | (exfalso; omega) | (refine Sm.out ?_))
    | go_step
    | omega
    | (simp only [maxLen_eq]; omega)
  (refine OutQ.upd (by simp only [resv, ZK, look, loadv, loadn, loadnm, load1, load1m, hget, ↓reduceIte, Nat.reduceEqDiff, Nat.reduceAdd, Nat.reduceMul, Nat.reduceLeDiff, Nat.reduceLT, reduceCtorEq, TFTxW, FR.out]) (by simp only [resv, resA, ZK, look, loadv, loadn, loadnm, load1, load1m, hget, ↓reduceIte, Nat.reduceEqDiff, Nat.reduceAdd, Nat.reduceMul, Nat.reduceLeDiff, Nat.reduceLT, reduceCtorEq, TFTxW, FR.out]; first | done | rfl) (by simp only [hget, ↓reduceIte, if_true, if_false, FR.out]; first | done | rfl) ?_ <;> first | exact rfl | (simp only [ZK, look, loadv, loadn, loadnm, load1, load1m, hget, ↓reduceIte, Nat.reduceEqDiff, Nat.reduceAdd, Nat.reduceMul, Nat.reduceLeDiff, Nat.reduceLT, reduceCtorEq, TFTxW, FR.out]; done) | skip)
theorem tk_eno (b : Nat) (A S : AV) (nn ct r : Int) (h : r ≠ 34 ∧ r ≠ 92 ∧ r ≠ 110 ∧ r ≠ 116 ∧ r ≠ 117) : ACt Tryd.prog 29 [pt b 0, iv .i32 r] [(b, .cells [A, S, iv .i64 1, iv .i32 nn, iv .i64 ct] 5 50)] (fun a F' => a = bv false ∧ F' = [(b, .cells [A, S, iv .i64 0, iv .i32 nn, iv .i64 ct] 5 50)]) := by
  have cW := after_no b A S 1 nn ct r h
  refine ACt.intro Tryd.func29 rfl (by kernel_rfl) (by simp [Tryd.ntmps29]) (fun cx => ?_)
  simp only [argE, Tryd.ntmps29, Tryd.results29]
  first | (have FRx := FR; clear FRx) | (have FR : Sm (¬ ((1 : Nat) = 0)) := Sm.mk Nat.one_ne_zero)
  repeat' first
    | (refine Sm.mk ?_; try simp -dsimp only [ZK, rvc, drawF, headN, pureH, stp, dvc, calleeOf, gcall, pev, eff, newB, okd, og, ogs, ogo, ogp, slv, bltv, opd, litv, strip, one, both, putE, St.put, look, gdOf, gdv, picka, pickv, pickw, binv, bini, bins, binb, binp, binq, isSlT, bina, shp, eqCells, unv, convv, nilv, faddv, addp, idxav, idxp, load1, load1m, loadn, loadnm, loadv, hget, hset, hrep, hdel, slicev, bnd, shift1, lenv, capv, IntKind.bits, extractv, fieldv, indexv, min2v, max2v, mkiv, cellsA, fillA, buildv, stC, oneC, rowMB, intsA, plN, appE, appZ, appC, appNZ, appNC, VwL, srcC, srcZ, srcM, isBoolT, isPtrT, isSliceT, uOk, Value.oneCell', Nat.reducePow, Int.reducePow, Nat.reduceAdd, Nat.reduceMul, Nat.reduceSub, Nat.reduceLT, Nat.reduceLeDiff, Nat.reduceEqDiff, Nat.reduceBEq, Nat.reduceDiv, Nat.reduceMod, ↓reduceIte, reduceCtorEq, Int.reduceToNat, Int.reduceLT, Int.reduceLE, TFTxW, SeqQ, BlkQ, LoopQ, BodyQ, FR.out])
    | (refine CallV.upd (by simp only [hget, ↓reduceIte, FR.out]; first | done | rfl) (cW) (Sm.out ?_))
    | (refine WP.seq fun K hK => ?_)
    | (refine WP.region (rvc_sound _ _ (Sm.out ?_)))
    | (refine WP.drawK rfl mixed (by decide +kernel) (Sm.out ?_))
    | (refine Ob.mk ?_; focus (first | assumption | omega | decide | trivial | (intro hob; simp only [hob, ZF]; done) | (intros; (repeat' refine And.intro ?_ ?_) <;> first | assumption | omega | trivial | decide) | (intros; simp only [ZE] at *; (repeat' refine And.intro ?_ ?_) <;> first | assumption | omega | trivial)))
    | (refine And.intro (Ob.out ?_) ?_)
    | (refine WP.block ?_)
    | (refine WP.cond rfl (fun hc => ?_) (fun hc => ?_) <;> (try simp only [ZC, reduceCtorEq, ZD] at hc) <;> (try (exact absurd hc (by decide))) <;> (try (exfalso; omega)))
    | ((first | refine WP.skip ?_ | refine WP.exit ?_); simp only [SeqQ, BlkQ, LoopQ, BodyQ, ↓reduceIte, Nat.reduceEqDiff, reduceCtorEq, look, true_and])
    | (refine WP.ret (Sm.out ?_))
    | (first | refine ExG.no (Sm.out ?_) | refine Or.inl (ExG.no (Sm.out ?_)) | refine Or.inl (And.intro (fun hg => absurd hg (by decide)) (ExG.no (Sm.out ?_))))
    | (refine Rt.mk ?_; refine And.intro ?_ ?_ <;> (intro hg; first | exact absurd hg (by decide) | refine Sm.out ?_))
    | (refine Nu.mk ?_; first | (fail_if_success (have := nb1)); intro nb1 | (fail_if_success (have := nb2)); intro nb2 | (fail_if_success (have := nb3)); intro nb3 | (fail_if_success (have := nb4)); intro nb4 | intro nbz)
    | (refine Fr.mk ?_; intro hfr; (first | (have hFRb : _ ≤ _ ∧ _ ≤ _ := And.intro hfr.1 hfr.2.1) | (have hFRb : _ ≤ _ := hfr.1) | skip); replace FR := Sm.mk (And.intro hfr FR.out); clear hfr; refine Sm.out ?_)
    | (refine Two.mk ?_ ?_)
    | (refine Cs.mk ?_; intro hcs; first | exact False.elim hcs | (exfalso; omega) | (refine Sm.out ?_))
    | go_step
    | omega
    | (simp only [maxLen_eq]; omega)
  (refine OutQ.upd (by simp only [resv, ZK, look, loadv, loadn, loadnm, load1, load1m, hget, ↓reduceIte, Nat.reduceEqDiff, Nat.reduceAdd, Nat.reduceMul, Nat.reduceLeDiff, Nat.reduceLT, reduceCtorEq, TFTxW, FR.out]) (by simp only [resv, resA, ZK, look, loadv, loadn, loadnm, load1, load1m, hget, ↓reduceIte, Nat.reduceEqDiff, Nat.reduceAdd, Nat.reduceMul, Nat.reduceLeDiff, Nat.reduceLT, reduceCtorEq, TFTxW, FR.out]; first | done | rfl) (by simp only [hget, ↓reduceIte, if_true, if_false, FR.out]; first | done | rfl) ?_ <;> first | exact rfl | (simp only [ZK, look, loadv, loadn, loadnm, load1, load1m, hget, ↓reduceIte, Nat.reduceEqDiff, Nat.reduceAdd, Nat.reduceMul, Nat.reduceLeDiff, Nat.reduceLT, reduceCtorEq, TFTxW, FR.out]; done) | skip)
theorem tk_e_nil (b : Nat) (nn ct r w : Int) (h : (r = 34 ∧ w = 34) ∨ (r = 92 ∧ w = 92) ∨ (r = 110 ∧ w = 10) ∨ (r = 116 ∧ w = 9)) : ACt Tryd.prog 29 [pt b 0, iv .i32 r] [(b, .cells [nps, nsl, iv .i64 1, iv .i32 nn, iv .i64 ct] 5 50)] (fun a F' => ∃ x k : Nat, ((enc8 w).length ≤ k ∧ k ≤ 9223372036854775807) ∧ a = bv true ∧ F' = [(x, .zs .u8 (enc8 w) k 5), (b, .cells [pt b 0, ms x 0 (enc8 w).length k, iv .i64 0, iv .i32 nn, iv .i64 ct] 5 50)]) := by
  have cW := after_nil b 1 nn ct r w h
  obtain ⟨E, hE⟩ : ∃ E, E = enc8 w := ⟨_, rfl⟩
  rw [← hE] at cW ⊢
  obtain ⟨l, hl'⟩ : ∃ l, l = E.length := ⟨_, rfl⟩
  rw [← hl'] at cW ⊢
  clear hE
  refine ACt.intro Tryd.func29 rfl (by kernel_rfl) (by simp [Tryd.ntmps29]) (fun cx => ?_)
  simp only [argE, Tryd.ntmps29, Tryd.results29]
  first | (have FRx := FR; clear FRx) | (have FR : Sm (¬ ((1 : Nat) = 0)) := Sm.mk Nat.one_ne_zero)
  repeat' first
    | (refine Sm.mk ?_; try simp -dsimp only [ZK, rvc, drawF, headN, pureH, stp, dvc, calleeOf, gcall, pev, eff, newB, okd, og, ogs, ogo, ogp, slv, bltv, opd, litv, strip, one, both, putE, St.put, look, gdOf, gdv, picka, pickv, pickw, binv, bini, bins, binb, binp, binq, isSlT, bina, shp, eqCells, unv, convv, nilv, faddv, addp, idxav, idxp, load1, load1m, loadn, loadnm, loadv, hget, hset, hrep, hdel, slicev, bnd, shift1, lenv, capv, IntKind.bits, extractv, fieldv, indexv, min2v, max2v, mkiv, cellsA, fillA, buildv, stC, oneC, rowMB, intsA, plN, appE, appZ, appC, appNZ, appNC, VwL, srcC, srcZ, srcM, isBoolT, isPtrT, isSliceT, uOk, Value.oneCell', Nat.reducePow, Int.reducePow, Nat.reduceAdd, Nat.reduceMul, Nat.reduceSub, Nat.reduceLT, Nat.reduceLeDiff, Nat.reduceEqDiff, Nat.reduceBEq, Nat.reduceDiv, Nat.reduceMod, ↓reduceIte, reduceCtorEq, Int.reduceToNat, Int.reduceLT, Int.reduceLE, TFTxW, SeqQ, BlkQ, LoopQ, BodyQ, FR.out])
    | (refine CallV.newC (cW) (perm1 (by simp only [hget, hdel, ↓reduceIte, FR.out]; first | done | rfl)) (fun _ _ => rfl) (Sm.out ?_))
    | (refine WP.seq fun K hK => ?_)
    | (refine WP.region (rvc_sound _ _ (Sm.out ?_)))
    | (refine WP.drawK rfl mixed (by decide +kernel) (Sm.out ?_))
    | (refine Ob.mk ?_; focus (first | assumption | omega | decide | trivial | (intro hob; simp only [hob, ZF]; done) | (intros; (repeat' refine And.intro ?_ ?_) <;> first | assumption | omega | trivial | decide) | (intros; simp only [ZE] at *; (repeat' refine And.intro ?_ ?_) <;> first | assumption | omega | trivial)))
    | (refine And.intro (Ob.out ?_) ?_)
    | (refine WP.block ?_)
    | (refine WP.cond rfl (fun hc => ?_) (fun hc => ?_) <;> (try simp only [ZC, reduceCtorEq, ZD] at hc) <;> (try (exact absurd hc (by decide))) <;> (try (exfalso; omega)))
    | ((first | refine WP.skip ?_ | refine WP.exit ?_); simp only [SeqQ, BlkQ, LoopQ, BodyQ, ↓reduceIte, Nat.reduceEqDiff, reduceCtorEq, look, true_and])
    | (refine WP.ret (Sm.out ?_))
    | (first | refine ExG.no (Sm.out ?_) | refine Or.inl (ExG.no (Sm.out ?_)) | refine Or.inl (And.intro (fun hg => absurd hg (by decide)) (ExG.no (Sm.out ?_))))
    | (refine Rt.mk ?_; refine And.intro ?_ ?_ <;> (intro hg; first | exact absurd hg (by decide) | refine Sm.out ?_))
    | (refine Nu.mk ?_; first | (fail_if_success (have := nb1)); intro nb1 | (fail_if_success (have := nb2)); intro nb2 | (fail_if_success (have := nb3)); intro nb3 | (fail_if_success (have := nb4)); intro nb4 | intro nbz)
    | (refine Fr.mk ?_; intro hfr; (first | (have hFRb : _ ≤ _ ∧ _ ≤ _ := And.intro hfr.1 hfr.2.1) | (have hFRb : _ ≤ _ := hfr.1) | skip); replace FR := Sm.mk (And.intro hfr FR.out); clear hfr; refine Sm.out ?_)
    | (refine Two.mk ?_ ?_)
    | (refine Cs.mk ?_; intro hcs; first | exact False.elim hcs | (exfalso; omega) | (refine Sm.out ?_))
    | go_step
    | omega
    | (simp only [maxLen_eq]; omega)
  (refine OutQ.drop _ _ (perm2 (by simp only [hget, hdel, ↓reduceIte, if_true, if_false, FR.out]; first | done | rfl) (by simp only [hget, hdel, ↓reduceIte, if_true, if_false, FR.out]; first | done | rfl)) (by simp only [resv, ZK, look, loadv, loadn, loadnm, load1, load1m, hget, ↓reduceIte, Nat.reduceEqDiff, Nat.reduceAdd, Nat.reduceMul, Nat.reduceLeDiff, Nat.reduceLT, reduceCtorEq, TFTxW, FR.out]) ⟨nb1, nb2, FR.out.1.1, (by simp only [resv, resA, ZK, look, loadv, loadn, loadnm, load1, load1m, hget, ↓reduceIte, Nat.reduceEqDiff, Nat.reduceAdd, Nat.reduceMul, Nat.reduceLeDiff, Nat.reduceLT, reduceCtorEq, TFTxW, FR.out]; first | done | rfl), rfl⟩)
theorem tk_e_used (b x n k : Nat) (zs : List Int) (hd : b ≠ x ∧ x ≠ b) (hn : zs.length = n) (hnk : n ≤ k ∧ k ≤ 9223372036854775807) (hln : n ≤ 100000) (nn ct r w : Int) (h : (r = 34 ∧ w = 34) ∨ (r = 92 ∧ w = 92) ∨ (r = 110 ∧ w = 10) ∨ (r = 116 ∧ w = 9)) : ACt Tryd.prog 29 [pt b 0, iv .i32 r] [(x, .zs .u8 zs k 5), (b, .cells [pt b 0, ms x 0 n k, iv .i64 1, iv .i32 nn, iv .i64 ct] 5 50)] (fun a F' => ∃ x k : Nat, (n + (enc8 w).length ≤ k ∧ k ≤ 9223372036854775807) ∧ a = bv true ∧ F' = [(x, .zs .u8 (zs ++ enc8 w) k 5), (b, .cells [pt b 0, ms x 0 (n + (enc8 w).length) k, iv .i64 0, iv .i32 nn, iv .i64 ct] 5 50)]) := by
  have cW := after_used b x n k 1 nn ct zs hd hn hnk hln r w h
  obtain ⟨E, hE⟩ : ∃ E, E = enc8 w := ⟨_, rfl⟩
  rw [← hE] at cW ⊢
  obtain ⟨l, hl'⟩ : ∃ l, l = E.length := ⟨_, rfl⟩
  rw [← hl'] at cW ⊢
  clear hE
  refine ACt.intro Tryd.func29 rfl (by kernel_rfl) (by simp [Tryd.ntmps29]) (fun cx => ?_)
  simp only [argE, Tryd.ntmps29, Tryd.results29]
  first | (have FRx := FR; clear FRx) | (have FR : Sm (¬ ((1 : Nat) = 0)) := Sm.mk Nat.one_ne_zero)
  repeat' first
    | (refine Sm.mk ?_; try simp -dsimp only [ZK, rvc, drawF, headN, pureH, stp, dvc, calleeOf, gcall, pev, eff, newB, okd, og, ogs, ogo, ogp, slv, bltv, opd, litv, strip, one, both, putE, St.put, look, gdOf, gdv, picka, pickv, pickw, binv, bini, bins, binb, binp, binq, isSlT, bina, shp, eqCells, unv, convv, nilv, faddv, addp, idxav, idxp, load1, load1m, loadn, loadnm, loadv, hget, hset, hrep, hdel, slicev, bnd, shift1, lenv, capv, IntKind.bits, extractv, fieldv, indexv, min2v, max2v, mkiv, cellsA, fillA, buildv, stC, oneC, rowMB, intsA, plN, appE, appZ, appC, appNZ, appNC, VwL, srcC, srcZ, srcM, isBoolT, isPtrT, isSliceT, uOk, Value.oneCell', Nat.reducePow, Int.reducePow, Nat.reduceAdd, Nat.reduceMul, Nat.reduceSub, Nat.reduceLT, Nat.reduceLeDiff, Nat.reduceEqDiff, Nat.reduceBEq, Nat.reduceDiv, Nat.reduceMod, ↓reduceIte, reduceCtorEq, Int.reduceToNat, Int.reduceLT, Int.reduceLE, TFTxW, SeqQ, BlkQ, LoopQ, BodyQ, hd, FR.out])
    | (refine CallV.newR (cW) ((pmz _)) (Sm.out ?_))
    | (refine WP.seq fun K hK => ?_)
    | (refine WP.region (rvc_sound _ _ (Sm.out ?_)))
    | (refine WP.drawK rfl mixed (by decide +kernel) (Sm.out ?_))
    | (refine Ob.mk ?_; focus (first | assumption | omega | decide | trivial | (intro hob; simp only [hob, ZF]; done) | (intros; (repeat' refine And.intro ?_ ?_) <;> first | assumption | omega | trivial | decide) | (intros; simp only [ZE] at *; (repeat' refine And.intro ?_ ?_) <;> first | assumption | omega | trivial)))
    | (refine And.intro (Ob.out ?_) ?_)
    | (refine WP.block ?_)
    | (refine WP.cond rfl (fun hc => ?_) (fun hc => ?_) <;> (try simp only [ZC, reduceCtorEq, ZD] at hc) <;> (try (exact absurd hc (by decide))) <;> (try (exfalso; omega)))
    | ((first | refine WP.skip ?_ | refine WP.exit ?_); simp only [SeqQ, BlkQ, LoopQ, BodyQ, ↓reduceIte, Nat.reduceEqDiff, reduceCtorEq, look, true_and])
    | (refine WP.ret (Sm.out ?_))
    | (first | refine ExG.no (Sm.out ?_) | refine Or.inl (ExG.no (Sm.out ?_)) | refine Or.inl (And.intro (fun hg => absurd hg (by decide)) (ExG.no (Sm.out ?_))))
    | (refine Rt.mk ?_; refine And.intro ?_ ?_ <;> (intro hg; first | exact absurd hg (by decide) | refine Sm.out ?_))
    | (refine Nu.mk ?_; first | (fail_if_success (have := nb1)); intro nb1 | (fail_if_success (have := nb2)); intro nb2 | (fail_if_success (have := nb3)); intro nb3 | (fail_if_success (have := nb4)); intro nb4 | intro nbz)
    | (refine Fr.mk ?_; intro hfr; (first | (have hFRb : _ ≤ _ ∧ _ ≤ _ := And.intro hfr.1 hfr.2.1) | (have hFRb : _ ≤ _ := hfr.1) | skip); replace FR := Sm.mk (And.intro hfr FR.out); clear hfr; refine Sm.out ?_)
    | (refine Two.mk ?_ ?_)
    | (refine Cs.mk ?_; intro hcs; first | exact False.elim hcs | (exfalso; omega) | (refine Sm.out ?_))
    | go_step
    | omega
    | (simp only [maxLen_eq]; omega)
  (refine OutQ.drop _ _ (perm2 (by simp only [hget, hdel, ↓reduceIte, if_true, if_false, FR.out, hd]; first | done | rfl) (by simp only [hget, hdel, ↓reduceIte, if_true, if_false, FR.out, hd]; first | done | rfl)) (by simp only [resv, ZK, look, loadv, loadn, loadnm, load1, load1m, hget, ↓reduceIte, Nat.reduceEqDiff, Nat.reduceAdd, Nat.reduceMul, Nat.reduceLeDiff, Nat.reduceLT, reduceCtorEq, TFTxW, FR.out, hd]) ⟨nb1, nb2, FR.out.1.1, (by simp only [resv, resA, ZK, look, loadv, loadn, loadnm, load1, load1m, hget, ↓reduceIte, Nat.reduceEqDiff, Nat.reduceAdd, Nat.reduceMul, Nat.reduceLeDiff, Nat.reduceLT, reduceCtorEq, TFTxW, FR.out, hd]; first | done | rfl), rfl⟩)
theorem tk_dig (b : Nat) (A S : AV) (nn ct r : Int) (hr : 0 ≤ hexV r) (hn : 0 ≤ nn ∧ nn < 16777216) (hc : 0 ≤ ct ∧ ct < 6) : ACt Tryd.prog 29 [pt b 0, iv .i32 r] [(b, .cells [A, S, iv .i64 3, iv .i32 nn, iv .i64 ct] 5 50)] (fun a F' => a = bv true ∧ F' = [(b, .cells [A, S, iv .i64 3, iv .i32 (16 * nn + hexV r), iv .i64 (ct + 1)] 5 50)]) := by
  have cW := within_dig b A S 3 nn ct r hr hn hc
  refine ACt.intro Tryd.func29 rfl (by kernel_rfl) (by simp [Tryd.ntmps29]) (fun cx => ?_)
  simp only [argE, Tryd.ntmps29, Tryd.results29]
  first | (have FRx := FR; clear FRx) | (have FR : Sm (¬ ((1 : Nat) = 0)) := Sm.mk Nat.one_ne_zero)
  repeat' first
    | (refine Sm.mk ?_; try simp -dsimp only [ZK, rvc, drawF, headN, pureH, stp, dvc, calleeOf, gcall, pev, eff, newB, okd, og, ogs, ogo, ogp, slv, bltv, opd, litv, strip, one, both, putE, St.put, look, gdOf, gdv, picka, pickv, pickw, binv, bini, bins, binb, binp, binq, isSlT, bina, shp, eqCells, unv, convv, nilv, faddv, addp, idxav, idxp, load1, load1m, loadn, loadnm, loadv, hget, hset, hrep, hdel, slicev, bnd, shift1, lenv, capv, IntKind.bits, extractv, fieldv, indexv, min2v, max2v, mkiv, cellsA, fillA, buildv, stC, oneC, rowMB, intsA, plN, appE, appZ, appC, appNZ, appNC, VwL, srcC, srcZ, srcM, isBoolT, isPtrT, isSliceT, uOk, Value.oneCell', Nat.reducePow, Int.reducePow, Nat.reduceAdd, Nat.reduceMul, Nat.reduceSub, Nat.reduceLT, Nat.reduceLeDiff, Nat.reduceEqDiff, Nat.reduceBEq, Nat.reduceDiv, Nat.reduceMod, ↓reduceIte, reduceCtorEq, Int.reduceToNat, Int.reduceLT, Int.reduceLE, TFTxW, SeqQ, BlkQ, LoopQ, BodyQ, FR.out])
    | (refine CallV.upd (by simp only [hget, ↓reduceIte, FR.out]; first | done | rfl) (cW) (Sm.out ?_))
    | (refine WP.seq fun K hK => ?_)
    | (refine WP.region (rvc_sound _ _ (Sm.out ?_)))
    | (refine WP.drawK rfl mixed (by decide +kernel) (Sm.out ?_))
    | (refine Ob.mk ?_; focus (first | assumption | omega | decide | trivial | (intro hob; simp only [hob, ZF]; done) | (intros; (repeat' refine And.intro ?_ ?_) <;> first | assumption | omega | trivial | decide) | (intros; simp only [ZE] at *; (repeat' refine And.intro ?_ ?_) <;> first | assumption | omega | trivial)))
    | (refine And.intro (Ob.out ?_) ?_)
    | (refine WP.block ?_)
    | (refine WP.cond rfl (fun hc => ?_) (fun hc => ?_) <;> (try simp only [ZC, reduceCtorEq, ZD] at hc) <;> (try (exact absurd hc (by decide))) <;> (try (exfalso; omega)))
    | ((first | refine WP.skip ?_ | refine WP.exit ?_); simp only [SeqQ, BlkQ, LoopQ, BodyQ, ↓reduceIte, Nat.reduceEqDiff, reduceCtorEq, look, true_and])
    | (refine WP.ret (Sm.out ?_))
    | (first | refine ExG.no (Sm.out ?_) | refine Or.inl (ExG.no (Sm.out ?_)) | refine Or.inl (And.intro (fun hg => absurd hg (by decide)) (ExG.no (Sm.out ?_))))
    | (refine Rt.mk ?_; refine And.intro ?_ ?_ <;> (intro hg; first | exact absurd hg (by decide) | refine Sm.out ?_))
    | (refine Nu.mk ?_; first | (fail_if_success (have := nb1)); intro nb1 | (fail_if_success (have := nb2)); intro nb2 | (fail_if_success (have := nb3)); intro nb3 | (fail_if_success (have := nb4)); intro nb4 | intro nbz)
    | (refine Fr.mk ?_; intro hfr; (first | (have hFRb : _ ≤ _ ∧ _ ≤ _ := And.intro hfr.1 hfr.2.1) | (have hFRb : _ ≤ _ := hfr.1) | skip); replace FR := Sm.mk (And.intro hfr FR.out); clear hfr; refine Sm.out ?_)
    | (refine Two.mk ?_ ?_)
    | (refine Cs.mk ?_; intro hcs; first | exact False.elim hcs | (exfalso; omega) | (refine Sm.out ?_))
    | go_step
    | omega
    | (simp only [maxLen_eq]; omega)
  (refine OutQ.upd (by simp only [resv, ZK, look, loadv, loadn, loadnm, load1, load1m, hget, ↓reduceIte, Nat.reduceEqDiff, Nat.reduceAdd, Nat.reduceMul, Nat.reduceLeDiff, Nat.reduceLT, reduceCtorEq, TFTxW, FR.out]) (by simp only [resv, resA, ZK, look, loadv, loadn, loadnm, load1, load1m, hget, ↓reduceIte, Nat.reduceEqDiff, Nat.reduceAdd, Nat.reduceMul, Nat.reduceLeDiff, Nat.reduceLT, reduceCtorEq, TFTxW, FR.out]; first | done | rfl) (by simp only [hget, ↓reduceIte, if_true, if_false, FR.out]; first | done | rfl) ?_ <;> first | exact rfl | (simp only [ZK, look, loadv, loadn, loadnm, load1, load1m, hget, ↓reduceIte, Nat.reduceEqDiff, Nat.reduceAdd, Nat.reduceMul, Nat.reduceLeDiff, Nat.reduceLT, reduceCtorEq, TFTxW, FR.out]; done) | skip)
theorem tk_wno (b : Nat) (A S : AV) (nn ct r : Int) (hc : 0 ≤ ct ∧ ct ≤ 6) (h1 : hexV r < 0 ∨ ¬ ct < 6) (h2 : r ≠ 125 ∨ ct = 0 ∨ ¬ Gr nn) : ACt Tryd.prog 29 [pt b 0, iv .i32 r] [(b, .cells [A, S, iv .i64 3, iv .i32 nn, iv .i64 ct] 5 50)] (fun a F' => a = bv false ∧ F' = [(b, .cells [A, S, iv .i64 3, iv .i32 nn, iv .i64 ct] 5 50)]) := by
  have cW := within_no b A S 3 nn ct r hc h1 h2
  refine ACt.intro Tryd.func29 rfl (by kernel_rfl) (by simp [Tryd.ntmps29]) (fun cx => ?_)
  simp only [argE, Tryd.ntmps29, Tryd.results29]
  first | (have FRx := FR; clear FRx) | (have FR : Sm (¬ ((1 : Nat) = 0)) := Sm.mk Nat.one_ne_zero)
  repeat' first
    | (refine Sm.mk ?_; try simp -dsimp only [ZK, rvc, drawF, headN, pureH, stp, dvc, calleeOf, gcall, pev, eff, newB, okd, og, ogs, ogo, ogp, slv, bltv, opd, litv, strip, one, both, putE, St.put, look, gdOf, gdv, picka, pickv, pickw, binv, bini, bins, binb, binp, binq, isSlT, bina, shp, eqCells, unv, convv, nilv, faddv, addp, idxav, idxp, load1, load1m, loadn, loadnm, loadv, hget, hset, hrep, hdel, slicev, bnd, shift1, lenv, capv, IntKind.bits, extractv, fieldv, indexv, min2v, max2v, mkiv, cellsA, fillA, buildv, stC, oneC, rowMB, intsA, plN, appE, appZ, appC, appNZ, appNC, VwL, srcC, srcZ, srcM, isBoolT, isPtrT, isSliceT, uOk, Value.oneCell', Nat.reducePow, Int.reducePow, Nat.reduceAdd, Nat.reduceMul, Nat.reduceSub, Nat.reduceLT, Nat.reduceLeDiff, Nat.reduceEqDiff, Nat.reduceBEq, Nat.reduceDiv, Nat.reduceMod, ↓reduceIte, reduceCtorEq, Int.reduceToNat, Int.reduceLT, Int.reduceLE, TFTxW, SeqQ, BlkQ, LoopQ, BodyQ, FR.out])
    | (refine CallV.upd (by simp only [hget, ↓reduceIte, FR.out]; first | done | rfl) (cW) (Sm.out ?_))
    | (refine WP.seq fun K hK => ?_)
    | (refine WP.region (rvc_sound _ _ (Sm.out ?_)))
    | (refine WP.drawK rfl mixed (by decide +kernel) (Sm.out ?_))
    | (refine Ob.mk ?_; focus (first | assumption | omega | decide | trivial | (intro hob; simp only [hob, ZF]; done) | (intros; (repeat' refine And.intro ?_ ?_) <;> first | assumption | omega | trivial | decide) | (intros; simp only [ZE] at *; (repeat' refine And.intro ?_ ?_) <;> first | assumption | omega | trivial)))
    | (refine And.intro (Ob.out ?_) ?_)
    | (refine WP.block ?_)
    | (refine WP.cond rfl (fun hc => ?_) (fun hc => ?_) <;> (try simp only [ZC, reduceCtorEq, ZD] at hc) <;> (try (exact absurd hc (by decide))) <;> (try (exfalso; omega)))
    | ((first | refine WP.skip ?_ | refine WP.exit ?_); simp only [SeqQ, BlkQ, LoopQ, BodyQ, ↓reduceIte, Nat.reduceEqDiff, reduceCtorEq, look, true_and])
    | (refine WP.ret (Sm.out ?_))
    | (first | refine ExG.no (Sm.out ?_) | refine Or.inl (ExG.no (Sm.out ?_)) | refine Or.inl (And.intro (fun hg => absurd hg (by decide)) (ExG.no (Sm.out ?_))))
    | (refine Rt.mk ?_; refine And.intro ?_ ?_ <;> (intro hg; first | exact absurd hg (by decide) | refine Sm.out ?_))
    | (refine Nu.mk ?_; first | (fail_if_success (have := nb1)); intro nb1 | (fail_if_success (have := nb2)); intro nb2 | (fail_if_success (have := nb3)); intro nb3 | (fail_if_success (have := nb4)); intro nb4 | intro nbz)
    | (refine Fr.mk ?_; intro hfr; (first | (have hFRb : _ ≤ _ ∧ _ ≤ _ := And.intro hfr.1 hfr.2.1) | (have hFRb : _ ≤ _ := hfr.1) | skip); replace FR := Sm.mk (And.intro hfr FR.out); clear hfr; refine Sm.out ?_)
    | (refine Two.mk ?_ ?_)
    | (refine Cs.mk ?_; intro hcs; first | exact False.elim hcs | (exfalso; omega) | (refine Sm.out ?_))
    | go_step
    | omega
    | (simp only [maxLen_eq]; omega)
  (refine OutQ.upd (by simp only [resv, ZK, look, loadv, loadn, loadnm, load1, load1m, hget, ↓reduceIte, Nat.reduceEqDiff, Nat.reduceAdd, Nat.reduceMul, Nat.reduceLeDiff, Nat.reduceLT, reduceCtorEq, TFTxW, FR.out]) (by simp only [resv, resA, ZK, look, loadv, loadn, loadnm, load1, load1m, hget, ↓reduceIte, Nat.reduceEqDiff, Nat.reduceAdd, Nat.reduceMul, Nat.reduceLeDiff, Nat.reduceLT, reduceCtorEq, TFTxW, FR.out]; first | done | rfl) (by simp only [hget, ↓reduceIte, if_true, if_false, FR.out]; first | done | rfl) ?_ <;> first | exact rfl | (simp only [ZK, look, loadv, loadn, loadnm, load1, load1m, hget, ↓reduceIte, Nat.reduceEqDiff, Nat.reduceAdd, Nat.reduceMul, Nat.reduceLeDiff, Nat.reduceLT, reduceCtorEq, TFTxW, FR.out]; done) | skip)
theorem tk_w_nil (b : Nat) (nn ct : Int) (hg : Gr nn) (hc : 0 < ct ∧ ct ≤ 6) : ACt Tryd.prog 29 [pt b 0, iv .i32 125] [(b, .cells [nps, nsl, iv .i64 3, iv .i32 nn, iv .i64 ct] 5 50)] (fun a F' => ∃ x k : Nat, ((enc8 nn).length ≤ k ∧ k ≤ 9223372036854775807) ∧ a = bv true ∧ F' = [(x, .zs .u8 (enc8 nn) k 5), (b, .cells [pt b 0, ms x 0 (enc8 nn).length k, iv .i64 0, iv .i32 nn, iv .i64 ct] 5 50)]) := by
  have cW := within_nil b 3 nn ct hg hc
  obtain ⟨E, hE⟩ : ∃ E, E = enc8 nn := ⟨_, rfl⟩
  rw [← hE] at cW ⊢
  obtain ⟨l, hl'⟩ : ∃ l, l = E.length := ⟨_, rfl⟩
  rw [← hl'] at cW ⊢
  clear hE
  refine ACt.intro Tryd.func29 rfl (by kernel_rfl) (by simp [Tryd.ntmps29]) (fun cx => ?_)
  simp only [argE, Tryd.ntmps29, Tryd.results29]
  first | (have FRx := FR; clear FRx) | (have FR : Sm (¬ ((1 : Nat) = 0)) := Sm.mk Nat.one_ne_zero)
  repeat' first
    | (refine Sm.mk ?_; try simp -dsimp only [ZK, rvc, drawF, headN, pureH, stp, dvc, calleeOf, gcall, pev, eff, newB, okd, og, ogs, ogo, ogp, slv, bltv, opd, litv, strip, one, both, putE, St.put, look, gdOf, gdv, picka, pickv, pickw, binv, bini, bins, binb, binp, binq, isSlT, bina, shp, eqCells, unv, convv, nilv, faddv, addp, idxav, idxp, load1, load1m, loadn, loadnm, loadv, hget, hset, hrep, hdel, slicev, bnd, shift1, lenv, capv, IntKind.bits, extractv, fieldv, indexv, min2v, max2v, mkiv, cellsA, fillA, buildv, stC, oneC, rowMB, intsA, plN, appE, appZ, appC, appNZ, appNC, VwL, srcC, srcZ, srcM, isBoolT, isPtrT, isSliceT, uOk, Value.oneCell', Nat.reducePow, Int.reducePow, Nat.reduceAdd, Nat.reduceMul, Nat.reduceSub, Nat.reduceLT, Nat.reduceLeDiff, Nat.reduceEqDiff, Nat.reduceBEq, Nat.reduceDiv, Nat.reduceMod, ↓reduceIte, reduceCtorEq, Int.reduceToNat, Int.reduceLT, Int.reduceLE, TFTxW, SeqQ, BlkQ, LoopQ, BodyQ, FR.out])
    | (refine CallV.newC (cW) (perm1 (by simp only [hget, hdel, ↓reduceIte, FR.out]; first | done | rfl)) (fun _ _ => rfl) (Sm.out ?_))
    | (refine WP.seq fun K hK => ?_)
    | (refine WP.region (rvc_sound _ _ (Sm.out ?_)))
    | (refine WP.drawK rfl mixed (by decide +kernel) (Sm.out ?_))
    | (refine Ob.mk ?_; focus (first | assumption | omega | decide | trivial | (intro hob; simp only [hob, ZF]; done) | (intros; (repeat' refine And.intro ?_ ?_) <;> first | assumption | omega | trivial | decide) | (intros; simp only [ZE] at *; (repeat' refine And.intro ?_ ?_) <;> first | assumption | omega | trivial)))
    | (refine And.intro (Ob.out ?_) ?_)
    | (refine WP.block ?_)
    | (refine WP.cond rfl (fun hc => ?_) (fun hc => ?_) <;> (try simp only [ZC, reduceCtorEq, ZD] at hc) <;> (try (exact absurd hc (by decide))) <;> (try (exfalso; omega)))
    | ((first | refine WP.skip ?_ | refine WP.exit ?_); simp only [SeqQ, BlkQ, LoopQ, BodyQ, ↓reduceIte, Nat.reduceEqDiff, reduceCtorEq, look, true_and])
    | (refine WP.ret (Sm.out ?_))
    | (first | refine ExG.no (Sm.out ?_) | refine Or.inl (ExG.no (Sm.out ?_)) | refine Or.inl (And.intro (fun hg => absurd hg (by decide)) (ExG.no (Sm.out ?_))))
    | (refine Rt.mk ?_; refine And.intro ?_ ?_ <;> (intro hg; first | exact absurd hg (by decide) | refine Sm.out ?_))
    | (refine Nu.mk ?_; first | (fail_if_success (have := nb1)); intro nb1 | (fail_if_success (have := nb2)); intro nb2 | (fail_if_success (have := nb3)); intro nb3 | (fail_if_success (have := nb4)); intro nb4 | intro nbz)
    | (refine Fr.mk ?_; intro hfr; (first | (have hFRb : _ ≤ _ ∧ _ ≤ _ := And.intro hfr.1 hfr.2.1) | (have hFRb : _ ≤ _ := hfr.1) | skip); replace FR := Sm.mk (And.intro hfr FR.out); clear hfr; refine Sm.out ?_)
    | (refine Two.mk ?_ ?_)
    | (refine Cs.mk ?_; intro hcs; first | exact False.elim hcs | (exfalso; omega) | (refine Sm.out ?_))
    | go_step
    | omega
    | (simp only [maxLen_eq]; omega)
  (refine OutQ.drop _ _ (perm2 (by simp only [hget, hdel, ↓reduceIte, if_true, if_false, FR.out]; first | done | rfl) (by simp only [hget, hdel, ↓reduceIte, if_true, if_false, FR.out]; first | done | rfl)) (by simp only [resv, ZK, look, loadv, loadn, loadnm, load1, load1m, hget, ↓reduceIte, Nat.reduceEqDiff, Nat.reduceAdd, Nat.reduceMul, Nat.reduceLeDiff, Nat.reduceLT, reduceCtorEq, TFTxW, FR.out]) ⟨nb1, nb2, FR.out.1.1, (by simp only [resv, resA, ZK, look, loadv, loadn, loadnm, load1, load1m, hget, ↓reduceIte, Nat.reduceEqDiff, Nat.reduceAdd, Nat.reduceMul, Nat.reduceLeDiff, Nat.reduceLT, reduceCtorEq, TFTxW, FR.out]; first | done | rfl), rfl⟩)
theorem tk_w_used (b x n k : Nat) (zs : List Int) (hd : b ≠ x ∧ x ≠ b) (hn : zs.length = n) (hnk : n ≤ k ∧ k ≤ 9223372036854775807) (hln : n ≤ 100000) (nn ct : Int) (hg : Gr nn) (hc : 0 < ct ∧ ct ≤ 6) : ACt Tryd.prog 29 [pt b 0, iv .i32 125] [(x, .zs .u8 zs k 5), (b, .cells [pt b 0, ms x 0 n k, iv .i64 3, iv .i32 nn, iv .i64 ct] 5 50)] (fun a F' => ∃ x k : Nat, (n + (enc8 nn).length ≤ k ∧ k ≤ 9223372036854775807) ∧ a = bv true ∧ F' = [(x, .zs .u8 (zs ++ enc8 nn) k 5), (b, .cells [pt b 0, ms x 0 (n + (enc8 nn).length) k, iv .i64 0, iv .i32 nn, iv .i64 ct] 5 50)]) := by
  have cW := within_used b x n k 3 nn ct zs hd hn hnk hln hg hc
  obtain ⟨E, hE⟩ : ∃ E, E = enc8 nn := ⟨_, rfl⟩
  rw [← hE] at cW ⊢
  obtain ⟨l, hl'⟩ : ∃ l, l = E.length := ⟨_, rfl⟩
  rw [← hl'] at cW ⊢
  clear hE
  refine ACt.intro Tryd.func29 rfl (by kernel_rfl) (by simp [Tryd.ntmps29]) (fun cx => ?_)
  simp only [argE, Tryd.ntmps29, Tryd.results29]
  first | (have FRx := FR; clear FRx) | (have FR : Sm (¬ ((1 : Nat) = 0)) := Sm.mk Nat.one_ne_zero)
  repeat' first
    | (refine Sm.mk ?_; try simp -dsimp only [ZK, rvc, drawF, headN, pureH, stp, dvc, calleeOf, gcall, pev, eff, newB, okd, og, ogs, ogo, ogp, slv, bltv, opd, litv, strip, one, both, putE, St.put, look, gdOf, gdv, picka, pickv, pickw, binv, bini, bins, binb, binp, binq, isSlT, bina, shp, eqCells, unv, convv, nilv, faddv, addp, idxav, idxp, load1, load1m, loadn, loadnm, loadv, hget, hset, hrep, hdel, slicev, bnd, shift1, lenv, capv, IntKind.bits, extractv, fieldv, indexv, min2v, max2v, mkiv, cellsA, fillA, buildv, stC, oneC, rowMB, intsA, plN, appE, appZ, appC, appNZ, appNC, VwL, srcC, srcZ, srcM, isBoolT, isPtrT, isSliceT, uOk, Value.oneCell', Nat.reducePow, Int.reducePow, Nat.reduceAdd, Nat.reduceMul, Nat.reduceSub, Nat.reduceLT, Nat.reduceLeDiff, Nat.reduceEqDiff, Nat.reduceBEq, Nat.reduceDiv, Nat.reduceMod, ↓reduceIte, reduceCtorEq, Int.reduceToNat, Int.reduceLT, Int.reduceLE, TFTxW, SeqQ, BlkQ, LoopQ, BodyQ, hd, FR.out])
    | (refine CallV.newR (cW) ((pmz _)) (Sm.out ?_))
    | (refine WP.seq fun K hK => ?_)
    | (refine WP.region (rvc_sound _ _ (Sm.out ?_)))
    | (refine WP.drawK rfl mixed (by decide +kernel) (Sm.out ?_))
    | (refine Ob.mk ?_; focus (first | assumption | omega | decide | trivial | (intro hob; simp only [hob, ZF]; done) | (intros; (repeat' refine And.intro ?_ ?_) <;> first | assumption | omega | trivial | decide) | (intros; simp only [ZE] at *; (repeat' refine And.intro ?_ ?_) <;> first | assumption | omega | trivial)))
    | (refine And.intro (Ob.out ?_) ?_)
    | (refine WP.block ?_)
    | (refine WP.cond rfl (fun hc => ?_) (fun hc => ?_) <;> (try simp only [ZC, reduceCtorEq, ZD] at hc) <;> (try (exact absurd hc (by decide))) <;> (try (exfalso; omega)))
    | ((first | refine WP.skip ?_ | refine WP.exit ?_); simp only [SeqQ, BlkQ, LoopQ, BodyQ, ↓reduceIte, Nat.reduceEqDiff, reduceCtorEq, look, true_and])
    | (refine WP.ret (Sm.out ?_))
    | (first | refine ExG.no (Sm.out ?_) | refine Or.inl (ExG.no (Sm.out ?_)) | refine Or.inl (And.intro (fun hg => absurd hg (by decide)) (ExG.no (Sm.out ?_))))
    | (refine Rt.mk ?_; refine And.intro ?_ ?_ <;> (intro hg; first | exact absurd hg (by decide) | refine Sm.out ?_))
    | (refine Nu.mk ?_; first | (fail_if_success (have := nb1)); intro nb1 | (fail_if_success (have := nb2)); intro nb2 | (fail_if_success (have := nb3)); intro nb3 | (fail_if_success (have := nb4)); intro nb4 | intro nbz)
    | (refine Fr.mk ?_; intro hfr; (first | (have hFRb : _ ≤ _ ∧ _ ≤ _ := And.intro hfr.1 hfr.2.1) | (have hFRb : _ ≤ _ := hfr.1) | skip); replace FR := Sm.mk (And.intro hfr FR.out); clear hfr; refine Sm.out ?_)
    | (refine Two.mk ?_ ?_)
    | (refine Cs.mk ?_; intro hcs; first | exact False.elim hcs | (exfalso; omega) | (refine Sm.out ?_))
    | go_step
    | omega
    | (simp only [maxLen_eq]; omega)
  (refine OutQ.drop _ _ (perm2 (by simp only [hget, hdel, ↓reduceIte, if_true, if_false, FR.out, hd]; first | done | rfl) (by simp only [hget, hdel, ↓reduceIte, if_true, if_false, FR.out, hd]; first | done | rfl)) (by simp only [resv, ZK, look, loadv, loadn, loadnm, load1, load1m, hget, ↓reduceIte, Nat.reduceEqDiff, Nat.reduceAdd, Nat.reduceMul, Nat.reduceLeDiff, Nat.reduceLT, reduceCtorEq, TFTxW, FR.out, hd]) ⟨nb1, nb2, FR.out.1.1, (by simp only [resv, resA, ZK, look, loadv, loadn, loadnm, load1, load1m, hget, ↓reduceIte, Nat.reduceEqDiff, Nat.reduceAdd, Nat.reduceMul, Nat.reduceLeDiff, Nat.reduceLT, reduceCtorEq, TFTxW, FR.out, hd]; first | done | rfl), rfl⟩)
end Go.Proofs.YtjdjpgjjnajjhaaDoor
namespace Go.Proofs.YtjdjpgjjnajjhaaDoor
open Go
set_option linter.unusedVariables false
set_option linter.unusedSimpArgs false
abbrev rdC (A S : AV) (b : Nat) (st nn ct : Int) : MB := .cells [A, S, iv .i64 st, iv .i32 nn, iv .i64 ct] 5 50
theorem rH_st {f : FuncId} {args : List AV} {b : Nat} {st nn ct st' nn' ct' : Int} {zs : List Int} {q : BQ} {v : AV} (hq : bOk b zs q)
    (h : ∀ A S, ACt Tryd.prog f args [(b, rdC A S b st nn ct)] (fun a F' => a = v ∧ F' = [(b, rdC A S b st' nn' ct')])) :
    ACt Tryd.prog f args (rH b st nn ct zs q) (fun a F' => ∃ g : BS b (zs ++ []), a = v ∧ F' = rH b st' nn' ct' (zs ++ []) g.1) := by
  rw [List.append_nil]
  cases zs with
  | nil =>
    refine ACt.frm (R := []) (h nps nsl) (pmz _) fun r F' hr _ => ?_
    obtain ⟨e1, e2⟩ := hr
    subst e1 e2
    exact ⟨_, [], pmz _, ⟨q, hq⟩, rfl, rfl⟩
  | cons z r =>
    refine ACt.frm (R := [(q.x, .zs .u8 (z :: r) q.k 5)]) (h (pt b 0) (ms q.x 0 (z :: r).length q.k)) (List.Perm.swap _ _ _) fun a F' hr _ => ?_
    obtain ⟨e1, e2⟩ := hr
    subst e1 e2
    exact ⟨[(q.x, .zs .u8 (z :: r) q.k 5), (b, rdC (pt b 0) (ms q.x 0 (z :: r).length q.k) b st' nn' ct')], [], List.Perm.swap _ _ _, ⟨q, hq⟩, rfl, rfl⟩
theorem rH_wr {f : FuncId} {args : List AV} {b : Nat} {st nn ct st' : Int} {zs xs : List Int} {q : BQ} {v : AV} (hq : bOk b zs q) (hz : zs.length ≤ 50000) (hne' : xs ≠ [])
    (h0 : ACt Tryd.prog f args [(b, rdC nps nsl b st nn ct)] (fun a F' => ∃ x k : Nat, (xs.length ≤ k ∧ k ≤ 9223372036854775807) ∧ a = v ∧ F' = [(x, .zs .u8 xs k 5), (b, rdC (pt b 0) (ms x 0 xs.length k) b st' nn ct)]))
    (h1 : ∀ x n k, (b ≠ x ∧ x ≠ b) → zs.length = n → (n ≤ k ∧ k ≤ 9223372036854775807) → n ≤ 100000 → ACt Tryd.prog f args [(x, .zs .u8 zs k 5), (b, rdC (pt b 0) (ms x 0 n k) b st nn ct)] (fun a F' => ∃ x k : Nat, (n + xs.length ≤ k ∧ k ≤ 9223372036854775807) ∧ a = v ∧ F' = [(x, .zs .u8 (zs ++ xs) k 5), (b, rdC (pt b 0) (ms x 0 (n + xs.length) k) b st' nn ct)])) :
    ACt Tryd.prog f args (rH b st nn ct zs q) (fun a F' => ∃ g : BS b (zs ++ xs), a = v ∧ F' = rH b st' nn ct (zs ++ xs) g.1) := by
  by_cases h : zs = []
  · subst h
    refine ACt.frm (R := []) h0 (pmz _) fun r F' hr hn => ?_
    obtain ⟨x, k, hk, e1, e2⟩ := hr
    subst e1 e2
    have hne : [] ++ xs ≠ [] := hne'
    exact ⟨_, [], pmz _, ⟨⟨x, k⟩, rk_of (st := st') (nn := nn) (ct := ct) (by simp) hk hn⟩, rfl, by rw [rH_ne _ hne]; rfl⟩
  · obtain ⟨hd, hk1, hk2⟩ := hq h
    rw [rH_ne q h]
    refine ACt.frm (R := []) (h1 q.x zs.length q.k hd rfl ⟨hk1, hk2⟩ (by omega)) (pmz _) fun r F' hr hn => ?_
    obtain ⟨x, k, hk, e1, e2⟩ := hr
    subst e1 e2
    have hne : zs ++ xs ≠ [] := fun e => h (List.append_eq_nil_iff.1 e).1
    exact ⟨_, [], pmz _, ⟨⟨x, k⟩, rk_of (st := st') (nn := nn) (ct := ct) (by simp) hk hn⟩, rfl, by rw [List.append_nil]; exact (rH_len ⟨x, k⟩ hne (by simp)).symm⟩
/-- a reader's state -/
structure RS where
  st : Int
  nn : Int
  ct : Int
/-- what a rune does to it -/
structure RO where
  ok : Bool
  s : RS
  out : List Int
open Classical in
noncomputable def tkS (s : RS) (r : Int) : RO :=
  if s.st = 0 then (if r = 34 then ⟨true, ⟨4, s.nn, s.ct⟩, []⟩ else if r = 92 then ⟨true, ⟨1, s.nn, s.ct⟩, []⟩ else if r < 32 ∨ r = 127 then ⟨false, ⟨0, s.nn, s.ct⟩, []⟩ else ⟨true, ⟨0, s.nn, s.ct⟩, enc8 r⟩)
  else if s.st = 1 then (if r = 117 then ⟨true, ⟨2, s.nn, s.ct⟩, []⟩ else if r = 34 ∨ r = 92 then ⟨true, ⟨0, s.nn, s.ct⟩, enc8 r⟩ else if r = 110 then ⟨true, ⟨0, s.nn, s.ct⟩, enc8 10⟩ else if r = 116 then ⟨true, ⟨0, s.nn, s.ct⟩, enc8 9⟩ else ⟨false, ⟨0, s.nn, s.ct⟩, []⟩)
  else if s.st = 2 then ⟨r == 123, ⟨3, 0, 0⟩, []⟩
  else if s.st = 3 then (if 0 ≤ hexV r ∧ s.ct < 6 then ⟨true, ⟨3, 16 * s.nn + hexV r, s.ct + 1⟩, []⟩ else if r ≠ 125 ∨ s.ct = 0 ∨ ¬ Gr s.nn then ⟨false, ⟨3, s.nn, s.ct⟩, []⟩ else ⟨true, ⟨0, s.nn, s.ct⟩, enc8 s.nn⟩)
  else ⟨false, ⟨4, s.nn, s.ct⟩, []⟩
/-- what holds of a reader's state -/
def RSok (s : RS) : Prop := (s.st = 0 ∨ s.st = 1 ∨ s.st = 2 ∨ s.st = 3 ∨ s.st = 4) ∧ 0 ≤ s.nn ∧ 0 ≤ s.ct ∧ (∃ k : Nat, s.ct = (k : Int) ∧ k ≤ 6 ∧ s.nn < 16 ^ k)
theorem tkS_ok {s : RS} (h : RSok s) {r : Int} : RSok (tkS s r).s ∧ (tkS s r).out.length ≤ 4 := by
  obtain ⟨st, nn, ct⟩ := s
  obtain ⟨h1, h2, h3, k, h4, h5, h6⟩ := h
  simp only at h1 h2 h3 h4 h6
  have hl := fun r => enc8_len r
  have hk : ∃ k : Nat, ct = (k : Int) ∧ k ≤ 6 ∧ nn < 16 ^ k := ⟨k, h4, h5, h6⟩
  unfold tkS RSok
  rcases h1 with rfl | rfl | rfl | rfl | rfl
  · simp only [if_true]
    split
    · exact ⟨⟨by simp, h2, h3, hk⟩, by simp⟩
    · split
      · exact ⟨⟨by simp, h2, h3, hk⟩, by simp⟩
      · split
        · exact ⟨⟨by simp, h2, h3, hk⟩, by simp⟩
        · exact ⟨⟨by simp, h2, h3, hk⟩, (by first | exact (hl r).2 | exact (hl 10).2 | exact (hl 9).2 | exact (hl nn).2)⟩
  · rw [if_neg (by decide : ¬ ((1 : Int) = 0)), if_pos rfl]
    split
    · exact ⟨⟨by simp, h2, h3, hk⟩, by simp⟩
    · split
      · exact ⟨⟨by simp, h2, h3, hk⟩, (by first | exact (hl r).2 | exact (hl 10).2 | exact (hl 9).2 | exact (hl nn).2)⟩
      · split
        · exact ⟨⟨by simp, h2, h3, hk⟩, (by first | exact (hl r).2 | exact (hl 10).2 | exact (hl 9).2 | exact (hl nn).2)⟩
        · split
          · exact ⟨⟨by simp, h2, h3, hk⟩, (by first | exact (hl r).2 | exact (hl 10).2 | exact (hl 9).2 | exact (hl nn).2)⟩
          · exact ⟨⟨by simp, h2, h3, hk⟩, by simp⟩
  · rw [if_neg (by decide : ¬ ((2 : Int) = 0)), if_neg (by decide : ¬ ((2 : Int) = 1)), if_pos rfl]
    exact ⟨⟨by simp, by simp, by simp, 0, by simp, by simp, by simp⟩, by simp⟩
  · rw [if_neg (by decide : ¬ ((3 : Int) = 0)), if_neg (by decide : ¬ ((3 : Int) = 1)), if_neg (by decide : ¬ ((3 : Int) = 2)), if_pos rfl]
    have hx := hexV_bd r
    split
    · rename_i hh
      simp only at hh
      refine ⟨⟨by simp, by simp only; omega, by simp only; omega, k + 1, by simp only; omega, by omega, ?_⟩, by simp⟩
      simp only
      rw [Int.pow_succ]
      omega
    · split
      · exact ⟨⟨by simp, h2, h3, hk⟩, by simp⟩
      · exact ⟨⟨by simp, h2, h3, hk⟩, (by first | exact (hl r).2 | exact (hl 10).2 | exact (hl 9).2 | exact (hl nn).2)⟩
  · rw [if_neg (by decide : ¬ ((4 : Int) = 0)), if_neg (by decide : ¬ ((4 : Int) = 1)), if_neg (by decide : ¬ ((4 : Int) = 2)), if_neg (by decide : ¬ ((4 : Int) = 3))]
    exact ⟨⟨by simp, h2, h3, hk⟩, by simp⟩
theorem enc8_ne (r : Int) : enc8 r ≠ [] := fun e => by have := enc8_len r; rw [e] at this; simp at this
theorem take_r {b : Nat} {zs : List Int} {q : BQ} (hq : bOk b zs q) (hz : zs.length ≤ 50000) (s : RS) (hs : RSok s) (r : Int) (hr : Gr r) :
    ACt Tryd.prog 29 [pt b 0, iv .i32 r] (rH b s.st s.nn s.ct zs q) (fun a F' => ∃ g : BS b (zs ++ (tkS s r).out), a = bv (tkS s r).ok ∧ F' = rH b (tkS s r).s.st (tkS s r).s.nn (tkS s r).s.ct (zs ++ (tkS s r).out) g.1) := by
  obtain ⟨st, nn, ct⟩ := s
  obtain ⟨h1, h2, h3, k, h4, h5, h6⟩ := hs
  simp only at h1 h2 h3 h4 h6
  have h7 : nn < 16777216 := by
    have : (16 : Int) ^ k ≤ 16777216 := by
      rcases (by omega : k = 0 ∨ k = 1 ∨ k = 2 ∨ k = 3 ∨ k = 4 ∨ k = 5 ∨ k = 6) with rfl | rfl | rfl | rfl | rfl | rfl | rfl <;> decide
    omega
  rcases h1 with rfl | rfl | rfl | rfl | rfl
  · by_cases c1 : r = 34
    · subst c1
      have e : tkS ⟨0, nn, ct⟩ 34 = ⟨true, ⟨4, nn, ct⟩, []⟩ := by unfold tkS; rw [if_pos rfl, if_pos rfl]
      rw [e]
      exact rH_st hq fun A S => tk_mark b A S nn ct
    by_cases c2 : r = 92
    · subst c2
      have e : tkS ⟨0, nn, ct⟩ 92 = ⟨true, ⟨1, nn, ct⟩, []⟩ := by unfold tkS; rw [if_pos rfl, if_neg c1, if_pos rfl]
      rw [e]
      exact rH_st hq fun A S => tk_back b A S nn ct
    by_cases c3 : r < 32 ∨ r = 127
    · have e : tkS ⟨0, nn, ct⟩ r = ⟨false, ⟨0, nn, ct⟩, []⟩ := by unfold tkS; rw [if_pos rfl, if_neg c1, if_neg c2, if_pos c3]
      rw [e]
      exact rH_st hq fun A S => tk_low b A S nn ct r c3
    · have e : tkS ⟨0, nn, ct⟩ r = ⟨true, ⟨0, nn, ct⟩, enc8 r⟩ := by unfold tkS; rw [if_pos rfl, if_neg c1, if_neg c2, if_neg c3]
      rw [e]
      have hc : r ≠ 34 ∧ r ≠ 92 ∧ 32 ≤ r ∧ r ≠ 127 := by omega
      exact rH_wr hq hz (enc8_ne r) (tk_pl_nil b nn ct r hr hc) fun x n k hd hn hnk hln => tk_pl_used b x n k zs hd hn hnk hln nn ct r hr hc
  · have en0 : ¬ ((1 : Int) = 0) := by decide
    by_cases c1 : r = 117
    · subst c1
      have e : tkS ⟨1, nn, ct⟩ 117 = ⟨true, ⟨2, nn, ct⟩, []⟩ := by unfold tkS; rw [if_neg en0, if_pos rfl, if_pos rfl]
      rw [e]
      exact rH_st hq fun A S => tk_eu b A S nn ct
    by_cases c2 : r = 34 ∨ r = 92
    · have e : tkS ⟨1, nn, ct⟩ r = ⟨true, ⟨0, nn, ct⟩, enc8 r⟩ := by unfold tkS; rw [if_neg en0, if_pos rfl, if_neg c1, if_pos c2]
      rw [e]
      have hw : (r = 34 ∧ r = 34) ∨ (r = 92 ∧ r = 92) ∨ (r = 110 ∧ r = 10) ∨ (r = 116 ∧ r = 9) := by omega
      exact rH_wr hq hz (enc8_ne r) (tk_e_nil b nn ct r r hw) fun x n k hd hn hnk hln => tk_e_used b x n k zs hd hn hnk hln nn ct r r hw
    by_cases c3 : r = 110
    · have e : tkS ⟨1, nn, ct⟩ r = ⟨true, ⟨0, nn, ct⟩, enc8 10⟩ := by unfold tkS; rw [if_neg en0, if_pos rfl, if_neg c1, if_neg c2, if_pos c3]
      rw [e]
      have hw : (r = 34 ∧ (10 : Int) = 34) ∨ (r = 92 ∧ (10 : Int) = 92) ∨ (r = 110 ∧ (10 : Int) = 10) ∨ (r = 116 ∧ (10 : Int) = 9) := by omega
      exact rH_wr hq hz (enc8_ne 10) (tk_e_nil b nn ct r 10 hw) fun x n k hd hn hnk hln => tk_e_used b x n k zs hd hn hnk hln nn ct r 10 hw
    by_cases c4 : r = 116
    · have e : tkS ⟨1, nn, ct⟩ r = ⟨true, ⟨0, nn, ct⟩, enc8 9⟩ := by unfold tkS; rw [if_neg en0, if_pos rfl, if_neg c1, if_neg c2, if_neg c3, if_pos c4]
      rw [e]
      have hw : (r = 34 ∧ (9 : Int) = 34) ∨ (r = 92 ∧ (9 : Int) = 92) ∨ (r = 110 ∧ (9 : Int) = 10) ∨ (r = 116 ∧ (9 : Int) = 9) := by omega
      exact rH_wr hq hz (enc8_ne 9) (tk_e_nil b nn ct r 9 hw) fun x n k hd hn hnk hln => tk_e_used b x n k zs hd hn hnk hln nn ct r 9 hw
    · have e : tkS ⟨1, nn, ct⟩ r = ⟨false, ⟨0, nn, ct⟩, []⟩ := by unfold tkS; rw [if_neg en0, if_pos rfl, if_neg c1, if_neg c2, if_neg c3, if_neg c4]
      rw [e]
      exact rH_st hq fun A S => tk_eno b A S nn ct r (by omega)
  · have e : tkS ⟨2, nn, ct⟩ r = ⟨r == 123, ⟨3, 0, 0⟩, []⟩ := by unfold tkS; rw [if_neg (by decide : ¬ ((2 : Int) = 0)), if_neg (by decide : ¬ ((2 : Int) = 1)), if_pos rfl]
    rw [e]
    exact rH_st hq fun A S => tk_open b A S nn ct r
  · have en : ∀ (A B C D : RO), (if (3 : Int) = 0 then A else if (3 : Int) = 1 then B else if (3 : Int) = 2 then C else if (3 : Int) = 3 then D else ⟨false, ⟨4, nn, ct⟩, []⟩) = D := fun A B C D => by rw [if_neg (by decide), if_neg (by decide), if_neg (by decide), if_pos rfl]
    by_cases c1 : 0 ≤ hexV r ∧ ct < 6
    · have e : tkS ⟨3, nn, ct⟩ r = ⟨true, ⟨3, 16 * nn + hexV r, ct + 1⟩, []⟩ := by unfold tkS; rw [if_neg (by decide : ¬ ((3 : Int) = 0)), if_neg (by decide : ¬ ((3 : Int) = 1)), if_neg (by decide : ¬ ((3 : Int) = 2)), if_pos rfl, if_pos c1]
      rw [e]
      exact rH_st hq fun A S => tk_dig b A S nn ct r c1.1 ⟨h2, h7⟩ ⟨h3, c1.2⟩
    by_cases c2 : r ≠ 125 ∨ ct = 0 ∨ ¬ Gr nn
    · have e : tkS ⟨3, nn, ct⟩ r = ⟨false, ⟨3, nn, ct⟩, []⟩ := by unfold tkS; rw [if_neg (by decide : ¬ ((3 : Int) = 0)), if_neg (by decide : ¬ ((3 : Int) = 1)), if_neg (by decide : ¬ ((3 : Int) = 2)), if_pos rfl, if_neg c1, if_pos c2]
      rw [e]
      exact rH_st hq fun A S => tk_wno b A S nn ct r ⟨h3, by omega⟩ (by omega) c2
    · have e : tkS ⟨3, nn, ct⟩ r = ⟨true, ⟨0, nn, ct⟩, enc8 nn⟩ := by unfold tkS; rw [if_neg (by decide : ¬ ((3 : Int) = 0)), if_neg (by decide : ¬ ((3 : Int) = 1)), if_neg (by decide : ¬ ((3 : Int) = 2)), if_pos rfl, if_neg c1, if_neg c2]
      rw [e]
      have hg : Gr nn := Classical.byContradiction fun h => c2 (.inr (.inr h))
      have hr5 : r = 125 := Classical.byContradiction fun h => c2 (.inl h)
      have hc0 : 0 < ct ∧ ct ≤ 6 := ⟨by have : ¬ ct = 0 := fun h => c2 (.inr (.inl h)); omega, by omega⟩
      subst hr5
      exact rH_wr hq hz (enc8_ne nn) (tk_w_nil b nn ct hg hc0) fun x n k hd hn hnk hln => tk_w_used b x n k zs hd hn hnk hln nn ct hg hc0
  · have e : tkS ⟨4, nn, ct⟩ r = ⟨false, ⟨4, nn, ct⟩, []⟩ := by unfold tkS; rw [if_neg (by decide : ¬ ((4 : Int) = 0)), if_neg (by decide : ¬ ((4 : Int) = 1)), if_neg (by decide : ¬ ((4 : Int) = 2)), if_neg (by decide : ¬ ((4 : Int) = 3))]
    rw [e]
    exact rH_st hq fun A S => tk_ended b A S nn ct r
end Go.Proofs.YtjdjpgjjnajjhaaDoor
namespace Go.Proofs.YtjdjpgjjnajjhaaDoor
open Go
set_option linter.unusedVariables false
set_option linter.unusedSimpArgs false
theorem TFTxY : ((((((type_of% tyc0) ∧ (type_of% tyc3)) ∧ ((type_of% zmb3) ∧ (type_of% tyc4))) ∧ (((type_of% zmb4) ∧ (type_of% tyc5)) ∧ ((type_of% zmb5) ∧ ((type_of% tyc9) ∧ (type_of% zmb9))))) ∧ ((((type_of% tyc35) ∧ (type_of% elt35)) ∧ ((type_of% mkz35) ∧ (type_of% apT35))) ∧ (((type_of% elk35) ∧ (type_of% zmb35)) ∧ ((type_of% tyc36) ∧ ((type_of% zmb36) ∧ (type_of% tyc38)))))) ∧ (((((type_of% foff38_0) ∧ (type_of% fpart38_0)) ∧ ((type_of% foff38_1) ∧ (type_of% fpart38_1))) ∧ (((type_of% zmb38) ∧ (type_of% bldT38)) ∧ ((type_of% tyc46) ∧ ((type_of% tyc60) ∧ (type_of% zmb60))))) ∧ ((((type_of% Tryd.underlying0) ∧ (type_of% Tryd.underlying3)) ∧ ((type_of% Tryd.underlying4) ∧ ((type_of% Tryd.underlying5) ∧ (type_of% Tryd.underlying9)))) ∧ (((type_of% Tryd.underlying35) ∧ (type_of% Tryd.underlying36)) ∧ ((type_of% Tryd.underlying38) ∧ ((type_of% Tryd.underlying46) ∧ (type_of% Tryd.underlying60))))))) :=
  ⟨⟨⟨⟨⟨tyc0, tyc3⟩, ⟨zmb3, tyc4⟩⟩, ⟨⟨zmb4, tyc5⟩, ⟨zmb5, ⟨tyc9, zmb9⟩⟩⟩⟩, ⟨⟨⟨tyc35, elt35⟩, ⟨mkz35, apT35⟩⟩, ⟨⟨elk35, zmb35⟩, ⟨tyc36, ⟨zmb36, tyc38⟩⟩⟩⟩⟩, ⟨⟨⟨⟨foff38_0, fpart38_0⟩, ⟨foff38_1, fpart38_1⟩⟩, ⟨⟨zmb38, bldT38⟩, ⟨tyc46, ⟨tyc60, zmb60⟩⟩⟩⟩, ⟨⟨⟨Tryd.underlying0, Tryd.underlying3⟩, ⟨Tryd.underlying4, ⟨Tryd.underlying5, Tryd.underlying9⟩⟩⟩, ⟨⟨Tryd.underlying35, Tryd.underlying36⟩, ⟨Tryd.underlying38, ⟨Tryd.underlying46, Tryd.underlying60⟩⟩⟩⟩⟩⟩
theorem sr_used (b x n k : Nat) (st nn ct : Int) (zs : List Int) (hd : b ≠ x ∧ x ≠ b) (hn : zs.length = n) (h0 : 0 < n) (hk : n ≤ k) (hln : n ≤ 100000) :
    ACt Tryd.prog 27 [pt b 0] [(x, .zs .u8 zs k 5), (b, .cells [pt b 0, ms x 0 n k, iv .i64 st, iv .i32 nn, iv .i64 ct] 5 50)] (fun r F' => r = stz zs ∧ F' = [(b, .cells [pt b 0, ms x 0 n k, iv .i64 st, iv .i32 nn, iv .i64 ct] 5 50)]) := by
  have e1 : usB Tryd.prog 60 5 = true := by kernel_rfl
  have tk : zs.take n = zs := by rw [← hn, List.take_length]
  have t1 : ((n : Nat) : Int).toNat = n := by omega
  have i1 : (0 : Int) < (n : Int) ∧ (n : Int) ≤ 9223372036854775807 := by omega
  have kk : k ≠ 0 := by omega
  refine ACt.intro Tryd.func27 rfl (by kernel_rfl) (by simp [Tryd.ntmps27]) (fun cx => ?_)
  simp only [argE, Tryd.ntmps27, Tryd.results27]
  first | (have FRx := FR; clear FRx) | (have FR : Sm (¬ ((1 : Nat) = 0)) := Sm.mk Nat.one_ne_zero)
  repeat' first
    | (refine Sm.mk ?_; try simp -dsimp only [ZK, rvc, drawF, headN, pureH, stp, dvc, calleeOf, gcall, pev, eff, newB, okd, og, ogs, ogo, ogp, slv, bltv, opd, litv, strip, one, both, putE, St.put, look, gdOf, gdv, picka, pickv, pickw, binv, bini, bins, binb, binp, binq, isSlT, bina, shp, eqCells, unv, convv, nilv, faddv, addp, idxav, idxp, load1, load1m, loadn, loadnm, loadv, hget, hset, hrep, hdel, slicev, bnd, shift1, lenv, capv, IntKind.bits, extractv, fieldv, indexv, min2v, max2v, mkiv, cellsA, fillA, buildv, stC, oneC, rowMB, intsA, plN, appE, appZ, appC, appNZ, appNC, VwL, srcC, srcZ, srcM, isBoolT, isPtrT, isSliceT, uOk, Value.oneCell', Nat.reducePow, Int.reducePow, Nat.reduceAdd, Nat.reduceMul, Nat.reduceSub, Nat.reduceLT, Nat.reduceLeDiff, Nat.reduceEqDiff, Nat.reduceBEq, Nat.reduceDiv, Nat.reduceMod, ↓reduceIte, reduceCtorEq, Int.reduceToNat, Int.reduceLT, Int.reduceLE, TFTxY, SeqQ, BlkQ, LoopQ, BodyQ, e1, tk, t1, i1, kk, hn, hd, h0, hdel, FR.out])
    | (refine WP.seq fun K hK => ?_)
    | (refine WP.region (rvc_sound _ _ (Sm.out ?_)))
    | (refine WP.drawK rfl mixed (by decide +kernel) (Sm.out ?_))
    | (refine Ob.mk ?_; focus (first | assumption | omega | decide | trivial | (intro hob; simp only [hob, ZF]; done) | (intros; (repeat' refine And.intro ?_ ?_) <;> first | assumption | omega | trivial | decide) | (intros; simp only [ZE] at *; (repeat' refine And.intro ?_ ?_) <;> first | assumption | omega | trivial)))
    | (refine And.intro (Ob.out ?_) ?_)
    | (refine WP.block ?_)
    | (refine WP.cond rfl (fun hc => ?_) (fun hc => ?_) <;> (try simp only [ZC, reduceCtorEq, ZD] at hc) <;> (try (exact absurd hc (by decide))) <;> (try (exfalso; omega)))
    | ((first | refine WP.skip ?_ | refine WP.exit ?_); simp only [SeqQ, BlkQ, LoopQ, BodyQ, ↓reduceIte, Nat.reduceEqDiff, reduceCtorEq, look, true_and])
    | (refine WP.ret (Sm.out ?_))
    | (first | refine ExG.no (Sm.out ?_) | refine Or.inl (ExG.no (Sm.out ?_)) | refine Or.inl (And.intro (fun hg => absurd hg (by decide)) (ExG.no (Sm.out ?_))))
    | (refine Rt.mk ?_; refine And.intro ?_ ?_ <;> (intro hg; first | exact absurd hg (by decide) | refine Sm.out ?_))
    | (refine Nu.mk ?_; first | (fail_if_success (have := nb1)); intro nb1 | (fail_if_success (have := nb2)); intro nb2 | (fail_if_success (have := nb3)); intro nb3 | (fail_if_success (have := nb4)); intro nb4 | intro nbz)
    | (refine Fr.mk ?_; intro hfr; (first | (have hFRb : _ ≤ _ ∧ _ ≤ _ := And.intro hfr.1 hfr.2.1) | (have hFRb : _ ≤ _ := hfr.1) | skip); replace FR := Sm.mk (And.intro hfr FR.out); clear hfr; refine Sm.out ?_)
    | (refine Two.mk ?_ ?_)
    | (refine Cs.mk ?_; intro hcs; first | exact False.elim hcs | (exfalso; omega) | (refine Sm.out ?_))
    | go_step
    | omega
    | (simp only [maxLen_eq]; omega)
  (refine OutQ.upd (by simp only [resv, ZK, look, loadv, loadn, loadnm, load1, load1m, hget, ↓reduceIte, Nat.reduceEqDiff, Nat.reduceAdd, Nat.reduceMul, Nat.reduceLeDiff, Nat.reduceLT, reduceCtorEq, TFTxY, FR.out, tk]) (by simp only [resv, resA, ZK, look, loadv, loadn, loadnm, load1, load1m, hget, ↓reduceIte, Nat.reduceEqDiff, Nat.reduceAdd, Nat.reduceMul, Nat.reduceLeDiff, Nat.reduceLT, reduceCtorEq, TFTxY, FR.out, tk]; first | done | rfl) (by simp only [hget, ↓reduceIte, if_true, if_false, FR.out, tk]; first | done | rfl) ?_ <;> first | exact rfl | (simp only [ZK, look, loadv, loadn, loadnm, load1, load1m, hget, ↓reduceIte, Nat.reduceEqDiff, Nat.reduceAdd, Nat.reduceMul, Nat.reduceLeDiff, Nat.reduceLT, reduceCtorEq, TFTxY, FR.out, tk]; done) | skip)
theorem sr_nil (b : Nat) (st nn ct : Int) :
    ACt Tryd.prog 27 [pt b 0] [(b, .cells [nps, nsl, iv .i64 st, iv .i32 nn, iv .i64 ct] 5 50)] (fun r F' => r = stz [] ∧ F' = [(b, .cells [nps, nsl, iv .i64 st, iv .i32 nn, iv .i64 ct] 5 50)]) := by
  have hz : stz [] = .lit (.string .empty) := rfl
  rw [hz]
  refine ACt.intro Tryd.func27 rfl (by kernel_rfl) (by simp [Tryd.ntmps27]) (fun cx => ?_)
  simp only [argE, Tryd.ntmps27, Tryd.results27]
  first | (have FRx := FR; clear FRx) | (have FR : Sm (¬ ((1 : Nat) = 0)) := Sm.mk Nat.one_ne_zero)
  repeat' first
    | (refine Sm.mk ?_; try simp -dsimp only [ZK, rvc, drawF, headN, pureH, stp, dvc, calleeOf, gcall, pev, eff, newB, okd, og, ogs, ogo, ogp, slv, bltv, opd, litv, strip, one, both, putE, St.put, look, gdOf, gdv, picka, pickv, pickw, binv, bini, bins, binb, binp, binq, isSlT, bina, shp, eqCells, unv, convv, nilv, faddv, addp, idxav, idxp, load1, load1m, loadn, loadnm, loadv, hget, hset, hrep, hdel, slicev, bnd, shift1, lenv, capv, IntKind.bits, extractv, fieldv, indexv, min2v, max2v, mkiv, cellsA, fillA, buildv, stC, oneC, rowMB, intsA, plN, appE, appZ, appC, appNZ, appNC, VwL, srcC, srcZ, srcM, isBoolT, isPtrT, isSliceT, uOk, Value.oneCell', Nat.reducePow, Int.reducePow, Nat.reduceAdd, Nat.reduceMul, Nat.reduceSub, Nat.reduceLT, Nat.reduceLeDiff, Nat.reduceEqDiff, Nat.reduceBEq, Nat.reduceDiv, Nat.reduceMod, ↓reduceIte, reduceCtorEq, Int.reduceToNat, Int.reduceLT, Int.reduceLE, TFTxY, SeqQ, BlkQ, LoopQ, BodyQ, FR.out])
    | (refine WP.seq fun K hK => ?_)
    | (refine WP.region (rvc_sound _ _ (Sm.out ?_)))
    | (refine WP.drawK rfl mixed (by decide +kernel) (Sm.out ?_))
    | (refine Ob.mk ?_; focus (first | assumption | omega | decide | trivial | (intro hob; simp only [hob, ZF]; done) | (intros; (repeat' refine And.intro ?_ ?_) <;> first | assumption | omega | trivial | decide) | (intros; simp only [ZE] at *; (repeat' refine And.intro ?_ ?_) <;> first | assumption | omega | trivial)))
    | (refine And.intro (Ob.out ?_) ?_)
    | (refine WP.block ?_)
    | (refine WP.cond rfl (fun hc => ?_) (fun hc => ?_) <;> (try simp only [ZC, reduceCtorEq, ZD] at hc) <;> (try (exact absurd hc (by decide))) <;> (try (exfalso; omega)))
    | ((first | refine WP.skip ?_ | refine WP.exit ?_); simp only [SeqQ, BlkQ, LoopQ, BodyQ, ↓reduceIte, Nat.reduceEqDiff, reduceCtorEq, look, true_and])
    | (refine WP.ret (Sm.out ?_))
    | (first | refine ExG.no (Sm.out ?_) | refine Or.inl (ExG.no (Sm.out ?_)) | refine Or.inl (And.intro (fun hg => absurd hg (by decide)) (ExG.no (Sm.out ?_))))
    | (refine Rt.mk ?_; refine And.intro ?_ ?_ <;> (intro hg; first | exact absurd hg (by decide) | refine Sm.out ?_))
    | (refine Nu.mk ?_; first | (fail_if_success (have := nb1)); intro nb1 | (fail_if_success (have := nb2)); intro nb2 | (fail_if_success (have := nb3)); intro nb3 | (fail_if_success (have := nb4)); intro nb4 | intro nbz)
    | (refine Fr.mk ?_; intro hfr; (first | (have hFRb : _ ≤ _ ∧ _ ≤ _ := And.intro hfr.1 hfr.2.1) | (have hFRb : _ ≤ _ := hfr.1) | skip); replace FR := Sm.mk (And.intro hfr FR.out); clear hfr; refine Sm.out ?_)
    | (refine Two.mk ?_ ?_)
    | (refine Cs.mk ?_; intro hcs; first | exact False.elim hcs | (exfalso; omega) | (refine Sm.out ?_))
    | go_step
    | omega
    | (simp only [maxLen_eq]; omega)
  (refine OutQ.upd (by simp only [resv, ZK, look, loadv, loadn, loadnm, load1, load1m, hget, ↓reduceIte, Nat.reduceEqDiff, Nat.reduceAdd, Nat.reduceMul, Nat.reduceLeDiff, Nat.reduceLT, reduceCtorEq, TFTxY, FR.out]) (by simp only [resv, resA, ZK, look, loadv, loadn, loadnm, load1, load1m, hget, ↓reduceIte, Nat.reduceEqDiff, Nat.reduceAdd, Nat.reduceMul, Nat.reduceLeDiff, Nat.reduceLT, reduceCtorEq, TFTxY, FR.out]; first | done | rfl) (by simp only [hget, ↓reduceIte, if_true, if_false, FR.out]; first | done | rfl) ?_ <;> first | exact rfl | (simp only [ZK, look, loadv, loadn, loadnm, load1, load1m, hget, ↓reduceIte, Nat.reduceEqDiff, Nat.reduceAdd, Nat.reduceMul, Nat.reduceLeDiff, Nat.reduceLT, reduceCtorEq, TFTxY, FR.out]; done) | skip)
/-- the reader's block when its text was taken -/
def eA (b : Nat) : List Int → AV
  | [] => nps
  | _ :: _ => pt b 0
def eS (q : BQ) : List Int → AV
  | [] => nsl
  | z :: r => ms q.x 0 (z :: r).length q.k
theorem str_r {b : Nat} {st nn ct : Int} {zs : List Int} {q : BQ} (hq : bOk b zs q) (hz : zs.length ≤ 50000) :
    ACt Tryd.prog 27 [pt b 0] (rH b st nn ct zs q) (fun r F' => r = stz zs ∧ F' = [(b, rdC (eA b zs) (eS q zs) b st nn ct)]) := by
  cases zs with
  | nil => exact sr_nil b st nn ct
  | cons z r =>
    obtain ⟨hd, hk1, hk2⟩ := hq (List.cons_ne_nil _ _)
    exact sr_used b q.x (z :: r).length q.k st nn ct (z :: r) hd rfl (by simp) hk1 (by omega)
abbrev qmS : AV := .lit (.string ⟨#[34]⟩)
theorem hasp_yes (zs : List Int) (hb : By zs) (h : zs.take 1 = [34]) : ACt Tryd.prog 43 [stz zs, qmS] [] (Fn (bv true)) := by
  have hs := bstr_size zs
  have hl : 1 ≤ zs.length := by
    cases zs with
    | nil => cases h
    | cons z r => simp
  have hx := bstr_ext zs 0 1
  rw [List.drop_zero, h] at hx
  have hz : bstr [34] = (⟨#[34]⟩ : ByteArray) := rfl
  rw [hz] at hx
  have hm : (⟨#[34]⟩ : ByteArray).size = 1 := rfl
  unfold qmS stz
  obtain ⟨M, hM⟩ : ∃ M, M = (⟨#[34]⟩ : ByteArray) := ⟨_, rfl⟩
  rw [← hM] at hx hm ⊢
  obtain ⟨B, hB⟩ : ∃ B, B = bstr zs := ⟨_, rfl⟩
  rw [← hB] at hs hx ⊢
  obtain ⟨n, hn⟩ : ∃ n, n = zs.length := ⟨_, rfl⟩
  rw [← hn] at hs hl
  have k1 : decide ((n : Int) ≥ 1) = true := decide_eq_true (by omega)
  have y1 : ∀ x : List UInt8, (x == x) = true := fun x => beq_self_eq_true x
  have t1 : (1 : Int).toNat = 1 := rfl
  refine ACt.intro Tryd.func43 rfl (by kernel_rfl) (by simp [Tryd.ntmps43]) (fun cx => ?_)
  simp only [argE, Tryd.ntmps43, Tryd.results43]
  first | (have FRx := FR; clear FRx) | (have FR : Sm (¬ ((1 : Nat) = 0)) := Sm.mk Nat.one_ne_zero)
  repeat' first
    | (refine Sm.mk ?_; try simp -dsimp only [ZK, rvc, drawF, headN, pureH, stp, dvc, calleeOf, gcall, pev, eff, newB, okd, og, ogs, ogo, ogp, slv, bltv, opd, litv, strip, one, both, putE, St.put, look, gdOf, gdv, picka, pickv, pickw, binv, bini, bins, binb, binp, binq, isSlT, bina, shp, eqCells, unv, convv, nilv, faddv, addp, idxav, idxp, load1, load1m, loadn, loadnm, loadv, hget, hset, hrep, hdel, slicev, bnd, shift1, lenv, capv, IntKind.bits, extractv, fieldv, indexv, min2v, max2v, mkiv, cellsA, fillA, buildv, stC, oneC, rowMB, intsA, plN, appE, appZ, appC, appNZ, appNC, VwL, srcC, srcZ, srcM, isBoolT, isPtrT, isSliceT, uOk, Value.oneCell', Nat.reducePow, Int.reducePow, Nat.reduceAdd, Nat.reduceMul, Nat.reduceSub, Nat.reduceLT, Nat.reduceLeDiff, Nat.reduceEqDiff, Nat.reduceBEq, Nat.reduceDiv, Nat.reduceMod, ↓reduceIte, reduceCtorEq, Int.reduceToNat, Int.reduceLT, Int.reduceLE, TFTxY, SeqQ, BlkQ, LoopQ, BodyQ, hs, hm, k1, hl, hx, y1, t1, FR.out])
    | (refine WP.seq fun K hK => ?_)
    | (refine WP.region (rvc_sound _ _ (Sm.out ?_)))
    | (refine WP.drawK rfl mixed (by decide +kernel) (Sm.out ?_))
    | (refine Ob.mk ?_; focus (first | assumption | omega | decide | trivial | (intro hob; simp only [hob, ZF]; done) | (intros; (repeat' refine And.intro ?_ ?_) <;> first | assumption | omega | trivial | decide) | (intros; simp only [ZE] at *; (repeat' refine And.intro ?_ ?_) <;> first | assumption | omega | trivial)))
    | (refine And.intro (Ob.out ?_) ?_)
    | (refine WP.block ?_)
    | (refine WP.cond rfl (fun hc => ?_) (fun hc => ?_) <;> (try simp only [ZC, reduceCtorEq, ZD] at hc) <;> (try (exact absurd hc (by decide))) <;> (try (exfalso; omega)))
    | ((first | refine WP.skip ?_ | refine WP.exit ?_); simp only [SeqQ, BlkQ, LoopQ, BodyQ, ↓reduceIte, Nat.reduceEqDiff, reduceCtorEq, look, true_and])
    | (refine WP.ret (Sm.out ?_))
    | (first | refine ExG.no (Sm.out ?_) | refine Or.inl (ExG.no (Sm.out ?_)) | refine Or.inl (And.intro (fun hg => absurd hg (by decide)) (ExG.no (Sm.out ?_))))
    | (refine Rt.mk ?_; refine And.intro ?_ ?_ <;> (intro hg; first | exact absurd hg (by decide) | refine Sm.out ?_))
    | (refine Nu.mk ?_; first | (fail_if_success (have := nb1)); intro nb1 | (fail_if_success (have := nb2)); intro nb2 | (fail_if_success (have := nb3)); intro nb3 | (fail_if_success (have := nb4)); intro nb4 | intro nbz)
    | (refine Fr.mk ?_; intro hfr; (first | (have hFRb : _ ≤ _ ∧ _ ≤ _ := And.intro hfr.1 hfr.2.1) | (have hFRb : _ ≤ _ := hfr.1) | skip); replace FR := Sm.mk (And.intro hfr FR.out); clear hfr; refine Sm.out ?_)
    | (refine Two.mk ?_ ?_)
    | (refine Cs.mk ?_; intro hcs; first | exact False.elim hcs | (exfalso; omega) | (refine Sm.out ?_))
    | go_step
    | omega
    | (simp only [maxLen_eq]; omega)
  (refine OutQ.all ?_ ?_; (focus (simp only [resv, ZK, look, loadv, loadn, loadnm, load1, load1m, hget, ↓reduceIte, Nat.reduceEqDiff, Nat.reduceAdd, Nat.reduceMul, Nat.reduceLeDiff, Nat.reduceLT, reduceCtorEq, TFTxY, y1])); (try simp only [resv, resA, Fn, ZK, look, loadv, loadn, loadnm, load1, load1m, hget, ↓reduceIte, Nat.reduceEqDiff, Nat.reduceAdd, Nat.reduceMul, Nat.reduceLeDiff, Nat.reduceLT, reduceCtorEq, TFTxY, y1]); (try simp [resA, Fn, look, y1]))
theorem hasp_no (zs : List Int) (hb : By zs) (h : zs.take 1 ≠ [34]) : ACt Tryd.prog 43 [stz zs, qmS] [] (Fn (bv false)) := by
  have hs := bstr_size zs
  by_cases hl : 1 ≤ zs.length
  · have hx := bstr_ext zs 0 1
    rw [List.drop_zero] at hx
    have hz : bstr [34] = (⟨#[34]⟩ : ByteArray) := rfl
    have hne := str_eq (zs.take 1) [34] (hb.take 1) (by unfold By; decide +kernel)
    rw [decide_eq_false h, hz] at hne
    have hm : (⟨#[34]⟩ : ByteArray).size = 1 := rfl
    unfold qmS stz
    obtain ⟨M, hM⟩ : ∃ M, M = (⟨#[34]⟩ : ByteArray) := ⟨_, rfl⟩
    rw [← hM] at hne hm ⊢
    obtain ⟨C, hC⟩ : ∃ C, C = bstr (zs.take 1) := ⟨_, rfl⟩
    rw [← hC] at hne hx
    obtain ⟨B, hB⟩ : ∃ B, B = bstr zs := ⟨_, rfl⟩
    rw [← hB] at hs hx ⊢
    obtain ⟨n, hn⟩ : ∃ n, n = zs.length := ⟨_, rfl⟩
    rw [← hn] at hs hl
    have k1 : decide ((n : Int) ≥ 1) = true := decide_eq_true (by omega)
    have t1 : (1 : Int).toNat = 1 := rfl
    refine ACt.intro Tryd.func43 rfl (by kernel_rfl) (by simp [Tryd.ntmps43]) (fun cx => ?_)
    simp only [argE, Tryd.ntmps43, Tryd.results43]
    first | (have FRx := FR; clear FRx) | (have FR : Sm (¬ ((1 : Nat) = 0)) := Sm.mk Nat.one_ne_zero)
    repeat' first
      | (refine Sm.mk ?_; try simp -dsimp only [ZK, rvc, drawF, headN, pureH, stp, dvc, calleeOf, gcall, pev, eff, newB, okd, og, ogs, ogo, ogp, slv, bltv, opd, litv, strip, one, both, putE, St.put, look, gdOf, gdv, picka, pickv, pickw, binv, bini, bins, binb, binp, binq, isSlT, bina, shp, eqCells, unv, convv, nilv, faddv, addp, idxav, idxp, load1, load1m, loadn, loadnm, loadv, hget, hset, hrep, hdel, slicev, bnd, shift1, lenv, capv, IntKind.bits, extractv, fieldv, indexv, min2v, max2v, mkiv, cellsA, fillA, buildv, stC, oneC, rowMB, intsA, plN, appE, appZ, appC, appNZ, appNC, VwL, srcC, srcZ, srcM, isBoolT, isPtrT, isSliceT, uOk, Value.oneCell', Nat.reducePow, Int.reducePow, Nat.reduceAdd, Nat.reduceMul, Nat.reduceSub, Nat.reduceLT, Nat.reduceLeDiff, Nat.reduceEqDiff, Nat.reduceBEq, Nat.reduceDiv, Nat.reduceMod, ↓reduceIte, reduceCtorEq, Int.reduceToNat, Int.reduceLT, Int.reduceLE, TFTxY, SeqQ, BlkQ, LoopQ, BodyQ, hs, hm, k1, hl, hx, hne, t1, FR.out])
      | (refine WP.seq fun K hK => ?_)
      | (refine WP.region (rvc_sound _ _ (Sm.out ?_)))
      | (refine WP.drawK rfl mixed (by decide +kernel) (Sm.out ?_))
      | (refine Ob.mk ?_; focus (first | assumption | omega | decide | trivial | (intro hob; simp only [hob, ZF]; done) | (intros; (repeat' refine And.intro ?_ ?_) <;> first | assumption | omega | trivial | decide) | (intros; simp only [ZE] at *; (repeat' refine And.intro ?_ ?_) <;> first | assumption | omega | trivial)))
      | (refine And.intro (Ob.out ?_) ?_)
      | (refine WP.block ?_)
      | (refine WP.cond rfl (fun hc => ?_) (fun hc => ?_) <;> (try simp only [ZC, reduceCtorEq, ZD] at hc) <;> (try (exact absurd hc (by decide))) <;> (try (exfalso; omega)))
      | ((first | refine WP.skip ?_ | refine WP.exit ?_); simp only [SeqQ, BlkQ, LoopQ, BodyQ, ↓reduceIte, Nat.reduceEqDiff, reduceCtorEq, look, true_and])
      | (refine WP.ret (Sm.out ?_))
      | (first | refine ExG.no (Sm.out ?_) | refine Or.inl (ExG.no (Sm.out ?_)) | refine Or.inl (And.intro (fun hg => absurd hg (by decide)) (ExG.no (Sm.out ?_))))
      | (refine Rt.mk ?_; refine And.intro ?_ ?_ <;> (intro hg; first | exact absurd hg (by decide) | refine Sm.out ?_))
      | (refine Nu.mk ?_; first | (fail_if_success (have := nb1)); intro nb1 | (fail_if_success (have := nb2)); intro nb2 | (fail_if_success (have := nb3)); intro nb3 | (fail_if_success (have := nb4)); intro nb4 | intro nbz)
      | (refine Fr.mk ?_; intro hfr; (first | (have hFRb : _ ≤ _ ∧ _ ≤ _ := And.intro hfr.1 hfr.2.1) | (have hFRb : _ ≤ _ := hfr.1) | skip); replace FR := Sm.mk (And.intro hfr FR.out); clear hfr; refine Sm.out ?_)
      | (refine Two.mk ?_ ?_)
      | (refine Cs.mk ?_; intro hcs; first | exact False.elim hcs | (exfalso; omega) | (refine Sm.out ?_))
      | go_step
      | omega
      | (simp only [maxLen_eq]; omega)
    (refine OutQ.all ?_ ?_; (focus (simp only [resv, ZK, look, loadv, loadn, loadnm, load1, load1m, hget, ↓reduceIte, Nat.reduceEqDiff, Nat.reduceAdd, Nat.reduceMul, Nat.reduceLeDiff, Nat.reduceLT, reduceCtorEq, TFTxY, hne])); (try simp only [resv, resA, Fn, ZK, look, loadv, loadn, loadnm, load1, load1m, hget, ↓reduceIte, Nat.reduceEqDiff, Nat.reduceAdd, Nat.reduceMul, Nat.reduceLeDiff, Nat.reduceLT, reduceCtorEq, TFTxY, hne]); (try simp [resA, Fn, look, hne]))
  · have hm : (⟨#[34]⟩ : ByteArray).size = 1 := rfl
    unfold qmS stz
    obtain ⟨M, hM⟩ : ∃ M, M = (⟨#[34]⟩ : ByteArray) := ⟨_, rfl⟩
    rw [← hM] at hm ⊢
    obtain ⟨B, hB⟩ : ∃ B, B = bstr zs := ⟨_, rfl⟩
    rw [← hB] at hs ⊢
    obtain ⟨n, hn⟩ : ∃ n, n = zs.length := ⟨_, rfl⟩
    rw [← hn] at hs hl
    have k1 : decide ((n : Int) ≥ 1) = false := decide_eq_false (by omega)
    refine ACt.intro Tryd.func43 rfl (by kernel_rfl) (by simp [Tryd.ntmps43]) (fun cx => ?_)
    simp only [argE, Tryd.ntmps43, Tryd.results43]
    first | (have FRx := FR; clear FRx) | (have FR : Sm (¬ ((1 : Nat) = 0)) := Sm.mk Nat.one_ne_zero)
    repeat' first
      | (refine Sm.mk ?_; try simp -dsimp only [ZK, rvc, drawF, headN, pureH, stp, dvc, calleeOf, gcall, pev, eff, newB, okd, og, ogs, ogo, ogp, slv, bltv, opd, litv, strip, one, both, putE, St.put, look, gdOf, gdv, picka, pickv, pickw, binv, bini, bins, binb, binp, binq, isSlT, bina, shp, eqCells, unv, convv, nilv, faddv, addp, idxav, idxp, load1, load1m, loadn, loadnm, loadv, hget, hset, hrep, hdel, slicev, bnd, shift1, lenv, capv, IntKind.bits, extractv, fieldv, indexv, min2v, max2v, mkiv, cellsA, fillA, buildv, stC, oneC, rowMB, intsA, plN, appE, appZ, appC, appNZ, appNC, VwL, srcC, srcZ, srcM, isBoolT, isPtrT, isSliceT, uOk, Value.oneCell', Nat.reducePow, Int.reducePow, Nat.reduceAdd, Nat.reduceMul, Nat.reduceSub, Nat.reduceLT, Nat.reduceLeDiff, Nat.reduceEqDiff, Nat.reduceBEq, Nat.reduceDiv, Nat.reduceMod, ↓reduceIte, reduceCtorEq, Int.reduceToNat, Int.reduceLT, Int.reduceLE, TFTxY, SeqQ, BlkQ, LoopQ, BodyQ, hs, hm, k1, FR.out])
      | (refine WP.seq fun K hK => ?_)
      | (refine WP.region (rvc_sound _ _ (Sm.out ?_)))
      | (refine WP.drawK rfl mixed (by decide +kernel) (Sm.out ?_))
      | (refine Ob.mk ?_; focus (first | assumption | omega | decide | trivial | (intro hob; simp only [hob, ZF]; done) | (intros; (repeat' refine And.intro ?_ ?_) <;> first | assumption | omega | trivial | decide) | (intros; simp only [ZE] at *; (repeat' refine And.intro ?_ ?_) <;> first | assumption | omega | trivial)))
      | (refine And.intro (Ob.out ?_) ?_)
      | (refine WP.block ?_)
      | (refine WP.cond rfl (fun hc => ?_) (fun hc => ?_) <;> (try simp only [ZC, reduceCtorEq, ZD] at hc) <;> (try (exact absurd hc (by decide))) <;> (try (exfalso; omega)))
      | ((first | refine WP.skip ?_ | refine WP.exit ?_); simp only [SeqQ, BlkQ, LoopQ, BodyQ, ↓reduceIte, Nat.reduceEqDiff, reduceCtorEq, look, true_and])
      | (refine WP.ret (Sm.out ?_))
      | (first | refine ExG.no (Sm.out ?_) | refine Or.inl (ExG.no (Sm.out ?_)) | refine Or.inl (And.intro (fun hg => absurd hg (by decide)) (ExG.no (Sm.out ?_))))
      | (refine Rt.mk ?_; refine And.intro ?_ ?_ <;> (intro hg; first | exact absurd hg (by decide) | refine Sm.out ?_))
      | (refine Nu.mk ?_; first | (fail_if_success (have := nb1)); intro nb1 | (fail_if_success (have := nb2)); intro nb2 | (fail_if_success (have := nb3)); intro nb3 | (fail_if_success (have := nb4)); intro nb4 | intro nbz)
      | (refine Fr.mk ?_; intro hfr; (first | (have hFRb : _ ≤ _ ∧ _ ≤ _ := And.intro hfr.1 hfr.2.1) | (have hFRb : _ ≤ _ := hfr.1) | skip); replace FR := Sm.mk (And.intro hfr FR.out); clear hfr; refine Sm.out ?_)
      | (refine Two.mk ?_ ?_)
      | (refine Cs.mk ?_; intro hcs; first | exact False.elim hcs | (exfalso; omega) | (refine Sm.out ?_))
      | go_step
      | omega
      | (simp only [maxLen_eq]; omega)
    (refine OutQ.all ?_ ?_; (focus (simp only [resv, ZK, look, loadv, loadn, loadnm, load1, load1m, hget, ↓reduceIte, Nat.reduceEqDiff, Nat.reduceAdd, Nat.reduceMul, Nat.reduceLeDiff, Nat.reduceLT, reduceCtorEq, TFTxY])); (try simp only [resv, resA, Fn, ZK, look, loadv, loadn, loadnm, load1, load1m, hget, ↓reduceIte, Nat.reduceEqDiff, Nat.reduceAdd, Nat.reduceMul, Nat.reduceLeDiff, Nat.reduceLT, reduceCtorEq, TFTxY]); (try simp [resA, Fn, look]))
theorem cutp2_yes (zs : List Int) (hb : By zs) (h : zs.take 1 = [34]) : ACt Tryd.prog 37 [stz zs, qmS] [] (Fn (.tup [stz (zs.drop 1), bv true])) := by
  have cH := hasp_yes zs hb h
  have hs := bstr_size zs
  have hl : 1 ≤ zs.length := by
    cases zs with
    | nil => cases h
    | cons z r => simp
  have hx := bstr_ext zs 1 zs.length
  rw [List.take_length] at hx
  have hm : (⟨#[34]⟩ : ByteArray).size = 1 := rfl
  unfold qmS stz at cH ⊢
  obtain ⟨M, hM⟩ : ∃ M, M = (⟨#[34]⟩ : ByteArray) := ⟨_, rfl⟩
  rw [← hM] at cH hm ⊢
  obtain ⟨C, hC⟩ : ∃ C, C = bstr (zs.drop 1) := ⟨_, rfl⟩
  rw [← hC] at hx ⊢
  obtain ⟨B, hB⟩ : ∃ B, B = bstr zs := ⟨_, rfl⟩
  rw [← hB] at cH hs hx ⊢
  obtain ⟨n, hn⟩ : ∃ n, n = zs.length := ⟨_, rfl⟩
  rw [← hn] at hs hl hx
  have t1 : (1 : Int).toNat = 1 := rfl
  refine ACt.intro Tryd.func37 rfl (by kernel_rfl) (by simp [Tryd.ntmps37]) (fun cx => ?_)
  simp only [argE, Tryd.ntmps37, Tryd.results37]
  first | (have FRx := FR; clear FRx) | (have FR : Sm (¬ ((1 : Nat) = 0)) := Sm.mk Nat.one_ne_zero)
  repeat' first
    | (refine Sm.mk ?_; try simp -dsimp only [ZK, rvc, drawF, headN, pureH, stp, dvc, calleeOf, gcall, pev, eff, newB, okd, og, ogs, ogo, ogp, slv, bltv, opd, litv, strip, one, both, putE, St.put, look, gdOf, gdv, picka, pickv, pickw, binv, bini, bins, binb, binp, binq, isSlT, bina, shp, eqCells, unv, convv, nilv, faddv, addp, idxav, idxp, load1, load1m, loadn, loadnm, loadv, hget, hset, hrep, hdel, slicev, bnd, shift1, lenv, capv, IntKind.bits, extractv, fieldv, indexv, min2v, max2v, mkiv, cellsA, fillA, buildv, stC, oneC, rowMB, intsA, plN, appE, appZ, appC, appNZ, appNC, VwL, srcC, srcZ, srcM, isBoolT, isPtrT, isSliceT, uOk, Value.oneCell', Nat.reducePow, Int.reducePow, Nat.reduceAdd, Nat.reduceMul, Nat.reduceSub, Nat.reduceLT, Nat.reduceLeDiff, Nat.reduceEqDiff, Nat.reduceBEq, Nat.reduceDiv, Nat.reduceMod, ↓reduceIte, reduceCtorEq, Int.reduceToNat, Int.reduceLT, Int.reduceLE, TFTxY, SeqQ, BlkQ, LoopQ, BodyQ, hs, hm, hl, hx, t1, FR.out])
    | (first | refine CallV.fn (cH) (Sm.out ?_) | refine ExF.mk (cH) (Sm.out ?_) | refine ExG.mk (fun _ => cH) (Sm.out ?_) | refine ExG.mkJ (fun _ => cH) (Sm.out ?_) | refine ExG.mkI (Ob.out ?_) (fun _ => cH) (Sm.out ?_))
    | (refine WP.seq fun K hK => ?_)
    | (refine WP.region (rvc_sound _ _ (Sm.out ?_)))
    | (refine WP.drawK rfl mixed (by decide +kernel) (Sm.out ?_))
    | (refine Ob.mk ?_; focus (first | assumption | omega | decide | trivial | (intro hob; simp only [hob, ZF]; done) | (intros; (repeat' refine And.intro ?_ ?_) <;> first | assumption | omega | trivial | decide) | (intros; simp only [ZE] at *; (repeat' refine And.intro ?_ ?_) <;> first | assumption | omega | trivial)))
    | (refine And.intro (Ob.out ?_) ?_)
    | (refine WP.block ?_)
    | (refine WP.cond rfl (fun hc => ?_) (fun hc => ?_) <;> (try simp only [ZC, reduceCtorEq, ZD] at hc) <;> (try (exact absurd hc (by decide))) <;> (try (exfalso; omega)))
    | ((first | refine WP.skip ?_ | refine WP.exit ?_); simp only [SeqQ, BlkQ, LoopQ, BodyQ, ↓reduceIte, Nat.reduceEqDiff, reduceCtorEq, look, true_and])
    | (refine WP.ret (Sm.out ?_))
    | (first | refine ExG.no (Sm.out ?_) | refine Or.inl (ExG.no (Sm.out ?_)) | refine Or.inl (And.intro (fun hg => absurd hg (by decide)) (ExG.no (Sm.out ?_))))
    | (refine Rt.mk ?_; refine And.intro ?_ ?_ <;> (intro hg; first | exact absurd hg (by decide) | refine Sm.out ?_))
    | (refine Nu.mk ?_; first | (fail_if_success (have := nb1)); intro nb1 | (fail_if_success (have := nb2)); intro nb2 | (fail_if_success (have := nb3)); intro nb3 | (fail_if_success (have := nb4)); intro nb4 | intro nbz)
    | (refine Fr.mk ?_; intro hfr; (first | (have hFRb : _ ≤ _ ∧ _ ≤ _ := And.intro hfr.1 hfr.2.1) | (have hFRb : _ ≤ _ := hfr.1) | skip); replace FR := Sm.mk (And.intro hfr FR.out); clear hfr; refine Sm.out ?_)
    | (refine Two.mk ?_ ?_)
    | (refine Cs.mk ?_; intro hcs; first | exact False.elim hcs | (exfalso; omega) | (refine Sm.out ?_))
    | go_step
    | omega
    | (simp only [maxLen_eq]; omega)
  (refine OutQ.all ?_ ?_; (focus (simp only [resv, ZK, look, loadv, loadn, loadnm, load1, load1m, hget, ↓reduceIte, Nat.reduceEqDiff, Nat.reduceAdd, Nat.reduceMul, Nat.reduceLeDiff, Nat.reduceLT, reduceCtorEq, TFTxY, hx])); (try simp only [resv, resA, Fn, ZK, look, loadv, loadn, loadnm, load1, load1m, hget, ↓reduceIte, Nat.reduceEqDiff, Nat.reduceAdd, Nat.reduceMul, Nat.reduceLeDiff, Nat.reduceLT, reduceCtorEq, TFTxY, hx]); (try simp [resA, Fn, look, hx]))
theorem cutp2_no (zs : List Int) (hb : By zs) (h : zs.take 1 ≠ [34]) : ACt Tryd.prog 37 [stz zs, qmS] [] (Fn (.tup [stz zs, bv false])) := by
  have cH := hasp_no zs hb h
  refine ACt.intro Tryd.func37 rfl (by kernel_rfl) (by simp [Tryd.ntmps37]) (fun cx => ?_)
  simp only [argE, Tryd.ntmps37, Tryd.results37]
  first | (have FRx := FR; clear FRx) | (have FR : Sm (¬ ((1 : Nat) = 0)) := Sm.mk Nat.one_ne_zero)
  repeat' first
    | (refine Sm.mk ?_; try simp -dsimp only [ZK, rvc, drawF, headN, pureH, stp, dvc, calleeOf, gcall, pev, eff, newB, okd, og, ogs, ogo, ogp, slv, bltv, opd, litv, strip, one, both, putE, St.put, look, gdOf, gdv, picka, pickv, pickw, binv, bini, bins, binb, binp, binq, isSlT, bina, shp, eqCells, unv, convv, nilv, faddv, addp, idxav, idxp, load1, load1m, loadn, loadnm, loadv, hget, hset, hrep, hdel, slicev, bnd, shift1, lenv, capv, IntKind.bits, extractv, fieldv, indexv, min2v, max2v, mkiv, cellsA, fillA, buildv, stC, oneC, rowMB, intsA, plN, appE, appZ, appC, appNZ, appNC, VwL, srcC, srcZ, srcM, isBoolT, isPtrT, isSliceT, uOk, Value.oneCell', Nat.reducePow, Int.reducePow, Nat.reduceAdd, Nat.reduceMul, Nat.reduceSub, Nat.reduceLT, Nat.reduceLeDiff, Nat.reduceEqDiff, Nat.reduceBEq, Nat.reduceDiv, Nat.reduceMod, ↓reduceIte, reduceCtorEq, Int.reduceToNat, Int.reduceLT, Int.reduceLE, TFTxY, SeqQ, BlkQ, LoopQ, BodyQ, FR.out])
    | (first | refine CallV.fn (cH) (Sm.out ?_) | refine ExF.mk (cH) (Sm.out ?_) | refine ExG.mk (fun _ => cH) (Sm.out ?_) | refine ExG.mkJ (fun _ => cH) (Sm.out ?_) | refine ExG.mkI (Ob.out ?_) (fun _ => cH) (Sm.out ?_))
    | (refine WP.seq fun K hK => ?_)
    | (refine WP.region (rvc_sound _ _ (Sm.out ?_)))
    | (refine WP.drawK rfl mixed (by decide +kernel) (Sm.out ?_))
    | (refine Ob.mk ?_; focus (first | assumption | omega | decide | trivial | (intro hob; simp only [hob, ZF]; done) | (intros; (repeat' refine And.intro ?_ ?_) <;> first | assumption | omega | trivial | decide) | (intros; simp only [ZE] at *; (repeat' refine And.intro ?_ ?_) <;> first | assumption | omega | trivial)))
    | (refine And.intro (Ob.out ?_) ?_)
    | (refine WP.block ?_)
    | (refine WP.cond rfl (fun hc => ?_) (fun hc => ?_) <;> (try simp only [ZC, reduceCtorEq, ZD] at hc) <;> (try (exact absurd hc (by decide))) <;> (try (exfalso; omega)))
    | ((first | refine WP.skip ?_ | refine WP.exit ?_); simp only [SeqQ, BlkQ, LoopQ, BodyQ, ↓reduceIte, Nat.reduceEqDiff, reduceCtorEq, look, true_and])
    | (refine WP.ret (Sm.out ?_))
    | (first | refine ExG.no (Sm.out ?_) | refine Or.inl (ExG.no (Sm.out ?_)) | refine Or.inl (And.intro (fun hg => absurd hg (by decide)) (ExG.no (Sm.out ?_))))
    | (refine Rt.mk ?_; refine And.intro ?_ ?_ <;> (intro hg; first | exact absurd hg (by decide) | refine Sm.out ?_))
    | (refine Nu.mk ?_; first | (fail_if_success (have := nb1)); intro nb1 | (fail_if_success (have := nb2)); intro nb2 | (fail_if_success (have := nb3)); intro nb3 | (fail_if_success (have := nb4)); intro nb4 | intro nbz)
    | (refine Fr.mk ?_; intro hfr; (first | (have hFRb : _ ≤ _ ∧ _ ≤ _ := And.intro hfr.1 hfr.2.1) | (have hFRb : _ ≤ _ := hfr.1) | skip); replace FR := Sm.mk (And.intro hfr FR.out); clear hfr; refine Sm.out ?_)
    | (refine Two.mk ?_ ?_)
    | (refine Cs.mk ?_; intro hcs; first | exact False.elim hcs | (exfalso; omega) | (refine Sm.out ?_))
    | go_step
    | omega
    | (simp only [maxLen_eq]; omega)
  (refine OutQ.all ?_ ?_; (focus (simp only [resv, ZK, look, loadv, loadn, loadnm, load1, load1m, hget, ↓reduceIte, Nat.reduceEqDiff, Nat.reduceAdd, Nat.reduceMul, Nat.reduceLeDiff, Nat.reduceLT, reduceCtorEq, TFTxY])); (try simp only [resv, resA, Fn, ZK, look, loadv, loadn, loadnm, load1, load1m, hget, ↓reduceIte, Nat.reduceEqDiff, Nat.reduceAdd, Nat.reduceMul, Nat.reduceLeDiff, Nat.reduceLT, reduceCtorEq, TFTxY]); (try simp [resA, Fn, look]))
theorem cutp_yes (zs : List Int) (hb : By zs) (h : zs.take 1 = [34]) : ACt Tryd.prog 28 [stz zs, qmS] [] (Fn (.tup [stz (zs.drop 1), bv true])) := by
  have cH := cutp2_yes zs hb h
  refine ACt.intro Tryd.func28 rfl (by kernel_rfl) (by simp [Tryd.ntmps28]) (fun cx => ?_)
  simp only [argE, Tryd.ntmps28, Tryd.results28]
  first | (have FRx := FR; clear FRx) | (have FR : Sm (¬ ((1 : Nat) = 0)) := Sm.mk Nat.one_ne_zero)
  repeat' first
    | (refine Sm.mk ?_; try simp -dsimp only [ZK, rvc, drawF, headN, pureH, stp, dvc, calleeOf, gcall, pev, eff, newB, okd, og, ogs, ogo, ogp, slv, bltv, opd, litv, strip, one, both, putE, St.put, look, gdOf, gdv, picka, pickv, pickw, binv, bini, bins, binb, binp, binq, isSlT, bina, shp, eqCells, unv, convv, nilv, faddv, addp, idxav, idxp, load1, load1m, loadn, loadnm, loadv, hget, hset, hrep, hdel, slicev, bnd, shift1, lenv, capv, IntKind.bits, extractv, fieldv, indexv, min2v, max2v, mkiv, cellsA, fillA, buildv, stC, oneC, rowMB, intsA, plN, appE, appZ, appC, appNZ, appNC, VwL, srcC, srcZ, srcM, isBoolT, isPtrT, isSliceT, uOk, Value.oneCell', Nat.reducePow, Int.reducePow, Nat.reduceAdd, Nat.reduceMul, Nat.reduceSub, Nat.reduceLT, Nat.reduceLeDiff, Nat.reduceEqDiff, Nat.reduceBEq, Nat.reduceDiv, Nat.reduceMod, ↓reduceIte, reduceCtorEq, Int.reduceToNat, Int.reduceLT, Int.reduceLE, TFTxY, SeqQ, BlkQ, LoopQ, BodyQ, FR.out])
    | (first | refine CallV.fn (cH) (Sm.out ?_) | refine ExF.mk (cH) (Sm.out ?_) | refine ExG.mk (fun _ => cH) (Sm.out ?_) | refine ExG.mkJ (fun _ => cH) (Sm.out ?_) | refine ExG.mkI (Ob.out ?_) (fun _ => cH) (Sm.out ?_))
    | (refine WP.seq fun K hK => ?_)
    | (refine WP.region (rvc_sound _ _ (Sm.out ?_)))
    | (refine WP.drawK rfl mixed (by decide +kernel) (Sm.out ?_))
    | (refine Ob.mk ?_; focus (first | assumption | omega | decide | trivial | (intro hob; simp only [hob, ZF]; done) | (intros; (repeat' refine And.intro ?_ ?_) <;> first | assumption | omega | trivial | decide) | (intros; simp only [ZE] at *; (repeat' refine And.intro ?_ ?_) <;> first | assumption | omega | trivial)))
    | (refine And.intro (Ob.out ?_) ?_)
    | (refine WP.block ?_)
    | (refine WP.cond rfl (fun hc => ?_) (fun hc => ?_) <;> (try simp only [ZC, reduceCtorEq, ZD] at hc) <;> (try (exact absurd hc (by decide))) <;> (try (exfalso; omega)))
    | ((first | refine WP.skip ?_ | refine WP.exit ?_); simp only [SeqQ, BlkQ, LoopQ, BodyQ, ↓reduceIte, Nat.reduceEqDiff, reduceCtorEq, look, true_and])
    | (refine WP.ret (Sm.out ?_))
    | (first | refine ExG.no (Sm.out ?_) | refine Or.inl (ExG.no (Sm.out ?_)) | refine Or.inl (And.intro (fun hg => absurd hg (by decide)) (ExG.no (Sm.out ?_))))
    | (refine Rt.mk ?_; refine And.intro ?_ ?_ <;> (intro hg; first | exact absurd hg (by decide) | refine Sm.out ?_))
    | (refine Nu.mk ?_; first | (fail_if_success (have := nb1)); intro nb1 | (fail_if_success (have := nb2)); intro nb2 | (fail_if_success (have := nb3)); intro nb3 | (fail_if_success (have := nb4)); intro nb4 | intro nbz)
    | (refine Fr.mk ?_; intro hfr; (first | (have hFRb : _ ≤ _ ∧ _ ≤ _ := And.intro hfr.1 hfr.2.1) | (have hFRb : _ ≤ _ := hfr.1) | skip); replace FR := Sm.mk (And.intro hfr FR.out); clear hfr; refine Sm.out ?_)
    | (refine Two.mk ?_ ?_)
    | (refine Cs.mk ?_; intro hcs; first | exact False.elim hcs | (exfalso; omega) | (refine Sm.out ?_))
    | go_step
    | omega
    | (simp only [maxLen_eq]; omega)
  (refine OutQ.all ?_ ?_; (focus (simp only [resv, ZK, look, loadv, loadn, loadnm, load1, load1m, hget, ↓reduceIte, Nat.reduceEqDiff, Nat.reduceAdd, Nat.reduceMul, Nat.reduceLeDiff, Nat.reduceLT, reduceCtorEq, TFTxY])); (try simp only [resv, resA, Fn, ZK, look, loadv, loadn, loadnm, load1, load1m, hget, ↓reduceIte, Nat.reduceEqDiff, Nat.reduceAdd, Nat.reduceMul, Nat.reduceLeDiff, Nat.reduceLT, reduceCtorEq, TFTxY]); (try simp [resA, Fn, look]))
theorem cutp_no (zs : List Int) (hb : By zs) (h : zs.take 1 ≠ [34]) : ACt Tryd.prog 28 [stz zs, qmS] [] (Fn (.tup [stz zs, bv false])) := by
  have cH := cutp2_no zs hb h
  refine ACt.intro Tryd.func28 rfl (by kernel_rfl) (by simp [Tryd.ntmps28]) (fun cx => ?_)
  simp only [argE, Tryd.ntmps28, Tryd.results28]
  first | (have FRx := FR; clear FRx) | (have FR : Sm (¬ ((1 : Nat) = 0)) := Sm.mk Nat.one_ne_zero)
  repeat' first
    | (refine Sm.mk ?_; try simp -dsimp only [ZK, rvc, drawF, headN, pureH, stp, dvc, calleeOf, gcall, pev, eff, newB, okd, og, ogs, ogo, ogp, slv, bltv, opd, litv, strip, one, both, putE, St.put, look, gdOf, gdv, picka, pickv, pickw, binv, bini, bins, binb, binp, binq, isSlT, bina, shp, eqCells, unv, convv, nilv, faddv, addp, idxav, idxp, load1, load1m, loadn, loadnm, loadv, hget, hset, hrep, hdel, slicev, bnd, shift1, lenv, capv, IntKind.bits, extractv, fieldv, indexv, min2v, max2v, mkiv, cellsA, fillA, buildv, stC, oneC, rowMB, intsA, plN, appE, appZ, appC, appNZ, appNC, VwL, srcC, srcZ, srcM, isBoolT, isPtrT, isSliceT, uOk, Value.oneCell', Nat.reducePow, Int.reducePow, Nat.reduceAdd, Nat.reduceMul, Nat.reduceSub, Nat.reduceLT, Nat.reduceLeDiff, Nat.reduceEqDiff, Nat.reduceBEq, Nat.reduceDiv, Nat.reduceMod, ↓reduceIte, reduceCtorEq, Int.reduceToNat, Int.reduceLT, Int.reduceLE, TFTxY, SeqQ, BlkQ, LoopQ, BodyQ, FR.out])
    | (first | refine CallV.fn (cH) (Sm.out ?_) | refine ExF.mk (cH) (Sm.out ?_) | refine ExG.mk (fun _ => cH) (Sm.out ?_) | refine ExG.mkJ (fun _ => cH) (Sm.out ?_) | refine ExG.mkI (Ob.out ?_) (fun _ => cH) (Sm.out ?_))
    | (refine WP.seq fun K hK => ?_)
    | (refine WP.region (rvc_sound _ _ (Sm.out ?_)))
    | (refine WP.drawK rfl mixed (by decide +kernel) (Sm.out ?_))
    | (refine Ob.mk ?_; focus (first | assumption | omega | decide | trivial | (intro hob; simp only [hob, ZF]; done) | (intros; (repeat' refine And.intro ?_ ?_) <;> first | assumption | omega | trivial | decide) | (intros; simp only [ZE] at *; (repeat' refine And.intro ?_ ?_) <;> first | assumption | omega | trivial)))
    | (refine And.intro (Ob.out ?_) ?_)
    | (refine WP.block ?_)
    | (refine WP.cond rfl (fun hc => ?_) (fun hc => ?_) <;> (try simp only [ZC, reduceCtorEq, ZD] at hc) <;> (try (exact absurd hc (by decide))) <;> (try (exfalso; omega)))
    | ((first | refine WP.skip ?_ | refine WP.exit ?_); simp only [SeqQ, BlkQ, LoopQ, BodyQ, ↓reduceIte, Nat.reduceEqDiff, reduceCtorEq, look, true_and])
    | (refine WP.ret (Sm.out ?_))
    | (first | refine ExG.no (Sm.out ?_) | refine Or.inl (ExG.no (Sm.out ?_)) | refine Or.inl (And.intro (fun hg => absurd hg (by decide)) (ExG.no (Sm.out ?_))))
    | (refine Rt.mk ?_; refine And.intro ?_ ?_ <;> (intro hg; first | exact absurd hg (by decide) | refine Sm.out ?_))
    | (refine Nu.mk ?_; first | (fail_if_success (have := nb1)); intro nb1 | (fail_if_success (have := nb2)); intro nb2 | (fail_if_success (have := nb3)); intro nb3 | (fail_if_success (have := nb4)); intro nb4 | intro nbz)
    | (refine Fr.mk ?_; intro hfr; (first | (have hFRb : _ ≤ _ ∧ _ ≤ _ := And.intro hfr.1 hfr.2.1) | (have hFRb : _ ≤ _ := hfr.1) | skip); replace FR := Sm.mk (And.intro hfr FR.out); clear hfr; refine Sm.out ?_)
    | (refine Two.mk ?_ ?_)
    | (refine Cs.mk ?_; intro hcs; first | exact False.elim hcs | (exfalso; omega) | (refine Sm.out ?_))
    | go_step
    | omega
    | (simp only [maxLen_eq]; omega)
  (refine OutQ.all ?_ ?_; (focus (simp only [resv, ZK, look, loadv, loadn, loadnm, load1, load1m, hget, ↓reduceIte, Nat.reduceEqDiff, Nat.reduceAdd, Nat.reduceMul, Nat.reduceLeDiff, Nat.reduceLT, reduceCtorEq, TFTxY])); (try simp only [resv, resA, Fn, ZK, look, loadv, loadn, loadnm, load1, load1m, hget, ↓reduceIte, Nat.reduceEqDiff, Nat.reduceAdd, Nat.reduceMul, Nat.reduceLeDiff, Nat.reduceLT, reduceCtorEq, TFTxY]); (try simp [resA, Fn, look]))
end Go.Proofs.YtjdjpgjjnajjhaaDoor
