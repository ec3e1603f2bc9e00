/-
  The walks and the laws that the statement leans on, part 10.
-/
import Derived.Test.YtjdjpgjjnajjhaaDoorZ9
namespace Go.Proofs.YtjdjpgjjnajjhaaDoor
open Go
set_option linter.unusedVariables false
set_option linter.unusedSimpArgs false
theorem TFTxV : ((((((type_of% tyc0) ∧ (type_of% tyc3)) ∧ ((type_of% zmb3) ∧ ((type_of% tyc4) ∧ (type_of% zmb4)))) ∧ (((type_of% tyc21) ∧ (type_of% zmb21)) ∧ ((type_of% tyc38) ∧ ((type_of% foff38_0) ∧ (type_of% fpart38_0))))) ∧ ((((type_of% foff38_1) ∧ (type_of% fpart38_1)) ∧ ((type_of% zmb38) ∧ ((type_of% bldT38) ∧ (type_of% tyc41)))) ∧ (((type_of% tyc48) ∧ ((type_of% mth48_38) ∧ (type_of% mth48_29))) ∧ ((type_of% mth48_39) ∧ ((type_of% con48) ∧ (type_of% zmb48)))))) ∧ (((((type_of% tyc50) ∧ (type_of% foff50_0)) ∧ ((type_of% fpart50_0) ∧ ((type_of% foff50_1) ∧ (type_of% fpart50_1)))) ∧ (((type_of% foff50_2) ∧ ((type_of% fpart50_2) ∧ (type_of% foff50_3))) ∧ ((type_of% fpart50_3) ∧ ((type_of% zmb50) ∧ (type_of% bldT50))))) ∧ ((((type_of% tyc57) ∧ (type_of% zmb57)) ∧ ((type_of% Tryd.underlying0) ∧ ((type_of% Tryd.underlying3) ∧ (type_of% Tryd.underlying4)))) ∧ (((type_of% Tryd.underlying21) ∧ ((type_of% Tryd.underlying38) ∧ (type_of% Tryd.underlying41))) ∧ ((type_of% Tryd.underlying48) ∧ ((type_of% Tryd.underlying50) ∧ (type_of% Tryd.underlying57))))))) :=
  ⟨⟨⟨⟨⟨tyc0, tyc3⟩, ⟨zmb3, ⟨tyc4, zmb4⟩⟩⟩, ⟨⟨tyc21, zmb21⟩, ⟨tyc38, ⟨foff38_0, fpart38_0⟩⟩⟩⟩, ⟨⟨⟨foff38_1, fpart38_1⟩, ⟨zmb38, ⟨bldT38, tyc41⟩⟩⟩, ⟨⟨tyc48, ⟨mth48_38, mth48_29⟩⟩, ⟨mth48_39, ⟨con48, zmb48⟩⟩⟩⟩⟩, ⟨⟨⟨⟨tyc50, foff50_0⟩, ⟨fpart50_0, ⟨foff50_1, fpart50_1⟩⟩⟩, ⟨⟨foff50_2, ⟨fpart50_2, foff50_3⟩⟩, ⟨fpart50_3, ⟨zmb50, bldT50⟩⟩⟩⟩, ⟨⟨⟨tyc57, zmb57⟩, ⟨Tryd.underlying0, ⟨Tryd.underlying3, Tryd.underlying4⟩⟩⟩, ⟨⟨Tryd.underlying21, ⟨Tryd.underlying38, Tryd.underlying41⟩⟩, ⟨Tryd.underlying48, ⟨Tryd.underlying50, Tryd.underlying57⟩⟩⟩⟩⟩⟩
def hexV (r : Int) : Int := if 48 ≤ r ∧ r ≤ 57 then r - 48 else if 97 ≤ r ∧ r ≤ 102 then r - 87 else -1
theorem hexV_bd (r : Int) : -1 ≤ hexV r ∧ hexV r ≤ 15 := by unfold hexV; (repeat' split) <;> omega
theorem hexv_ct (r : Int) : ACt Tryd.prog 44 [iv .i32 r] [] (Fn (iv .i32 (hexV r))) := by
  have cD := digit_ct r
  by_cases h1 : 48 ≤ r ∧ r ≤ 57
  · have e : hexV r = r - 48 := by unfold hexV; rw [if_pos h1]
    have d : digB r = true := decide_eq_true h1
    rw [d] at cD
    have w : IntKind.i32.wrap (r - 48) = r - 48 := wrap_i32 (by omega) (by omega)
    rw [e]
    refine ACt.intro Tryd.func44 rfl (by kernel_rfl) (by simp [Tryd.ntmps44]) (fun cx => ?_)
    simp only [argE, Tryd.ntmps44, Tryd.results44]
    first | (have FRx := FR; clear FRx) | (have FR : Sm (¬ ((1 : Nat) = 0)) := Sm.mk Nat.one_ne_zero)
    repeat' first
      | (refine Sm.mk ?_; try simp -dsimp only [ZK, rvc, drawF, headN, pureH, stp, dvc, calleeOf, gcall, pev, eff, newB, okd, og, ogs, ogo, ogp, slv, bltv, opd, litv, strip, one, both, putE, St.put, look, gdOf, gdv, picka, pickv, pickw, binv, bini, bins, binb, binp, binq, isSlT, bina, shp, eqCells, unv, convv, nilv, faddv, addp, idxav, idxp, load1, load1m, loadn, loadnm, loadv, hget, hset, hrep, hdel, slicev, bnd, shift1, lenv, capv, IntKind.bits, extractv, fieldv, indexv, min2v, max2v, mkiv, cellsA, fillA, buildv, stC, oneC, rowMB, intsA, plN, appE, appZ, appC, appNZ, appNC, VwL, srcC, srcZ, srcM, isBoolT, isPtrT, isSliceT, uOk, Value.oneCell', Nat.reducePow, Int.reducePow, Nat.reduceAdd, Nat.reduceMul, Nat.reduceSub, Nat.reduceLT, Nat.reduceLeDiff, Nat.reduceEqDiff, Nat.reduceBEq, Nat.reduceDiv, Nat.reduceMod, ↓reduceIte, reduceCtorEq, Int.reduceToNat, Int.reduceLT, Int.reduceLE, drawCF, xvc, xst, splitH, calleeV, putE, hdel, TFTxV, SeqQ, BlkQ, LoopQ, BodyQ, w, FR.out])
      | (first | refine CallV.fn (cD) (Sm.out ?_) | refine ExF.mk (cD) (Sm.out ?_) | refine ExG.mk (fun _ => cD) (Sm.out ?_) | refine ExG.mkJ (fun _ => cD) (Sm.out ?_) | refine ExG.mkI (Ob.out ?_) (fun _ => cD) (Sm.out ?_))
      | (refine WP.seq fun K hK => ?_)
      | (refine WP.region (rvc_sound _ _ (Sm.out ?_)))
      | ((show WP _ _ _ (.region 7 _ _) _ _); refine WP.drawKk 7 mixed (by decide +kernel) (Sm.out ?_))
      | (refine WP.drawC (c := 19) (ws := [16]) (ls := [5, 12]) (bs := [b]) mixed (by decide +kernel) (by decide +kernel) (by decide +kernel) (Sm.out ?_))
      | (refine WP.drawK rfl mixed (by decide +kernel) (Sm.out ?_))
      | (refine Ob.mk ?_; focus (first | assumption | omega | decide | trivial | (intro hob; simp only [hob, ZF]; done) | (intros; (repeat' refine And.intro ?_ ?_) <;> first | assumption | omega | trivial | decide) | (intros; simp only [ZE] at *; (repeat' refine And.intro ?_ ?_) <;> first | assumption | omega | trivial)))
      | (refine And.intro (Ob.out ?_) ?_)
      | (refine WP.block ?_)
      | (refine WP.cond rfl (fun hc => ?_) (fun hc => ?_) <;> (try simp only [ZC, reduceCtorEq, ZD] at hc) <;> (try (exact absurd hc (by decide))) <;> (try (exfalso; omega)))
      | ((first | refine WP.skip ?_ | refine WP.exit ?_); simp only [SeqQ, BlkQ, LoopQ, BodyQ, ↓reduceIte, Nat.reduceEqDiff, reduceCtorEq, look, true_and])
      | (refine WP.ret (Sm.out ?_))
      | (first | refine ExG.no (Sm.out ?_) | refine Or.inl (ExG.no (Sm.out ?_)) | refine Or.inl (And.intro (fun hg => absurd hg (by decide)) (ExG.no (Sm.out ?_))))
      | (refine Rt.mk ?_; refine And.intro ?_ ?_ <;> (intro hg; first | exact absurd hg (by decide) | refine Sm.out ?_))
      | (refine Nu.mk ?_; first | (fail_if_success (have := nb1)); intro nb1 | (fail_if_success (have := nb2)); intro nb2 | (fail_if_success (have := nb3)); intro nb3 | (fail_if_success (have := nb4)); intro nb4 | intro nbz)
      | (refine Fr.mk ?_; intro hfr; (first | (have hFRb : _ ≤ _ ∧ _ ≤ _ := And.intro hfr.1 hfr.2.1) | (have hFRb : _ ≤ _ := hfr.1) | skip); replace FR := Sm.mk (And.intro hfr FR.out); clear hfr; refine Sm.out ?_)
      | (refine Two.mk ?_ ?_)
      | (refine Cs.mk ?_; intro hcs; first | exact False.elim hcs | (exfalso; omega) | (refine Sm.out ?_))
      | go_step
      | omega
      | (simp only [maxLen_eq]; omega)
    (refine OutQ.all ?_ ?_; (focus (simp only [resv, ZK, look, loadv, loadn, loadnm, load1, load1m, hget, ↓reduceIte, Nat.reduceEqDiff, Nat.reduceAdd, Nat.reduceMul, Nat.reduceLeDiff, Nat.reduceLT, reduceCtorEq, TFTxV, w])); (try simp only [resv, resA, Fn, ZK, look, loadv, loadn, loadnm, load1, load1m, hget, ↓reduceIte, Nat.reduceEqDiff, Nat.reduceAdd, Nat.reduceMul, Nat.reduceLeDiff, Nat.reduceLT, reduceCtorEq, TFTxV, w]); (try simp [resA, Fn, look, w]))
  have d : digB r = false := decide_eq_false h1
  rw [d] at cD
  by_cases h2 : 97 ≤ r ∧ r ≤ 102
  · have e : hexV r = r - 87 := by unfold hexV; rw [if_neg h1, if_pos h2]
    have w : IntKind.i32.wrap (r - 97) = r - 97 := wrap_i32 (by omega) (by omega)
    have w2 : IntKind.i32.wrap (r - 97 + 10) = r - 87 := by rw [wrap_i32 (by omega) (by omega)]; omega
    have k1 : decide (r ≥ 97) = true := decide_eq_true h2.1
    have k2 : decide (r ≤ 102) = true := decide_eq_true h2.2
    rw [e]
    refine ACt.intro Tryd.func44 rfl (by kernel_rfl) (by simp [Tryd.ntmps44]) (fun cx => ?_)
    simp only [argE, Tryd.ntmps44, Tryd.results44]
    first | (have FRx := FR; clear FRx) | (have FR : Sm (¬ ((1 : Nat) = 0)) := Sm.mk Nat.one_ne_zero)
    repeat' first
      | (refine Sm.mk ?_; try simp -dsimp only [ZK, rvc, drawF, headN, pureH, stp, dvc, calleeOf, gcall, pev, eff, newB, okd, og, ogs, ogo, ogp, slv, bltv, opd, litv, strip, one, both, putE, St.put, look, gdOf, gdv, picka, pickv, pickw, binv, bini, bins, binb, binp, binq, isSlT, bina, shp, eqCells, unv, convv, nilv, faddv, addp, idxav, idxp, load1, load1m, loadn, loadnm, loadv, hget, hset, hrep, hdel, slicev, bnd, shift1, lenv, capv, IntKind.bits, extractv, fieldv, indexv, min2v, max2v, mkiv, cellsA, fillA, buildv, stC, oneC, rowMB, intsA, plN, appE, appZ, appC, appNZ, appNC, VwL, srcC, srcZ, srcM, isBoolT, isPtrT, isSliceT, uOk, Value.oneCell', Nat.reducePow, Int.reducePow, Nat.reduceAdd, Nat.reduceMul, Nat.reduceSub, Nat.reduceLT, Nat.reduceLeDiff, Nat.reduceEqDiff, Nat.reduceBEq, Nat.reduceDiv, Nat.reduceMod, ↓reduceIte, reduceCtorEq, Int.reduceToNat, Int.reduceLT, Int.reduceLE, drawCF, xvc, xst, splitH, calleeV, putE, hdel, TFTxV, SeqQ, BlkQ, LoopQ, BodyQ, w, w2, k1, k2, FR.out])
      | (first | refine CallV.fn (cD) (Sm.out ?_) | refine ExF.mk (cD) (Sm.out ?_) | refine ExG.mk (fun _ => cD) (Sm.out ?_) | refine ExG.mkJ (fun _ => cD) (Sm.out ?_) | refine ExG.mkI (Ob.out ?_) (fun _ => cD) (Sm.out ?_))
      | (refine WP.seq fun K hK => ?_)
      | (refine WP.region (rvc_sound _ _ (Sm.out ?_)))
      | ((show WP _ _ _ (.region 7 _ _) _ _); refine WP.drawKk 7 mixed (by decide +kernel) (Sm.out ?_))
      | (refine WP.drawC (c := 19) (ws := [16]) (ls := [5, 12]) (bs := [b]) mixed (by decide +kernel) (by decide +kernel) (by decide +kernel) (Sm.out ?_))
      | (refine WP.drawK rfl mixed (by decide +kernel) (Sm.out ?_))
      | (refine Ob.mk ?_; focus (first | assumption | omega | decide | trivial | (intro hob; simp only [hob, ZF]; done) | (intros; (repeat' refine And.intro ?_ ?_) <;> first | assumption | omega | trivial | decide) | (intros; simp only [ZE] at *; (repeat' refine And.intro ?_ ?_) <;> first | assumption | omega | trivial)))
      | (refine And.intro (Ob.out ?_) ?_)
      | (refine WP.block ?_)
      | (refine WP.cond rfl (fun hc => ?_) (fun hc => ?_) <;> (try simp only [ZC, reduceCtorEq, ZD] at hc) <;> (try (exact absurd hc (by decide))) <;> (try (exfalso; omega)))
      | ((first | refine WP.skip ?_ | refine WP.exit ?_); simp only [SeqQ, BlkQ, LoopQ, BodyQ, ↓reduceIte, Nat.reduceEqDiff, reduceCtorEq, look, true_and])
      | (refine WP.ret (Sm.out ?_))
      | (first | refine ExG.no (Sm.out ?_) | refine Or.inl (ExG.no (Sm.out ?_)) | refine Or.inl (And.intro (fun hg => absurd hg (by decide)) (ExG.no (Sm.out ?_))))
      | (refine Rt.mk ?_; refine And.intro ?_ ?_ <;> (intro hg; first | exact absurd hg (by decide) | refine Sm.out ?_))
      | (refine Nu.mk ?_; first | (fail_if_success (have := nb1)); intro nb1 | (fail_if_success (have := nb2)); intro nb2 | (fail_if_success (have := nb3)); intro nb3 | (fail_if_success (have := nb4)); intro nb4 | intro nbz)
      | (refine Fr.mk ?_; intro hfr; (first | (have hFRb : _ ≤ _ ∧ _ ≤ _ := And.intro hfr.1 hfr.2.1) | (have hFRb : _ ≤ _ := hfr.1) | skip); replace FR := Sm.mk (And.intro hfr FR.out); clear hfr; refine Sm.out ?_)
      | (refine Two.mk ?_ ?_)
      | (refine Cs.mk ?_; intro hcs; first | exact False.elim hcs | (exfalso; omega) | (refine Sm.out ?_))
      | go_step
      | omega
      | (simp only [maxLen_eq]; omega)
    (refine OutQ.all ?_ ?_; (focus (simp only [resv, ZK, look, loadv, loadn, loadnm, load1, load1m, hget, ↓reduceIte, Nat.reduceEqDiff, Nat.reduceAdd, Nat.reduceMul, Nat.reduceLeDiff, Nat.reduceLT, reduceCtorEq, TFTxV, w2])); (try simp only [resv, resA, Fn, ZK, look, loadv, loadn, loadnm, load1, load1m, hget, ↓reduceIte, Nat.reduceEqDiff, Nat.reduceAdd, Nat.reduceMul, Nat.reduceLeDiff, Nat.reduceLT, reduceCtorEq, TFTxV, w2]); (try simp [resA, Fn, look, w2]))
  have e : hexV r = -1 := by unfold hexV; rw [if_neg h1, if_neg h2]
  rw [e]
  by_cases h3 : r ≥ 97
  · have k1 : decide (r ≥ 97) = true := decide_eq_true h3
    have k2 : decide (r ≤ 102) = false := decide_eq_false fun h => h2 ⟨h3, h⟩
    refine ACt.intro Tryd.func44 rfl (by kernel_rfl) (by simp [Tryd.ntmps44]) (fun cx => ?_)
    simp only [argE, Tryd.ntmps44, Tryd.results44]
    first | (have FRx := FR; clear FRx) | (have FR : Sm (¬ ((1 : Nat) = 0)) := Sm.mk Nat.one_ne_zero)
    repeat' first
      | (refine Sm.mk ?_; try simp -dsimp only [ZK, rvc, drawF, headN, pureH, stp, dvc, calleeOf, gcall, pev, eff, newB, okd, og, ogs, ogo, ogp, slv, bltv, opd, litv, strip, one, both, putE, St.put, look, gdOf, gdv, picka, pickv, pickw, binv, bini, bins, binb, binp, binq, isSlT, bina, shp, eqCells, unv, convv, nilv, faddv, addp, idxav, idxp, load1, load1m, loadn, loadnm, loadv, hget, hset, hrep, hdel, slicev, bnd, shift1, lenv, capv, IntKind.bits, extractv, fieldv, indexv, min2v, max2v, mkiv, cellsA, fillA, buildv, stC, oneC, rowMB, intsA, plN, appE, appZ, appC, appNZ, appNC, VwL, srcC, srcZ, srcM, isBoolT, isPtrT, isSliceT, uOk, Value.oneCell', Nat.reducePow, Int.reducePow, Nat.reduceAdd, Nat.reduceMul, Nat.reduceSub, Nat.reduceLT, Nat.reduceLeDiff, Nat.reduceEqDiff, Nat.reduceBEq, Nat.reduceDiv, Nat.reduceMod, ↓reduceIte, reduceCtorEq, Int.reduceToNat, Int.reduceLT, Int.reduceLE, drawCF, xvc, xst, splitH, calleeV, putE, hdel, TFTxV, SeqQ, BlkQ, LoopQ, BodyQ, k1, k2, FR.out])
      | (first | refine CallV.fn (cD) (Sm.out ?_) | refine ExF.mk (cD) (Sm.out ?_) | refine ExG.mk (fun _ => cD) (Sm.out ?_) | refine ExG.mkJ (fun _ => cD) (Sm.out ?_) | refine ExG.mkI (Ob.out ?_) (fun _ => cD) (Sm.out ?_))
      | (refine WP.seq fun K hK => ?_)
      | (refine WP.region (rvc_sound _ _ (Sm.out ?_)))
      | ((show WP _ _ _ (.region 7 _ _) _ _); refine WP.drawKk 7 mixed (by decide +kernel) (Sm.out ?_))
      | (refine WP.drawC (c := 19) (ws := [16]) (ls := [5, 12]) (bs := [b]) mixed (by decide +kernel) (by decide +kernel) (by decide +kernel) (Sm.out ?_))
      | (refine WP.drawK rfl mixed (by decide +kernel) (Sm.out ?_))
      | (refine Ob.mk ?_; focus (first | assumption | omega | decide | trivial | (intro hob; simp only [hob, ZF]; done) | (intros; (repeat' refine And.intro ?_ ?_) <;> first | assumption | omega | trivial | decide) | (intros; simp only [ZE] at *; (repeat' refine And.intro ?_ ?_) <;> first | assumption | omega | trivial)))
      | (refine And.intro (Ob.out ?_) ?_)
      | (refine WP.block ?_)
      | (refine WP.cond rfl (fun hc => ?_) (fun hc => ?_) <;> (try simp only [ZC, reduceCtorEq, ZD] at hc) <;> (try (exact absurd hc (by decide))) <;> (try (exfalso; omega)))
      | ((first | refine WP.skip ?_ | refine WP.exit ?_); simp only [SeqQ, BlkQ, LoopQ, BodyQ, ↓reduceIte, Nat.reduceEqDiff, reduceCtorEq, look, true_and])
      | (refine WP.ret (Sm.out ?_))
      | (first | refine ExG.no (Sm.out ?_) | refine Or.inl (ExG.no (Sm.out ?_)) | refine Or.inl (And.intro (fun hg => absurd hg (by decide)) (ExG.no (Sm.out ?_))))
      | (refine Rt.mk ?_; refine And.intro ?_ ?_ <;> (intro hg; first | exact absurd hg (by decide) | refine Sm.out ?_))
      | (refine Nu.mk ?_; first | (fail_if_success (have := nb1)); intro nb1 | (fail_if_success (have := nb2)); intro nb2 | (fail_if_success (have := nb3)); intro nb3 | (fail_if_success (have := nb4)); intro nb4 | intro nbz)
      | (refine Fr.mk ?_; intro hfr; (first | (have hFRb : _ ≤ _ ∧ _ ≤ _ := And.intro hfr.1 hfr.2.1) | (have hFRb : _ ≤ _ := hfr.1) | skip); replace FR := Sm.mk (And.intro hfr FR.out); clear hfr; refine Sm.out ?_)
      | (refine Two.mk ?_ ?_)
      | (refine Cs.mk ?_; intro hcs; first | exact False.elim hcs | (exfalso; omega) | (refine Sm.out ?_))
      | go_step
      | omega
      | (simp only [maxLen_eq]; omega)
    (refine OutQ.all ?_ ?_; (focus (simp only [resv, ZK, look, loadv, loadn, loadnm, load1, load1m, hget, ↓reduceIte, Nat.reduceEqDiff, Nat.reduceAdd, Nat.reduceMul, Nat.reduceLeDiff, Nat.reduceLT, reduceCtorEq, TFTxV])); (try simp only [resv, resA, Fn, ZK, look, loadv, loadn, loadnm, load1, load1m, hget, ↓reduceIte, Nat.reduceEqDiff, Nat.reduceAdd, Nat.reduceMul, Nat.reduceLeDiff, Nat.reduceLT, reduceCtorEq, TFTxV]); (try simp [resA, Fn, look]))
  · have k1 : decide (r ≥ 97) = false := decide_eq_false h3
    refine ACt.intro Tryd.func44 rfl (by kernel_rfl) (by simp [Tryd.ntmps44]) (fun cx => ?_)
    simp only [argE, Tryd.ntmps44, Tryd.results44]
    first | (have FRx := FR; clear FRx) | (have FR : Sm (¬ ((1 : Nat) = 0)) := Sm.mk Nat.one_ne_zero)
    repeat' first
      | (refine Sm.mk ?_; try simp -dsimp only [ZK, rvc, drawF, headN, pureH, stp, dvc, calleeOf, gcall, pev, eff, newB, okd, og, ogs, ogo, ogp, slv, bltv, opd, litv, strip, one, both, putE, St.put, look, gdOf, gdv, picka, pickv, pickw, binv, bini, bins, binb, binp, binq, isSlT, bina, shp, eqCells, unv, convv, nilv, faddv, addp, idxav, idxp, load1, load1m, loadn, loadnm, loadv, hget, hset, hrep, hdel, slicev, bnd, shift1, lenv, capv, IntKind.bits, extractv, fieldv, indexv, min2v, max2v, mkiv, cellsA, fillA, buildv, stC, oneC, rowMB, intsA, plN, appE, appZ, appC, appNZ, appNC, VwL, srcC, srcZ, srcM, isBoolT, isPtrT, isSliceT, uOk, Value.oneCell', Nat.reducePow, Int.reducePow, Nat.reduceAdd, Nat.reduceMul, Nat.reduceSub, Nat.reduceLT, Nat.reduceLeDiff, Nat.reduceEqDiff, Nat.reduceBEq, Nat.reduceDiv, Nat.reduceMod, ↓reduceIte, reduceCtorEq, Int.reduceToNat, Int.reduceLT, Int.reduceLE, drawCF, xvc, xst, splitH, calleeV, putE, hdel, TFTxV, SeqQ, BlkQ, LoopQ, BodyQ, k1, FR.out])
      | (first | refine CallV.fn (cD) (Sm.out ?_) | refine ExF.mk (cD) (Sm.out ?_) | refine ExG.mk (fun _ => cD) (Sm.out ?_) | refine ExG.mkJ (fun _ => cD) (Sm.out ?_) | refine ExG.mkI (Ob.out ?_) (fun _ => cD) (Sm.out ?_))
      | (refine WP.seq fun K hK => ?_)
      | (refine WP.region (rvc_sound _ _ (Sm.out ?_)))
      | ((show WP _ _ _ (.region 7 _ _) _ _); refine WP.drawKk 7 mixed (by decide +kernel) (Sm.out ?_))
      | (refine WP.drawC (c := 19) (ws := [16]) (ls := [5, 12]) (bs := [b]) mixed (by decide +kernel) (by decide +kernel) (by decide +kernel) (Sm.out ?_))
      | (refine WP.drawK rfl mixed (by decide +kernel) (Sm.out ?_))
      | (refine Ob.mk ?_; focus (first | assumption | omega | decide | trivial | (intro hob; simp only [hob, ZF]; done) | (intros; (repeat' refine And.intro ?_ ?_) <;> first | assumption | omega | trivial | decide) | (intros; simp only [ZE] at *; (repeat' refine And.intro ?_ ?_) <;> first | assumption | omega | trivial)))
      | (refine And.intro (Ob.out ?_) ?_)
      | (refine WP.block ?_)
      | (refine WP.cond rfl (fun hc => ?_) (fun hc => ?_) <;> (try simp only [ZC, reduceCtorEq, ZD] at hc) <;> (try (exact absurd hc (by decide))) <;> (try (exfalso; omega)))
      | ((first | refine WP.skip ?_ | refine WP.exit ?_); simp only [SeqQ, BlkQ, LoopQ, BodyQ, ↓reduceIte, Nat.reduceEqDiff, reduceCtorEq, look, true_and])
      | (refine WP.ret (Sm.out ?_))
      | (first | refine ExG.no (Sm.out ?_) | refine Or.inl (ExG.no (Sm.out ?_)) | refine Or.inl (And.intro (fun hg => absurd hg (by decide)) (ExG.no (Sm.out ?_))))
      | (refine Rt.mk ?_; refine And.intro ?_ ?_ <;> (intro hg; first | exact absurd hg (by decide) | refine Sm.out ?_))
      | (refine Nu.mk ?_; first | (fail_if_success (have := nb1)); intro nb1 | (fail_if_success (have := nb2)); intro nb2 | (fail_if_success (have := nb3)); intro nb3 | (fail_if_success (have := nb4)); intro nb4 | intro nbz)
      | (refine Fr.mk ?_; intro hfr; (first | (have hFRb : _ ≤ _ ∧ _ ≤ _ := And.intro hfr.1 hfr.2.1) | (have hFRb : _ ≤ _ := hfr.1) | skip); replace FR := Sm.mk (And.intro hfr FR.out); clear hfr; refine Sm.out ?_)
      | (refine Two.mk ?_ ?_)
      | (refine Cs.mk ?_; intro hcs; first | exact False.elim hcs | (exfalso; omega) | (refine Sm.out ?_))
      | go_step
      | omega
      | (simp only [maxLen_eq]; omega)
    (refine OutQ.all ?_ ?_; (focus (simp only [resv, ZK, look, loadv, loadn, loadnm, load1, load1m, hget, ↓reduceIte, Nat.reduceEqDiff, Nat.reduceAdd, Nat.reduceMul, Nat.reduceLeDiff, Nat.reduceLT, reduceCtorEq, TFTxV])); (try simp only [resv, resA, Fn, ZK, look, loadv, loadn, loadnm, load1, load1m, hget, ↓reduceIte, Nat.reduceEqDiff, Nat.reduceAdd, Nat.reduceMul, Nat.reduceLeDiff, Nat.reduceLT, reduceCtorEq, TFTxV]); (try simp [resA, Fn, look]))
open Classical in
noncomputable def grB (r : Int) : Bool := decide (Gr r)
open Classical in
theorem grB_true {r : Int} (h : Gr r) : grB r = true := by unfold grB; exact decide_eq_true h
open Classical in
theorem grB_false {r : Int} (h : ¬ Gr r) : grB r = false := by unfold grB; exact decide_eq_false h
theorem vrune_ct (r : Int) : ACt Tryd.prog 45 [iv .i32 r] [] (Fn (bv (grB r))) := by
  have hc : ∃ a b c d e : Bool, decide (0 ≤ r) = a ∧ decide (r < 55296) = b ∧ decide (57343 < r) = c ∧ decide (r ≤ 1114111) = d ∧ grB r = e ∧ e = ((a && b) || (c && d)) := by
    refine ⟨_, _, _, _, _, rfl, rfl, rfl, rfl, rfl, ?_⟩
    by_cases h : Gr r
    · rw [grB_true h]
      obtain ⟨h1, h2, h3⟩ := h
      by_cases h4 : r < 55296
      · rw [decide_eq_true h1, decide_eq_true h4]; rfl
      · rw [decide_eq_true (show 57343 < r by omega), decide_eq_true h2]; simp
    · rw [grB_false h]
      symm
      by_cases h4 : r < 55296
      · rw [decide_eq_false (show ¬ 0 ≤ r from fun h1 => h ⟨h1, by omega, by omega⟩), decide_eq_false (show ¬ 57343 < r by omega)]; rfl
      · rw [decide_eq_false h4]
        by_cases h5 : r ≤ 1114111
        · rw [decide_eq_false (show ¬ 57343 < r from fun h6 => h ⟨by omega, h5, by omega⟩)]; simp
        · rw [decide_eq_false h5]; simp
  obtain ⟨a, b, c, d, e, k1, k2, k3, k4, k5, h⟩ := hc
  rw [k5]
  subst h
  cases a <;> cases b <;> cases c <;> cases d
  all_goals
    refine ACt.intro Tryd.func45 rfl (by kernel_rfl) (by simp [Tryd.ntmps45]) (fun cx => ?_)
    simp only [argE, Tryd.ntmps45, Tryd.results45]
  all_goals (
      first | (have FRx := FR; clear FRx) | (have FR : Sm (¬ ((1 : Nat) = 0)) := Sm.mk Nat.one_ne_zero)
      repeat' first
        | (refine Sm.mk ?_; try simp -dsimp only [ZK, rvc, drawF, headN, pureH, stp, dvc, calleeOf, gcall, pev, eff, newB, okd, og, ogs, ogo, ogp, slv, bltv, opd, litv, strip, one, both, putE, St.put, look, gdOf, gdv, picka, pickv, pickw, binv, bini, bins, binb, binp, binq, isSlT, bina, shp, eqCells, unv, convv, nilv, faddv, addp, idxav, idxp, load1, load1m, loadn, loadnm, loadv, hget, hset, hrep, hdel, slicev, bnd, shift1, lenv, capv, IntKind.bits, extractv, fieldv, indexv, min2v, max2v, mkiv, cellsA, fillA, buildv, stC, oneC, rowMB, intsA, plN, appE, appZ, appC, appNZ, appNC, VwL, srcC, srcZ, srcM, isBoolT, isPtrT, isSliceT, uOk, Value.oneCell', Nat.reducePow, Int.reducePow, Nat.reduceAdd, Nat.reduceMul, Nat.reduceSub, Nat.reduceLT, Nat.reduceLeDiff, Nat.reduceEqDiff, Nat.reduceBEq, Nat.reduceDiv, Nat.reduceMod, ↓reduceIte, reduceCtorEq, Int.reduceToNat, Int.reduceLT, Int.reduceLE, drawCF, xvc, xst, splitH, calleeV, putE, hdel, TFTxV, SeqQ, BlkQ, LoopQ, BodyQ, k1, k2, k3, k4, FR.out])
        | (refine WP.seq fun K hK => ?_)
        | (refine WP.region (rvc_sound _ _ (Sm.out ?_)))
        | ((show WP _ _ _ (.region 7 _ _) _ _); refine WP.drawKk 7 mixed (by decide +kernel) (Sm.out ?_))
        | (refine WP.drawC (c := 19) (ws := [16]) (ls := [5, 12]) (bs := [b]) mixed (by decide +kernel) (by decide +kernel) (by decide +kernel) (Sm.out ?_))
        | (refine WP.drawK rfl mixed (by decide +kernel) (Sm.out ?_))
        | (refine Ob.mk ?_; focus (first | assumption | omega | decide | trivial | (intro hob; simp only [hob, ZF]; done) | (intros; (repeat' refine And.intro ?_ ?_) <;> first | assumption | omega | trivial | decide) | (intros; simp only [ZE] at *; (repeat' refine And.intro ?_ ?_) <;> first | assumption | omega | trivial)))
        | (refine And.intro (Ob.out ?_) ?_)
        | (refine WP.block ?_)
        | (refine WP.cond rfl (fun hc => ?_) (fun hc => ?_) <;> (try simp only [ZC, reduceCtorEq, ZD] at hc) <;> (try (exact absurd hc (by decide))) <;> (try (exfalso; omega)))
        | ((first | refine WP.skip ?_ | refine WP.exit ?_); simp only [SeqQ, BlkQ, LoopQ, BodyQ, ↓reduceIte, Nat.reduceEqDiff, reduceCtorEq, look, true_and])
        | (refine WP.ret (Sm.out ?_))
        | (first | refine ExG.no (Sm.out ?_) | refine Or.inl (ExG.no (Sm.out ?_)) | refine Or.inl (And.intro (fun hg => absurd hg (by decide)) (ExG.no (Sm.out ?_))))
        | (refine Rt.mk ?_; refine And.intro ?_ ?_ <;> (intro hg; first | exact absurd hg (by decide) | refine Sm.out ?_))
        | (refine Nu.mk ?_; first | (fail_if_success (have := nb1)); intro nb1 | (fail_if_success (have := nb2)); intro nb2 | (fail_if_success (have := nb3)); intro nb3 | (fail_if_success (have := nb4)); intro nb4 | intro nbz)
        | (refine Fr.mk ?_; intro hfr; (first | (have hFRb : _ ≤ _ ∧ _ ≤ _ := And.intro hfr.1 hfr.2.1) | (have hFRb : _ ≤ _ := hfr.1) | skip); replace FR := Sm.mk (And.intro hfr FR.out); clear hfr; refine Sm.out ?_)
        | (refine Two.mk ?_ ?_)
        | (refine Cs.mk ?_; intro hcs; first | exact False.elim hcs | (exfalso; omega) | (refine Sm.out ?_))
        | go_step
        | omega
        | (simp only [maxLen_eq]; omega))
  all_goals (refine OutQ.all ?_ ?_; (focus (simp only [resv, ZK, look, loadv, loadn, loadnm, load1, load1m, hget, ↓reduceIte, Nat.reduceEqDiff, Nat.reduceAdd, Nat.reduceMul, Nat.reduceLeDiff, Nat.reduceLT, reduceCtorEq, TFTxV])); (try simp only [resv, resA, Fn, ZK, look, loadv, loadn, loadnm, load1, load1m, hget, ↓reduceIte, Nat.reduceEqDiff, Nat.reduceAdd, Nat.reduceMul, Nat.reduceLeDiff, Nat.reduceLT, reduceCtorEq, TFTxV]); (try simp [resA, Fn, look]))
theorem after_u (b : Nat) (A S : AV) (st nn ct : Int) : ACt Tryd.prog 38 [pt b 0, iv .i32 117] [(b, .cells [A, S, iv .i64 st, iv .i32 nn, iv .i64 ct] 5 50)] (fun r F' => r = bv true ∧ F' = [(b, .cells [A, S, iv .i64 2, iv .i32 nn, iv .i64 ct] 5 50)]) := by
  refine ACt.intro Tryd.func38 rfl (by kernel_rfl) (by simp [Tryd.ntmps38]) (fun cx => ?_)
  simp only [argE, Tryd.ntmps38, Tryd.results38]
  first | (have FRx := FR; clear FRx) | (have FR : Sm (¬ ((1 : Nat) = 0)) := Sm.mk Nat.one_ne_zero)
  repeat' first
    | (refine Sm.mk ?_; try simp -dsimp only [ZK, rvc, drawF, headN, pureH, stp, dvc, calleeOf, gcall, pev, eff, newB, okd, og, ogs, ogo, ogp, slv, bltv, opd, litv, strip, one, both, putE, St.put, look, gdOf, gdv, picka, pickv, pickw, binv, bini, bins, binb, binp, binq, isSlT, bina, shp, eqCells, unv, convv, nilv, faddv, addp, idxav, idxp, load1, load1m, loadn, loadnm, loadv, hget, hset, hrep, hdel, slicev, bnd, shift1, lenv, capv, IntKind.bits, extractv, fieldv, indexv, min2v, max2v, mkiv, cellsA, fillA, buildv, stC, oneC, rowMB, intsA, plN, appE, appZ, appC, appNZ, appNC, VwL, srcC, srcZ, srcM, isBoolT, isPtrT, isSliceT, uOk, Value.oneCell', Nat.reducePow, Int.reducePow, Nat.reduceAdd, Nat.reduceMul, Nat.reduceSub, Nat.reduceLT, Nat.reduceLeDiff, Nat.reduceEqDiff, Nat.reduceBEq, Nat.reduceDiv, Nat.reduceMod, ↓reduceIte, reduceCtorEq, Int.reduceToNat, Int.reduceLT, Int.reduceLE, drawCF, xvc, xst, splitH, calleeV, putE, hdel, TFTxV, SeqQ, BlkQ, LoopQ, BodyQ, FR.out])
    | (refine WP.seq fun K hK => ?_)
    | (refine WP.region (rvc_sound _ _ (Sm.out ?_)))
    | ((show WP _ _ _ (.region 7 _ _) _ _); refine WP.drawKk 7 mixed (by decide +kernel) (Sm.out ?_))
    | (refine WP.drawC (c := 19) (ws := [16]) (ls := [5, 12]) (bs := [b]) mixed (by decide +kernel) (by decide +kernel) (by decide +kernel) (Sm.out ?_))
    | (refine WP.drawK rfl mixed (by decide +kernel) (Sm.out ?_))
    | (refine Ob.mk ?_; focus (first | assumption | omega | decide | trivial | (intro hob; simp only [hob, ZF]; done) | (intros; (repeat' refine And.intro ?_ ?_) <;> first | assumption | omega | trivial | decide) | (intros; simp only [ZE] at *; (repeat' refine And.intro ?_ ?_) <;> first | assumption | omega | trivial)))
    | (refine And.intro (Ob.out ?_) ?_)
    | (refine WP.block ?_)
    | (refine WP.cond rfl (fun hc => ?_) (fun hc => ?_) <;> (try simp only [ZC, reduceCtorEq, ZD] at hc) <;> (try (exact absurd hc (by decide))) <;> (try (exfalso; omega)))
    | ((first | refine WP.skip ?_ | refine WP.exit ?_); simp only [SeqQ, BlkQ, LoopQ, BodyQ, ↓reduceIte, Nat.reduceEqDiff, reduceCtorEq, look, true_and])
    | (refine WP.ret (Sm.out ?_))
    | (first | refine ExG.no (Sm.out ?_) | refine Or.inl (ExG.no (Sm.out ?_)) | refine Or.inl (And.intro (fun hg => absurd hg (by decide)) (ExG.no (Sm.out ?_))))
    | (refine Rt.mk ?_; refine And.intro ?_ ?_ <;> (intro hg; first | exact absurd hg (by decide) | refine Sm.out ?_))
    | (refine Nu.mk ?_; first | (fail_if_success (have := nb1)); intro nb1 | (fail_if_success (have := nb2)); intro nb2 | (fail_if_success (have := nb3)); intro nb3 | (fail_if_success (have := nb4)); intro nb4 | intro nbz)
    | (refine Fr.mk ?_; intro hfr; (first | (have hFRb : _ ≤ _ ∧ _ ≤ _ := And.intro hfr.1 hfr.2.1) | (have hFRb : _ ≤ _ := hfr.1) | skip); replace FR := Sm.mk (And.intro hfr FR.out); clear hfr; refine Sm.out ?_)
    | (refine Two.mk ?_ ?_)
    | (refine Cs.mk ?_; intro hcs; first | exact False.elim hcs | (exfalso; omega) | (refine Sm.out ?_))
    | go_step
    | omega
    | (simp only [maxLen_eq]; omega)
  (refine OutQ.upd (by simp only [resv, ZK, look, loadv, loadn, loadnm, load1, load1m, hget, ↓reduceIte, Nat.reduceEqDiff, Nat.reduceAdd, Nat.reduceMul, Nat.reduceLeDiff, Nat.reduceLT, reduceCtorEq, TFTxV, FR.out]) (by simp only [resv, resA, ZK, look, loadv, loadn, loadnm, load1, load1m, hget, ↓reduceIte, Nat.reduceEqDiff, Nat.reduceAdd, Nat.reduceMul, Nat.reduceLeDiff, Nat.reduceLT, reduceCtorEq, TFTxV, FR.out]; first | done | rfl) (by simp only [hget, ↓reduceIte, if_true, if_false, FR.out]; first | done | rfl) ?_ <;> first | exact rfl | (simp only [ZK, look, loadv, loadn, loadnm, load1, load1m, hget, ↓reduceIte, Nat.reduceEqDiff, Nat.reduceAdd, Nat.reduceMul, Nat.reduceLeDiff, Nat.reduceLT, reduceCtorEq, TFTxV, FR.out]; done) | skip)
theorem after_no (b : Nat) (A S : AV) (st nn ct : Int) (r : Int) (h : r ≠ 34 ∧ r ≠ 92 ∧ r ≠ 110 ∧ r ≠ 116 ∧ r ≠ 117) : ACt Tryd.prog 38 [pt b 0, iv .i32 r] [(b, .cells [A, S, iv .i64 st, iv .i32 nn, iv .i64 ct] 5 50)] (fun r F' => r = bv false ∧ F' = [(b, .cells [A, S, iv .i64 0, iv .i32 nn, iv .i64 ct] 5 50)]) := by
  obtain ⟨h1, h2, h3, h4, h5⟩ := h
  have k1 : (r == 34) = false := beq_eq_false_iff_ne.2 h1
  have k2 : (r == 92) = false := beq_eq_false_iff_ne.2 h2
  have k3 : (r == 110) = false := beq_eq_false_iff_ne.2 h3
  have k4 : (r == 116) = false := beq_eq_false_iff_ne.2 h4
  have k5 : (r == 117) = false := beq_eq_false_iff_ne.2 h5
  refine ACt.intro Tryd.func38 rfl (by kernel_rfl) (by simp [Tryd.ntmps38]) (fun cx => ?_)
  simp only [argE, Tryd.ntmps38, Tryd.results38]
  first | (have FRx := FR; clear FRx) | (have FR : Sm (¬ ((1 : Nat) = 0)) := Sm.mk Nat.one_ne_zero)
  repeat' first
    | (refine Sm.mk ?_; try simp -dsimp only [ZK, rvc, drawF, headN, pureH, stp, dvc, calleeOf, gcall, pev, eff, newB, okd, og, ogs, ogo, ogp, slv, bltv, opd, litv, strip, one, both, putE, St.put, look, gdOf, gdv, picka, pickv, pickw, binv, bini, bins, binb, binp, binq, isSlT, bina, shp, eqCells, unv, convv, nilv, faddv, addp, idxav, idxp, load1, load1m, loadn, loadnm, loadv, hget, hset, hrep, hdel, slicev, bnd, shift1, lenv, capv, IntKind.bits, extractv, fieldv, indexv, min2v, max2v, mkiv, cellsA, fillA, buildv, stC, oneC, rowMB, intsA, plN, appE, appZ, appC, appNZ, appNC, VwL, srcC, srcZ, srcM, isBoolT, isPtrT, isSliceT, uOk, Value.oneCell', Nat.reducePow, Int.reducePow, Nat.reduceAdd, Nat.reduceMul, Nat.reduceSub, Nat.reduceLT, Nat.reduceLeDiff, Nat.reduceEqDiff, Nat.reduceBEq, Nat.reduceDiv, Nat.reduceMod, ↓reduceIte, reduceCtorEq, Int.reduceToNat, Int.reduceLT, Int.reduceLE, drawCF, xvc, xst, splitH, calleeV, putE, hdel, TFTxV, SeqQ, BlkQ, LoopQ, BodyQ, k1, k2, k3, k4, k5, FR.out])
    | (refine WP.seq fun K hK => ?_)
    | (refine WP.region (rvc_sound _ _ (Sm.out ?_)))
    | ((show WP _ _ _ (.region 7 _ _) _ _); refine WP.drawKk 7 mixed (by decide +kernel) (Sm.out ?_))
    | (refine WP.drawC (c := 19) (ws := [16]) (ls := [5, 12]) (bs := [b]) mixed (by decide +kernel) (by decide +kernel) (by decide +kernel) (Sm.out ?_))
    | (refine WP.drawK rfl mixed (by decide +kernel) (Sm.out ?_))
    | (refine Ob.mk ?_; focus (first | assumption | omega | decide | trivial | (intro hob; simp only [hob, ZF]; done) | (intros; (repeat' refine And.intro ?_ ?_) <;> first | assumption | omega | trivial | decide) | (intros; simp only [ZE] at *; (repeat' refine And.intro ?_ ?_) <;> first | assumption | omega | trivial)))
    | (refine And.intro (Ob.out ?_) ?_)
    | (refine WP.block ?_)
    | (refine WP.cond rfl (fun hc => ?_) (fun hc => ?_) <;> (try simp only [ZC, reduceCtorEq, ZD] at hc) <;> (try (exact absurd hc (by decide))) <;> (try (exfalso; omega)))
    | ((first | refine WP.skip ?_ | refine WP.exit ?_); simp only [SeqQ, BlkQ, LoopQ, BodyQ, ↓reduceIte, Nat.reduceEqDiff, reduceCtorEq, look, true_and])
    | (refine WP.ret (Sm.out ?_))
    | (first | refine ExG.no (Sm.out ?_) | refine Or.inl (ExG.no (Sm.out ?_)) | refine Or.inl (And.intro (fun hg => absurd hg (by decide)) (ExG.no (Sm.out ?_))))
    | (refine Rt.mk ?_; refine And.intro ?_ ?_ <;> (intro hg; first | exact absurd hg (by decide) | refine Sm.out ?_))
    | (refine Nu.mk ?_; first | (fail_if_success (have := nb1)); intro nb1 | (fail_if_success (have := nb2)); intro nb2 | (fail_if_success (have := nb3)); intro nb3 | (fail_if_success (have := nb4)); intro nb4 | intro nbz)
    | (refine Fr.mk ?_; intro hfr; (first | (have hFRb : _ ≤ _ ∧ _ ≤ _ := And.intro hfr.1 hfr.2.1) | (have hFRb : _ ≤ _ := hfr.1) | skip); replace FR := Sm.mk (And.intro hfr FR.out); clear hfr; refine Sm.out ?_)
    | (refine Two.mk ?_ ?_)
    | (refine Cs.mk ?_; intro hcs; first | exact False.elim hcs | (exfalso; omega) | (refine Sm.out ?_))
    | go_step
    | omega
    | (simp only [maxLen_eq]; omega)
  (refine OutQ.upd (by simp only [resv, ZK, look, loadv, loadn, loadnm, load1, load1m, hget, ↓reduceIte, Nat.reduceEqDiff, Nat.reduceAdd, Nat.reduceMul, Nat.reduceLeDiff, Nat.reduceLT, reduceCtorEq, TFTxV, FR.out]) (by simp only [resv, resA, ZK, look, loadv, loadn, loadnm, load1, load1m, hget, ↓reduceIte, Nat.reduceEqDiff, Nat.reduceAdd, Nat.reduceMul, Nat.reduceLeDiff, Nat.reduceLT, reduceCtorEq, TFTxV, FR.out]; first | done | rfl) (by simp only [hget, ↓reduceIte, if_true, if_false, FR.out]; first | done | rfl) ?_ <;> first | exact rfl | (simp only [ZK, look, loadv, loadn, loadnm, load1, load1m, hget, ↓reduceIte, Nat.reduceEqDiff, Nat.reduceAdd, Nat.reduceMul, Nat.reduceLeDiff, Nat.reduceLT, reduceCtorEq, TFTxV, FR.out]; done) | skip)
theorem after_nil (b : Nat) (st nn ct : Int) (r w : Int) (h : (r = 34 ∧ w = 34) ∨ (r = 92 ∧ w = 92) ∨ (r = 110 ∧ w = 10) ∨ (r = 116 ∧ w = 9)) : ACt Tryd.prog 38 [pt b 0, iv .i32 r] [(b, .cells [nps, nsl, iv .i64 st, iv .i32 nn, iv .i64 ct] 5 50)] (fun a F' => ∃ x k : Nat, ((enc8 w).length ≤ k ∧ k ≤ 9223372036854775807) ∧ a = bv true ∧ F' = [(x, .zs .u8 (enc8 w) k 5), (b, .cells [pt b 0, ms x 0 (enc8 w).length k, iv .i64 0, iv .i32 nn, iv .i64 ct] 5 50)]) := by
  have cW := wrR_nil b (iv .i64 0) (iv .i32 nn) (iv .i64 ct) w (by unfold Gr; omega)
  obtain ⟨E, hE⟩ : ∃ E, E = enc8 w := ⟨_, rfl⟩
  rw [← hE] at cW ⊢
  obtain ⟨l, hl'⟩ : ∃ l, l = E.length := ⟨_, rfl⟩
  rw [← hl'] at cW ⊢
  clear hE
  rcases h with ⟨rfl, rfl⟩ | ⟨rfl, rfl⟩ | ⟨rfl, rfl⟩ | ⟨rfl, rfl⟩
  all_goals
    refine ACt.intro Tryd.func38 rfl (by kernel_rfl) (by simp [Tryd.ntmps38]) (fun cx => ?_)
    simp only [argE, Tryd.ntmps38, Tryd.results38]
  all_goals (
      first | (have FRx := FR; clear FRx) | (have FR : Sm (¬ ((1 : Nat) = 0)) := Sm.mk Nat.one_ne_zero)
      repeat' first
        | (refine Sm.mk ?_; try simp -dsimp only [ZK, rvc, drawF, headN, pureH, stp, dvc, calleeOf, gcall, pev, eff, newB, okd, og, ogs, ogo, ogp, slv, bltv, opd, litv, strip, one, both, putE, St.put, look, gdOf, gdv, picka, pickv, pickw, binv, bini, bins, binb, binp, binq, isSlT, bina, shp, eqCells, unv, convv, nilv, faddv, addp, idxav, idxp, load1, load1m, loadn, loadnm, loadv, hget, hset, hrep, hdel, slicev, bnd, shift1, lenv, capv, IntKind.bits, extractv, fieldv, indexv, min2v, max2v, mkiv, cellsA, fillA, buildv, stC, oneC, rowMB, intsA, plN, appE, appZ, appC, appNZ, appNC, VwL, srcC, srcZ, srcM, isBoolT, isPtrT, isSliceT, uOk, Value.oneCell', Nat.reducePow, Int.reducePow, Nat.reduceAdd, Nat.reduceMul, Nat.reduceSub, Nat.reduceLT, Nat.reduceLeDiff, Nat.reduceEqDiff, Nat.reduceBEq, Nat.reduceDiv, Nat.reduceMod, ↓reduceIte, reduceCtorEq, Int.reduceToNat, Int.reduceLT, Int.reduceLE, drawCF, xvc, xst, splitH, calleeV, putE, hdel, TFTxV, SeqQ, BlkQ, LoopQ, BodyQ, FR.out])
        | (refine CallV.newC (cW) (perm1 (by simp only [hget, hdel, ↓reduceIte, FR.out]; first | done | rfl)) (fun _ _ => rfl) (Sm.out ?_))
        | (refine WP.seq fun K hK => ?_)
        | (refine WP.region (rvc_sound _ _ (Sm.out ?_)))
        | ((show WP _ _ _ (.region 7 _ _) _ _); refine WP.drawKk 7 mixed (by decide +kernel) (Sm.out ?_))
        | (refine WP.drawC (c := 19) (ws := [16]) (ls := [5, 12]) (bs := [b]) mixed (by decide +kernel) (by decide +kernel) (by decide +kernel) (Sm.out ?_))
        | (refine WP.drawK rfl mixed (by decide +kernel) (Sm.out ?_))
        | (refine Ob.mk ?_; focus (first | assumption | omega | decide | trivial | (intro hob; simp only [hob, ZF]; done) | (intros; (repeat' refine And.intro ?_ ?_) <;> first | assumption | omega | trivial | decide) | (intros; simp only [ZE] at *; (repeat' refine And.intro ?_ ?_) <;> first | assumption | omega | trivial)))
        | (refine And.intro (Ob.out ?_) ?_)
        | (refine WP.block ?_)
        | (refine WP.cond rfl (fun hc => ?_) (fun hc => ?_) <;> (try simp only [ZC, reduceCtorEq, ZD] at hc) <;> (try (exact absurd hc (by decide))) <;> (try (exfalso; omega)))
        | ((first | refine WP.skip ?_ | refine WP.exit ?_); simp only [SeqQ, BlkQ, LoopQ, BodyQ, ↓reduceIte, Nat.reduceEqDiff, reduceCtorEq, look, true_and])
        | (refine WP.ret (Sm.out ?_))
        | (first | refine ExG.no (Sm.out ?_) | refine Or.inl (ExG.no (Sm.out ?_)) | refine Or.inl (And.intro (fun hg => absurd hg (by decide)) (ExG.no (Sm.out ?_))))
        | (refine Rt.mk ?_; refine And.intro ?_ ?_ <;> (intro hg; first | exact absurd hg (by decide) | refine Sm.out ?_))
        | (refine Nu.mk ?_; first | (fail_if_success (have := nb1)); intro nb1 | (fail_if_success (have := nb2)); intro nb2 | (fail_if_success (have := nb3)); intro nb3 | (fail_if_success (have := nb4)); intro nb4 | intro nbz)
        | (refine Fr.mk ?_; intro hfr; (first | (have hFRb : _ ≤ _ ∧ _ ≤ _ := And.intro hfr.1 hfr.2.1) | (have hFRb : _ ≤ _ := hfr.1) | skip); replace FR := Sm.mk (And.intro hfr FR.out); clear hfr; refine Sm.out ?_)
        | (refine Two.mk ?_ ?_)
        | (refine Cs.mk ?_; intro hcs; first | exact False.elim hcs | (exfalso; omega) | (refine Sm.out ?_))
        | go_step
        | omega
        | (simp only [maxLen_eq]; omega))
  all_goals (refine OutQ.drop _ _ (perm2 (by simp only [hget, hdel, ↓reduceIte, if_true, if_false, FR.out]; first | done | rfl) (by simp only [hget, hdel, ↓reduceIte, if_true, if_false, FR.out]; first | done | rfl)) (by simp only [resv, ZK, look, loadv, loadn, loadnm, load1, load1m, hget, ↓reduceIte, Nat.reduceEqDiff, Nat.reduceAdd, Nat.reduceMul, Nat.reduceLeDiff, Nat.reduceLT, reduceCtorEq, TFTxV, FR.out]) ⟨nb1, nb2, FR.out.1.1, (by simp only [resv, resA, ZK, look, loadv, loadn, loadnm, load1, load1m, hget, ↓reduceIte, Nat.reduceEqDiff, Nat.reduceAdd, Nat.reduceMul, Nat.reduceLeDiff, Nat.reduceLT, reduceCtorEq, TFTxV, FR.out]; first | done | rfl), rfl⟩)
theorem after_used (b x n k : Nat) (st nn ct : Int) (zs : List Int) (hd : b ≠ x ∧ x ≠ b) (hn : zs.length = n) (hnk : n ≤ k ∧ k ≤ 9223372036854775807) (hln : n ≤ 100000) (r w : Int) (h : (r = 34 ∧ w = 34) ∨ (r = 92 ∧ w = 92) ∨ (r = 110 ∧ w = 10) ∨ (r = 116 ∧ w = 9)) : ACt Tryd.prog 38 [pt b 0, iv .i32 r] [(x, .zs .u8 zs k 5), (b, .cells [pt b 0, ms x 0 n k, iv .i64 st, iv .i32 nn, iv .i64 ct] 5 50)] (fun a F' => ∃ x k : Nat, (n + (enc8 w).length ≤ k ∧ k ≤ 9223372036854775807) ∧ a = bv true ∧ F' = [(x, .zs .u8 (zs ++ enc8 w) k 5), (b, .cells [pt b 0, ms x 0 (n + (enc8 w).length) k, iv .i64 0, iv .i32 nn, iv .i64 ct] 5 50)]) := by
  have cW := wrR_used b x n k (iv .i64 0) (iv .i32 nn) (iv .i64 ct) zs hd hn hnk hln w (by unfold Gr; omega)
  obtain ⟨E, hE⟩ : ∃ E, E = enc8 w := ⟨_, rfl⟩
  rw [← hE] at cW ⊢
  obtain ⟨l, hl'⟩ : ∃ l, l = E.length := ⟨_, rfl⟩
  rw [← hl'] at cW ⊢
  clear hE
  rcases h with ⟨rfl, rfl⟩ | ⟨rfl, rfl⟩ | ⟨rfl, rfl⟩ | ⟨rfl, rfl⟩
  all_goals
    refine ACt.intro Tryd.func38 rfl (by kernel_rfl) (by simp [Tryd.ntmps38]) (fun cx => ?_)
    simp only [argE, Tryd.ntmps38, Tryd.results38]
  all_goals (
      first | (have FRx := FR; clear FRx) | (have FR : Sm (¬ ((1 : Nat) = 0)) := Sm.mk Nat.one_ne_zero)
      repeat' first
        | (refine Sm.mk ?_; try simp -dsimp only [ZK, rvc, drawF, headN, pureH, stp, dvc, calleeOf, gcall, pev, eff, newB, okd, og, ogs, ogo, ogp, slv, bltv, opd, litv, strip, one, both, putE, St.put, look, gdOf, gdv, picka, pickv, pickw, binv, bini, bins, binb, binp, binq, isSlT, bina, shp, eqCells, unv, convv, nilv, faddv, addp, idxav, idxp, load1, load1m, loadn, loadnm, loadv, hget, hset, hrep, hdel, slicev, bnd, shift1, lenv, capv, IntKind.bits, extractv, fieldv, indexv, min2v, max2v, mkiv, cellsA, fillA, buildv, stC, oneC, rowMB, intsA, plN, appE, appZ, appC, appNZ, appNC, VwL, srcC, srcZ, srcM, isBoolT, isPtrT, isSliceT, uOk, Value.oneCell', Nat.reducePow, Int.reducePow, Nat.reduceAdd, Nat.reduceMul, Nat.reduceSub, Nat.reduceLT, Nat.reduceLeDiff, Nat.reduceEqDiff, Nat.reduceBEq, Nat.reduceDiv, Nat.reduceMod, ↓reduceIte, reduceCtorEq, Int.reduceToNat, Int.reduceLT, Int.reduceLE, drawCF, xvc, xst, splitH, calleeV, putE, hdel, TFTxV, SeqQ, BlkQ, LoopQ, BodyQ, hd, FR.out])
        | (refine CallV.newR (cW) ((pmz _)) (Sm.out ?_))
        | (refine WP.seq fun K hK => ?_)
        | (refine WP.region (rvc_sound _ _ (Sm.out ?_)))
        | ((show WP _ _ _ (.region 7 _ _) _ _); refine WP.drawKk 7 mixed (by decide +kernel) (Sm.out ?_))
        | (refine WP.drawC (c := 19) (ws := [16]) (ls := [5, 12]) (bs := [b]) mixed (by decide +kernel) (by decide +kernel) (by decide +kernel) (Sm.out ?_))
        | (refine WP.drawK rfl mixed (by decide +kernel) (Sm.out ?_))
        | (refine Ob.mk ?_; focus (first | assumption | omega | decide | trivial | (intro hob; simp only [hob, ZF]; done) | (intros; (repeat' refine And.intro ?_ ?_) <;> first | assumption | omega | trivial | decide) | (intros; simp only [ZE] at *; (repeat' refine And.intro ?_ ?_) <;> first | assumption | omega | trivial)))
        | (refine And.intro (Ob.out ?_) ?_)
        | (refine WP.block ?_)
        | (refine WP.cond rfl (fun hc => ?_) (fun hc => ?_) <;> (try simp only [ZC, reduceCtorEq, ZD] at hc) <;> (try (exact absurd hc (by decide))) <;> (try (exfalso; omega)))
        | ((first | refine WP.skip ?_ | refine WP.exit ?_); simp only [SeqQ, BlkQ, LoopQ, BodyQ, ↓reduceIte, Nat.reduceEqDiff, reduceCtorEq, look, true_and])
        | (refine WP.ret (Sm.out ?_))
        | (first | refine ExG.no (Sm.out ?_) | refine Or.inl (ExG.no (Sm.out ?_)) | refine Or.inl (And.intro (fun hg => absurd hg (by decide)) (ExG.no (Sm.out ?_))))
        | (refine Rt.mk ?_; refine And.intro ?_ ?_ <;> (intro hg; first | exact absurd hg (by decide) | refine Sm.out ?_))
        | (refine Nu.mk ?_; first | (fail_if_success (have := nb1)); intro nb1 | (fail_if_success (have := nb2)); intro nb2 | (fail_if_success (have := nb3)); intro nb3 | (fail_if_success (have := nb4)); intro nb4 | intro nbz)
        | (refine Fr.mk ?_; intro hfr; (first | (have hFRb : _ ≤ _ ∧ _ ≤ _ := And.intro hfr.1 hfr.2.1) | (have hFRb : _ ≤ _ := hfr.1) | skip); replace FR := Sm.mk (And.intro hfr FR.out); clear hfr; refine Sm.out ?_)
        | (refine Two.mk ?_ ?_)
        | (refine Cs.mk ?_; intro hcs; first | exact False.elim hcs | (exfalso; omega) | (refine Sm.out ?_))
        | go_step
        | omega
        | (simp only [maxLen_eq]; omega))
  all_goals (refine OutQ.drop _ _ (perm2 (by simp only [hget, hdel, ↓reduceIte, if_true, if_false, FR.out, hd]; first | done | rfl) (by simp only [hget, hdel, ↓reduceIte, if_true, if_false, FR.out, hd]; first | done | rfl)) (by simp only [resv, ZK, look, loadv, loadn, loadnm, load1, load1m, hget, ↓reduceIte, Nat.reduceEqDiff, Nat.reduceAdd, Nat.reduceMul, Nat.reduceLeDiff, Nat.reduceLT, reduceCtorEq, TFTxV, FR.out, hd]) ⟨nb1, nb2, FR.out.1.1, (by simp only [resv, resA, ZK, look, loadv, loadn, loadnm, load1, load1m, hget, ↓reduceIte, Nat.reduceEqDiff, Nat.reduceAdd, Nat.reduceMul, Nat.reduceLeDiff, Nat.reduceLT, reduceCtorEq, TFTxV, FR.out, hd]; first | done | rfl), rfl⟩)
set_option maxHeartbeats 2000000 in
theorem ibit_or16 : ∀ h : Nat, h < 16 → ∀ a : Nat, a < 16777216 → ibit .or .i32 (IntKind.i32.wrap ((a : Int) * 16)) (h : Int) = 16 * (a : Int) + (h : Int) := by
  intro h hh a ha
  rw [wrap_i32 (by omega) (by omega)]
  have e : ibit .or .i32 ((a : Int) * 16) (h : Int) = IntKind.i32.wrap ((BitVec.ofInt 32 ((a : Int) * 16) ||| BitVec.ofInt 32 (h : Int)).toNat : Int) := rfl
  have e2 : (a : Int) * 16 = ((a * 16 : Nat) : Int) := by omega
  rw [e, e2, BitVec.toNat_or, BitVec.ofInt_natCast, BitVec.ofInt_natCast, BitVec.toNat_ofNat, BitVec.toNat_ofNat, Nat.mod_eq_of_lt (by omega), Nat.mod_eq_of_lt (by omega)]
  have e3 := or_add h a 4 (by omega)
  rw [show (2 : Nat) ^ 4 = 16 from rfl, Nat.or_comm] at e3
  rw [e3, wrap_i32 (by omega) (by omega)]
  omega
theorem within_dig (b : Nat) (A S : AV) (st nn ct : Int) (r : Int) (hr : 0 ≤ hexV r) (hn : 0 ≤ nn ∧ nn < 16777216) (hc : 0 ≤ ct ∧ ct < 6) : ACt Tryd.prog 39 [pt b 0, iv .i32 r] [(b, .cells [A, S, iv .i64 st, iv .i32 nn, iv .i64 ct] 5 50)] (fun a F' => a = bv true ∧ F' = [(b, .cells [A, S, iv .i64 st, iv .i32 (16 * nn + hexV r), iv .i64 (ct + 1)] 5 50)]) := by
  have cH := hexv_ct r
  have hb := hexV_bd r
  obtain ⟨h, hh⟩ : ∃ h, h = hexV r := ⟨_, rfl⟩
  rw [← hh] at cH hr hb ⊢
  have eo := ibit_or16 h.toNat (by omega) nn.toNat (by omega)
  rw [show ((nn.toNat : Nat) : Int) = nn by omega, show ((h.toNat : Nat) : Int) = h by omega] at eo
  have w1 : IntKind.i64.wrap (ct + 1) = ct + 1 := wrap_i64 (by omega) (by omega)
  have k1 : decide (h ≥ 0) = true := decide_eq_true hr
  have k2 : decide (ct < 6) = true := decide_eq_true hc.2
  refine ACt.intro Tryd.func39 rfl (by kernel_rfl) (by simp [Tryd.ntmps39]) (fun cx => ?_)
  simp only [argE, Tryd.ntmps39, Tryd.results39]
  first | (have FRx := FR; clear FRx) | (have FR : Sm (¬ ((1 : Nat) = 0)) := Sm.mk Nat.one_ne_zero)
  repeat' first
    | (refine Sm.mk ?_; try simp -dsimp only [ZK, rvc, drawF, headN, pureH, stp, dvc, calleeOf, gcall, pev, eff, newB, okd, og, ogs, ogo, ogp, slv, bltv, opd, litv, strip, one, both, putE, St.put, look, gdOf, gdv, picka, pickv, pickw, binv, bini, bins, binb, binp, binq, isSlT, bina, shp, eqCells, unv, convv, nilv, faddv, addp, idxav, idxp, load1, load1m, loadn, loadnm, loadv, hget, hset, hrep, hdel, slicev, bnd, shift1, lenv, capv, IntKind.bits, extractv, fieldv, indexv, min2v, max2v, mkiv, cellsA, fillA, buildv, stC, oneC, rowMB, intsA, plN, appE, appZ, appC, appNZ, appNC, VwL, srcC, srcZ, srcM, isBoolT, isPtrT, isSliceT, uOk, Value.oneCell', Nat.reducePow, Int.reducePow, Nat.reduceAdd, Nat.reduceMul, Nat.reduceSub, Nat.reduceLT, Nat.reduceLeDiff, Nat.reduceEqDiff, Nat.reduceBEq, Nat.reduceDiv, Nat.reduceMod, ↓reduceIte, reduceCtorEq, Int.reduceToNat, Int.reduceLT, Int.reduceLE, drawCF, xvc, xst, splitH, calleeV, putE, hdel, TFTxV, SeqQ, BlkQ, LoopQ, BodyQ, k1, k2, eo, w1, FR.out])
    | (first | refine CallV.fn (cH) (Sm.out ?_) | refine ExF.mk (cH) (Sm.out ?_) | refine ExG.mk (fun _ => cH) (Sm.out ?_) | refine ExG.mkJ (fun _ => cH) (Sm.out ?_) | refine ExG.mkI (Ob.out ?_) (fun _ => cH) (Sm.out ?_))
    | (refine WP.seq fun K hK => ?_)
    | (refine WP.region (rvc_sound _ _ (Sm.out ?_)))
    | ((show WP _ _ _ (.region 7 _ _) _ _); refine WP.drawKk 7 mixed (by decide +kernel) (Sm.out ?_))
    | (refine WP.drawC (c := 19) (ws := [16]) (ls := [5, 12]) (bs := [b]) mixed (by decide +kernel) (by decide +kernel) (by decide +kernel) (Sm.out ?_))
    | (refine WP.drawK rfl mixed (by decide +kernel) (Sm.out ?_))
    | (refine Ob.mk ?_; focus (first | assumption | omega | decide | trivial | (intro hob; simp only [hob, ZF]; done) | (intros; (repeat' refine And.intro ?_ ?_) <;> first | assumption | omega | trivial | decide) | (intros; simp only [ZE] at *; (repeat' refine And.intro ?_ ?_) <;> first | assumption | omega | trivial)))
    | (refine And.intro (Ob.out ?_) ?_)
    | (refine WP.block ?_)
    | (refine WP.cond rfl (fun hc => ?_) (fun hc => ?_) <;> (try simp only [ZC, reduceCtorEq, ZD] at hc) <;> (try (exact absurd hc (by decide))) <;> (try (exfalso; omega)))
    | ((first | refine WP.skip ?_ | refine WP.exit ?_); simp only [SeqQ, BlkQ, LoopQ, BodyQ, ↓reduceIte, Nat.reduceEqDiff, reduceCtorEq, look, true_and])
    | (refine WP.ret (Sm.out ?_))
    | (first | refine ExG.no (Sm.out ?_) | refine Or.inl (ExG.no (Sm.out ?_)) | refine Or.inl (And.intro (fun hg => absurd hg (by decide)) (ExG.no (Sm.out ?_))))
    | (refine Rt.mk ?_; refine And.intro ?_ ?_ <;> (intro hg; first | exact absurd hg (by decide) | refine Sm.out ?_))
    | (refine Nu.mk ?_; first | (fail_if_success (have := nb1)); intro nb1 | (fail_if_success (have := nb2)); intro nb2 | (fail_if_success (have := nb3)); intro nb3 | (fail_if_success (have := nb4)); intro nb4 | intro nbz)
    | (refine Fr.mk ?_; intro hfr; (first | (have hFRb : _ ≤ _ ∧ _ ≤ _ := And.intro hfr.1 hfr.2.1) | (have hFRb : _ ≤ _ := hfr.1) | skip); replace FR := Sm.mk (And.intro hfr FR.out); clear hfr; refine Sm.out ?_)
    | (refine Two.mk ?_ ?_)
    | (refine Cs.mk ?_; intro hcs; first | exact False.elim hcs | (exfalso; omega) | (refine Sm.out ?_))
    | go_step
    | omega
    | (simp only [maxLen_eq]; omega)
  (refine OutQ.upd (by simp only [resv, ZK, look, loadv, loadn, loadnm, load1, load1m, hget, ↓reduceIte, Nat.reduceEqDiff, Nat.reduceAdd, Nat.reduceMul, Nat.reduceLeDiff, Nat.reduceLT, reduceCtorEq, TFTxV, FR.out, eo, w1]) (by simp only [resv, resA, ZK, look, loadv, loadn, loadnm, load1, load1m, hget, ↓reduceIte, Nat.reduceEqDiff, Nat.reduceAdd, Nat.reduceMul, Nat.reduceLeDiff, Nat.reduceLT, reduceCtorEq, TFTxV, FR.out, eo, w1]; first | done | rfl) (by simp only [hget, ↓reduceIte, if_true, if_false, FR.out, eo, w1]; first | done | rfl) ?_ <;> first | exact rfl | (simp only [ZK, look, loadv, loadn, loadnm, load1, load1m, hget, ↓reduceIte, Nat.reduceEqDiff, Nat.reduceAdd, Nat.reduceMul, Nat.reduceLeDiff, Nat.reduceLT, reduceCtorEq, TFTxV, FR.out, eo, w1]; done) | skip)
set_option maxHeartbeats 8000000 in
theorem within_no (b : Nat) (A S : AV) (st nn ct : Int) (r : Int) (hc : 0 ≤ ct ∧ ct ≤ 6) (h1 : hexV r < 0 ∨ ¬ ct < 6) (h2 : r ≠ 125 ∨ ct = 0 ∨ ¬ Gr nn) : ACt Tryd.prog 39 [pt b 0, iv .i32 r] [(b, .cells [A, S, iv .i64 st, iv .i32 nn, iv .i64 ct] 5 50)] (fun a F' => a = bv false ∧ F' = [(b, .cells [A, S, iv .i64 st, iv .i32 nn, iv .i64 ct] 5 50)]) := by
  have cH := hexv_ct r
  have cR := vrune_ct nn
  obtain ⟨h, hh⟩ : ∃ h, h = hexV r := ⟨_, rfl⟩
  rw [← hh] at cH h1
  have kA : ∃ a b : Bool, decide (h ≥ 0) = a ∧ decide (ct < 6) = b ∧ (a && b) = false := ⟨_, _, rfl, rfl, by
    rcases h1 with h1 | h1
    · rw [decide_eq_false (show ¬ h ≥ 0 by omega)]; rfl
    · rw [decide_eq_false h1]; simp⟩
  have kB : ∃ a b c : Bool, (r != 125) = a ∧ (ct == 0) = b ∧ grB nn = c ∧ (a || (b || !c)) = true := ⟨_, _, _, rfl, rfl, rfl, by
    rcases h2 with h2 | h2 | h2
    · rw [show (r != 125) = true from bne_iff_ne.2 h2]; rfl
    · rw [show (ct == 0) = true from beq_iff_eq.2 h2]; simp
    · rw [grB_false h2]; simp⟩
  obtain ⟨a1, b1, k1, k2, k3⟩ := kA
  obtain ⟨a2, b2, c2, k4, k5, k6, k7⟩ := kB
  rw [k6] at cR
  clear h1 h2 hc hh
  cases a1 <;> cases b1
  all_goals first | (cases k3; done) | skip
  all_goals cases a2
  all_goals cases b2
  all_goals cases c2
  all_goals first | (cases k7; done) | skip
  all_goals
    refine ACt.intro Tryd.func39 rfl (by kernel_rfl) (by simp [Tryd.ntmps39]) (fun cx => ?_)
    simp only [argE, Tryd.ntmps39, Tryd.results39]
  all_goals (
      first | (have FRx := FR; clear FRx) | (have FR : Sm (¬ ((1 : Nat) = 0)) := Sm.mk Nat.one_ne_zero)
      repeat' first
        | (refine Sm.mk ?_; try simp -dsimp only [ZK, rvc, drawF, headN, pureH, stp, dvc, calleeOf, gcall, pev, eff, newB, okd, og, ogs, ogo, ogp, slv, bltv, opd, litv, strip, one, both, putE, St.put, look, gdOf, gdv, picka, pickv, pickw, binv, bini, bins, binb, binp, binq, isSlT, bina, shp, eqCells, unv, convv, nilv, faddv, addp, idxav, idxp, load1, load1m, loadn, loadnm, loadv, hget, hset, hrep, hdel, slicev, bnd, shift1, lenv, capv, IntKind.bits, extractv, fieldv, indexv, min2v, max2v, mkiv, cellsA, fillA, buildv, stC, oneC, rowMB, intsA, plN, appE, appZ, appC, appNZ, appNC, VwL, srcC, srcZ, srcM, isBoolT, isPtrT, isSliceT, uOk, Value.oneCell', Nat.reducePow, Int.reducePow, Nat.reduceAdd, Nat.reduceMul, Nat.reduceSub, Nat.reduceLT, Nat.reduceLeDiff, Nat.reduceEqDiff, Nat.reduceBEq, Nat.reduceDiv, Nat.reduceMod, ↓reduceIte, reduceCtorEq, Int.reduceToNat, Int.reduceLT, Int.reduceLE, drawCF, xvc, xst, splitH, calleeV, putE, hdel, TFTxV, SeqQ, BlkQ, LoopQ, BodyQ, k1, k2, k4, k5, FR.out])
        | (first | refine CallV.fn (cH) (Sm.out ?_) | refine ExF.mk (cH) (Sm.out ?_) | refine ExG.mk (fun _ => cH) (Sm.out ?_) | refine ExG.mkJ (fun _ => cH) (Sm.out ?_) | refine ExG.mkI (Ob.out ?_) (fun _ => cH) (Sm.out ?_))
        | (first | refine CallV.fn (cR) (Sm.out ?_) | refine ExF.mk (cR) (Sm.out ?_) | refine ExG.mk (fun _ => cR) (Sm.out ?_) | refine ExG.mkJ (fun _ => cR) (Sm.out ?_) | refine ExG.mkI (Ob.out ?_) (fun _ => cR) (Sm.out ?_))
        | (refine WP.seq fun K hK => ?_)
        | (refine WP.region (rvc_sound _ _ (Sm.out ?_)))
        | ((show WP _ _ _ (.region 7 _ _) _ _); refine WP.drawKk 7 mixed (by decide +kernel) (Sm.out ?_))
        | (refine WP.drawC (c := 19) (ws := [16]) (ls := [5, 12]) (bs := [b]) mixed (by decide +kernel) (by decide +kernel) (by decide +kernel) (Sm.out ?_))
        | (refine WP.drawK rfl mixed (by decide +kernel) (Sm.out ?_))
        | (refine Ob.mk ?_; focus (first | assumption | omega | decide | trivial | (intro hob; simp only [hob, ZF]; done) | (intros; (repeat' refine And.intro ?_ ?_) <;> first | assumption | omega | trivial | decide) | (intros; simp only [ZE] at *; (repeat' refine And.intro ?_ ?_) <;> first | assumption | omega | trivial)))
        | (refine And.intro (Ob.out ?_) ?_)
        | (refine WP.block ?_)
        | (refine WP.cond rfl (fun hc => ?_) (fun hc => ?_) <;> (try simp only [ZC, reduceCtorEq, ZD] at hc) <;> (try (exact absurd hc (by decide))) <;> (try (exfalso; omega)))
        | ((first | refine WP.skip ?_ | refine WP.exit ?_); simp only [SeqQ, BlkQ, LoopQ, BodyQ, ↓reduceIte, Nat.reduceEqDiff, reduceCtorEq, look, true_and])
        | (refine WP.ret (Sm.out ?_))
        | (first | refine ExG.no (Sm.out ?_) | refine Or.inl (ExG.no (Sm.out ?_)) | refine Or.inl (And.intro (fun hg => absurd hg (by decide)) (ExG.no (Sm.out ?_))))
        | (refine Rt.mk ?_; refine And.intro ?_ ?_ <;> (intro hg; first | exact absurd hg (by decide) | refine Sm.out ?_))
        | (refine Nu.mk ?_; first | (fail_if_success (have := nb1)); intro nb1 | (fail_if_success (have := nb2)); intro nb2 | (fail_if_success (have := nb3)); intro nb3 | (fail_if_success (have := nb4)); intro nb4 | intro nbz)
        | (refine Fr.mk ?_; intro hfr; (first | (have hFRb : _ ≤ _ ∧ _ ≤ _ := And.intro hfr.1 hfr.2.1) | (have hFRb : _ ≤ _ := hfr.1) | skip); replace FR := Sm.mk (And.intro hfr FR.out); clear hfr; refine Sm.out ?_)
        | (refine Two.mk ?_ ?_)
        | (refine Cs.mk ?_; intro hcs; first | exact False.elim hcs | (exfalso; omega) | (refine Sm.out ?_))
        | go_step
        | omega
        | (simp only [maxLen_eq]; omega))
  all_goals (refine OutQ.upd (by simp only [resv, ZK, look, loadv, loadn, loadnm, load1, load1m, hget, ↓reduceIte, Nat.reduceEqDiff, Nat.reduceAdd, Nat.reduceMul, Nat.reduceLeDiff, Nat.reduceLT, reduceCtorEq, TFTxV, FR.out]) (by simp only [resv, resA, ZK, look, loadv, loadn, loadnm, load1, load1m, hget, ↓reduceIte, Nat.reduceEqDiff, Nat.reduceAdd, Nat.reduceMul, Nat.reduceLeDiff, Nat.reduceLT, reduceCtorEq, TFTxV, FR.out]; first | done | rfl) (by simp only [hget, ↓reduceIte, if_true, if_false, FR.out]; first | done | rfl) ?_ <;> first | exact rfl | (simp only [ZK, look, loadv, loadn, loadnm, load1, load1m, hget, ↓reduceIte, Nat.reduceEqDiff, Nat.reduceAdd, Nat.reduceMul, Nat.reduceLeDiff, Nat.reduceLT, reduceCtorEq, TFTxV, FR.out]; done) | skip)
theorem within_nil (b : Nat) (st nn ct : Int) (hg : Gr nn) (hc : 0 < ct ∧ ct ≤ 6) : ACt Tryd.prog 39 [pt b 0, iv .i32 125] [(b, .cells [nps, nsl, iv .i64 st, iv .i32 nn, iv .i64 ct] 5 50)] (fun a F' => ∃ x k : Nat, ((enc8 nn).length ≤ k ∧ k ≤ 9223372036854775807) ∧ a = bv true ∧ F' = [(x, .zs .u8 (enc8 nn) k 5), (b, .cells [pt b 0, ms x 0 (enc8 nn).length k, iv .i64 0, iv .i32 nn, iv .i64 ct] 5 50)]) := by
  have cW := wrR_nil b (iv .i64 st) (iv .i32 nn) (iv .i64 ct) nn hg
  have cH := hexv_ct 125
  rw [show hexV 125 = -1 by decide] at cH
  have cR := vrune_ct nn
  rw [grB_true hg] at cR
  obtain ⟨E, hE⟩ : ∃ E, E = enc8 nn := ⟨_, rfl⟩
  rw [← hE] at cW ⊢
  obtain ⟨l, hl'⟩ : ∃ l, l = E.length := ⟨_, rfl⟩
  rw [← hl'] at cW ⊢
  clear hE
  have k1 : (ct == 0) = false := beq_eq_false_iff_ne.2 (by omega)
  refine ACt.intro Tryd.func39 rfl (by kernel_rfl) (by simp [Tryd.ntmps39]) (fun cx => ?_)
  simp only [argE, Tryd.ntmps39, Tryd.results39]
  first | (have FRx := FR; clear FRx) | (have FR : Sm (¬ ((1 : Nat) = 0)) := Sm.mk Nat.one_ne_zero)
  repeat' first
    | (refine Sm.mk ?_; try simp -dsimp only [ZK, rvc, drawF, headN, pureH, stp, dvc, calleeOf, gcall, pev, eff, newB, okd, og, ogs, ogo, ogp, slv, bltv, opd, litv, strip, one, both, putE, St.put, look, gdOf, gdv, picka, pickv, pickw, binv, bini, bins, binb, binp, binq, isSlT, bina, shp, eqCells, unv, convv, nilv, faddv, addp, idxav, idxp, load1, load1m, loadn, loadnm, loadv, hget, hset, hrep, hdel, slicev, bnd, shift1, lenv, capv, IntKind.bits, extractv, fieldv, indexv, min2v, max2v, mkiv, cellsA, fillA, buildv, stC, oneC, rowMB, intsA, plN, appE, appZ, appC, appNZ, appNC, VwL, srcC, srcZ, srcM, isBoolT, isPtrT, isSliceT, uOk, Value.oneCell', Nat.reducePow, Int.reducePow, Nat.reduceAdd, Nat.reduceMul, Nat.reduceSub, Nat.reduceLT, Nat.reduceLeDiff, Nat.reduceEqDiff, Nat.reduceBEq, Nat.reduceDiv, Nat.reduceMod, ↓reduceIte, reduceCtorEq, Int.reduceToNat, Int.reduceLT, Int.reduceLE, drawCF, xvc, xst, splitH, calleeV, putE, hdel, TFTxV, SeqQ, BlkQ, LoopQ, BodyQ, k1, FR.out])
    | (first | refine CallV.fn (cH) (Sm.out ?_) | refine ExF.mk (cH) (Sm.out ?_) | refine ExG.mk (fun _ => cH) (Sm.out ?_) | refine ExG.mkJ (fun _ => cH) (Sm.out ?_) | refine ExG.mkI (Ob.out ?_) (fun _ => cH) (Sm.out ?_))
    | (first | refine CallV.fn (cR) (Sm.out ?_) | refine ExF.mk (cR) (Sm.out ?_) | refine ExG.mk (fun _ => cR) (Sm.out ?_) | refine ExG.mkJ (fun _ => cR) (Sm.out ?_) | refine ExG.mkI (Ob.out ?_) (fun _ => cR) (Sm.out ?_))
    | (refine CallV.newC (cW) (perm1 (by simp only [hget, hdel, ↓reduceIte, FR.out, k1]; first | done | rfl)) (fun _ _ => rfl) (Sm.out ?_))
    | (refine WP.seq fun K hK => ?_)
    | (refine WP.region (rvc_sound _ _ (Sm.out ?_)))
    | ((show WP _ _ _ (.region 7 _ _) _ _); refine WP.drawKk 7 mixed (by decide +kernel) (Sm.out ?_))
    | (refine WP.drawC (c := 19) (ws := [16]) (ls := [5, 12]) (bs := [b]) mixed (by decide +kernel) (by decide +kernel) (by decide +kernel) (Sm.out ?_))
    | (refine WP.drawK rfl mixed (by decide +kernel) (Sm.out ?_))
    | (refine Ob.mk ?_; focus (first | assumption | omega | decide | trivial | (intro hob; simp only [hob, ZF]; done) | (intros; (repeat' refine And.intro ?_ ?_) <;> first | assumption | omega | trivial | decide) | (intros; simp only [ZE] at *; (repeat' refine And.intro ?_ ?_) <;> first | assumption | omega | trivial)))
    | (refine And.intro (Ob.out ?_) ?_)
    | (refine WP.block ?_)
    | (refine WP.cond rfl (fun hc => ?_) (fun hc => ?_) <;> (try simp only [ZC, reduceCtorEq, ZD] at hc) <;> (try (exact absurd hc (by decide))) <;> (try (exfalso; omega)))
    | ((first | refine WP.skip ?_ | refine WP.exit ?_); simp only [SeqQ, BlkQ, LoopQ, BodyQ, ↓reduceIte, Nat.reduceEqDiff, reduceCtorEq, look, true_and])
    | (refine WP.ret (Sm.out ?_))
    | (first | refine ExG.no (Sm.out ?_) | refine Or.inl (ExG.no (Sm.out ?_)) | refine Or.inl (And.intro (fun hg => absurd hg (by decide)) (ExG.no (Sm.out ?_))))
    | (refine Rt.mk ?_; refine And.intro ?_ ?_ <;> (intro hg; first | exact absurd hg (by decide) | refine Sm.out ?_))
    | (refine Nu.mk ?_; first | (fail_if_success (have := nb1)); intro nb1 | (fail_if_success (have := nb2)); intro nb2 | (fail_if_success (have := nb3)); intro nb3 | (fail_if_success (have := nb4)); intro nb4 | intro nbz)
    | (refine Fr.mk ?_; intro hfr; (first | (have hFRb : _ ≤ _ ∧ _ ≤ _ := And.intro hfr.1 hfr.2.1) | (have hFRb : _ ≤ _ := hfr.1) | skip); replace FR := Sm.mk (And.intro hfr FR.out); clear hfr; refine Sm.out ?_)
    | (refine Two.mk ?_ ?_)
    | (refine Cs.mk ?_; intro hcs; first | exact False.elim hcs | (exfalso; omega) | (refine Sm.out ?_))
    | go_step
    | omega
    | (simp only [maxLen_eq]; omega)
  (refine OutQ.drop _ _ (perm2 (by simp only [hget, hdel, ↓reduceIte, if_true, if_false, FR.out]; first | done | rfl) (by simp only [hget, hdel, ↓reduceIte, if_true, if_false, FR.out]; first | done | rfl)) (by simp only [resv, ZK, look, loadv, loadn, loadnm, load1, load1m, hget, ↓reduceIte, Nat.reduceEqDiff, Nat.reduceAdd, Nat.reduceMul, Nat.reduceLeDiff, Nat.reduceLT, reduceCtorEq, TFTxV, FR.out]) ⟨nb1, nb2, FR.out.1.1, (by simp only [resv, resA, ZK, look, loadv, loadn, loadnm, load1, load1m, hget, ↓reduceIte, Nat.reduceEqDiff, Nat.reduceAdd, Nat.reduceMul, Nat.reduceLeDiff, Nat.reduceLT, reduceCtorEq, TFTxV, FR.out]; first | done | rfl), rfl⟩)
theorem within_used (b x n k : Nat) (st nn ct : Int) (zs : List Int) (hd : b ≠ x ∧ x ≠ b) (hn : zs.length = n) (hnk : n ≤ k ∧ k ≤ 9223372036854775807) (hln : n ≤ 100000) (hg : Gr nn) (hc : 0 < ct ∧ ct ≤ 6) : ACt Tryd.prog 39 [pt b 0, iv .i32 125] [(x, .zs .u8 zs k 5), (b, .cells [pt b 0, ms x 0 n k, iv .i64 st, iv .i32 nn, iv .i64 ct] 5 50)] (fun a F' => ∃ x k : Nat, (n + (enc8 nn).length ≤ k ∧ k ≤ 9223372036854775807) ∧ a = bv true ∧ F' = [(x, .zs .u8 (zs ++ enc8 nn) k 5), (b, .cells [pt b 0, ms x 0 (n + (enc8 nn).length) k, iv .i64 0, iv .i32 nn, iv .i64 ct] 5 50)]) := by
  have cW := wrR_used b x n k (iv .i64 st) (iv .i32 nn) (iv .i64 ct) zs hd hn hnk hln nn hg
  have cH := hexv_ct 125
  rw [show hexV 125 = -1 by decide] at cH
  have cR := vrune_ct nn
  rw [grB_true hg] at cR
  obtain ⟨E, hE⟩ : ∃ E, E = enc8 nn := ⟨_, rfl⟩
  rw [← hE] at cW ⊢
  obtain ⟨l, hl'⟩ : ∃ l, l = E.length := ⟨_, rfl⟩
  rw [← hl'] at cW ⊢
  clear hE
  have k1 : (ct == 0) = false := beq_eq_false_iff_ne.2 (by omega)
  refine ACt.intro Tryd.func39 rfl (by kernel_rfl) (by simp [Tryd.ntmps39]) (fun cx => ?_)
  simp only [argE, Tryd.ntmps39, Tryd.results39]
  first | (have FRx := FR; clear FRx) | (have FR : Sm (¬ ((1 : Nat) = 0)) := Sm.mk Nat.one_ne_zero)
  repeat' first
    | (refine Sm.mk ?_; try simp -dsimp only [ZK, rvc, drawF, headN, pureH, stp, dvc, calleeOf, gcall, pev, eff, newB, okd, og, ogs, ogo, ogp, slv, bltv, opd, litv, strip, one, both, putE, St.put, look, gdOf, gdv, picka, pickv, pickw, binv, bini, bins, binb, binp, binq, isSlT, bina, shp, eqCells, unv, convv, nilv, faddv, addp, idxav, idxp, load1, load1m, loadn, loadnm, loadv, hget, hset, hrep, hdel, slicev, bnd, shift1, lenv, capv, IntKind.bits, extractv, fieldv, indexv, min2v, max2v, mkiv, cellsA, fillA, buildv, stC, oneC, rowMB, intsA, plN, appE, appZ, appC, appNZ, appNC, VwL, srcC, srcZ, srcM, isBoolT, isPtrT, isSliceT, uOk, Value.oneCell', Nat.reducePow, Int.reducePow, Nat.reduceAdd, Nat.reduceMul, Nat.reduceSub, Nat.reduceLT, Nat.reduceLeDiff, Nat.reduceEqDiff, Nat.reduceBEq, Nat.reduceDiv, Nat.reduceMod, ↓reduceIte, reduceCtorEq, Int.reduceToNat, Int.reduceLT, Int.reduceLE, drawCF, xvc, xst, splitH, calleeV, putE, hdel, TFTxV, SeqQ, BlkQ, LoopQ, BodyQ, k1, hd, FR.out])
    | (first | refine CallV.fn (cH) (Sm.out ?_) | refine ExF.mk (cH) (Sm.out ?_) | refine ExG.mk (fun _ => cH) (Sm.out ?_) | refine ExG.mkJ (fun _ => cH) (Sm.out ?_) | refine ExG.mkI (Ob.out ?_) (fun _ => cH) (Sm.out ?_))
    | (first | refine CallV.fn (cR) (Sm.out ?_) | refine ExF.mk (cR) (Sm.out ?_) | refine ExG.mk (fun _ => cR) (Sm.out ?_) | refine ExG.mkJ (fun _ => cR) (Sm.out ?_) | refine ExG.mkI (Ob.out ?_) (fun _ => cR) (Sm.out ?_))
    | (refine CallV.newR (cW) ((pmz _)) (Sm.out ?_))
    | (refine WP.seq fun K hK => ?_)
    | (refine WP.region (rvc_sound _ _ (Sm.out ?_)))
    | ((show WP _ _ _ (.region 7 _ _) _ _); refine WP.drawKk 7 mixed (by decide +kernel) (Sm.out ?_))
    | (refine WP.drawC (c := 19) (ws := [16]) (ls := [5, 12]) (bs := [b]) mixed (by decide +kernel) (by decide +kernel) (by decide +kernel) (Sm.out ?_))
    | (refine WP.drawK rfl mixed (by decide +kernel) (Sm.out ?_))
    | (refine Ob.mk ?_; focus (first | assumption | omega | decide | trivial | (intro hob; simp only [hob, ZF]; done) | (intros; (repeat' refine And.intro ?_ ?_) <;> first | assumption | omega | trivial | decide) | (intros; simp only [ZE] at *; (repeat' refine And.intro ?_ ?_) <;> first | assumption | omega | trivial)))
    | (refine And.intro (Ob.out ?_) ?_)
    | (refine WP.block ?_)
    | (refine WP.cond rfl (fun hc => ?_) (fun hc => ?_) <;> (try simp only [ZC, reduceCtorEq, ZD] at hc) <;> (try (exact absurd hc (by decide))) <;> (try (exfalso; omega)))
    | ((first | refine WP.skip ?_ | refine WP.exit ?_); simp only [SeqQ, BlkQ, LoopQ, BodyQ, ↓reduceIte, Nat.reduceEqDiff, reduceCtorEq, look, true_and])
    | (refine WP.ret (Sm.out ?_))
    | (first | refine ExG.no (Sm.out ?_) | refine Or.inl (ExG.no (Sm.out ?_)) | refine Or.inl (And.intro (fun hg => absurd hg (by decide)) (ExG.no (Sm.out ?_))))
    | (refine Rt.mk ?_; refine And.intro ?_ ?_ <;> (intro hg; first | exact absurd hg (by decide) | refine Sm.out ?_))
    | (refine Nu.mk ?_; first | (fail_if_success (have := nb1)); intro nb1 | (fail_if_success (have := nb2)); intro nb2 | (fail_if_success (have := nb3)); intro nb3 | (fail_if_success (have := nb4)); intro nb4 | intro nbz)
    | (refine Fr.mk ?_; intro hfr; (first | (have hFRb : _ ≤ _ ∧ _ ≤ _ := And.intro hfr.1 hfr.2.1) | (have hFRb : _ ≤ _ := hfr.1) | skip); replace FR := Sm.mk (And.intro hfr FR.out); clear hfr; refine Sm.out ?_)
    | (refine Two.mk ?_ ?_)
    | (refine Cs.mk ?_; intro hcs; first | exact False.elim hcs | (exfalso; omega) | (refine Sm.out ?_))
    | go_step
    | omega
    | (simp only [maxLen_eq]; omega)
  (refine OutQ.drop _ _ (perm2 (by simp only [hget, hdel, ↓reduceIte, if_true, if_false, FR.out, hd]; first | done | rfl) (by simp only [hget, hdel, ↓reduceIte, if_true, if_false, FR.out, hd]; first | done | rfl)) (by simp only [resv, ZK, look, loadv, loadn, loadnm, load1, load1m, hget, ↓reduceIte, Nat.reduceEqDiff, Nat.reduceAdd, Nat.reduceMul, Nat.reduceLeDiff, Nat.reduceLT, reduceCtorEq, TFTxV, FR.out, hd]) ⟨nb1, nb2, FR.out.1.1, (by simp only [resv, resA, ZK, look, loadv, loadn, loadnm, load1, load1m, hget, ↓reduceIte, Nat.reduceEqDiff, Nat.reduceAdd, Nat.reduceMul, Nat.reduceLeDiff, Nat.reduceLT, reduceCtorEq, TFTxV, FR.out, hd]; first | done | rfl), rfl⟩)
end Go.Proofs.YtjdjpgjjnajjhaaDoor
