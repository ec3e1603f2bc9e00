/-
  The walks and the laws that the statement leans on, part 9.
-/
import Derived.Test.YtbkojpkdphggeaaZ8
namespace Go.Proofs.Ytbkojpkdphggeaa
open Go
set_option linter.unusedVariables false
set_option linter.unusedSimpArgs false
theorem TFCnH : (((((((type_of% tyc0) ∧ ((type_of% tyc3) ∧ (type_of% zmb3))) ∧ ((type_of% tyc4) ∧ ((type_of% zmb4) ∧ (type_of% tyc20)))) ∧ (((type_of% zmb20) ∧ ((type_of% tyc25) ∧ (type_of% mth25_31))) ∧ ((type_of% mth25_35) ∧ ((type_of% mth25_33) ∧ (type_of% mth25_32))))) ∧ ((((type_of% con25) ∧ ((type_of% zmb25) ∧ (type_of% tyc28))) ∧ ((type_of% elt28) ∧ ((type_of% mkz28) ∧ (type_of% mkc28)))) ∧ (((type_of% apT28) ∧ ((type_of% elk28) ∧ (type_of% zmb28))) ∧ ((type_of% tyc29) ∧ ((type_of% elt29) ∧ (type_of% mkz29)))))) ∧ (((((type_of% mkc29) ∧ ((type_of% apT29) ∧ (type_of% elk29))) ∧ ((type_of% zmb29) ∧ ((type_of% tyc37) ∧ (type_of% foff37_0)))) ∧ (((type_of% fpart37_0) ∧ ((type_of% foff37_1) ∧ (type_of% fpart37_1))) ∧ ((type_of% foff37_2) ∧ ((type_of% fpart37_2) ∧ (type_of% zmb37))))) ∧ ((((type_of% bldT37) ∧ ((type_of% tyc50) ∧ (type_of% foff50_0))) ∧ ((type_of% fpart50_0) ∧ ((type_of% foff50_1) ∧ (type_of% fpart50_1)))) ∧ (((type_of% foff50_2) ∧ ((type_of% fpart50_2) ∧ (type_of% foff50_3))) ∧ (((type_of% fpart50_3) ∧ (type_of% foff50_4)) ∧ ((type_of% fpart50_4) ∧ (type_of% fe50))))))) ∧ ((((((type_of% zmb50) ∧ ((type_of% bldT50) ∧ (type_of% tyc53))) ∧ ((type_of% foff53_0) ∧ ((type_of% fpart53_0) ∧ (type_of% foff53_1)))) ∧ (((type_of% fpart53_1) ∧ ((type_of% zmb53) ∧ (type_of% bldT53))) ∧ ((type_of% tyc55) ∧ ((type_of% elt55) ∧ (type_of% mkz55))))) ∧ ((((type_of% mkc55) ∧ ((type_of% apT55) ∧ (type_of% elk55))) ∧ ((type_of% zmb55) ∧ ((type_of% tyc57) ∧ (type_of% foff57_0)))) ∧ (((type_of% fpart57_0) ∧ ((type_of% foff57_1) ∧ (type_of% fpart57_1))) ∧ ((type_of% foff57_2) ∧ ((type_of% fpart57_2) ∧ (type_of% zmb57)))))) ∧ (((((type_of% bldT57) ∧ ((type_of% tyc63) ∧ (type_of% foff63_0))) ∧ ((type_of% fpart63_0) ∧ ((type_of% zmb63) ∧ (type_of% bldT63)))) ∧ (((type_of% tyc65) ∧ ((type_of% foff65_0) ∧ (type_of% fpart65_0))) ∧ ((type_of% zmb65) ∧ ((type_of% bldT65) ∧ (type_of% Try.underlying0))))) ∧ ((((type_of% Try.underlying3) ∧ ((type_of% Try.underlying4) ∧ (type_of% Try.underlying20))) ∧ ((type_of% Try.underlying25) ∧ ((type_of% Try.underlying28) ∧ (type_of% Try.underlying29)))) ∧ (((type_of% Try.underlying37) ∧ ((type_of% Try.underlying50) ∧ (type_of% Try.underlying53))) ∧ (((type_of% Try.underlying55) ∧ (type_of% Try.underlying57)) ∧ ((type_of% Try.underlying63) ∧ (type_of% Try.underlying65)))))))) :=
  ⟨⟨⟨⟨⟨⟨tyc0, ⟨tyc3, zmb3⟩⟩, ⟨tyc4, ⟨zmb4, tyc20⟩⟩⟩, ⟨⟨zmb20, ⟨tyc25, mth25_31⟩⟩, ⟨mth25_35, ⟨mth25_33, mth25_32⟩⟩⟩⟩, ⟨⟨⟨con25, ⟨zmb25, tyc28⟩⟩, ⟨elt28, ⟨mkz28, mkc28⟩⟩⟩, ⟨⟨apT28, ⟨elk28, zmb28⟩⟩, ⟨tyc29, ⟨elt29, mkz29⟩⟩⟩⟩⟩, ⟨⟨⟨⟨mkc29, ⟨apT29, elk29⟩⟩, ⟨zmb29, ⟨tyc37, foff37_0⟩⟩⟩, ⟨⟨fpart37_0, ⟨foff37_1, fpart37_1⟩⟩, ⟨foff37_2, ⟨fpart37_2, zmb37⟩⟩⟩⟩, ⟨⟨⟨bldT37, ⟨tyc50, foff50_0⟩⟩, ⟨fpart50_0, ⟨foff50_1, fpart50_1⟩⟩⟩, ⟨⟨foff50_2, ⟨fpart50_2, foff50_3⟩⟩, ⟨⟨fpart50_3, foff50_4⟩, ⟨fpart50_4, fe50⟩⟩⟩⟩⟩⟩, ⟨⟨⟨⟨⟨zmb50, ⟨bldT50, tyc53⟩⟩, ⟨foff53_0, ⟨fpart53_0, foff53_1⟩⟩⟩, ⟨⟨fpart53_1, ⟨zmb53, bldT53⟩⟩, ⟨tyc55, ⟨elt55, mkz55⟩⟩⟩⟩, ⟨⟨⟨mkc55, ⟨apT55, elk55⟩⟩, ⟨zmb55, ⟨tyc57, foff57_0⟩⟩⟩, ⟨⟨fpart57_0, ⟨foff57_1, fpart57_1⟩⟩, ⟨foff57_2, ⟨fpart57_2, zmb57⟩⟩⟩⟩⟩, ⟨⟨⟨⟨bldT57, ⟨tyc63, foff63_0⟩⟩, ⟨fpart63_0, ⟨zmb63, bldT63⟩⟩⟩, ⟨⟨tyc65, ⟨foff65_0, fpart65_0⟩⟩, ⟨zmb65, ⟨bldT65, Try.underlying0⟩⟩⟩⟩, ⟨⟨⟨Try.underlying3, ⟨Try.underlying4, Try.underlying20⟩⟩, ⟨Try.underlying25, ⟨Try.underlying28, Try.underlying29⟩⟩⟩, ⟨⟨Try.underlying37, ⟨Try.underlying50, Try.underlying53⟩⟩, ⟨⟨Try.underlying55, Try.underlying57⟩, ⟨Try.underlying63, Try.underlying65⟩⟩⟩⟩⟩⟩⟩
theorem heard_nil : ACt Try.prog 18 [nps] [] (Fn nsl) := by
  refine ACt.intro Try.func18 rfl (by kernel_rfl) (by simp [Try.ntmps18]) (fun cx => ?_)
  simp only [argE, Try.ntmps18, Try.results18]
  first | (have FRx := FR; clear FRx) | (have FR : Sm (¬ ((1 : Nat) = 0)) := Sm.mk Nat.one_ne_zero)
  repeat' first
    | (refine Sm.mk ?_; try simp -dsimp only [ZK, rvc, drawF, headN, pureH, stp, dvc, calleeOf, gcall, pev, eff, newB, okd, og, ogs, ogo, ogp, slv, bltv, opd, litv, strip, one, both, putE, St.put, look, gdOf, gdv, picka, pickv, pickw, binv, bini, bins, binb, binp, binq, isSlT, bina, shp, eqCells, unv, convv, nilv, faddv, addp, idxav, idxp, load1, load1m, loadn, loadnm, loadv, hget, hset, hrep, hdel, slicev, slice3v, bnd, shift1, lenv, capv, IntKind.bits, extractv, fieldv, indexv, min2v, max2v, mkiv, tasv, tasz, cellsA, fillA, buildv, stC, oneC, rowMB, intsA, plN, appE, appZ, appC, appS, srcB, appNZ, appNC, VwL, srcC, srcZ, srcM, isBoolT, isPtrT, isSliceT, uOk, Value.oneCell', Nat.reducePow, Int.reducePow, Nat.reduceAdd, Nat.reduceMul, Nat.reduceSub, Nat.reduceLT, Nat.reduceLeDiff, Nat.reduceEqDiff, Nat.reduceBEq, Nat.reduceDiv, Nat.reduceMod, ↓reduceIte, reduceCtorEq, Int.reduceToNat, Int.reduceLT, Int.reduceLE, TFCnH, SeqQ, BlkQ, LoopQ, BodyQ, FR.out])
    | (refine WP.seq fun K hK => ?_)
    | (refine WP.region (rvc_sound _ _ (Sm.out ?_)))
    | (refine WP.drawK rfl mixed (by decide +kernel) (Sm.out ?_))
    | (refine Ob.mk ?_; focus (first | assumption | omega | decide | trivial | (intro hob; simp only [hob, ZF]; done) | (intros; (repeat' refine And.intro ?_ ?_) <;> first | assumption | omega | trivial | decide) | (intros; simp only [ZE] at *; (repeat' refine And.intro ?_ ?_) <;> first | assumption | omega | trivial)))
    | (refine And.intro (Ob.out ?_) ?_)
    | (refine WP.block ?_)
    | (refine WP.cond rfl (fun hc => ?_) (fun hc => ?_) <;> (try simp only [ZC, reduceCtorEq, ZD] at hc) <;> (try (exact absurd hc (by decide))) <;> (try (exfalso; omega)))
    | ((first | refine WP.skip ?_ | refine WP.exit ?_); simp only [SeqQ, BlkQ, LoopQ, BodyQ, ↓reduceIte, Nat.reduceEqDiff, reduceCtorEq, look, true_and])
    | (refine WP.ret (Sm.out ?_))
    | (first | refine ExG.no (Sm.out ?_) | refine Or.inl (ExG.no (Sm.out ?_)) | refine Or.inl (And.intro (fun hg => absurd hg (by decide)) (ExG.no (Sm.out ?_))))
    | (refine Rt.mk ?_; refine And.intro ?_ ?_ <;> (intro hg; first | exact absurd hg (by decide) | refine Sm.out ?_))
    | (refine Nu.mk ?_; first | (fail_if_success (have := nb1)); intro nb1 | (fail_if_success (have := nb2)); intro nb2 | (fail_if_success (have := nb3)); intro nb3 | (fail_if_success (have := nb4)); intro nb4 | (fail_if_success (have := nb5)); intro nb5 | (fail_if_success (have := nb6)); intro nb6 | (fail_if_success (have := nb7)); intro nb7 | (fail_if_success (have := nb8)); intro nb8 | intro nbz)
    | (refine Fr.mk ?_; intro hfr; (first | (have hFRb : _ ≤ _ ∧ _ ≤ _ := And.intro hfr.1 hfr.2.1) | (have hFRb : _ ≤ _ := hfr.1) | skip); replace FR := Sm.mk (And.intro hfr FR.out); clear hfr; refine Sm.out ?_)
    | (refine Two.mk ?_ ?_)
    | (refine Cs.mk ?_; intro hcs; first | exact False.elim hcs | (exfalso; omega) | (refine Sm.out ?_))
    | go_step
    | omega
    | (simp only [maxLen_eq]; omega)
  (refine OutQ.all ?_ ?_; (focus (simp only [resv, ZK, look, loadv, loadn, loadnm, load1, load1m, hget, ↓reduceIte, Nat.reduceEqDiff, Nat.reduceAdd, Nat.reduceMul, Nat.reduceLeDiff, Nat.reduceLT, reduceCtorEq, TFCnH])); (try simp only [resv, resA, Fn, ZK, look, loadv, loadn, loadnm, load1, load1m, hget, ↓reduceIte, Nat.reduceEqDiff, Nat.reduceAdd, Nat.reduceMul, Nat.reduceLeDiff, Nat.reduceLT, reduceCtorEq, TFCnH]); (try simp [resA, Fn, look]))
theorem heard_n (c : Nat) (F N : AV) : ACt Try.prog 18 [pt c 0] [(c, chM F nsl N)] (fun r F' => r = nsl ∧ F' = [(c, chM F nsl N)]) := by
  have cC := clone_nil
  refine ACt.intro Try.func18 rfl (by kernel_rfl) (by simp [Try.ntmps18]) (fun cx => ?_)
  simp only [argE, Try.ntmps18, Try.results18]
  first | (have FRx := FR; clear FRx) | (have FR : Sm (¬ ((1 : Nat) = 0)) := Sm.mk Nat.one_ne_zero)
  repeat' first
    | (refine Sm.mk ?_; try simp -dsimp only [ZK, rvc, drawF, headN, pureH, stp, dvc, calleeOf, gcall, pev, eff, newB, okd, og, ogs, ogo, ogp, slv, bltv, opd, litv, strip, one, both, putE, St.put, look, gdOf, gdv, picka, pickv, pickw, binv, bini, bins, binb, binp, binq, isSlT, bina, shp, eqCells, unv, convv, nilv, faddv, addp, idxav, idxp, load1, load1m, loadn, loadnm, loadv, hget, hset, hrep, hdel, slicev, slice3v, bnd, shift1, lenv, capv, IntKind.bits, extractv, fieldv, indexv, min2v, max2v, mkiv, tasv, tasz, cellsA, fillA, buildv, stC, oneC, rowMB, intsA, plN, appE, appZ, appC, appS, srcB, appNZ, appNC, VwL, srcC, srcZ, srcM, isBoolT, isPtrT, isSliceT, uOk, Value.oneCell', Nat.reducePow, Int.reducePow, Nat.reduceAdd, Nat.reduceMul, Nat.reduceSub, Nat.reduceLT, Nat.reduceLeDiff, Nat.reduceEqDiff, Nat.reduceBEq, Nat.reduceDiv, Nat.reduceMod, ↓reduceIte, reduceCtorEq, Int.reduceToNat, Int.reduceLT, Int.reduceLE, TFCnH, SeqQ, BlkQ, LoopQ, BodyQ, FR.out])
    | (first | refine CallV.fn (cC) (Sm.out ?_) | refine ExF.mk (cC) (Sm.out ?_) | refine ExG.mk (fun _ => cC) (Sm.out ?_) | refine ExG.mkJ (fun _ => cC) (Sm.out ?_) | refine ExG.mkI (Ob.out ?_) (fun _ => cC) (Sm.out ?_))
    | (refine WP.seq fun K hK => ?_)
    | (refine WP.region (rvc_sound _ _ (Sm.out ?_)))
    | (refine WP.drawK rfl mixed (by decide +kernel) (Sm.out ?_))
    | (refine Ob.mk ?_; focus (first | assumption | omega | decide | trivial | (intro hob; simp only [hob, ZF]; done) | (intros; (repeat' refine And.intro ?_ ?_) <;> first | assumption | omega | trivial | decide) | (intros; simp only [ZE] at *; (repeat' refine And.intro ?_ ?_) <;> first | assumption | omega | trivial)))
    | (refine And.intro (Ob.out ?_) ?_)
    | (refine WP.block ?_)
    | (refine WP.cond rfl (fun hc => ?_) (fun hc => ?_) <;> (try simp only [ZC, reduceCtorEq, ZD] at hc) <;> (try (exact absurd hc (by decide))) <;> (try (exfalso; omega)))
    | ((first | refine WP.skip ?_ | refine WP.exit ?_); simp only [SeqQ, BlkQ, LoopQ, BodyQ, ↓reduceIte, Nat.reduceEqDiff, reduceCtorEq, look, true_and])
    | (refine WP.ret (Sm.out ?_))
    | (first | refine ExG.no (Sm.out ?_) | refine Or.inl (ExG.no (Sm.out ?_)) | refine Or.inl (And.intro (fun hg => absurd hg (by decide)) (ExG.no (Sm.out ?_))))
    | (refine Rt.mk ?_; refine And.intro ?_ ?_ <;> (intro hg; first | exact absurd hg (by decide) | refine Sm.out ?_))
    | (refine Nu.mk ?_; first | (fail_if_success (have := nb1)); intro nb1 | (fail_if_success (have := nb2)); intro nb2 | (fail_if_success (have := nb3)); intro nb3 | (fail_if_success (have := nb4)); intro nb4 | (fail_if_success (have := nb5)); intro nb5 | (fail_if_success (have := nb6)); intro nb6 | (fail_if_success (have := nb7)); intro nb7 | (fail_if_success (have := nb8)); intro nb8 | intro nbz)
    | (refine Fr.mk ?_; intro hfr; (first | (have hFRb : _ ≤ _ ∧ _ ≤ _ := And.intro hfr.1 hfr.2.1) | (have hFRb : _ ≤ _ := hfr.1) | skip); replace FR := Sm.mk (And.intro hfr FR.out); clear hfr; refine Sm.out ?_)
    | (refine Two.mk ?_ ?_)
    | (refine Cs.mk ?_; intro hcs; first | exact False.elim hcs | (exfalso; omega) | (refine Sm.out ?_))
    | go_step
    | omega
    | (simp only [maxLen_eq]; omega)
  (refine OutQ.upd (by simp only [resv, ZK, look, loadv, loadn, loadnm, load1, load1m, hget, ↓reduceIte, Nat.reduceEqDiff, Nat.reduceAdd, Nat.reduceMul, Nat.reduceLeDiff, Nat.reduceLT, reduceCtorEq, TFCnH, FR.out]) (by simp only [resv, resA, ZK, look, loadv, loadn, loadnm, load1, load1m, hget, ↓reduceIte, Nat.reduceEqDiff, Nat.reduceAdd, Nat.reduceMul, Nat.reduceLeDiff, Nat.reduceLT, reduceCtorEq, TFCnH, FR.out]; first | done | rfl) (by simp only [hget, ↓reduceIte, if_true, if_false, FR.out]; first | done | rfl) ?_ <;> first | exact rfl | (simp only [ZK, look, loadv, loadn, loadnm, load1, load1m, hget, ↓reduceIte, Nat.reduceEqDiff, Nat.reduceAdd, Nat.reduceMul, Nat.reduceLeDiff, Nat.reduceLT, reduceCtorEq, TFCnH, FR.out]; done) | skip)
theorem heard_s (c x k : Nat) (h : List Ky) (n : Nat) (hd : c ≠ x ∧ x ≠ c) (F N : AV) (hn : h.length = n) (h1 : 1 ≤ n) (hk : n ≤ k ∧ k ≤ 9223372036854775807) (hl : n ≤ 100000) :
    ACt Try.prog 18 [pt c 0] [(x, .cells (kcs h) (k * 5) 50), (c, chM F (ms x 0 n k) N)] (fun r F' => r = .sl n (kcs h) ∧ F' = [(x, .cells (kcs h) (k * 5) 50), (c, chM F (ms x 0 n k) N)]) := by
  have cC := clone_own h n x k hn h1 hl hk
  obtain ⟨C, hC⟩ : ∃ C, C = kcs h := ⟨_, rfl⟩
  rw [← hC] at cC ⊢
  refine ACt.intro Try.func18 rfl (by kernel_rfl) (by simp [Try.ntmps18]) (fun cx => ?_)
  simp only [argE, Try.ntmps18, Try.results18]
  first | (have FRx := FR; clear FRx) | (have FR : Sm (¬ ((1 : Nat) = 0)) := Sm.mk Nat.one_ne_zero)
  repeat' first
    | (refine Sm.mk ?_; try simp -dsimp only [ZK, rvc, drawF, headN, pureH, stp, dvc, calleeOf, gcall, pev, eff, newB, okd, og, ogs, ogo, ogp, slv, bltv, opd, litv, strip, one, both, putE, St.put, look, gdOf, gdv, picka, pickv, pickw, binv, bini, bins, binb, binp, binq, isSlT, bina, shp, eqCells, unv, convv, nilv, faddv, addp, idxav, idxp, load1, load1m, loadn, loadnm, loadv, hget, hset, hrep, hdel, slicev, slice3v, bnd, shift1, lenv, capv, IntKind.bits, extractv, fieldv, indexv, min2v, max2v, mkiv, tasv, tasz, cellsA, fillA, buildv, stC, oneC, rowMB, intsA, plN, appE, appZ, appC, appS, srcB, appNZ, appNC, VwL, srcC, srcZ, srcM, isBoolT, isPtrT, isSliceT, uOk, Value.oneCell', Nat.reducePow, Int.reducePow, Nat.reduceAdd, Nat.reduceMul, Nat.reduceSub, Nat.reduceLT, Nat.reduceLeDiff, Nat.reduceEqDiff, Nat.reduceBEq, Nat.reduceDiv, Nat.reduceMod, ↓reduceIte, reduceCtorEq, Int.reduceToNat, Int.reduceLT, Int.reduceLE, TFCnH, SeqQ, BlkQ, LoopQ, BodyQ, hd, FR.out])
    | (refine CallV.upd (by simp only [hget, ↓reduceIte, FR.out, hd]; first | done | rfl) (cC) (Sm.out ?_))
    | (refine WP.seq fun K hK => ?_)
    | (refine WP.region (rvc_sound _ _ (Sm.out ?_)))
    | (refine WP.drawK rfl mixed (by decide +kernel) (Sm.out ?_))
    | (refine Ob.mk ?_; focus (first | assumption | omega | decide | trivial | (intro hob; simp only [hob, ZF]; done) | (intros; (repeat' refine And.intro ?_ ?_) <;> first | assumption | omega | trivial | decide) | (intros; simp only [ZE] at *; (repeat' refine And.intro ?_ ?_) <;> first | assumption | omega | trivial)))
    | (refine And.intro (Ob.out ?_) ?_)
    | (refine WP.block ?_)
    | (refine WP.cond rfl (fun hc => ?_) (fun hc => ?_) <;> (try simp only [ZC, reduceCtorEq, ZD] at hc) <;> (try (exact absurd hc (by decide))) <;> (try (exfalso; omega)))
    | ((first | refine WP.skip ?_ | refine WP.exit ?_); simp only [SeqQ, BlkQ, LoopQ, BodyQ, ↓reduceIte, Nat.reduceEqDiff, reduceCtorEq, look, true_and])
    | (refine WP.ret (Sm.out ?_))
    | (first | refine ExG.no (Sm.out ?_) | refine Or.inl (ExG.no (Sm.out ?_)) | refine Or.inl (And.intro (fun hg => absurd hg (by decide)) (ExG.no (Sm.out ?_))))
    | (refine Rt.mk ?_; refine And.intro ?_ ?_ <;> (intro hg; first | exact absurd hg (by decide) | refine Sm.out ?_))
    | (refine Nu.mk ?_; first | (fail_if_success (have := nb1)); intro nb1 | (fail_if_success (have := nb2)); intro nb2 | (fail_if_success (have := nb3)); intro nb3 | (fail_if_success (have := nb4)); intro nb4 | (fail_if_success (have := nb5)); intro nb5 | (fail_if_success (have := nb6)); intro nb6 | (fail_if_success (have := nb7)); intro nb7 | (fail_if_success (have := nb8)); intro nb8 | intro nbz)
    | (refine Fr.mk ?_; intro hfr; (first | (have hFRb : _ ≤ _ ∧ _ ≤ _ := And.intro hfr.1 hfr.2.1) | (have hFRb : _ ≤ _ := hfr.1) | skip); replace FR := Sm.mk (And.intro hfr FR.out); clear hfr; refine Sm.out ?_)
    | (refine Two.mk ?_ ?_)
    | (refine Cs.mk ?_; intro hcs; first | exact False.elim hcs | (exfalso; omega) | (refine Sm.out ?_))
    | go_step
    | omega
    | (simp only [maxLen_eq]; omega)
  (refine OutQ.drop _ _ (perm2 (by simp only [hget, hdel, ↓reduceIte, if_true, if_false, FR.out, hd]; first | done | rfl) (by simp only [hget, hdel, ↓reduceIte, if_true, if_false, FR.out, hd]; first | done | rfl)) (by simp only [resv, ZK, look, loadv, loadn, loadnm, load1, load1m, hget, ↓reduceIte, Nat.reduceEqDiff, Nat.reduceAdd, Nat.reduceMul, Nat.reduceLeDiff, Nat.reduceLT, reduceCtorEq, TFCnH, FR.out, hd]) ⟨(by simp only [resv, resA, ZK, look, loadv, loadn, loadnm, load1, load1m, hget, ↓reduceIte, Nat.reduceEqDiff, Nat.reduceAdd, Nat.reduceMul, Nat.reduceLeDiff, Nat.reduceLT, reduceCtorEq, TFCnH, FR.out, hd]; first | done | rfl), rfl⟩)
/-- what flies, as a list of others -/
def flR (l : List Pk) : AV := match l with
  | [] => nsl
  | p :: r => .sl (p :: r).length (pcs (p :: r))
theorem flR_ne {l : List Pk} (h : l ≠ []) : flR l = .sl l.length (pcs l) := by
  cases l with
  | nil => exact absurd rfl h
  | cons p r => rfl
theorem flying_nil : ACt Try.prog 17 [nps] [] (Fn nsl) := by
  refine ACt.intro Try.func17 rfl (by kernel_rfl) (by simp [Try.ntmps17]) (fun cx => ?_)
  simp only [argE, Try.ntmps17, Try.results17]
  first | (have FRx := FR; clear FRx) | (have FR : Sm (¬ ((1 : Nat) = 0)) := Sm.mk Nat.one_ne_zero)
  repeat' first
    | (refine Sm.mk ?_; try simp -dsimp only [ZK, rvc, drawF, headN, pureH, stp, dvc, calleeOf, gcall, pev, eff, newB, okd, og, ogs, ogo, ogp, slv, bltv, opd, litv, strip, one, both, putE, St.put, look, gdOf, gdv, picka, pickv, pickw, binv, bini, bins, binb, binp, binq, isSlT, bina, shp, eqCells, unv, convv, nilv, faddv, addp, idxav, idxp, load1, load1m, loadn, loadnm, loadv, hget, hset, hrep, hdel, slicev, slice3v, bnd, shift1, lenv, capv, IntKind.bits, extractv, fieldv, indexv, min2v, max2v, mkiv, tasv, tasz, cellsA, fillA, buildv, stC, oneC, rowMB, intsA, plN, appE, appZ, appC, appS, srcB, appNZ, appNC, VwL, srcC, srcZ, srcM, isBoolT, isPtrT, isSliceT, uOk, Value.oneCell', Nat.reducePow, Int.reducePow, Nat.reduceAdd, Nat.reduceMul, Nat.reduceSub, Nat.reduceLT, Nat.reduceLeDiff, Nat.reduceEqDiff, Nat.reduceBEq, Nat.reduceDiv, Nat.reduceMod, ↓reduceIte, reduceCtorEq, Int.reduceToNat, Int.reduceLT, Int.reduceLE, TFCnH, SeqQ, BlkQ, LoopQ, BodyQ, FR.out])
    | (refine WP.seq fun K hK => ?_)
    | (refine WP.region (rvc_sound _ _ (Sm.out ?_)))
    | (refine WP.drawK rfl mixed (by decide +kernel) (Sm.out ?_))
    | (refine Ob.mk ?_; focus (first | assumption | omega | decide | trivial | (intro hob; simp only [hob, ZF]; done) | (intros; (repeat' refine And.intro ?_ ?_) <;> first | assumption | omega | trivial | decide) | (intros; simp only [ZE] at *; (repeat' refine And.intro ?_ ?_) <;> first | assumption | omega | trivial)))
    | (refine And.intro (Ob.out ?_) ?_)
    | (refine WP.block ?_)
    | (refine WP.cond rfl (fun hc => ?_) (fun hc => ?_) <;> (try simp only [ZC, reduceCtorEq, ZD] at hc) <;> (try (exact absurd hc (by decide))) <;> (try (exfalso; omega)))
    | ((first | refine WP.skip ?_ | refine WP.exit ?_); simp only [SeqQ, BlkQ, LoopQ, BodyQ, ↓reduceIte, Nat.reduceEqDiff, reduceCtorEq, look, true_and])
    | (refine WP.ret (Sm.out ?_))
    | (first | refine ExG.no (Sm.out ?_) | refine Or.inl (ExG.no (Sm.out ?_)) | refine Or.inl (And.intro (fun hg => absurd hg (by decide)) (ExG.no (Sm.out ?_))))
    | (refine Rt.mk ?_; refine And.intro ?_ ?_ <;> (intro hg; first | exact absurd hg (by decide) | refine Sm.out ?_))
    | (refine Nu.mk ?_; first | (fail_if_success (have := nb1)); intro nb1 | (fail_if_success (have := nb2)); intro nb2 | (fail_if_success (have := nb3)); intro nb3 | (fail_if_success (have := nb4)); intro nb4 | (fail_if_success (have := nb5)); intro nb5 | (fail_if_success (have := nb6)); intro nb6 | (fail_if_success (have := nb7)); intro nb7 | (fail_if_success (have := nb8)); intro nb8 | intro nbz)
    | (refine Fr.mk ?_; intro hfr; (first | (have hFRb : _ ≤ _ ∧ _ ≤ _ := And.intro hfr.1 hfr.2.1) | (have hFRb : _ ≤ _ := hfr.1) | skip); replace FR := Sm.mk (And.intro hfr FR.out); clear hfr; refine Sm.out ?_)
    | (refine Two.mk ?_ ?_)
    | (refine Cs.mk ?_; intro hcs; first | exact False.elim hcs | (exfalso; omega) | (refine Sm.out ?_))
    | go_step
    | omega
    | (simp only [maxLen_eq]; omega)
  (refine OutQ.all ?_ ?_; (focus (simp only [resv, ZK, look, loadv, loadn, loadnm, load1, load1m, hget, ↓reduceIte, Nat.reduceEqDiff, Nat.reduceAdd, Nat.reduceMul, Nat.reduceLeDiff, Nat.reduceLT, reduceCtorEq, TFCnH])); (try simp only [resv, resA, Fn, ZK, look, loadv, loadn, loadnm, load1, load1m, hget, ↓reduceIte, Nat.reduceEqDiff, Nat.reduceAdd, Nat.reduceMul, Nat.reduceLeDiff, Nat.reduceLT, reduceCtorEq, TFCnH]); (try simp [resA, Fn, look]))
theorem flying_n (c : Nat) (H N : AV) : ACt Try.prog 17 [pt c 0] [(c, chM nsl H N)] (fun r F' => r = nsl ∧ F' = [(c, chM nsl H N)]) := by
  have k0 : decide ((0 : Int) < 0) = false := by decide
  refine ACt.intro Try.func17 rfl (by kernel_rfl) (by simp [Try.ntmps17]) (fun cx => ?_)
  simp only [argE, Try.ntmps17, Try.results17]
  first | (have FRx := FR; clear FRx) | (have FR : Sm (¬ ((1 : Nat) = 0)) := Sm.mk Nat.one_ne_zero)
  repeat' first
    | (refine Sm.mk ?_; try simp -dsimp only [ZK, rvc, drawF, headN, pureH, stp, dvc, calleeOf, gcall, pev, eff, newB, okd, og, ogs, ogo, ogp, slv, bltv, opd, litv, strip, one, both, putE, St.put, look, gdOf, gdv, picka, pickv, pickw, binv, bini, bins, binb, binp, binq, isSlT, bina, shp, eqCells, unv, convv, nilv, faddv, addp, idxav, idxp, load1, load1m, loadn, loadnm, loadv, hget, hset, hrep, hdel, slicev, slice3v, bnd, shift1, lenv, capv, IntKind.bits, extractv, fieldv, indexv, min2v, max2v, mkiv, tasv, tasz, cellsA, fillA, buildv, stC, oneC, rowMB, intsA, plN, appE, appZ, appC, appS, srcB, appNZ, appNC, VwL, srcC, srcZ, srcM, isBoolT, isPtrT, isSliceT, uOk, Value.oneCell', Nat.reducePow, Int.reducePow, Nat.reduceAdd, Nat.reduceMul, Nat.reduceSub, Nat.reduceLT, Nat.reduceLeDiff, Nat.reduceEqDiff, Nat.reduceBEq, Nat.reduceDiv, Nat.reduceMod, ↓reduceIte, reduceCtorEq, Int.reduceToNat, Int.reduceLT, Int.reduceLE, TFCnH, SeqQ, BlkQ, LoopQ, BodyQ, k0, FR.out])
    | (refine WP.seq fun K hK => ?_)
    | (refine WP.region (rvc_sound _ _ (Sm.out ?_)))
    | (refine WP.drawK rfl mixed (by decide +kernel) (Sm.out ?_))
    | (refine Ob.mk ?_; focus (first | assumption | omega | decide | trivial | (intro hob; simp only [hob, ZF]; done) | (intros; (repeat' refine And.intro ?_ ?_) <;> first | assumption | omega | trivial | decide) | (intros; simp only [ZE] at *; (repeat' refine And.intro ?_ ?_) <;> first | assumption | omega | trivial)))
    | (refine And.intro (Ob.out ?_) ?_)
    | (refine WP.block ?_)
    | (refine WP.cond rfl (fun hc => ?_) (fun hc => ?_) <;> (try simp only [ZC, reduceCtorEq, ZD] at hc) <;> (try (exact absurd hc (by decide))) <;> (try (exfalso; omega)))
    | ((first | refine WP.skip ?_ | refine WP.exit ?_); simp only [SeqQ, BlkQ, LoopQ, BodyQ, ↓reduceIte, Nat.reduceEqDiff, reduceCtorEq, look, true_and])
    | (refine WP.ret (Sm.out ?_))
    | (first | refine ExG.no (Sm.out ?_) | refine Or.inl (ExG.no (Sm.out ?_)) | refine Or.inl (And.intro (fun hg => absurd hg (by decide)) (ExG.no (Sm.out ?_))))
    | (refine Rt.mk ?_; refine And.intro ?_ ?_ <;> (intro hg; first | exact absurd hg (by decide) | refine Sm.out ?_))
    | (refine Nu.mk ?_; first | (fail_if_success (have := nb1)); intro nb1 | (fail_if_success (have := nb2)); intro nb2 | (fail_if_success (have := nb3)); intro nb3 | (fail_if_success (have := nb4)); intro nb4 | (fail_if_success (have := nb5)); intro nb5 | (fail_if_success (have := nb6)); intro nb6 | (fail_if_success (have := nb7)); intro nb7 | (fail_if_success (have := nb8)); intro nb8 | intro nbz)
    | (refine Fr.mk ?_; intro hfr; (first | (have hFRb : _ ≤ _ ∧ _ ≤ _ := And.intro hfr.1 hfr.2.1) | (have hFRb : _ ≤ _ := hfr.1) | skip); replace FR := Sm.mk (And.intro hfr FR.out); clear hfr; refine Sm.out ?_)
    | (refine Two.mk ?_ ?_)
    | (refine Cs.mk ?_; intro hcs; first | exact False.elim hcs | (exfalso; omega) | (refine Sm.out ?_))
    | go_step
    | omega
    | (simp only [maxLen_eq]; omega)
  refine WP.loop (Γ := Nat) (fun g => ⟨[(15, iv .i64 0), (14, iv .i64 0), (3, nsl)], [(c, chM nsl H N)]⟩) (fun g => True) (fun g => 0) 0 trivial (Sub.pick (by simp [pickB, hget, hdel, FR.out]) (by simp [look])) ?_
  intro g hg
  have FR : Sm (¬ ((1 : Nat) = 0)) := Sm.mk Nat.one_ne_zero
  first | (have FRx := FR; clear FRx) | (have FR : Sm (¬ ((1 : Nat) = 0)) := Sm.mk Nat.one_ne_zero)
  repeat' first
    | (refine Sm.mk ?_; try simp -dsimp only [ZK, rvc, drawF, headN, pureH, stp, dvc, calleeOf, gcall, pev, eff, newB, okd, og, ogs, ogo, ogp, slv, bltv, opd, litv, strip, one, both, putE, St.put, look, gdOf, gdv, picka, pickv, pickw, binv, bini, bins, binb, binp, binq, isSlT, bina, shp, eqCells, unv, convv, nilv, faddv, addp, idxav, idxp, load1, load1m, loadn, loadnm, loadv, hget, hset, hrep, hdel, slicev, slice3v, bnd, shift1, lenv, capv, IntKind.bits, extractv, fieldv, indexv, min2v, max2v, mkiv, tasv, tasz, cellsA, fillA, buildv, stC, oneC, rowMB, intsA, plN, appE, appZ, appC, appS, srcB, appNZ, appNC, VwL, srcC, srcZ, srcM, isBoolT, isPtrT, isSliceT, uOk, Value.oneCell', Nat.reducePow, Int.reducePow, Nat.reduceAdd, Nat.reduceMul, Nat.reduceSub, Nat.reduceLT, Nat.reduceLeDiff, Nat.reduceEqDiff, Nat.reduceBEq, Nat.reduceDiv, Nat.reduceMod, ↓reduceIte, reduceCtorEq, Int.reduceToNat, Int.reduceLT, Int.reduceLE, TFCnH, SeqQ, BlkQ, LoopQ, BodyQ, k0, FR.out])
    | (refine WP.seq fun K hK => ?_)
    | (refine WP.region (rvc_sound _ _ (Sm.out ?_)))
    | (refine WP.drawK rfl mixed (by decide +kernel) (Sm.out ?_))
    | (refine Ob.mk ?_; focus (first | assumption | omega | decide | trivial | (intro hob; simp only [hob, ZF]; done) | (intros; (repeat' refine And.intro ?_ ?_) <;> first | assumption | omega | trivial | decide) | (intros; simp only [ZE] at *; (repeat' refine And.intro ?_ ?_) <;> first | assumption | omega | trivial)))
    | (refine And.intro (Ob.out ?_) ?_)
    | (refine WP.block ?_)
    | (refine WP.cond rfl (fun hc => ?_) (fun hc => ?_) <;> (try simp only [ZC, reduceCtorEq, ZD] at hc) <;> (try (exact absurd hc (by decide))) <;> (try (exfalso; omega)))
    | ((first | refine WP.skip ?_ | refine WP.exit ?_); simp only [SeqQ, BlkQ, LoopQ, BodyQ, ↓reduceIte, Nat.reduceEqDiff, reduceCtorEq, look, true_and])
    | (refine WP.ret (Sm.out ?_))
    | (first | refine ExG.no (Sm.out ?_) | refine Or.inl (ExG.no (Sm.out ?_)) | refine Or.inl (And.intro (fun hg => absurd hg (by decide)) (ExG.no (Sm.out ?_))))
    | (refine Rt.mk ?_; refine And.intro ?_ ?_ <;> (intro hg; first | exact absurd hg (by decide) | refine Sm.out ?_))
    | (refine Nu.mk ?_; first | (fail_if_success (have := nb1)); intro nb1 | (fail_if_success (have := nb2)); intro nb2 | (fail_if_success (have := nb3)); intro nb3 | (fail_if_success (have := nb4)); intro nb4 | (fail_if_success (have := nb5)); intro nb5 | (fail_if_success (have := nb6)); intro nb6 | (fail_if_success (have := nb7)); intro nb7 | (fail_if_success (have := nb8)); intro nb8 | intro nbz)
    | (refine Fr.mk ?_; intro hfr; (first | (have hFRb : _ ≤ _ ∧ _ ≤ _ := And.intro hfr.1 hfr.2.1) | (have hFRb : _ ≤ _ := hfr.1) | skip); replace FR := Sm.mk (And.intro hfr FR.out); clear hfr; refine Sm.out ?_)
    | (refine Two.mk ?_ ?_)
    | (refine Cs.mk ?_; intro hcs; first | exact False.elim hcs | (exfalso; omega) | (refine Sm.out ?_))
    | go_step
    | omega
    | (simp only [maxLen_eq]; omega)
  (refine OutQ.upd (by simp only [resv, ZK, look, loadv, loadn, loadnm, load1, load1m, hget, ↓reduceIte, Nat.reduceEqDiff, Nat.reduceAdd, Nat.reduceMul, Nat.reduceLeDiff, Nat.reduceLT, reduceCtorEq, TFCnH, FR.out]) (by simp only [resv, resA, ZK, look, loadv, loadn, loadnm, load1, load1m, hget, ↓reduceIte, Nat.reduceEqDiff, Nat.reduceAdd, Nat.reduceMul, Nat.reduceLeDiff, Nat.reduceLT, reduceCtorEq, TFCnH, FR.out]; first | done | rfl) (by simp only [hget, ↓reduceIte, if_true, if_false, FR.out]; first | done | rfl) ?_ <;> first | exact rfl | (simp only [ZK, look, loadv, loadn, loadnm, load1, load1m, hget, ↓reduceIte, Nat.reduceEqDiff, Nat.reduceAdd, Nat.reduceMul, Nat.reduceLeDiff, Nat.reduceLT, reduceCtorEq, TFCnH, FR.out]; done) | skip)
theorem pl63 : plainT Try.prog 63 = true := by kernel_rfl
theorem pl65 : plainT Try.prog 65 = true := by kernel_rfl
theorem zv63 : zval Try.prog 63 = some (.agg #[.string .empty, .bool false, .slice none 0 0]) := by kernel_rfl
theorem zv65 : zval Try.prog 65 = some (.agg #[.string .empty, .bool false, .slice none 0 0]) := by kernel_rfl
theorem pr_d {α : Type} (a b d e f : α) : List.Perm [a, b, d, e, f] ([a, e, f] ++ [b, d]) := by
  show List.Perm (a :: ([b, d] ++ [e, f])) (a :: ([e, f] ++ [b, d]))
  exact List.Perm.cons _ List.perm_append_comm
theorem pr_e {α : Type} (a b c d e : α) : List.Perm [a, b, c, d, e] ([c, d, e] ++ [a, b]) := by
  show List.Perm ([a, b] ++ [c, d, e]) ([c, d, e] ++ [a, b])
  exact List.perm_append_comm
/-- the list so far -/
def flV (i : Nat) (q : Nat × Nat) : AV := match i with
  | 0 => nsl
  | i + 1 => ms q.1 0 (i + 1) q.2
def flH (c x k n : Nat) (H N : AV) (l : List Pk) (i : Nat) (q : Nat × Nat) : Hp := match i with
  | 0 => [(x, .cells (fcs l) k 20), (c, chM (ms x 0 n k) H N)]
  | i + 1 => [(q.1, .cells (pcs (l.take (i + 1))) (q.2 * 4) 53), (x, .cells (fcs l) k 20), (c, chM (ms x 0 n k) H N)]
def FOk (c x i : Nat) (q : Nat × Nat) : Prop := i ≠ 0 → (q.1 ≠ c ∧ c ≠ q.1) ∧ (q.1 ≠ x ∧ x ≠ q.1) ∧ i ≤ q.2 ∧ q.2 ≤ 9223372036854775807
theorem flV_s {i : Nat} {q : Nat × Nat} (h : i ≠ 0) : flV i q = ms q.1 0 i q.2 := by cases i; exact absurd rfl h; rfl
theorem flH_s {c x k n i : Nat} {H N : AV} {l : List Pk} {q : Nat × Nat} (h : i ≠ 0) : flH c x k n H N l i q = [(q.1, .cells (pcs (l.take i)) (q.2 * 4) 53), (x, .cells (fcs l) k 20), (c, chM (ms x 0 n k) H N)] := by
  cases i; exact absurd rfl h; rfl
set_option maxHeartbeats 4000000 in
theorem flying_s (c x k : Nat) (l : List Pk) (n : Nat) (hd : c ≠ x ∧ x ≠ c) (H N : AV) (hn : l.length = n) (hk : n ≤ k ∧ k ≤ 9223372036854775807) (hl : n ≤ 1000) (hm : ∀ p ∈ l, 1 ≤ p.m.ks.length ∧ p.m.ks.length ≤ 100000) :
    ACt Try.prog 17 [pt c 0] [(x, .cells (fcs l) k 20), (c, chM (ms x 0 n k) H N)] (fun r F' => r = flR l ∧ F' = [(x, .cells (fcs l) k 20), (c, chM (ms x 0 n k) H N)]) := by
  have hln := fcs_len l
  rw [hn] at hln
  have hat := fun i (h : i < l.length) => fcs_at (l := l) (i := i) h
  have hH0 : ∀ q, flH c x k n H N l 0 q = [(x, .cells (fcs l) k 20), (c, chM (ms x 0 n k) H N)] := fun q => rfl
  have hHs := fun i (q : Nat × Nat) (h : i ≠ 0) => flH_s (c := c) (x := x) (k := k) (n := n) (H := H) (N := N) (l := l) (q := q) h
  obtain ⟨R, hR⟩ : ∃ R, R = flR l := ⟨_, rfl⟩
  rw [← hR]
  obtain ⟨C, hC⟩ : ∃ C, C = fcs l := ⟨_, rfl⟩
  simp only [← hC] at hln hat hH0 hHs ⊢
  refine ACt.intro Try.func17 rfl (by kernel_rfl) (by simp [Try.ntmps17]) (fun cx => ?_)
  simp only [argE, Try.ntmps17, Try.results17]
  first | (have FRx := FR; clear FRx) | (have FR : Sm (¬ ((1 : Nat) = 0)) := Sm.mk Nat.one_ne_zero)
  repeat' first
    | (refine Sm.mk ?_; try simp -dsimp only [ZK, rvc, drawF, headN, pureH, stp, dvc, calleeOf, gcall, pev, eff, newB, okd, og, ogs, ogo, ogp, slv, bltv, opd, litv, strip, one, both, putE, St.put, look, gdOf, gdv, picka, pickv, pickw, binv, bini, bins, binb, binp, binq, isSlT, bina, shp, eqCells, unv, convv, nilv, faddv, addp, idxav, idxp, load1, load1m, loadn, loadnm, loadv, hget, hset, hrep, hdel, slicev, slice3v, bnd, shift1, lenv, capv, IntKind.bits, extractv, fieldv, indexv, min2v, max2v, mkiv, tasv, tasz, cellsA, fillA, buildv, stC, oneC, rowMB, intsA, plN, appE, appZ, appC, appS, srcB, appNZ, appNC, VwL, srcC, srcZ, srcM, isBoolT, isPtrT, isSliceT, uOk, Value.oneCell', Nat.reducePow, Int.reducePow, Nat.reduceAdd, Nat.reduceMul, Nat.reduceSub, Nat.reduceLT, Nat.reduceLeDiff, Nat.reduceEqDiff, Nat.reduceBEq, Nat.reduceDiv, Nat.reduceMod, ↓reduceIte, reduceCtorEq, Int.reduceToNat, Int.reduceLT, Int.reduceLE, TFCnH, SeqQ, BlkQ, LoopQ, BodyQ, hd, FR.out])
    | (refine WP.seq fun K hK => ?_)
    | (refine WP.region (rvc_sound _ _ (Sm.out ?_)))
    | (refine WP.drawK rfl mixed (by decide +kernel) (Sm.out ?_))
    | (refine Ob.mk ?_; focus (first | assumption | omega | decide | trivial | (intro hob; simp only [hob, ZF]; done) | (intros; (repeat' refine And.intro ?_ ?_) <;> first | assumption | omega | trivial | decide) | (intros; simp only [ZE] at *; (repeat' refine And.intro ?_ ?_) <;> first | assumption | omega | trivial)))
    | (refine And.intro (Ob.out ?_) ?_)
    | (refine WP.block ?_)
    | (refine WP.cond rfl (fun hc => ?_) (fun hc => ?_) <;> (try simp only [ZC, reduceCtorEq, ZD] at hc) <;> (try (exact absurd hc (by decide))) <;> (try (exfalso; omega)))
    | ((first | refine WP.skip ?_ | refine WP.exit ?_); simp only [SeqQ, BlkQ, LoopQ, BodyQ, ↓reduceIte, Nat.reduceEqDiff, reduceCtorEq, look, true_and])
    | (refine WP.ret (Sm.out ?_))
    | (first | refine ExG.no (Sm.out ?_) | refine Or.inl (ExG.no (Sm.out ?_)) | refine Or.inl (And.intro (fun hg => absurd hg (by decide)) (ExG.no (Sm.out ?_))))
    | (refine Rt.mk ?_; refine And.intro ?_ ?_ <;> (intro hg; first | exact absurd hg (by decide) | refine Sm.out ?_))
    | (refine Nu.mk ?_; first | (fail_if_success (have := nb1)); intro nb1 | (fail_if_success (have := nb2)); intro nb2 | (fail_if_success (have := nb3)); intro nb3 | (fail_if_success (have := nb4)); intro nb4 | (fail_if_success (have := nb5)); intro nb5 | (fail_if_success (have := nb6)); intro nb6 | (fail_if_success (have := nb7)); intro nb7 | (fail_if_success (have := nb8)); intro nb8 | intro nbz)
    | (refine Fr.mk ?_; intro hfr; (first | (have hFRb : _ ≤ _ ∧ _ ≤ _ := And.intro hfr.1 hfr.2.1) | (have hFRb : _ ≤ _ := hfr.1) | skip); replace FR := Sm.mk (And.intro hfr FR.out); clear hfr; refine Sm.out ?_)
    | (refine Two.mk ?_ ?_)
    | (refine Cs.mk ?_; intro hcs; first | exact False.elim hcs | (exfalso; omega) | (refine Sm.out ?_))
    | go_step
    | omega
    | (simp only [maxLen_eq]; omega)
  refine WP.loop (Γ := Nat × (Nat × Nat)) (fun g => ⟨[(15, iv .i64 (g.1 : Int)), (14, iv .i64 (n : Int)), (13, ms x 0 n k), (3, flV g.1 g.2)], flH c x k n H N l g.1 g.2⟩) (fun g => g.1 ≤ n ∧ FOk c x g.1 g.2) (fun g => n - g.1) (0, (0, 0))
    ⟨Nat.zero_le _, fun h => absurd rfl h⟩ (Sub.of_env [] (by simp only [hH0]; exact pmz _) (by simp [look, flV])) ?_
  intro ⟨i, q⟩ ⟨hi, hq⟩
  simp only at hi hq ⊢
  have FR : Sm (¬ ((1 : Nat) = 0)) := Sm.mk Nat.one_ne_zero
  by_cases hin : i < n
  case neg =>
    obtain rfl : i = n := by omega
    have ki : decide ((i : Int) < (i : Int)) = false := decide_eq_false (by omega)
    by_cases h0 : i = 0
    · subst h0
      have eR : R = nsl := by
        rw [hR, List.eq_nil_of_length_eq_zero hn]; rfl
      rw [hH0]
      have ki : decide ((0 : Int) < 0) = false := by decide
      have eV : flV 0 q = nsl := rfl
      rw [eV]
      first | (have FRx := FR; clear FRx) | (have FR : Sm (¬ ((1 : Nat) = 0)) := Sm.mk Nat.one_ne_zero)
      repeat' first
        | (refine Sm.mk ?_; try simp -dsimp only [ZK, rvc, drawF, headN, pureH, stp, dvc, calleeOf, gcall, pev, eff, newB, okd, og, ogs, ogo, ogp, slv, bltv, opd, litv, strip, one, both, putE, St.put, look, gdOf, gdv, picka, pickv, pickw, binv, bini, bins, binb, binp, binq, isSlT, bina, shp, eqCells, unv, convv, nilv, faddv, addp, idxav, idxp, load1, load1m, loadn, loadnm, loadv, hget, hset, hrep, hdel, slicev, slice3v, bnd, shift1, lenv, capv, IntKind.bits, extractv, fieldv, indexv, min2v, max2v, mkiv, tasv, tasz, cellsA, fillA, buildv, stC, oneC, rowMB, intsA, plN, appE, appZ, appC, appS, srcB, appNZ, appNC, VwL, srcC, srcZ, srcM, isBoolT, isPtrT, isSliceT, uOk, Value.oneCell', Nat.reducePow, Int.reducePow, Nat.reduceAdd, Nat.reduceMul, Nat.reduceSub, Nat.reduceLT, Nat.reduceLeDiff, Nat.reduceEqDiff, Nat.reduceBEq, Nat.reduceDiv, Nat.reduceMod, ↓reduceIte, reduceCtorEq, Int.reduceToNat, Int.reduceLT, Int.reduceLE, TFCnH, SeqQ, BlkQ, LoopQ, BodyQ, ki, hd, FR.out])
        | (refine WP.seq fun K hK => ?_)
        | (refine WP.region (rvc_sound _ _ (Sm.out ?_)))
        | (refine WP.drawK rfl mixed (by decide +kernel) (Sm.out ?_))
        | (refine Ob.mk ?_; focus (first | assumption | omega | decide | trivial | (intro hob; simp only [hob, ZF]; done) | (intros; (repeat' refine And.intro ?_ ?_) <;> first | assumption | omega | trivial | decide) | (intros; simp only [ZE] at *; (repeat' refine And.intro ?_ ?_) <;> first | assumption | omega | trivial)))
        | (refine And.intro (Ob.out ?_) ?_)
        | (refine WP.block ?_)
        | (refine WP.cond rfl (fun hc => ?_) (fun hc => ?_) <;> (try simp only [ZC, reduceCtorEq, ZD] at hc) <;> (try (exact absurd hc (by decide))) <;> (try (exfalso; omega)))
        | ((first | refine WP.skip ?_ | refine WP.exit ?_); simp only [SeqQ, BlkQ, LoopQ, BodyQ, ↓reduceIte, Nat.reduceEqDiff, reduceCtorEq, look, true_and])
        | (refine WP.ret (Sm.out ?_))
        | (first | refine ExG.no (Sm.out ?_) | refine Or.inl (ExG.no (Sm.out ?_)) | refine Or.inl (And.intro (fun hg => absurd hg (by decide)) (ExG.no (Sm.out ?_))))
        | (refine Rt.mk ?_; refine And.intro ?_ ?_ <;> (intro hg; first | exact absurd hg (by decide) | refine Sm.out ?_))
        | (refine Nu.mk ?_; first | (fail_if_success (have := nb1)); intro nb1 | (fail_if_success (have := nb2)); intro nb2 | (fail_if_success (have := nb3)); intro nb3 | (fail_if_success (have := nb4)); intro nb4 | (fail_if_success (have := nb5)); intro nb5 | (fail_if_success (have := nb6)); intro nb6 | (fail_if_success (have := nb7)); intro nb7 | (fail_if_success (have := nb8)); intro nb8 | intro nbz)
        | (refine Fr.mk ?_; intro hfr; (first | (have hFRb : _ ≤ _ ∧ _ ≤ _ := And.intro hfr.1 hfr.2.1) | (have hFRb : _ ≤ _ := hfr.1) | skip); replace FR := Sm.mk (And.intro hfr FR.out); clear hfr; refine Sm.out ?_)
        | (refine Two.mk ?_ ?_)
        | (refine Cs.mk ?_; intro hcs; first | exact False.elim hcs | (exfalso; omega) | (refine Sm.out ?_))
        | go_step
        | omega
        | (simp only [maxLen_eq]; omega)
      (refine OutQ.drop _ _ (perm2 (by simp only [hget, hdel, ↓reduceIte, if_true, if_false, FR.out, hd, eR]; first | done | rfl) (by simp only [hget, hdel, ↓reduceIte, if_true, if_false, FR.out, hd, eR]; first | done | rfl)) (by simp only [resv, ZK, look, loadv, loadn, loadnm, load1, load1m, hget, ↓reduceIte, Nat.reduceEqDiff, Nat.reduceAdd, Nat.reduceMul, Nat.reduceLeDiff, Nat.reduceLT, reduceCtorEq, TFCnH, FR.out, hd, eR]) ⟨(by simp only [resv, resA, ZK, look, loadv, loadn, loadnm, load1, load1m, hget, ↓reduceIte, Nat.reduceEqDiff, Nat.reduceAdd, Nat.reduceMul, Nat.reduceLeDiff, Nat.reduceLT, reduceCtorEq, TFCnH, FR.out, hd, eR]; first | done | rfl), rfl⟩)
    · obtain ⟨hqc, hqx, hq1, hq2⟩ := hq h0
      have eR : R = .sl i (pcs l) := by rw [hR, flR_ne (by intro e; rw [e] at hn; exact h0 hn.symm), hn]
      have et : l.take i = l := List.take_of_length_le (by omega)
      rw [hHs _ _ h0, flV_s h0, et]
      have hpl := pcs_len l
      rw [hn] at hpl
      obtain ⟨D, hD⟩ : ∃ D, D = pcs l := ⟨_, rfl⟩
      rw [← hD] at hpl eR ⊢
      obtain ⟨y, kq⟩ := q
      simp only at hqc hqx hq1 hq2 ⊢
      have e5 : D.take (i * 4) = D := List.take_of_length_le (by omega)
      first | (have FRx := FR; clear FRx) | (have FR : Sm (¬ ((1 : Nat) = 0)) := Sm.mk Nat.one_ne_zero)
      repeat' first
        | (refine Sm.mk ?_; try simp -dsimp only [ZK, rvc, drawF, headN, pureH, stp, dvc, calleeOf, gcall, pev, eff, newB, okd, og, ogs, ogo, ogp, slv, bltv, opd, litv, strip, one, both, putE, St.put, look, gdOf, gdv, picka, pickv, pickw, binv, bini, bins, binb, binp, binq, isSlT, bina, shp, eqCells, unv, convv, nilv, faddv, addp, idxav, idxp, load1, load1m, loadn, loadnm, loadv, hget, hset, hrep, hdel, slicev, slice3v, bnd, shift1, lenv, capv, IntKind.bits, extractv, fieldv, indexv, min2v, max2v, mkiv, tasv, tasz, cellsA, fillA, buildv, stC, oneC, rowMB, intsA, plN, appE, appZ, appC, appS, srcB, appNZ, appNC, VwL, srcC, srcZ, srcM, isBoolT, isPtrT, isSliceT, uOk, Value.oneCell', Nat.reducePow, Int.reducePow, Nat.reduceAdd, Nat.reduceMul, Nat.reduceSub, Nat.reduceLT, Nat.reduceLeDiff, Nat.reduceEqDiff, Nat.reduceBEq, Nat.reduceDiv, Nat.reduceMod, ↓reduceIte, reduceCtorEq, Int.reduceToNat, Int.reduceLT, Int.reduceLE, TFCnH, SeqQ, BlkQ, LoopQ, BodyQ, ki, hd, hqc, hqx, FR.out])
        | (refine WP.seq fun K hK => ?_)
        | (refine WP.region (rvc_sound _ _ (Sm.out ?_)))
        | (refine WP.drawK rfl mixed (by decide +kernel) (Sm.out ?_))
        | (refine Ob.mk ?_; focus (first | assumption | omega | decide | trivial | (intro hob; simp only [hob, ZF]; done) | (intros; (repeat' refine And.intro ?_ ?_) <;> first | assumption | omega | trivial | decide) | (intros; simp only [ZE] at *; (repeat' refine And.intro ?_ ?_) <;> first | assumption | omega | trivial)))
        | (refine And.intro (Ob.out ?_) ?_)
        | (refine WP.block ?_)
        | (refine WP.cond rfl (fun hc => ?_) (fun hc => ?_) <;> (try simp only [ZC, reduceCtorEq, ZD] at hc) <;> (try (exact absurd hc (by decide))) <;> (try (exfalso; omega)))
        | ((first | refine WP.skip ?_ | refine WP.exit ?_); simp only [SeqQ, BlkQ, LoopQ, BodyQ, ↓reduceIte, Nat.reduceEqDiff, reduceCtorEq, look, true_and])
        | (refine WP.ret (Sm.out ?_))
        | (first | refine ExG.no (Sm.out ?_) | refine Or.inl (ExG.no (Sm.out ?_)) | refine Or.inl (And.intro (fun hg => absurd hg (by decide)) (ExG.no (Sm.out ?_))))
        | (refine Rt.mk ?_; refine And.intro ?_ ?_ <;> (intro hg; first | exact absurd hg (by decide) | refine Sm.out ?_))
        | (refine Nu.mk ?_; first | (fail_if_success (have := nb1)); intro nb1 | (fail_if_success (have := nb2)); intro nb2 | (fail_if_success (have := nb3)); intro nb3 | (fail_if_success (have := nb4)); intro nb4 | (fail_if_success (have := nb5)); intro nb5 | (fail_if_success (have := nb6)); intro nb6 | (fail_if_success (have := nb7)); intro nb7 | (fail_if_success (have := nb8)); intro nb8 | intro nbz)
        | (refine Fr.mk ?_; intro hfr; (first | (have hFRb : _ ≤ _ ∧ _ ≤ _ := And.intro hfr.1 hfr.2.1) | (have hFRb : _ ≤ _ := hfr.1) | skip); replace FR := Sm.mk (And.intro hfr FR.out); clear hfr; refine Sm.out ?_)
        | (refine Two.mk ?_ ?_)
        | (refine Cs.mk ?_; intro hcs; first | exact False.elim hcs | (exfalso; omega) | (refine Sm.out ?_))
        | go_step
        | omega
        | (simp only [maxLen_eq]; omega)
      (refine OutQ.wk (Wk.freezeC (y) (4) (by simp only [ZK, rvc, drawF, headN, pureH, stp, dvc, calleeOf, gcall, pev, eff, newB, okd, og, ogs, ogo, ogp, slv, bltv, opd, litv, strip, one, both, putE, St.put, look, gdOf, gdv, picka, pickv, pickw, binv, bini, bins, binb, binp, binq, isSlT, bina, shp, eqCells, unv, convv, nilv, faddv, addp, idxav, idxp, load1, load1m, loadn, loadnm, loadv, hget, hset, hrep, hdel, slicev, slice3v, bnd, shift1, lenv, capv, IntKind.bits, extractv, fieldv, indexv, min2v, max2v, mkiv, tasv, tasz, cellsA, fillA, buildv, stC, oneC, rowMB, intsA, plN, appE, appZ, appC, appS, srcB, appNZ, appNC, VwL, srcC, srcZ, srcM, isBoolT, isPtrT, isSliceT, uOk, Value.oneCell', Nat.reducePow, Int.reducePow, Nat.reduceAdd, Nat.reduceMul, Nat.reduceSub, Nat.reduceLT, Nat.reduceLeDiff, Nat.reduceEqDiff, Nat.reduceBEq, Nat.reduceDiv, Nat.reduceMod, ↓reduceIte, reduceCtorEq, Int.reduceToNat, Int.reduceLT, Int.reduceLE, TFCnH, SeqQ, BlkQ, LoopQ, BodyQ, hpl, e5, List.drop_zero, hqc, hqx, hd, hq1, hq2, FR.out]; first | done | rfl)) ?_; simp only [frzCE, frzC, ZK, rvc, drawF, headN, pureH, stp, dvc, calleeOf, gcall, pev, eff, newB, okd, og, ogs, ogo, ogp, slv, bltv, opd, litv, strip, one, both, putE, St.put, look, gdOf, gdv, picka, pickv, pickw, binv, bini, bins, binb, binp, binq, isSlT, bina, shp, eqCells, unv, convv, nilv, faddv, addp, idxav, idxp, load1, load1m, loadn, loadnm, loadv, hget, hset, hrep, hdel, slicev, slice3v, bnd, shift1, lenv, capv, IntKind.bits, extractv, fieldv, indexv, min2v, max2v, mkiv, tasv, tasz, cellsA, fillA, buildv, stC, oneC, rowMB, intsA, plN, appE, appZ, appC, appS, srcB, appNZ, appNC, VwL, srcC, srcZ, srcM, isBoolT, isPtrT, isSliceT, uOk, Value.oneCell', Nat.reducePow, Int.reducePow, Nat.reduceAdd, Nat.reduceMul, Nat.reduceSub, Nat.reduceLT, Nat.reduceLeDiff, Nat.reduceEqDiff, Nat.reduceBEq, Nat.reduceDiv, Nat.reduceMod, ↓reduceIte, reduceCtorEq, Int.reduceToNat, Int.reduceLT, Int.reduceLE, TFCnH, SeqQ, BlkQ, LoopQ, BodyQ, hpl, e5, List.drop_zero, hqc, hqx, hd, hq1, hq2, FR.out])
      (refine OutQ.drop _ _ (perm2 (by simp only [hget, hdel, ↓reduceIte, if_true, if_false, FR.out, hd, hqc, hqx, eR]; first | done | rfl) (by simp only [hget, hdel, ↓reduceIte, if_true, if_false, FR.out, hd, hqc, hqx, eR]; first | done | rfl)) (by simp only [resv, ZK, look, loadv, loadn, loadnm, load1, load1m, hget, ↓reduceIte, Nat.reduceEqDiff, Nat.reduceAdd, Nat.reduceMul, Nat.reduceLeDiff, Nat.reduceLT, reduceCtorEq, TFCnH, FR.out, hd, hqc, hqx, eR]) ⟨(by simp only [resv, resA, ZK, look, loadv, loadn, loadnm, load1, load1m, hget, ↓reduceIte, Nat.reduceEqDiff, Nat.reduceAdd, Nat.reduceMul, Nat.reduceLeDiff, Nat.reduceLT, reduceCtorEq, TFCnH, FR.out, hd, hqc, hqx, eR]; first | done | rfl), rfl⟩)
  have ki : decide ((i : Int) < (n : Int)) = true := decide_eq_true (by omega)
  have s1 : IntKind.i64.wrap ((i : Int) + 1) = ((i + 1 : Nat) : Int) := by rw [wrap_i64 (by omega) (by omega)]; omega
  have t1 : ∀ q : Nat, ((q : Nat) : Int).toNat = q := fun q => by omega
  have hati := hat i (by omega)
  have htk : l.take (i + 1) = l.take i ++ [l[i]'(by omega)] := by rw [List.take_add_one, List.getElem?_eq_getElem (by omega)]; rfl
  have hmi := hm _ (List.getElem_mem (show i < l.length by omega))
  obtain ⟨p, hp⟩ : ∃ p, p = l[i]'(by omega) := ⟨_, rfl⟩
  rw [← hp] at hati htk hmi
  clear hp hat hm
  have cO := own_ct p.m hmi.1 hmi.2
  have hH1 := hHs (i + 1)
  rw [htk] at hH1
  have hf := pl63
  have hf2 := pl65
  have hz := zv63
  have hz2 := zv65
  obtain ⟨pa, pm⟩ := p
  simp only at cO hmi
  have hp1 : pcs (l.take i ++ [⟨pa, pm⟩]) = pcs (l.take i) ++ [bv pa, .lit (.string pm.g), bv pm.p, .sl pm.ks.length (kcs pm.ks)] := pcs_app _ _
  have g1 : i < C.length := by omega
  have he : ∀ T, (C.getD i .any = .ifc T (mv pm)) → C[i]?.getD .any = .ifc T (mv pm) := fun T h => by rw [← List.getD_eq_getElem?_getD]; exact h
  unfold mv at cO he
  obtain ⟨mg, mp, mks⟩ := pm
  simp only at cO he hp1
  obtain ⟨nk, hnk⟩ : ∃ n, n = mks.length := ⟨_, rfl⟩
  obtain ⟨K1, hK1⟩ : ∃ K1, K1 = kcs mks := ⟨_, rfl⟩
  rw [← hnk, ← hK1] at cO hp1
  by_cases h0 : i = 0
  · subst h0
    have e0 : l.take 0 = [] := rfl
    rw [e0, List.nil_append] at hp1 hH1
    have ep0 : pcs [] = [] := rfl
    rw [ep0, List.nil_append] at hp1
    rw [hH0]
    have eV : flV 0 q = nsl := rfl
    rw [eV]
    have hV1 : ∀ q, flV (0 + 1) q = ms q.1 0 1 q.2 := fun q => rfl
    have w01 : IntKind.i64.wrap (0 + 1) = 1 := by decide
    cases pa
    · have hat1 : C.getD 0 .any = .ifc 63 (.agg [.lit (.string mg), bv mp, .sl nk K1]) := by rw [hati, hnk, hK1]; rfl
      have hat2 := hat1
      rw [List.getD_eq_getElem?_getD] at hat2
      first | (have FRx := FR; clear FRx) | (have FR : Sm (¬ ((1 : Nat) = 0)) := Sm.mk Nat.one_ne_zero)
      repeat' first
        | (refine Sm.mk ?_; try simp -dsimp only [ZK, rvc, drawF, headN, pureH, stp, dvc, calleeOf, gcall, pev, eff, newB, okd, og, ogs, ogo, ogp, slv, bltv, opd, litv, strip, one, both, putE, St.put, look, gdOf, gdv, picka, pickv, pickw, binv, bini, bins, binb, binp, binq, isSlT, bina, shp, eqCells, unv, convv, nilv, faddv, addp, idxav, idxp, load1, load1m, loadn, loadnm, loadv, hget, hset, hrep, hdel, slicev, slice3v, bnd, shift1, lenv, capv, IntKind.bits, extractv, fieldv, indexv, min2v, max2v, mkiv, tasv, tasz, cellsA, fillA, buildv, stC, oneC, rowMB, intsA, plN, appE, appZ, appC, appS, srcB, appNZ, appNC, VwL, srcC, srcZ, srcM, isBoolT, isPtrT, isSliceT, uOk, Value.oneCell', Nat.reducePow, Int.reducePow, Nat.reduceAdd, Nat.reduceMul, Nat.reduceSub, Nat.reduceLT, Nat.reduceLeDiff, Nat.reduceEqDiff, Nat.reduceBEq, Nat.reduceDiv, Nat.reduceMod, ↓reduceIte, reduceCtorEq, Int.reduceToNat, Int.reduceLT, Int.reduceLE, TFCnH, SeqQ, BlkQ, LoopQ, BodyQ, ki, hd, hin, w01, t1, g1, hat1, hat2, hf, hf2, hz, hz2, hln, Nat.zero_add, Nat.one_mul, FR.out])
        | (first | refine CallV.fn (cO) (Sm.out ?_) | refine ExF.mk (cO) (Sm.out ?_) | refine ExG.mk (fun _ => cO) (Sm.out ?_) | refine ExG.mkJ (fun _ => cO) (Sm.out ?_) | refine ExG.mkI (Ob.out ?_) (fun _ => cO) (Sm.out ?_))
        | (refine WP.seq fun K hK => ?_)
        | (refine WP.region (rvc_sound _ _ (Sm.out ?_)))
        | (refine WP.drawK rfl mixed (by decide +kernel) (Sm.out ?_))
        | (refine Ob.mk ?_; focus (first | assumption | omega | decide | trivial | (intro hob; simp only [hob, ZF]; done) | (intros; (repeat' refine And.intro ?_ ?_) <;> first | assumption | omega | trivial | decide) | (intros; simp only [ZE] at *; (repeat' refine And.intro ?_ ?_) <;> first | assumption | omega | trivial)))
        | (refine And.intro (Ob.out ?_) ?_)
        | (refine WP.block ?_)
        | (refine WP.cond rfl (fun hc => ?_) (fun hc => ?_) <;> (try simp only [ZC, reduceCtorEq, ZD] at hc) <;> (try (exact absurd hc (by decide))) <;> (try (exfalso; omega)))
        | ((first | refine WP.skip ?_ | refine WP.exit ?_); simp only [SeqQ, BlkQ, LoopQ, BodyQ, ↓reduceIte, Nat.reduceEqDiff, reduceCtorEq, look, true_and])
        | (refine WP.ret (Sm.out ?_))
        | (first | refine ExG.no (Sm.out ?_) | refine Or.inl (ExG.no (Sm.out ?_)) | refine Or.inl (And.intro (fun hg => absurd hg (by decide)) (ExG.no (Sm.out ?_))))
        | (refine Rt.mk ?_; refine And.intro ?_ ?_ <;> (intro hg; first | exact absurd hg (by decide) | refine Sm.out ?_))
        | (refine Nu.mk ?_; first | (fail_if_success (have := nb1)); intro nb1 | (fail_if_success (have := nb2)); intro nb2 | (fail_if_success (have := nb3)); intro nb3 | (fail_if_success (have := nb4)); intro nb4 | (fail_if_success (have := nb5)); intro nb5 | (fail_if_success (have := nb6)); intro nb6 | (fail_if_success (have := nb7)); intro nb7 | (fail_if_success (have := nb8)); intro nb8 | intro nbz)
        | (refine Fr.mk ?_; intro hfr; (first | (have hFRb : _ ≤ _ ∧ _ ≤ _ := And.intro hfr.1 hfr.2.1) | (have hFRb : _ ≤ _ := hfr.1) | skip); replace FR := Sm.mk (And.intro hfr FR.out); clear hfr; refine Sm.out ?_)
        | (refine Two.mk ?_ ?_)
        | (refine Cs.mk ?_; intro hcs; first | exact False.elim hcs | (exfalso; omega) | (refine Sm.out ?_))
        | go_step
        | omega
        | (simp only [maxLen_eq]; omega)
      exact ⟨(0 + 1, (nb3, nb4)), ⟨by simp only; omega, fun _ => ⟨by simp [FR.out], by simp [FR.out], by simp only; omega, by simp only; omega⟩⟩, by simp only; omega, Sub.of_env [(nb2, .cells [bv false, .lit (.string mg), bv mp, .sl nk K1] 4 53), (nb1, .cells [.lit (.string mg), bv mp, .sl nk K1] 3 63)] (by rw [hH1 _ (by simp), hp1]; exact pr_d _ _ _ _ _) (by simp [look, hV1])⟩
    · have hat1 : C.getD 0 .any = .ifc 65 (.agg [.lit (.string mg), bv mp, .sl nk K1]) := by rw [hati, hnk, hK1]; rfl
      have hat2 := hat1
      rw [List.getD_eq_getElem?_getD] at hat2
      first | (have FRx := FR; clear FRx) | (have FR : Sm (¬ ((1 : Nat) = 0)) := Sm.mk Nat.one_ne_zero)
      repeat' first
        | (refine Sm.mk ?_; try simp -dsimp only [ZK, rvc, drawF, headN, pureH, stp, dvc, calleeOf, gcall, pev, eff, newB, okd, og, ogs, ogo, ogp, slv, bltv, opd, litv, strip, one, both, putE, St.put, look, gdOf, gdv, picka, pickv, pickw, binv, bini, bins, binb, binp, binq, isSlT, bina, shp, eqCells, unv, convv, nilv, faddv, addp, idxav, idxp, load1, load1m, loadn, loadnm, loadv, hget, hset, hrep, hdel, slicev, slice3v, bnd, shift1, lenv, capv, IntKind.bits, extractv, fieldv, indexv, min2v, max2v, mkiv, tasv, tasz, cellsA, fillA, buildv, stC, oneC, rowMB, intsA, plN, appE, appZ, appC, appS, srcB, appNZ, appNC, VwL, srcC, srcZ, srcM, isBoolT, isPtrT, isSliceT, uOk, Value.oneCell', Nat.reducePow, Int.reducePow, Nat.reduceAdd, Nat.reduceMul, Nat.reduceSub, Nat.reduceLT, Nat.reduceLeDiff, Nat.reduceEqDiff, Nat.reduceBEq, Nat.reduceDiv, Nat.reduceMod, ↓reduceIte, reduceCtorEq, Int.reduceToNat, Int.reduceLT, Int.reduceLE, TFCnH, SeqQ, BlkQ, LoopQ, BodyQ, ki, hd, hin, w01, t1, g1, hat1, hat2, hf, hf2, hz, hz2, hln, Nat.zero_add, Nat.one_mul, FR.out])
        | (first | refine CallV.fn (cO) (Sm.out ?_) | refine ExF.mk (cO) (Sm.out ?_) | refine ExG.mk (fun _ => cO) (Sm.out ?_) | refine ExG.mkJ (fun _ => cO) (Sm.out ?_) | refine ExG.mkI (Ob.out ?_) (fun _ => cO) (Sm.out ?_))
        | (refine WP.seq fun K hK => ?_)
        | (refine WP.region (rvc_sound _ _ (Sm.out ?_)))
        | (refine WP.drawK rfl mixed (by decide +kernel) (Sm.out ?_))
        | (refine Ob.mk ?_; focus (first | assumption | omega | decide | trivial | (intro hob; simp only [hob, ZF]; done) | (intros; (repeat' refine And.intro ?_ ?_) <;> first | assumption | omega | trivial | decide) | (intros; simp only [ZE] at *; (repeat' refine And.intro ?_ ?_) <;> first | assumption | omega | trivial)))
        | (refine And.intro (Ob.out ?_) ?_)
        | (refine WP.block ?_)
        | (refine WP.cond rfl (fun hc => ?_) (fun hc => ?_) <;> (try simp only [ZC, reduceCtorEq, ZD] at hc) <;> (try (exact absurd hc (by decide))) <;> (try (exfalso; omega)))
        | ((first | refine WP.skip ?_ | refine WP.exit ?_); simp only [SeqQ, BlkQ, LoopQ, BodyQ, ↓reduceIte, Nat.reduceEqDiff, reduceCtorEq, look, true_and])
        | (refine WP.ret (Sm.out ?_))
        | (first | refine ExG.no (Sm.out ?_) | refine Or.inl (ExG.no (Sm.out ?_)) | refine Or.inl (And.intro (fun hg => absurd hg (by decide)) (ExG.no (Sm.out ?_))))
        | (refine Rt.mk ?_; refine And.intro ?_ ?_ <;> (intro hg; first | exact absurd hg (by decide) | refine Sm.out ?_))
        | (refine Nu.mk ?_; first | (fail_if_success (have := nb1)); intro nb1 | (fail_if_success (have := nb2)); intro nb2 | (fail_if_success (have := nb3)); intro nb3 | (fail_if_success (have := nb4)); intro nb4 | (fail_if_success (have := nb5)); intro nb5 | (fail_if_success (have := nb6)); intro nb6 | (fail_if_success (have := nb7)); intro nb7 | (fail_if_success (have := nb8)); intro nb8 | intro nbz)
        | (refine Fr.mk ?_; intro hfr; (first | (have hFRb : _ ≤ _ ∧ _ ≤ _ := And.intro hfr.1 hfr.2.1) | (have hFRb : _ ≤ _ := hfr.1) | skip); replace FR := Sm.mk (And.intro hfr FR.out); clear hfr; refine Sm.out ?_)
        | (refine Two.mk ?_ ?_)
        | (refine Cs.mk ?_; intro hcs; first | exact False.elim hcs | (exfalso; omega) | (refine Sm.out ?_))
        | go_step
        | omega
        | (simp only [maxLen_eq]; omega)
      exact ⟨(0 + 1, (nb3, nb4)), ⟨by simp only; omega, fun _ => ⟨by simp [FR.out], by simp [FR.out], by simp only; omega, by simp only; omega⟩⟩, by simp only; omega, Sub.of_env [(nb2, .cells [bv true, .lit (.string mg), bv mp, .sl nk K1] 4 53), (nb1, .cells [.lit (.string mg), bv mp, .sl nk K1] 3 65)] (by rw [hH1 _ (by simp), hp1]; exact pr_d _ _ _ _ _) (by simp [look, hV1])⟩
  · obtain ⟨hqc, hqx, hq1, hq2⟩ := hq h0
    rw [hHs _ _ h0, flV_s h0]
    have hTl : (pcs (l.take i)).length = i * 4 := by rw [pcs_len, List.length_take]; congr 1; omega
    obtain ⟨D, hD⟩ : ∃ D, D = pcs (l.take i) := ⟨_, rfl⟩
    rw [← hD] at hp1 hTl ⊢
    obtain ⟨y, kq⟩ := q
    simp only at hqc hqx hq1 hq2 ⊢
    have m1 : kq ≤ maxLen := by rw [maxLen_eq]; omega
    have hV1 := fun (q : Nat × Nat) => flV_s (i := i + 1) (q := q) (by omega)
    cases pa
    · have hat1 : C.getD i .any = .ifc 63 (.agg [.lit (.string mg), bv mp, .sl nk K1]) := by rw [hati, hnk, hK1]; rfl
      have hat2 := hat1
      rw [List.getD_eq_getElem?_getD] at hat2
      first | (have FRx := FR; clear FRx) | (have FR : Sm (¬ ((1 : Nat) = 0)) := Sm.mk Nat.one_ne_zero)
      repeat' first
        | (refine Sm.mk ?_; try simp -dsimp only [ZK, rvc, drawF, headN, pureH, stp, dvc, calleeOf, gcall, pev, eff, newB, okd, og, ogs, ogo, ogp, slv, bltv, opd, litv, strip, one, both, putE, St.put, look, gdOf, gdv, picka, pickv, pickw, binv, bini, bins, binb, binp, binq, isSlT, bina, shp, eqCells, unv, convv, nilv, faddv, addp, idxav, idxp, load1, load1m, loadn, loadnm, loadv, hget, hset, hrep, hdel, slicev, slice3v, bnd, shift1, lenv, capv, IntKind.bits, extractv, fieldv, indexv, min2v, max2v, mkiv, tasv, tasz, cellsA, fillA, buildv, stC, oneC, rowMB, intsA, plN, appE, appZ, appC, appS, srcB, appNZ, appNC, VwL, srcC, srcZ, srcM, isBoolT, isPtrT, isSliceT, uOk, Value.oneCell', Nat.reducePow, Int.reducePow, Nat.reduceAdd, Nat.reduceMul, Nat.reduceSub, Nat.reduceLT, Nat.reduceLeDiff, Nat.reduceEqDiff, Nat.reduceBEq, Nat.reduceDiv, Nat.reduceMod, ↓reduceIte, reduceCtorEq, Int.reduceToNat, Int.reduceLT, Int.reduceLE, TFCnH, SeqQ, BlkQ, LoopQ, BodyQ, ki, hd, hqc, hqx, hin, s1, t1, g1, hat1, hat2, hf, hf2, hz, hz2, hln, hTl, m1, hq1, Nat.zero_add, Nat.one_mul, FR.out])
        | (first | refine CallV.fn (cO) (Sm.out ?_) | refine ExF.mk (cO) (Sm.out ?_) | refine ExG.mk (fun _ => cO) (Sm.out ?_) | refine ExG.mkJ (fun _ => cO) (Sm.out ?_) | refine ExG.mkI (Ob.out ?_) (fun _ => cO) (Sm.out ?_))
        | (refine WP.seq fun K hK => ?_)
        | (refine WP.region (rvc_sound _ _ (Sm.out ?_)))
        | (refine WP.drawK rfl mixed (by decide +kernel) (Sm.out ?_))
        | (refine Ob.mk ?_; focus (first | assumption | omega | decide | trivial | (intro hob; simp only [hob, ZF]; done) | (intros; (repeat' refine And.intro ?_ ?_) <;> first | assumption | omega | trivial | decide) | (intros; simp only [ZE] at *; (repeat' refine And.intro ?_ ?_) <;> first | assumption | omega | trivial)))
        | (refine And.intro (Ob.out ?_) ?_)
        | (refine WP.block ?_)
        | (refine WP.cond rfl (fun hc => ?_) (fun hc => ?_) <;> (try simp only [ZC, reduceCtorEq, ZD] at hc) <;> (try (exact absurd hc (by decide))) <;> (try (exfalso; omega)))
        | ((first | refine WP.skip ?_ | refine WP.exit ?_); simp only [SeqQ, BlkQ, LoopQ, BodyQ, ↓reduceIte, Nat.reduceEqDiff, reduceCtorEq, look, true_and])
        | (refine WP.ret (Sm.out ?_))
        | (first | refine ExG.no (Sm.out ?_) | refine Or.inl (ExG.no (Sm.out ?_)) | refine Or.inl (And.intro (fun hg => absurd hg (by decide)) (ExG.no (Sm.out ?_))))
        | (refine Rt.mk ?_; refine And.intro ?_ ?_ <;> (intro hg; first | exact absurd hg (by decide) | refine Sm.out ?_))
        | (refine Nu.mk ?_; first | (fail_if_success (have := nb1)); intro nb1 | (fail_if_success (have := nb2)); intro nb2 | (fail_if_success (have := nb3)); intro nb3 | (fail_if_success (have := nb4)); intro nb4 | (fail_if_success (have := nb5)); intro nb5 | (fail_if_success (have := nb6)); intro nb6 | (fail_if_success (have := nb7)); intro nb7 | (fail_if_success (have := nb8)); intro nb8 | intro nbz)
        | (refine Fr.mk ?_; intro hfr; (first | (have hFRb : _ ≤ _ ∧ _ ≤ _ := And.intro hfr.1 hfr.2.1) | (have hFRb : _ ≤ _ := hfr.1) | skip); replace FR := Sm.mk (And.intro hfr FR.out); clear hfr; refine Sm.out ?_)
        | (refine Two.mk ?_ ?_)
        | (refine Cs.mk ?_; intro hcs; first | exact False.elim hcs | (exfalso; omega) | (refine Sm.out ?_))
        | go_step
        | omega
        | (simp only [maxLen_eq]; omega)
      exact ⟨(i + 1, (nb3, nb4)), ⟨by simp only; omega, fun _ => ⟨by simp [FR.out], by simp [FR.out], by simp only; omega, by simp only; omega⟩⟩, by simp only; omega, Sub.of_env [(nb2, .cells [bv false, .lit (.string mg), bv mp, .sl nk K1] 4 53), (nb1, .cells [.lit (.string mg), bv mp, .sl nk K1] 3 63)] (by rw [hH1 _ (by omega), hp1]; exact pr_e _ _ _ _ _) (by simp [look, hV1])⟩
    · have hat1 : C.getD i .any = .ifc 65 (.agg [.lit (.string mg), bv mp, .sl nk K1]) := by rw [hati, hnk, hK1]; rfl
      have hat2 := hat1
      rw [List.getD_eq_getElem?_getD] at hat2
      first | (have FRx := FR; clear FRx) | (have FR : Sm (¬ ((1 : Nat) = 0)) := Sm.mk Nat.one_ne_zero)
      repeat' first
        | (refine Sm.mk ?_; try simp -dsimp only [ZK, rvc, drawF, headN, pureH, stp, dvc, calleeOf, gcall, pev, eff, newB, okd, og, ogs, ogo, ogp, slv, bltv, opd, litv, strip, one, both, putE, St.put, look, gdOf, gdv, picka, pickv, pickw, binv, bini, bins, binb, binp, binq, isSlT, bina, shp, eqCells, unv, convv, nilv, faddv, addp, idxav, idxp, load1, load1m, loadn, loadnm, loadv, hget, hset, hrep, hdel, slicev, slice3v, bnd, shift1, lenv, capv, IntKind.bits, extractv, fieldv, indexv, min2v, max2v, mkiv, tasv, tasz, cellsA, fillA, buildv, stC, oneC, rowMB, intsA, plN, appE, appZ, appC, appS, srcB, appNZ, appNC, VwL, srcC, srcZ, srcM, isBoolT, isPtrT, isSliceT, uOk, Value.oneCell', Nat.reducePow, Int.reducePow, Nat.reduceAdd, Nat.reduceMul, Nat.reduceSub, Nat.reduceLT, Nat.reduceLeDiff, Nat.reduceEqDiff, Nat.reduceBEq, Nat.reduceDiv, Nat.reduceMod, ↓reduceIte, reduceCtorEq, Int.reduceToNat, Int.reduceLT, Int.reduceLE, TFCnH, SeqQ, BlkQ, LoopQ, BodyQ, ki, hd, hqc, hqx, hin, s1, t1, g1, hat1, hat2, hf, hf2, hz, hz2, hln, hTl, m1, hq1, Nat.zero_add, Nat.one_mul, FR.out])
        | (first | refine CallV.fn (cO) (Sm.out ?_) | refine ExF.mk (cO) (Sm.out ?_) | refine ExG.mk (fun _ => cO) (Sm.out ?_) | refine ExG.mkJ (fun _ => cO) (Sm.out ?_) | refine ExG.mkI (Ob.out ?_) (fun _ => cO) (Sm.out ?_))
        | (refine WP.seq fun K hK => ?_)
        | (refine WP.region (rvc_sound _ _ (Sm.out ?_)))
        | (refine WP.drawK rfl mixed (by decide +kernel) (Sm.out ?_))
        | (refine Ob.mk ?_; focus (first | assumption | omega | decide | trivial | (intro hob; simp only [hob, ZF]; done) | (intros; (repeat' refine And.intro ?_ ?_) <;> first | assumption | omega | trivial | decide) | (intros; simp only [ZE] at *; (repeat' refine And.intro ?_ ?_) <;> first | assumption | omega | trivial)))
        | (refine And.intro (Ob.out ?_) ?_)
        | (refine WP.block ?_)
        | (refine WP.cond rfl (fun hc => ?_) (fun hc => ?_) <;> (try simp only [ZC, reduceCtorEq, ZD] at hc) <;> (try (exact absurd hc (by decide))) <;> (try (exfalso; omega)))
        | ((first | refine WP.skip ?_ | refine WP.exit ?_); simp only [SeqQ, BlkQ, LoopQ, BodyQ, ↓reduceIte, Nat.reduceEqDiff, reduceCtorEq, look, true_and])
        | (refine WP.ret (Sm.out ?_))
        | (first | refine ExG.no (Sm.out ?_) | refine Or.inl (ExG.no (Sm.out ?_)) | refine Or.inl (And.intro (fun hg => absurd hg (by decide)) (ExG.no (Sm.out ?_))))
        | (refine Rt.mk ?_; refine And.intro ?_ ?_ <;> (intro hg; first | exact absurd hg (by decide) | refine Sm.out ?_))
        | (refine Nu.mk ?_; first | (fail_if_success (have := nb1)); intro nb1 | (fail_if_success (have := nb2)); intro nb2 | (fail_if_success (have := nb3)); intro nb3 | (fail_if_success (have := nb4)); intro nb4 | (fail_if_success (have := nb5)); intro nb5 | (fail_if_success (have := nb6)); intro nb6 | (fail_if_success (have := nb7)); intro nb7 | (fail_if_success (have := nb8)); intro nb8 | intro nbz)
        | (refine Fr.mk ?_; intro hfr; (first | (have hFRb : _ ≤ _ ∧ _ ≤ _ := And.intro hfr.1 hfr.2.1) | (have hFRb : _ ≤ _ := hfr.1) | skip); replace FR := Sm.mk (And.intro hfr FR.out); clear hfr; refine Sm.out ?_)
        | (refine Two.mk ?_ ?_)
        | (refine Cs.mk ?_; intro hcs; first | exact False.elim hcs | (exfalso; omega) | (refine Sm.out ?_))
        | go_step
        | omega
        | (simp only [maxLen_eq]; omega)
      exact ⟨(i + 1, (nb3, nb4)), ⟨by simp only; omega, fun _ => ⟨by simp [FR.out], by simp [FR.out], by simp only; omega, by simp only; omega⟩⟩, by simp only; omega, Sub.of_env [(nb2, .cells [bv true, .lit (.string mg), bv mp, .sl nk K1] 4 53), (nb1, .cells [.lit (.string mg), bv mp, .sl nk K1] 3 65)] (by rw [hH1 _ (by omega), hp1]; exact pr_e _ _ _ _ _) (by simp [look, hV1])⟩
end Go.Proofs.Ytbkojpkdphggeaa
namespace Go.Proofs.Ytbkojpkdphggeaa
open Go
set_option linter.unusedVariables false
set_option linter.unusedSimpArgs false
theorem TFCnI : (((((((type_of% tyc0) ∧ (type_of% tyc3)) ∧ ((type_of% zmb3) ∧ ((type_of% tyc4) ∧ (type_of% zmb4)))) ∧ (((type_of% tyc20) ∧ (type_of% zmb20)) ∧ ((type_of% tyc25) ∧ ((type_of% mth25_31) ∧ (type_of% mth25_35))))) ∧ ((((type_of% mth25_33) ∧ (type_of% mth25_32)) ∧ ((type_of% con25) ∧ ((type_of% zmb25) ∧ (type_of% tyc29)))) ∧ (((type_of% elt29) ∧ ((type_of% mkz29) ∧ (type_of% mkc29))) ∧ ((type_of% apT29) ∧ ((type_of% elk29) ∧ (type_of% zmb29)))))) ∧ (((((type_of% tyc33) ∧ (type_of% zmb33)) ∧ ((type_of% tyc37) ∧ ((type_of% foff37_0) ∧ (type_of% fpart37_0)))) ∧ (((type_of% foff37_1) ∧ ((type_of% fpart37_1) ∧ (type_of% foff37_2))) ∧ ((type_of% fpart37_2) ∧ ((type_of% zmb37) ∧ (type_of% bldT37))))) ∧ ((((type_of% tyc50) ∧ (type_of% foff50_0)) ∧ ((type_of% fpart50_0) ∧ ((type_of% foff50_1) ∧ (type_of% fpart50_1)))) ∧ (((type_of% foff50_2) ∧ ((type_of% fpart50_2) ∧ (type_of% foff50_3))) ∧ ((type_of% fpart50_3) ∧ ((type_of% foff50_4) ∧ (type_of% fpart50_4))))))) ∧ ((((((type_of% fe50) ∧ (type_of% zmb50)) ∧ ((type_of% bldT50) ∧ ((type_of% tyc55) ∧ (type_of% elt55)))) ∧ (((type_of% mkz55) ∧ ((type_of% mkc55) ∧ (type_of% apT55))) ∧ ((type_of% elk55) ∧ ((type_of% zmb55) ∧ (type_of% tyc57))))) ∧ ((((type_of% foff57_0) ∧ (type_of% fpart57_0)) ∧ ((type_of% foff57_1) ∧ ((type_of% fpart57_1) ∧ (type_of% foff57_2)))) ∧ (((type_of% fpart57_2) ∧ ((type_of% zmb57) ∧ (type_of% bldT57))) ∧ ((type_of% tyc63) ∧ ((type_of% foff63_0) ∧ (type_of% fpart63_0)))))) ∧ (((((type_of% zmb63) ∧ (type_of% bldT63)) ∧ ((type_of% tyc65) ∧ ((type_of% foff65_0) ∧ (type_of% fpart65_0)))) ∧ (((type_of% zmb65) ∧ ((type_of% bldT65) ∧ (type_of% tyc68))) ∧ ((type_of% Try.underlying0) ∧ ((type_of% Try.underlying3) ∧ (type_of% Try.underlying4))))) ∧ ((((type_of% Try.underlying20) ∧ (type_of% Try.underlying25)) ∧ ((type_of% Try.underlying29) ∧ ((type_of% Try.underlying33) ∧ (type_of% Try.underlying37)))) ∧ (((type_of% Try.underlying50) ∧ ((type_of% Try.underlying55) ∧ (type_of% Try.underlying57))) ∧ ((type_of% Try.underlying63) ∧ ((type_of% Try.underlying65) ∧ (type_of% Try.underlying68)))))))) :=
  ⟨⟨⟨⟨⟨⟨tyc0, tyc3⟩, ⟨zmb3, ⟨tyc4, zmb4⟩⟩⟩, ⟨⟨tyc20, zmb20⟩, ⟨tyc25, ⟨mth25_31, mth25_35⟩⟩⟩⟩, ⟨⟨⟨mth25_33, mth25_32⟩, ⟨con25, ⟨zmb25, tyc29⟩⟩⟩, ⟨⟨elt29, ⟨mkz29, mkc29⟩⟩, ⟨apT29, ⟨elk29, zmb29⟩⟩⟩⟩⟩, ⟨⟨⟨⟨tyc33, zmb33⟩, ⟨tyc37, ⟨foff37_0, fpart37_0⟩⟩⟩, ⟨⟨foff37_1, ⟨fpart37_1, foff37_2⟩⟩, ⟨fpart37_2, ⟨zmb37, bldT37⟩⟩⟩⟩, ⟨⟨⟨tyc50, foff50_0⟩, ⟨fpart50_0, ⟨foff50_1, fpart50_1⟩⟩⟩, ⟨⟨foff50_2, ⟨fpart50_2, foff50_3⟩⟩, ⟨fpart50_3, ⟨foff50_4, fpart50_4⟩⟩⟩⟩⟩⟩, ⟨⟨⟨⟨⟨fe50, zmb50⟩, ⟨bldT50, ⟨tyc55, elt55⟩⟩⟩, ⟨⟨mkz55, ⟨mkc55, apT55⟩⟩, ⟨elk55, ⟨zmb55, tyc57⟩⟩⟩⟩, ⟨⟨⟨foff57_0, fpart57_0⟩, ⟨foff57_1, ⟨fpart57_1, foff57_2⟩⟩⟩, ⟨⟨fpart57_2, ⟨zmb57, bldT57⟩⟩, ⟨tyc63, ⟨foff63_0, fpart63_0⟩⟩⟩⟩⟩, ⟨⟨⟨⟨zmb63, bldT63⟩, ⟨tyc65, ⟨foff65_0, fpart65_0⟩⟩⟩, ⟨⟨zmb65, ⟨bldT65, tyc68⟩⟩, ⟨Try.underlying0, ⟨Try.underlying3, Try.underlying4⟩⟩⟩⟩, ⟨⟨⟨Try.underlying20, Try.underlying25⟩, ⟨Try.underlying29, ⟨Try.underlying33, Try.underlying37⟩⟩⟩, ⟨⟨Try.underlying50, ⟨Try.underlying55, Try.underlying57⟩⟩, ⟨Try.underlying63, ⟨Try.underlying65, Try.underlying68⟩⟩⟩⟩⟩⟩⟩
theorem del_nil (i : Int) : ACt Try.prog 20 [nps, iv .i64 i] [] (Fn (.tup [nsl, iv .i64 1])) := by
  have cA := at_nil i
  refine ACt.intro Try.func20 rfl (by kernel_rfl) (by simp [Try.ntmps20]) (fun cx => ?_)
  simp only [argE, Try.ntmps20, Try.results20]
  first | (have FRx := FR; clear FRx) | (have FR : Sm (¬ ((1 : Nat) = 0)) := Sm.mk Nat.one_ne_zero)
  repeat' first
    | (refine Sm.mk ?_; try simp -dsimp only [ZK, rvc, drawF, headN, pureH, stp, dvc, calleeOf, gcall, pev, eff, newB, okd, og, ogs, ogo, ogp, slv, bltv, opd, litv, strip, one, both, putE, St.put, look, gdOf, gdv, picka, pickv, pickw, binv, bini, bins, binb, binp, binq, isSlT, bina, shp, eqCells, unv, convv, nilv, faddv, addp, idxav, idxp, load1, load1m, loadn, loadnm, loadv, hget, hset, hrep, hdel, slicev, slice3v, bnd, shift1, lenv, capv, IntKind.bits, extractv, fieldv, indexv, min2v, max2v, mkiv, tasv, tasz, cellsA, fillA, buildv, stC, oneC, rowMB, intsA, plN, appE, appZ, appC, appS, srcB, appNZ, appNC, VwL, srcC, srcZ, srcM, isBoolT, isPtrT, isSliceT, uOk, Value.oneCell', Nat.reducePow, Int.reducePow, Nat.reduceAdd, Nat.reduceMul, Nat.reduceSub, Nat.reduceLT, Nat.reduceLeDiff, Nat.reduceEqDiff, Nat.reduceBEq, Nat.reduceDiv, Nat.reduceMod, ↓reduceIte, reduceCtorEq, Int.reduceToNat, Int.reduceLT, Int.reduceLE, drawMF, mkS, TFCnI, SeqQ, BlkQ, LoopQ, BodyQ, FR.out])
    | (first | refine CallV.fn (cA) (Sm.out ?_) | refine ExF.mk (cA) (Sm.out ?_) | refine ExG.mk (fun _ => cA) (Sm.out ?_) | refine ExG.mkJ (fun _ => cA) (Sm.out ?_) | refine ExG.mkI (Ob.out ?_) (fun _ => cA) (Sm.out ?_))
    | (refine WP.seq fun K hK => ?_)
    | (refine WP.region (rvc_sound _ _ (Sm.out ?_)))
    | (refine WP.drawMk (ia := 7) (k := 8) mixed (by decide +kernel) (by decide +kernel) (by decide +kernel) (by decide +kernel) (Sm.out ?_))
    | (refine WP.drawK rfl mixed (by decide +kernel) (Sm.out ?_))
    | (refine Ob.mk ?_; focus (first | assumption | omega | decide | trivial | (intro hob; simp only [hob, ZF]; done) | (intros; (repeat' refine And.intro ?_ ?_) <;> first | assumption | omega | trivial | decide) | (intros; simp only [ZE] at *; (repeat' refine And.intro ?_ ?_) <;> first | assumption | omega | trivial)))
    | (refine And.intro (Ob.out ?_) ?_)
    | (refine WP.block ?_)
    | (refine WP.cond rfl (fun hc => ?_) (fun hc => ?_) <;> (try simp only [ZC, reduceCtorEq, ZD] at hc) <;> (try (exact absurd hc (by decide))) <;> (try (exfalso; omega)))
    | ((first | refine WP.skip ?_ | refine WP.exit ?_); simp only [SeqQ, BlkQ, LoopQ, BodyQ, ↓reduceIte, Nat.reduceEqDiff, reduceCtorEq, look, true_and])
    | (refine WP.ret (Sm.out ?_))
    | (first | refine ExG.no (Sm.out ?_) | refine Or.inl (ExG.no (Sm.out ?_)) | refine Or.inl (And.intro (fun hg => absurd hg (by decide)) (ExG.no (Sm.out ?_))))
    | (refine Rt.mk ?_; refine And.intro ?_ ?_ <;> (intro hg; first | exact absurd hg (by decide) | refine Sm.out ?_))
    | (refine Nu.mk ?_; first | (fail_if_success (have := nb1)); intro nb1 | (fail_if_success (have := nb2)); intro nb2 | (fail_if_success (have := nb3)); intro nb3 | (fail_if_success (have := nb4)); intro nb4 | (fail_if_success (have := nb5)); intro nb5 | (fail_if_success (have := nb6)); intro nb6 | (fail_if_success (have := nb7)); intro nb7 | (fail_if_success (have := nb8)); intro nb8 | (fail_if_success (have := nb9)); intro nb9 | (fail_if_success (have := nb10)); intro nb10 | intro nbz)
    | (refine Fr.mk ?_; intro hfr; (first | (have hFRb : _ ≤ _ ∧ _ ≤ _ := And.intro hfr.1 hfr.2.1) | (have hFRb : _ ≤ _ := hfr.1) | skip); replace FR := Sm.mk (And.intro hfr FR.out); clear hfr; refine Sm.out ?_)
    | (refine Two.mk ?_ ?_)
    | (refine Cs.mk ?_; intro hcs; first | exact False.elim hcs | (exfalso; omega) | (refine Sm.out ?_))
    | go_step
    | omega
    | (simp only [maxLen_eq]; omega)
  (refine OutQ.all ?_ ?_; (focus (simp only [resv, ZK, look, loadv, loadn, loadnm, load1, load1m, hget, ↓reduceIte, Nat.reduceEqDiff, Nat.reduceAdd, Nat.reduceMul, Nat.reduceLeDiff, Nat.reduceLT, reduceCtorEq, TFCnI])); (try simp only [resv, resA, Fn, ZK, look, loadv, loadn, loadnm, load1, load1m, hget, ↓reduceIte, Nat.reduceEqDiff, Nat.reduceAdd, Nat.reduceMul, Nat.reduceLeDiff, Nat.reduceLT, reduceCtorEq, TFCnI]); (try simp [resA, Fn, look]))
theorem del_n (c : Nat) (H N : AV) (i : Int) : ACt Try.prog 20 [pt c 0, iv .i64 i] [(c, chM nsl H N)] (fun r F' => r = .tup [nsl, iv .i64 7] ∧ F' = [(c, chM nsl H N)]) := by
  have cA := at_n c H N i
  refine ACt.intro Try.func20 rfl (by kernel_rfl) (by simp [Try.ntmps20]) (fun cx => ?_)
  simp only [argE, Try.ntmps20, Try.results20]
  first | (have FRx := FR; clear FRx) | (have FR : Sm (¬ ((1 : Nat) = 0)) := Sm.mk Nat.one_ne_zero)
  repeat' first
    | (refine Sm.mk ?_; try simp -dsimp only [ZK, rvc, drawF, headN, pureH, stp, dvc, calleeOf, gcall, pev, eff, newB, okd, og, ogs, ogo, ogp, slv, bltv, opd, litv, strip, one, both, putE, St.put, look, gdOf, gdv, picka, pickv, pickw, binv, bini, bins, binb, binp, binq, isSlT, bina, shp, eqCells, unv, convv, nilv, faddv, addp, idxav, idxp, load1, load1m, loadn, loadnm, loadv, hget, hset, hrep, hdel, slicev, slice3v, bnd, shift1, lenv, capv, IntKind.bits, extractv, fieldv, indexv, min2v, max2v, mkiv, tasv, tasz, cellsA, fillA, buildv, stC, oneC, rowMB, intsA, plN, appE, appZ, appC, appS, srcB, appNZ, appNC, VwL, srcC, srcZ, srcM, isBoolT, isPtrT, isSliceT, uOk, Value.oneCell', Nat.reducePow, Int.reducePow, Nat.reduceAdd, Nat.reduceMul, Nat.reduceSub, Nat.reduceLT, Nat.reduceLeDiff, Nat.reduceEqDiff, Nat.reduceBEq, Nat.reduceDiv, Nat.reduceMod, ↓reduceIte, reduceCtorEq, Int.reduceToNat, Int.reduceLT, Int.reduceLE, drawMF, mkS, TFCnI, SeqQ, BlkQ, LoopQ, BodyQ, FR.out])
    | (refine CallV.upd (by simp only [hget, ↓reduceIte, FR.out]; first | done | rfl) (cA) (Sm.out ?_))
    | (refine WP.seq fun K hK => ?_)
    | (refine WP.region (rvc_sound _ _ (Sm.out ?_)))
    | (refine WP.drawMk (ia := 7) (k := 8) mixed (by decide +kernel) (by decide +kernel) (by decide +kernel) (by decide +kernel) (Sm.out ?_))
    | (refine WP.drawK rfl mixed (by decide +kernel) (Sm.out ?_))
    | (refine Ob.mk ?_; focus (first | assumption | omega | decide | trivial | (intro hob; simp only [hob, ZF]; done) | (intros; (repeat' refine And.intro ?_ ?_) <;> first | assumption | omega | trivial | decide) | (intros; simp only [ZE] at *; (repeat' refine And.intro ?_ ?_) <;> first | assumption | omega | trivial)))
    | (refine And.intro (Ob.out ?_) ?_)
    | (refine WP.block ?_)
    | (refine WP.cond rfl (fun hc => ?_) (fun hc => ?_) <;> (try simp only [ZC, reduceCtorEq, ZD] at hc) <;> (try (exact absurd hc (by decide))) <;> (try (exfalso; omega)))
    | ((first | refine WP.skip ?_ | refine WP.exit ?_); simp only [SeqQ, BlkQ, LoopQ, BodyQ, ↓reduceIte, Nat.reduceEqDiff, reduceCtorEq, look, true_and])
    | (refine WP.ret (Sm.out ?_))
    | (first | refine ExG.no (Sm.out ?_) | refine Or.inl (ExG.no (Sm.out ?_)) | refine Or.inl (And.intro (fun hg => absurd hg (by decide)) (ExG.no (Sm.out ?_))))
    | (refine Rt.mk ?_; refine And.intro ?_ ?_ <;> (intro hg; first | exact absurd hg (by decide) | refine Sm.out ?_))
    | (refine Nu.mk ?_; first | (fail_if_success (have := nb1)); intro nb1 | (fail_if_success (have := nb2)); intro nb2 | (fail_if_success (have := nb3)); intro nb3 | (fail_if_success (have := nb4)); intro nb4 | (fail_if_success (have := nb5)); intro nb5 | (fail_if_success (have := nb6)); intro nb6 | (fail_if_success (have := nb7)); intro nb7 | (fail_if_success (have := nb8)); intro nb8 | (fail_if_success (have := nb9)); intro nb9 | (fail_if_success (have := nb10)); intro nb10 | intro nbz)
    | (refine Fr.mk ?_; intro hfr; (first | (have hFRb : _ ≤ _ ∧ _ ≤ _ := And.intro hfr.1 hfr.2.1) | (have hFRb : _ ≤ _ := hfr.1) | skip); replace FR := Sm.mk (And.intro hfr FR.out); clear hfr; refine Sm.out ?_)
    | (refine Two.mk ?_ ?_)
    | (refine Cs.mk ?_; intro hcs; first | exact False.elim hcs | (exfalso; omega) | (refine Sm.out ?_))
    | go_step
    | omega
    | (simp only [maxLen_eq]; omega)
  (refine OutQ.upd (by simp only [resv, ZK, look, loadv, loadn, loadnm, load1, load1m, hget, ↓reduceIte, Nat.reduceEqDiff, Nat.reduceAdd, Nat.reduceMul, Nat.reduceLeDiff, Nat.reduceLT, reduceCtorEq, TFCnI, FR.out]) (by simp only [resv, resA, ZK, look, loadv, loadn, loadnm, load1, load1m, hget, ↓reduceIte, Nat.reduceEqDiff, Nat.reduceAdd, Nat.reduceMul, Nat.reduceLeDiff, Nat.reduceLT, reduceCtorEq, TFCnI, FR.out]; first | done | rfl) (by simp only [hget, ↓reduceIte, if_true, if_false, FR.out]; first | done | rfl) ?_ <;> first | exact rfl | (simp only [ZK, look, loadv, loadn, loadnm, load1, load1m, hget, ↓reduceIte, Nat.reduceEqDiff, Nat.reduceAdd, Nat.reduceMul, Nat.reduceLeDiff, Nat.reduceLT, reduceCtorEq, TFCnI, FR.out]; done) | skip)
theorem del_b (c x n k : Nat) (H N : AV) (i : Int) (h : atI n i = 7) : ACt Try.prog 20 [pt c 0, iv .i64 i] [(c, chM (ms x 0 n k) H N)] (fun r F' => r = .tup [nsl, iv .i64 7] ∧ F' = [(c, chM (ms x 0 n k) H N)]) := by
  have cA := at_s c x n k H N i
  rw [h] at cA
  refine ACt.intro Try.func20 rfl (by kernel_rfl) (by simp [Try.ntmps20]) (fun cx => ?_)
  simp only [argE, Try.ntmps20, Try.results20]
  first | (have FRx := FR; clear FRx) | (have FR : Sm (¬ ((1 : Nat) = 0)) := Sm.mk Nat.one_ne_zero)
  repeat' first
    | (refine Sm.mk ?_; try simp -dsimp only [ZK, rvc, drawF, headN, pureH, stp, dvc, calleeOf, gcall, pev, eff, newB, okd, og, ogs, ogo, ogp, slv, bltv, opd, litv, strip, one, both, putE, St.put, look, gdOf, gdv, picka, pickv, pickw, binv, bini, bins, binb, binp, binq, isSlT, bina, shp, eqCells, unv, convv, nilv, faddv, addp, idxav, idxp, load1, load1m, loadn, loadnm, loadv, hget, hset, hrep, hdel, slicev, slice3v, bnd, shift1, lenv, capv, IntKind.bits, extractv, fieldv, indexv, min2v, max2v, mkiv, tasv, tasz, cellsA, fillA, buildv, stC, oneC, rowMB, intsA, plN, appE, appZ, appC, appS, srcB, appNZ, appNC, VwL, srcC, srcZ, srcM, isBoolT, isPtrT, isSliceT, uOk, Value.oneCell', Nat.reducePow, Int.reducePow, Nat.reduceAdd, Nat.reduceMul, Nat.reduceSub, Nat.reduceLT, Nat.reduceLeDiff, Nat.reduceEqDiff, Nat.reduceBEq, Nat.reduceDiv, Nat.reduceMod, ↓reduceIte, reduceCtorEq, Int.reduceToNat, Int.reduceLT, Int.reduceLE, drawMF, mkS, TFCnI, SeqQ, BlkQ, LoopQ, BodyQ, FR.out])
    | (refine CallV.upd (by simp only [hget, ↓reduceIte, FR.out]; first | done | rfl) (cA) (Sm.out ?_))
    | (refine WP.seq fun K hK => ?_)
    | (refine WP.region (rvc_sound _ _ (Sm.out ?_)))
    | (refine WP.drawMk (ia := 7) (k := 8) mixed (by decide +kernel) (by decide +kernel) (by decide +kernel) (by decide +kernel) (Sm.out ?_))
    | (refine WP.drawK rfl mixed (by decide +kernel) (Sm.out ?_))
    | (refine Ob.mk ?_; focus (first | assumption | omega | decide | trivial | (intro hob; simp only [hob, ZF]; done) | (intros; (repeat' refine And.intro ?_ ?_) <;> first | assumption | omega | trivial | decide) | (intros; simp only [ZE] at *; (repeat' refine And.intro ?_ ?_) <;> first | assumption | omega | trivial)))
    | (refine And.intro (Ob.out ?_) ?_)
    | (refine WP.block ?_)
    | (refine WP.cond rfl (fun hc => ?_) (fun hc => ?_) <;> (try simp only [ZC, reduceCtorEq, ZD] at hc) <;> (try (exact absurd hc (by decide))) <;> (try (exfalso; omega)))
    | ((first | refine WP.skip ?_ | refine WP.exit ?_); simp only [SeqQ, BlkQ, LoopQ, BodyQ, ↓reduceIte, Nat.reduceEqDiff, reduceCtorEq, look, true_and])
    | (refine WP.ret (Sm.out ?_))
    | (first | refine ExG.no (Sm.out ?_) | refine Or.inl (ExG.no (Sm.out ?_)) | refine Or.inl (And.intro (fun hg => absurd hg (by decide)) (ExG.no (Sm.out ?_))))
    | (refine Rt.mk ?_; refine And.intro ?_ ?_ <;> (intro hg; first | exact absurd hg (by decide) | refine Sm.out ?_))
    | (refine Nu.mk ?_; first | (fail_if_success (have := nb1)); intro nb1 | (fail_if_success (have := nb2)); intro nb2 | (fail_if_success (have := nb3)); intro nb3 | (fail_if_success (have := nb4)); intro nb4 | (fail_if_success (have := nb5)); intro nb5 | (fail_if_success (have := nb6)); intro nb6 | (fail_if_success (have := nb7)); intro nb7 | (fail_if_success (have := nb8)); intro nb8 | (fail_if_success (have := nb9)); intro nb9 | (fail_if_success (have := nb10)); intro nb10 | intro nbz)
    | (refine Fr.mk ?_; intro hfr; (first | (have hFRb : _ ≤ _ ∧ _ ≤ _ := And.intro hfr.1 hfr.2.1) | (have hFRb : _ ≤ _ := hfr.1) | skip); replace FR := Sm.mk (And.intro hfr FR.out); clear hfr; refine Sm.out ?_)
    | (refine Two.mk ?_ ?_)
    | (refine Cs.mk ?_; intro hcs; first | exact False.elim hcs | (exfalso; omega) | (refine Sm.out ?_))
    | go_step
    | omega
    | (simp only [maxLen_eq]; omega)
  (refine OutQ.upd (by simp only [resv, ZK, look, loadv, loadn, loadnm, load1, load1m, hget, ↓reduceIte, Nat.reduceEqDiff, Nat.reduceAdd, Nat.reduceMul, Nat.reduceLeDiff, Nat.reduceLT, reduceCtorEq, TFCnI, FR.out]) (by simp only [resv, resA, ZK, look, loadv, loadn, loadnm, load1, load1m, hget, ↓reduceIte, Nat.reduceEqDiff, Nat.reduceAdd, Nat.reduceMul, Nat.reduceLeDiff, Nat.reduceLT, reduceCtorEq, TFCnI, FR.out]; first | done | rfl) (by simp only [hget, ↓reduceIte, if_true, if_false, FR.out]; first | done | rfl) ?_ <;> first | exact rfl | (simp only [ZK, look, loadv, loadn, loadnm, load1, load1m, hget, ↓reduceIte, Nat.reduceEqDiff, Nat.reduceAdd, Nat.reduceMul, Nat.reduceLeDiff, Nat.reduceLT, reduceCtorEq, TFCnI, FR.out]; done) | skip)
/-- a receipt comes -/
theorem del_r (c x k : Nat) (l : List Pk) (n i : Nat) (hd : c ≠ x ∧ x ≠ c) (H N : AV) (hn : l.length = n) (hi : i < n) (hk : n ≤ k ∧ k ≤ 9223372036854775807) (hkl : n ≤ 100000) (m : Mg) (hl : l[i]'(by omega) = ⟨true, m⟩) (hm : 1 ≤ m.ks.length ∧ m.ks.length ≤ 100000) :
    ACt Try.prog 20 [pt c 0, iv .i64 (i : Int)] [(c, chM (ms x 0 n k) H N), (x, .cells (fcs l) k 20)]
      (fun r F' => r = .tup [.sl m.ks.length (kcs m.ks), iv .i64 0] ∧ F' = [(c, chM (ms x 0 (n - 1) k) H N), (x, .cells (fcs (l.eraseIdx i)) k 20)]) := by
  have cA := at_s c x n k H N i
  rw [show atI n (i : Int) = 0 by unfold atI; rw [if_pos (by omega)]] at cA
  have cT := take_s c x k l n i hd H N hn hi hk hkl
  have hfv : fv (l[i]'(by omega)) = .ifc 65 (mv m) := by rw [hl]; rfl
  rw [hfv] at cT
  have cC := clone_sl m.ks m.ks.length rfl hm.1 hm.2
  unfold mv at cT
  obtain ⟨q, hq⟩ : ∃ n, n = m.ks.length := ⟨_, rfl⟩
  rw [← hq] at cT cC ⊢
  obtain ⟨K1, hK1⟩ : ∃ C, C = kcs m.ks := ⟨_, rfl⟩
  rw [← hK1] at cT cC ⊢
  clear hfv hl hK1
  obtain ⟨C, hC⟩ : ∃ C, C = fcs l := ⟨_, rfl⟩
  rw [← hC] at cT ⊢
  obtain ⟨D, hD⟩ : ∃ D, D = fcs (l.eraseIdx i) := ⟨_, rfl⟩
  rw [← hD] at cT ⊢
  have hf := pl63
  have hf2 := pl65
  have hz := zv63
  have hz2 := zv65
  obtain ⟨mg, mp, mks⟩ := m
  refine ACt.intro Try.func20 rfl (by kernel_rfl) (by simp [Try.ntmps20]) (fun cx => ?_)
  simp only [argE, Try.ntmps20, Try.results20]
  first | (have FRx := FR; clear FRx) | (have FR : Sm (¬ ((1 : Nat) = 0)) := Sm.mk Nat.one_ne_zero)
  repeat' first
    | (refine Sm.mk ?_; try simp -dsimp only [ZK, rvc, drawF, headN, pureH, stp, dvc, calleeOf, gcall, pev, eff, newB, okd, og, ogs, ogo, ogp, slv, bltv, opd, litv, strip, one, both, putE, St.put, look, gdOf, gdv, picka, pickv, pickw, binv, bini, bins, binb, binp, binq, isSlT, bina, shp, eqCells, unv, convv, nilv, faddv, addp, idxav, idxp, load1, load1m, loadn, loadnm, loadv, hget, hset, hrep, hdel, slicev, slice3v, bnd, shift1, lenv, capv, IntKind.bits, extractv, fieldv, indexv, min2v, max2v, mkiv, tasv, tasz, cellsA, fillA, buildv, stC, oneC, rowMB, intsA, plN, appE, appZ, appC, appS, srcB, appNZ, appNC, VwL, srcC, srcZ, srcM, isBoolT, isPtrT, isSliceT, uOk, Value.oneCell', Nat.reducePow, Int.reducePow, Nat.reduceAdd, Nat.reduceMul, Nat.reduceSub, Nat.reduceLT, Nat.reduceLeDiff, Nat.reduceEqDiff, Nat.reduceBEq, Nat.reduceDiv, Nat.reduceMod, ↓reduceIte, reduceCtorEq, Int.reduceToNat, Int.reduceLT, Int.reduceLE, drawMF, mkS, TFCnI, SeqQ, BlkQ, LoopQ, BodyQ, hd, hf, hf2, hz, hz2, FR.out])
    | (refine CallV.upd (by simp only [hget, ↓reduceIte, FR.out, hd, hf, hf2, hz, hz2]; first | done | rfl) (cA) (Sm.out ?_))
    | (refine CallV.updM (cT) (perm2 (by simp only [hget, hdel, ↓reduceIte, FR.out, hd, hf, hf2, hz, hz2]; first | done | rfl) (by simp only [hget, hdel, ↓reduceIte, FR.out, hd, hf, hf2, hz, hz2]; first | done | rfl)) (Sm.out ?_))
    | (first | refine CallV.fn (cC) (Sm.out ?_) | refine ExF.mk (cC) (Sm.out ?_) | refine ExG.mk (fun _ => cC) (Sm.out ?_) | refine ExG.mkJ (fun _ => cC) (Sm.out ?_) | refine ExG.mkI (Ob.out ?_) (fun _ => cC) (Sm.out ?_))
    | (refine WP.seq fun K hK => ?_)
    | (refine WP.region (rvc_sound _ _ (Sm.out ?_)))
    | (refine WP.drawMk (ia := 7) (k := 8) mixed (by decide +kernel) (by decide +kernel) (by decide +kernel) (by decide +kernel) (Sm.out ?_))
    | (refine WP.drawK rfl mixed (by decide +kernel) (Sm.out ?_))
    | (refine Ob.mk ?_; focus (first | assumption | omega | decide | trivial | (intro hob; simp only [hob, ZF]; done) | (intros; (repeat' refine And.intro ?_ ?_) <;> first | assumption | omega | trivial | decide) | (intros; simp only [ZE] at *; (repeat' refine And.intro ?_ ?_) <;> first | assumption | omega | trivial)))
    | (refine And.intro (Ob.out ?_) ?_)
    | (refine WP.block ?_)
    | (refine WP.cond rfl (fun hc => ?_) (fun hc => ?_) <;> (try simp only [ZC, reduceCtorEq, ZD] at hc) <;> (try (exact absurd hc (by decide))) <;> (try (exfalso; omega)))
    | ((first | refine WP.skip ?_ | refine WP.exit ?_); simp only [SeqQ, BlkQ, LoopQ, BodyQ, ↓reduceIte, Nat.reduceEqDiff, reduceCtorEq, look, true_and])
    | (refine WP.ret (Sm.out ?_))
    | (first | refine ExG.no (Sm.out ?_) | refine Or.inl (ExG.no (Sm.out ?_)) | refine Or.inl (And.intro (fun hg => absurd hg (by decide)) (ExG.no (Sm.out ?_))))
    | (refine Rt.mk ?_; refine And.intro ?_ ?_ <;> (intro hg; first | exact absurd hg (by decide) | refine Sm.out ?_))
    | (refine Nu.mk ?_; first | (fail_if_success (have := nb1)); intro nb1 | (fail_if_success (have := nb2)); intro nb2 | (fail_if_success (have := nb3)); intro nb3 | (fail_if_success (have := nb4)); intro nb4 | (fail_if_success (have := nb5)); intro nb5 | (fail_if_success (have := nb6)); intro nb6 | (fail_if_success (have := nb7)); intro nb7 | (fail_if_success (have := nb8)); intro nb8 | (fail_if_success (have := nb9)); intro nb9 | (fail_if_success (have := nb10)); intro nb10 | intro nbz)
    | (refine Fr.mk ?_; intro hfr; (first | (have hFRb : _ ≤ _ ∧ _ ≤ _ := And.intro hfr.1 hfr.2.1) | (have hFRb : _ ≤ _ := hfr.1) | skip); replace FR := Sm.mk (And.intro hfr FR.out); clear hfr; refine Sm.out ?_)
    | (refine Two.mk ?_ ?_)
    | (refine Cs.mk ?_; intro hcs; first | exact False.elim hcs | (exfalso; omega) | (refine Sm.out ?_))
    | go_step
    | omega
    | (simp only [maxLen_eq]; omega)
  (refine OutQ.drop _ _ (perm2 (by simp only [hget, hdel, ↓reduceIte, if_true, if_false, FR.out, hd]; first | done | rfl) (by simp only [hget, hdel, ↓reduceIte, if_true, if_false, FR.out, hd]; first | done | rfl)) (by simp only [resv, ZK, look, loadv, loadn, loadnm, load1, load1m, hget, ↓reduceIte, Nat.reduceEqDiff, Nat.reduceAdd, Nat.reduceMul, Nat.reduceLeDiff, Nat.reduceLT, reduceCtorEq, TFCnI, FR.out, hd]) ⟨(by simp only [resv, resA, ZK, look, loadv, loadn, loadnm, load1, load1m, hget, ↓reduceIte, Nat.reduceEqDiff, Nat.reduceAdd, Nat.reduceMul, Nat.reduceLeDiff, Nat.reduceLT, reduceCtorEq, TFCnI, FR.out, hd]; first | done | rfl), rfl⟩)
theorem pr_f {α : Type} (a b d : α) : List.Perm [a, b, d] ([b] ++ [a, d]) := List.Perm.swap _ _ _
/-- the heard keys when some came -/
theorem hear_new (c : Nat) (F N : AV) (h0 : List Ky) (q0 : Nat × Nat) (ks : List Ky) (n : Nat) (hn : ks.length = n) (h1 : 1 ≤ n) (hn1 : n ≤ 100) (hq0 : HOk c h0 q0) (hl0 : h0.length ≤ 50000) :
    ACt Try.prog 33 [pt c 0, .sl n (kcs ks)] (hdH c F N h0 q0) (fun r F' => ∃ y k', ((hrL h0 ks).length ≤ k' ∧ k' ≤ 9223372036854775807) ∧ r = .tup [] ∧ F' = [(y, .cells (kcs (hrL h0 ks)) (k' * 5) 50), (c, chM F (ms y 0 (hrL h0 ks).length k') N)]) := by
  have hne : hrL h0 ks ≠ [] := hrL_ne _ _ (.inr (by intro e; rw [e] at hn; simp at hn; omega))
  refine (hear_ct c F N h0 q0 ks n hn hn1 hq0 hl0).mono fun r F' hr => ?_
  obtain ⟨⟨q, hq⟩, e1, e2⟩ := hr
  obtain ⟨-, hq2⟩ := hq hne
  exact ⟨q.1, q.2, hq2, e1, by rw [e2, hdH_ne q hne]⟩
theorem pr_g {α : Type} (a b d e : α) : List.Perm [a, b, d, e] ([e, b] ++ [a, d]) := by
  have h1 : List.Perm [a, b, d, e] [e, a, b, d] := List.perm_append_comm (l₁ := [a, b, d]) (l₂ := [e])
  exact h1.trans (List.Perm.cons _ (List.Perm.swap _ _ _))
/-- a letter comes, the first -/
theorem del_l0 (c x k : Nat) (l : List Pk) (n i : Nat) (hd : c ≠ x ∧ x ≠ c) (N : AV) (hn : l.length = n) (hi : i < n) (hk : n ≤ k ∧ k ≤ 9223372036854775807) (hkl : n ≤ 100000) (m : Mg) (hl : l[i]'(by omega) = ⟨false, m⟩) (hm : 1 ≤ m.ks.length ∧ m.ks.length ≤ 100) :
    ACt Try.prog 20 [pt c 0, iv .i64 (i : Int)] [(c, chM (ms x 0 n k) nsl N), (x, .cells (fcs l) k 20)]
      (fun r F' => ∃ y k1 z k2, ((n - 1 + 1 ≤ k1 ∧ k1 ≤ 9223372036854775807) ∧ ((hrL [] m.ks).length ≤ k2 ∧ k2 ≤ 9223372036854775807)) ∧ r = .tup [nsl, iv .i64 0] ∧ F' = [(y, .cells (fcs (l.eraseIdx i ++ [⟨true, m⟩])) k1 20), (z, .cells (kcs (hrL [] m.ks)) (k2 * 5) 50), (c, chM (ms y 0 (n - 1 + 1) k1) (ms z 0 (hrL [] m.ks).length k2) N)]) := by
  have cA := at_s c x n k nsl N i
  rw [show atI n (i : Int) = 0 by unfold atI; rw [if_pos (by omega)]] at cA
  have cT := take_s c x k l n i hd nsl N hn hi hk hkl
  have hfv : fv (l[i]'(by omega)) = .ifc 63 (mv m) := by rw [hl]; rfl
  rw [hfv] at cT
  have cH : ACt Try.prog 33 [pt c 0, .sl m.ks.length (kcs m.ks)] [(c, chM (ms x 0 (n - 1) k) nsl N)] _ := hear_new c (ms x 0 (n - 1) k) N [] (0, 0) m.ks m.ks.length rfl hm.1 hm.2 (fun h => absurd rfl h) (by simp)
  have hap : fcs (l.eraseIdx i ++ [⟨true, m⟩]) = fcs (l.eraseIdx i) ++ [.ifc 65 (mv m)] := by simp [fcs, fv]
  rw [hap]
  have hln := fcs_len (l.eraseIdx i)
  rw [List.length_eraseIdx_of_lt (by omega), hn] at hln
  unfold mv at cT ⊢
  obtain ⟨q, hq⟩ : ∃ n, n = m.ks.length := ⟨_, rfl⟩
  rw [← hq] at cT cH ⊢
  obtain ⟨RH, hRH⟩ : ∃ C, C = hrL [] m.ks := ⟨_, rfl⟩
  rw [← hRH] at cH ⊢
  obtain ⟨nR, hnR⟩ : ∃ n, n = RH.length := ⟨_, rfl⟩
  rw [← hnR] at cH ⊢
  obtain ⟨KR, hKR⟩ : ∃ C, C = kcs RH := ⟨_, rfl⟩
  rw [← hKR] at cH ⊢
  obtain ⟨K1, hK1⟩ : ∃ C, C = kcs m.ks := ⟨_, rfl⟩
  rw [← hK1] at cT cH ⊢
  clear hfv hl hK1 hRH hKR hnR hap
  obtain ⟨C, hC⟩ : ∃ C, C = fcs l := ⟨_, rfl⟩
  rw [← hC] at cT ⊢
  obtain ⟨D, hD⟩ : ∃ D, D = fcs (l.eraseIdx i) := ⟨_, rfl⟩
  rw [← hD] at cT hln ⊢
  obtain ⟨n1, hn1⟩ : ∃ n1, n1 = n - 1 := ⟨_, rfl⟩
  rw [← hn1] at cT cH hln ⊢
  have hf := pl63
  have hf2 := pl65
  have hz := zv63
  have hz2 := zv65
  have m1 : k ≤ maxLen := by rw [maxLen_eq]; omega
  have hk3 : n1 ≤ k := by omega
  have hd1 := hd.1
  have hd2 := hd.2
  obtain ⟨mg, mp, mks⟩ := m
  refine ACt.intro Try.func20 rfl (by kernel_rfl) (by simp [Try.ntmps20]) (fun cx => ?_)
  simp only [argE, Try.ntmps20, Try.results20]
  first | (have FRx := FR; clear FRx) | (have FR : Sm (¬ ((1 : Nat) = 0)) := Sm.mk Nat.one_ne_zero)
  repeat' first
    | (refine Sm.mk ?_; try simp -dsimp only [ZK, rvc, drawF, headN, pureH, stp, dvc, calleeOf, gcall, pev, eff, newB, okd, og, ogs, ogo, ogp, slv, bltv, opd, litv, strip, one, both, putE, St.put, look, gdOf, gdv, picka, pickv, pickw, binv, bini, bins, binb, binp, binq, isSlT, bina, shp, eqCells, unv, convv, nilv, faddv, addp, idxav, idxp, load1, load1m, loadn, loadnm, loadv, hget, hset, hrep, hdel, slicev, slice3v, bnd, shift1, lenv, capv, IntKind.bits, extractv, fieldv, indexv, min2v, max2v, mkiv, tasv, tasz, cellsA, fillA, buildv, stC, oneC, rowMB, intsA, plN, appE, appZ, appC, appS, srcB, appNZ, appNC, VwL, srcC, srcZ, srcM, isBoolT, isPtrT, isSliceT, uOk, Value.oneCell', Nat.reducePow, Int.reducePow, Nat.reduceAdd, Nat.reduceMul, Nat.reduceSub, Nat.reduceLT, Nat.reduceLeDiff, Nat.reduceEqDiff, Nat.reduceBEq, Nat.reduceDiv, Nat.reduceMod, ↓reduceIte, reduceCtorEq, Int.reduceToNat, Int.reduceLT, Int.reduceLE, drawMF, mkS, TFCnI, SeqQ, BlkQ, LoopQ, BodyQ, hd1, hd2, hf, hf2, hz, hz2, hln, m1, hk3, Nat.mul_one, Nat.one_mul, Nat.zero_add, FR.out])
    | (refine CallV.upd (by simp only [hget, ↓reduceIte, FR.out, hd1, hd2, hf, hf2, hz, hz2, hln, m1, hk3, Nat.mul_one, Nat.one_mul, Nat.zero_add]; first | done | rfl) (cA) (Sm.out ?_))
    | (refine CallV.updM (cT) (perm2 (by simp only [hget, hdel, ↓reduceIte, FR.out, hd1, hd2, hf, hf2, hz, hz2, hln, m1, hk3, Nat.mul_one, Nat.one_mul, Nat.zero_add]; first | done | rfl) (by simp only [hget, hdel, ↓reduceIte, FR.out, hd1, hd2, hf, hf2, hz, hz2, hln, m1, hk3, Nat.mul_one, Nat.one_mul, Nat.zero_add]; first | done | rfl)) (Sm.out ?_))
    | (refine CallV.newC (cH) (pr_f _ _ _) (fun _ _ => rfl) (Sm.out ?_))
    | (refine WP.seq fun K hK => ?_)
    | (refine WP.region (rvc_sound _ _ (Sm.out ?_)))
    | (refine WP.drawMk (ia := 7) (k := 8) mixed (by decide +kernel) (by decide +kernel) (by decide +kernel) (by decide +kernel) (Sm.out ?_))
    | (refine WP.drawK rfl mixed (by decide +kernel) (Sm.out ?_))
    | (refine Ob.mk ?_; focus (first | assumption | omega | decide | trivial | (intro hob; simp only [hob, ZF]; done) | (intros; (repeat' refine And.intro ?_ ?_) <;> first | assumption | omega | trivial | decide) | (intros; simp only [ZE] at *; (repeat' refine And.intro ?_ ?_) <;> first | assumption | omega | trivial)))
    | (refine And.intro (Ob.out ?_) ?_)
    | (refine WP.block ?_)
    | (refine WP.cond rfl (fun hc => ?_) (fun hc => ?_) <;> (try simp only [ZC, reduceCtorEq, ZD] at hc) <;> (try (exact absurd hc (by decide))) <;> (try (exfalso; omega)))
    | ((first | refine WP.skip ?_ | refine WP.exit ?_); simp only [SeqQ, BlkQ, LoopQ, BodyQ, ↓reduceIte, Nat.reduceEqDiff, reduceCtorEq, look, true_and])
    | (refine WP.ret (Sm.out ?_))
    | (first | refine ExG.no (Sm.out ?_) | refine Or.inl (ExG.no (Sm.out ?_)) | refine Or.inl (And.intro (fun hg => absurd hg (by decide)) (ExG.no (Sm.out ?_))))
    | (refine Rt.mk ?_; refine And.intro ?_ ?_ <;> (intro hg; first | exact absurd hg (by decide) | refine Sm.out ?_))
    | (refine Nu.mk ?_; first | (fail_if_success (have := nb1)); intro nb1 | (fail_if_success (have := nb2)); intro nb2 | (fail_if_success (have := nb3)); intro nb3 | (fail_if_success (have := nb4)); intro nb4 | (fail_if_success (have := nb5)); intro nb5 | (fail_if_success (have := nb6)); intro nb6 | (fail_if_success (have := nb7)); intro nb7 | (fail_if_success (have := nb8)); intro nb8 | (fail_if_success (have := nb9)); intro nb9 | (fail_if_success (have := nb10)); intro nb10 | intro nbz)
    | (refine Fr.mk ?_; intro hfr; (first | (have hFRb : _ ≤ _ ∧ _ ≤ _ := And.intro hfr.1 hfr.2.1) | (have hFRb : _ ≤ _ := hfr.1) | skip); replace FR := Sm.mk (And.intro hfr FR.out); clear hfr; refine Sm.out ?_)
    | (refine Two.mk ?_ ?_)
    | (refine Cs.mk ?_; intro hcs; first | exact False.elim hcs | (exfalso; omega) | (refine Sm.out ?_))
    | go_step
    | omega
    | (simp only [maxLen_eq]; omega)
  (refine OutQ.drop _ _ (perm3 (by simp only [hget, hdel, ↓reduceIte, if_true, if_false, FR.out, hd1, hd2]; first | done | rfl) (by simp only [hget, hdel, ↓reduceIte, if_true, if_false, FR.out, hd1, hd2]; first | done | rfl) (by simp only [hget, hdel, ↓reduceIte, if_true, if_false, FR.out, hd1, hd2]; first | done | rfl)) (by simp only [resv, ZK, look, loadv, loadn, loadnm, load1, load1m, hget, ↓reduceIte, Nat.reduceEqDiff, Nat.reduceAdd, Nat.reduceMul, Nat.reduceLeDiff, Nat.reduceLT, reduceCtorEq, TFCnI, FR.out, hd1, hd2]) ⟨nb5, nb6, nb2, nb3, ⟨hFRb, FR.out.2.2.1.1⟩, (by simp only [resv, resA, ZK, look, loadv, loadn, loadnm, load1, load1m, hget, ↓reduceIte, Nat.reduceEqDiff, Nat.reduceAdd, Nat.reduceMul, Nat.reduceLeDiff, Nat.reduceLT, reduceCtorEq, TFCnI, FR.out, hd1, hd2]; first | done | rfl), rfl⟩)
/-- a letter comes, one more -/
theorem del_l1 (c x k hx hk : Nat) (h : List Ky) (l : List Pk) (n i : Nat) (hd : c ≠ x ∧ x ≠ c) (hdh : (c ≠ hx ∧ hx ≠ c) ∧ (x ≠ hx ∧ hx ≠ x)) (hh : h ≠ []) (hhk : h.length ≤ hk ∧ hk ≤ 9223372036854775807) (hhl : h.length ≤ 50000) (N : AV) (hn : l.length = n) (hi : i < n) (hk0 : n ≤ k ∧ k ≤ 9223372036854775807) (hkl : n ≤ 100000) (m : Mg) (hl : l[i]'(by omega) = ⟨false, m⟩) (hm : 1 ≤ m.ks.length ∧ m.ks.length ≤ 100) :
    ACt Try.prog 20 [pt c 0, iv .i64 (i : Int)] [(c, chM (ms x 0 n k) (ms hx 0 h.length hk) N), (x, .cells (fcs l) k 20), (hx, .cells (kcs h) (hk * 5) 50)]
      (fun r F' => ∃ y k1 z k2, ((n - 1 + 1 ≤ k1 ∧ k1 ≤ 9223372036854775807) ∧ ((hrL h m.ks).length ≤ k2 ∧ k2 ≤ 9223372036854775807)) ∧ r = .tup [nsl, iv .i64 0] ∧ F' = [(y, .cells (fcs (l.eraseIdx i ++ [⟨true, m⟩])) k1 20), (z, .cells (kcs (hrL h m.ks)) (k2 * 5) 50), (c, chM (ms y 0 (n - 1 + 1) k1) (ms z 0 (hrL h m.ks).length k2) N)]) := by
  have cA := at_s c x n k (ms hx 0 h.length hk) N i
  rw [show atI n (i : Int) = 0 by unfold atI; rw [if_pos (by omega)]] at cA
  have cT := take_s c x k l n i hd (ms hx 0 h.length hk) N hn hi hk0 hkl
  have hfv : fv (l[i]'(by omega)) = .ifc 63 (mv m) := by rw [hl]; rfl
  rw [hfv] at cT
  have cH := hear_new c (ms x 0 (n - 1) k) N h (hx, hk) m.ks m.ks.length rfl hm.1 hm.2 (fun _ => ⟨hdh.1, hhk⟩) hhl
  rw [hdH_ne _ hh] at cH
  simp only at cH
  obtain ⟨nh, hnh⟩ : ∃ n, n = h.length := ⟨_, rfl⟩
  rw [← hnh] at cA cT cH hhk ⊢
  have hap : fcs (l.eraseIdx i ++ [⟨true, m⟩]) = fcs (l.eraseIdx i) ++ [.ifc 65 (mv m)] := by simp [fcs, fv]
  rw [hap]
  have hln := fcs_len (l.eraseIdx i)
  rw [List.length_eraseIdx_of_lt (by omega), hn] at hln
  unfold mv at cT ⊢
  obtain ⟨q, hq⟩ : ∃ n, n = m.ks.length := ⟨_, rfl⟩
  rw [← hq] at cT cH ⊢
  obtain ⟨RH, hRH⟩ : ∃ C, C = hrL h m.ks := ⟨_, rfl⟩
  rw [← hRH] at cH ⊢
  obtain ⟨nR, hnR⟩ : ∃ n, n = RH.length := ⟨_, rfl⟩
  rw [← hnR] at cH ⊢
  obtain ⟨KR, hKR⟩ : ∃ C, C = kcs RH := ⟨_, rfl⟩
  rw [← hKR] at cH ⊢
  obtain ⟨K1, hK1⟩ : ∃ C, C = kcs m.ks := ⟨_, rfl⟩
  rw [← hK1] at cT cH ⊢
  obtain ⟨KH, hKH⟩ : ∃ C, C = kcs h := ⟨_, rfl⟩
  rw [← hKH] at cH ⊢
  clear hfv hl hK1 hKH hnh hRH hKR hnR hap
  obtain ⟨C, hC⟩ : ∃ C, C = fcs l := ⟨_, rfl⟩
  rw [← hC] at cT ⊢
  obtain ⟨D, hD⟩ : ∃ D, D = fcs (l.eraseIdx i) := ⟨_, rfl⟩
  rw [← hD] at cT hln ⊢
  obtain ⟨n1, hn1⟩ : ∃ n1, n1 = n - 1 := ⟨_, rfl⟩
  rw [← hn1] at cT cH hln ⊢
  have hf := pl63
  have hf2 := pl65
  have hz := zv63
  have hz2 := zv65
  have m1 : k ≤ maxLen := by rw [maxLen_eq]; omega
  have hk3 : n1 ≤ k := by omega
  have hd1 := hd.1
  have hd2 := hd.2
  obtain ⟨⟨d3, d4⟩, d5, d6⟩ := hdh
  obtain ⟨mg, mp, mks⟩ := m
  refine ACt.intro Try.func20 rfl (by kernel_rfl) (by simp [Try.ntmps20]) (fun cx => ?_)
  simp only [argE, Try.ntmps20, Try.results20]
  first | (have FRx := FR; clear FRx) | (have FR : Sm (¬ ((1 : Nat) = 0)) := Sm.mk Nat.one_ne_zero)
  repeat' first
    | (refine Sm.mk ?_; try simp -dsimp only [ZK, rvc, drawF, headN, pureH, stp, dvc, calleeOf, gcall, pev, eff, newB, okd, og, ogs, ogo, ogp, slv, bltv, opd, litv, strip, one, both, putE, St.put, look, gdOf, gdv, picka, pickv, pickw, binv, bini, bins, binb, binp, binq, isSlT, bina, shp, eqCells, unv, convv, nilv, faddv, addp, idxav, idxp, load1, load1m, loadn, loadnm, loadv, hget, hset, hrep, hdel, slicev, slice3v, bnd, shift1, lenv, capv, IntKind.bits, extractv, fieldv, indexv, min2v, max2v, mkiv, tasv, tasz, cellsA, fillA, buildv, stC, oneC, rowMB, intsA, plN, appE, appZ, appC, appS, srcB, appNZ, appNC, VwL, srcC, srcZ, srcM, isBoolT, isPtrT, isSliceT, uOk, Value.oneCell', Nat.reducePow, Int.reducePow, Nat.reduceAdd, Nat.reduceMul, Nat.reduceSub, Nat.reduceLT, Nat.reduceLeDiff, Nat.reduceEqDiff, Nat.reduceBEq, Nat.reduceDiv, Nat.reduceMod, ↓reduceIte, reduceCtorEq, Int.reduceToNat, Int.reduceLT, Int.reduceLE, drawMF, mkS, TFCnI, SeqQ, BlkQ, LoopQ, BodyQ, hd1, hd2, d3, d4, d5, d6, hf, hf2, hz, hz2, hln, m1, hk3, Nat.mul_one, Nat.one_mul, Nat.zero_add, FR.out])
    | (refine CallV.upd (by simp only [hget, ↓reduceIte, FR.out, hd1, hd2, d3, d4, d5, d6, hf, hf2, hz, hz2, hln, m1, hk3, Nat.mul_one, Nat.one_mul, Nat.zero_add]; first | done | rfl) (cA) (Sm.out ?_))
    | (refine CallV.updM (cT) (perm2 (by simp only [hget, hdel, ↓reduceIte, FR.out, hd1, hd2, d3, d4, d5, d6, hf, hf2, hz, hz2, hln, m1, hk3, Nat.mul_one, Nat.one_mul, Nat.zero_add]; first | done | rfl) (by simp only [hget, hdel, ↓reduceIte, FR.out, hd1, hd2, d3, d4, d5, d6, hf, hf2, hz, hz2, hln, m1, hk3, Nat.mul_one, Nat.one_mul, Nat.zero_add]; first | done | rfl)) (Sm.out ?_))
    | (refine CallV.newR (cH) ((pr_g _ _ _ _)) (Sm.out ?_))
    | (refine WP.seq fun K hK => ?_)
    | (refine WP.region (rvc_sound _ _ (Sm.out ?_)))
    | (refine WP.drawMk (ia := 7) (k := 8) mixed (by decide +kernel) (by decide +kernel) (by decide +kernel) (by decide +kernel) (Sm.out ?_))
    | (refine WP.drawK rfl mixed (by decide +kernel) (Sm.out ?_))
    | (refine Ob.mk ?_; focus (first | assumption | omega | decide | trivial | (intro hob; simp only [hob, ZF]; done) | (intros; (repeat' refine And.intro ?_ ?_) <;> first | assumption | omega | trivial | decide) | (intros; simp only [ZE] at *; (repeat' refine And.intro ?_ ?_) <;> first | assumption | omega | trivial)))
    | (refine And.intro (Ob.out ?_) ?_)
    | (refine WP.block ?_)
    | (refine WP.cond rfl (fun hc => ?_) (fun hc => ?_) <;> (try simp only [ZC, reduceCtorEq, ZD] at hc) <;> (try (exact absurd hc (by decide))) <;> (try (exfalso; omega)))
    | ((first | refine WP.skip ?_ | refine WP.exit ?_); simp only [SeqQ, BlkQ, LoopQ, BodyQ, ↓reduceIte, Nat.reduceEqDiff, reduceCtorEq, look, true_and])
    | (refine WP.ret (Sm.out ?_))
    | (first | refine ExG.no (Sm.out ?_) | refine Or.inl (ExG.no (Sm.out ?_)) | refine Or.inl (And.intro (fun hg => absurd hg (by decide)) (ExG.no (Sm.out ?_))))
    | (refine Rt.mk ?_; refine And.intro ?_ ?_ <;> (intro hg; first | exact absurd hg (by decide) | refine Sm.out ?_))
    | (refine Nu.mk ?_; first | (fail_if_success (have := nb1)); intro nb1 | (fail_if_success (have := nb2)); intro nb2 | (fail_if_success (have := nb3)); intro nb3 | (fail_if_success (have := nb4)); intro nb4 | (fail_if_success (have := nb5)); intro nb5 | (fail_if_success (have := nb6)); intro nb6 | (fail_if_success (have := nb7)); intro nb7 | (fail_if_success (have := nb8)); intro nb8 | (fail_if_success (have := nb9)); intro nb9 | (fail_if_success (have := nb10)); intro nb10 | intro nbz)
    | (refine Fr.mk ?_; intro hfr; (first | (have hFRb : _ ≤ _ ∧ _ ≤ _ := And.intro hfr.1 hfr.2.1) | (have hFRb : _ ≤ _ := hfr.1) | skip); replace FR := Sm.mk (And.intro hfr FR.out); clear hfr; refine Sm.out ?_)
    | (refine Two.mk ?_ ?_)
    | (refine Cs.mk ?_; intro hcs; first | exact False.elim hcs | (exfalso; omega) | (refine Sm.out ?_))
    | go_step
    | omega
    | (simp only [maxLen_eq]; omega)
  (refine OutQ.drop _ _ (perm3 (by simp only [hget, hdel, ↓reduceIte, if_true, if_false, FR.out, hd1, hd2, d3, d4, d5, d6]; first | done | rfl) (by simp only [hget, hdel, ↓reduceIte, if_true, if_false, FR.out, hd1, hd2, d3, d4, d5, d6]; first | done | rfl) (by simp only [hget, hdel, ↓reduceIte, if_true, if_false, FR.out, hd1, hd2, d3, d4, d5, d6]; first | done | rfl)) (by simp only [resv, ZK, look, loadv, loadn, loadnm, load1, load1m, hget, ↓reduceIte, Nat.reduceEqDiff, Nat.reduceAdd, Nat.reduceMul, Nat.reduceLeDiff, Nat.reduceLT, reduceCtorEq, TFCnI, FR.out, hd1, hd2, d3, d4, d5, d6]) ⟨nb5, nb6, nb2, nb3, ⟨hFRb, FR.out.2.2.1.1⟩, (by simp only [resv, resA, ZK, look, loadv, loadn, loadnm, load1, load1m, hget, ↓reduceIte, Nat.reduceEqDiff, Nat.reduceAdd, Nat.reduceMul, Nat.reduceLeDiff, Nat.reduceLT, reduceCtorEq, TFCnI, FR.out, hd1, hd2, d3, d4, d5, d6]; first | done | rfl), rfl⟩)
end Go.Proofs.Ytbkojpkdphggeaa
namespace Go.Proofs.Ytbkojpkdphggeaa
open Go
set_option linter.unusedVariables false
set_option linter.unusedSimpArgs false
theorem liftE {ι : Type} {M : ι → Hp} {cap : ι → Prop} {f : FuncId} {args : List AV} {F R F1 H : Hp} {v : AV} (h : ACt Try.prog f args F (fun r F' => r = v ∧ F' = F1)) (hP : H.Perm (F ++ R)) (i : ι) (hQ : (F1 ++ R).Perm (M i)) (hc : cap i) :
    ACt Try.prog f args H (fun r F' => ∃ g : { i : ι // ((M i).map (·.1)).Nodup ∧ cap i }, r = v ∧ F' = M g.1) :=
  ACt.frm (R := R) h hP fun r F' hr hn => by
    obtain ⟨e1, e2⟩ := hr
    subst e1 e2
    exact ⟨M i, [], by rw [List.append_nil]; exact hQ, ⟨i, ((hQ.map _).nodup_iff.1 hn), hc⟩, rfl, rfl⟩
theorem liftX {ι : Type} {M : ι → Hp} {cap : ι → Prop} {f : FuncId} {args : List AV} {F R H : Hp} {F1 : Nat → Nat → Hp} {v : AV} {φ : Nat → Nat → Prop} (h : ACt Try.prog f args F (fun r F' => ∃ y k, φ y k ∧ r = v ∧ F' = F1 y k)) (hP : H.Perm (F ++ R)) (i : Nat → Nat → ι)
    (hQ : ∀ y k, (F1 y k ++ R).Perm (M (i y k))) (hc : ∀ y k, φ y k → cap (i y k)) :
    ACt Try.prog f args H (fun r F' => ∃ g : { i : ι // ((M i).map (·.1)).Nodup ∧ cap i }, r = v ∧ F' = M g.1) :=
  ACt.frm (R := R) h hP fun r F' hr hn => by
    obtain ⟨y, k, e0, e1, e2⟩ := hr
    subst e1 e2
    exact ⟨M (i y k), [], by rw [List.append_nil]; exact hQ y k, ⟨i y k, (((hQ y k).map _).nodup_iff.1 hn), hc y k e0⟩, rfl, rfl⟩
theorem liftX4 {ι : Type} {M : ι → Hp} {cap : ι → Prop} {f : FuncId} {args : List AV} {F R H : Hp} {F1 : Nat → Nat → Nat → Nat → Hp} {v : AV} {φ : Nat → Nat → Nat → Nat → Prop} (h : ACt Try.prog f args F (fun r F' => ∃ y k z j, φ y k z j ∧ r = v ∧ F' = F1 y k z j)) (hP : H.Perm (F ++ R)) (i : Nat → Nat → Nat → Nat → ι)
    (hQ : ∀ y k z j, (F1 y k z j ++ R).Perm (M (i y k z j))) (hc : ∀ y k z j, φ y k z j → cap (i y k z j)) :
    ACt Try.prog f args H (fun r F' => ∃ g : { i : ι // ((M i).map (·.1)).Nodup ∧ cap i }, r = v ∧ F' = M g.1) :=
  ACt.frm (R := R) h hP fun r F' hr hn => by
    obtain ⟨y, k, z, j, e0, e1, e2⟩ := hr
    subst e1 e2
    exact ⟨M (i y k z j), [], by rw [List.append_nil]; exact hQ y k z j, ⟨i y k z j, (((hQ y k z j).map _).nodup_iff.1 hn), hc y k z j e0⟩, rfl, rfl⟩
/-- a call that looks -/
theorem liftS {f : FuncId} {args : List AV} {F R H : Hp} {v : AV} (h : ACt Try.prog f args F (fun r F' => r = v ∧ F' = F)) (hP : H.Perm (F ++ R)) : ACt Try.prog f args H (fun r F' => r = v ∧ F' = H) :=
  ACt.frm (R := R) h hP fun r F' hr _ => by
    obtain ⟨e1, e2⟩ := hr
    subst e1 e2
    exact ⟨H, [], by rw [List.append_nil]; exact hP.symm, rfl, rfl⟩
/-- a channel: what flies, what was heard, how many were lost -/
structure CA where
  l : List Pk
  h : List Ky
  n : Int
abbrev CI : Type := Option (Nat × Nat) × (Nat × Nat)
def fV (n : Nat) : Option (Nat × Nat) → AV
  | none => nsl
  | some q => ms q.1 0 n q.2
def fB (l : List Pk) : Option (Nat × Nat) → Hp
  | none => []
  | some q => [(q.1, .cells (fcs l) q.2 20)]
def hV (h : List Ky) (q : Nat × Nat) : AV := match h with
  | [] => nsl
  | k :: r => ms q.1 0 (k :: r).length q.2
def hB (h : List Ky) (q : Nat × Nat) : Hp := match h with
  | [] => []
  | k :: r => [(q.1, .cells (kcs (k :: r)) (q.2 * 5) 50)]
theorem hV_ne {h : List Ky} (q : Nat × Nat) (hh : h ≠ []) : hV h q = ms q.1 0 h.length q.2 := by cases h; exact absurd rfl hh; rfl
theorem hB_ne {h : List Ky} (q : Nat × Nat) (hh : h ≠ []) : hB h q = [(q.1, .cells (kcs h) (q.2 * 5) 50)] := by cases h; exact absurd rfl hh; rfl
/-- the channel's blocks -/
def cH (c : Nat) (a : CA) (i : CI) : Hp := (c, chM (fV a.l.length i.1) (hV a.h i.2) (iv .u64 a.n)) :: (fB a.l i.1 ++ hB a.h i.2)
/-- the blocks have room for what is there -/
def capA (a : CA) (i : CI) : Prop := (i.1 = none → a.l = []) ∧ (∀ q, i.1 = some q → a.l.length ≤ q.2 ∧ q.2 ≤ 9223372036854775807) ∧ (a.h ≠ [] → a.h.length ≤ i.2.2 ∧ i.2.2 ≤ 9223372036854775807)
abbrev CS (c : Nat) (a : CA) : Type := { i : CI // ((cH c a i).map (·.1)).Nodup ∧ capA a i }
/-- what is known of a channel -/
structure AOk (a : CA) : Prop where
  l : a.l.length ≤ 60
  m : ∀ p ∈ a.l, MR p.m
  h : a.h.length ≤ 50000
/-- the keys that are told -/
def kV (ks : List Ky) : AV := match ks with
  | [] => nsl
  | k :: r => .sl (k :: r).length (kcs (k :: r))
theorem kV_ne {h : List Ky} (hh : h ≠ []) : kV h = .sl h.length (kcs h) := by cases h; exact absurd rfl hh; rfl
/-! The steps -/
noncomputable def pst (a : CA) (m : Mg) : CA × Int := if mrB m = false then (a, 6) else if 60 ≤ a.l.length then (⟨a.l, a.h, IntKind.u64.wrap (a.n + 1)⟩, 11) else (⟨a.l ++ [⟨false, m⟩], a.h, a.n⟩, 0)
def lse (a : CA) (i : Int) : CA × Int := if 0 ≤ i ∧ i < (a.l.length : Int) then (⟨a.l.eraseIdx i.toNat, a.h, IntKind.u64.wrap (a.n + 1)⟩, 0) else (a, 7)
def dbl (a : CA) (i : Int) : CA × Int := if h : 0 ≤ i ∧ i < (a.l.length : Int) then (if 60 ≤ a.l.length then (a, 11) else (⟨a.l ++ [a.l[i.toNat]'(by omega)], a.h, a.n⟩, 0)) else (a, 7)
noncomputable def dlv (a : CA) (i : Int) : CA × (List Ky × Int) :=
  if h : 0 ≤ i ∧ i < (a.l.length : Int) then
    (if (a.l[i.toNat]'(by omega)).a = true then (⟨a.l.eraseIdx i.toNat, a.h, a.n⟩, ((a.l[i.toNat]'(by omega)).m.ks, 0))
     else (⟨a.l.eraseIdx i.toNat ++ [⟨true, (a.l[i.toNat]'(by omega)).m⟩], hrL a.h (a.l[i.toNat]'(by omega)).m.ks, a.n⟩, ([], 0)))
  else (a, ([], 7))
theorem nd_c {c x : Nat} {m m2 : MB} {l : Hp} (h : (((c, m) :: ([(x, m2)] ++ l) : Hp).map (·.1)).Nodup) : c ≠ x ∧ x ≠ c := by
  simp only [List.cons_append, List.nil_append, List.map_cons, List.nodup_cons, List.mem_cons, not_or] at h
  exact ⟨h.1.1, fun e => h.1.1 e.symm⟩
theorem nd_h {c x z : Nat} {m m2 m3 : MB} (h : (((c, m) :: ([(x, m2)] ++ [(z, m3)]) : Hp).map (·.1)).Nodup) : (c ≠ z ∧ z ≠ c) ∧ (x ≠ z ∧ z ≠ x) := by
  simp only [List.cons_append, List.nil_append, List.map_cons, List.map_nil, List.nodup_cons, List.mem_cons, List.not_mem_nil, or_false, not_or] at h
  exact ⟨⟨h.1.2, fun e => h.1.2 e.symm⟩, ⟨h.2.1, fun e => h.2.1 e.symm⟩⟩
theorem post_c (c : Nat) (a : CA) (ha : AOk a) (g : CS c a) (m : Mg) (hz : ∀ k ∈ m.ks, Kz k) : ACt Try.prog 21 [pt c 0, mv m] (cH c a g.1) (fun r F' => ∃ g' : CS c (pst a m).1, r = iv .i64 (pst a m).2 ∧ F' = cH c (pst a m).1 g'.1) := by
  obtain ⟨⟨fo, q⟩, hnd, hf0, hf1, hh1⟩ := g
  obtain ⟨l, h, n⟩ := a
  have hal := ha.l
  simp only at hf0 hf1 hh1 hal
  by_cases hm : mrB m = false
  · have e : pst ⟨l, h, n⟩ m = (⟨l, h, n⟩, 6) := by unfold pst; rw [if_pos hm]
    rw [e]
    exact liftE (M := cH c ⟨l, h, n⟩) (cap := capA ⟨l, h, n⟩) (R := fB l fo ++ hB h q) (post_form c _ _ _ m hz hm) (List.Perm.refl _) (fo, q) (List.Perm.refl _) ⟨hf0, hf1, hh1⟩
  have hmt : mrB m = true := by simpa using hm
  by_cases h60 : 60 ≤ l.length
  · have e : pst ⟨l, h, n⟩ m = (⟨l, h, IntKind.u64.wrap (n + 1)⟩, 11) := by unfold pst; rw [if_neg hm, if_pos h60]
    rw [e]
    cases fo with
    | none => have := hf0 rfl; rw [this] at h60; simp at h60
    | some x =>
      exact liftE (M := cH c ⟨l, h, IntKind.u64.wrap (n + 1)⟩) (cap := capA ⟨l, h, IntKind.u64.wrap (n + 1)⟩) (R := fB l (some x) ++ hB h q) (post_full c x.1 l.length x.2 (hV h q) n m hz hmt h60) (List.Perm.refl _) (some x, q) (List.Perm.refl _) ⟨hf0, hf1, hh1⟩
  · have e : pst ⟨l, h, n⟩ m = (⟨l ++ [(⟨false, m⟩ : Pk)], h, n⟩, 0) := by unfold pst; rw [if_neg hm, if_neg h60]
    rw [e]
    cases fo with
    | none =>
      have hl := hf0 rfl
      subst hl
      exact liftX (M := cH c ⟨[] ++ [(⟨false, m⟩ : Pk)], h, n⟩) (cap := capA ⟨[] ++ [(⟨false, m⟩ : Pk)], h, n⟩) (R := hB h q) (post_n c (hV h q) (iv .u64 n) m hz hmt) (List.Perm.refl _) (fun y k => (some (y, k), q)) (fun y k => List.Perm.swap _ _ _)
        (fun y k hk => ⟨fun h => by simp at h, fun q' hq' => by cases hq'; exact hk, hh1⟩)
    | some x =>
      obtain ⟨x, k⟩ := x
      have hk := hf1 _ rfl
      have hd := nd_c hnd
      exact liftX (M := cH c ⟨l ++ [(⟨false, m⟩ : Pk)], h, n⟩) (cap := capA ⟨l ++ [(⟨false, m⟩ : Pk)], h, n⟩) (R := hB h q) (post_s c x k l l.length hd (hV h q) (iv .u64 n) m hz hmt rfl hk (by omega)) (List.Perm.swap _ _ _) (fun y k => (some (y, k), q))
        (fun y k => by simp only [cH, fV, fB, List.length_append, List.length_cons, List.length_nil]; exact List.Perm.swap _ _ _)
        (fun y k hk => ⟨fun h => by simp at h, fun q' hq' => by cases hq'; simp only [List.length_append, List.length_cons, List.length_nil]; exact hk, hh1⟩)
theorem dbl_c (c : Nat) (a : CA) (ha : AOk a) (g : CS c a) (i : Int) : ACt Try.prog 23 [pt c 0, iv .i64 i] (cH c a g.1) (fun r F' => ∃ g' : CS c (dbl a i).1, r = iv .i64 (dbl a i).2 ∧ F' = cH c (dbl a i).1 g'.1) := by
  obtain ⟨⟨fo, q⟩, hnd, hf0, hf1, hh1⟩ := g
  obtain ⟨l, h, n⟩ := a
  have hal := ha.l
  simp only at hf0 hf1 hh1 hal
  by_cases hi : 0 ≤ i ∧ i < (l.length : Int)
  · cases fo with
    | none => have := hf0 rfl; rw [this] at hi; simp at hi; omega
    | some x =>
      obtain ⟨x, k⟩ := x
      have hk := hf1 _ rfl
      have hd := nd_c hnd
      by_cases h60 : 60 ≤ l.length
      · have e : dbl ⟨l, h, n⟩ i = (⟨l, h, n⟩, 11) := by unfold dbl; rw [dif_pos hi, if_pos h60]
        rw [e]
        exact liftE (M := cH c ⟨l, h, n⟩) (cap := capA ⟨l, h, n⟩) (R := fB l (some (x, k)) ++ hB h q) (dbl_f c x l.length k (hV h q) (iv .u64 n) i (by unfold atI; rw [if_pos hi]) h60) (List.Perm.refl _) (some (x, k), q) (List.Perm.refl _) ⟨hf0, hf1, hh1⟩
      · obtain ⟨j, rfl⟩ := Int.eq_ofNat_of_zero_le hi.1
        have hj : j < l.length := by omega
        have e : dbl ⟨l, h, n⟩ (j : Int) = (⟨l ++ [l[j]], h, n⟩, 0) := by unfold dbl; rw [dif_pos hi, if_neg h60]; rfl
        rw [e]
        exact liftX (M := cH c ⟨l ++ [l[j]], h, n⟩) (cap := capA ⟨l ++ [l[j]], h, n⟩) (R := hB h q) (dbl_s c x k l l.length j hd (hV h q) (iv .u64 n) rfl hj hk (by omega)) (List.Perm.swap _ _ _) (fun y k => (some (y, k), q))
          (fun y k => by simp only [cH, fV, fB, List.length_append, List.length_cons, List.length_nil]; exact List.Perm.swap _ _ _)
          (fun y k hk => ⟨fun h => by simp at h, fun q' hq' => by cases hq'; simp only [List.length_append, List.length_cons, List.length_nil]; exact hk, hh1⟩)
  · have e : dbl ⟨l, h, n⟩ i = (⟨l, h, n⟩, 7) := by unfold dbl; rw [dif_neg hi]
    rw [e]
    cases fo with
    | none => exact liftE (M := cH c ⟨l, h, n⟩) (cap := capA ⟨l, h, n⟩) (R := fB l none ++ hB h q) (dbl_n c (hV h q) (iv .u64 n) i) (List.Perm.refl _) (none, q) (List.Perm.refl _) ⟨hf0, hf1, hh1⟩
    | some x => exact liftE (M := cH c ⟨l, h, n⟩) (cap := capA ⟨l, h, n⟩) (R := fB l (some x) ++ hB h q) (dbl_b c x.1 l.length x.2 (hV h q) (iv .u64 n) i (by unfold atI; rw [if_neg hi])) (List.Perm.refl _) (some x, q) (List.Perm.refl _) ⟨hf0, hf1, hh1⟩
theorem pr_m {α : Type} (a b c : α) : List.Perm [a, b, c] (c :: ([a] ++ [b])) := by
  show List.Perm ([a, b] ++ [c]) ([c] ++ [a, b])
  exact List.perm_append_comm
theorem del_c (c : Nat) (a : CA) (ha : AOk a) (g : CS c a) (i : Int) : ACt Try.prog 20 [pt c 0, iv .i64 i] (cH c a g.1) (fun r F' => ∃ g' : CS c (dlv a i).1, r = .tup [kV (dlv a i).2.1, iv .i64 (dlv a i).2.2] ∧ F' = cH c (dlv a i).1 g'.1) := by
  obtain ⟨⟨fo, q⟩, hnd, hf0, hf1, hh1⟩ := g
  obtain ⟨l, h, n⟩ := a
  have hal := ha.l
  have ham := ha.m
  have hah := ha.h
  simp only at hf0 hf1 hh1 hal ham hah
  by_cases hi : 0 ≤ i ∧ i < (l.length : Int)
  · cases fo with
    | none => have := hf0 rfl; rw [this] at hi; simp at hi; omega
    | some x =>
      obtain ⟨x, k⟩ := x
      have hk := hf1 _ rfl
      have hd := nd_c hnd
      obtain ⟨j, rfl⟩ := Int.eq_ofNat_of_zero_le hi.1
      have hj : j < l.length := by omega
      have hmr := ham _ (List.getElem_mem hj)
      have hks : l[j].m.ks ≠ [] := fun e => by have := hmr.1; rw [e] at this; simp at this
      have e1 : l.length - 1 = (l.eraseIdx j).length := by rw [List.length_eraseIdx_of_lt hj]
      by_cases hra : l[j].a = true
      · have e : dlv ⟨l, h, n⟩ (j : Int) = (⟨l.eraseIdx j, h, n⟩, (l[j].m.ks, 0)) := by unfold dlv; rw [dif_pos hi]; exact if_pos hra
        rw [e]
        have hel : l[j] = ⟨true, l[j].m⟩ := by rw [← hra]
        have cL := del_r c x k l l.length j hd (hV h q) (iv .u64 n) rfl hj hk (by omega) l[j].m hel ⟨hmr.1, by have := hmr.2.1; omega⟩
        rw [e1, ← kV_ne hks] at cL
        exact liftE (M := cH c ⟨l.eraseIdx j, h, n⟩) (cap := capA ⟨l.eraseIdx j, h, n⟩) (R := hB h q) cL (List.Perm.refl _) (some (x, k), q) (List.Perm.refl _)
          ⟨fun h => by simp at h, fun q' hq' => by cases hq'; simp only; rw [← e1]; exact ⟨by omega, hk.2⟩, hh1⟩
      · have e : dlv ⟨l, h, n⟩ (j : Int) = (⟨l.eraseIdx j ++ [(⟨true, l[j].m⟩ : Pk)], hrL h l[j].m.ks, n⟩, ([], 0)) := by unfold dlv; rw [dif_pos hi]; exact if_neg hra
        rw [e]
        have hra' : l[j].a = false := by simpa using hra
        have hel : l[j] = ⟨false, l[j].m⟩ := by rw [← hra']
        have hRne := hrL_ne l[j].m.ks h (.inr hks)
        have e2 : l.length - 1 + 1 = (l.eraseIdx j ++ [(⟨true, l[j].m⟩ : Pk)]).length := by rw [List.length_append, ← e1]; rfl
        by_cases hh : h = []
        · subst hh
          have cL := del_l0 c x k l l.length j hd (iv .u64 n) rfl hj hk (by omega) l[j].m hel ⟨hmr.1, by have := hmr.2.1; omega⟩
          rw [e2] at cL
          exact liftX4 (M := cH c ⟨l.eraseIdx j ++ [(⟨true, l[j].m⟩ : Pk)], hrL [] l[j].m.ks, n⟩) (cap := capA ⟨l.eraseIdx j ++ [(⟨true, l[j].m⟩ : Pk)], hrL [] l[j].m.ks, n⟩) (R := []) cL (List.Perm.refl _) (fun y k1 z k2 => (some (y, k1), (z, k2)))
            (fun y k1 z k2 => by simp only [cH, fV, fB, hV_ne _ hRne, hB_ne _ hRne]; exact pr_m _ _ _)
            (fun y k1 z k2 hk => ⟨fun h => by simp at h, fun q' hq' => by cases hq'; exact hk.1, fun _ => hk.2⟩)
        · have hnd2 := hnd
          simp only [cH, fB] at hnd2
          rw [hB_ne _ hh] at hnd2
          have hdh := nd_h hnd2
          have cL := del_l1 c x k q.1 q.2 h l l.length j hd hdh hh (hh1 hh) hah (iv .u64 n) rfl hj hk (by omega) l[j].m hel ⟨hmr.1, by have := hmr.2.1; omega⟩
          rw [e2] at cL
          exact liftX4 (M := cH c ⟨l.eraseIdx j ++ [(⟨true, l[j].m⟩ : Pk)], hrL h l[j].m.ks, n⟩) (cap := capA ⟨l.eraseIdx j ++ [(⟨true, l[j].m⟩ : Pk)], hrL h l[j].m.ks, n⟩) (R := []) cL (by simp only [cH, fV, fB, hV_ne _ hh, hB_ne _ hh]; exact List.Perm.refl _) (fun y k1 z k2 => (some (y, k1), (z, k2)))
            (fun y k1 z k2 => by simp only [cH, fV, fB, hV_ne _ hRne, hB_ne _ hRne]; exact pr_m _ _ _)
            (fun y k1 z k2 hk => ⟨fun h => by simp at h, fun q' hq' => by cases hq'; exact hk.1, fun _ => hk.2⟩)
  · have e : dlv ⟨l, h, n⟩ i = (⟨l, h, n⟩, ([], 7)) := by unfold dlv; rw [dif_neg hi]
    rw [e]
    cases fo with
    | none => exact liftE (M := cH c ⟨l, h, n⟩) (cap := capA ⟨l, h, n⟩) (R := fB l none ++ hB h q) (del_n c (hV h q) (iv .u64 n) i) (List.Perm.refl _) (none, q) (List.Perm.refl _) ⟨hf0, hf1, hh1⟩
    | some x => exact liftE (M := cH c ⟨l, h, n⟩) (cap := capA ⟨l, h, n⟩) (R := fB l (some x) ++ hB h q) (del_b c x.1 l.length x.2 (hV h q) (iv .u64 n) i (by unfold atI; rw [if_neg hi])) (List.Perm.refl _) (some x, q) (List.Perm.refl _) ⟨hf0, hf1, hh1⟩
/-! The looks -/
theorem pr_n {α : Type} (a b : α) (l : List α) : List.Perm (a :: (l ++ [b])) ([b, a] ++ l) := by
  have h1 : List.Perm (a :: (l ++ [b])) (a :: ([b] ++ l)) := List.Perm.cons _ List.perm_append_comm
  exact h1.trans (List.Perm.swap _ _ _)
theorem flying_c (c : Nat) (a : CA) (ha : AOk a) (g : CS c a) : ACt Try.prog 17 [pt c 0] (cH c a g.1) (fun r F' => r = flR a.l ∧ F' = cH c a g.1) := by
  obtain ⟨⟨fo, q⟩, hnd, hf0, hf1, hh1⟩ := g
  obtain ⟨l, h, n⟩ := a
  have hal := ha.l
  have ham := ha.m
  simp only at hf0 hf1 hh1 hal ham
  cases fo with
  | none =>
    have hl := hf0 rfl
    subst hl
    exact liftS (R := hB h q) (flying_n c (hV h q) (iv .u64 n)) (List.Perm.refl _)
  | some x =>
    obtain ⟨x, k⟩ := x
    exact liftS (R := hB h q) (flying_s c x k l l.length (nd_c hnd) (hV h q) (iv .u64 n) rfl (hf1 _ rfl) (by omega) fun p hp => ⟨(ham p hp).1, by have := (ham p hp).2.1; omega⟩) (List.Perm.swap _ _ _)
theorem heard_c (c : Nat) (a : CA) (ha : AOk a) (g : CS c a) : ACt Try.prog 18 [pt c 0] (cH c a g.1) (fun r F' => r = kV a.h ∧ F' = cH c a g.1) := by
  obtain ⟨⟨fo, q⟩, hnd, hf0, hf1, hh1⟩ := g
  obtain ⟨l, h, n⟩ := a
  have hah := ha.h
  simp only at hf0 hf1 hh1 hah
  by_cases hh : h = []
  · subst hh
    exact liftS (R := fB l fo ++ []) (heard_n c (fV l.length fo) (iv .u64 n)) (List.Perm.refl _)
  · have hl1 : 1 ≤ h.length := by have := List.length_pos_iff.2 hh; omega
    have hd : c ≠ q.1 ∧ q.1 ≠ c := by
      simp only [cH, hB_ne _ hh, List.map_cons, List.map_append, List.map_nil, List.nodup_cons, List.mem_append, List.mem_cons, List.not_mem_nil, or_false, not_or] at hnd
      exact ⟨hnd.1.2, fun e => hnd.1.2 e.symm⟩
    rw [kV_ne hh]
    have cX := heard_s c q.1 q.2 h h.length hd (fV l.length fo) (iv .u64 n) rfl hl1 (hh1 hh) (by omega)
    refine liftS (R := fB l fo) cX ?_
    simp only [cH, hV_ne _ hh, hB_ne _ hh]
    exact pr_n _ _ _
end Go.Proofs.Ytbkojpkdphggeaa
namespace Go.Proofs.Ytbkojpkdphggeaa
open Go
set_option linter.unusedVariables false
set_option linter.unusedSimpArgs false
/-! A call's step, and what stays -/
noncomputable def stA (a : CA) (x : Ac) : CA × (List Ky × Int) :=
  if x.kd = 1 then ((pst a x.m).1, ([], (pst a x.m).2)) else if x.kd = 2 then dlv a x.i else if x.kd = 3 then ((lse a x.i).1, ([], (lse a x.i).2)) else if x.kd = 4 then ((dbl a x.i).1, ([], (dbl a x.i).2)) else (a, ([], 0))
/-- what is known of a channel before so many calls -/
structure BOk (t : Nat) (a : CA) : Prop where
  l : a.l.length ≤ 60
  m : ∀ p ∈ a.l, MR p.m
  h : a.h.length ≤ 8 * t
theorem BOk.to {t : Nat} {a : CA} (h : BOk t a) (ht : t ≤ 1000) : AOk a := ⟨h.l, h.m, by have := h.h; omega⟩
theorem BOk.step {t : Nat} {a : CA} (h : BOk t a) (x : Ac) : BOk (t + 1) (stA a x).1 := by
  obtain ⟨h1, h2, h3⟩ := h
  have mer : ∀ (i : Nat) (p : Pk), p ∈ a.l.eraseIdx i → MR p.m := fun i p hp => h2 p (List.mem_of_mem_eraseIdx hp)
  have ler : ∀ i : Nat, (a.l.eraseIdx i).length ≤ a.l.length := fun i => by
    rw [List.length_eraseIdx]; split <;> omega
  have hsame : BOk (t + 1) a := ⟨h1, h2, by omega⟩
  unfold stA
  split
  · simp only
    unfold pst
    split
    · exact hsame
    · split
      · exact ⟨h1, h2, by simp only; omega⟩
      · rename_i hm h60
        refine ⟨by simp only [List.length_append, List.length_cons, List.length_nil]; omega, fun p hp => ?_, by simp only; omega⟩
        rcases List.mem_append.1 hp with hp | hp
        · exact h2 p hp
        · rw [List.mem_singleton.1 hp]; exact mrB_out (by simpa using hm)
  · split
    · unfold dlv
      split
      · rename_i hi
        split
        · exact ⟨Nat.le_trans (ler _) h1, mer _, by simp only; omega⟩
        · have hmr := h2 _ (List.getElem_mem (show x.i.toNat < a.l.length by omega))
          have hle := hrL_len (a.l[x.i.toNat]'(by omega)).m.ks a.h
          refine ⟨?_, fun p hp => ?_, by simp only; have := hmr.2.1; omega⟩
          · simp only [List.length_append, List.length_cons, List.length_nil]
            rw [List.length_eraseIdx_of_lt (by omega)]; omega
          · rcases List.mem_append.1 hp with hp | hp
            · exact mer _ p hp
            · rw [List.mem_singleton.1 hp]; exact hmr
      · exact hsame
    · split
      · simp only
        unfold lse
        split
        · exact ⟨Nat.le_trans (ler _) h1, mer _, by simp only; omega⟩
        · exact hsame
      · split
        · simp only
          unfold dbl
          split
          · rename_i hi
            split
            · exact hsame
            · refine ⟨by simp only [List.length_append, List.length_cons, List.length_nil]; omega, fun p hp => ?_, by simp only; omega⟩
              rcases List.mem_append.1 hp with hp | hp
              · exact h2 p hp
              · rw [List.mem_singleton.1 hp]; exact h2 _ (List.getElem_mem _)
          · exact hsame
        · exact hsame
end Go.Proofs.Ytbkojpkdphggeaa
