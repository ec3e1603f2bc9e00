/-
  The walks and the laws that the statement leans on, part 6.
-/
import Derived.Test.YtnhkohgamnchlaaZ5
namespace Go.Proofs.Ytnhkohgamnchlaa
open Go
set_option linter.unusedVariables false
set_option linter.unusedSimpArgs false
theorem TFBlB : (((((((type_of% tyc0) ∧ (type_of% tyc4)) ∧ ((type_of% zmb4) ∧ (type_of% tyc5))) ∧ (((type_of% zmb5) ∧ (type_of% tyc24)) ∧ ((type_of% mth24_27) ∧ (type_of% mth24_26)))) ∧ ((((type_of% mth24_28) ∧ (type_of% con24)) ∧ ((type_of% zmb24) ∧ (type_of% tyc30))) ∧ (((type_of% elt30) ∧ (type_of% mkz30)) ∧ ((type_of% apT30) ∧ (type_of% elk30))))) ∧ (((((type_of% zmb30) ∧ (type_of% tyc51)) ∧ ((type_of% elt51) ∧ (type_of% mkz51))) ∧ (((type_of% mkc51) ∧ (type_of% apT51)) ∧ ((type_of% elk51) ∧ (type_of% zmb51)))) ∧ ((((type_of% tyc52) ∧ (type_of% elt52)) ∧ ((type_of% mkz52) ∧ (type_of% mkc52))) ∧ (((type_of% apT52) ∧ (type_of% elk52)) ∧ ((type_of% zmb52) ∧ (type_of% tyc54)))))) ∧ ((((((type_of% foff54_0) ∧ (type_of% fpart54_0)) ∧ ((type_of% foff54_1) ∧ (type_of% fpart54_1))) ∧ (((type_of% foff54_2) ∧ (type_of% fpart54_2)) ∧ ((type_of% foff54_3) ∧ (type_of% fpart54_3)))) ∧ ((((type_of% foff54_4) ∧ (type_of% fpart54_4)) ∧ ((type_of% foff54_5) ∧ (type_of% fpart54_5))) ∧ (((type_of% foff54_6) ∧ (type_of% fpart54_6)) ∧ ((type_of% zmb54) ∧ (type_of% bldT54))))) ∧ (((((type_of% tyc58) ∧ (type_of% foff58_0)) ∧ ((type_of% fpart58_0) ∧ (type_of% foff58_1))) ∧ (((type_of% fpart58_1) ∧ (type_of% zmb58)) ∧ ((type_of% bldT58) ∧ (type_of% Try.underlying0)))) ∧ ((((type_of% Try.underlying4) ∧ (type_of% Try.underlying5)) ∧ ((type_of% Try.underlying24) ∧ (type_of% Try.underlying30))) ∧ (((type_of% Try.underlying51) ∧ (type_of% Try.underlying52)) ∧ ((type_of% Try.underlying54) ∧ (type_of% Try.underlying58))))))) :=
  ⟨⟨⟨⟨⟨⟨tyc0, tyc4⟩, ⟨zmb4, tyc5⟩⟩, ⟨⟨zmb5, tyc24⟩, ⟨mth24_27, mth24_26⟩⟩⟩, ⟨⟨⟨mth24_28, con24⟩, ⟨zmb24, tyc30⟩⟩, ⟨⟨elt30, mkz30⟩, ⟨apT30, elk30⟩⟩⟩⟩, ⟨⟨⟨⟨zmb30, tyc51⟩, ⟨elt51, mkz51⟩⟩, ⟨⟨mkc51, apT51⟩, ⟨elk51, zmb51⟩⟩⟩, ⟨⟨⟨tyc52, elt52⟩, ⟨mkz52, mkc52⟩⟩, ⟨⟨apT52, elk52⟩, ⟨zmb52, tyc54⟩⟩⟩⟩⟩, ⟨⟨⟨⟨⟨foff54_0, fpart54_0⟩, ⟨foff54_1, fpart54_1⟩⟩, ⟨⟨foff54_2, fpart54_2⟩, ⟨foff54_3, fpart54_3⟩⟩⟩, ⟨⟨⟨foff54_4, fpart54_4⟩, ⟨foff54_5, fpart54_5⟩⟩, ⟨⟨foff54_6, fpart54_6⟩, ⟨zmb54, bldT54⟩⟩⟩⟩, ⟨⟨⟨⟨tyc58, foff58_0⟩, ⟨fpart58_0, foff58_1⟩⟩, ⟨⟨fpart58_1, zmb58⟩, ⟨bldT58, Try.underlying0⟩⟩⟩, ⟨⟨⟨Try.underlying4, Try.underlying5⟩, ⟨Try.underlying24, Try.underlying30⟩⟩, ⟨⟨Try.underlying51, Try.underlying52⟩, ⟨Try.underlying54, Try.underlying58⟩⟩⟩⟩⟩⟩
/-- rows, one behind the other -/
def rws (Ls : List (List Int)) : List AV := Ls.map (.slz .u8)
theorem rws_len (Ls : List (List Int)) : (rws Ls).length = Ls.length := by simp [rws]
theorem rws_one (Ls : List (List Int)) : (rws Ls).all oneC = true := by
  rw [List.all_eq_true]; intro x hx
  obtain ⟨y, _, rfl⟩ := List.mem_map.1 hx
  rfl
theorem clone_ct (b cap n : Nat) (Ls : List (List Int)) (hn : Ls.length = n) (h1 : 1 ≤ n) (h2 : n ≤ 400) (hc : n ≤ cap) : ACt Try.prog 25 [ms b 0 n cap] [(b, .cells (rws Ls) cap 30)] (fun r F' => ∃ x c : Nat, n ≤ c ∧ r = ms x 0 n c ∧ F' = [(x, .cells (rws Ls) c 30), (b, .cells (rws Ls) cap 30)]) := by
  have el := rws_len Ls
  rw [hn] at el
  have e1 : (rws Ls).take n = rws Ls := List.take_of_length_le (by omega)
  have e2 := rws_one Ls
  refine ACt.intro Try.func25 rfl (by kernel_rfl) (by simp [Try.ntmps25]) (fun cx => ?_)
  simp only [argE, Try.ntmps25, Try.results25]
  first | (have FRx := FR; clear FRx) | (have FR : Sm (¬ ((1 : Nat) = 0)) := Sm.mk Nat.one_ne_zero)
  repeat' first
    | (refine Sm.mk ?_; try simp -dsimp only [ZK, rvc, drawF, headN, pureH, stp, dvc, calleeOf, gcall, pev, eff, newB, okd, og, ogs, ogo, ogp, slv, bltv, opd, litv, strip, one, both, putE, St.put, look, gdOf, gdv, picka, pickv, pickw, binv, bini, bins, binb, binp, binq, isSlT, bina, shp, eqCells, unv, convv, nilv, faddv, addp, idxav, idxp, load1, load1m, loadn, loadnm, loadv, hget, hset, hrep, hdel, slicev, bnd, shift1, lenv, capv, IntKind.bits, extractv, fieldv, indexv, min2v, max2v, mkiv, cellsA, fillA, buildv, stC, oneC, rowMB, intsA, plN, appE, appZ, appC, appNZ, appNC, VwL, srcC, srcZ, srcM, isBoolT, isPtrT, isSliceT, uOk, Value.oneCell', Nat.reducePow, Int.reducePow, Nat.reduceAdd, Nat.reduceMul, Nat.reduceSub, Nat.reduceLT, Nat.reduceLeDiff, Nat.reduceEqDiff, Nat.reduceBEq, Nat.reduceDiv, Nat.reduceMod, ↓reduceIte, reduceCtorEq, Int.reduceToNat, Int.reduceLT, Int.reduceLE, TFBlB, SeqQ, BlkQ, LoopQ, BodyQ, el, e1, e2, h1, Option.isNone_some, FR.out])
    | (refine WP.seq fun K hK => ?_)
    | (refine WP.region (rvc_sound _ _ (Sm.out ?_)))
    | (refine WP.drawK rfl mixed (by decide +kernel) (Sm.out ?_))
    | (refine Ob.mk ?_; focus (first | assumption | omega | decide | trivial | (intro hob; simp only [hob, ZF]; done) | (intros; (repeat' refine And.intro ?_ ?_) <;> first | assumption | omega | trivial | decide) | (intros; simp only [ZE] at *; (repeat' refine And.intro ?_ ?_) <;> first | assumption | omega | trivial)))
    | (refine And.intro (Ob.out ?_) ?_)
    | (refine WP.block ?_)
    | (refine WP.cond rfl (fun hc => ?_) (fun hc => ?_) <;> (try simp only [ZC, reduceCtorEq, ZD] at hc) <;> (try (exact absurd hc (by decide))) <;> (try (exfalso; omega)))
    | ((first | refine WP.skip ?_ | refine WP.exit ?_); simp only [SeqQ, BlkQ, LoopQ, BodyQ, ↓reduceIte, Nat.reduceEqDiff, reduceCtorEq, look, true_and])
    | (refine WP.ret (Sm.out ?_))
    | (first | refine ExG.no (Sm.out ?_) | refine Or.inl (ExG.no (Sm.out ?_)) | refine Or.inl (And.intro (fun hg => absurd hg (by decide)) (ExG.no (Sm.out ?_))))
    | (refine Rt.mk ?_; refine And.intro ?_ ?_ <;> (intro hg; first | exact absurd hg (by decide) | refine Sm.out ?_))
    | (refine Nu.mk ?_; first | (fail_if_success (have := nb1)); intro nb1 | (fail_if_success (have := nb2)); intro nb2 | (fail_if_success (have := nb3)); intro nb3 | intro nbz)
    | (refine Fr.mk ?_; intro hfr; (first | (have hFRb : _ ≤ _ ∧ _ ≤ _ := And.intro hfr.1 hfr.2.1) | (have hFRb : _ ≤ _ := hfr.1) | skip); replace FR := Sm.mk (And.intro hfr FR.out); clear hfr; refine Sm.out ?_)
    | (refine Two.mk ?_ ?_)
    | (refine Cs.mk ?_; intro hcs; first | exact False.elim hcs | (exfalso; omega) | (refine Sm.out ?_))
    | go_step
    | omega
    | (simp only [maxLen_eq]; omega)
  (refine OutQ.drop _ _ (perm2 (by simp only [hget, hdel, ↓reduceIte, if_true, if_false, FR.out]; first | done | rfl) (by simp only [hget, hdel, ↓reduceIte, if_true, if_false, FR.out]; first | done | rfl)) (by simp only [resv, ZK, look, loadv, loadn, loadnm, load1, load1m, hget, ↓reduceIte, Nat.reduceEqDiff, Nat.reduceAdd, Nat.reduceMul, Nat.reduceLeDiff, Nat.reduceLT, reduceCtorEq, TFBlB, FR.out]) ⟨nb2, nb3, by omega, (by simp only [resv, resA, ZK, look, loadv, loadn, loadnm, load1, load1m, hget, ↓reduceIte, Nat.reduceEqDiff, Nat.reduceAdd, Nat.reduceMul, Nat.reduceLeDiff, Nat.reduceLT, reduceCtorEq, TFBlB, FR.out]; first | done | rfl), rfl⟩)
theorem settle_ct (b size de bl cl bs cs n : Nat) (W : AV) (f : Int) (dk : Bool) (Ll Ls : List (List Int)) (hd : b ≠ bs ∧ bs ≠ b) (hn : Ls.length = n) (h1 : 1 ≤ n) (h2 : n ≤ 400) (hc : n ≤ cs) :
    ACt Try.prog 28 [pt b 0] [(b, dkM size (ms bl 0 n cl) (ms bs 0 n cs) W f dk de), (bs, .cells (rws Ls) cs 30)]
    (fun r F' => ∃ x c : Nat, n ≤ c ∧ r = .tup [] ∧ F' = [(x, .cells (rws Ls) c 30), (b, dkM size (ms x 0 n c) (ms bs 0 n cs) (.lit (.slice none 0 0)) f dk de), (bs, .cells (rws Ls) cs 30)]) := by
  have c1 := clone_ct bs cs n Ls hn h1 h2 hc
  unfold dkM
  refine ACt.intro Try.func28 rfl (by kernel_rfl) (by simp [Try.ntmps28]) (fun cx => ?_)
  simp only [argE, Try.ntmps28, Try.results28]
  first | (have FRx := FR; clear FRx) | (have FR : Sm (¬ ((1 : Nat) = 0)) := Sm.mk Nat.one_ne_zero)
  repeat' first
    | (refine Sm.mk ?_; try simp -dsimp only [ZK, rvc, drawF, headN, pureH, stp, dvc, calleeOf, gcall, pev, eff, newB, okd, og, ogs, ogo, ogp, slv, bltv, opd, litv, strip, one, both, putE, St.put, look, gdOf, gdv, picka, pickv, pickw, binv, bini, bins, binb, binp, binq, isSlT, bina, shp, eqCells, unv, convv, nilv, faddv, addp, idxav, idxp, load1, load1m, loadn, loadnm, loadv, hget, hset, hrep, hdel, slicev, bnd, shift1, lenv, capv, IntKind.bits, extractv, fieldv, indexv, min2v, max2v, mkiv, cellsA, fillA, buildv, stC, oneC, rowMB, intsA, plN, appE, appZ, appC, appNZ, appNC, VwL, srcC, srcZ, srcM, isBoolT, isPtrT, isSliceT, uOk, Value.oneCell', Nat.reducePow, Int.reducePow, Nat.reduceAdd, Nat.reduceMul, Nat.reduceSub, Nat.reduceLT, Nat.reduceLeDiff, Nat.reduceEqDiff, Nat.reduceBEq, Nat.reduceDiv, Nat.reduceMod, ↓reduceIte, reduceCtorEq, Int.reduceToNat, Int.reduceLT, Int.reduceLE, TFBlB, SeqQ, BlkQ, LoopQ, BodyQ, hd, FR.out])
    | (refine CallV.newC (c1) (perm1 (by simp only [hget, hdel, ↓reduceIte, FR.out, hd]; first | done | rfl)) (fun _ _ => rfl) (Sm.out ?_))
    | (refine WP.seq fun K hK => ?_)
    | (refine WP.region (rvc_sound _ _ (Sm.out ?_)))
    | (refine WP.drawK rfl mixed (by decide +kernel) (Sm.out ?_))
    | (refine Ob.mk ?_; focus (first | assumption | omega | decide | trivial | (intro hob; simp only [hob, ZF]; done) | (intros; (repeat' refine And.intro ?_ ?_) <;> first | assumption | omega | trivial | decide) | (intros; simp only [ZE] at *; (repeat' refine And.intro ?_ ?_) <;> first | assumption | omega | trivial)))
    | (refine And.intro (Ob.out ?_) ?_)
    | (refine WP.block ?_)
    | (refine WP.cond rfl (fun hc => ?_) (fun hc => ?_) <;> (try simp only [ZC, reduceCtorEq, ZD] at hc) <;> (try (exact absurd hc (by decide))) <;> (try (exfalso; omega)))
    | ((first | refine WP.skip ?_ | refine WP.exit ?_); simp only [SeqQ, BlkQ, LoopQ, BodyQ, ↓reduceIte, Nat.reduceEqDiff, reduceCtorEq, look, true_and])
    | (refine WP.ret (Sm.out ?_))
    | (first | refine ExG.no (Sm.out ?_) | refine Or.inl (ExG.no (Sm.out ?_)) | refine Or.inl (And.intro (fun hg => absurd hg (by decide)) (ExG.no (Sm.out ?_))))
    | (refine Rt.mk ?_; refine And.intro ?_ ?_ <;> (intro hg; first | exact absurd hg (by decide) | refine Sm.out ?_))
    | (refine Nu.mk ?_; first | (fail_if_success (have := nb1)); intro nb1 | (fail_if_success (have := nb2)); intro nb2 | (fail_if_success (have := nb3)); intro nb3 | intro nbz)
    | (refine Fr.mk ?_; intro hfr; (first | (have hFRb : _ ≤ _ ∧ _ ≤ _ := And.intro hfr.1 hfr.2.1) | (have hFRb : _ ≤ _ := hfr.1) | skip); replace FR := Sm.mk (And.intro hfr FR.out); clear hfr; refine Sm.out ?_)
    | (refine Two.mk ?_ ?_)
    | (refine Cs.mk ?_; intro hcs; first | exact False.elim hcs | (exfalso; omega) | (refine Sm.out ?_))
    | go_step
    | omega
    | (simp only [maxLen_eq]; omega)
  (refine OutQ.drop _ _ (perm3 (by simp only [hget, hdel, ↓reduceIte, if_true, if_false, FR.out, hd]; first | done | rfl) (by simp only [hget, hdel, ↓reduceIte, if_true, if_false, FR.out, hd]; first | done | rfl) (by simp only [hget, hdel, ↓reduceIte, if_true, if_false, FR.out, hd]; first | done | rfl)) (by simp only [resv, ZK, look, loadv, loadn, loadnm, load1, load1m, hget, ↓reduceIte, Nat.reduceEqDiff, Nat.reduceAdd, Nat.reduceMul, Nat.reduceLeDiff, Nat.reduceLT, reduceCtorEq, TFBlB, FR.out, hd]) ⟨nb1, nb2, FR.out.1.1, (by simp only [resv, resA, ZK, look, loadv, loadn, loadnm, load1, load1m, hget, ↓reduceIte, Nat.reduceEqDiff, Nat.reduceAdd, Nat.reduceMul, Nat.reduceLeDiff, Nat.reduceLT, reduceCtorEq, TFBlB, FR.out, hd]; first | done | rfl), rfl⟩)
/-- a row's copy -/
theorem bclone_ct (zs : List Int) (h1 : 1 ≤ zs.length) (h2 : zs.length ≤ 512) : ACt Try.prog 34 [.slz .u8 zs] [] (Fn (.slz .u8 zs)) := by
  refine ACt.intro Try.func34 rfl (by kernel_rfl) (by simp [Try.ntmps34]) (fun cx => ?_)
  simp only [argE, Try.ntmps34, Try.results34]
  first | (have FRx := FR; clear FRx) | (have FR : Sm (¬ ((1 : Nat) = 0)) := Sm.mk Nat.one_ne_zero)
  repeat' first
    | (refine Sm.mk ?_; try simp -dsimp only [ZK, rvc, drawF, headN, pureH, stp, dvc, calleeOf, gcall, pev, eff, newB, okd, og, ogs, ogo, ogp, slv, bltv, opd, litv, strip, one, both, putE, St.put, look, gdOf, gdv, picka, pickv, pickw, binv, bini, bins, binb, binp, binq, isSlT, bina, shp, eqCells, unv, convv, nilv, faddv, addp, idxav, idxp, load1, load1m, loadn, loadnm, loadv, hget, hset, hrep, hdel, slicev, bnd, shift1, lenv, capv, IntKind.bits, extractv, fieldv, indexv, min2v, max2v, mkiv, cellsA, fillA, buildv, stC, oneC, rowMB, intsA, plN, appE, appZ, appC, appNZ, appNC, VwL, srcC, srcZ, srcM, isBoolT, isPtrT, isSliceT, uOk, Value.oneCell', Nat.reducePow, Int.reducePow, Nat.reduceAdd, Nat.reduceMul, Nat.reduceSub, Nat.reduceLT, Nat.reduceLeDiff, Nat.reduceEqDiff, Nat.reduceBEq, Nat.reduceDiv, Nat.reduceMod, ↓reduceIte, reduceCtorEq, Int.reduceToNat, Int.reduceLT, Int.reduceLE, TFBlB, SeqQ, BlkQ, LoopQ, BodyQ, h1, FR.out])
    | (refine WP.seq fun K hK => ?_)
    | (refine WP.region (rvc_sound _ _ (Sm.out ?_)))
    | (refine WP.drawK rfl mixed (by decide +kernel) (Sm.out ?_))
    | (refine Ob.mk ?_; focus (first | assumption | omega | decide | trivial | (intro hob; simp only [hob, ZF]; done) | (intros; (repeat' refine And.intro ?_ ?_) <;> first | assumption | omega | trivial | decide) | (intros; simp only [ZE] at *; (repeat' refine And.intro ?_ ?_) <;> first | assumption | omega | trivial)))
    | (refine And.intro (Ob.out ?_) ?_)
    | (refine WP.block ?_)
    | (refine WP.cond rfl (fun hc => ?_) (fun hc => ?_) <;> (try simp only [ZC, reduceCtorEq, ZD] at hc) <;> (try (exact absurd hc (by decide))) <;> (try (exfalso; omega)))
    | ((first | refine WP.skip ?_ | refine WP.exit ?_); simp only [SeqQ, BlkQ, LoopQ, BodyQ, ↓reduceIte, Nat.reduceEqDiff, reduceCtorEq, look, true_and])
    | (refine WP.ret (Sm.out ?_))
    | (first | refine ExG.no (Sm.out ?_) | refine Or.inl (ExG.no (Sm.out ?_)) | refine Or.inl (And.intro (fun hg => absurd hg (by decide)) (ExG.no (Sm.out ?_))))
    | (refine Rt.mk ?_; refine And.intro ?_ ?_ <;> (intro hg; first | exact absurd hg (by decide) | refine Sm.out ?_))
    | (refine Nu.mk ?_; first | (fail_if_success (have := nb1)); intro nb1 | (fail_if_success (have := nb2)); intro nb2 | (fail_if_success (have := nb3)); intro nb3 | intro nbz)
    | (refine Fr.mk ?_; intro hfr; (first | (have hFRb : _ ≤ _ ∧ _ ≤ _ := And.intro hfr.1 hfr.2.1) | (have hFRb : _ ≤ _ := hfr.1) | skip); replace FR := Sm.mk (And.intro hfr FR.out); clear hfr; refine Sm.out ?_)
    | (refine Two.mk ?_ ?_)
    | (refine Cs.mk ?_; intro hcs; first | exact False.elim hcs | (exfalso; omega) | (refine Sm.out ?_))
    | go_step
    | omega
    | (simp only [maxLen_eq]; omega)
  (refine OutQ.wk (Wk.freeze (nb2) (by simp only [ZK, rvc, drawF, headN, pureH, stp, dvc, calleeOf, gcall, pev, eff, newB, okd, og, ogs, ogo, ogp, slv, bltv, opd, litv, strip, one, both, putE, St.put, look, gdOf, gdv, picka, pickv, pickw, binv, bini, bins, binb, binp, binq, isSlT, bina, shp, eqCells, unv, convv, nilv, faddv, addp, idxav, idxp, load1, load1m, loadn, loadnm, loadv, hget, hset, hrep, hdel, slicev, bnd, shift1, lenv, capv, IntKind.bits, extractv, fieldv, indexv, min2v, max2v, mkiv, cellsA, fillA, buildv, stC, oneC, rowMB, intsA, plN, appE, appZ, appC, appNZ, appNC, VwL, srcC, srcZ, srcM, isBoolT, isPtrT, isSliceT, uOk, Value.oneCell', Nat.reducePow, Int.reducePow, Nat.reduceAdd, Nat.reduceMul, Nat.reduceSub, Nat.reduceLT, Nat.reduceLeDiff, Nat.reduceEqDiff, Nat.reduceBEq, Nat.reduceDiv, Nat.reduceMod, ↓reduceIte, reduceCtorEq, Int.reduceToNat, Int.reduceLT, Int.reduceLE, TFBlB, SeqQ, BlkQ, LoopQ, BodyQ, FR.out]; first | done | rfl)) ?_; simp only [frzE, frz, ZK, rvc, drawF, headN, pureH, stp, dvc, calleeOf, gcall, pev, eff, newB, okd, og, ogs, ogo, ogp, slv, bltv, opd, litv, strip, one, both, putE, St.put, look, gdOf, gdv, picka, pickv, pickw, binv, bini, bins, binb, binp, binq, isSlT, bina, shp, eqCells, unv, convv, nilv, faddv, addp, idxav, idxp, load1, load1m, loadn, loadnm, loadv, hget, hset, hrep, hdel, slicev, bnd, shift1, lenv, capv, IntKind.bits, extractv, fieldv, indexv, min2v, max2v, mkiv, cellsA, fillA, buildv, stC, oneC, rowMB, intsA, plN, appE, appZ, appC, appNZ, appNC, VwL, srcC, srcZ, srcM, isBoolT, isPtrT, isSliceT, uOk, Value.oneCell', Nat.reducePow, Int.reducePow, Nat.reduceAdd, Nat.reduceMul, Nat.reduceSub, Nat.reduceLT, Nat.reduceLeDiff, Nat.reduceEqDiff, Nat.reduceBEq, Nat.reduceDiv, Nat.reduceMod, ↓reduceIte, reduceCtorEq, Int.reduceToNat, Int.reduceLT, Int.reduceLE, TFBlB, SeqQ, BlkQ, LoopQ, BodyQ, FR.out])
  (refine OutQ.all ?_ ?_; (focus (simp only [resv, ZK, look, loadv, loadn, loadnm, load1, load1m, hget, ↓reduceIte, Nat.reduceEqDiff, Nat.reduceAdd, Nat.reduceMul, Nat.reduceLeDiff, Nat.reduceLT, reduceCtorEq, TFBlB])); (try simp only [resv, resA, Fn, ZK, look, loadv, loadn, loadnm, load1, load1m, hget, ↓reduceIte, Nat.reduceEqDiff, Nat.reduceAdd, Nat.reduceMul, Nat.reduceLeDiff, Nat.reduceLT, reduceCtorEq, TFBlB]); (try simp [resA, Fn, look]))
end Go.Proofs.Ytnhkohgamnchlaa
namespace Go.Proofs.Ytnhkohgamnchlaa
open Go
set_option linter.unusedVariables false
set_option linter.unusedSimpArgs false
theorem TFBlC : ((((((type_of% tyc0) ∧ ((type_of% tyc3) ∧ (type_of% zmb3))) ∧ ((type_of% tyc4) ∧ ((type_of% zmb4) ∧ (type_of% tyc5)))) ∧ (((type_of% zmb5) ∧ ((type_of% tyc24) ∧ (type_of% mth24_27))) ∧ (((type_of% mth24_26) ∧ (type_of% mth24_28)) ∧ ((type_of% con24) ∧ (type_of% zmb24))))) ∧ ((((type_of% tyc25) ∧ ((type_of% zmb25) ∧ (type_of% tyc30))) ∧ (((type_of% elt30) ∧ (type_of% mkz30)) ∧ ((type_of% apT30) ∧ (type_of% elk30)))) ∧ (((type_of% zmb30) ∧ ((type_of% tyc51) ∧ (type_of% elt51))) ∧ (((type_of% mkz51) ∧ (type_of% mkc51)) ∧ ((type_of% apT51) ∧ (type_of% elk51)))))) ∧ (((((type_of% zmb51) ∧ ((type_of% tyc54) ∧ (type_of% foff54_0))) ∧ ((type_of% fpart54_0) ∧ ((type_of% foff54_1) ∧ (type_of% fpart54_1)))) ∧ (((type_of% foff54_2) ∧ ((type_of% fpart54_2) ∧ (type_of% foff54_3))) ∧ (((type_of% fpart54_3) ∧ (type_of% foff54_4)) ∧ ((type_of% fpart54_4) ∧ (type_of% foff54_5))))) ∧ ((((type_of% fpart54_5) ∧ ((type_of% foff54_6) ∧ (type_of% fpart54_6))) ∧ (((type_of% zmb54) ∧ (type_of% bldT54)) ∧ ((type_of% Try.underlying0) ∧ (type_of% Try.underlying3)))) ∧ (((type_of% Try.underlying4) ∧ ((type_of% Try.underlying5) ∧ (type_of% Try.underlying24))) ∧ (((type_of% Try.underlying25) ∧ (type_of% Try.underlying30)) ∧ ((type_of% Try.underlying51) ∧ (type_of% Try.underlying54))))))) :=
  ⟨⟨⟨⟨⟨tyc0, ⟨tyc3, zmb3⟩⟩, ⟨tyc4, ⟨zmb4, tyc5⟩⟩⟩, ⟨⟨zmb5, ⟨tyc24, mth24_27⟩⟩, ⟨⟨mth24_26, mth24_28⟩, ⟨con24, zmb24⟩⟩⟩⟩, ⟨⟨⟨tyc25, ⟨zmb25, tyc30⟩⟩, ⟨⟨elt30, mkz30⟩, ⟨apT30, elk30⟩⟩⟩, ⟨⟨zmb30, ⟨tyc51, elt51⟩⟩, ⟨⟨mkz51, mkc51⟩, ⟨apT51, elk51⟩⟩⟩⟩⟩, ⟨⟨⟨⟨zmb51, ⟨tyc54, foff54_0⟩⟩, ⟨fpart54_0, ⟨foff54_1, fpart54_1⟩⟩⟩, ⟨⟨foff54_2, ⟨fpart54_2, foff54_3⟩⟩, ⟨⟨fpart54_3, foff54_4⟩, ⟨fpart54_4, foff54_5⟩⟩⟩⟩, ⟨⟨⟨fpart54_5, ⟨foff54_6, fpart54_6⟩⟩, ⟨⟨zmb54, bldT54⟩, ⟨Try.underlying0, Try.underlying3⟩⟩⟩, ⟨⟨Try.underlying4, ⟨Try.underlying5, Try.underlying24⟩⟩, ⟨⟨Try.underlying25, Try.underlying30⟩, ⟨Try.underlying51, Try.underlying54⟩⟩⟩⟩⟩⟩
theorem sync_dark (b size de bs n c : Nat) (L W : AV) (f : Int) : ACt Try.prog 12 [pt b 0] [(b, dkM size L (ms bs 0 n c) W f true de)] (fun r F' => r = iv .i64 12 ∧ F' = [(b, dkM size L (ms bs 0 n c) W f true de)]) := by
  have c1 := may_ct b size de bs n c L W f 0 0 true
  rw [show mayC size n true 0 0 = 12 from rfl] at c1
  refine ACt.intro Try.func12 rfl (by kernel_rfl) (by simp [Try.ntmps12]) (fun cx => ?_)
  simp only [argE, Try.ntmps12, Try.results12]
  first | (have FRx := FR; clear FRx) | (have FR : Sm (¬ ((1 : Nat) = 0)) := Sm.mk Nat.one_ne_zero)
  repeat' first
    | (refine Sm.mk ?_; try simp -dsimp only [ZK, rvc, drawF, headN, pureH, stp, dvc, calleeOf, gcall, pev, eff, newB, okd, og, ogs, ogo, ogp, slv, bltv, opd, litv, strip, one, both, putE, St.put, look, gdOf, gdv, picka, pickv, pickw, binv, bini, bins, binb, binp, binq, isSlT, bina, shp, eqCells, unv, convv, nilv, faddv, addp, idxav, idxp, load1, load1m, loadn, loadnm, loadv, hget, hset, hrep, hdel, slicev, bnd, shift1, lenv, capv, IntKind.bits, extractv, fieldv, indexv, min2v, max2v, mkiv, cellsA, fillA, buildv, stC, oneC, rowMB, intsA, plN, appE, appZ, appC, appNZ, appNC, VwL, srcC, srcZ, srcM, isBoolT, isPtrT, isSliceT, uOk, Value.oneCell', Nat.reducePow, Int.reducePow, Nat.reduceAdd, Nat.reduceMul, Nat.reduceSub, Nat.reduceLT, Nat.reduceLeDiff, Nat.reduceEqDiff, Nat.reduceBEq, Nat.reduceDiv, Nat.reduceMod, ↓reduceIte, reduceCtorEq, Int.reduceToNat, Int.reduceLT, Int.reduceLE, TFBlC, SeqQ, BlkQ, LoopQ, BodyQ, FR.out])
    | (refine CallV.upd (by simp only [hget, ↓reduceIte, FR.out]; first | done | rfl) (c1) (Sm.out ?_))
    | (refine WP.seq fun K hK => ?_)
    | (refine WP.region (rvc_sound _ _ (Sm.out ?_)))
    | (refine WP.drawK rfl mixed (by decide +kernel) (Sm.out ?_))
    | (refine Ob.mk ?_; focus (first | assumption | omega | decide | trivial | (intro hob; simp only [hob, ZF]; done) | (intros; (repeat' refine And.intro ?_ ?_) <;> first | assumption | omega | trivial | decide) | (intros; simp only [ZE] at *; (repeat' refine And.intro ?_ ?_) <;> first | assumption | omega | trivial)))
    | (refine And.intro (Ob.out ?_) ?_)
    | (refine WP.block ?_)
    | (refine WP.cond rfl (fun hc => ?_) (fun hc => ?_) <;> (try simp only [ZC, reduceCtorEq, ZD] at hc) <;> (try (exact absurd hc (by decide))) <;> (try (exfalso; omega)))
    | ((first | refine WP.skip ?_ | refine WP.exit ?_); simp only [SeqQ, BlkQ, LoopQ, BodyQ, ↓reduceIte, Nat.reduceEqDiff, reduceCtorEq, look, true_and])
    | (refine WP.ret (Sm.out ?_))
    | (first | refine ExG.no (Sm.out ?_) | refine Or.inl (ExG.no (Sm.out ?_)) | refine Or.inl (And.intro (fun hg => absurd hg (by decide)) (ExG.no (Sm.out ?_))))
    | (refine Rt.mk ?_; refine And.intro ?_ ?_ <;> (intro hg; first | exact absurd hg (by decide) | refine Sm.out ?_))
    | (refine Nu.mk ?_; first | (fail_if_success (have := nb1)); intro nb1 | (fail_if_success (have := nb2)); intro nb2 | (fail_if_success (have := nb3)); intro nb3 | intro nbz)
    | (refine Fr.mk ?_; intro hfr; (first | (have hFRb : _ ≤ _ ∧ _ ≤ _ := And.intro hfr.1 hfr.2.1) | (have hFRb : _ ≤ _ := hfr.1) | skip); replace FR := Sm.mk (And.intro hfr FR.out); clear hfr; refine Sm.out ?_)
    | (refine Two.mk ?_ ?_)
    | (refine Cs.mk ?_; intro hcs; first | exact False.elim hcs | (exfalso; omega) | (refine Sm.out ?_))
    | go_step
    | omega
    | (simp only [maxLen_eq]; omega)
  (refine OutQ.upd (by simp only [resv, ZK, look, loadv, loadn, loadnm, load1, load1m, hget, ↓reduceIte, Nat.reduceEqDiff, Nat.reduceAdd, Nat.reduceMul, Nat.reduceLeDiff, Nat.reduceLT, reduceCtorEq, TFBlC, FR.out]) (by simp only [resv, resA, ZK, look, loadv, loadn, loadnm, load1, load1m, hget, ↓reduceIte, Nat.reduceEqDiff, Nat.reduceAdd, Nat.reduceMul, Nat.reduceLeDiff, Nat.reduceLT, reduceCtorEq, TFBlC, FR.out]; first | done | rfl) (by simp only [hget, ↓reduceIte, if_true, if_false, FR.out]; first | done | rfl) ?_ <;> first | exact rfl | (simp only [ZK, look, loadv, loadn, loadnm, load1, load1m, hget, ↓reduceIte, Nat.reduceEqDiff, Nat.reduceAdd, Nat.reduceMul, Nat.reduceLeDiff, Nat.reduceLT, reduceCtorEq, TFBlC, FR.out]; done) | skip)
theorem mayC_ok {size n : Nat} {i k : Int} (h0 : 0 ≤ i) (h1 : i < n) (h2 : k ≤ size) : mayC size n false i k = 0 := by
  unfold mayC
  rw [if_neg (by simp), if_neg (by omega)]
theorem sync_out (b size de bs n c : Nat) (L W : AV) (h1 : 1 ≤ n) : ACt Try.prog 12 [pt b 0] [(b, dkM size L (ms bs 0 n c) W 0 false de)] (fun r F' => r = iv .i64 12 ∧ F' = [(b, dkM size L (ms bs 0 n c) W 0 true de)]) := by
  have c1 := may_ct b size de bs n c L W 0 0 0 false
  rw [mayC_ok (by omega) (by omega) (by omega)] at c1
  have c2 := deed_dark b size de L (ms bs 0 n c) W false
  refine ACt.intro Try.func12 rfl (by kernel_rfl) (by simp [Try.ntmps12]) (fun cx => ?_)
  simp only [argE, Try.ntmps12, Try.results12]
  first | (have FRx := FR; clear FRx) | (have FR : Sm (¬ ((1 : Nat) = 0)) := Sm.mk Nat.one_ne_zero)
  repeat' first
    | (refine Sm.mk ?_; try simp -dsimp only [ZK, rvc, drawF, headN, pureH, stp, dvc, calleeOf, gcall, pev, eff, newB, okd, og, ogs, ogo, ogp, slv, bltv, opd, litv, strip, one, both, putE, St.put, look, gdOf, gdv, picka, pickv, pickw, binv, bini, bins, binb, binp, binq, isSlT, bina, shp, eqCells, unv, convv, nilv, faddv, addp, idxav, idxp, load1, load1m, loadn, loadnm, loadv, hget, hset, hrep, hdel, slicev, bnd, shift1, lenv, capv, IntKind.bits, extractv, fieldv, indexv, min2v, max2v, mkiv, cellsA, fillA, buildv, stC, oneC, rowMB, intsA, plN, appE, appZ, appC, appNZ, appNC, VwL, srcC, srcZ, srcM, isBoolT, isPtrT, isSliceT, uOk, Value.oneCell', Nat.reducePow, Int.reducePow, Nat.reduceAdd, Nat.reduceMul, Nat.reduceSub, Nat.reduceLT, Nat.reduceLeDiff, Nat.reduceEqDiff, Nat.reduceBEq, Nat.reduceDiv, Nat.reduceMod, ↓reduceIte, reduceCtorEq, Int.reduceToNat, Int.reduceLT, Int.reduceLE, TFBlC, SeqQ, BlkQ, LoopQ, BodyQ, FR.out])
    | (refine CallV.upd (by simp only [hget, ↓reduceIte, FR.out]; first | done | rfl) (c1) (Sm.out ?_))
    | (refine CallV.upd (by simp only [hget, ↓reduceIte, FR.out]; first | done | rfl) (c2) (Sm.out ?_))
    | (refine WP.seq fun K hK => ?_)
    | (refine WP.region (rvc_sound _ _ (Sm.out ?_)))
    | (refine WP.drawK rfl mixed (by decide +kernel) (Sm.out ?_))
    | (refine Ob.mk ?_; focus (first | assumption | omega | decide | trivial | (intro hob; simp only [hob, ZF]; done) | (intros; (repeat' refine And.intro ?_ ?_) <;> first | assumption | omega | trivial | decide) | (intros; simp only [ZE] at *; (repeat' refine And.intro ?_ ?_) <;> first | assumption | omega | trivial)))
    | (refine And.intro (Ob.out ?_) ?_)
    | (refine WP.block ?_)
    | (refine WP.cond rfl (fun hc => ?_) (fun hc => ?_) <;> (try simp only [ZC, reduceCtorEq, ZD] at hc) <;> (try (exact absurd hc (by decide))) <;> (try (exfalso; omega)))
    | ((first | refine WP.skip ?_ | refine WP.exit ?_); simp only [SeqQ, BlkQ, LoopQ, BodyQ, ↓reduceIte, Nat.reduceEqDiff, reduceCtorEq, look, true_and])
    | (refine WP.ret (Sm.out ?_))
    | (first | refine ExG.no (Sm.out ?_) | refine Or.inl (ExG.no (Sm.out ?_)) | refine Or.inl (And.intro (fun hg => absurd hg (by decide)) (ExG.no (Sm.out ?_))))
    | (refine Rt.mk ?_; refine And.intro ?_ ?_ <;> (intro hg; first | exact absurd hg (by decide) | refine Sm.out ?_))
    | (refine Nu.mk ?_; first | (fail_if_success (have := nb1)); intro nb1 | (fail_if_success (have := nb2)); intro nb2 | (fail_if_success (have := nb3)); intro nb3 | intro nbz)
    | (refine Fr.mk ?_; intro hfr; (first | (have hFRb : _ ≤ _ ∧ _ ≤ _ := And.intro hfr.1 hfr.2.1) | (have hFRb : _ ≤ _ := hfr.1) | skip); replace FR := Sm.mk (And.intro hfr FR.out); clear hfr; refine Sm.out ?_)
    | (refine Two.mk ?_ ?_)
    | (refine Cs.mk ?_; intro hcs; first | exact False.elim hcs | (exfalso; omega) | (refine Sm.out ?_))
    | go_step
    | omega
    | (simp only [maxLen_eq]; omega)
  (refine OutQ.upd (by simp only [resv, ZK, look, loadv, loadn, loadnm, load1, load1m, hget, ↓reduceIte, Nat.reduceEqDiff, Nat.reduceAdd, Nat.reduceMul, Nat.reduceLeDiff, Nat.reduceLT, reduceCtorEq, TFBlC, FR.out]) (by simp only [resv, resA, ZK, look, loadv, loadn, loadnm, load1, load1m, hget, ↓reduceIte, Nat.reduceEqDiff, Nat.reduceAdd, Nat.reduceMul, Nat.reduceLeDiff, Nat.reduceLT, reduceCtorEq, TFBlC, FR.out]; first | done | rfl) (by simp only [hget, ↓reduceIte, if_true, if_false, FR.out]; first | done | rfl) ?_ <;> first | exact rfl | (simp only [ZK, look, loadv, loadn, loadnm, load1, load1m, hget, ↓reduceIte, Nat.reduceEqDiff, Nat.reduceAdd, Nat.reduceMul, Nat.reduceLeDiff, Nat.reduceLT, reduceCtorEq, TFBlC, FR.out]; done) | skip)
theorem sync_ok (b size de bl cl bs cs n : Nat) (W : AV) (f : Int) (Ls : List (List Int)) (hd : b ≠ bs ∧ bs ≠ b) (hn : Ls.length = n) (h1 : 1 ≤ n) (h2 : n ≤ 400) (hc : n ≤ cs) (hf : f ≠ 0) (hf1 : -1 ≤ f) (hf2 : f < 9223372036854775808) (hde : de < 9223372036854775807) :
    ACt Try.prog 12 [pt b 0] [(b, dkM size (ms bl 0 n cl) (ms bs 0 n cs) W f false de), (bs, .cells (rws Ls) cs 30)]
    (fun r F' => ∃ x c : Nat, n ≤ c ∧ r = iv .i64 0 ∧ F' = [(x, .cells (rws Ls) c 30), (b, dkM size (ms x 0 n c) (ms bs 0 n cs) (.lit (.slice none 0 0)) (fuseN f) false (de + 1)), (bs, .cells (rws Ls) cs 30)]) := by
  have c1 := may_ct b size de bs n cs (ms bl 0 n cl) W f 0 0 false
  rw [mayC_ok (by omega) (by omega) (by omega)] at c1
  have c2 := deed_done b size de (ms bl 0 n cl) (ms bs 0 n cs) W f false hf hf1 hf2 hde
  have c3 := settle_ct b size (de + 1) bl cl bs cs n W (fuseN f) false [] Ls hd hn h1 h2 hc
  refine ACt.intro Try.func12 rfl (by kernel_rfl) (by simp [Try.ntmps12]) (fun cx => ?_)
  simp only [argE, Try.ntmps12, Try.results12]
  first | (have FRx := FR; clear FRx) | (have FR : Sm (¬ ((1 : Nat) = 0)) := Sm.mk Nat.one_ne_zero)
  repeat' first
    | (refine Sm.mk ?_; try simp -dsimp only [ZK, rvc, drawF, headN, pureH, stp, dvc, calleeOf, gcall, pev, eff, newB, okd, og, ogs, ogo, ogp, slv, bltv, opd, litv, strip, one, both, putE, St.put, look, gdOf, gdv, picka, pickv, pickw, binv, bini, bins, binb, binp, binq, isSlT, bina, shp, eqCells, unv, convv, nilv, faddv, addp, idxav, idxp, load1, load1m, loadn, loadnm, loadv, hget, hset, hrep, hdel, slicev, bnd, shift1, lenv, capv, IntKind.bits, extractv, fieldv, indexv, min2v, max2v, mkiv, cellsA, fillA, buildv, stC, oneC, rowMB, intsA, plN, appE, appZ, appC, appNZ, appNC, VwL, srcC, srcZ, srcM, isBoolT, isPtrT, isSliceT, uOk, Value.oneCell', Nat.reducePow, Int.reducePow, Nat.reduceAdd, Nat.reduceMul, Nat.reduceSub, Nat.reduceLT, Nat.reduceLeDiff, Nat.reduceEqDiff, Nat.reduceBEq, Nat.reduceDiv, Nat.reduceMod, ↓reduceIte, reduceCtorEq, Int.reduceToNat, Int.reduceLT, Int.reduceLE, TFBlC, SeqQ, BlkQ, LoopQ, BodyQ, hd, FR.out])
    | (refine CallV.upd (by simp only [hget, ↓reduceIte, FR.out, hd]; first | done | rfl) (c1) (Sm.out ?_))
    | (refine CallV.upd (by simp only [hget, ↓reduceIte, FR.out, hd]; first | done | rfl) (c2) (Sm.out ?_))
    | (refine CallV.newC (c3) (perm2 (by simp only [hget, hdel, ↓reduceIte, FR.out, hd]; first | done | rfl) (by simp only [hget, hdel, ↓reduceIte, FR.out, hd]; first | done | rfl)) (fun _ _ => rfl) (Sm.out ?_))
    | (refine WP.seq fun K hK => ?_)
    | (refine WP.region (rvc_sound _ _ (Sm.out ?_)))
    | (refine WP.drawK rfl mixed (by decide +kernel) (Sm.out ?_))
    | (refine Ob.mk ?_; focus (first | assumption | omega | decide | trivial | (intro hob; simp only [hob, ZF]; done) | (intros; (repeat' refine And.intro ?_ ?_) <;> first | assumption | omega | trivial | decide) | (intros; simp only [ZE] at *; (repeat' refine And.intro ?_ ?_) <;> first | assumption | omega | trivial)))
    | (refine And.intro (Ob.out ?_) ?_)
    | (refine WP.block ?_)
    | (refine WP.cond rfl (fun hc => ?_) (fun hc => ?_) <;> (try simp only [ZC, reduceCtorEq, ZD] at hc) <;> (try (exact absurd hc (by decide))) <;> (try (exfalso; omega)))
    | ((first | refine WP.skip ?_ | refine WP.exit ?_); simp only [SeqQ, BlkQ, LoopQ, BodyQ, ↓reduceIte, Nat.reduceEqDiff, reduceCtorEq, look, true_and])
    | (refine WP.ret (Sm.out ?_))
    | (first | refine ExG.no (Sm.out ?_) | refine Or.inl (ExG.no (Sm.out ?_)) | refine Or.inl (And.intro (fun hg => absurd hg (by decide)) (ExG.no (Sm.out ?_))))
    | (refine Rt.mk ?_; refine And.intro ?_ ?_ <;> (intro hg; first | exact absurd hg (by decide) | refine Sm.out ?_))
    | (refine Nu.mk ?_; first | (fail_if_success (have := nb1)); intro nb1 | (fail_if_success (have := nb2)); intro nb2 | (fail_if_success (have := nb3)); intro nb3 | intro nbz)
    | (refine Fr.mk ?_; intro hfr; (first | (have hFRb : _ ≤ _ ∧ _ ≤ _ := And.intro hfr.1 hfr.2.1) | (have hFRb : _ ≤ _ := hfr.1) | skip); replace FR := Sm.mk (And.intro hfr FR.out); clear hfr; refine Sm.out ?_)
    | (refine Two.mk ?_ ?_)
    | (refine Cs.mk ?_; intro hcs; first | exact False.elim hcs | (exfalso; omega) | (refine Sm.out ?_))
    | go_step
    | omega
    | (simp only [maxLen_eq]; omega)
  (refine OutQ.drop _ _ (perm3 (by simp only [hget, hdel, ↓reduceIte, if_true, if_false, FR.out, hd]; first | done | rfl) (by simp only [hget, hdel, ↓reduceIte, if_true, if_false, FR.out, hd]; first | done | rfl) (by simp only [hget, hdel, ↓reduceIte, if_true, if_false, FR.out, hd]; first | done | rfl)) (by simp only [resv, ZK, look, loadv, loadn, loadnm, load1, load1m, hget, ↓reduceIte, Nat.reduceEqDiff, Nat.reduceAdd, Nat.reduceMul, Nat.reduceLeDiff, Nat.reduceLT, reduceCtorEq, TFBlC, FR.out, hd]) ⟨nb1, nb2, FR.out.1.1, (by simp only [resv, resA, ZK, look, loadv, loadn, loadnm, load1, load1m, hget, ↓reduceIte, Nat.reduceEqDiff, Nat.reduceAdd, Nat.reduceMul, Nat.reduceLeDiff, Nat.reduceLT, reduceCtorEq, TFBlC, FR.out, hd]; first | done | rfl), rfl⟩)
theorem read_bad (b size de bs n c : Nat) (L W : AV) (f i : Int) (dk : Bool) (h : mayC size n dk i 0 ≠ 0) : ACt Try.prog 23 [pt b 0, iv .i64 i] [(b, dkM size L (ms bs 0 n c) W f dk de)] (fun r F' => r = .tup [.lit (.slice none 0 0), iv .i64 (mayC size n dk i 0)] ∧ F' = [(b, dkM size L (ms bs 0 n c) W f dk de)]) := by
  have c1 := may_ct b size de bs n c L W f i 0 dk
  obtain ⟨m, hm⟩ : ∃ m, m = mayC size n dk i 0 := ⟨_, rfl⟩
  rw [← hm] at h c1 ⊢
  refine ACt.intro Try.func23 rfl (by kernel_rfl) (by simp [Try.ntmps23]) (fun cx => ?_)
  simp only [argE, Try.ntmps23, Try.results23]
  first | (have FRx := FR; clear FRx) | (have FR : Sm (¬ ((1 : Nat) = 0)) := Sm.mk Nat.one_ne_zero)
  repeat' first
    | (refine Sm.mk ?_; try simp -dsimp only [ZK, rvc, drawF, headN, pureH, stp, dvc, calleeOf, gcall, pev, eff, newB, okd, og, ogs, ogo, ogp, slv, bltv, opd, litv, strip, one, both, putE, St.put, look, gdOf, gdv, picka, pickv, pickw, binv, bini, bins, binb, binp, binq, isSlT, bina, shp, eqCells, unv, convv, nilv, faddv, addp, idxav, idxp, load1, load1m, loadn, loadnm, loadv, hget, hset, hrep, hdel, slicev, bnd, shift1, lenv, capv, IntKind.bits, extractv, fieldv, indexv, min2v, max2v, mkiv, cellsA, fillA, buildv, stC, oneC, rowMB, intsA, plN, appE, appZ, appC, appNZ, appNC, VwL, srcC, srcZ, srcM, isBoolT, isPtrT, isSliceT, uOk, Value.oneCell', Nat.reducePow, Int.reducePow, Nat.reduceAdd, Nat.reduceMul, Nat.reduceSub, Nat.reduceLT, Nat.reduceLeDiff, Nat.reduceEqDiff, Nat.reduceBEq, Nat.reduceDiv, Nat.reduceMod, ↓reduceIte, reduceCtorEq, Int.reduceToNat, Int.reduceLT, Int.reduceLE, TFBlC, SeqQ, BlkQ, LoopQ, BodyQ, h, FR.out])
    | (refine CallV.upd (by simp only [hget, ↓reduceIte, FR.out, h]; first | done | rfl) (c1) (Sm.out ?_))
    | (refine WP.seq fun K hK => ?_)
    | (refine WP.region (rvc_sound _ _ (Sm.out ?_)))
    | (refine WP.drawK rfl mixed (by decide +kernel) (Sm.out ?_))
    | (refine Ob.mk ?_; focus (first | assumption | omega | decide | trivial | (intro hob; simp only [hob, ZF]; done) | (intros; (repeat' refine And.intro ?_ ?_) <;> first | assumption | omega | trivial | decide) | (intros; simp only [ZE] at *; (repeat' refine And.intro ?_ ?_) <;> first | assumption | omega | trivial)))
    | (refine And.intro (Ob.out ?_) ?_)
    | (refine WP.block ?_)
    | (refine WP.cond rfl (fun hc => ?_) (fun hc => ?_) <;> (try simp only [ZC, reduceCtorEq, ZD] at hc) <;> (try (exact absurd hc (by decide))) <;> (try (exfalso; omega)))
    | ((first | refine WP.skip ?_ | refine WP.exit ?_); simp only [SeqQ, BlkQ, LoopQ, BodyQ, ↓reduceIte, Nat.reduceEqDiff, reduceCtorEq, look, true_and])
    | (refine WP.ret (Sm.out ?_))
    | (first | refine ExG.no (Sm.out ?_) | refine Or.inl (ExG.no (Sm.out ?_)) | refine Or.inl (And.intro (fun hg => absurd hg (by decide)) (ExG.no (Sm.out ?_))))
    | (refine Rt.mk ?_; refine And.intro ?_ ?_ <;> (intro hg; first | exact absurd hg (by decide) | refine Sm.out ?_))
    | (refine Nu.mk ?_; first | (fail_if_success (have := nb1)); intro nb1 | (fail_if_success (have := nb2)); intro nb2 | (fail_if_success (have := nb3)); intro nb3 | intro nbz)
    | (refine Fr.mk ?_; intro hfr; (first | (have hFRb : _ ≤ _ ∧ _ ≤ _ := And.intro hfr.1 hfr.2.1) | (have hFRb : _ ≤ _ := hfr.1) | skip); replace FR := Sm.mk (And.intro hfr FR.out); clear hfr; refine Sm.out ?_)
    | (refine Two.mk ?_ ?_)
    | (refine Cs.mk ?_; intro hcs; first | exact False.elim hcs | (exfalso; omega) | (refine Sm.out ?_))
    | go_step
    | omega
    | (simp only [maxLen_eq]; omega)
  (refine OutQ.upd (by simp only [resv, ZK, look, loadv, loadn, loadnm, load1, load1m, hget, ↓reduceIte, Nat.reduceEqDiff, Nat.reduceAdd, Nat.reduceMul, Nat.reduceLeDiff, Nat.reduceLT, reduceCtorEq, TFBlC, FR.out]) (by simp only [resv, resA, ZK, look, loadv, loadn, loadnm, load1, load1m, hget, ↓reduceIte, Nat.reduceEqDiff, Nat.reduceAdd, Nat.reduceMul, Nat.reduceLeDiff, Nat.reduceLT, reduceCtorEq, TFBlC, FR.out]; first | done | rfl) (by simp only [hget, ↓reduceIte, if_true, if_false, FR.out]; first | done | rfl) ?_ <;> first | exact rfl | (simp only [ZK, look, loadv, loadn, loadnm, load1, load1m, hget, ↓reduceIte, Nat.reduceEqDiff, Nat.reduceAdd, Nat.reduceMul, Nat.reduceLeDiff, Nat.reduceLT, reduceCtorEq, TFBlC, FR.out]; done) | skip)
theorem rws_get {Ls : List (List Int)} {i : Nat} (h : i < Ls.length) : (rws Ls)[i]? = some (.slz .u8 (Ls.getD i [])) := by
  simp [rws, List.getElem?_map, List.getElem?_eq_getElem h, List.getD_eq_getElem?_getD]
theorem read_ok (b size de bs n c i : Nat) (L W : AV) (f : Int) (Ls : List (List Int)) (hd : b ≠ bs ∧ bs ≠ b) (hn : Ls.length = n) (hi : i < n) (h2 : n ≤ 400) (hc : n ≤ c) (hz : ∀ z ∈ Ls, z.length = size) (hs1 : 1 ≤ size) (hs2 : size ≤ 512) :
    ACt Try.prog 23 [pt b 0, iv .i64 (i : Int)] [(b, dkM size L (ms bs 0 n c) W f false de), (bs, .cells (rws Ls) c 30)] (fun r F' => r = .tup [.slz .u8 (Ls.getD i []), iv .i64 0] ∧ F' = [(b, dkM size L (ms bs 0 n c) W f false de), (bs, .cells (rws Ls) c 30)]) := by
  have c1 := may_ct b size de bs n c L W f i 0 false
  rw [mayC_ok (by omega) (by omega) (by omega)] at c1
  have eg := rws_get (Ls := Ls) (i := i) (by omega)
  have hlen : (Ls.getD i []).length = size := by
    rw [List.getD_eq_getElem?_getD, List.getElem?_eq_getElem (by omega)]
    exact hz _ (List.getElem_mem _)
  obtain ⟨z, hzz⟩ : ∃ z, z = Ls.getD i [] := ⟨_, rfl⟩
  rw [← hzz] at eg hlen ⊢
  have el := rws_len Ls
  rw [hn] at el
  have c2 := bclone_ct z (by omega) (by omega)
  unfold dkM at c1 ⊢
  refine ACt.intro Try.func23 rfl (by kernel_rfl) (by simp [Try.ntmps23]) (fun cx => ?_)
  simp only [argE, Try.ntmps23, Try.results23]
  have eg2 : (rws Ls).getD i .any = .slz .u8 z := by rw [List.getD_eq_getElem?_getD, eg]; rfl
  first | (have FRx := FR; clear FRx) | (have FR : Sm (¬ ((1 : Nat) = 0)) := Sm.mk Nat.one_ne_zero)
  repeat' first
    | (refine Sm.mk ?_; try simp -dsimp only [ZK, rvc, drawF, headN, pureH, stp, dvc, calleeOf, gcall, pev, eff, newB, okd, og, ogs, ogo, ogp, slv, bltv, opd, litv, strip, one, both, putE, St.put, look, gdOf, gdv, picka, pickv, pickw, binv, bini, bins, binb, binp, binq, isSlT, bina, shp, eqCells, unv, convv, nilv, faddv, addp, idxav, idxp, load1, load1m, loadn, loadnm, loadv, hget, hset, hrep, hdel, slicev, bnd, shift1, lenv, capv, IntKind.bits, extractv, fieldv, indexv, min2v, max2v, mkiv, cellsA, fillA, buildv, stC, oneC, rowMB, intsA, plN, appE, appZ, appC, appNZ, appNC, VwL, srcC, srcZ, srcM, isBoolT, isPtrT, isSliceT, uOk, Value.oneCell', Nat.reducePow, Int.reducePow, Nat.reduceAdd, Nat.reduceMul, Nat.reduceSub, Nat.reduceLT, Nat.reduceLeDiff, Nat.reduceEqDiff, Nat.reduceBEq, Nat.reduceDiv, Nat.reduceMod, ↓reduceIte, reduceCtorEq, Int.reduceToNat, Int.reduceLT, Int.reduceLE, TFBlC, SeqQ, BlkQ, LoopQ, BodyQ, hd, el, eg, eg2, hi, FR.out])
    | (refine CallV.upd (by simp only [hget, ↓reduceIte, FR.out, hd, el, eg, eg2, hi]; first | done | rfl) (c1) (Sm.out ?_))
    | (first | refine CallV.fn (c2) (Sm.out ?_) | refine ExF.mk (c2) (Sm.out ?_) | refine ExG.mk (fun _ => c2) (Sm.out ?_) | refine ExG.mkJ (fun _ => c2) (Sm.out ?_) | refine ExG.mkI (Ob.out ?_) (fun _ => c2) (Sm.out ?_))
    | (refine WP.seq fun K hK => ?_)
    | (refine WP.region (rvc_sound _ _ (Sm.out ?_)))
    | (refine WP.drawK rfl mixed (by decide +kernel) (Sm.out ?_))
    | (refine Ob.mk ?_; focus (first | assumption | omega | decide | trivial | (intro hob; simp only [hob, ZF]; done) | (intros; (repeat' refine And.intro ?_ ?_) <;> first | assumption | omega | trivial | decide) | (intros; simp only [ZE] at *; (repeat' refine And.intro ?_ ?_) <;> first | assumption | omega | trivial)))
    | (refine And.intro (Ob.out ?_) ?_)
    | (refine WP.block ?_)
    | (refine WP.cond rfl (fun hc => ?_) (fun hc => ?_) <;> (try simp only [ZC, reduceCtorEq, ZD] at hc) <;> (try (exact absurd hc (by decide))) <;> (try (exfalso; omega)))
    | ((first | refine WP.skip ?_ | refine WP.exit ?_); simp only [SeqQ, BlkQ, LoopQ, BodyQ, ↓reduceIte, Nat.reduceEqDiff, reduceCtorEq, look, true_and])
    | (refine WP.ret (Sm.out ?_))
    | (first | refine ExG.no (Sm.out ?_) | refine Or.inl (ExG.no (Sm.out ?_)) | refine Or.inl (And.intro (fun hg => absurd hg (by decide)) (ExG.no (Sm.out ?_))))
    | (refine Rt.mk ?_; refine And.intro ?_ ?_ <;> (intro hg; first | exact absurd hg (by decide) | refine Sm.out ?_))
    | (refine Nu.mk ?_; first | (fail_if_success (have := nb1)); intro nb1 | (fail_if_success (have := nb2)); intro nb2 | (fail_if_success (have := nb3)); intro nb3 | intro nbz)
    | (refine Fr.mk ?_; intro hfr; (first | (have hFRb : _ ≤ _ ∧ _ ≤ _ := And.intro hfr.1 hfr.2.1) | (have hFRb : _ ≤ _ := hfr.1) | skip); replace FR := Sm.mk (And.intro hfr FR.out); clear hfr; refine Sm.out ?_)
    | (refine Two.mk ?_ ?_)
    | (refine Cs.mk ?_; intro hcs; first | exact False.elim hcs | (exfalso; omega) | (refine Sm.out ?_))
    | go_step
    | omega
    | (simp only [maxLen_eq]; omega)
  (refine OutQ.drop _ _ (perm2 (by simp only [hget, hdel, ↓reduceIte, if_true, if_false, FR.out, hd]; first | done | rfl) (by simp only [hget, hdel, ↓reduceIte, if_true, if_false, FR.out, hd]; first | done | rfl)) (by simp only [resv, ZK, look, loadv, loadn, loadnm, load1, load1m, hget, ↓reduceIte, Nat.reduceEqDiff, Nat.reduceAdd, Nat.reduceMul, Nat.reduceLeDiff, Nat.reduceLT, reduceCtorEq, TFBlC, FR.out, hd]) ⟨(by simp only [resv, resA, ZK, look, loadv, loadn, loadnm, load1, load1m, hget, ↓reduceIte, Nat.reduceEqDiff, Nat.reduceAdd, Nat.reduceMul, Nat.reduceLeDiff, Nat.reduceLT, reduceCtorEq, TFBlC, FR.out, hd]; first | done | rfl), rfl⟩)
end Go.Proofs.Ytnhkohgamnchlaa
namespace Go.Proofs.Ytnhkohgamnchlaa
open Go
set_option linter.unusedVariables false
set_option linter.unusedSimpArgs false
theorem TFBlD : (((((((type_of% tyc0) ∧ (type_of% tyc3)) ∧ ((type_of% zmb3) ∧ (type_of% tyc4))) ∧ (((type_of% zmb4) ∧ (type_of% tyc5)) ∧ ((type_of% zmb5) ∧ (type_of% tyc24)))) ∧ ((((type_of% mth24_27) ∧ (type_of% mth24_26)) ∧ ((type_of% mth24_28) ∧ (type_of% con24))) ∧ (((type_of% zmb24) ∧ (type_of% tyc25)) ∧ ((type_of% zmb25) ∧ ((type_of% tyc30) ∧ (type_of% elt30)))))) ∧ (((((type_of% mkz30) ∧ (type_of% apT30)) ∧ ((type_of% elk30) ∧ (type_of% zmb30))) ∧ (((type_of% tyc51) ∧ (type_of% elt51)) ∧ ((type_of% mkz51) ∧ ((type_of% mkc51) ∧ (type_of% apT51))))) ∧ ((((type_of% elk51) ∧ (type_of% zmb51)) ∧ ((type_of% tyc52) ∧ (type_of% elt52))) ∧ (((type_of% mkz52) ∧ (type_of% mkc52)) ∧ ((type_of% apT52) ∧ ((type_of% elk52) ∧ (type_of% zmb52))))))) ∧ ((((((type_of% tyc54) ∧ (type_of% foff54_0)) ∧ ((type_of% fpart54_0) ∧ (type_of% foff54_1))) ∧ (((type_of% fpart54_1) ∧ (type_of% foff54_2)) ∧ ((type_of% fpart54_2) ∧ (type_of% foff54_3)))) ∧ ((((type_of% fpart54_3) ∧ (type_of% foff54_4)) ∧ ((type_of% fpart54_4) ∧ (type_of% foff54_5))) ∧ (((type_of% fpart54_5) ∧ (type_of% foff54_6)) ∧ ((type_of% fpart54_6) ∧ ((type_of% zmb54) ∧ (type_of% bldT54)))))) ∧ (((((type_of% tyc58) ∧ (type_of% foff58_0)) ∧ ((type_of% fpart58_0) ∧ (type_of% foff58_1))) ∧ (((type_of% fpart58_1) ∧ (type_of% zmb58)) ∧ ((type_of% bldT58) ∧ ((type_of% Try.underlying0) ∧ (type_of% Try.underlying3))))) ∧ ((((type_of% Try.underlying4) ∧ (type_of% Try.underlying5)) ∧ ((type_of% Try.underlying24) ∧ (type_of% Try.underlying25))) ∧ (((type_of% Try.underlying30) ∧ (type_of% Try.underlying51)) ∧ ((type_of% Try.underlying52) ∧ ((type_of% Try.underlying54) ∧ (type_of% Try.underlying58)))))))) :=
  ⟨⟨⟨⟨⟨⟨tyc0, tyc3⟩, ⟨zmb3, tyc4⟩⟩, ⟨⟨zmb4, tyc5⟩, ⟨zmb5, tyc24⟩⟩⟩, ⟨⟨⟨mth24_27, mth24_26⟩, ⟨mth24_28, con24⟩⟩, ⟨⟨zmb24, tyc25⟩, ⟨zmb25, ⟨tyc30, elt30⟩⟩⟩⟩⟩, ⟨⟨⟨⟨mkz30, apT30⟩, ⟨elk30, zmb30⟩⟩, ⟨⟨tyc51, elt51⟩, ⟨mkz51, ⟨mkc51, apT51⟩⟩⟩⟩, ⟨⟨⟨elk51, zmb51⟩, ⟨tyc52, elt52⟩⟩, ⟨⟨mkz52, mkc52⟩, ⟨apT52, ⟨elk52, zmb52⟩⟩⟩⟩⟩⟩, ⟨⟨⟨⟨⟨tyc54, foff54_0⟩, ⟨fpart54_0, foff54_1⟩⟩, ⟨⟨fpart54_1, foff54_2⟩, ⟨fpart54_2, foff54_3⟩⟩⟩, ⟨⟨⟨fpart54_3, foff54_4⟩, ⟨fpart54_4, foff54_5⟩⟩, ⟨⟨fpart54_5, foff54_6⟩, ⟨fpart54_6, ⟨zmb54, bldT54⟩⟩⟩⟩⟩, ⟨⟨⟨⟨tyc58, foff58_0⟩, ⟨fpart58_0, foff58_1⟩⟩, ⟨⟨fpart58_1, zmb58⟩, ⟨bldT58, ⟨Try.underlying0, Try.underlying3⟩⟩⟩⟩, ⟨⟨⟨Try.underlying4, Try.underlying5⟩, ⟨Try.underlying24, Try.underlying25⟩⟩, ⟨⟨Try.underlying30, Try.underlying51⟩, ⟨Try.underlying52, ⟨Try.underlying54, Try.underlying58⟩⟩⟩⟩⟩⟩⟩
/-- bytes, made as long as a block -/
def pad (size : Nat) (zs : List Int) : List Int := zs ++ List.replicate (size - zs.length) 0
/-- what waits, as cells -/
def wcs : List (Nat × List Int) → List AV
  | [] => []
  | (i, x) :: r => iv .i64 (i : Int) :: .slz .u8 x :: wcs r
theorem wcs_len : ∀ Wl, (wcs Wl).length = 2 * Wl.length
  | [] => rfl
  | (i, x) :: r => by simp only [wcs, List.length_cons, wcs_len r]; omega
theorem wcs_app : ∀ (Wl : List (Nat × List Int)) (i : Nat) (x : List Int), wcs (Wl ++ [(i, x)]) = wcs Wl ++ [iv .i64 (i : Int), .slz .u8 x]
  | [], _, _ => rfl
  | (a, b) :: r, i, x => by simp only [List.cons_append, wcs, wcs_app r]
theorem write_first (b size de bs n c i : Nat) (L : AV) (f : Int) (Ls : List (List Int)) (zs : List Int) (hd : b ≠ bs ∧ bs ≠ b) (hn : Ls.length = n) (hi : i < n) (h2 : n ≤ 400) (hc : n ≤ c) (hz : zs.length ≤ size) (hs2 : size ≤ 512)
    (hf : f ≠ 0) (hf1 : -1 ≤ f) (hf2 : f < 9223372036854775808) (hde : de < 9223372036854775807) :
    ACt Try.prog 13 [pt b 0, iv .i64 (i : Int), .slz .u8 zs] [(b, dkM size L (ms bs 0 n c) (.lit (.slice none 0 0)) f false de), (bs, .cells (rws Ls) c 30)]
    (fun r F' => ∃ x k : Nat, (1 ≤ k ∧ k ≤ 9223372036854775807) ∧ r = iv .i64 0 ∧ F' = [(x, .cells (wcs [(i, pad size zs)]) (k * 2) 58), (b, dkM size L (ms bs 0 n c) (ms x 0 1 k) (fuseN f) false (de + 1)), (bs, .cells (rws (Ls.set i (pad size zs))) c 30)]) := by
  have c1 := may_ct b size de bs n c L (.lit (.slice none 0 0)) f i zs.length false
  rw [mayC_ok (by omega) (by omega) (by omega)] at c1
  have c2 := deed_done b size de L (ms bs 0 n c) (.lit (.slice none 0 0)) f false hf hf1 hf2 hde
  have el := rws_len Ls
  rw [hn] at el
  unfold dkM at c1 c2 ⊢
  refine ACt.intro Try.func13 rfl (by kernel_rfl) (by simp [Try.ntmps13]) (fun cx => ?_)
  simp only [argE, Try.ntmps13, Try.results13]
  have ep : zs ++ (List.replicate size (0 : Int)).drop zs.length = pad size zs := by simp [pad]
  have lp : (pad size zs).length = size := by simp [pad]; omega
  first | (have FRx := FR; clear FRx) | (have FR : Sm (¬ ((1 : Nat) = 0)) := Sm.mk Nat.one_ne_zero)
  repeat' first
    | (refine Sm.mk ?_; try simp -dsimp only [ZK, rvc, drawF, headN, pureH, stp, dvc, calleeOf, gcall, pev, eff, newB, okd, og, ogs, ogo, ogp, slv, bltv, opd, litv, strip, one, both, putE, St.put, look, gdOf, gdv, picka, pickv, pickw, binv, bini, bins, binb, binp, binq, isSlT, bina, shp, eqCells, unv, convv, nilv, faddv, addp, idxav, idxp, load1, load1m, loadn, loadnm, loadv, hget, hset, hrep, hdel, slicev, bnd, shift1, lenv, capv, IntKind.bits, extractv, fieldv, indexv, min2v, max2v, mkiv, cellsA, fillA, buildv, stC, oneC, rowMB, intsA, plN, appE, appZ, appC, appNZ, appNC, VwL, srcC, srcZ, srcM, isBoolT, isPtrT, isSliceT, uOk, Value.oneCell', Nat.reducePow, Int.reducePow, Nat.reduceAdd, Nat.reduceMul, Nat.reduceSub, Nat.reduceLT, Nat.reduceLeDiff, Nat.reduceEqDiff, Nat.reduceBEq, Nat.reduceDiv, Nat.reduceMod, ↓reduceIte, reduceCtorEq, Int.reduceToNat, Int.reduceLT, Int.reduceLE, TFBlD, SeqQ, BlkQ, LoopQ, BodyQ, hd, el, hz, stL, intsA_map, ep, List.length_replicate, FR.out])
    | (refine CallV.upd (by simp only [hget, ↓reduceIte, FR.out, hd, el, hz, stL, intsA_map, ep, List.length_replicate]; first | done | rfl) (c1) (Sm.out ?_))
    | (refine CallV.upd (by simp only [hget, ↓reduceIte, FR.out, hd, el, hz, stL, intsA_map, ep, List.length_replicate]; first | done | rfl) (c2) (Sm.out ?_))
    | (refine WP.seq fun K hK => ?_)
    | ((fail_if_success (show WP _ _ _ (.region 9 _ _) _ _)); refine WP.region (rvc_sound _ _ (Sm.out ?_)))
    | ((fail_if_success (show WP _ _ _ (.region 9 _ _) _ _)); refine WP.drawK rfl mixed (by decide +kernel) (Sm.out ?_))
    | (refine Ob.mk ?_; focus (first | assumption | omega | decide | trivial | (intro hob; simp only [hob, ZF]; done) | (intros; (repeat' refine And.intro ?_ ?_) <;> first | assumption | omega | trivial | decide) | (intros; simp only [ZE] at *; (repeat' refine And.intro ?_ ?_) <;> first | assumption | omega | trivial)))
    | (refine And.intro (Ob.out ?_) ?_)
    | (refine WP.block ?_)
    | (refine WP.cond rfl (fun hc => ?_) (fun hc => ?_) <;> (try simp only [ZC, reduceCtorEq, ZD] at hc) <;> (try (exact absurd hc (by decide))) <;> (try (exfalso; omega)))
    | ((first | refine WP.skip ?_ | refine WP.exit ?_); simp only [SeqQ, BlkQ, LoopQ, BodyQ, ↓reduceIte, Nat.reduceEqDiff, reduceCtorEq, look, true_and])
    | (refine WP.ret (Sm.out ?_))
    | (first | refine ExG.no (Sm.out ?_) | refine Or.inl (ExG.no (Sm.out ?_)) | refine Or.inl (And.intro (fun hg => absurd hg (by decide)) (ExG.no (Sm.out ?_))))
    | (refine Rt.mk ?_; refine And.intro ?_ ?_ <;> (intro hg; first | exact absurd hg (by decide) | refine Sm.out ?_))
    | (refine Nu.mk ?_; first | (fail_if_success (have := nb1)); intro nb1 | (fail_if_success (have := nb2)); intro nb2 | (fail_if_success (have := nb3)); intro nb3 | (fail_if_success (have := nb4)); intro nb4 | (fail_if_success (have := nb5)); intro nb5 | (fail_if_success (have := nb6)); intro nb6 | (fail_if_success (have := nb7)); intro nb7 | (fail_if_success (have := nb8)); intro nb8 | intro nbz)
    | (refine Fr.mk ?_; intro hfr; (first | (have hFRb : _ ≤ _ ∧ _ ≤ _ := And.intro hfr.1 hfr.2.1) | (have hFRb : _ ≤ _ := hfr.1) | skip); replace FR := Sm.mk (And.intro hfr FR.out); clear hfr; refine Sm.out ?_)
    | (refine Two.mk ?_ ?_)
    | (refine Cs.mk ?_; intro hcs; first | exact False.elim hcs | (exfalso; omega) | (refine Sm.out ?_))
    | go_step
    | omega
    | (simp only [maxLen_eq]; omega)
  have tp : (pad size zs).take size = pad size zs := List.take_of_length_le (by omega)
  have lps : size ≤ (pad size zs).length ∧ size ≤ 9223372036854775807 := by omega
  (refine WP.wk (Wk.freeze (nb1) (by simp only [ZK, rvc, drawF, headN, pureH, stp, dvc, calleeOf, gcall, pev, eff, newB, okd, og, ogs, ogo, ogp, slv, bltv, opd, litv, strip, one, both, putE, St.put, look, gdOf, gdv, picka, pickv, pickw, binv, bini, bins, binb, binp, binq, isSlT, bina, shp, eqCells, unv, convv, nilv, faddv, addp, idxav, idxp, load1, load1m, loadn, loadnm, loadv, hget, hset, hrep, hdel, slicev, bnd, shift1, lenv, capv, IntKind.bits, extractv, fieldv, indexv, min2v, max2v, mkiv, cellsA, fillA, buildv, stC, oneC, rowMB, intsA, plN, appE, appZ, appC, appNZ, appNC, VwL, srcC, srcZ, srcM, isBoolT, isPtrT, isSliceT, uOk, Value.oneCell', Nat.reducePow, Int.reducePow, Nat.reduceAdd, Nat.reduceMul, Nat.reduceSub, Nat.reduceLT, Nat.reduceLeDiff, Nat.reduceEqDiff, Nat.reduceBEq, Nat.reduceDiv, Nat.reduceMod, ↓reduceIte, reduceCtorEq, Int.reduceToNat, Int.reduceLT, Int.reduceLE, TFBlD, SeqQ, BlkQ, LoopQ, BodyQ, hd, lp, tp, FR.out]; first | done | rfl)) ?_; simp only [frzE, frz, ZK, rvc, drawF, headN, pureH, stp, dvc, calleeOf, gcall, pev, eff, newB, okd, og, ogs, ogo, ogp, slv, bltv, opd, litv, strip, one, both, putE, St.put, look, gdOf, gdv, picka, pickv, pickw, binv, bini, bins, binb, binp, binq, isSlT, bina, shp, eqCells, unv, convv, nilv, faddv, addp, idxav, idxp, load1, load1m, loadn, loadnm, loadv, hget, hset, hrep, hdel, slicev, bnd, shift1, lenv, capv, IntKind.bits, extractv, fieldv, indexv, min2v, max2v, mkiv, cellsA, fillA, buildv, stC, oneC, rowMB, intsA, plN, appE, appZ, appC, appNZ, appNC, VwL, srcC, srcZ, srcM, isBoolT, isPtrT, isSliceT, uOk, Value.oneCell', Nat.reducePow, Int.reducePow, Nat.reduceAdd, Nat.reduceMul, Nat.reduceSub, Nat.reduceLT, Nat.reduceLeDiff, Nat.reduceEqDiff, Nat.reduceBEq, Nat.reduceDiv, Nat.reduceMod, ↓reduceIte, reduceCtorEq, Int.reduceToNat, Int.reduceLT, Int.reduceLE, TFBlD, SeqQ, BlkQ, LoopQ, BodyQ, hd, lp, tp, FR.out])
  have es : (rws Ls).set i (AV.slz .u8 (pad size zs)) = rws (Ls.set i (pad size zs)) := by simp [rws, List.map_set]
  first | (have FRx := FR; clear FRx) | (have FR : Sm (¬ ((1 : Nat) = 0)) := Sm.mk Nat.one_ne_zero)
  repeat' first
    | (refine Sm.mk ?_; try simp -dsimp only [ZK, rvc, drawF, headN, pureH, stp, dvc, calleeOf, gcall, pev, eff, newB, okd, og, ogs, ogo, ogp, slv, bltv, opd, litv, strip, one, both, putE, St.put, look, gdOf, gdv, picka, pickv, pickw, binv, bini, bins, binb, binp, binq, isSlT, bina, shp, eqCells, unv, convv, nilv, faddv, addp, idxav, idxp, load1, load1m, loadn, loadnm, loadv, hget, hset, hrep, hdel, slicev, bnd, shift1, lenv, capv, IntKind.bits, extractv, fieldv, indexv, min2v, max2v, mkiv, cellsA, fillA, buildv, stC, oneC, rowMB, intsA, plN, appE, appZ, appC, appNZ, appNC, VwL, srcC, srcZ, srcM, isBoolT, isPtrT, isSliceT, uOk, Value.oneCell', Nat.reducePow, Int.reducePow, Nat.reduceAdd, Nat.reduceMul, Nat.reduceSub, Nat.reduceLT, Nat.reduceLeDiff, Nat.reduceEqDiff, Nat.reduceBEq, Nat.reduceDiv, Nat.reduceMod, ↓reduceIte, reduceCtorEq, Int.reduceToNat, Int.reduceLT, Int.reduceLE, TFBlD, SeqQ, BlkQ, LoopQ, BodyQ, hd, el, hi, hn, es, lp, tp, lps, FR.out])
    | (refine WP.seq fun K hK => ?_)
    | (refine WP.region (rvc_sound _ _ (Sm.out ?_)))
    | (refine WP.drawK rfl mixed (by decide +kernel) (Sm.out ?_))
    | (refine Ob.mk ?_; focus (first | assumption | omega | decide | trivial | (intro hob; simp only [hob, ZF]; done) | (intros; (repeat' refine And.intro ?_ ?_) <;> first | assumption | omega | trivial | decide) | (intros; simp only [ZE] at *; (repeat' refine And.intro ?_ ?_) <;> first | assumption | omega | trivial)))
    | (refine And.intro (Ob.out ?_) ?_)
    | (refine WP.block ?_)
    | (refine WP.cond rfl (fun hc => ?_) (fun hc => ?_) <;> (try simp only [ZC, reduceCtorEq, ZD] at hc) <;> (try (exact absurd hc (by decide))) <;> (try (exfalso; omega)))
    | ((first | refine WP.skip ?_ | refine WP.exit ?_); simp only [SeqQ, BlkQ, LoopQ, BodyQ, ↓reduceIte, Nat.reduceEqDiff, reduceCtorEq, look, true_and])
    | (refine WP.ret (Sm.out ?_))
    | (first | refine ExG.no (Sm.out ?_) | refine Or.inl (ExG.no (Sm.out ?_)) | refine Or.inl (And.intro (fun hg => absurd hg (by decide)) (ExG.no (Sm.out ?_))))
    | (refine Rt.mk ?_; refine And.intro ?_ ?_ <;> (intro hg; first | exact absurd hg (by decide) | refine Sm.out ?_))
    | (refine Nu.mk ?_; first | (fail_if_success (have := nb1)); intro nb1 | (fail_if_success (have := nb2)); intro nb2 | (fail_if_success (have := nb3)); intro nb3 | (fail_if_success (have := nb4)); intro nb4 | (fail_if_success (have := nb5)); intro nb5 | (fail_if_success (have := nb6)); intro nb6 | (fail_if_success (have := nb7)); intro nb7 | (fail_if_success (have := nb8)); intro nb8 | intro nbz)
    | (refine Fr.mk ?_; intro hfr; (first | (have hFRb : _ ≤ _ ∧ _ ≤ _ := And.intro hfr.1 hfr.2.1) | (have hFRb : _ ≤ _ := hfr.1) | skip); replace FR := Sm.mk (And.intro hfr FR.out); clear hfr; refine Sm.out ?_)
    | (refine Two.mk ?_ ?_)
    | (refine Cs.mk ?_; intro hcs; first | exact False.elim hcs | (exfalso; omega) | (refine Sm.out ?_))
    | go_step
    | omega
    | (simp only [maxLen_eq]; omega)
  (refine OutQ.drop _ _ (perm3 (by simp only [hget, hdel, ↓reduceIte, if_true, if_false, FR.out, hd, es, wcs]; first | done | rfl) (by simp only [hget, hdel, ↓reduceIte, if_true, if_false, FR.out, hd, es, wcs]; first | done | rfl) (by simp only [hget, hdel, ↓reduceIte, if_true, if_false, FR.out, hd, es, wcs]; first | done | rfl)) (by simp only [resv, ZK, look, loadv, loadn, loadnm, load1, load1m, hget, ↓reduceIte, Nat.reduceEqDiff, Nat.reduceAdd, Nat.reduceMul, Nat.reduceLeDiff, Nat.reduceLT, reduceCtorEq, TFBlD, FR.out, hd, es, wcs]) ⟨nb3, nb4, hFRb, (by simp only [resv, resA, ZK, look, loadv, loadn, loadnm, load1, load1m, hget, ↓reduceIte, Nat.reduceEqDiff, Nat.reduceAdd, Nat.reduceMul, Nat.reduceLeDiff, Nat.reduceLT, reduceCtorEq, TFBlD, FR.out, hd, es, wcs]; first | done | rfl), rfl⟩)
theorem write_more (b size de bs n c i bw k m : Nat) (L : AV) (f : Int) (Ls : List (List Int)) (Wl : List (Nat × List Int)) (hm : Wl.length = m) (hk1 : m ≤ k) (hk2 : 1 ≤ m) (hk3 : m ≤ 1000) (hk4 : k ≤ 9223372036854775807) (hd2 : (b ≠ bw ∧ bw ≠ b) ∧ bs ≠ bw ∧ bw ≠ bs) (zs : List Int) (hd : b ≠ bs ∧ bs ≠ b) (hn : Ls.length = n) (hi : i < n) (h2 : n ≤ 400) (hc : n ≤ c) (hz : zs.length ≤ size) (hs2 : size ≤ 512)
    (hf : f ≠ 0) (hf1 : -1 ≤ f) (hf2 : f < 9223372036854775808) (hde : de < 9223372036854775807) :
    ACt Try.prog 13 [pt b 0, iv .i64 (i : Int), .slz .u8 zs] [(b, dkM size L (ms bs 0 n c) (ms bw 0 m k) f false de), (bs, .cells (rws Ls) c 30), (bw, .cells (wcs Wl) (k * 2) 58)]
    (fun r F' => ∃ x k : Nat, (m + 1 ≤ k ∧ k ≤ 9223372036854775807) ∧ r = iv .i64 0 ∧ F' = [(x, .cells (wcs (Wl ++ [(i, pad size zs)])) (k * 2) 58), (b, dkM size L (ms bs 0 n c) (ms x 0 (m + 1) k) (fuseN f) false (de + 1)), (bs, .cells (rws (Ls.set i (pad size zs))) c 30)]) := by
  have c1 := may_ct b size de bs n c L (ms bw 0 m k) f i zs.length false
  rw [mayC_ok (by omega) (by omega) (by omega)] at c1
  have c2 := deed_done b size de L (ms bs 0 n c) (ms bw 0 m k) f false hf hf1 hf2 hde
  have ew := wcs_len Wl
  have ea := wcs_app Wl i (pad size zs)
  rw [hm] at ew
  have el := rws_len Ls
  rw [hn] at el
  unfold dkM at c1 c2 ⊢
  refine ACt.intro Try.func13 rfl (by kernel_rfl) (by simp [Try.ntmps13]) (fun cx => ?_)
  simp only [argE, Try.ntmps13, Try.results13]
  have ep : zs ++ (List.replicate size (0 : Int)).drop zs.length = pad size zs := by simp [pad]
  have lp : (pad size zs).length = size := by simp [pad]; omega
  first | (have FRx := FR; clear FRx) | (have FR : Sm (¬ ((1 : Nat) = 0)) := Sm.mk Nat.one_ne_zero)
  repeat' first
    | (refine Sm.mk ?_; try simp -dsimp only [ZK, rvc, drawF, headN, pureH, stp, dvc, calleeOf, gcall, pev, eff, newB, okd, og, ogs, ogo, ogp, slv, bltv, opd, litv, strip, one, both, putE, St.put, look, gdOf, gdv, picka, pickv, pickw, binv, bini, bins, binb, binp, binq, isSlT, bina, shp, eqCells, unv, convv, nilv, faddv, addp, idxav, idxp, load1, load1m, loadn, loadnm, loadv, hget, hset, hrep, hdel, slicev, bnd, shift1, lenv, capv, IntKind.bits, extractv, fieldv, indexv, min2v, max2v, mkiv, cellsA, fillA, buildv, stC, oneC, rowMB, intsA, plN, appE, appZ, appC, appNZ, appNC, VwL, srcC, srcZ, srcM, isBoolT, isPtrT, isSliceT, uOk, Value.oneCell', Nat.reducePow, Int.reducePow, Nat.reduceAdd, Nat.reduceMul, Nat.reduceSub, Nat.reduceLT, Nat.reduceLeDiff, Nat.reduceEqDiff, Nat.reduceBEq, Nat.reduceDiv, Nat.reduceMod, ↓reduceIte, reduceCtorEq, Int.reduceToNat, Int.reduceLT, Int.reduceLE, TFBlD, SeqQ, BlkQ, LoopQ, BodyQ, hd, hd2, el, hz, stL, intsA_map, ep, List.length_replicate, FR.out])
    | (refine CallV.upd (by simp only [hget, ↓reduceIte, FR.out, hd, hd2, el, hz, stL, intsA_map, ep, List.length_replicate]; first | done | rfl) (c1) (Sm.out ?_))
    | (refine CallV.upd (by simp only [hget, ↓reduceIte, FR.out, hd, hd2, el, hz, stL, intsA_map, ep, List.length_replicate]; first | done | rfl) (c2) (Sm.out ?_))
    | (refine WP.seq fun K hK => ?_)
    | ((fail_if_success (show WP _ _ _ (.region 9 _ _) _ _)); refine WP.region (rvc_sound _ _ (Sm.out ?_)))
    | ((fail_if_success (show WP _ _ _ (.region 9 _ _) _ _)); refine WP.drawK rfl mixed (by decide +kernel) (Sm.out ?_))
    | (refine Ob.mk ?_; focus (first | assumption | omega | decide | trivial | (intro hob; simp only [hob, ZF]; done) | (intros; (repeat' refine And.intro ?_ ?_) <;> first | assumption | omega | trivial | decide) | (intros; simp only [ZE] at *; (repeat' refine And.intro ?_ ?_) <;> first | assumption | omega | trivial)))
    | (refine And.intro (Ob.out ?_) ?_)
    | (refine WP.block ?_)
    | (refine WP.cond rfl (fun hc => ?_) (fun hc => ?_) <;> (try simp only [ZC, reduceCtorEq, ZD] at hc) <;> (try (exact absurd hc (by decide))) <;> (try (exfalso; omega)))
    | ((first | refine WP.skip ?_ | refine WP.exit ?_); simp only [SeqQ, BlkQ, LoopQ, BodyQ, ↓reduceIte, Nat.reduceEqDiff, reduceCtorEq, look, true_and])
    | (refine WP.ret (Sm.out ?_))
    | (first | refine ExG.no (Sm.out ?_) | refine Or.inl (ExG.no (Sm.out ?_)) | refine Or.inl (And.intro (fun hg => absurd hg (by decide)) (ExG.no (Sm.out ?_))))
    | (refine Rt.mk ?_; refine And.intro ?_ ?_ <;> (intro hg; first | exact absurd hg (by decide) | refine Sm.out ?_))
    | (refine Nu.mk ?_; first | (fail_if_success (have := nb1)); intro nb1 | (fail_if_success (have := nb2)); intro nb2 | (fail_if_success (have := nb3)); intro nb3 | (fail_if_success (have := nb4)); intro nb4 | (fail_if_success (have := nb5)); intro nb5 | (fail_if_success (have := nb6)); intro nb6 | (fail_if_success (have := nb7)); intro nb7 | (fail_if_success (have := nb8)); intro nb8 | intro nbz)
    | (refine Fr.mk ?_; intro hfr; (first | (have hFRb : _ ≤ _ ∧ _ ≤ _ := And.intro hfr.1 hfr.2.1) | (have hFRb : _ ≤ _ := hfr.1) | skip); replace FR := Sm.mk (And.intro hfr FR.out); clear hfr; refine Sm.out ?_)
    | (refine Two.mk ?_ ?_)
    | (refine Cs.mk ?_; intro hcs; first | exact False.elim hcs | (exfalso; omega) | (refine Sm.out ?_))
    | go_step
    | omega
    | (simp only [maxLen_eq]; omega)
  have tp : (pad size zs).take size = pad size zs := List.take_of_length_le (by omega)
  have lps : size ≤ (pad size zs).length ∧ size ≤ 9223372036854775807 := by omega
  (refine WP.wk (Wk.freeze (nb1) (by simp only [ZK, rvc, drawF, headN, pureH, stp, dvc, calleeOf, gcall, pev, eff, newB, okd, og, ogs, ogo, ogp, slv, bltv, opd, litv, strip, one, both, putE, St.put, look, gdOf, gdv, picka, pickv, pickw, binv, bini, bins, binb, binp, binq, isSlT, bina, shp, eqCells, unv, convv, nilv, faddv, addp, idxav, idxp, load1, load1m, loadn, loadnm, loadv, hget, hset, hrep, hdel, slicev, bnd, shift1, lenv, capv, IntKind.bits, extractv, fieldv, indexv, min2v, max2v, mkiv, cellsA, fillA, buildv, stC, oneC, rowMB, intsA, plN, appE, appZ, appC, appNZ, appNC, VwL, srcC, srcZ, srcM, isBoolT, isPtrT, isSliceT, uOk, Value.oneCell', Nat.reducePow, Int.reducePow, Nat.reduceAdd, Nat.reduceMul, Nat.reduceSub, Nat.reduceLT, Nat.reduceLeDiff, Nat.reduceEqDiff, Nat.reduceBEq, Nat.reduceDiv, Nat.reduceMod, ↓reduceIte, reduceCtorEq, Int.reduceToNat, Int.reduceLT, Int.reduceLE, TFBlD, SeqQ, BlkQ, LoopQ, BodyQ, hd, hd2, lp, tp, FR.out]; first | done | rfl)) ?_; simp only [frzE, frz, ZK, rvc, drawF, headN, pureH, stp, dvc, calleeOf, gcall, pev, eff, newB, okd, og, ogs, ogo, ogp, slv, bltv, opd, litv, strip, one, both, putE, St.put, look, gdOf, gdv, picka, pickv, pickw, binv, bini, bins, binb, binp, binq, isSlT, bina, shp, eqCells, unv, convv, nilv, faddv, addp, idxav, idxp, load1, load1m, loadn, loadnm, loadv, hget, hset, hrep, hdel, slicev, bnd, shift1, lenv, capv, IntKind.bits, extractv, fieldv, indexv, min2v, max2v, mkiv, cellsA, fillA, buildv, stC, oneC, rowMB, intsA, plN, appE, appZ, appC, appNZ, appNC, VwL, srcC, srcZ, srcM, isBoolT, isPtrT, isSliceT, uOk, Value.oneCell', Nat.reducePow, Int.reducePow, Nat.reduceAdd, Nat.reduceMul, Nat.reduceSub, Nat.reduceLT, Nat.reduceLeDiff, Nat.reduceEqDiff, Nat.reduceBEq, Nat.reduceDiv, Nat.reduceMod, ↓reduceIte, reduceCtorEq, Int.reduceToNat, Int.reduceLT, Int.reduceLE, TFBlD, SeqQ, BlkQ, LoopQ, BodyQ, hd, hd2, lp, tp, FR.out])
  have es : (rws Ls).set i (AV.slz .u8 (pad size zs)) = rws (Ls.set i (pad size zs)) := by simp [rws, List.map_set]
  first | (have FRx := FR; clear FRx) | (have FR : Sm (¬ ((1 : Nat) = 0)) := Sm.mk Nat.one_ne_zero)
  repeat' first
    | (refine Sm.mk ?_; try simp -dsimp only [ZK, rvc, drawF, headN, pureH, stp, dvc, calleeOf, gcall, pev, eff, newB, okd, og, ogs, ogo, ogp, slv, bltv, opd, litv, strip, one, both, putE, St.put, look, gdOf, gdv, picka, pickv, pickw, binv, bini, bins, binb, binp, binq, isSlT, bina, shp, eqCells, unv, convv, nilv, faddv, addp, idxav, idxp, load1, load1m, loadn, loadnm, loadv, hget, hset, hrep, hdel, slicev, bnd, shift1, lenv, capv, IntKind.bits, extractv, fieldv, indexv, min2v, max2v, mkiv, cellsA, fillA, buildv, stC, oneC, rowMB, intsA, plN, appE, appZ, appC, appNZ, appNC, VwL, srcC, srcZ, srcM, isBoolT, isPtrT, isSliceT, uOk, Value.oneCell', Nat.reducePow, Int.reducePow, Nat.reduceAdd, Nat.reduceMul, Nat.reduceSub, Nat.reduceLT, Nat.reduceLeDiff, Nat.reduceEqDiff, Nat.reduceBEq, Nat.reduceDiv, Nat.reduceMod, ↓reduceIte, reduceCtorEq, Int.reduceToNat, Int.reduceLT, Int.reduceLE, TFBlD, SeqQ, BlkQ, LoopQ, BodyQ, hd, hd2, ew, el, hi, hn, es, lp, tp, lps, FR.out])
    | (refine WP.seq fun K hK => ?_)
    | (refine WP.region (rvc_sound _ _ (Sm.out ?_)))
    | (refine WP.drawK rfl mixed (by decide +kernel) (Sm.out ?_))
    | (refine Ob.mk ?_; focus (first | assumption | omega | decide | trivial | (intro hob; simp only [hob, ZF]; done) | (intros; (repeat' refine And.intro ?_ ?_) <;> first | assumption | omega | trivial | decide) | (intros; simp only [ZE] at *; (repeat' refine And.intro ?_ ?_) <;> first | assumption | omega | trivial)))
    | (refine And.intro (Ob.out ?_) ?_)
    | (refine WP.block ?_)
    | (refine WP.cond rfl (fun hc => ?_) (fun hc => ?_) <;> (try simp only [ZC, reduceCtorEq, ZD] at hc) <;> (try (exact absurd hc (by decide))) <;> (try (exfalso; omega)))
    | ((first | refine WP.skip ?_ | refine WP.exit ?_); simp only [SeqQ, BlkQ, LoopQ, BodyQ, ↓reduceIte, Nat.reduceEqDiff, reduceCtorEq, look, true_and])
    | (refine WP.ret (Sm.out ?_))
    | (first | refine ExG.no (Sm.out ?_) | refine Or.inl (ExG.no (Sm.out ?_)) | refine Or.inl (And.intro (fun hg => absurd hg (by decide)) (ExG.no (Sm.out ?_))))
    | (refine Rt.mk ?_; refine And.intro ?_ ?_ <;> (intro hg; first | exact absurd hg (by decide) | refine Sm.out ?_))
    | (refine Nu.mk ?_; first | (fail_if_success (have := nb1)); intro nb1 | (fail_if_success (have := nb2)); intro nb2 | (fail_if_success (have := nb3)); intro nb3 | (fail_if_success (have := nb4)); intro nb4 | (fail_if_success (have := nb5)); intro nb5 | (fail_if_success (have := nb6)); intro nb6 | (fail_if_success (have := nb7)); intro nb7 | (fail_if_success (have := nb8)); intro nb8 | intro nbz)
    | (refine Fr.mk ?_; intro hfr; (first | (have hFRb : _ ≤ _ ∧ _ ≤ _ := And.intro hfr.1 hfr.2.1) | (have hFRb : _ ≤ _ := hfr.1) | skip); replace FR := Sm.mk (And.intro hfr FR.out); clear hfr; refine Sm.out ?_)
    | (refine Two.mk ?_ ?_)
    | (refine Cs.mk ?_; intro hcs; first | exact False.elim hcs | (exfalso; omega) | (refine Sm.out ?_))
    | go_step
    | omega
    | (simp only [maxLen_eq]; omega)
  (refine OutQ.drop _ _ (perm3 (by simp only [hget, hdel, ↓reduceIte, if_true, if_false, FR.out, hd, es, ea]; first | done | rfl) (by simp only [hget, hdel, ↓reduceIte, if_true, if_false, FR.out, hd, es, ea]; first | done | rfl) (by simp only [hget, hdel, ↓reduceIte, if_true, if_false, FR.out, hd, es, ea]; first | done | rfl)) (by simp only [resv, ZK, look, loadv, loadn, loadnm, load1, load1m, hget, ↓reduceIte, Nat.reduceEqDiff, Nat.reduceAdd, Nat.reduceMul, Nat.reduceLeDiff, Nat.reduceLT, reduceCtorEq, TFBlD, FR.out, hd, es, ea]) ⟨nb3, nb4, hFRb, (by simp only [resv, resA, ZK, look, loadv, loadn, loadnm, load1, load1m, hget, ↓reduceIte, Nat.reduceEqDiff, Nat.reduceAdd, Nat.reduceMul, Nat.reduceLeDiff, Nat.reduceLT, reduceCtorEq, TFBlD, FR.out, hd, es, ea]; first | done | rfl), rfl⟩)
end Go.Proofs.Ytnhkohgamnchlaa
namespace Go.Proofs.Ytnhkohgamnchlaa
open Go
set_option linter.unusedVariables false
set_option linter.unusedSimpArgs false
theorem TFBlF : (((((((type_of% tyc0) ∧ (type_of% tyc3)) ∧ ((type_of% zmb3) ∧ (type_of% tyc4))) ∧ (((type_of% zmb4) ∧ (type_of% tyc5)) ∧ ((type_of% zmb5) ∧ (type_of% tyc24)))) ∧ ((((type_of% mth24_27) ∧ (type_of% mth24_26)) ∧ ((type_of% mth24_28) ∧ (type_of% con24))) ∧ (((type_of% zmb24) ∧ (type_of% tyc25)) ∧ ((type_of% zmb25) ∧ ((type_of% tyc30) ∧ (type_of% elt30)))))) ∧ (((((type_of% mkz30) ∧ (type_of% apT30)) ∧ ((type_of% elk30) ∧ (type_of% zmb30))) ∧ (((type_of% tyc51) ∧ (type_of% elt51)) ∧ ((type_of% mkz51) ∧ ((type_of% mkc51) ∧ (type_of% apT51))))) ∧ ((((type_of% elk51) ∧ (type_of% zmb51)) ∧ ((type_of% tyc52) ∧ (type_of% elt52))) ∧ (((type_of% mkz52) ∧ (type_of% mkc52)) ∧ ((type_of% apT52) ∧ ((type_of% elk52) ∧ (type_of% zmb52))))))) ∧ ((((((type_of% tyc54) ∧ (type_of% foff54_0)) ∧ ((type_of% fpart54_0) ∧ (type_of% foff54_1))) ∧ (((type_of% fpart54_1) ∧ (type_of% foff54_2)) ∧ ((type_of% fpart54_2) ∧ (type_of% foff54_3)))) ∧ ((((type_of% fpart54_3) ∧ (type_of% foff54_4)) ∧ ((type_of% fpart54_4) ∧ (type_of% foff54_5))) ∧ (((type_of% fpart54_5) ∧ (type_of% foff54_6)) ∧ ((type_of% fpart54_6) ∧ ((type_of% zmb54) ∧ (type_of% bldT54)))))) ∧ (((((type_of% tyc58) ∧ (type_of% foff58_0)) ∧ ((type_of% fpart58_0) ∧ (type_of% foff58_1))) ∧ (((type_of% fpart58_1) ∧ (type_of% zmb58)) ∧ ((type_of% bldT58) ∧ ((type_of% Try.underlying0) ∧ (type_of% Try.underlying3))))) ∧ ((((type_of% Try.underlying4) ∧ (type_of% Try.underlying5)) ∧ ((type_of% Try.underlying24) ∧ (type_of% Try.underlying25))) ∧ (((type_of% Try.underlying30) ∧ (type_of% Try.underlying51)) ∧ ((type_of% Try.underlying52) ∧ ((type_of% Try.underlying54) ∧ (type_of% Try.underlying58)))))))) :=
  ⟨⟨⟨⟨⟨⟨tyc0, tyc3⟩, ⟨zmb3, tyc4⟩⟩, ⟨⟨zmb4, tyc5⟩, ⟨zmb5, tyc24⟩⟩⟩, ⟨⟨⟨mth24_27, mth24_26⟩, ⟨mth24_28, con24⟩⟩, ⟨⟨zmb24, tyc25⟩, ⟨zmb25, ⟨tyc30, elt30⟩⟩⟩⟩⟩, ⟨⟨⟨⟨mkz30, apT30⟩, ⟨elk30, zmb30⟩⟩, ⟨⟨tyc51, elt51⟩, ⟨mkz51, ⟨mkc51, apT51⟩⟩⟩⟩, ⟨⟨⟨elk51, zmb51⟩, ⟨tyc52, elt52⟩⟩, ⟨⟨mkz52, mkc52⟩, ⟨apT52, ⟨elk52, zmb52⟩⟩⟩⟩⟩⟩, ⟨⟨⟨⟨⟨tyc54, foff54_0⟩, ⟨fpart54_0, foff54_1⟩⟩, ⟨⟨fpart54_1, foff54_2⟩, ⟨fpart54_2, foff54_3⟩⟩⟩, ⟨⟨⟨fpart54_3, foff54_4⟩, ⟨fpart54_4, foff54_5⟩⟩, ⟨⟨fpart54_5, foff54_6⟩, ⟨fpart54_6, ⟨zmb54, bldT54⟩⟩⟩⟩⟩, ⟨⟨⟨⟨tyc58, foff58_0⟩, ⟨fpart58_0, foff58_1⟩⟩, ⟨⟨fpart58_1, zmb58⟩, ⟨bldT58, ⟨Try.underlying0, Try.underlying3⟩⟩⟩⟩, ⟨⟨⟨Try.underlying4, Try.underlying5⟩, ⟨Try.underlying24, Try.underlying25⟩⟩, ⟨⟨Try.underlying30, Try.underlying51⟩, ⟨Try.underlying52, ⟨Try.underlying54, Try.underlying58⟩⟩⟩⟩⟩⟩⟩
abbrev nl : AV := .lit (.slice none 0 0)
theorem write_bad (b size de bs n c : Nat) (L W : AV) (f i : Int) (dk : Bool) (zs : List Int) (h : mayC size n dk i zs.length ≠ 0) : ACt Try.prog 13 [pt b 0, iv .i64 i, .slz .u8 zs] [(b, dkM size L (ms bs 0 n c) W f dk de)] (fun r F' => r = iv .i64 (mayC size n dk i zs.length) ∧ F' = [(b, dkM size L (ms bs 0 n c) W f dk de)]) := by
  have c1 := may_ct b size de bs n c L W f i zs.length dk
  obtain ⟨m, hm⟩ : ∃ m, m = mayC size n dk i zs.length := ⟨_, rfl⟩
  rw [← hm] at h c1 ⊢
  refine ACt.intro Try.func13 rfl (by kernel_rfl) (by simp [Try.ntmps13]) (fun cx => ?_)
  simp only [argE, Try.ntmps13, Try.results13]
  first | (have FRx := FR; clear FRx) | (have FR : Sm (¬ ((1 : Nat) = 0)) := Sm.mk Nat.one_ne_zero)
  repeat' first
    | (refine Sm.mk ?_; try simp -dsimp only [ZK, rvc, drawF, headN, pureH, stp, dvc, calleeOf, gcall, pev, eff, newB, okd, og, ogs, ogo, ogp, slv, bltv, opd, litv, strip, one, both, putE, St.put, look, gdOf, gdv, picka, pickv, pickw, binv, bini, bins, binb, binp, binq, isSlT, bina, shp, eqCells, unv, convv, nilv, faddv, addp, idxav, idxp, load1, load1m, loadn, loadnm, loadv, hget, hset, hrep, hdel, slicev, bnd, shift1, lenv, capv, IntKind.bits, extractv, fieldv, indexv, min2v, max2v, mkiv, cellsA, fillA, buildv, stC, oneC, rowMB, intsA, plN, appE, appZ, appC, appNZ, appNC, VwL, srcC, srcZ, srcM, isBoolT, isPtrT, isSliceT, uOk, Value.oneCell', Nat.reducePow, Int.reducePow, Nat.reduceAdd, Nat.reduceMul, Nat.reduceSub, Nat.reduceLT, Nat.reduceLeDiff, Nat.reduceEqDiff, Nat.reduceBEq, Nat.reduceDiv, Nat.reduceMod, ↓reduceIte, reduceCtorEq, Int.reduceToNat, Int.reduceLT, Int.reduceLE, drawMF, mkS, TFBlF, SeqQ, BlkQ, LoopQ, BodyQ, h, FR.out])
    | (refine CallV.upd (by simp only [hget, ↓reduceIte, FR.out, h]; first | done | rfl) (c1) (Sm.out ?_))
    | (refine WP.seq fun K hK => ?_)
    | (refine WP.region (rvc_sound _ _ (Sm.out ?_)))
    | (refine WP.drawMk (ia := 20) (k := 23) mixed (by decide +kernel) (by decide +kernel) (by decide +kernel) (by decide +kernel) (Sm.out ?_))
    | (refine WP.drawK rfl mixed (by decide +kernel) (Sm.out ?_))
    | (refine Ob.mk ?_; focus (first | assumption | omega | decide | trivial | (intro hob; simp only [hob, ZF]; done) | (intros; (repeat' refine And.intro ?_ ?_) <;> first | assumption | omega | trivial | decide) | (intros; simp only [ZE] at *; (repeat' refine And.intro ?_ ?_) <;> first | assumption | omega | trivial)))
    | (refine And.intro (Ob.out ?_) ?_)
    | (refine WP.block ?_)
    | (refine WP.cond rfl (fun hc => ?_) (fun hc => ?_) <;> (try simp only [ZC, reduceCtorEq, ZD] at hc) <;> (try (exact absurd hc (by decide))) <;> (try (exfalso; omega)))
    | ((first | refine WP.skip ?_ | refine WP.exit ?_); simp only [SeqQ, BlkQ, LoopQ, BodyQ, ↓reduceIte, Nat.reduceEqDiff, reduceCtorEq, look, true_and])
    | (refine WP.ret (Sm.out ?_))
    | (first | refine ExG.no (Sm.out ?_) | refine Or.inl (ExG.no (Sm.out ?_)) | refine Or.inl (And.intro (fun hg => absurd hg (by decide)) (ExG.no (Sm.out ?_))))
    | (refine Rt.mk ?_; refine And.intro ?_ ?_ <;> (intro hg; first | exact absurd hg (by decide) | refine Sm.out ?_))
    | (refine Nu.mk ?_; first | (fail_if_success (have := nb1)); intro nb1 | (fail_if_success (have := nb2)); intro nb2 | (fail_if_success (have := nb3)); intro nb3 | intro nbz)
    | (refine Fr.mk ?_; intro hfr; (first | (have hFRb : _ ≤ _ ∧ _ ≤ _ := And.intro hfr.1 hfr.2.1) | (have hFRb : _ ≤ _ := hfr.1) | skip); replace FR := Sm.mk (And.intro hfr FR.out); clear hfr; refine Sm.out ?_)
    | (refine Two.mk ?_ ?_)
    | (refine Cs.mk ?_; intro hcs; first | exact False.elim hcs | (exfalso; omega) | (refine Sm.out ?_))
    | go_step
    | omega
    | (simp only [maxLen_eq]; omega)
  (refine OutQ.upd (by simp only [resv, ZK, look, loadv, loadn, loadnm, load1, load1m, hget, ↓reduceIte, Nat.reduceEqDiff, Nat.reduceAdd, Nat.reduceMul, Nat.reduceLeDiff, Nat.reduceLT, reduceCtorEq, TFBlF, FR.out]) (by simp only [resv, resA, ZK, look, loadv, loadn, loadnm, load1, load1m, hget, ↓reduceIte, Nat.reduceEqDiff, Nat.reduceAdd, Nat.reduceMul, Nat.reduceLeDiff, Nat.reduceLT, reduceCtorEq, TFBlF, FR.out]; first | done | rfl) (by simp only [hget, ↓reduceIte, if_true, if_false, FR.out]; first | done | rfl) ?_ <;> first | exact rfl | (simp only [ZK, look, loadv, loadn, loadnm, load1, load1m, hget, ↓reduceIte, Nat.reduceEqDiff, Nat.reduceAdd, Nat.reduceMul, Nat.reduceLeDiff, Nat.reduceLT, reduceCtorEq, TFBlF, FR.out]; done) | skip)
theorem write_out (b size de bs n c : Nat) (L W : AV) (i : Int) (dk : Bool) (zs : List Int) (h : mayC size n dk i zs.length = 0) : ACt Try.prog 13 [pt b 0, iv .i64 i, .slz .u8 zs] [(b, dkM size L (ms bs 0 n c) W 0 dk de)] (fun r F' => r = iv .i64 12 ∧ F' = [(b, dkM size L (ms bs 0 n c) W 0 true de)]) := by
  have c1 := may_ct b size de bs n c L W 0 i zs.length dk
  rw [h] at c1
  have c2 := deed_dark b size de L (ms bs 0 n c) W dk
  refine ACt.intro Try.func13 rfl (by kernel_rfl) (by simp [Try.ntmps13]) (fun cx => ?_)
  simp only [argE, Try.ntmps13, Try.results13]
  first | (have FRx := FR; clear FRx) | (have FR : Sm (¬ ((1 : Nat) = 0)) := Sm.mk Nat.one_ne_zero)
  repeat' first
    | (refine Sm.mk ?_; try simp -dsimp only [ZK, rvc, drawF, headN, pureH, stp, dvc, calleeOf, gcall, pev, eff, newB, okd, og, ogs, ogo, ogp, slv, bltv, opd, litv, strip, one, both, putE, St.put, look, gdOf, gdv, picka, pickv, pickw, binv, bini, bins, binb, binp, binq, isSlT, bina, shp, eqCells, unv, convv, nilv, faddv, addp, idxav, idxp, load1, load1m, loadn, loadnm, loadv, hget, hset, hrep, hdel, slicev, bnd, shift1, lenv, capv, IntKind.bits, extractv, fieldv, indexv, min2v, max2v, mkiv, cellsA, fillA, buildv, stC, oneC, rowMB, intsA, plN, appE, appZ, appC, appNZ, appNC, VwL, srcC, srcZ, srcM, isBoolT, isPtrT, isSliceT, uOk, Value.oneCell', Nat.reducePow, Int.reducePow, Nat.reduceAdd, Nat.reduceMul, Nat.reduceSub, Nat.reduceLT, Nat.reduceLeDiff, Nat.reduceEqDiff, Nat.reduceBEq, Nat.reduceDiv, Nat.reduceMod, ↓reduceIte, reduceCtorEq, Int.reduceToNat, Int.reduceLT, Int.reduceLE, drawMF, mkS, TFBlF, SeqQ, BlkQ, LoopQ, BodyQ, FR.out])
    | (refine CallV.upd (by simp only [hget, ↓reduceIte, FR.out]; first | done | rfl) (c1) (Sm.out ?_))
    | (refine CallV.upd (by simp only [hget, ↓reduceIte, FR.out]; first | done | rfl) (c2) (Sm.out ?_))
    | (refine WP.seq fun K hK => ?_)
    | (refine WP.region (rvc_sound _ _ (Sm.out ?_)))
    | (refine WP.drawMk (ia := 20) (k := 23) mixed (by decide +kernel) (by decide +kernel) (by decide +kernel) (by decide +kernel) (Sm.out ?_))
    | (refine WP.drawK rfl mixed (by decide +kernel) (Sm.out ?_))
    | (refine Ob.mk ?_; focus (first | assumption | omega | decide | trivial | (intro hob; simp only [hob, ZF]; done) | (intros; (repeat' refine And.intro ?_ ?_) <;> first | assumption | omega | trivial | decide) | (intros; simp only [ZE] at *; (repeat' refine And.intro ?_ ?_) <;> first | assumption | omega | trivial)))
    | (refine And.intro (Ob.out ?_) ?_)
    | (refine WP.block ?_)
    | (refine WP.cond rfl (fun hc => ?_) (fun hc => ?_) <;> (try simp only [ZC, reduceCtorEq, ZD] at hc) <;> (try (exact absurd hc (by decide))) <;> (try (exfalso; omega)))
    | ((first | refine WP.skip ?_ | refine WP.exit ?_); simp only [SeqQ, BlkQ, LoopQ, BodyQ, ↓reduceIte, Nat.reduceEqDiff, reduceCtorEq, look, true_and])
    | (refine WP.ret (Sm.out ?_))
    | (first | refine ExG.no (Sm.out ?_) | refine Or.inl (ExG.no (Sm.out ?_)) | refine Or.inl (And.intro (fun hg => absurd hg (by decide)) (ExG.no (Sm.out ?_))))
    | (refine Rt.mk ?_; refine And.intro ?_ ?_ <;> (intro hg; first | exact absurd hg (by decide) | refine Sm.out ?_))
    | (refine Nu.mk ?_; first | (fail_if_success (have := nb1)); intro nb1 | (fail_if_success (have := nb2)); intro nb2 | (fail_if_success (have := nb3)); intro nb3 | intro nbz)
    | (refine Fr.mk ?_; intro hfr; (first | (have hFRb : _ ≤ _ ∧ _ ≤ _ := And.intro hfr.1 hfr.2.1) | (have hFRb : _ ≤ _ := hfr.1) | skip); replace FR := Sm.mk (And.intro hfr FR.out); clear hfr; refine Sm.out ?_)
    | (refine Two.mk ?_ ?_)
    | (refine Cs.mk ?_; intro hcs; first | exact False.elim hcs | (exfalso; omega) | (refine Sm.out ?_))
    | go_step
    | omega
    | (simp only [maxLen_eq]; omega)
  (refine OutQ.upd (by simp only [resv, ZK, look, loadv, loadn, loadnm, load1, load1m, hget, ↓reduceIte, Nat.reduceEqDiff, Nat.reduceAdd, Nat.reduceMul, Nat.reduceLeDiff, Nat.reduceLT, reduceCtorEq, TFBlF, FR.out]) (by simp only [resv, resA, ZK, look, loadv, loadn, loadnm, load1, load1m, hget, ↓reduceIte, Nat.reduceEqDiff, Nat.reduceAdd, Nat.reduceMul, Nat.reduceLeDiff, Nat.reduceLT, reduceCtorEq, TFBlF, FR.out]; first | done | rfl) (by simp only [hget, ↓reduceIte, if_true, if_false, FR.out]; first | done | rfl) ?_ <;> first | exact rfl | (simp only [ZK, look, loadv, loadn, loadnm, load1, load1m, hget, ↓reduceIte, Nat.reduceEqDiff, Nat.reduceAdd, Nat.reduceMul, Nat.reduceLeDiff, Nat.reduceLT, reduceCtorEq, TFBlF, FR.out]; done) | skip)
end Go.Proofs.Ytnhkohgamnchlaa
namespace Go.Proofs.Ytnhkohgamnchlaa
open Go
set_option linter.unusedVariables false
set_option linter.unusedSimpArgs false
theorem TFBlE : ((((((type_of% tyc0) ∧ ((type_of% tyc3) ∧ (type_of% zmb3))) ∧ ((type_of% tyc4) ∧ ((type_of% zmb4) ∧ (type_of% tyc5)))) ∧ (((type_of% zmb5) ∧ ((type_of% tyc24) ∧ (type_of% mth24_27))) ∧ (((type_of% mth24_26) ∧ (type_of% mth24_28)) ∧ ((type_of% con24) ∧ (type_of% zmb24))))) ∧ ((((type_of% tyc25) ∧ ((type_of% zmb25) ∧ (type_of% tyc30))) ∧ (((type_of% elt30) ∧ (type_of% mkz30)) ∧ ((type_of% apT30) ∧ (type_of% elk30)))) ∧ (((type_of% zmb30) ∧ ((type_of% tyc51) ∧ (type_of% elt51))) ∧ (((type_of% mkz51) ∧ (type_of% mkc51)) ∧ ((type_of% apT51) ∧ (type_of% elk51)))))) ∧ (((((type_of% zmb51) ∧ ((type_of% tyc54) ∧ (type_of% foff54_0))) ∧ ((type_of% fpart54_0) ∧ ((type_of% foff54_1) ∧ (type_of% fpart54_1)))) ∧ (((type_of% foff54_2) ∧ ((type_of% fpart54_2) ∧ (type_of% foff54_3))) ∧ (((type_of% fpart54_3) ∧ (type_of% foff54_4)) ∧ ((type_of% fpart54_4) ∧ (type_of% foff54_5))))) ∧ ((((type_of% fpart54_5) ∧ ((type_of% foff54_6) ∧ (type_of% fpart54_6))) ∧ (((type_of% zmb54) ∧ (type_of% bldT54)) ∧ ((type_of% Try.underlying0) ∧ (type_of% Try.underlying3)))) ∧ (((type_of% Try.underlying4) ∧ ((type_of% Try.underlying5) ∧ (type_of% Try.underlying24))) ∧ (((type_of% Try.underlying25) ∧ (type_of% Try.underlying30)) ∧ ((type_of% Try.underlying51) ∧ (type_of% Try.underlying54))))))) :=
  ⟨⟨⟨⟨⟨tyc0, ⟨tyc3, zmb3⟩⟩, ⟨tyc4, ⟨zmb4, tyc5⟩⟩⟩, ⟨⟨zmb5, ⟨tyc24, mth24_27⟩⟩, ⟨⟨mth24_26, mth24_28⟩, ⟨con24, zmb24⟩⟩⟩⟩, ⟨⟨⟨tyc25, ⟨zmb25, tyc30⟩⟩, ⟨⟨elt30, mkz30⟩, ⟨apT30, elk30⟩⟩⟩, ⟨⟨zmb30, ⟨tyc51, elt51⟩⟩, ⟨⟨mkz51, mkc51⟩, ⟨apT51, elk51⟩⟩⟩⟩⟩, ⟨⟨⟨⟨zmb51, ⟨tyc54, foff54_0⟩⟩, ⟨fpart54_0, ⟨foff54_1, fpart54_1⟩⟩⟩, ⟨⟨foff54_2, ⟨fpart54_2, foff54_3⟩⟩, ⟨⟨fpart54_3, foff54_4⟩, ⟨fpart54_4, foff54_5⟩⟩⟩⟩, ⟨⟨⟨fpart54_5, ⟨foff54_6, fpart54_6⟩⟩, ⟨⟨zmb54, bldT54⟩, ⟨Try.underlying0, Try.underlying3⟩⟩⟩, ⟨⟨Try.underlying4, ⟨Try.underlying5, Try.underlying24⟩⟩, ⟨⟨Try.underlying25, Try.underlying30⟩, ⟨Try.underlying51, Try.underlying54⟩⟩⟩⟩⟩⟩
theorem new_bad (n size : Int) (h : n < 1 ∨ 400 < n ∨ size < 32 ∨ 512 < size) : ACt Try.prog 8 [iv .i64 n, iv .i64 size] [] (Fn (.tup [.lit (.pointer none), iv .i64 2])) := by
  refine ACt.intro Try.func8 rfl (by kernel_rfl) (by simp [Try.ntmps8]) (fun cx => ?_)
  simp only [argE, Try.ntmps8, Try.results8]
  have e2 : (decide (n < 1) || decide (n > 400) || decide (size < 32) || decide (size > 512)) = true := by simp; omega
  first | (have FRx := FR; clear FRx) | (have FR : Sm (¬ ((1 : Nat) = 0)) := Sm.mk Nat.one_ne_zero)
  repeat' first
    | (refine Sm.mk ?_; try simp -dsimp only [ZK, rvc, drawF, headN, pureH, stp, dvc, calleeOf, gcall, pev, eff, newB, okd, og, ogs, ogo, ogp, slv, bltv, opd, litv, strip, one, both, putE, St.put, look, gdOf, gdv, picka, pickv, pickw, binv, bini, bins, binb, binp, binq, isSlT, bina, shp, eqCells, unv, convv, nilv, faddv, addp, idxav, idxp, load1, load1m, loadn, loadnm, loadv, hget, hset, hrep, hdel, slicev, bnd, shift1, lenv, capv, IntKind.bits, extractv, fieldv, indexv, min2v, max2v, mkiv, cellsA, fillA, buildv, stC, oneC, rowMB, intsA, plN, appE, appZ, appC, appNZ, appNC, VwL, srcC, srcZ, srcM, isBoolT, isPtrT, isSliceT, uOk, Value.oneCell', Nat.reducePow, Int.reducePow, Nat.reduceAdd, Nat.reduceMul, Nat.reduceSub, Nat.reduceLT, Nat.reduceLeDiff, Nat.reduceEqDiff, Nat.reduceBEq, Nat.reduceDiv, Nat.reduceMod, ↓reduceIte, reduceCtorEq, Int.reduceToNat, Int.reduceLT, Int.reduceLE, drawNF, drawNF1, drawNTF, nvc, xst, chF, chS, mkV, splitH, calleeV, putE, hdel, TFBlE, SeqQ, BlkQ, LoopQ, BodyQ, e2, FR.out])
    | (refine WP.seq fun K hK => ?_)
    | (refine WP.region (rvc_sound _ _ (Sm.out ?_)))
    | (refine WP.drawN1 (cs := [6,7]) (k := 8) (bs := []) mixed (by decide +kernel) (by decide +kernel) (by decide +kernel) (by decide +kernel) (by decide +kernel) (by decide +kernel) (by decide +kernel) (Sm.out ?_))
    | (refine WP.drawK rfl mixed (by decide +kernel) (Sm.out ?_))
    | (refine Ob.mk ?_; focus (first | assumption | omega | decide | trivial | (intro hob; simp only [hob, ZF]; done) | (intros; (repeat' refine And.intro ?_ ?_) <;> first | assumption | omega | trivial | decide) | (intros; simp only [ZE] at *; (repeat' refine And.intro ?_ ?_) <;> first | assumption | omega | trivial)))
    | (refine And.intro (Ob.out ?_) ?_)
    | (refine WP.block ?_)
    | (refine WP.cond rfl (fun hc => ?_) (fun hc => ?_) <;> (try simp only [ZC, reduceCtorEq, ZD] at hc) <;> (try (exact absurd hc (by decide))) <;> (try (exfalso; omega)))
    | ((first | refine WP.skip ?_ | refine WP.exit ?_); simp only [SeqQ, BlkQ, LoopQ, BodyQ, ↓reduceIte, Nat.reduceEqDiff, reduceCtorEq, look, true_and])
    | (refine WP.ret (Sm.out ?_))
    | (first | refine ExG.no (Sm.out ?_) | refine Or.inl (ExG.no (Sm.out ?_)) | refine Or.inl (And.intro (fun hg => absurd hg (by decide)) (ExG.no (Sm.out ?_))))
    | (refine Rt.mk ?_; refine And.intro ?_ ?_ <;> (intro hg; first | exact absurd hg (by decide) | refine Sm.out ?_))
    | (refine Nu.mk ?_; first | (fail_if_success (have := nb1)); intro nb1 | (fail_if_success (have := nb2)); intro nb2 | (fail_if_success (have := nb3)); intro nb3 | (fail_if_success (have := nb4)); intro nb4 | (fail_if_success (have := nb5)); intro nb5 | (fail_if_success (have := nb6)); intro nb6 | (fail_if_success (have := nb7)); intro nb7 | (fail_if_success (have := nb8)); intro nb8 | (fail_if_success (have := nb9)); intro nb9 | (fail_if_success (have := nb10)); intro nb10 | (fail_if_success (have := nb11)); intro nb11 | (fail_if_success (have := nb12)); intro nb12 | intro nbz)
    | (refine Fr.mk ?_; intro hfr; (first | (have hFRb : _ ≤ _ ∧ _ ≤ _ := And.intro hfr.1 hfr.2.1) | (have hFRb : _ ≤ _ := hfr.1) | skip); replace FR := Sm.mk (And.intro hfr FR.out); clear hfr; refine Sm.out ?_)
    | (refine Two.mk ?_ ?_)
    | (refine Cs.mk ?_; intro hcs; first | exact False.elim hcs | (exfalso; omega) | (refine Sm.out ?_))
    | (refine OutQ.all ?_ ?_; (focus (simp only [resv, ZK, look, loadv, loadn, loadnm, load1, load1m, hget, ↓reduceIte, Nat.reduceEqDiff, Nat.reduceAdd, Nat.reduceMul, Nat.reduceLeDiff, Nat.reduceLT, reduceCtorEq, TFBlE, e2, FR.out])); (try simp only [resv, resA, Fn, ZK, look, loadv, loadn, loadnm, load1, load1m, hget, ↓reduceIte, Nat.reduceEqDiff, Nat.reduceAdd, Nat.reduceMul, Nat.reduceLeDiff, Nat.reduceLT, reduceCtorEq, TFBlE, e2, FR.out]); (try simp [resA, Fn, look, e2, FR.out]); done)
    | go_step
    | omega
    | (simp only [maxLen_eq]; omega)
/-- so many empty blocks -/
def zrow (size : Nat) : List Int := List.replicate size 0
structure NG where
  l : Nat
  c : Nat
  j : Nat
theorem new_ok (n size : Nat) (h1 : 1 ≤ n) (h2 : n ≤ 400) (h3 : 32 ≤ size) (h4 : size ≤ 512) : ACt Try.prog 8 [iv .i64 (n : Int), iv .i64 (size : Int)] []
    (fun r F' => ∃ g : (Nat × Nat × Nat) × Nat × Nat, (n ≤ g.1.2.2 ∧ n ≤ g.2.2) ∧ r = .tup [pt g.1.1 0, iv .i64 0] ∧ F' = [(g.1.1, dkM size (ms g.1.2.1 0 n g.1.2.2) (ms g.2.1 0 n g.2.2) nl (-1) false 0), (g.1.2.1, .cells (rws (List.replicate n (zrow size))) g.1.2.2 30), (g.2.1, .cells (rws (List.replicate n (zrow size))) g.2.2 30)]) := by
  refine ACt.intro Try.func8 rfl (by kernel_rfl) (by simp [Try.ntmps8]) (fun cx => ?_)
  simp only [argE, Try.ntmps8, Try.results8]
  have e2 : (decide ((n : Int) < 1) || decide ((n : Int) > 400) || decide ((size : Int) < 32) || decide ((size : Int) > 512)) = false := by simp; omega
  have hsz : size ≤ 9223372036854775807 := by omega
  have tz : (List.replicate size (0 : Int)).take size = List.replicate size 0 := by simp
  first | (have FRx := FR; clear FRx) | (have FR : Sm (¬ ((1 : Nat) = 0)) := Sm.mk Nat.one_ne_zero)
  repeat' first
    | (refine Sm.mk ?_; try simp -dsimp only [ZK, rvc, drawF, headN, pureH, stp, dvc, calleeOf, gcall, pev, eff, newB, okd, og, ogs, ogo, ogp, slv, bltv, opd, litv, strip, one, both, putE, St.put, look, gdOf, gdv, picka, pickv, pickw, binv, bini, bins, binb, binp, binq, isSlT, bina, shp, eqCells, unv, convv, nilv, faddv, addp, idxav, idxp, load1, load1m, loadn, loadnm, loadv, hget, hset, hrep, hdel, slicev, bnd, shift1, lenv, capv, IntKind.bits, extractv, fieldv, indexv, min2v, max2v, mkiv, cellsA, fillA, buildv, stC, oneC, rowMB, intsA, plN, appE, appZ, appC, appNZ, appNC, VwL, srcC, srcZ, srcM, isBoolT, isPtrT, isSliceT, uOk, Value.oneCell', Nat.reducePow, Int.reducePow, Nat.reduceAdd, Nat.reduceMul, Nat.reduceSub, Nat.reduceLT, Nat.reduceLeDiff, Nat.reduceEqDiff, Nat.reduceBEq, Nat.reduceDiv, Nat.reduceMod, ↓reduceIte, reduceCtorEq, Int.reduceToNat, Int.reduceLT, Int.reduceLE, drawNF, drawNF1, drawNTF, nvc, xst, chF, chS, mkV, splitH, calleeV, putE, hdel, TFBlE, SeqQ, BlkQ, LoopQ, BodyQ, e2, FR.out])
    | (refine WP.seq fun K hK => ?_)
    | (refine WP.region (rvc_sound _ _ (Sm.out ?_)))
    | (refine WP.drawN1 (cs := [6,7]) (k := 8) (bs := []) mixed (by decide +kernel) (by decide +kernel) (by decide +kernel) (by decide +kernel) (by decide +kernel) (by decide +kernel) (by decide +kernel) (Sm.out ?_))
    | (refine WP.drawK rfl mixed (by decide +kernel) (Sm.out ?_))
    | (refine Ob.mk ?_; focus (first | assumption | omega | decide | trivial | (intro hob; simp only [hob, ZF]; done) | (intros; (repeat' refine And.intro ?_ ?_) <;> first | assumption | omega | trivial | decide) | (intros; simp only [ZE] at *; (repeat' refine And.intro ?_ ?_) <;> first | assumption | omega | trivial)))
    | (refine And.intro (Ob.out ?_) ?_)
    | (refine WP.block ?_)
    | (refine WP.cond rfl (fun hc => ?_) (fun hc => ?_) <;> (try simp only [ZC, reduceCtorEq, ZD] at hc) <;> (try (exact absurd hc (by decide))) <;> (try (exfalso; omega)))
    | ((first | refine WP.skip ?_ | refine WP.exit ?_); simp only [SeqQ, BlkQ, LoopQ, BodyQ, ↓reduceIte, Nat.reduceEqDiff, reduceCtorEq, look, true_and])
    | (refine WP.ret (Sm.out ?_))
    | (first | refine ExG.no (Sm.out ?_) | refine Or.inl (ExG.no (Sm.out ?_)) | refine Or.inl (And.intro (fun hg => absurd hg (by decide)) (ExG.no (Sm.out ?_))))
    | (refine Rt.mk ?_; refine And.intro ?_ ?_ <;> (intro hg; first | exact absurd hg (by decide) | refine Sm.out ?_))
    | (refine Nu.mk ?_; first | (fail_if_success (have := nb1)); intro nb1 | (fail_if_success (have := nb2)); intro nb2 | (fail_if_success (have := nb3)); intro nb3 | (fail_if_success (have := nb4)); intro nb4 | (fail_if_success (have := nb5)); intro nb5 | (fail_if_success (have := nb6)); intro nb6 | (fail_if_success (have := nb7)); intro nb7 | (fail_if_success (have := nb8)); intro nb8 | (fail_if_success (have := nb9)); intro nb9 | (fail_if_success (have := nb10)); intro nb10 | (fail_if_success (have := nb11)); intro nb11 | (fail_if_success (have := nb12)); intro nb12 | intro nbz)
    | (refine Fr.mk ?_; intro hfr; (first | (have hFRb : _ ≤ _ ∧ _ ≤ _ := And.intro hfr.1 hfr.2.1) | (have hFRb : _ ≤ _ := hfr.1) | skip); replace FR := Sm.mk (And.intro hfr FR.out); clear hfr; refine Sm.out ?_)
    | (refine Two.mk ?_ ?_)
    | (refine Cs.mk ?_; intro hcs; first | exact False.elim hcs | (exfalso; omega) | (refine Sm.out ?_))
    | go_step
    | omega
    | (simp only [maxLen_eq]; omega)
  refine WP.loop (Γ := Option NG) (fun q => match q with
    | none => ⟨[(25, iv .i64 0), (24, iv .i64 n), (6, pt nb1 0), (1, iv .i64 size)], [(nb1, dkM size nl nl nl (-1) false 0)]⟩
    | some g => ⟨[(25, iv .i64 (g.j : Nat)), (24, iv .i64 n), (6, pt nb1 0), (1, iv .i64 size)], [(nb1, dkM size (ms g.l 0 g.j g.c) nl nl (-1) false 0), (g.l, .cells (rws (List.replicate g.j (zrow size))) g.c 30)]⟩)
    (fun q => match q with | none => True | some g => 1 ≤ g.j ∧ g.j ≤ n ∧ g.j ≤ g.c ∧ g.c ≤ 9223372036854775807) (fun q => match q with | none => n + 1 | some g => n - g.j) none trivial (Sub.pick (by simp [pickB, hget, hdel, FR.out, dkM]) (by simp [look, dkM])) ?_
  rintro (_ | ⟨l, c, j⟩) hq <;> simp only at hq ⊢
  · have k1 : decide ((0 : Int) < (n : Int)) = true := by simp; omega
    unfold dkM
    first | (have FRx := FR; clear FRx) | (have FR : Sm (¬ ((1 : Nat) = 0)) := Sm.mk Nat.one_ne_zero)
    repeat' first
      | (refine Sm.mk ?_; try simp -dsimp only [ZK, rvc, drawF, headN, pureH, stp, dvc, calleeOf, gcall, pev, eff, newB, okd, og, ogs, ogo, ogp, slv, bltv, opd, litv, strip, one, both, putE, St.put, look, gdOf, gdv, picka, pickv, pickw, binv, bini, bins, binb, binp, binq, isSlT, bina, shp, eqCells, unv, convv, nilv, faddv, addp, idxav, idxp, load1, load1m, loadn, loadnm, loadv, hget, hset, hrep, hdel, slicev, bnd, shift1, lenv, capv, IntKind.bits, extractv, fieldv, indexv, min2v, max2v, mkiv, cellsA, fillA, buildv, stC, oneC, rowMB, intsA, plN, appE, appZ, appC, appNZ, appNC, VwL, srcC, srcZ, srcM, isBoolT, isPtrT, isSliceT, uOk, Value.oneCell', Nat.reducePow, Int.reducePow, Nat.reduceAdd, Nat.reduceMul, Nat.reduceSub, Nat.reduceLT, Nat.reduceLeDiff, Nat.reduceEqDiff, Nat.reduceBEq, Nat.reduceDiv, Nat.reduceMod, ↓reduceIte, reduceCtorEq, Int.reduceToNat, Int.reduceLT, Int.reduceLE, drawNF, drawNF1, drawNTF, nvc, xst, chF, chS, mkV, splitH, calleeV, putE, hdel, TFBlE, SeqQ, BlkQ, LoopQ, BodyQ, k1, FR.out])
      | (refine WP.seq fun K hK => ?_)
      | ((fail_if_success (show WP _ _ _ (.region 7 _ _) _ _)); refine WP.region (rvc_sound _ _ (Sm.out ?_)))
      | ((fail_if_success (show WP _ _ _ (.region 7 _ _) _ _)); refine WP.drawN1 (cs := [6,7]) (k := 8) (bs := []) mixed (by decide +kernel) (by decide +kernel) (by decide +kernel) (by decide +kernel) (by decide +kernel) (by decide +kernel) (by decide +kernel) (Sm.out ?_))
      | ((fail_if_success (show WP _ _ _ (.region 7 _ _) _ _)); refine WP.drawK rfl mixed (by decide +kernel) (Sm.out ?_))
      | (refine Ob.mk ?_; focus (first | assumption | omega | decide | trivial | (intro hob; simp only [hob, ZF]; done) | (intros; (repeat' refine And.intro ?_ ?_) <;> first | assumption | omega | trivial | decide) | (intros; simp only [ZE] at *; (repeat' refine And.intro ?_ ?_) <;> first | assumption | omega | trivial)))
      | (refine And.intro (Ob.out ?_) ?_)
      | (refine WP.block ?_)
      | (refine WP.cond rfl (fun hc => ?_) (fun hc => ?_) <;> (try simp only [ZC, reduceCtorEq, ZD] at hc) <;> (try (exact absurd hc (by decide))) <;> (try (exfalso; omega)))
      | ((first | refine WP.skip ?_ | refine WP.exit ?_); simp only [SeqQ, BlkQ, LoopQ, BodyQ, ↓reduceIte, Nat.reduceEqDiff, reduceCtorEq, look, true_and])
      | (refine WP.ret (Sm.out ?_))
      | (first | refine ExG.no (Sm.out ?_) | refine Or.inl (ExG.no (Sm.out ?_)) | refine Or.inl (And.intro (fun hg => absurd hg (by decide)) (ExG.no (Sm.out ?_))))
      | (refine Rt.mk ?_; refine And.intro ?_ ?_ <;> (intro hg; first | exact absurd hg (by decide) | refine Sm.out ?_))
      | (refine Nu.mk ?_; first | (fail_if_success (have := nb1)); intro nb1 | (fail_if_success (have := nb2)); intro nb2 | (fail_if_success (have := nb3)); intro nb3 | (fail_if_success (have := nb4)); intro nb4 | (fail_if_success (have := nb5)); intro nb5 | (fail_if_success (have := nb6)); intro nb6 | (fail_if_success (have := nb7)); intro nb7 | (fail_if_success (have := nb8)); intro nb8 | (fail_if_success (have := nb9)); intro nb9 | (fail_if_success (have := nb10)); intro nb10 | (fail_if_success (have := nb11)); intro nb11 | (fail_if_success (have := nb12)); intro nb12 | intro nbz)
      | (refine Fr.mk ?_; intro hfr; (first | (have hFRb : _ ≤ _ ∧ _ ≤ _ := And.intro hfr.1 hfr.2.1) | (have hFRb : _ ≤ _ := hfr.1) | skip); replace FR := Sm.mk (And.intro hfr FR.out); clear hfr; refine Sm.out ?_)
      | (refine Two.mk ?_ ?_)
      | (refine Cs.mk ?_; intro hcs; first | exact False.elim hcs | (exfalso; omega) | (refine Sm.out ?_))
      | go_step
      | omega
      | (simp only [maxLen_eq]; omega)
    (refine WP.wk (Wk.freezeH (nb2) (by simp only [ZK, rvc, drawF, headN, pureH, stp, dvc, calleeOf, gcall, pev, eff, newB, okd, og, ogs, ogo, ogp, slv, bltv, opd, litv, strip, one, both, putE, St.put, look, gdOf, gdv, picka, pickv, pickw, binv, bini, bins, binb, binp, binq, isSlT, bina, shp, eqCells, unv, convv, nilv, faddv, addp, idxav, idxp, load1, load1m, loadn, loadnm, loadv, hget, hset, hrep, hdel, slicev, bnd, shift1, lenv, capv, IntKind.bits, extractv, fieldv, indexv, min2v, max2v, mkiv, cellsA, fillA, buildv, stC, oneC, rowMB, intsA, plN, appE, appZ, appC, appNZ, appNC, VwL, srcC, srcZ, srcM, isBoolT, isPtrT, isSliceT, uOk, Value.oneCell', Nat.reducePow, Int.reducePow, Nat.reduceAdd, Nat.reduceMul, Nat.reduceSub, Nat.reduceLT, Nat.reduceLeDiff, Nat.reduceEqDiff, Nat.reduceBEq, Nat.reduceDiv, Nat.reduceMod, ↓reduceIte, reduceCtorEq, Int.reduceToNat, Int.reduceLT, Int.reduceLE, drawNF, drawNF1, drawNTF, nvc, xst, chF, chS, mkV, splitH, calleeV, putE, hdel, TFBlE, SeqQ, BlkQ, LoopQ, BodyQ, hsz, tz, FR.out]; first | done | rfl)) ?_; simp only [frzE, frzH, frzM, frzL, frz, hdel, List.map_cons, List.map_nil, List.map_append, ZK, rvc, drawF, headN, pureH, stp, dvc, calleeOf, gcall, pev, eff, newB, okd, og, ogs, ogo, ogp, slv, bltv, opd, litv, strip, one, both, putE, St.put, look, gdOf, gdv, picka, pickv, pickw, binv, bini, bins, binb, binp, binq, isSlT, bina, shp, eqCells, unv, convv, nilv, faddv, addp, idxav, idxp, load1, load1m, loadn, loadnm, loadv, hget, hset, hrep, hdel, slicev, bnd, shift1, lenv, capv, IntKind.bits, extractv, fieldv, indexv, min2v, max2v, mkiv, cellsA, fillA, buildv, stC, oneC, rowMB, intsA, plN, appE, appZ, appC, appNZ, appNC, VwL, srcC, srcZ, srcM, isBoolT, isPtrT, isSliceT, uOk, Value.oneCell', Nat.reducePow, Int.reducePow, Nat.reduceAdd, Nat.reduceMul, Nat.reduceSub, Nat.reduceLT, Nat.reduceLeDiff, Nat.reduceEqDiff, Nat.reduceBEq, Nat.reduceDiv, Nat.reduceMod, ↓reduceIte, reduceCtorEq, Int.reduceToNat, Int.reduceLT, Int.reduceLE, drawNF, drawNF1, drawNTF, nvc, xst, chF, chS, mkV, splitH, calleeV, putE, hdel, TFBlE, SeqQ, BlkQ, LoopQ, BodyQ, hsz, tz, FR.out])
    have w1 : IntKind.i64.wrap 1 = 1 := by decide
    first | (have FRx := FR; clear FRx) | (have FR : Sm (¬ ((1 : Nat) = 0)) := Sm.mk Nat.one_ne_zero)
    repeat' first
      | (refine Sm.mk ?_; try simp -dsimp only [ZK, rvc, drawF, headN, pureH, stp, dvc, calleeOf, gcall, pev, eff, newB, okd, og, ogs, ogo, ogp, slv, bltv, opd, litv, strip, one, both, putE, St.put, look, gdOf, gdv, picka, pickv, pickw, binv, bini, bins, binb, binp, binq, isSlT, bina, shp, eqCells, unv, convv, nilv, faddv, addp, idxav, idxp, load1, load1m, loadn, loadnm, loadv, hget, hset, hrep, hdel, slicev, bnd, shift1, lenv, capv, IntKind.bits, extractv, fieldv, indexv, min2v, max2v, mkiv, cellsA, fillA, buildv, stC, oneC, rowMB, intsA, plN, appE, appZ, appC, appNZ, appNC, VwL, srcC, srcZ, srcM, isBoolT, isPtrT, isSliceT, uOk, Value.oneCell', Nat.reducePow, Int.reducePow, Nat.reduceAdd, Nat.reduceMul, Nat.reduceSub, Nat.reduceLT, Nat.reduceLeDiff, Nat.reduceEqDiff, Nat.reduceBEq, Nat.reduceDiv, Nat.reduceMod, ↓reduceIte, reduceCtorEq, Int.reduceToNat, Int.reduceLT, Int.reduceLE, drawNF, drawNF1, drawNTF, nvc, xst, chF, chS, mkV, splitH, calleeV, putE, hdel, TFBlE, SeqQ, BlkQ, LoopQ, BodyQ, w1, FR.out])
      | (refine WP.seq fun K hK => ?_)
      | (refine WP.region (rvc_sound _ _ (Sm.out ?_)))
      | (refine WP.drawN1 (cs := [6,7]) (k := 8) (bs := []) mixed (by decide +kernel) (by decide +kernel) (by decide +kernel) (by decide +kernel) (by decide +kernel) (by decide +kernel) (by decide +kernel) (Sm.out ?_))
      | (refine WP.drawK rfl mixed (by decide +kernel) (Sm.out ?_))
      | (refine Ob.mk ?_; focus (first | assumption | omega | decide | trivial | (intro hob; simp only [hob, ZF]; done) | (intros; (repeat' refine And.intro ?_ ?_) <;> first | assumption | omega | trivial | decide) | (intros; simp only [ZE] at *; (repeat' refine And.intro ?_ ?_) <;> first | assumption | omega | trivial)))
      | (refine And.intro (Ob.out ?_) ?_)
      | (refine WP.block ?_)
      | (refine WP.cond rfl (fun hc => ?_) (fun hc => ?_) <;> (try simp only [ZC, reduceCtorEq, ZD] at hc) <;> (try (exact absurd hc (by decide))) <;> (try (exfalso; omega)))
      | ((first | refine WP.skip ?_ | refine WP.exit ?_); simp only [SeqQ, BlkQ, LoopQ, BodyQ, ↓reduceIte, Nat.reduceEqDiff, reduceCtorEq, look, true_and])
      | (refine WP.ret (Sm.out ?_))
      | (first | refine ExG.no (Sm.out ?_) | refine Or.inl (ExG.no (Sm.out ?_)) | refine Or.inl (And.intro (fun hg => absurd hg (by decide)) (ExG.no (Sm.out ?_))))
      | (refine Rt.mk ?_; refine And.intro ?_ ?_ <;> (intro hg; first | exact absurd hg (by decide) | refine Sm.out ?_))
      | (refine Nu.mk ?_; first | (fail_if_success (have := nb1)); intro nb1 | (fail_if_success (have := nb2)); intro nb2 | (fail_if_success (have := nb3)); intro nb3 | (fail_if_success (have := nb4)); intro nb4 | (fail_if_success (have := nb5)); intro nb5 | (fail_if_success (have := nb6)); intro nb6 | (fail_if_success (have := nb7)); intro nb7 | (fail_if_success (have := nb8)); intro nb8 | (fail_if_success (have := nb9)); intro nb9 | (fail_if_success (have := nb10)); intro nb10 | (fail_if_success (have := nb11)); intro nb11 | (fail_if_success (have := nb12)); intro nb12 | intro nbz)
      | (refine Fr.mk ?_; intro hfr; (first | (have hFRb : _ ≤ _ ∧ _ ≤ _ := And.intro hfr.1 hfr.2.1) | (have hFRb : _ ≤ _ := hfr.1) | skip); replace FR := Sm.mk (And.intro hfr FR.out); clear hfr; refine Sm.out ?_)
      | (refine Two.mk ?_ ?_)
      | (refine Cs.mk ?_; intro hcs; first | exact False.elim hcs | (exfalso; omega) | (refine Sm.out ?_))
      | go_step
      | omega
      | (simp only [maxLen_eq]; omega)
    exact ⟨some ⟨nb4, nb5, 1⟩, ⟨by simp only; omega, by simp only; omega, hFRb⟩, by simp only; omega, (Sub.pick (by simp [pickB, hget, hdel, FR.out, dkM, rws, zrow, w1]) (by simp [look, dkM, rws, zrow, w1]))⟩
  · obtain ⟨q1, q2, q3, q4⟩ := hq
    try simp only at q1 q2 q3 q4
    have FR : Sm (¬ ((1 : Nat) = 0)) := Sm.mk Nat.one_ne_zero
    (refine WP.nd fun hnd => ?_; simp only [ndF, fresh_cons, fresh_nil, and_true, ne_eq] at hnd; replace FR := Sm.mk (And.intro hnd FR.out); clear hnd)
    by_cases hj : j < n
    · have k1 : decide ((j : Int) < (n : Int)) = true := by simp; omega
      have w1 : IntKind.i64.wrap ((j : Int) + 1) = ((j + 1 : Nat) : Int) := by rw [wrap_i64 (by omega) (by omega)]; omega
      have el : (rws (List.replicate j (zrow size))).length = j := by simp [rws]
      unfold dkM
      first | (have FRx := FR; clear FRx) | (have FR : Sm (¬ ((1 : Nat) = 0)) := Sm.mk Nat.one_ne_zero)
      repeat' first
        | (refine Sm.mk ?_; try simp -dsimp only [ZK, rvc, drawF, headN, pureH, stp, dvc, calleeOf, gcall, pev, eff, newB, okd, og, ogs, ogo, ogp, slv, bltv, opd, litv, strip, one, both, putE, St.put, look, gdOf, gdv, picka, pickv, pickw, binv, bini, bins, binb, binp, binq, isSlT, bina, shp, eqCells, unv, convv, nilv, faddv, addp, idxav, idxp, load1, load1m, loadn, loadnm, loadv, hget, hset, hrep, hdel, slicev, bnd, shift1, lenv, capv, IntKind.bits, extractv, fieldv, indexv, min2v, max2v, mkiv, cellsA, fillA, buildv, stC, oneC, rowMB, intsA, plN, appE, appZ, appC, appNZ, appNC, VwL, srcC, srcZ, srcM, isBoolT, isPtrT, isSliceT, uOk, Value.oneCell', Nat.reducePow, Int.reducePow, Nat.reduceAdd, Nat.reduceMul, Nat.reduceSub, Nat.reduceLT, Nat.reduceLeDiff, Nat.reduceEqDiff, Nat.reduceBEq, Nat.reduceDiv, Nat.reduceMod, ↓reduceIte, reduceCtorEq, Int.reduceToNat, Int.reduceLT, Int.reduceLE, drawNF, drawNF1, drawNTF, nvc, xst, chF, chS, mkV, splitH, calleeV, putE, hdel, TFBlE, SeqQ, BlkQ, LoopQ, BodyQ, k1, el, FR.out])
        | (refine WP.seq fun K hK => ?_)
        | ((fail_if_success (show WP _ _ _ (.region 7 _ _) _ _)); refine WP.region (rvc_sound _ _ (Sm.out ?_)))
        | ((fail_if_success (show WP _ _ _ (.region 7 _ _) _ _)); refine WP.drawN1 (cs := [6,7]) (k := 8) (bs := []) mixed (by decide +kernel) (by decide +kernel) (by decide +kernel) (by decide +kernel) (by decide +kernel) (by decide +kernel) (by decide +kernel) (Sm.out ?_))
        | ((fail_if_success (show WP _ _ _ (.region 7 _ _) _ _)); refine WP.drawK rfl mixed (by decide +kernel) (Sm.out ?_))
        | (refine Ob.mk ?_; focus (first | assumption | omega | decide | trivial | (intro hob; simp only [hob, ZF]; done) | (intros; (repeat' refine And.intro ?_ ?_) <;> first | assumption | omega | trivial | decide) | (intros; simp only [ZE] at *; (repeat' refine And.intro ?_ ?_) <;> first | assumption | omega | trivial)))
        | (refine And.intro (Ob.out ?_) ?_)
        | (refine WP.block ?_)
        | (refine WP.cond rfl (fun hc => ?_) (fun hc => ?_) <;> (try simp only [ZC, reduceCtorEq, ZD] at hc) <;> (try (exact absurd hc (by decide))) <;> (try (exfalso; omega)))
        | ((first | refine WP.skip ?_ | refine WP.exit ?_); simp only [SeqQ, BlkQ, LoopQ, BodyQ, ↓reduceIte, Nat.reduceEqDiff, reduceCtorEq, look, true_and])
        | (refine WP.ret (Sm.out ?_))
        | (first | refine ExG.no (Sm.out ?_) | refine Or.inl (ExG.no (Sm.out ?_)) | refine Or.inl (And.intro (fun hg => absurd hg (by decide)) (ExG.no (Sm.out ?_))))
        | (refine Rt.mk ?_; refine And.intro ?_ ?_ <;> (intro hg; first | exact absurd hg (by decide) | refine Sm.out ?_))
        | (refine Nu.mk ?_; first | (fail_if_success (have := nb1)); intro nb1 | (fail_if_success (have := nb2)); intro nb2 | (fail_if_success (have := nb3)); intro nb3 | (fail_if_success (have := nb4)); intro nb4 | (fail_if_success (have := nb5)); intro nb5 | (fail_if_success (have := nb6)); intro nb6 | (fail_if_success (have := nb7)); intro nb7 | (fail_if_success (have := nb8)); intro nb8 | (fail_if_success (have := nb9)); intro nb9 | (fail_if_success (have := nb10)); intro nb10 | (fail_if_success (have := nb11)); intro nb11 | (fail_if_success (have := nb12)); intro nb12 | intro nbz)
        | (refine Fr.mk ?_; intro hfr; (first | (have hFRb : _ ≤ _ ∧ _ ≤ _ := And.intro hfr.1 hfr.2.1) | (have hFRb : _ ≤ _ := hfr.1) | skip); replace FR := Sm.mk (And.intro hfr FR.out); clear hfr; refine Sm.out ?_)
        | (refine Two.mk ?_ ?_)
        | (refine Cs.mk ?_; intro hcs; first | exact False.elim hcs | (exfalso; omega) | (refine Sm.out ?_))
        | go_step
        | omega
        | (simp only [maxLen_eq]; omega)
      have ef : (rws (List.replicate j (zrow size))).map (frz nb2 .u8 (List.replicate size 0)) = rws (List.replicate j (zrow size)) := by simp [rws, frz]
      (refine WP.wk (Wk.freezeH (nb2) (by simp only [ZK, rvc, drawF, headN, pureH, stp, dvc, calleeOf, gcall, pev, eff, newB, okd, og, ogs, ogo, ogp, slv, bltv, opd, litv, strip, one, both, putE, St.put, look, gdOf, gdv, picka, pickv, pickw, binv, bini, bins, binb, binp, binq, isSlT, bina, shp, eqCells, unv, convv, nilv, faddv, addp, idxav, idxp, load1, load1m, loadn, loadnm, loadv, hget, hset, hrep, hdel, slicev, bnd, shift1, lenv, capv, IntKind.bits, extractv, fieldv, indexv, min2v, max2v, mkiv, cellsA, fillA, buildv, stC, oneC, rowMB, intsA, plN, appE, appZ, appC, appNZ, appNC, VwL, srcC, srcZ, srcM, isBoolT, isPtrT, isSliceT, uOk, Value.oneCell', Nat.reducePow, Int.reducePow, Nat.reduceAdd, Nat.reduceMul, Nat.reduceSub, Nat.reduceLT, Nat.reduceLeDiff, Nat.reduceEqDiff, Nat.reduceBEq, Nat.reduceDiv, Nat.reduceMod, ↓reduceIte, reduceCtorEq, Int.reduceToNat, Int.reduceLT, Int.reduceLE, drawNF, drawNF1, drawNTF, nvc, xst, chF, chS, mkV, splitH, calleeV, putE, hdel, TFBlE, SeqQ, BlkQ, LoopQ, BodyQ, hsz, tz, ef, FR.out]; first | done | rfl)) ?_; simp only [frzE, frzH, frzM, frzL, frz, hdel, List.map_cons, List.map_nil, List.map_append, ZK, rvc, drawF, headN, pureH, stp, dvc, calleeOf, gcall, pev, eff, newB, okd, og, ogs, ogo, ogp, slv, bltv, opd, litv, strip, one, both, putE, St.put, look, gdOf, gdv, picka, pickv, pickw, binv, bini, bins, binb, binp, binq, isSlT, bina, shp, eqCells, unv, convv, nilv, faddv, addp, idxav, idxp, load1, load1m, loadn, loadnm, loadv, hget, hset, hrep, hdel, slicev, bnd, shift1, lenv, capv, IntKind.bits, extractv, fieldv, indexv, min2v, max2v, mkiv, cellsA, fillA, buildv, stC, oneC, rowMB, intsA, plN, appE, appZ, appC, appNZ, appNC, VwL, srcC, srcZ, srcM, isBoolT, isPtrT, isSliceT, uOk, Value.oneCell', Nat.reducePow, Int.reducePow, Nat.reduceAdd, Nat.reduceMul, Nat.reduceSub, Nat.reduceLT, Nat.reduceLeDiff, Nat.reduceEqDiff, Nat.reduceBEq, Nat.reduceDiv, Nat.reduceMod, ↓reduceIte, reduceCtorEq, Int.reduceToNat, Int.reduceLT, Int.reduceLE, drawNF, drawNF1, drawNTF, nvc, xst, chF, chS, mkV, splitH, calleeV, putE, hdel, TFBlE, SeqQ, BlkQ, LoopQ, BodyQ, hsz, tz, ef, FR.out])
      have er : rws (List.replicate j (zrow size)) ++ [AV.slz .u8 (List.replicate size 0)] = rws (List.replicate (j + 1) (zrow size)) := by rw [List.replicate_succ']; simp [rws, zrow]
      first | (have FRx := FR; clear FRx) | (have FR : Sm (¬ ((1 : Nat) = 0)) := Sm.mk Nat.one_ne_zero)
      repeat' first
        | (refine Sm.mk ?_; try simp -dsimp only [ZK, rvc, drawF, headN, pureH, stp, dvc, calleeOf, gcall, pev, eff, newB, okd, og, ogs, ogo, ogp, slv, bltv, opd, litv, strip, one, both, putE, St.put, look, gdOf, gdv, picka, pickv, pickw, binv, bini, bins, binb, binp, binq, isSlT, bina, shp, eqCells, unv, convv, nilv, faddv, addp, idxav, idxp, load1, load1m, loadn, loadnm, loadv, hget, hset, hrep, hdel, slicev, bnd, shift1, lenv, capv, IntKind.bits, extractv, fieldv, indexv, min2v, max2v, mkiv, cellsA, fillA, buildv, stC, oneC, rowMB, intsA, plN, appE, appZ, appC, appNZ, appNC, VwL, srcC, srcZ, srcM, isBoolT, isPtrT, isSliceT, uOk, Value.oneCell', Nat.reducePow, Int.reducePow, Nat.reduceAdd, Nat.reduceMul, Nat.reduceSub, Nat.reduceLT, Nat.reduceLeDiff, Nat.reduceEqDiff, Nat.reduceBEq, Nat.reduceDiv, Nat.reduceMod, ↓reduceIte, reduceCtorEq, Int.reduceToNat, Int.reduceLT, Int.reduceLE, drawNF, drawNF1, drawNTF, nvc, xst, chF, chS, mkV, splitH, calleeV, putE, hdel, TFBlE, SeqQ, BlkQ, LoopQ, BodyQ, w1, FR.out])
        | (refine WP.seq fun K hK => ?_)
        | (refine WP.region (rvc_sound _ _ (Sm.out ?_)))
        | (refine WP.drawN1 (cs := [6,7]) (k := 8) (bs := []) mixed (by decide +kernel) (by decide +kernel) (by decide +kernel) (by decide +kernel) (by decide +kernel) (by decide +kernel) (by decide +kernel) (Sm.out ?_))
        | (refine WP.drawK rfl mixed (by decide +kernel) (Sm.out ?_))
        | (refine Ob.mk ?_; focus (first | assumption | omega | decide | trivial | (intro hob; simp only [hob, ZF]; done) | (intros; (repeat' refine And.intro ?_ ?_) <;> first | assumption | omega | trivial | decide) | (intros; simp only [ZE] at *; (repeat' refine And.intro ?_ ?_) <;> first | assumption | omega | trivial)))
        | (refine And.intro (Ob.out ?_) ?_)
        | (refine WP.block ?_)
        | (refine WP.cond rfl (fun hc => ?_) (fun hc => ?_) <;> (try simp only [ZC, reduceCtorEq, ZD] at hc) <;> (try (exact absurd hc (by decide))) <;> (try (exfalso; omega)))
        | ((first | refine WP.skip ?_ | refine WP.exit ?_); simp only [SeqQ, BlkQ, LoopQ, BodyQ, ↓reduceIte, Nat.reduceEqDiff, reduceCtorEq, look, true_and])
        | (refine WP.ret (Sm.out ?_))
        | (first | refine ExG.no (Sm.out ?_) | refine Or.inl (ExG.no (Sm.out ?_)) | refine Or.inl (And.intro (fun hg => absurd hg (by decide)) (ExG.no (Sm.out ?_))))
        | (refine Rt.mk ?_; refine And.intro ?_ ?_ <;> (intro hg; first | exact absurd hg (by decide) | refine Sm.out ?_))
        | (refine Nu.mk ?_; first | (fail_if_success (have := nb1)); intro nb1 | (fail_if_success (have := nb2)); intro nb2 | (fail_if_success (have := nb3)); intro nb3 | (fail_if_success (have := nb4)); intro nb4 | (fail_if_success (have := nb5)); intro nb5 | (fail_if_success (have := nb6)); intro nb6 | (fail_if_success (have := nb7)); intro nb7 | (fail_if_success (have := nb8)); intro nb8 | (fail_if_success (have := nb9)); intro nb9 | (fail_if_success (have := nb10)); intro nb10 | (fail_if_success (have := nb11)); intro nb11 | (fail_if_success (have := nb12)); intro nb12 | intro nbz)
        | (refine Fr.mk ?_; intro hfr; (first | (have hFRb : _ ≤ _ ∧ _ ≤ _ := And.intro hfr.1 hfr.2.1) | (have hFRb : _ ≤ _ := hfr.1) | skip); replace FR := Sm.mk (And.intro hfr FR.out); clear hfr; refine Sm.out ?_)
        | (refine Two.mk ?_ ?_)
        | (refine Cs.mk ?_; intro hcs; first | exact False.elim hcs | (exfalso; omega) | (refine Sm.out ?_))
        | go_step
        | omega
        | (simp only [maxLen_eq]; omega)
      exact ⟨some ⟨nb4, nb5, j + 1⟩, ⟨by simp only; omega, by simp only; omega, hFRb⟩, by simp only; omega, (Sub.pick (by simp [pickB, hget, hdel, FR.out, dkM, w1, er]) (by simp [look, dkM, w1, er]))⟩
    · obtain rfl : j = n := by omega
      have k1 : decide ((j : Int) < (j : Int)) = false := by simp
      have cC := clone_ct l c j (List.replicate j (zrow size)) (by simp) q1 (by omega) q3
      unfold dkM
      first | (have FRx := FR; clear FRx) | (have FR : Sm (¬ ((1 : Nat) = 0)) := Sm.mk Nat.one_ne_zero)
      repeat' first
        | (refine Sm.mk ?_; try simp -dsimp only [ZK, rvc, drawF, headN, pureH, stp, dvc, calleeOf, gcall, pev, eff, newB, okd, og, ogs, ogo, ogp, slv, bltv, opd, litv, strip, one, both, putE, St.put, look, gdOf, gdv, picka, pickv, pickw, binv, bini, bins, binb, binp, binq, isSlT, bina, shp, eqCells, unv, convv, nilv, faddv, addp, idxav, idxp, load1, load1m, loadn, loadnm, loadv, hget, hset, hrep, hdel, slicev, bnd, shift1, lenv, capv, IntKind.bits, extractv, fieldv, indexv, min2v, max2v, mkiv, cellsA, fillA, buildv, stC, oneC, rowMB, intsA, plN, appE, appZ, appC, appNZ, appNC, VwL, srcC, srcZ, srcM, isBoolT, isPtrT, isSliceT, uOk, Value.oneCell', Nat.reducePow, Int.reducePow, Nat.reduceAdd, Nat.reduceMul, Nat.reduceSub, Nat.reduceLT, Nat.reduceLeDiff, Nat.reduceEqDiff, Nat.reduceBEq, Nat.reduceDiv, Nat.reduceMod, ↓reduceIte, reduceCtorEq, Int.reduceToNat, Int.reduceLT, Int.reduceLE, drawNF, drawNF1, drawNTF, nvc, xst, chF, chS, mkV, splitH, calleeV, putE, hdel, TFBlE, SeqQ, BlkQ, LoopQ, BodyQ, k1, FR.out])
        | (refine CallV.newC (cC) (perm1 (by simp only [hget, hdel, ↓reduceIte, FR.out, k1]; first | done | rfl)) (fun _ _ => rfl) (Sm.out ?_))
        | (refine WP.seq fun K hK => ?_)
        | (refine WP.region (rvc_sound _ _ (Sm.out ?_)))
        | (refine WP.drawN1 (cs := [6,7]) (k := 8) (bs := []) mixed (by decide +kernel) (by decide +kernel) (by decide +kernel) (by decide +kernel) (by decide +kernel) (by decide +kernel) (by decide +kernel) (Sm.out ?_))
        | (refine WP.drawK rfl mixed (by decide +kernel) (Sm.out ?_))
        | (refine Ob.mk ?_; focus (first | assumption | omega | decide | trivial | (intro hob; simp only [hob, ZF]; done) | (intros; (repeat' refine And.intro ?_ ?_) <;> first | assumption | omega | trivial | decide) | (intros; simp only [ZE] at *; (repeat' refine And.intro ?_ ?_) <;> first | assumption | omega | trivial)))
        | (refine And.intro (Ob.out ?_) ?_)
        | (refine WP.block ?_)
        | (refine WP.cond rfl (fun hc => ?_) (fun hc => ?_) <;> (try simp only [ZC, reduceCtorEq, ZD] at hc) <;> (try (exact absurd hc (by decide))) <;> (try (exfalso; omega)))
        | ((first | refine WP.skip ?_ | refine WP.exit ?_); simp only [SeqQ, BlkQ, LoopQ, BodyQ, ↓reduceIte, Nat.reduceEqDiff, reduceCtorEq, look, true_and])
        | (refine WP.ret (Sm.out ?_))
        | (first | refine ExG.no (Sm.out ?_) | refine Or.inl (ExG.no (Sm.out ?_)) | refine Or.inl (And.intro (fun hg => absurd hg (by decide)) (ExG.no (Sm.out ?_))))
        | (refine Rt.mk ?_; refine And.intro ?_ ?_ <;> (intro hg; first | exact absurd hg (by decide) | refine Sm.out ?_))
        | (refine Nu.mk ?_; first | (fail_if_success (have := nb1)); intro nb1 | (fail_if_success (have := nb2)); intro nb2 | (fail_if_success (have := nb3)); intro nb3 | (fail_if_success (have := nb4)); intro nb4 | (fail_if_success (have := nb5)); intro nb5 | (fail_if_success (have := nb6)); intro nb6 | (fail_if_success (have := nb7)); intro nb7 | (fail_if_success (have := nb8)); intro nb8 | (fail_if_success (have := nb9)); intro nb9 | (fail_if_success (have := nb10)); intro nb10 | (fail_if_success (have := nb11)); intro nb11 | (fail_if_success (have := nb12)); intro nb12 | intro nbz)
        | (refine Fr.mk ?_; intro hfr; (first | (have hFRb : _ ≤ _ ∧ _ ≤ _ := And.intro hfr.1 hfr.2.1) | (have hFRb : _ ≤ _ := hfr.1) | skip); replace FR := Sm.mk (And.intro hfr FR.out); clear hfr; refine Sm.out ?_)
        | (refine Two.mk ?_ ?_)
        | (refine Cs.mk ?_; intro hcs; first | exact False.elim hcs | (exfalso; omega) | (refine Sm.out ?_))
        | go_step
        | omega
        | (simp only [maxLen_eq]; omega)
      (refine OutQ.drop _ _ (perm3 (by simp only [hget, hdel, ↓reduceIte, if_true, if_false, FR.out, nl, dkM]; first | done | rfl) (by simp only [hget, hdel, ↓reduceIte, if_true, if_false, FR.out, nl, dkM]; first | done | rfl) (by simp only [hget, hdel, ↓reduceIte, if_true, if_false, FR.out, nl, dkM]; first | done | rfl)) (by simp only [resv, ZK, look, loadv, loadn, loadnm, load1, load1m, hget, ↓reduceIte, Nat.reduceEqDiff, Nat.reduceAdd, Nat.reduceMul, Nat.reduceLeDiff, Nat.reduceLT, reduceCtorEq, TFBlE, FR.out, nl, dkM]) ⟨⟨⟨nb1, l, c⟩, nb2, nb3⟩, ⟨q3, hFRb⟩, (by simp only [resv, resA, ZK, look, loadv, loadn, loadnm, load1, load1m, hget, ↓reduceIte, Nat.reduceEqDiff, Nat.reduceAdd, Nat.reduceMul, Nat.reduceLeDiff, Nat.reduceLT, reduceCtorEq, TFBlE, FR.out, nl, dkM]; first | done | rfl), rfl⟩)
end Go.Proofs.Ytnhkohgamnchlaa
