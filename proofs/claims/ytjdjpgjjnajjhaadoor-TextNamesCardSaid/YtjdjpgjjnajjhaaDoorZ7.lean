/-
  The walks and the laws that the statement leans on, part 7.
-/
import Derived.Test.YtjdjpgjjnajjhaaDoorZ6
namespace Go.Proofs.YtjdjpgjjnajjhaaDoor
open Go
set_option linter.unusedVariables false
set_option linter.unusedSimpArgs false
theorem TFTxI : (((((type_of% tyc0) ∧ ((type_of% tyc3) ∧ (type_of% zmb3))) ∧ (((type_of% tyc4) ∧ (type_of% zmb4)) ∧ ((type_of% tyc9) ∧ (type_of% zmb9)))) ∧ (((type_of% tyc21) ∧ ((type_of% zmb21) ∧ (type_of% tyc32))) ∧ (((type_of% zmb32) ∧ (type_of% tyc33)) ∧ ((type_of% tyc38) ∧ (type_of% foff38_0))))) ∧ ((((type_of% fpart38_0) ∧ ((type_of% foff38_1) ∧ (type_of% fpart38_1))) ∧ (((type_of% zmb38) ∧ (type_of% bldT38)) ∧ ((type_of% tyc41) ∧ (type_of% Tryd.underlying0)))) ∧ ((((type_of% Tryd.underlying3) ∧ (type_of% Tryd.underlying4)) ∧ ((type_of% Tryd.underlying9) ∧ (type_of% Tryd.underlying21))) ∧ (((type_of% Tryd.underlying32) ∧ (type_of% Tryd.underlying33)) ∧ ((type_of% Tryd.underlying38) ∧ (type_of% Tryd.underlying41)))))) :=
  ⟨⟨⟨⟨tyc0, ⟨tyc3, zmb3⟩⟩, ⟨⟨tyc4, zmb4⟩, ⟨tyc9, zmb9⟩⟩⟩, ⟨⟨tyc21, ⟨zmb21, tyc32⟩⟩, ⟨⟨zmb32, tyc33⟩, ⟨tyc38, foff38_0⟩⟩⟩⟩, ⟨⟨⟨fpart38_0, ⟨foff38_1, fpart38_1⟩⟩, ⟨⟨zmb38, bldT38⟩, ⟨tyc41, Tryd.underlying0⟩⟩⟩, ⟨⟨⟨Tryd.underlying3, Tryd.underlying4⟩, ⟨Tryd.underlying9, Tryd.underlying21⟩⟩, ⟨⟨Tryd.underlying32, Tryd.underlying33⟩, ⟨Tryd.underlying38, Tryd.underlying41⟩⟩⟩⟩⟩
abbrev exT : List Int := [97, 34, 98]
/-- what is written so far -/
def exA : Nat → List Int
  | 0 => [34]
  | 1 => [34, 97]
  | 2 => [34, 97, 92, 34]
  | _ => [34, 97, 92, 34, 98]
structure QuG where
  i : Nat
  q : BQ
set_option maxHeartbeats 4000000 in
theorem quote_ct : ACt Tryd.prog 18 [stz exT] [] (Fn (.tup [stz [34, 97, 92, 34, 98, 34], iv .i64 0])) := by
  have bE : By exT := by unfold By; decide +kernel
  have zE : ∀ j, j < exT.length → exT.getD j 0 < 128 := by decide +kernel
  have cG := good_ct exT bE zE (by decide)
  have cC := count_ct exT bE zE (by decide)
  rw [show ((exT.length : Nat) : Int) = 3 from rfl] at cC
  have d0 : Utf8.decode (bstr exT) 0 = (97, 1) := by decide +kernel
  have d1 : Utf8.decode (bstr exT) 1 = (34, 1) := by decide +kernel
  have d2 : Utf8.decode (bstr exT) 2 = (98, 1) := by decide +kernel
  have hs : (bstr exT).size = 3 := rfl
  obtain ⟨B, hB⟩ : ∃ B, B = bstr exT := ⟨_, rfl⟩
  unfold stz at cG cC
  unfold stz
  rw [← hB] at cG cC d0 d1 d2 hs ⊢
  have eM := esc_mark
  have eA := esc_plain 97 (.inl rfl)
  have eB := esc_plain 98 (.inr rfl)
  have hne : ((bstr [92, 34]).toList == (⟨#[]⟩ : ByteArray).toList) = false := by
    have := str_eq [92, 34] [] (by unfold By; decide +kernel) (fun i hi => absurd hi (Nat.not_lt_zero _))
    rw [decide_eq_false (by simp)] at this
    exact this
  obtain ⟨M, hM⟩ : ∃ M, M = bstr [92, 34] := ⟨_, rfl⟩
  unfold stz at eM
  rw [← hM] at eM hne
  have hne2 : (M.toList != (⟨#[]⟩ : ByteArray).toList) = true := by simp only [bne, hne]; rfl
  have y1 : ∀ x : List UInt8, (x == x) = true := fun x => beq_self_eq_true x
  have y3 : ∀ x : List UInt8, (x != x) = false := fun x => by simp
  have cV0 := fun b => wr_b (b := b) (zs := []) (q := ⟨0, 0⟩) (fun h => absurd rfl h) (by simp) 34 (by omega)
  refine ACt.intro Tryd.func18 rfl (by kernel_rfl) (by simp [Tryd.ntmps18]) (fun cx => ?_)
  simp only [argE, Tryd.ntmps18, Tryd.results18]
  have k3 : decide ((3 : Int) > 120) = false := by decide
  first | (have FRx := FR; clear FRx) | (have FR : Sm (¬ ((1 : Nat) = 0)) := Sm.mk Nat.one_ne_zero)
  repeat' first
    | (refine Sm.mk ?_; try simp -dsimp only [ZK, rvc, drawF, headN, pureH, stp, dvc, calleeOf, gcall, pev, eff, newB, okd, og, ogs, ogo, ogp, slv, bltv, opd, litv, strip, one, both, putE, St.put, look, gdOf, gdv, picka, pickv, pickw, binv, bini, bins, binb, binp, binq, isSlT, bina, shp, eqCells, unv, convv, nilv, faddv, addp, idxav, idxp, load1, load1m, loadn, loadnm, loadv, hget, hset, hrep, hdel, slicev, bnd, shift1, lenv, capv, IntKind.bits, extractv, fieldv, indexv, min2v, max2v, mkiv, cellsA, fillA, buildv, stC, oneC, rowMB, intsA, plN, appE, appZ, appC, appNZ, appNC, VwL, srcC, srcZ, srcM, isBoolT, isPtrT, isSliceT, uOk, Value.oneCell', Nat.reducePow, Int.reducePow, Nat.reduceAdd, Nat.reduceMul, Nat.reduceSub, Nat.reduceLT, Nat.reduceLeDiff, Nat.reduceEqDiff, Nat.reduceBEq, Nat.reduceDiv, Nat.reduceMod, ↓reduceIte, reduceCtorEq, Int.reduceToNat, Int.reduceLT, Int.reduceLE, TFTxI, SeqQ, BlkQ, LoopQ, BodyQ, hs, k3, List.append_nil, FR.out])
    | (first | refine CallV.fn (cG) (Sm.out ?_) | refine ExF.mk (cG) (Sm.out ?_) | refine ExG.mk (fun _ => cG) (Sm.out ?_) | refine ExG.mkJ (fun _ => cG) (Sm.out ?_) | refine ExG.mkI (Ob.out ?_) (fun _ => cG) (Sm.out ?_))
    | (first | refine CallV.fn (cC) (Sm.out ?_) | refine ExF.mk (cC) (Sm.out ?_) | refine ExG.mk (fun _ => cC) (Sm.out ?_) | refine ExG.mkJ (fun _ => cC) (Sm.out ?_) | refine ExG.mkI (Ob.out ?_) (fun _ => cC) (Sm.out ?_))
    | (refine CallV.exM (cV0 _) (pmz _) (fun g => Sm.out ?_))
    | (refine WP.seq fun K hK => ?_)
    | (refine WP.region (rvc_sound _ _ (Sm.out ?_)))
    | (refine WP.drawK rfl mixed (by decide +kernel) (Sm.out ?_))
    | (refine Ob.mk ?_; focus (first | assumption | omega | decide | trivial | (intro hob; simp only [hob, ZF]; done) | (intros; (repeat' refine And.intro ?_ ?_) <;> first | assumption | omega | trivial | decide) | (intros; simp only [ZE] at *; (repeat' refine And.intro ?_ ?_) <;> first | assumption | omega | trivial)))
    | (refine And.intro (Ob.out ?_) ?_)
    | (refine WP.block ?_)
    | (refine WP.cond rfl (fun hc => ?_) (fun hc => ?_) <;> (try simp only [ZC, reduceCtorEq, ZD] at hc) <;> (try (exact absurd hc (by decide))) <;> (try (exfalso; omega)))
    | ((first | refine WP.skip ?_ | refine WP.exit ?_); simp only [SeqQ, BlkQ, LoopQ, BodyQ, ↓reduceIte, Nat.reduceEqDiff, reduceCtorEq, look, true_and])
    | (refine WP.ret (Sm.out ?_))
    | (first | refine ExG.no (Sm.out ?_) | refine Or.inl (ExG.no (Sm.out ?_)) | refine Or.inl (And.intro (fun hg => absurd hg (by decide)) (ExG.no (Sm.out ?_))))
    | (refine Rt.mk ?_; refine And.intro ?_ ?_ <;> (intro hg; first | exact absurd hg (by decide) | refine Sm.out ?_))
    | (refine Nu.mk ?_; first | (fail_if_success (have := nb1)); intro nb1 | (fail_if_success (have := nb2)); intro nb2 | (fail_if_success (have := nb3)); intro nb3 | (fail_if_success (have := nb4)); intro nb4 | intro nbz)
    | (refine Fr.mk ?_; intro hfr; (first | (have hFRb : _ ≤ _ ∧ _ ≤ _ := And.intro hfr.1 hfr.2.1) | (have hFRb : _ ≤ _ := hfr.1) | skip); replace FR := Sm.mk (And.intro hfr FR.out); clear hfr; refine Sm.out ?_)
    | (refine Two.mk ?_ ?_)
    | (refine Cs.mk ?_; intro hcs; first | exact False.elim hcs | (exfalso; omega) | (refine Sm.out ?_))
    | go_step
    | omega
    | (simp only [maxLen_eq]; omega)
  refine WP.loop (Γ := QuG) (fun t => ⟨[(18, pt nb2 0), (4, pt nb1 0)], (nb2, .obj (.stringIter B t.i)) :: bH nb1 (exA t.i) t.q⟩) (fun t => t.i ≤ 3 ∧ bOk nb1 (exA t.i) t.q) (fun t => 3 - t.i) ⟨0, g.1⟩ ⟨by simp, g.2⟩ (Sub.of_env [] (pmz _) (by simp [look])) ?_
  intro ⟨i, q⟩ ⟨hi, hq⟩
  simp only at hi hq ⊢
  have FR : Sm (¬ ((1 : Nat) = 0)) := Sm.mk Nat.one_ne_zero
  rcases (by omega : i = 0 ∨ i = 1 ∨ i = 2 ∨ i = 3) with rfl | rfl | rfl | rfl
  · have cV := liftB [(nb2, .obj (.stringIter B 1))] (wr_b hq (by decide) 97 (by omega))
    first | (have FRx := FR; clear FRx) | (have FR : Sm (¬ ((1 : Nat) = 0)) := Sm.mk Nat.one_ne_zero)
    repeat' first
      | (refine Sm.mk ?_; try simp -dsimp only [ZK, rvc, drawF, headN, pureH, stp, dvc, calleeOf, gcall, pev, eff, newB, okd, og, ogs, ogo, ogp, slv, bltv, opd, litv, strip, one, both, putE, St.put, look, gdOf, gdv, picka, pickv, pickw, binv, bini, bins, binb, binp, binq, isSlT, bina, shp, eqCells, unv, convv, nilv, faddv, addp, idxav, idxp, load1, load1m, loadn, loadnm, loadv, hget, hset, hrep, hdel, slicev, bnd, shift1, lenv, capv, IntKind.bits, extractv, fieldv, indexv, min2v, max2v, mkiv, cellsA, fillA, buildv, stC, oneC, rowMB, intsA, plN, appE, appZ, appC, appNZ, appNC, VwL, srcC, srcZ, srcM, isBoolT, isPtrT, isSliceT, uOk, Value.oneCell', Nat.reducePow, Int.reducePow, Nat.reduceAdd, Nat.reduceMul, Nat.reduceSub, Nat.reduceLT, Nat.reduceLeDiff, Nat.reduceEqDiff, Nat.reduceBEq, Nat.reduceDiv, Nat.reduceMod, ↓reduceIte, reduceCtorEq, Int.reduceToNat, Int.reduceLT, Int.reduceLE, TFTxI, SeqQ, BlkQ, LoopQ, BodyQ, hs, d0, y3, List.append_nil, List.cons_append, List.nil_append, FR.out])
      | (first | refine CallV.fn (eA) (Sm.out ?_) | refine ExF.mk (eA) (Sm.out ?_) | refine ExG.mk (fun _ => eA) (Sm.out ?_) | refine ExG.mkJ (fun _ => eA) (Sm.out ?_) | refine ExG.mkI (Ob.out ?_) (fun _ => eA) (Sm.out ?_))
      | (refine CallV.exM (cV) (pmz _) (fun h => Sm.out ?_))
      | (refine WP.seq fun K hK => ?_)
      | (refine WP.region (rvc_sound _ _ (Sm.out ?_)))
      | (refine WP.drawK rfl mixed (by decide +kernel) (Sm.out ?_))
      | (refine Ob.mk ?_; focus (first | assumption | omega | decide | trivial | (intro hob; simp only [hob, ZF]; done) | (intros; (repeat' refine And.intro ?_ ?_) <;> first | assumption | omega | trivial | decide) | (intros; simp only [ZE] at *; (repeat' refine And.intro ?_ ?_) <;> first | assumption | omega | trivial)))
      | (refine And.intro (Ob.out ?_) ?_)
      | (refine WP.block ?_)
      | (refine WP.cond rfl (fun hc => ?_) (fun hc => ?_) <;> (try simp only [ZC, reduceCtorEq, ZD] at hc) <;> (try (exact absurd hc (by decide))) <;> (try (exfalso; omega)))
      | ((first | refine WP.skip ?_ | refine WP.exit ?_); simp only [SeqQ, BlkQ, LoopQ, BodyQ, ↓reduceIte, Nat.reduceEqDiff, reduceCtorEq, look, true_and])
      | (refine WP.ret (Sm.out ?_))
      | (first | refine ExG.no (Sm.out ?_) | refine Or.inl (ExG.no (Sm.out ?_)) | refine Or.inl (And.intro (fun hg => absurd hg (by decide)) (ExG.no (Sm.out ?_))))
      | (refine Rt.mk ?_; refine And.intro ?_ ?_ <;> (intro hg; first | exact absurd hg (by decide) | refine Sm.out ?_))
      | (refine Nu.mk ?_; first | (fail_if_success (have := nb1)); intro nb1 | (fail_if_success (have := nb2)); intro nb2 | (fail_if_success (have := nb3)); intro nb3 | (fail_if_success (have := nb4)); intro nb4 | intro nbz)
      | (refine Fr.mk ?_; intro hfr; (first | (have hFRb : _ ≤ _ ∧ _ ≤ _ := And.intro hfr.1 hfr.2.1) | (have hFRb : _ ≤ _ := hfr.1) | skip); replace FR := Sm.mk (And.intro hfr FR.out); clear hfr; refine Sm.out ?_)
      | (refine Two.mk ?_ ?_)
      | (refine Cs.mk ?_; intro hcs; first | exact False.elim hcs | (exfalso; omega) | (refine Sm.out ?_))
      | go_step
      | omega
      | (simp only [maxLen_eq]; omega)
    exact ⟨⟨1, h.1⟩, ⟨by simp, h.2⟩, by simp, Sub.of_env [] (pmz _) (by simp [look])⟩
  · have cW := liftB [(nb2, .obj (.stringIter B 2))] (ws_b hq (by decide) [92, 34] (by unfold By; decide +kernel) (by decide) (by decide))
    unfold stz at cW
    rw [← hM] at cW
    first | (have FRx := FR; clear FRx) | (have FR : Sm (¬ ((1 : Nat) = 0)) := Sm.mk Nat.one_ne_zero)
    repeat' first
      | (refine Sm.mk ?_; try simp -dsimp only [ZK, rvc, drawF, headN, pureH, stp, dvc, calleeOf, gcall, pev, eff, newB, okd, og, ogs, ogo, ogp, slv, bltv, opd, litv, strip, one, both, putE, St.put, look, gdOf, gdv, picka, pickv, pickw, binv, bini, bins, binb, binp, binq, isSlT, bina, shp, eqCells, unv, convv, nilv, faddv, addp, idxav, idxp, load1, load1m, loadn, loadnm, loadv, hget, hset, hrep, hdel, slicev, bnd, shift1, lenv, capv, IntKind.bits, extractv, fieldv, indexv, min2v, max2v, mkiv, cellsA, fillA, buildv, stC, oneC, rowMB, intsA, plN, appE, appZ, appC, appNZ, appNC, VwL, srcC, srcZ, srcM, isBoolT, isPtrT, isSliceT, uOk, Value.oneCell', Nat.reducePow, Int.reducePow, Nat.reduceAdd, Nat.reduceMul, Nat.reduceSub, Nat.reduceLT, Nat.reduceLeDiff, Nat.reduceEqDiff, Nat.reduceBEq, Nat.reduceDiv, Nat.reduceMod, ↓reduceIte, reduceCtorEq, Int.reduceToNat, Int.reduceLT, Int.reduceLE, TFTxI, SeqQ, BlkQ, LoopQ, BodyQ, hs, d1, hne, hne2, List.append_nil, List.cons_append, List.nil_append, FR.out])
      | (first | refine CallV.fn (eM) (Sm.out ?_) | refine ExF.mk (eM) (Sm.out ?_) | refine ExG.mk (fun _ => eM) (Sm.out ?_) | refine ExG.mkJ (fun _ => eM) (Sm.out ?_) | refine ExG.mkI (Ob.out ?_) (fun _ => eM) (Sm.out ?_))
      | (refine CallV.exM (cW) (pmz _) (fun h => Sm.out ?_))
      | (refine WP.seq fun K hK => ?_)
      | (refine WP.region (rvc_sound _ _ (Sm.out ?_)))
      | (refine WP.drawK rfl mixed (by decide +kernel) (Sm.out ?_))
      | (refine Ob.mk ?_; focus (first | assumption | omega | decide | trivial | (intro hob; simp only [hob, ZF]; done) | (intros; (repeat' refine And.intro ?_ ?_) <;> first | assumption | omega | trivial | decide) | (intros; simp only [ZE] at *; (repeat' refine And.intro ?_ ?_) <;> first | assumption | omega | trivial)))
      | (refine And.intro (Ob.out ?_) ?_)
      | (refine WP.block ?_)
      | (refine WP.cond rfl (fun hc => ?_) (fun hc => ?_) <;> (try simp only [ZC, reduceCtorEq, ZD] at hc) <;> (try (exact absurd hc (by decide))) <;> (try (exfalso; omega)))
      | ((first | refine WP.skip ?_ | refine WP.exit ?_); simp only [SeqQ, BlkQ, LoopQ, BodyQ, ↓reduceIte, Nat.reduceEqDiff, reduceCtorEq, look, true_and])
      | (refine WP.ret (Sm.out ?_))
      | (first | refine ExG.no (Sm.out ?_) | refine Or.inl (ExG.no (Sm.out ?_)) | refine Or.inl (And.intro (fun hg => absurd hg (by decide)) (ExG.no (Sm.out ?_))))
      | (refine Rt.mk ?_; refine And.intro ?_ ?_ <;> (intro hg; first | exact absurd hg (by decide) | refine Sm.out ?_))
      | (refine Nu.mk ?_; first | (fail_if_success (have := nb1)); intro nb1 | (fail_if_success (have := nb2)); intro nb2 | (fail_if_success (have := nb3)); intro nb3 | (fail_if_success (have := nb4)); intro nb4 | intro nbz)
      | (refine Fr.mk ?_; intro hfr; (first | (have hFRb : _ ≤ _ ∧ _ ≤ _ := And.intro hfr.1 hfr.2.1) | (have hFRb : _ ≤ _ := hfr.1) | skip); replace FR := Sm.mk (And.intro hfr FR.out); clear hfr; refine Sm.out ?_)
      | (refine Two.mk ?_ ?_)
      | (refine Cs.mk ?_; intro hcs; first | exact False.elim hcs | (exfalso; omega) | (refine Sm.out ?_))
      | go_step
      | omega
      | (simp only [maxLen_eq]; omega)
    exact ⟨⟨2, h.1⟩, ⟨by simp, h.2⟩, by simp, Sub.of_env [] (pmz _) (by simp [look])⟩
  · have cV := liftB [(nb2, .obj (.stringIter B 3))] (wr_b hq (by decide) 98 (by omega))
    first | (have FRx := FR; clear FRx) | (have FR : Sm (¬ ((1 : Nat) = 0)) := Sm.mk Nat.one_ne_zero)
    repeat' first
      | (refine Sm.mk ?_; try simp -dsimp only [ZK, rvc, drawF, headN, pureH, stp, dvc, calleeOf, gcall, pev, eff, newB, okd, og, ogs, ogo, ogp, slv, bltv, opd, litv, strip, one, both, putE, St.put, look, gdOf, gdv, picka, pickv, pickw, binv, bini, bins, binb, binp, binq, isSlT, bina, shp, eqCells, unv, convv, nilv, faddv, addp, idxav, idxp, load1, load1m, loadn, loadnm, loadv, hget, hset, hrep, hdel, slicev, bnd, shift1, lenv, capv, IntKind.bits, extractv, fieldv, indexv, min2v, max2v, mkiv, cellsA, fillA, buildv, stC, oneC, rowMB, intsA, plN, appE, appZ, appC, appNZ, appNC, VwL, srcC, srcZ, srcM, isBoolT, isPtrT, isSliceT, uOk, Value.oneCell', Nat.reducePow, Int.reducePow, Nat.reduceAdd, Nat.reduceMul, Nat.reduceSub, Nat.reduceLT, Nat.reduceLeDiff, Nat.reduceEqDiff, Nat.reduceBEq, Nat.reduceDiv, Nat.reduceMod, ↓reduceIte, reduceCtorEq, Int.reduceToNat, Int.reduceLT, Int.reduceLE, TFTxI, SeqQ, BlkQ, LoopQ, BodyQ, hs, d2, y3, List.append_nil, List.cons_append, List.nil_append, FR.out])
      | (first | refine CallV.fn (eB) (Sm.out ?_) | refine ExF.mk (eB) (Sm.out ?_) | refine ExG.mk (fun _ => eB) (Sm.out ?_) | refine ExG.mkJ (fun _ => eB) (Sm.out ?_) | refine ExG.mkI (Ob.out ?_) (fun _ => eB) (Sm.out ?_))
      | (refine CallV.exM (cV) (pmz _) (fun h => Sm.out ?_))
      | (refine WP.seq fun K hK => ?_)
      | (refine WP.region (rvc_sound _ _ (Sm.out ?_)))
      | (refine WP.drawK rfl mixed (by decide +kernel) (Sm.out ?_))
      | (refine Ob.mk ?_; focus (first | assumption | omega | decide | trivial | (intro hob; simp only [hob, ZF]; done) | (intros; (repeat' refine And.intro ?_ ?_) <;> first | assumption | omega | trivial | decide) | (intros; simp only [ZE] at *; (repeat' refine And.intro ?_ ?_) <;> first | assumption | omega | trivial)))
      | (refine And.intro (Ob.out ?_) ?_)
      | (refine WP.block ?_)
      | (refine WP.cond rfl (fun hc => ?_) (fun hc => ?_) <;> (try simp only [ZC, reduceCtorEq, ZD] at hc) <;> (try (exact absurd hc (by decide))) <;> (try (exfalso; omega)))
      | ((first | refine WP.skip ?_ | refine WP.exit ?_); simp only [SeqQ, BlkQ, LoopQ, BodyQ, ↓reduceIte, Nat.reduceEqDiff, reduceCtorEq, look, true_and])
      | (refine WP.ret (Sm.out ?_))
      | (first | refine ExG.no (Sm.out ?_) | refine Or.inl (ExG.no (Sm.out ?_)) | refine Or.inl (And.intro (fun hg => absurd hg (by decide)) (ExG.no (Sm.out ?_))))
      | (refine Rt.mk ?_; refine And.intro ?_ ?_ <;> (intro hg; first | exact absurd hg (by decide) | refine Sm.out ?_))
      | (refine Nu.mk ?_; first | (fail_if_success (have := nb1)); intro nb1 | (fail_if_success (have := nb2)); intro nb2 | (fail_if_success (have := nb3)); intro nb3 | (fail_if_success (have := nb4)); intro nb4 | intro nbz)
      | (refine Fr.mk ?_; intro hfr; (first | (have hFRb : _ ≤ _ ∧ _ ≤ _ := And.intro hfr.1 hfr.2.1) | (have hFRb : _ ≤ _ := hfr.1) | skip); replace FR := Sm.mk (And.intro hfr FR.out); clear hfr; refine Sm.out ?_)
      | (refine Two.mk ?_ ?_)
      | (refine Cs.mk ?_; intro hcs; first | exact False.elim hcs | (exfalso; omega) | (refine Sm.out ?_))
      | go_step
      | omega
      | (simp only [maxLen_eq]; omega)
    exact ⟨⟨3, h.1⟩, ⟨by simp, h.2⟩, by simp, Sub.of_env [] (pmz _) (by simp [look])⟩
  · have cV := liftB [(nb2, .obj (.stringIter B 3))] (wr_b hq (by decide) 34 (by omega))
    have cS := fun (q' : BQ) (hq' : bOk nb1 (exA 3 ++ [34]) q') => liftF [(nb2, .obj (.stringIter B 3))] (str_b hq' (by decide) (by decide))
    simp only [List.append_nil] at cS
    first | (have FRx := FR; clear FRx) | (have FR : Sm (¬ ((1 : Nat) = 0)) := Sm.mk Nat.one_ne_zero)
    repeat' first
      | (refine Sm.mk ?_; try simp -dsimp only [ZK, rvc, drawF, headN, pureH, stp, dvc, calleeOf, gcall, pev, eff, newB, okd, og, ogs, ogo, ogp, slv, bltv, opd, litv, strip, one, both, putE, St.put, look, gdOf, gdv, picka, pickv, pickw, binv, bini, bins, binb, binp, binq, isSlT, bina, shp, eqCells, unv, convv, nilv, faddv, addp, idxav, idxp, load1, load1m, loadn, loadnm, loadv, hget, hset, hrep, hdel, slicev, bnd, shift1, lenv, capv, IntKind.bits, extractv, fieldv, indexv, min2v, max2v, mkiv, cellsA, fillA, buildv, stC, oneC, rowMB, intsA, plN, appE, appZ, appC, appNZ, appNC, VwL, srcC, srcZ, srcM, isBoolT, isPtrT, isSliceT, uOk, Value.oneCell', Nat.reducePow, Int.reducePow, Nat.reduceAdd, Nat.reduceMul, Nat.reduceSub, Nat.reduceLT, Nat.reduceLeDiff, Nat.reduceEqDiff, Nat.reduceBEq, Nat.reduceDiv, Nat.reduceMod, ↓reduceIte, reduceCtorEq, Int.reduceToNat, Int.reduceLT, Int.reduceLE, TFTxI, SeqQ, BlkQ, LoopQ, BodyQ, hs, List.append_nil, List.cons_append, List.nil_append, FR.out])
      | (refine CallV.exM (cV) (pmz _) (fun h => Sm.out ?_))
      | (refine CallV.updM (cS _ h.2) (pmz _) (Sm.out ?_))
      | (refine WP.seq fun K hK => ?_)
      | (refine WP.region (rvc_sound _ _ (Sm.out ?_)))
      | (refine WP.drawK rfl mixed (by decide +kernel) (Sm.out ?_))
      | (refine Ob.mk ?_; focus (first | assumption | omega | decide | trivial | (intro hob; simp only [hob, ZF]; done) | (intros; (repeat' refine And.intro ?_ ?_) <;> first | assumption | omega | trivial | decide) | (intros; simp only [ZE] at *; (repeat' refine And.intro ?_ ?_) <;> first | assumption | omega | trivial)))
      | (refine And.intro (Ob.out ?_) ?_)
      | (refine WP.block ?_)
      | (refine WP.cond rfl (fun hc => ?_) (fun hc => ?_) <;> (try simp only [ZC, reduceCtorEq, ZD] at hc) <;> (try (exact absurd hc (by decide))) <;> (try (exfalso; omega)))
      | ((first | refine WP.skip ?_ | refine WP.exit ?_); simp only [SeqQ, BlkQ, LoopQ, BodyQ, ↓reduceIte, Nat.reduceEqDiff, reduceCtorEq, look, true_and])
      | (refine WP.ret (Sm.out ?_))
      | (first | refine ExG.no (Sm.out ?_) | refine Or.inl (ExG.no (Sm.out ?_)) | refine Or.inl (And.intro (fun hg => absurd hg (by decide)) (ExG.no (Sm.out ?_))))
      | (refine Rt.mk ?_; refine And.intro ?_ ?_ <;> (intro hg; first | exact absurd hg (by decide) | refine Sm.out ?_))
      | (refine Nu.mk ?_; first | (fail_if_success (have := nb1)); intro nb1 | (fail_if_success (have := nb2)); intro nb2 | (fail_if_success (have := nb3)); intro nb3 | (fail_if_success (have := nb4)); intro nb4 | intro nbz)
      | (refine Fr.mk ?_; intro hfr; (first | (have hFRb : _ ≤ _ ∧ _ ≤ _ := And.intro hfr.1 hfr.2.1) | (have hFRb : _ ≤ _ := hfr.1) | skip); replace FR := Sm.mk (And.intro hfr FR.out); clear hfr; refine Sm.out ?_)
      | (refine Two.mk ?_ ?_)
      | (refine Cs.mk ?_; intro hcs; first | exact False.elim hcs | (exfalso; omega) | (refine Sm.out ?_))
      | go_step
      | omega
      | (simp only [maxLen_eq]; omega)
    (refine OutQ.all ?_ ?_; (focus (simp only [resv, ZK, look, loadv, loadn, loadnm, load1, load1m, hget, ↓reduceIte, Nat.reduceEqDiff, Nat.reduceAdd, Nat.reduceMul, Nat.reduceLeDiff, Nat.reduceLT, reduceCtorEq, TFTxI, exA])); (try simp only [resv, resA, Fn, ZK, look, loadv, loadn, loadnm, load1, load1m, hget, ↓reduceIte, Nat.reduceEqDiff, Nat.reduceAdd, Nat.reduceMul, Nat.reduceLeDiff, Nat.reduceLT, reduceCtorEq, TFTxI, exA]); (try simp [resA, Fn, look, exA]))
theorem awake_ct : ACt Tryd.prog 7 [] [] (Fn (bv true)) := by
  have cQ := quote_ct
  have cL : ACt Tryd.prog 8 [iv .i32 233] [] (Fn (bv true)) := letter_ct 233
  have z1 : (⟨#[97, 34, 98]⟩ : ByteArray) = bstr exT := rfl
  have z2 : (⟨#[34, 97, 92, 34, 98, 34]⟩ : ByteArray) = bstr [34, 97, 92, 34, 98, 34] := rfl
  obtain ⟨Z1, hZ1⟩ : ∃ Z, Z = bstr exT := ⟨_, rfl⟩
  obtain ⟨Z2, hZ2⟩ : ∃ Z, Z = bstr [34, 97, 92, 34, 98, 34] := ⟨_, rfl⟩
  unfold stz at cQ
  rw [← hZ1, ← hZ2] at cQ
  rw [← hZ1] at z1
  rw [← hZ2] at z2
  have y1 : ∀ x : List UInt8, (x == x) = true := fun x => beq_self_eq_true x
  refine ACt.intro Tryd.func7 rfl (by kernel_rfl) (by simp [Tryd.ntmps7]) (fun cx => ?_)
  simp only [argE, Tryd.ntmps7, Tryd.results7]
  first | (have FRx := FR; clear FRx) | (have FR : Sm (¬ ((1 : Nat) = 0)) := Sm.mk Nat.one_ne_zero)
  repeat' first
    | (refine Sm.mk ?_; try simp -dsimp only [ZK, rvc, drawF, headN, pureH, stp, dvc, calleeOf, gcall, pev, eff, newB, okd, og, ogs, ogo, ogp, slv, bltv, opd, litv, strip, one, both, putE, St.put, look, gdOf, gdv, picka, pickv, pickw, binv, bini, bins, binb, binp, binq, isSlT, bina, shp, eqCells, unv, convv, nilv, faddv, addp, idxav, idxp, load1, load1m, loadn, loadnm, loadv, hget, hset, hrep, hdel, slicev, bnd, shift1, lenv, capv, IntKind.bits, extractv, fieldv, indexv, min2v, max2v, mkiv, cellsA, fillA, buildv, stC, oneC, rowMB, intsA, plN, appE, appZ, appC, appNZ, appNC, VwL, srcC, srcZ, srcM, isBoolT, isPtrT, isSliceT, uOk, Value.oneCell', Nat.reducePow, Int.reducePow, Nat.reduceAdd, Nat.reduceMul, Nat.reduceSub, Nat.reduceLT, Nat.reduceLeDiff, Nat.reduceEqDiff, Nat.reduceBEq, Nat.reduceDiv, Nat.reduceMod, ↓reduceIte, reduceCtorEq, Int.reduceToNat, Int.reduceLT, Int.reduceLE, TFTxI, SeqQ, BlkQ, LoopQ, BodyQ, z1, z2, y1, FR.out])
    | (first | refine CallV.fn (cQ) (Sm.out ?_) | refine ExF.mk (cQ) (Sm.out ?_) | refine ExG.mk (fun _ => cQ) (Sm.out ?_) | refine ExG.mkJ (fun _ => cQ) (Sm.out ?_) | refine ExG.mkI (Ob.out ?_) (fun _ => cQ) (Sm.out ?_))
    | (first | refine CallV.fn (cL) (Sm.out ?_) | refine ExF.mk (cL) (Sm.out ?_) | refine ExG.mk (fun _ => cL) (Sm.out ?_) | refine ExG.mkJ (fun _ => cL) (Sm.out ?_) | refine ExG.mkI (Ob.out ?_) (fun _ => cL) (Sm.out ?_))
    | (refine WP.seq fun K hK => ?_)
    | (refine WP.region (rvc_sound _ _ (Sm.out ?_)))
    | (refine WP.drawK rfl mixed (by decide +kernel) (Sm.out ?_))
    | (refine Ob.mk ?_; focus (first | assumption | omega | decide | trivial | (intro hob; simp only [hob, ZF]; done) | (intros; (repeat' refine And.intro ?_ ?_) <;> first | assumption | omega | trivial | decide) | (intros; simp only [ZE] at *; (repeat' refine And.intro ?_ ?_) <;> first | assumption | omega | trivial)))
    | (refine And.intro (Ob.out ?_) ?_)
    | (refine WP.block ?_)
    | (refine WP.cond rfl (fun hc => ?_) (fun hc => ?_) <;> (try simp only [ZC, reduceCtorEq, ZD] at hc) <;> (try (exact absurd hc (by decide))) <;> (try (exfalso; omega)))
    | ((first | refine WP.skip ?_ | refine WP.exit ?_); simp only [SeqQ, BlkQ, LoopQ, BodyQ, ↓reduceIte, Nat.reduceEqDiff, reduceCtorEq, look, true_and])
    | (refine WP.ret (Sm.out ?_))
    | (first | refine ExG.no (Sm.out ?_) | refine Or.inl (ExG.no (Sm.out ?_)) | refine Or.inl (And.intro (fun hg => absurd hg (by decide)) (ExG.no (Sm.out ?_))))
    | (refine Rt.mk ?_; refine And.intro ?_ ?_ <;> (intro hg; first | exact absurd hg (by decide) | refine Sm.out ?_))
    | (refine Nu.mk ?_; first | (fail_if_success (have := nb1)); intro nb1 | (fail_if_success (have := nb2)); intro nb2 | (fail_if_success (have := nb3)); intro nb3 | (fail_if_success (have := nb4)); intro nb4 | intro nbz)
    | (refine Fr.mk ?_; intro hfr; (first | (have hFRb : _ ≤ _ ∧ _ ≤ _ := And.intro hfr.1 hfr.2.1) | (have hFRb : _ ≤ _ := hfr.1) | skip); replace FR := Sm.mk (And.intro hfr FR.out); clear hfr; refine Sm.out ?_)
    | (refine Two.mk ?_ ?_)
    | (refine Cs.mk ?_; intro hcs; first | exact False.elim hcs | (exfalso; omega) | (refine Sm.out ?_))
    | go_step
    | omega
    | (simp only [maxLen_eq]; omega)
  (refine OutQ.all ?_ ?_; (focus (simp only [resv, ZK, look, loadv, loadn, loadnm, load1, load1m, hget, ↓reduceIte, Nat.reduceEqDiff, Nat.reduceAdd, Nat.reduceMul, Nat.reduceLeDiff, Nat.reduceLT, reduceCtorEq, TFTxI, FR.out])); (try simp only [resv, resA, Fn, ZK, look, loadv, loadn, loadnm, load1, load1m, hget, ↓reduceIte, Nat.reduceEqDiff, Nat.reduceAdd, Nat.reduceMul, Nat.reduceLeDiff, Nat.reduceLT, reduceCtorEq, TFTxI, FR.out]); (try simp [resA, Fn, look, FR.out]))
end Go.Proofs.YtjdjpgjjnajjhaaDoor
namespace Go.Proofs.YtjdjpgjjnajjhaaDoor
open Go
set_option linter.unusedVariables false
set_option linter.unusedSimpArgs false
theorem TFTxJ : ((((type_of% tyc3) ∧ ((type_of% zmb3) ∧ (type_of% tyc4))) ∧ ((type_of% zmb4) ∧ ((type_of% tyc9) ∧ (type_of% zmb9)))) ∧ (((type_of% tyc21) ∧ ((type_of% zmb21) ∧ (type_of% Tryd.underlying3))) ∧ ((type_of% Tryd.underlying4) ∧ ((type_of% Tryd.underlying9) ∧ (type_of% Tryd.underlying21))))) :=
  ⟨⟨⟨tyc3, ⟨zmb3, tyc4⟩⟩, ⟨zmb4, ⟨tyc9, zmb9⟩⟩⟩, ⟨⟨tyc21, ⟨zmb21, Tryd.underlying3⟩⟩, ⟨Tryd.underlying4, ⟨Tryd.underlying9, Tryd.underlying21⟩⟩⟩⟩
theorem wf_i32 {z : Int} (h : (Lit.int .i32 z).wf = true) : -2147483648 ≤ z ∧ z ≤ 2147483647 := by
  simp only [Lit.wf, IntKind.min, IntKind.max, IntKind.bits, IntKind.signed] at h
  simp at h
  omega
theorem names_ct (zs : List Int) (hb : By zs) (r : Int) : ACt Tryd.prog 3 [stz zs, iv .i32 r] [] (Fn (bv true)) := by
  have hs := bstr_size zs
  have cA := awake_ct
  have y1 : ∀ b : Bool, (b == b) = true := fun b => beq_self_eq_true b
  by_cases hl : 200 < zs.length
  · have k0 : decide ((zs.length : Int) > 200) = true := decide_eq_true (by omega)
    obtain ⟨Z, hZ⟩ : ∃ Z, Z = bstr zs := ⟨_, rfl⟩
    unfold stz
    rw [← hZ] at hs ⊢
    refine ACt.intro Tryd.func3 rfl (by kernel_rfl) (by simp [Tryd.ntmps3]) (fun cx => ?_)
    simp only [argE, Tryd.ntmps3, Tryd.results3]
    first | (have FRx := FR; clear FRx) | (have FR : Sm (¬ ((1 : Nat) = 0)) := Sm.mk Nat.one_ne_zero)
    repeat' first
      | (refine Sm.mk ?_; try simp -dsimp only [ZK, rvc, drawF, headN, pureH, stp, dvc, calleeOf, gcall, pev, eff, newB, okd, og, ogs, ogo, ogp, slv, bltv, opd, litv, strip, one, both, putE, St.put, look, gdOf, gdv, picka, pickv, pickw, binv, bini, bins, binb, binp, binq, isSlT, bina, shp, eqCells, unv, convv, nilv, faddv, addp, idxav, idxp, load1, load1m, loadn, loadnm, loadv, hget, hset, hrep, hdel, slicev, bnd, shift1, lenv, capv, IntKind.bits, extractv, fieldv, indexv, min2v, max2v, mkiv, cellsA, fillA, buildv, stC, oneC, rowMB, intsA, plN, appE, appZ, appC, appNZ, appNC, VwL, srcC, srcZ, srcM, isBoolT, isPtrT, isSliceT, uOk, Value.oneCell', Nat.reducePow, Int.reducePow, Nat.reduceAdd, Nat.reduceMul, Nat.reduceSub, Nat.reduceLT, Nat.reduceLeDiff, Nat.reduceEqDiff, Nat.reduceBEq, Nat.reduceDiv, Nat.reduceMod, ↓reduceIte, reduceCtorEq, Int.reduceToNat, Int.reduceLT, Int.reduceLE, TFTxJ, SeqQ, BlkQ, LoopQ, BodyQ, hs, k0, FR.out])
      | (first | refine CallV.fn (cA) (Sm.out ?_) | refine ExF.mk (cA) (Sm.out ?_) | refine ExG.mk (fun _ => cA) (Sm.out ?_) | refine ExG.mkJ (fun _ => cA) (Sm.out ?_) | refine ExG.mkI (Ob.out ?_) (fun _ => cA) (Sm.out ?_))
      | (refine WP.seq fun K hK => ?_)
      | (refine WP.region (rvc_sound _ _ (Sm.out ?_)))
      | (refine WP.drawK rfl mixed (by decide +kernel) (Sm.out ?_))
      | (refine Ob.mk ?_; focus (first | assumption | omega | decide | trivial | (intro hob; simp only [hob, ZF]; done) | (intros; (repeat' refine And.intro ?_ ?_) <;> first | assumption | omega | trivial | decide) | (intros; simp only [ZE] at *; (repeat' refine And.intro ?_ ?_) <;> first | assumption | omega | trivial)))
      | (refine And.intro (Ob.out ?_) ?_)
      | (refine WP.block ?_)
      | (refine WP.cond rfl (fun hc => ?_) (fun hc => ?_) <;> (try simp only [ZC, reduceCtorEq, ZD] at hc) <;> (try (exact absurd hc (by decide))) <;> (try (exfalso; omega)))
      | ((first | refine WP.skip ?_ | refine WP.exit ?_); simp only [SeqQ, BlkQ, LoopQ, BodyQ, ↓reduceIte, Nat.reduceEqDiff, reduceCtorEq, look, true_and])
      | (refine WP.ret (Sm.out ?_))
      | (first | refine ExG.no (Sm.out ?_) | refine Or.inl (ExG.no (Sm.out ?_)) | refine Or.inl (And.intro (fun hg => absurd hg (by decide)) (ExG.no (Sm.out ?_))))
      | (refine Rt.mk ?_; refine And.intro ?_ ?_ <;> (intro hg; first | exact absurd hg (by decide) | refine Sm.out ?_))
      | (refine Nu.mk ?_; first | (fail_if_success (have := nb1)); intro nb1 | (fail_if_success (have := nb2)); intro nb2 | (fail_if_success (have := nb3)); intro nb3 | (fail_if_success (have := nb4)); intro nb4 | intro nbz)
      | (refine Fr.mk ?_; intro hfr; (first | (have hFRb : _ ≤ _ ∧ _ ≤ _ := And.intro hfr.1 hfr.2.1) | (have hFRb : _ ≤ _ := hfr.1) | skip); replace FR := Sm.mk (And.intro hfr FR.out); clear hfr; refine Sm.out ?_)
      | (refine Two.mk ?_ ?_)
      | (refine Cs.mk ?_; intro hcs; first | exact False.elim hcs | (exfalso; omega) | (refine Sm.out ?_))
      | go_step
      | omega
      | (simp only [maxLen_eq]; omega)
    (refine OutQ.all ?_ ?_; (focus (simp only [resv, ZK, look, loadv, loadn, loadnm, load1, load1m, hget, ↓reduceIte, Nat.reduceEqDiff, Nat.reduceAdd, Nat.reduceMul, Nat.reduceLeDiff, Nat.reduceLT, reduceCtorEq, TFTxJ, FR.out])); (try simp only [resv, resA, Fn, ZK, look, loadv, loadn, loadnm, load1, load1m, hget, ↓reduceIte, Nat.reduceEqDiff, Nat.reduceAdd, Nat.reduceMul, Nat.reduceLeDiff, Nat.reduceLT, reduceCtorEq, TFTxJ, FR.out]); (try simp [resA, Fn, look, FR.out]))
  have k0 : decide ((zs.length : Int) > 200) = false := decide_eq_false (by omega)
  have c1 := letter_ct r
  have c2 := rletter_ct r
  have c3 := name_ct zs hb (by omega)
  have c4 := rname_ct zs hb (by omega)
  obtain ⟨b, hb1⟩ : ∃ b, b = letB r := ⟨_, rfl⟩
  obtain ⟨d, hd1⟩ : ∃ d, d = nmB (rn zs) := ⟨_, rfl⟩
  rw [← hb1] at c1 c2
  rw [← hd1] at c3 c4
  obtain ⟨Z, hZ⟩ : ∃ Z, Z = bstr zs := ⟨_, rfl⟩
  unfold stz at c3 c4 ⊢
  rw [← hZ] at hs c3 c4 ⊢
  clear hb1 hd1
  cases b <;> cases d
  all_goals
    refine ACt.intro Tryd.func3 rfl (by kernel_rfl) (by simp [Tryd.ntmps3]) (fun cx => ?_)
    simp only [argE, Tryd.ntmps3, Tryd.results3]
  all_goals (
      first | (have FRx := FR; clear FRx) | (have FR : Sm (¬ ((1 : Nat) = 0)) := Sm.mk Nat.one_ne_zero)
      repeat' first
        | (refine Sm.mk ?_; try simp -dsimp only [ZK, rvc, drawF, headN, pureH, stp, dvc, calleeOf, gcall, pev, eff, newB, okd, og, ogs, ogo, ogp, slv, bltv, opd, litv, strip, one, both, putE, St.put, look, gdOf, gdv, picka, pickv, pickw, binv, bini, bins, binb, binp, binq, isSlT, bina, shp, eqCells, unv, convv, nilv, faddv, addp, idxav, idxp, load1, load1m, loadn, loadnm, loadv, hget, hset, hrep, hdel, slicev, bnd, shift1, lenv, capv, IntKind.bits, extractv, fieldv, indexv, min2v, max2v, mkiv, cellsA, fillA, buildv, stC, oneC, rowMB, intsA, plN, appE, appZ, appC, appNZ, appNC, VwL, srcC, srcZ, srcM, isBoolT, isPtrT, isSliceT, uOk, Value.oneCell', Nat.reducePow, Int.reducePow, Nat.reduceAdd, Nat.reduceMul, Nat.reduceSub, Nat.reduceLT, Nat.reduceLeDiff, Nat.reduceEqDiff, Nat.reduceBEq, Nat.reduceDiv, Nat.reduceMod, ↓reduceIte, reduceCtorEq, Int.reduceToNat, Int.reduceLT, Int.reduceLE, TFTxJ, SeqQ, BlkQ, LoopQ, BodyQ, hs, k0, FR.out])
        | (first | refine CallV.fn (cA) (Sm.out ?_) | refine ExF.mk (cA) (Sm.out ?_) | refine ExG.mk (fun _ => cA) (Sm.out ?_) | refine ExG.mkJ (fun _ => cA) (Sm.out ?_) | refine ExG.mkI (Ob.out ?_) (fun _ => cA) (Sm.out ?_))
        | (first | refine CallV.fn (c1) (Sm.out ?_) | refine ExF.mk (c1) (Sm.out ?_) | refine ExG.mk (fun _ => c1) (Sm.out ?_) | refine ExG.mkJ (fun _ => c1) (Sm.out ?_) | refine ExG.mkI (Ob.out ?_) (fun _ => c1) (Sm.out ?_))
        | (first | refine CallV.fn (c2) (Sm.out ?_) | refine ExF.mk (c2) (Sm.out ?_) | refine ExG.mk (fun _ => c2) (Sm.out ?_) | refine ExG.mkJ (fun _ => c2) (Sm.out ?_) | refine ExG.mkI (Ob.out ?_) (fun _ => c2) (Sm.out ?_))
        | (first | refine CallV.fn (c3) (Sm.out ?_) | refine ExF.mk (c3) (Sm.out ?_) | refine ExG.mk (fun _ => c3) (Sm.out ?_) | refine ExG.mkJ (fun _ => c3) (Sm.out ?_) | refine ExG.mkI (Ob.out ?_) (fun _ => c3) (Sm.out ?_))
        | (first | refine CallV.fn (c4) (Sm.out ?_) | refine ExF.mk (c4) (Sm.out ?_) | refine ExG.mk (fun _ => c4) (Sm.out ?_) | refine ExG.mkJ (fun _ => c4) (Sm.out ?_) | refine ExG.mkI (Ob.out ?_) (fun _ => c4) (Sm.out ?_))
        | (refine WP.seq fun K hK => ?_)
        | (refine WP.region (rvc_sound _ _ (Sm.out ?_)))
        | (refine WP.drawK rfl mixed (by decide +kernel) (Sm.out ?_))
        | (refine Ob.mk ?_; focus (first | assumption | omega | decide | trivial | (intro hob; simp only [hob, ZF]; done) | (intros; (repeat' refine And.intro ?_ ?_) <;> first | assumption | omega | trivial | decide) | (intros; simp only [ZE] at *; (repeat' refine And.intro ?_ ?_) <;> first | assumption | omega | trivial)))
        | (refine And.intro (Ob.out ?_) ?_)
        | (refine WP.block ?_)
        | (refine WP.cond rfl (fun hc => ?_) (fun hc => ?_) <;> (try simp only [ZC, reduceCtorEq, ZD] at hc) <;> (try (exact absurd hc (by decide))) <;> (try (exfalso; omega)))
        | ((first | refine WP.skip ?_ | refine WP.exit ?_); simp only [SeqQ, BlkQ, LoopQ, BodyQ, ↓reduceIte, Nat.reduceEqDiff, reduceCtorEq, look, true_and])
        | (refine WP.ret (Sm.out ?_))
        | (first | refine ExG.no (Sm.out ?_) | refine Or.inl (ExG.no (Sm.out ?_)) | refine Or.inl (And.intro (fun hg => absurd hg (by decide)) (ExG.no (Sm.out ?_))))
        | (refine Rt.mk ?_; refine And.intro ?_ ?_ <;> (intro hg; first | exact absurd hg (by decide) | refine Sm.out ?_))
        | (refine Nu.mk ?_; first | (fail_if_success (have := nb1)); intro nb1 | (fail_if_success (have := nb2)); intro nb2 | (fail_if_success (have := nb3)); intro nb3 | (fail_if_success (have := nb4)); intro nb4 | intro nbz)
        | (refine Fr.mk ?_; intro hfr; (first | (have hFRb : _ ≤ _ ∧ _ ≤ _ := And.intro hfr.1 hfr.2.1) | (have hFRb : _ ≤ _ := hfr.1) | skip); replace FR := Sm.mk (And.intro hfr FR.out); clear hfr; refine Sm.out ?_)
        | (refine Two.mk ?_ ?_)
        | (refine Cs.mk ?_; intro hcs; first | exact False.elim hcs | (exfalso; omega) | (refine Sm.out ?_))
        | go_step
        | omega
        | (simp only [maxLen_eq]; omega))
  all_goals (refine OutQ.all ?_ ?_; (focus (simp only [resv, ZK, look, loadv, loadn, loadnm, load1, load1m, hget, ↓reduceIte, Nat.reduceEqDiff, Nat.reduceAdd, Nat.reduceMul, Nat.reduceLeDiff, Nat.reduceLT, reduceCtorEq, TFTxJ, FR.out])); (try simp only [resv, resA, Fn, ZK, look, loadv, loadn, loadnm, load1, load1m, hget, ↓reduceIte, Nat.reduceEqDiff, Nat.reduceAdd, Nat.reduceMul, Nat.reduceLeDiff, Nat.reduceLT, reduceCtorEq, TFTxJ, FR.out]); (try simp [resA, Fn, look, FR.out]))
theorem names_law (s : ByteArray) (r : Int) : ACt Tryd.prog 3 [.lit (.string s), iv .i32 r] [] (Fn (bv true)) := by
  have e : s = bstr (ub s.data.toList) := by
    apply ByteArray.ext
    apply Array.ext'
    simp only [bstr, ub, List.map_map]
    have e2 : s.data.toList.map ((fun n : Int => UInt8.ofNat n.toNat) ∘ fun b : UInt8 => (b.toNat : Int)) = s.data.toList.map id := List.map_congr_left fun b _ => by simp
    rw [e2, List.map_id]
  have hb : By (ub s.data.toList) := fun i hi => by
    rw [ub_getD]
    have := ((s.data.toList).getD i 0).toNat_lt
    omega
  rw [e]
  exact names_ct _ hb r
end Go.Proofs.YtjdjpgjjnajjhaaDoor
