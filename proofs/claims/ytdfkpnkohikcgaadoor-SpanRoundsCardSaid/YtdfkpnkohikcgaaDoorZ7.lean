/-
  The walks and the laws that the statement leans on, part 7.
-/
import Derived.Test.YtdfkpnkohikcgaaDoorZ6
namespace Go.Proofs.YtdfkpnkohikcgaaDoor
open Go
set_option linter.unusedVariables false
set_option linter.unusedSimpArgs false
theorem TFSpC : ((((((type_of% tyc0) ∧ (type_of% tyc3)) ∧ ((type_of% zmb3) ∧ ((type_of% tyc4) ∧ (type_of% zmb4)))) ∧ (((type_of% tyc5) ∧ ((type_of% zmb5) ∧ (type_of% tyc9))) ∧ ((type_of% zmb9) ∧ ((type_of% tyc21) ∧ (type_of% zmb21))))) ∧ ((((type_of% tyc34) ∧ ((type_of% zmb34) ∧ (type_of% tyc35))) ∧ ((type_of% elt35) ∧ ((type_of% mkz35) ∧ (type_of% apT35)))) ∧ (((type_of% elk35) ∧ ((type_of% zmb35) ∧ (type_of% tyc37))) ∧ ((type_of% foff37_0) ∧ ((type_of% fpart37_0) ∧ (type_of% foff37_1)))))) ∧ (((((type_of% fpart37_1) ∧ ((type_of% zmb37) ∧ (type_of% bldT37))) ∧ ((type_of% tyc39) ∧ ((type_of% zmb39) ∧ (type_of% tyc51)))) ∧ (((type_of% zmb51) ∧ ((type_of% tyc54) ∧ (type_of% zmb54))) ∧ ((type_of% tyc63) ∧ ((type_of% zmb63) ∧ (type_of% Tryd.underlying0))))) ∧ ((((type_of% Tryd.underlying3) ∧ ((type_of% Tryd.underlying4) ∧ (type_of% Tryd.underlying5))) ∧ ((type_of% Tryd.underlying9) ∧ ((type_of% Tryd.underlying21) ∧ (type_of% Tryd.underlying34)))) ∧ (((type_of% Tryd.underlying35) ∧ ((type_of% Tryd.underlying37) ∧ (type_of% Tryd.underlying39))) ∧ ((type_of% Tryd.underlying51) ∧ ((type_of% Tryd.underlying54) ∧ (type_of% Tryd.underlying63))))))) :=
  ⟨⟨⟨⟨⟨tyc0, tyc3⟩, ⟨zmb3, ⟨tyc4, zmb4⟩⟩⟩, ⟨⟨tyc5, ⟨zmb5, tyc9⟩⟩, ⟨zmb9, ⟨tyc21, zmb21⟩⟩⟩⟩, ⟨⟨⟨tyc34, ⟨zmb34, tyc35⟩⟩, ⟨elt35, ⟨mkz35, apT35⟩⟩⟩, ⟨⟨elk35, ⟨zmb35, tyc37⟩⟩, ⟨foff37_0, ⟨fpart37_0, foff37_1⟩⟩⟩⟩⟩, ⟨⟨⟨⟨fpart37_1, ⟨zmb37, bldT37⟩⟩, ⟨tyc39, ⟨zmb39, tyc51⟩⟩⟩, ⟨⟨zmb51, ⟨tyc54, zmb54⟩⟩, ⟨tyc63, ⟨zmb63, Tryd.underlying0⟩⟩⟩⟩, ⟨⟨⟨Tryd.underlying3, ⟨Tryd.underlying4, Tryd.underlying5⟩⟩, ⟨Tryd.underlying9, ⟨Tryd.underlying21, Tryd.underlying34⟩⟩⟩, ⟨⟨Tryd.underlying35, ⟨Tryd.underlying37, Tryd.underlying39⟩⟩, ⟨Tryd.underlying51, ⟨Tryd.underlying54, Tryd.underlying63⟩⟩⟩⟩⟩⟩
abbrev nps : AV := .lit (.pointer none)
abbrev nsl : AV := .lit (.slice none 0 0)
abbrev nif : AV := .lit .nilIface
theorem noesc_ct (b : Nat) : ACt Tryd.prog 28 [pt b 0] [] (Fn (pt b 0)) :=
  ACt.outer (ls := [.pointer (some ⟨b, 0, none⟩)]) rfl (by decide +kernel) rfl (by decide +kernel) rfl fun w => ⟨_, rfl, fun I => .lit _⟩
theorem cc_nil (b : Nat) (S : AV) : ACt Tryd.prog 23 [pt b 0] [(b, .cells [nps, S] 2 37)] (fun r F' => r = .tup [] ∧ F' = [(b, .cells [pt b 0, S] 2 37)]) := by
  have cE := noesc_ct b
  have e1 : ptB Tryd.prog 34 = true := by kernel_rfl
  have e2 : toUB Tryd.prog 34 = true := by kernel_rfl
  have e3 : frUB Tryd.prog 54 37 2 37 0 = true := by kernel_rfl
  refine ACt.intro Tryd.func23 rfl (by kernel_rfl) (by simp [Tryd.ntmps23]) (fun cx => ?_)
  simp only [argE, Tryd.ntmps23, Tryd.results23]
  first | (have FRx := FR; clear FRx) | (have FR : Sm (¬ ((1 : Nat) = 0)) := Sm.mk Nat.one_ne_zero)
  repeat' first
    | (refine Sm.mk ?_; try simp -dsimp only [ZK, rvc, drawF, headN, pureH, stp, dvc, calleeOf, gcall, pev, eff, newB, okd, og, ogs, ogo, ogp, slv, bltv, opd, litv, strip, one, both, putE, St.put, look, gdOf, gdv, picka, pickv, pickw, binv, bini, bins, binb, binp, binq, isSlT, bina, shp, eqCells, unv, convv, nilv, faddv, addp, idxav, idxp, load1, load1m, loadn, loadnm, loadv, hget, hset, hrep, hdel, slicev, bnd, shift1, lenv, capv, IntKind.bits, extractv, fieldv, indexv, min2v, max2v, mkiv, cellsA, fillA, buildv, stC, oneC, rowMB, intsA, plN, appE, appZ, appC, appNZ, appNC, VwL, srcC, srcZ, srcM, isBoolT, isPtrT, isSliceT, uOk, Value.oneCell', Nat.reducePow, Int.reducePow, Nat.reduceAdd, Nat.reduceMul, Nat.reduceSub, Nat.reduceLT, Nat.reduceLeDiff, Nat.reduceEqDiff, Nat.reduceBEq, Nat.reduceDiv, Nat.reduceMod, ↓reduceIte, reduceCtorEq, Int.reduceToNat, Int.reduceLT, Int.reduceLE, TFSpC, SeqQ, BlkQ, LoopQ, BodyQ, e1, e2, e3, FR.out])
    | (first | refine CallV.fn (cE) (Sm.out ?_) | refine ExF.mk (cE) (Sm.out ?_) | refine ExG.mk (fun _ => cE) (Sm.out ?_) | refine ExG.mkJ (fun _ => cE) (Sm.out ?_) | refine ExG.mkI (Ob.out ?_) (fun _ => cE) (Sm.out ?_))
    | (refine WP.seq fun K hK => ?_)
    | (refine WP.region (rvc_sound _ _ (Sm.out ?_)))
    | (refine WP.drawK rfl mixed (by decide +kernel) (Sm.out ?_))
    | (refine Ob.mk ?_; focus (first | assumption | omega | decide | trivial | (intro hob; simp only [hob, ZF]; done) | (intros; (repeat' refine And.intro ?_ ?_) <;> first | assumption | omega | trivial | decide) | (intros; simp only [ZE] at *; (repeat' refine And.intro ?_ ?_) <;> first | assumption | omega | trivial)))
    | (refine And.intro (Ob.out ?_) ?_)
    | (refine WP.block ?_)
    | (refine WP.cond rfl (fun hc => ?_) (fun hc => ?_) <;> (try simp only [ZC, reduceCtorEq, ZD] at hc) <;> (try (exact absurd hc (by decide))) <;> (try (exfalso; omega)))
    | ((first | refine WP.skip ?_ | refine WP.exit ?_); simp only [SeqQ, BlkQ, LoopQ, BodyQ, ↓reduceIte, Nat.reduceEqDiff, reduceCtorEq, look, true_and])
    | (refine WP.ret (Sm.out ?_))
    | (first | refine ExG.no (Sm.out ?_) | refine Or.inl (ExG.no (Sm.out ?_)) | refine Or.inl (And.intro (fun hg => absurd hg (by decide)) (ExG.no (Sm.out ?_))))
    | (refine Rt.mk ?_; refine And.intro ?_ ?_ <;> (intro hg; first | exact absurd hg (by decide) | refine Sm.out ?_))
    | (refine Nu.mk ?_; first | (fail_if_success (have := nb1)); intro nb1 | (fail_if_success (have := nb2)); intro nb2 | (fail_if_success (have := nb3)); intro nb3 | (fail_if_success (have := nb4)); intro nb4 | (fail_if_success (have := nb5)); intro nb5 | (fail_if_success (have := nb6)); intro nb6 | intro nbz)
    | (refine Fr.mk ?_; intro hfr; (first | (have hFRb : _ ≤ _ ∧ _ ≤ _ := And.intro hfr.1 hfr.2.1) | (have hFRb : _ ≤ _ := hfr.1) | skip); replace FR := Sm.mk (And.intro hfr FR.out); clear hfr; refine Sm.out ?_)
    | (refine Two.mk ?_ ?_)
    | (refine Cs.mk ?_; intro hcs; first | exact False.elim hcs | (exfalso; omega) | (refine Sm.out ?_))
    | go_step
    | omega
    | (simp only [maxLen_eq]; omega)
  (refine OutQ.upd (by simp only [resv, ZK, look, loadv, loadn, loadnm, load1, load1m, hget, ↓reduceIte, Nat.reduceEqDiff, Nat.reduceAdd, Nat.reduceMul, Nat.reduceLeDiff, Nat.reduceLT, reduceCtorEq, TFSpC, FR.out]) (by simp only [resv, resA, ZK, look, loadv, loadn, loadnm, load1, load1m, hget, ↓reduceIte, Nat.reduceEqDiff, Nat.reduceAdd, Nat.reduceMul, Nat.reduceLeDiff, Nat.reduceLT, reduceCtorEq, TFSpC, FR.out]; first | done | rfl) (by simp only [hget, ↓reduceIte, if_true, if_false, FR.out]; first | done | rfl) ?_ <;> first | exact rfl | (simp only [ZK, look, loadv, loadn, loadnm, load1, load1m, hget, ↓reduceIte, Nat.reduceEqDiff, Nat.reduceAdd, Nat.reduceMul, Nat.reduceLeDiff, Nat.reduceLT, reduceCtorEq, TFSpC, FR.out]; done) | skip)
theorem cc_used (b : Nat) (S : AV) : ACt Tryd.prog 23 [pt b 0] [(b, .cells [pt b 0, S] 2 37)] (fun r F' => r = .tup [] ∧ F' = [(b, .cells [pt b 0, S] 2 37)]) := by
  have e1 : ptB Tryd.prog 34 = true := by kernel_rfl
  refine ACt.intro Tryd.func23 rfl (by kernel_rfl) (by simp [Tryd.ntmps23]) (fun cx => ?_)
  simp only [argE, Tryd.ntmps23, Tryd.results23]
  first | (have FRx := FR; clear FRx) | (have FR : Sm (¬ ((1 : Nat) = 0)) := Sm.mk Nat.one_ne_zero)
  repeat' first
    | (refine Sm.mk ?_; try simp -dsimp only [ZK, rvc, drawF, headN, pureH, stp, dvc, calleeOf, gcall, pev, eff, newB, okd, og, ogs, ogo, ogp, slv, bltv, opd, litv, strip, one, both, putE, St.put, look, gdOf, gdv, picka, pickv, pickw, binv, bini, bins, binb, binp, binq, isSlT, bina, shp, eqCells, unv, convv, nilv, faddv, addp, idxav, idxp, load1, load1m, loadn, loadnm, loadv, hget, hset, hrep, hdel, slicev, bnd, shift1, lenv, capv, IntKind.bits, extractv, fieldv, indexv, min2v, max2v, mkiv, cellsA, fillA, buildv, stC, oneC, rowMB, intsA, plN, appE, appZ, appC, appNZ, appNC, VwL, srcC, srcZ, srcM, isBoolT, isPtrT, isSliceT, uOk, Value.oneCell', Nat.reducePow, Int.reducePow, Nat.reduceAdd, Nat.reduceMul, Nat.reduceSub, Nat.reduceLT, Nat.reduceLeDiff, Nat.reduceEqDiff, Nat.reduceBEq, Nat.reduceDiv, Nat.reduceMod, ↓reduceIte, reduceCtorEq, Int.reduceToNat, Int.reduceLT, Int.reduceLE, TFSpC, SeqQ, BlkQ, LoopQ, BodyQ, e1, FR.out])
    | (refine WP.seq fun K hK => ?_)
    | (refine WP.region (rvc_sound _ _ (Sm.out ?_)))
    | (refine WP.drawK rfl mixed (by decide +kernel) (Sm.out ?_))
    | (refine Ob.mk ?_; focus (first | assumption | omega | decide | trivial | (intro hob; simp only [hob, ZF]; done) | (intros; (repeat' refine And.intro ?_ ?_) <;> first | assumption | omega | trivial | decide) | (intros; simp only [ZE] at *; (repeat' refine And.intro ?_ ?_) <;> first | assumption | omega | trivial)))
    | (refine And.intro (Ob.out ?_) ?_)
    | (refine WP.block ?_)
    | (refine WP.cond rfl (fun hc => ?_) (fun hc => ?_) <;> (try simp only [ZC, reduceCtorEq, ZD] at hc) <;> (try (exact absurd hc (by decide))) <;> (try (exfalso; omega)))
    | ((first | refine WP.skip ?_ | refine WP.exit ?_); simp only [SeqQ, BlkQ, LoopQ, BodyQ, ↓reduceIte, Nat.reduceEqDiff, reduceCtorEq, look, true_and])
    | (refine WP.ret (Sm.out ?_))
    | (first | refine ExG.no (Sm.out ?_) | refine Or.inl (ExG.no (Sm.out ?_)) | refine Or.inl (And.intro (fun hg => absurd hg (by decide)) (ExG.no (Sm.out ?_))))
    | (refine Rt.mk ?_; refine And.intro ?_ ?_ <;> (intro hg; first | exact absurd hg (by decide) | refine Sm.out ?_))
    | (refine Nu.mk ?_; first | (fail_if_success (have := nb1)); intro nb1 | (fail_if_success (have := nb2)); intro nb2 | (fail_if_success (have := nb3)); intro nb3 | (fail_if_success (have := nb4)); intro nb4 | (fail_if_success (have := nb5)); intro nb5 | (fail_if_success (have := nb6)); intro nb6 | intro nbz)
    | (refine Fr.mk ?_; intro hfr; (first | (have hFRb : _ ≤ _ ∧ _ ≤ _ := And.intro hfr.1 hfr.2.1) | (have hFRb : _ ≤ _ := hfr.1) | skip); replace FR := Sm.mk (And.intro hfr FR.out); clear hfr; refine Sm.out ?_)
    | (refine Two.mk ?_ ?_)
    | (refine Cs.mk ?_; intro hcs; first | exact False.elim hcs | (exfalso; omega) | (refine Sm.out ?_))
    | go_step
    | omega
    | (simp only [maxLen_eq]; omega)
  (refine OutQ.upd (by simp only [resv, ZK, look, loadv, loadn, loadnm, load1, load1m, hget, ↓reduceIte, Nat.reduceEqDiff, Nat.reduceAdd, Nat.reduceMul, Nat.reduceLeDiff, Nat.reduceLT, reduceCtorEq, TFSpC, FR.out]) (by simp only [resv, resA, ZK, look, loadv, loadn, loadnm, load1, load1m, hget, ↓reduceIte, Nat.reduceEqDiff, Nat.reduceAdd, Nat.reduceMul, Nat.reduceLeDiff, Nat.reduceLT, reduceCtorEq, TFSpC, FR.out]; first | done | rfl) (by simp only [hget, ↓reduceIte, if_true, if_false, FR.out]; first | done | rfl) ?_ <;> first | exact rfl | (simp only [ZK, look, loadv, loadn, loadnm, load1, load1m, hget, ↓reduceIte, Nat.reduceEqDiff, Nat.reduceAdd, Nat.reduceMul, Nat.reduceLeDiff, Nat.reduceLT, reduceCtorEq, TFSpC, FR.out]; done) | skip)
/-- a builder that was written: its row, and what it has room for -/
abbrev bdM (b x n k : Nat) : MB := .cells [pt b 0, ms x 0 n k] 2 37
abbrev bd0 : MB := .cells [nps, nsl] 2 37
theorem ubx (xs : List Int) (hb : By xs) : ub (bstr xs).data.toList = xs := by
  apply List.ext_getElem
  · simp [ub, bstr]
  · intro i h1 h2
    have := hb i h2
    rw [List.getD_eq_getElem?_getD, List.getElem?_eq_getElem h2, Option.getD_some] at this
    simp only [ub, bstr, List.getElem_map]
    rw [UInt8.toNat_ofNat', Nat.mod_eq_of_lt (by omega)]
    omega
theorem ws_nil (b : Nat) (xs : List Int) (hb : By xs) (h0 : 0 < xs.length) (hl : xs.length ≤ 1000) :
    ACt Tryd.prog 17 [pt b 0, stz xs] [(b, bd0)] (fun r F' => ∃ x k : Nat, (xs.length ≤ k ∧ k ≤ 9223372036854775807) ∧ r = .tup [iv .i64 (xs.length : Int), nif] ∧ F' = [(x, .zs .u8 xs k 5), (b, bdM b x xs.length k)]) := by
  have c1 := cc_nil b nsl
  have hs := bstr_size xs
  have hu : ((bstr xs).data.toList.map fun b => (b.toNat : Int)) = xs := ubx xs hb
  obtain ⟨B, hB⟩ : ∃ B, B = bstr xs := ⟨_, rfl⟩
  unfold stz
  rw [← hB] at hs hu ⊢
  refine ACt.intro Tryd.func17 rfl (by kernel_rfl) (by simp [Tryd.ntmps17]) (fun cx => ?_)
  simp only [argE, Tryd.ntmps17, Tryd.results17]
  have l1 : xs.length ≤ 9223372036854775807 ∧ xs.length * 1 ≤ 140737488355328 := by omega
  first | (have FRx := FR; clear FRx) | (have FR : Sm (¬ ((1 : Nat) = 0)) := Sm.mk Nat.one_ne_zero)
  repeat' first
    | (refine Sm.mk ?_; try simp -dsimp only [ZK, rvc, drawF, headN, pureH, stp, dvc, calleeOf, gcall, pev, eff, newB, okd, og, ogs, ogo, ogp, slv, bltv, opd, litv, strip, one, both, putE, St.put, look, gdOf, gdv, picka, pickv, pickw, binv, bini, bins, binb, binp, binq, isSlT, bina, shp, eqCells, unv, convv, nilv, faddv, addp, idxav, idxp, load1, load1m, loadn, loadnm, loadv, hget, hset, hrep, hdel, slicev, bnd, shift1, lenv, capv, IntKind.bits, extractv, fieldv, indexv, min2v, max2v, mkiv, cellsA, fillA, buildv, stC, oneC, rowMB, intsA, plN, appE, appZ, appC, appNZ, appNC, VwL, srcC, srcZ, srcM, isBoolT, isPtrT, isSliceT, uOk, Value.oneCell', Nat.reducePow, Int.reducePow, Nat.reduceAdd, Nat.reduceMul, Nat.reduceSub, Nat.reduceLT, Nat.reduceLeDiff, Nat.reduceEqDiff, Nat.reduceBEq, Nat.reduceDiv, Nat.reduceMod, ↓reduceIte, reduceCtorEq, Int.reduceToNat, Int.reduceLT, Int.reduceLE, TFSpC, SeqQ, BlkQ, LoopQ, BodyQ, hs, hu, h0, l1, FR.out])
    | (refine CallV.upd (by simp only [hget, ↓reduceIte, FR.out, hs, hu, h0, l1]; first | done | rfl) (c1) (Sm.out ?_))
    | (refine WP.seq fun K hK => ?_)
    | (refine WP.region (rvc_sound _ _ (Sm.out ?_)))
    | (refine WP.drawK rfl mixed (by decide +kernel) (Sm.out ?_))
    | (refine Ob.mk ?_; focus (first | assumption | omega | decide | trivial | (intro hob; simp only [hob, ZF]; done) | (intros; (repeat' refine And.intro ?_ ?_) <;> first | assumption | omega | trivial | decide) | (intros; simp only [ZE] at *; (repeat' refine And.intro ?_ ?_) <;> first | assumption | omega | trivial)))
    | (refine And.intro (Ob.out ?_) ?_)
    | (refine WP.block ?_)
    | (refine WP.cond rfl (fun hc => ?_) (fun hc => ?_) <;> (try simp only [ZC, reduceCtorEq, ZD] at hc) <;> (try (exact absurd hc (by decide))) <;> (try (exfalso; omega)))
    | ((first | refine WP.skip ?_ | refine WP.exit ?_); simp only [SeqQ, BlkQ, LoopQ, BodyQ, ↓reduceIte, Nat.reduceEqDiff, reduceCtorEq, look, true_and])
    | (refine WP.ret (Sm.out ?_))
    | (first | refine ExG.no (Sm.out ?_) | refine Or.inl (ExG.no (Sm.out ?_)) | refine Or.inl (And.intro (fun hg => absurd hg (by decide)) (ExG.no (Sm.out ?_))))
    | (refine Rt.mk ?_; refine And.intro ?_ ?_ <;> (intro hg; first | exact absurd hg (by decide) | refine Sm.out ?_))
    | (refine Nu.mk ?_; first | (fail_if_success (have := nb1)); intro nb1 | (fail_if_success (have := nb2)); intro nb2 | (fail_if_success (have := nb3)); intro nb3 | (fail_if_success (have := nb4)); intro nb4 | (fail_if_success (have := nb5)); intro nb5 | (fail_if_success (have := nb6)); intro nb6 | intro nbz)
    | (refine Fr.mk ?_; intro hfr; (first | (have hFRb : _ ≤ _ ∧ _ ≤ _ := And.intro hfr.1 hfr.2.1) | (have hFRb : _ ≤ _ := hfr.1) | skip); replace FR := Sm.mk (And.intro hfr FR.out); clear hfr; refine Sm.out ?_)
    | (refine Two.mk ?_ ?_)
    | (refine Cs.mk ?_; intro hcs; first | exact False.elim hcs | (exfalso; omega) | (refine Sm.out ?_))
    | go_step
    | omega
    | (simp only [maxLen_eq]; omega)
  (refine OutQ.drop _ _ (perm2 (by simp only [hget, hdel, ↓reduceIte, if_true, if_false, FR.out, hs]; first | done | rfl) (by simp only [hget, hdel, ↓reduceIte, if_true, if_false, FR.out, hs]; first | done | rfl)) (by simp only [resv, ZK, look, loadv, loadn, loadnm, load1, load1m, hget, ↓reduceIte, Nat.reduceEqDiff, Nat.reduceAdd, Nat.reduceMul, Nat.reduceLeDiff, Nat.reduceLT, reduceCtorEq, TFSpC, FR.out, hs]) ⟨nb1, nb2, hFRb, (by simp only [resv, resA, ZK, look, loadv, loadn, loadnm, load1, load1m, hget, ↓reduceIte, Nat.reduceEqDiff, Nat.reduceAdd, Nat.reduceMul, Nat.reduceLeDiff, Nat.reduceLT, reduceCtorEq, TFSpC, FR.out, hs]; first | done | rfl), rfl⟩)
theorem ws_used (b x n k : Nat) (zs xs : List Int) (hd : b ≠ x ∧ x ≠ b) (hn : zs.length = n) (hnk : n ≤ k ∧ k ≤ 9223372036854775807) (hb : By xs) (hl : xs.length ≤ 1000) (hln : n ≤ 100000) :
    ACt Tryd.prog 17 [pt b 0, stz xs] [(x, .zs .u8 zs k 5), (b, bdM b x n k)] (fun r F' => ∃ x k : Nat, (n + xs.length ≤ k ∧ k ≤ 9223372036854775807) ∧ r = .tup [iv .i64 (xs.length : Int), nif] ∧ F' = [(x, .zs .u8 (zs ++ xs) k 5), (b, bdM b x (n + xs.length) k)]) := by
  have c1 := cc_used b (ms x 0 n k)
  have hs := bstr_size xs
  have hu : ((bstr xs).data.toList.map fun b => (b.toNat : Int)) = xs := ubx xs hb
  obtain ⟨B, hB⟩ : ∃ B, B = bstr xs := ⟨_, rfl⟩
  unfold stz
  rw [← hB] at hs hu ⊢
  refine ACt.intro Tryd.func17 rfl (by kernel_rfl) (by simp [Tryd.ntmps17]) (fun cx => ?_)
  simp only [argE, Tryd.ntmps17, Tryd.results17]
  have l1 : n + xs.length ≤ 9223372036854775807 ∧ (n + xs.length) * 1 ≤ 140737488355328 := by omega
  have l2 : k ≤ 9223372036854775807 := hnk.2
  first | (have FRx := FR; clear FRx) | (have FR : Sm (¬ ((1 : Nat) = 0)) := Sm.mk Nat.one_ne_zero)
  repeat' first
    | (refine Sm.mk ?_; try simp -dsimp only [ZK, rvc, drawF, headN, pureH, stp, dvc, calleeOf, gcall, pev, eff, newB, okd, og, ogs, ogo, ogp, slv, bltv, opd, litv, strip, one, both, putE, St.put, look, gdOf, gdv, picka, pickv, pickw, binv, bini, bins, binb, binp, binq, isSlT, bina, shp, eqCells, unv, convv, nilv, faddv, addp, idxav, idxp, load1, load1m, loadn, loadnm, loadv, hget, hset, hrep, hdel, slicev, bnd, shift1, lenv, capv, IntKind.bits, extractv, fieldv, indexv, min2v, max2v, mkiv, cellsA, fillA, buildv, stC, oneC, rowMB, intsA, plN, appE, appZ, appC, appNZ, appNC, VwL, srcC, srcZ, srcM, isBoolT, isPtrT, isSliceT, uOk, Value.oneCell', Nat.reducePow, Int.reducePow, Nat.reduceAdd, Nat.reduceMul, Nat.reduceSub, Nat.reduceLT, Nat.reduceLeDiff, Nat.reduceEqDiff, Nat.reduceBEq, Nat.reduceDiv, Nat.reduceMod, ↓reduceIte, reduceCtorEq, Int.reduceToNat, Int.reduceLT, Int.reduceLE, TFSpC, SeqQ, BlkQ, LoopQ, BodyQ, hs, hu, l1, l2, hn, hd, FR.out])
    | (refine CallV.upd (by simp only [hget, ↓reduceIte, FR.out, hs, hu, l1, l2, hn, hd]; first | done | rfl) (c1) (Sm.out ?_))
    | (refine WP.seq fun K hK => ?_)
    | (refine WP.region (rvc_sound _ _ (Sm.out ?_)))
    | (refine WP.drawK rfl mixed (by decide +kernel) (Sm.out ?_))
    | (refine Ob.mk ?_; focus (first | assumption | omega | decide | trivial | (intro hob; simp only [hob, ZF]; done) | (intros; (repeat' refine And.intro ?_ ?_) <;> first | assumption | omega | trivial | decide) | (intros; simp only [ZE] at *; (repeat' refine And.intro ?_ ?_) <;> first | assumption | omega | trivial)))
    | (refine And.intro (Ob.out ?_) ?_)
    | (refine WP.block ?_)
    | (refine WP.cond rfl (fun hc => ?_) (fun hc => ?_) <;> (try simp only [ZC, reduceCtorEq, ZD] at hc) <;> (try (exact absurd hc (by decide))) <;> (try (exfalso; omega)))
    | ((first | refine WP.skip ?_ | refine WP.exit ?_); simp only [SeqQ, BlkQ, LoopQ, BodyQ, ↓reduceIte, Nat.reduceEqDiff, reduceCtorEq, look, true_and])
    | (refine WP.ret (Sm.out ?_))
    | (first | refine ExG.no (Sm.out ?_) | refine Or.inl (ExG.no (Sm.out ?_)) | refine Or.inl (And.intro (fun hg => absurd hg (by decide)) (ExG.no (Sm.out ?_))))
    | (refine Rt.mk ?_; refine And.intro ?_ ?_ <;> (intro hg; first | exact absurd hg (by decide) | refine Sm.out ?_))
    | (refine Nu.mk ?_; first | (fail_if_success (have := nb1)); intro nb1 | (fail_if_success (have := nb2)); intro nb2 | (fail_if_success (have := nb3)); intro nb3 | (fail_if_success (have := nb4)); intro nb4 | (fail_if_success (have := nb5)); intro nb5 | (fail_if_success (have := nb6)); intro nb6 | intro nbz)
    | (refine Fr.mk ?_; intro hfr; (first | (have hFRb : _ ≤ _ ∧ _ ≤ _ := And.intro hfr.1 hfr.2.1) | (have hFRb : _ ≤ _ := hfr.1) | skip); replace FR := Sm.mk (And.intro hfr FR.out); clear hfr; refine Sm.out ?_)
    | (refine Two.mk ?_ ?_)
    | (refine Cs.mk ?_; intro hcs; first | exact False.elim hcs | (exfalso; omega) | (refine Sm.out ?_))
    | go_step
    | omega
    | (simp only [maxLen_eq]; omega)
  (refine OutQ.drop _ _ (perm2 (by simp only [hget, hdel, ↓reduceIte, if_true, if_false, FR.out, hs, hd]; first | done | rfl) (by simp only [hget, hdel, ↓reduceIte, if_true, if_false, FR.out, hs, hd]; first | done | rfl)) (by simp only [resv, ZK, look, loadv, loadn, loadnm, load1, load1m, hget, ↓reduceIte, Nat.reduceEqDiff, Nat.reduceAdd, Nat.reduceMul, Nat.reduceLeDiff, Nat.reduceLT, reduceCtorEq, TFSpC, FR.out, hs, hd]) ⟨nb1, nb2, hFRb, (by simp only [resv, resA, ZK, look, loadv, loadn, loadnm, load1, load1m, hget, ↓reduceIte, Nat.reduceEqDiff, Nat.reduceAdd, Nat.reduceMul, Nat.reduceLeDiff, Nat.reduceLT, reduceCtorEq, TFSpC, FR.out, hs, hd]; first | done | rfl), rfl⟩)
theorem ar_nil (c : Int) (hc : 0 ≤ c ∧ c < 128) : ACt Tryd.prog 25 [nsl, iv .i32 c] [] (fun r F' => ∃ x k : Nat, (1 ≤ k ∧ k ≤ 9223372036854775807) ∧ r = ms x 0 1 k ∧ F' = [(x, .zs .u8 [c] k 5)]) := by
  refine ACt.intro Tryd.func25 rfl (by kernel_rfl) (by simp [Tryd.ntmps25]) (fun cx => ?_)
  simp only [argE, Tryd.ntmps25, Tryd.results25]
  have w1 : IntKind.u32.wrap c = c := wrap_u32 (by omega) (by omega)
  have w2 : IntKind.u8.wrap c = c := wrap_u8 (by omega) (by omega)
  have k1 : decide (c ≤ 127) = true := decide_eq_true (by omega)
  first | (have FRx := FR; clear FRx) | (have FR : Sm (¬ ((1 : Nat) = 0)) := Sm.mk Nat.one_ne_zero)
  repeat' first
    | (refine Sm.mk ?_; try simp -dsimp only [ZK, rvc, drawF, headN, pureH, stp, dvc, calleeOf, gcall, pev, eff, newB, okd, og, ogs, ogo, ogp, slv, bltv, opd, litv, strip, one, both, putE, St.put, look, gdOf, gdv, picka, pickv, pickw, binv, bini, bins, binb, binp, binq, isSlT, bina, shp, eqCells, unv, convv, nilv, faddv, addp, idxav, idxp, load1, load1m, loadn, loadnm, loadv, hget, hset, hrep, hdel, slicev, bnd, shift1, lenv, capv, IntKind.bits, extractv, fieldv, indexv, min2v, max2v, mkiv, cellsA, fillA, buildv, stC, oneC, rowMB, intsA, plN, appE, appZ, appC, appNZ, appNC, VwL, srcC, srcZ, srcM, isBoolT, isPtrT, isSliceT, uOk, Value.oneCell', Nat.reducePow, Int.reducePow, Nat.reduceAdd, Nat.reduceMul, Nat.reduceSub, Nat.reduceLT, Nat.reduceLeDiff, Nat.reduceEqDiff, Nat.reduceBEq, Nat.reduceDiv, Nat.reduceMod, ↓reduceIte, reduceCtorEq, Int.reduceToNat, Int.reduceLT, Int.reduceLE, TFSpC, SeqQ, BlkQ, LoopQ, BodyQ, w1, w2, k1, FR.out])
    | (refine WP.seq fun K hK => ?_)
    | (refine WP.region (rvc_sound _ _ (Sm.out ?_)))
    | (refine WP.drawK rfl mixed (by decide +kernel) (Sm.out ?_))
    | (refine Ob.mk ?_; focus (first | assumption | omega | decide | trivial | (intro hob; simp only [hob, ZF]; done) | (intros; (repeat' refine And.intro ?_ ?_) <;> first | assumption | omega | trivial | decide) | (intros; simp only [ZE] at *; (repeat' refine And.intro ?_ ?_) <;> first | assumption | omega | trivial)))
    | (refine And.intro (Ob.out ?_) ?_)
    | (refine WP.block ?_)
    | (refine WP.cond rfl (fun hc => ?_) (fun hc => ?_) <;> (try simp only [ZC, reduceCtorEq, ZD] at hc) <;> (try (exact absurd hc (by decide))) <;> (try (exfalso; omega)))
    | ((first | refine WP.skip ?_ | refine WP.exit ?_); simp only [SeqQ, BlkQ, LoopQ, BodyQ, ↓reduceIte, Nat.reduceEqDiff, reduceCtorEq, look, true_and])
    | (refine WP.ret (Sm.out ?_))
    | (first | refine ExG.no (Sm.out ?_) | refine Or.inl (ExG.no (Sm.out ?_)) | refine Or.inl (And.intro (fun hg => absurd hg (by decide)) (ExG.no (Sm.out ?_))))
    | (refine Rt.mk ?_; refine And.intro ?_ ?_ <;> (intro hg; first | exact absurd hg (by decide) | refine Sm.out ?_))
    | (refine Nu.mk ?_; first | (fail_if_success (have := nb1)); intro nb1 | (fail_if_success (have := nb2)); intro nb2 | (fail_if_success (have := nb3)); intro nb3 | (fail_if_success (have := nb4)); intro nb4 | (fail_if_success (have := nb5)); intro nb5 | (fail_if_success (have := nb6)); intro nb6 | intro nbz)
    | (refine Fr.mk ?_; intro hfr; (first | (have hFRb : _ ≤ _ ∧ _ ≤ _ := And.intro hfr.1 hfr.2.1) | (have hFRb : _ ≤ _ := hfr.1) | skip); replace FR := Sm.mk (And.intro hfr FR.out); clear hfr; refine Sm.out ?_)
    | (refine Two.mk ?_ ?_)
    | (refine Cs.mk ?_; intro hcs; first | exact False.elim hcs | (exfalso; omega) | (refine Sm.out ?_))
    | go_step
    | omega
    | (simp only [maxLen_eq]; omega)
  (refine OutQ.drop _ _ (perm1 (by simp only [hget, hdel, ↓reduceIte, if_true, if_false, FR.out]; first | done | rfl)) (by simp only [resv, ZK, look, loadv, loadn, loadnm, load1, load1m, hget, ↓reduceIte, Nat.reduceEqDiff, Nat.reduceAdd, Nat.reduceMul, Nat.reduceLeDiff, Nat.reduceLT, reduceCtorEq, TFSpC, FR.out]) ⟨nb2, nb3, hFRb, (by simp only [resv, resA, ZK, look, loadv, loadn, loadnm, load1, load1m, hget, ↓reduceIte, Nat.reduceEqDiff, Nat.reduceAdd, Nat.reduceMul, Nat.reduceLeDiff, Nat.reduceLT, reduceCtorEq, TFSpC, FR.out]; first | done | rfl), rfl⟩)
theorem ar_used (x n k : Nat) (zs : List Int) (hn : zs.length = n) (hnk : n ≤ k ∧ k ≤ 9223372036854775807) (hln : n ≤ 100000) (c : Int) (hc : 0 ≤ c ∧ c < 128) :
    ACt Tryd.prog 25 [ms x 0 n k, iv .i32 c] [(x, .zs .u8 zs k 5)] (fun r F' => ∃ x k : Nat, (n + 1 ≤ k ∧ k ≤ 9223372036854775807) ∧ r = ms x 0 (n + 1) k ∧ F' = [(x, .zs .u8 (zs ++ [c]) k 5)]) := by
  refine ACt.intro Tryd.func25 rfl (by kernel_rfl) (by simp [Tryd.ntmps25]) (fun cx => ?_)
  simp only [argE, Tryd.ntmps25, Tryd.results25]
  have w1 : IntKind.u32.wrap c = c := wrap_u32 (by omega) (by omega)
  have w2 : IntKind.u8.wrap c = c := wrap_u8 (by omega) (by omega)
  have k1 : decide (c ≤ 127) = true := decide_eq_true (by omega)
  have l1 : n + 1 ≤ 9223372036854775807 ∧ (n + 1) * 1 ≤ 140737488355328 := by omega
  have l2 : k ≤ 9223372036854775807 := hnk.2
  first | (have FRx := FR; clear FRx) | (have FR : Sm (¬ ((1 : Nat) = 0)) := Sm.mk Nat.one_ne_zero)
  repeat' first
    | (refine Sm.mk ?_; try simp -dsimp only [ZK, rvc, drawF, headN, pureH, stp, dvc, calleeOf, gcall, pev, eff, newB, okd, og, ogs, ogo, ogp, slv, bltv, opd, litv, strip, one, both, putE, St.put, look, gdOf, gdv, picka, pickv, pickw, binv, bini, bins, binb, binp, binq, isSlT, bina, shp, eqCells, unv, convv, nilv, faddv, addp, idxav, idxp, load1, load1m, loadn, loadnm, loadv, hget, hset, hrep, hdel, slicev, bnd, shift1, lenv, capv, IntKind.bits, extractv, fieldv, indexv, min2v, max2v, mkiv, cellsA, fillA, buildv, stC, oneC, rowMB, intsA, plN, appE, appZ, appC, appNZ, appNC, VwL, srcC, srcZ, srcM, isBoolT, isPtrT, isSliceT, uOk, Value.oneCell', Nat.reducePow, Int.reducePow, Nat.reduceAdd, Nat.reduceMul, Nat.reduceSub, Nat.reduceLT, Nat.reduceLeDiff, Nat.reduceEqDiff, Nat.reduceBEq, Nat.reduceDiv, Nat.reduceMod, ↓reduceIte, reduceCtorEq, Int.reduceToNat, Int.reduceLT, Int.reduceLE, TFSpC, SeqQ, BlkQ, LoopQ, BodyQ, w1, w2, k1, l1, l2, hn, FR.out])
    | (refine WP.seq fun K hK => ?_)
    | (refine WP.region (rvc_sound _ _ (Sm.out ?_)))
    | (refine WP.drawK rfl mixed (by decide +kernel) (Sm.out ?_))
    | (refine Ob.mk ?_; focus (first | assumption | omega | decide | trivial | (intro hob; simp only [hob, ZF]; done) | (intros; (repeat' refine And.intro ?_ ?_) <;> first | assumption | omega | trivial | decide) | (intros; simp only [ZE] at *; (repeat' refine And.intro ?_ ?_) <;> first | assumption | omega | trivial)))
    | (refine And.intro (Ob.out ?_) ?_)
    | (refine WP.block ?_)
    | (refine WP.cond rfl (fun hc => ?_) (fun hc => ?_) <;> (try simp only [ZC, reduceCtorEq, ZD] at hc) <;> (try (exact absurd hc (by decide))) <;> (try (exfalso; omega)))
    | ((first | refine WP.skip ?_ | refine WP.exit ?_); simp only [SeqQ, BlkQ, LoopQ, BodyQ, ↓reduceIte, Nat.reduceEqDiff, reduceCtorEq, look, true_and])
    | (refine WP.ret (Sm.out ?_))
    | (first | refine ExG.no (Sm.out ?_) | refine Or.inl (ExG.no (Sm.out ?_)) | refine Or.inl (And.intro (fun hg => absurd hg (by decide)) (ExG.no (Sm.out ?_))))
    | (refine Rt.mk ?_; refine And.intro ?_ ?_ <;> (intro hg; first | exact absurd hg (by decide) | refine Sm.out ?_))
    | (refine Nu.mk ?_; first | (fail_if_success (have := nb1)); intro nb1 | (fail_if_success (have := nb2)); intro nb2 | (fail_if_success (have := nb3)); intro nb3 | (fail_if_success (have := nb4)); intro nb4 | (fail_if_success (have := nb5)); intro nb5 | (fail_if_success (have := nb6)); intro nb6 | intro nbz)
    | (refine Fr.mk ?_; intro hfr; (first | (have hFRb : _ ≤ _ ∧ _ ≤ _ := And.intro hfr.1 hfr.2.1) | (have hFRb : _ ≤ _ := hfr.1) | skip); replace FR := Sm.mk (And.intro hfr FR.out); clear hfr; refine Sm.out ?_)
    | (refine Two.mk ?_ ?_)
    | (refine Cs.mk ?_; intro hcs; first | exact False.elim hcs | (exfalso; omega) | (refine Sm.out ?_))
    | go_step
    | omega
    | (simp only [maxLen_eq]; omega)
  (refine OutQ.drop _ _ (perm1 (by simp only [hget, hdel, ↓reduceIte, if_true, if_false, FR.out]; first | done | rfl)) (by simp only [resv, ZK, look, loadv, loadn, loadnm, load1, load1m, hget, ↓reduceIte, Nat.reduceEqDiff, Nat.reduceAdd, Nat.reduceMul, Nat.reduceLeDiff, Nat.reduceLT, reduceCtorEq, TFSpC, FR.out]) ⟨nb2, nb3, hFRb, (by simp only [resv, resA, ZK, look, loadv, loadn, loadnm, load1, load1m, hget, ↓reduceIte, Nat.reduceEqDiff, Nat.reduceAdd, Nat.reduceMul, Nat.reduceLeDiff, Nat.reduceLT, reduceCtorEq, TFSpC, FR.out]; first | done | rfl), rfl⟩)
theorem str_ct (b x n k : Nat) (zs : List Int) (hd : b ≠ x ∧ x ≠ b) (hn : zs.length = n) (h0 : 0 < n) (hk : n ≤ k) (hln : n ≤ 100000) :
    ACt Tryd.prog 20 [pt b 0] [(x, .zs .u8 zs k 5), (b, bdM b x n k)] (Fn (stz zs)) := by
  have e1 : usB Tryd.prog 51 5 = true := by kernel_rfl
  have tk : zs.take n = zs := by rw [← hn, List.take_length]
  have t1 : ((n : Nat) : Int).toNat = n := by omega
  have i1 : (0 : Int) < (n : Int) ∧ (n : Int) ≤ 9223372036854775807 := by omega
  have kk : k ≠ 0 := by omega
  refine ACt.intro Tryd.func20 rfl (by kernel_rfl) (by simp [Tryd.ntmps20]) (fun cx => ?_)
  simp only [argE, Tryd.ntmps20, Tryd.results20]
  first | (have FRx := FR; clear FRx) | (have FR : Sm (¬ ((1 : Nat) = 0)) := Sm.mk Nat.one_ne_zero)
  repeat' first
    | (refine Sm.mk ?_; try simp -dsimp only [ZK, rvc, drawF, headN, pureH, stp, dvc, calleeOf, gcall, pev, eff, newB, okd, og, ogs, ogo, ogp, slv, bltv, opd, litv, strip, one, both, putE, St.put, look, gdOf, gdv, picka, pickv, pickw, binv, bini, bins, binb, binp, binq, isSlT, bina, shp, eqCells, unv, convv, nilv, faddv, addp, idxav, idxp, load1, load1m, loadn, loadnm, loadv, hget, hset, hrep, hdel, slicev, bnd, shift1, lenv, capv, IntKind.bits, extractv, fieldv, indexv, min2v, max2v, mkiv, cellsA, fillA, buildv, stC, oneC, rowMB, intsA, plN, appE, appZ, appC, appNZ, appNC, VwL, srcC, srcZ, srcM, isBoolT, isPtrT, isSliceT, uOk, Value.oneCell', Nat.reducePow, Int.reducePow, Nat.reduceAdd, Nat.reduceMul, Nat.reduceSub, Nat.reduceLT, Nat.reduceLeDiff, Nat.reduceEqDiff, Nat.reduceBEq, Nat.reduceDiv, Nat.reduceMod, ↓reduceIte, reduceCtorEq, Int.reduceToNat, Int.reduceLT, Int.reduceLE, TFSpC, SeqQ, BlkQ, LoopQ, BodyQ, e1, tk, t1, i1, kk, hn, hd, h0, hdel, FR.out])
    | (refine WP.seq fun K hK => ?_)
    | (refine WP.region (rvc_sound _ _ (Sm.out ?_)))
    | (refine WP.drawK rfl mixed (by decide +kernel) (Sm.out ?_))
    | (refine Ob.mk ?_; focus (first | assumption | omega | decide | trivial | (intro hob; simp only [hob, ZF]; done) | (intros; (repeat' refine And.intro ?_ ?_) <;> first | assumption | omega | trivial | decide) | (intros; simp only [ZE] at *; (repeat' refine And.intro ?_ ?_) <;> first | assumption | omega | trivial)))
    | (refine And.intro (Ob.out ?_) ?_)
    | (refine WP.block ?_)
    | (refine WP.cond rfl (fun hc => ?_) (fun hc => ?_) <;> (try simp only [ZC, reduceCtorEq, ZD] at hc) <;> (try (exact absurd hc (by decide))) <;> (try (exfalso; omega)))
    | ((first | refine WP.skip ?_ | refine WP.exit ?_); simp only [SeqQ, BlkQ, LoopQ, BodyQ, ↓reduceIte, Nat.reduceEqDiff, reduceCtorEq, look, true_and])
    | (refine WP.ret (Sm.out ?_))
    | (first | refine ExG.no (Sm.out ?_) | refine Or.inl (ExG.no (Sm.out ?_)) | refine Or.inl (And.intro (fun hg => absurd hg (by decide)) (ExG.no (Sm.out ?_))))
    | (refine Rt.mk ?_; refine And.intro ?_ ?_ <;> (intro hg; first | exact absurd hg (by decide) | refine Sm.out ?_))
    | (refine Nu.mk ?_; first | (fail_if_success (have := nb1)); intro nb1 | (fail_if_success (have := nb2)); intro nb2 | (fail_if_success (have := nb3)); intro nb3 | (fail_if_success (have := nb4)); intro nb4 | (fail_if_success (have := nb5)); intro nb5 | (fail_if_success (have := nb6)); intro nb6 | intro nbz)
    | (refine Fr.mk ?_; intro hfr; (first | (have hFRb : _ ≤ _ ∧ _ ≤ _ := And.intro hfr.1 hfr.2.1) | (have hFRb : _ ≤ _ := hfr.1) | skip); replace FR := Sm.mk (And.intro hfr FR.out); clear hfr; refine Sm.out ?_)
    | (refine Two.mk ?_ ?_)
    | (refine Cs.mk ?_; intro hcs; first | exact False.elim hcs | (exfalso; omega) | (refine Sm.out ?_))
    | go_step
    | omega
    | (simp only [maxLen_eq]; omega)
  (refine OutQ.all ?_ ?_; (focus (simp only [resv, ZK, look, loadv, loadn, loadnm, load1, load1m, hget, ↓reduceIte, Nat.reduceEqDiff, Nat.reduceAdd, Nat.reduceMul, Nat.reduceLeDiff, Nat.reduceLT, reduceCtorEq, TFSpC, tk, FR.out])); (try simp only [resv, resA, Fn, ZK, look, loadv, loadn, loadnm, load1, load1m, hget, ↓reduceIte, Nat.reduceEqDiff, Nat.reduceAdd, Nat.reduceMul, Nat.reduceLeDiff, Nat.reduceLT, reduceCtorEq, TFSpC, tk, FR.out]); (try simp [resA, Fn, look, tk, FR.out]))
end Go.Proofs.YtdfkpnkohikcgaaDoor
namespace Go.Proofs.YtdfkpnkohikcgaaDoor
open Go
set_option linter.unusedVariables false
set_option linter.unusedSimpArgs false
theorem TFSpD : ((((((type_of% tyc0) ∧ (type_of% tyc2)) ∧ ((type_of% zmb2) ∧ (type_of% tyc3))) ∧ (((type_of% zmb3) ∧ (type_of% tyc4)) ∧ ((type_of% zmb4) ∧ (type_of% tyc5)))) ∧ ((((type_of% zmb5) ∧ (type_of% tyc9)) ∧ ((type_of% zmb9) ∧ (type_of% tyc35))) ∧ (((type_of% elt35) ∧ (type_of% mkz35)) ∧ ((type_of% apT35) ∧ ((type_of% elk35) ∧ (type_of% zmb35)))))) ∧ (((((type_of% tyc57) ∧ (type_of% elt57)) ∧ ((type_of% zmb57) ∧ (type_of% bldT57))) ∧ (((type_of% tyc58) ∧ (type_of% zmb58)) ∧ ((type_of% tyc61) ∧ ((type_of% arr157) ∧ (type_of% Tryd.underlying0))))) ∧ ((((type_of% Tryd.underlying2) ∧ (type_of% Tryd.underlying3)) ∧ ((type_of% Tryd.underlying4) ∧ (type_of% Tryd.underlying5))) ∧ (((type_of% Tryd.underlying9) ∧ (type_of% Tryd.underlying35)) ∧ ((type_of% Tryd.underlying57) ∧ ((type_of% Tryd.underlying58) ∧ (type_of% Tryd.underlying61))))))) :=
  ⟨⟨⟨⟨⟨tyc0, tyc2⟩, ⟨zmb2, tyc3⟩⟩, ⟨⟨zmb3, tyc4⟩, ⟨zmb4, tyc5⟩⟩⟩, ⟨⟨⟨zmb5, tyc9⟩, ⟨zmb9, tyc35⟩⟩, ⟨⟨elt35, mkz35⟩, ⟨apT35, ⟨elk35, zmb35⟩⟩⟩⟩⟩, ⟨⟨⟨⟨tyc57, elt57⟩, ⟨zmb57, bldT57⟩⟩, ⟨⟨tyc58, zmb58⟩, ⟨tyc61, ⟨arr157, Tryd.underlying0⟩⟩⟩⟩, ⟨⟨⟨Tryd.underlying2, Tryd.underlying3⟩, ⟨Tryd.underlying4, Tryd.underlying5⟩⟩, ⟨⟨Tryd.underlying9, Tryd.underlying35⟩, ⟨Tryd.underlying57, ⟨Tryd.underlying58, Tryd.underlying61⟩⟩⟩⟩⟩⟩
/-- a number's digits -/
def decD : Nat → Nat → List Int
  | 0, _ => []
  | f + 1, n => (if n / 10 = 0 then [] else decD f (n / 10)) ++ [((48 + n % 10 : Nat) : Int)]
theorem decD_succ (f n : Nat) : decD (f + 1) n = (if n / 10 = 0 then [] else decD f (n / 10)) ++ [((48 + n % 10 : Nat) : Int)] := rfl
abbrev dec (n : Nat) : List Int := decD 20 n
theorem dec_small : ∀ n, n < 100 → dgs n = dec n := by decide +kernel
theorem dec_3 {x : Nat} (h : 100 ≤ x ∧ x < 1000) : dec x = [((48 + x / 100 : Nat) : Int), ((48 + x / 10 % 10 : Nat) : Int), ((48 + x % 10 : Nat) : Int)] := by
  unfold dec
  rw [decD_succ, if_neg (by omega), decD_succ, if_neg (by omega), decD_succ, if_pos (by omega)]
  simp only [List.nil_append, List.cons_append, List.cons.injEq, and_true]
  repeat' apply And.intro
  all_goals first | trivial | omega
theorem dec_4 {x : Nat} (h : 1000 ≤ x ∧ x < 10000) : dec x = [((48 + x / 1000 : Nat) : Int), ((48 + x / 100 % 10 : Nat) : Int), ((48 + x / 10 % 10 : Nat) : Int), ((48 + x % 10 : Nat) : Int)] := by
  unfold dec
  rw [decD_succ, if_neg (by omega), decD_succ, if_neg (by omega), decD_succ, if_neg (by omega), decD_succ, if_pos (by omega)]
  simp only [List.nil_append, List.cons_append, List.cons.injEq, and_true]
  repeat' apply And.intro
  all_goals first | trivial | omega
theorem dec_5 {x : Nat} (h : 10000 ≤ x ∧ x < 100000) : dec x = [((48 + x / 10000 : Nat) : Int), ((48 + x / 1000 % 10 : Nat) : Int), ((48 + x / 100 % 10 : Nat) : Int), ((48 + x / 10 % 10 : Nat) : Int), ((48 + x % 10 : Nat) : Int)] := by
  unfold dec
  rw [decD_succ, if_neg (by omega), decD_succ, if_neg (by omega), decD_succ, if_neg (by omega), decD_succ, if_neg (by omega), decD_succ, if_pos (by omega)]
  simp only [List.nil_append, List.cons_append, List.cons.injEq, and_true]
  repeat' apply And.intro
  all_goals first | trivial | omega
theorem dec_6 {x : Nat} (h : 100000 ≤ x ∧ x < 1000000) : dec x = [((48 + x / 100000 : Nat) : Int), ((48 + x / 10000 % 10 : Nat) : Int), ((48 + x / 1000 % 10 : Nat) : Int), ((48 + x / 100 % 10 : Nat) : Int), ((48 + x / 10 % 10 : Nat) : Int), ((48 + x % 10 : Nat) : Int)] := by
  unfold dec
  rw [decD_succ, if_neg (by omega), decD_succ, if_neg (by omega), decD_succ, if_neg (by omega), decD_succ, if_neg (by omega), decD_succ, if_neg (by omega), decD_succ, if_pos (by omega)]
  simp only [List.nil_append, List.cons_append, List.cons.injEq, and_true]
  repeat' apply And.intro
  all_goals first | trivial | omega
theorem put3_l (a r : Nat) : ((put3 Z0 a r).drop 1).take 3 = [((48 + a : Nat) : Int), ((48 + r / 10 : Nat) : Int), ((48 + r % 10 : Nat) : Int)] := rfl
theorem put3_cut {x : Nat} (h : 100 ≤ x ∧ x < 1000) : ((put3 Z0 (x / 100) (x % 100)).drop 1).take 3 = dec x := by
  rw [dec_3 h, put3_l]
  simp only [List.cons.injEq, and_true]
  repeat' apply And.intro
  all_goals first | trivial | omega
theorem put4_l (u v : Nat) : ((put4 Z0 u v).drop 1).take 4 = [((48 + u / 10 : Nat) : Int), ((48 + u % 10 : Nat) : Int), ((48 + v / 10 : Nat) : Int), ((48 + v % 10 : Nat) : Int)] := rfl
theorem put4_cut {x : Nat} (h : 1000 ≤ x ∧ x < 10000) : ((put4 Z0 (x / 100) (x % 100)).drop 1).take 4 = dec x := by
  rw [dec_4 h, put4_l]
  simp only [List.cons.injEq, and_true]
  repeat' apply And.intro
  all_goals first | trivial | omega
theorem put5_l (a u v : Nat) : ((put5 Z0 a u v).drop 1).take 5 = [((48 + a : Nat) : Int), ((48 + u / 10 : Nat) : Int), ((48 + u % 10 : Nat) : Int), ((48 + v / 10 : Nat) : Int), ((48 + v % 10 : Nat) : Int)] := rfl
theorem put5_cut {x : Nat} (h : 10000 ≤ x ∧ x < 100000) : ((put5 Z0 (x / 10000) (x / 100 % 100) (x % 100)).drop 1).take 5 = dec x := by
  rw [dec_5 h, put5_l]
  simp only [List.cons.injEq, and_true]
  repeat' apply And.intro
  all_goals first | trivial | omega
theorem put6_l (a u v : Nat) : ((put6 Z0 a u v).drop 1).take 6 = [((48 + a / 10 : Nat) : Int), ((48 + a % 10 : Nat) : Int), ((48 + u / 10 : Nat) : Int), ((48 + u % 10 : Nat) : Int), ((48 + v / 10 : Nat) : Int), ((48 + v % 10 : Nat) : Int)] := rfl
theorem put6_cut {x : Nat} (h : 100000 ≤ x ∧ x < 1000000) : ((put6 Z0 (x / 10000) (x / 100 % 100) (x % 100)).drop 1).take 6 = dec x := by
  rw [dec_6 h, put6_l]
  simp only [List.cons.injEq, and_true]
  repeat' apply And.intro
  all_goals first | trivial | omega
/-- what the row of 24 bytes becomes -/
theorem base_all (x : Nat) (hx : 100 ≤ x) (hx6 : x < 1000000) : ∃ Z : List Int, Z.length = 24 ∧ (Z.drop 1).take (nDig x) = dec x ∧
    ∀ b ty, ACt Tryd.prog 31 [ms b 1 (nDig x) 23, iv .u64 (x : Int)] [(b, .zs .u8 Z0 24 ty)] (fun q F' => q = .tup [] ∧ F' = [(b, .zs .u8 Z 24 ty)]) := by
  unfold nDig
  by_cases h1 : x < 1000
  · rw [if_pos h1]
    exact ⟨_, rfl, put3_cut ⟨hx, h1⟩, fun b ty => base3_ct b ty Z0 rfl (x / 100) (x % 100) x (by omega) (by omega) (by omega)⟩
  rw [if_neg h1]
  by_cases h2 : x < 10000
  · rw [if_pos h2]
    exact ⟨_, rfl, put4_cut ⟨by omega, h2⟩, fun b ty => base4_ct b ty Z0 rfl (x / 100) (x % 100) x (by omega) (by omega) (by omega)⟩
  rw [if_neg h2]
  by_cases h3 : x < 100000
  · rw [if_pos h3]
    exact ⟨_, rfl, put5_cut ⟨by omega, h3⟩, fun b ty => base5_ct b ty Z0 rfl (x / 10000) (x / 100 % 100) (x % 100) x (by omega) (by omega) (by omega) (by omega)⟩
  rw [if_neg h3]
  exact ⟨_, rfl, put6_cut ⟨by omega, hx6⟩, fun b ty => base6_ct b ty Z0 rfl (x / 10000) (x / 100 % 100) (x % 100) x (by omega) (by omega) (by omega) (by omega)⟩
theorem nDig_cases (x : Nat) : nDig x = 3 ∨ nDig x = 4 ∨ nDig x = 5 ∨ nDig x = 6 := by
  unfold nDig; (repeat' split) <;> omega
set_option maxHeartbeats 2000000 in
theorem format_ct (n0 x : Nat) (hx : x < 1000000) : ACt Tryd.prog 24 [iv .i64 (x : Int), iv .i64 10] (GG n0) (fun r F' => r = stz (dec x) ∧ F' = GG n0) := by
  by_cases h : x < 100
  · have cS := small_ct x h
    rw [dec_small x h] at cS
    refine ACt.intro Tryd.func24 rfl (by kernel_rfl) (by simp [Tryd.ntmps24]) (fun cx => ?_)
    simp only [argE, Tryd.ntmps24, Tryd.results24, GG, p10]
    have k1 : decide ((0 : Int) ≤ (x : Int)) = true := by simp
    have k2 : decide ((x : Int) < 100) = true := by simp; omega
    first | (have FRx := FR; clear FRx) | (have FR : Sm (¬ ((1 : Nat) = 0)) := Sm.mk Nat.one_ne_zero)
    repeat' first
      | (refine Sm.mk ?_; try simp -dsimp only [ZK, rvc, drawF, headN, pureH, stp, dvc, calleeOf, gcall, pev, eff, newB, okd, og, ogs, ogo, ogp, slv, bltv, opd, litv, strip, one, both, putE, St.put, look, gdOf, gdv, picka, pickv, pickw, binv, bini, bins, binb, binp, binq, isSlT, bina, shp, eqCells, unv, convv, nilv, faddv, addp, idxav, idxp, load1, load1m, loadn, loadnm, loadv, hget, hset, hrep, hdel, slicev, bnd, shift1, lenv, capv, IntKind.bits, extractv, fieldv, indexv, min2v, max2v, mkiv, cellsA, fillA, buildv, stC, oneC, rowMB, intsA, plN, appE, appZ, appC, appNZ, appNC, VwL, srcC, srcZ, srcM, isBoolT, isPtrT, isSliceT, uOk, Value.oneCell', Nat.reducePow, Int.reducePow, Nat.reduceAdd, Nat.reduceMul, Nat.reduceSub, Nat.reduceLT, Nat.reduceLeDiff, Nat.reduceEqDiff, Nat.reduceBEq, Nat.reduceDiv, Nat.reduceMod, ↓reduceIte, reduceCtorEq, Int.reduceToNat, Int.reduceLT, Int.reduceLE, TFSpD, SeqQ, BlkQ, LoopQ, BodyQ, k1, k2, FR.out])
      | (first | refine CallV.fn (cS) (Sm.out ?_) | refine ExF.mk (cS) (Sm.out ?_) | refine ExG.mk (fun _ => cS) (Sm.out ?_) | refine ExG.mkJ (fun _ => cS) (Sm.out ?_) | refine ExG.mkI (Ob.out ?_) (fun _ => cS) (Sm.out ?_))
      | (refine WP.seq fun K hK => ?_)
      | (refine WP.region (rvc_sound _ _ (Sm.out ?_)))
      | (refine WP.drawK rfl mixed (by decide +kernel) (Sm.out ?_))
      | (refine Ob.mk ?_; focus (first | assumption | omega | decide | trivial | (intro hob; simp only [hob, ZF]; done) | (intros; (repeat' refine And.intro ?_ ?_) <;> first | assumption | omega | trivial | decide) | (intros; simp only [ZE] at *; (repeat' refine And.intro ?_ ?_) <;> first | assumption | omega | trivial)))
      | (refine And.intro (Ob.out ?_) ?_)
      | (refine WP.block ?_)
      | (refine WP.cond rfl (fun hc => ?_) (fun hc => ?_) <;> (try simp only [ZC, reduceCtorEq, ZD] at hc) <;> (try (exact absurd hc (by decide))) <;> (try (exfalso; omega)))
      | ((first | refine WP.skip ?_ | refine WP.exit ?_); simp only [SeqQ, BlkQ, LoopQ, BodyQ, ↓reduceIte, Nat.reduceEqDiff, reduceCtorEq, look, true_and])
      | (refine WP.ret (Sm.out ?_))
      | (first | refine ExG.no (Sm.out ?_) | refine Or.inl (ExG.no (Sm.out ?_)) | refine Or.inl (And.intro (fun hg => absurd hg (by decide)) (ExG.no (Sm.out ?_))))
      | (refine Rt.mk ?_; refine And.intro ?_ ?_ <;> (intro hg; first | exact absurd hg (by decide) | refine Sm.out ?_))
      | (refine Nu.mk ?_; first | (fail_if_success (have := nb1)); intro nb1 | (fail_if_success (have := nb2)); intro nb2 | (fail_if_success (have := nb3)); intro nb3 | (fail_if_success (have := nb4)); intro nb4 | intro nbz)
      | (refine Fr.mk ?_; intro hfr; (first | (have hFRb : _ ≤ _ ∧ _ ≤ _ := And.intro hfr.1 hfr.2.1) | (have hFRb : _ ≤ _ := hfr.1) | skip); replace FR := Sm.mk (And.intro hfr FR.out); clear hfr; refine Sm.out ?_)
      | (refine Two.mk ?_ ?_)
      | (refine Cs.mk ?_; intro hcs; first | exact False.elim hcs | (exfalso; omega) | (refine Sm.out ?_))
      | go_step
      | omega
      | (simp only [maxLen_eq]; omega)
    (refine OutQ.upd (by simp only [resv, ZK, look, loadv, loadn, loadnm, load1, load1m, hget, ↓reduceIte, Nat.reduceEqDiff, Nat.reduceAdd, Nat.reduceMul, Nat.reduceLeDiff, Nat.reduceLT, reduceCtorEq, TFSpD, FR.out]) (by simp only [resv, resA, ZK, look, loadv, loadn, loadnm, load1, load1m, hget, ↓reduceIte, Nat.reduceEqDiff, Nat.reduceAdd, Nat.reduceMul, Nat.reduceLeDiff, Nat.reduceLT, reduceCtorEq, TFSpD, FR.out]; first | done | rfl) (by simp only [hget, ↓reduceIte, if_true, if_false, FR.out]; first | done | rfl) ?_ <;> first | exact rfl | (simp only [ZK, look, loadv, loadn, loadnm, load1, load1m, hget, ↓reduceIte, Nat.reduceEqDiff, Nat.reduceAdd, Nat.reduceMul, Nat.reduceLeDiff, Nat.reduceLT, reduceCtorEq, TFSpD, FR.out]; done) | skip)
  · have cN := numd_ct n0 x (by omega) hx
    obtain ⟨Z, lZ, cZ, cB⟩ := base_all x (by omega) hx
    obtain ⟨D, hD⟩ : ∃ D, D = dec x := ⟨_, rfl⟩
    rw [← hD] at cZ ⊢
    have hk := nDig_cases x
    obtain ⟨k, ek⟩ : ∃ k, k = nDig x := ⟨_, rfl⟩
    rw [← ek] at cN cZ hk
    simp only [← ek] at cB
    have k1 : decide ((0 : Int) ≤ (x : Int)) = true := by simp
    have k2 : decide ((x : Int) < 100) = false := by simp; omega
    have k3 : decide ((x : Int) < 0) = false := by simp
    have w1 : IntKind.u64.wrap (x : Int) = (x : Int) := wrap_u64 (by omega) (by omega)
    have w3 : IntKind.i64.wrap (1 + 3) = 4 := by decide
    have w4 : IntKind.i64.wrap (1 + 4) = 5 := by decide
    have w5 : IntKind.i64.wrap (1 + 5) = 6 := by decide
    have w6 : IntKind.i64.wrap (1 + 6) = 7 := by decide
    simp only [GG, p10] at cN
    refine ACt.intro Tryd.func24 rfl (by kernel_rfl) (by simp [Tryd.ntmps24]) (fun cx => ?_)
    simp only [argE, Tryd.ntmps24, Tryd.results24, GG, p10]
    have z3 : ((3 : Nat) : Int) = 3 := rfl
    have z4 : ((4 : Nat) : Int) = 4 := rfl
    have z5 : ((5 : Nat) : Int) = 5 := rfl
    have z6 : ((6 : Nat) : Int) = 6 := rfl
    rcases hk with rfl | rfl | rfl | rfl
    · rw [z3] at cN
      first | (have FRx := FR; clear FRx) | (have FR : Sm (¬ ((1 : Nat) = 0)) := Sm.mk Nat.one_ne_zero)
      repeat' first
        | (refine Sm.mk ?_; try simp -dsimp only [ZK, rvc, drawF, headN, pureH, stp, dvc, calleeOf, gcall, pev, eff, newB, okd, og, ogs, ogo, ogp, slv, bltv, opd, litv, strip, one, both, putE, St.put, look, gdOf, gdv, picka, pickv, pickw, binv, bini, bins, binb, binp, binq, isSlT, bina, shp, eqCells, unv, convv, nilv, faddv, addp, idxav, idxp, load1, load1m, loadn, loadnm, loadv, hget, hset, hrep, hdel, slicev, bnd, shift1, lenv, capv, IntKind.bits, extractv, fieldv, indexv, min2v, max2v, mkiv, cellsA, fillA, buildv, stC, oneC, rowMB, intsA, plN, appE, appZ, appC, appNZ, appNC, VwL, srcC, srcZ, srcM, isBoolT, isPtrT, isSliceT, uOk, Value.oneCell', Nat.reducePow, Int.reducePow, Nat.reduceAdd, Nat.reduceMul, Nat.reduceSub, Nat.reduceLT, Nat.reduceLeDiff, Nat.reduceEqDiff, Nat.reduceBEq, Nat.reduceDiv, Nat.reduceMod, ↓reduceIte, reduceCtorEq, Int.reduceToNat, Int.reduceLT, Int.reduceLE, TFSpD, SeqQ, BlkQ, LoopQ, BodyQ, k1, k2, k3, w1, w3, FR.out])
        | (refine CallV.upd (by simp only [hget, ↓reduceIte, FR.out, k1, k2, k3, w1, w3]; first | done | rfl) (cN) (Sm.out ?_))
        | (refine CallV.upd (by simp only [hget, ↓reduceIte, FR.out, k1, k2, k3, w1, w3]; first | done | rfl) (cB _ _) (Sm.out ?_))
        | (refine WP.seq fun K hK => ?_)
        | (refine WP.region (rvc_sound _ _ (Sm.out ?_)))
        | (refine WP.drawK rfl mixed (by decide +kernel) (Sm.out ?_))
        | (refine Ob.mk ?_; focus (first | assumption | omega | decide | trivial | (intro hob; simp only [hob, ZF]; done) | (intros; (repeat' refine And.intro ?_ ?_) <;> first | assumption | omega | trivial | decide) | (intros; simp only [ZE] at *; (repeat' refine And.intro ?_ ?_) <;> first | assumption | omega | trivial)))
        | (refine And.intro (Ob.out ?_) ?_)
        | (refine WP.block ?_)
        | (refine WP.cond rfl (fun hc => ?_) (fun hc => ?_) <;> (try simp only [ZC, reduceCtorEq, ZD] at hc) <;> (try (exact absurd hc (by decide))) <;> (try (exfalso; omega)))
        | ((first | refine WP.skip ?_ | refine WP.exit ?_); simp only [SeqQ, BlkQ, LoopQ, BodyQ, ↓reduceIte, Nat.reduceEqDiff, reduceCtorEq, look, true_and])
        | (refine WP.ret (Sm.out ?_))
        | (first | refine ExG.no (Sm.out ?_) | refine Or.inl (ExG.no (Sm.out ?_)) | refine Or.inl (And.intro (fun hg => absurd hg (by decide)) (ExG.no (Sm.out ?_))))
        | (refine Rt.mk ?_; refine And.intro ?_ ?_ <;> (intro hg; first | exact absurd hg (by decide) | refine Sm.out ?_))
        | (refine Nu.mk ?_; first | (fail_if_success (have := nb1)); intro nb1 | (fail_if_success (have := nb2)); intro nb2 | (fail_if_success (have := nb3)); intro nb3 | (fail_if_success (have := nb4)); intro nb4 | intro nbz)
        | (refine Fr.mk ?_; intro hfr; (first | (have hFRb : _ ≤ _ ∧ _ ≤ _ := And.intro hfr.1 hfr.2.1) | (have hFRb : _ ≤ _ := hfr.1) | skip); replace FR := Sm.mk (And.intro hfr FR.out); clear hfr; refine Sm.out ?_)
        | (refine Two.mk ?_ ?_)
        | (refine Cs.mk ?_; intro hcs; first | exact False.elim hcs | (exfalso; omega) | (refine Sm.out ?_))
        | go_step
        | omega
        | (simp only [maxLen_eq]; omega)
      (refine OutQ.upd (by simp only [resv, ZK, look, loadv, loadn, loadnm, load1, load1m, hget, ↓reduceIte, Nat.reduceEqDiff, Nat.reduceAdd, Nat.reduceMul, Nat.reduceLeDiff, Nat.reduceLT, reduceCtorEq, TFSpD, FR.out, cZ]) (by simp only [resv, resA, ZK, look, loadv, loadn, loadnm, load1, load1m, hget, ↓reduceIte, Nat.reduceEqDiff, Nat.reduceAdd, Nat.reduceMul, Nat.reduceLeDiff, Nat.reduceLT, reduceCtorEq, TFSpD, FR.out, cZ]; first | done | rfl) (by simp only [hget, ↓reduceIte, if_true, if_false, FR.out, cZ]; first | done | rfl) ?_ <;> first | exact rfl | (simp only [ZK, look, loadv, loadn, loadnm, load1, load1m, hget, ↓reduceIte, Nat.reduceEqDiff, Nat.reduceAdd, Nat.reduceMul, Nat.reduceLeDiff, Nat.reduceLT, reduceCtorEq, TFSpD, FR.out, cZ]; done) | skip)
    · rw [z4] at cN
      first | (have FRx := FR; clear FRx) | (have FR : Sm (¬ ((1 : Nat) = 0)) := Sm.mk Nat.one_ne_zero)
      repeat' first
        | (refine Sm.mk ?_; try simp -dsimp only [ZK, rvc, drawF, headN, pureH, stp, dvc, calleeOf, gcall, pev, eff, newB, okd, og, ogs, ogo, ogp, slv, bltv, opd, litv, strip, one, both, putE, St.put, look, gdOf, gdv, picka, pickv, pickw, binv, bini, bins, binb, binp, binq, isSlT, bina, shp, eqCells, unv, convv, nilv, faddv, addp, idxav, idxp, load1, load1m, loadn, loadnm, loadv, hget, hset, hrep, hdel, slicev, bnd, shift1, lenv, capv, IntKind.bits, extractv, fieldv, indexv, min2v, max2v, mkiv, cellsA, fillA, buildv, stC, oneC, rowMB, intsA, plN, appE, appZ, appC, appNZ, appNC, VwL, srcC, srcZ, srcM, isBoolT, isPtrT, isSliceT, uOk, Value.oneCell', Nat.reducePow, Int.reducePow, Nat.reduceAdd, Nat.reduceMul, Nat.reduceSub, Nat.reduceLT, Nat.reduceLeDiff, Nat.reduceEqDiff, Nat.reduceBEq, Nat.reduceDiv, Nat.reduceMod, ↓reduceIte, reduceCtorEq, Int.reduceToNat, Int.reduceLT, Int.reduceLE, TFSpD, SeqQ, BlkQ, LoopQ, BodyQ, k1, k2, k3, w1, w4, FR.out])
        | (refine CallV.upd (by simp only [hget, ↓reduceIte, FR.out, k1, k2, k3, w1, w4]; first | done | rfl) (cN) (Sm.out ?_))
        | (refine CallV.upd (by simp only [hget, ↓reduceIte, FR.out, k1, k2, k3, w1, w4]; first | done | rfl) (cB _ _) (Sm.out ?_))
        | (refine WP.seq fun K hK => ?_)
        | (refine WP.region (rvc_sound _ _ (Sm.out ?_)))
        | (refine WP.drawK rfl mixed (by decide +kernel) (Sm.out ?_))
        | (refine Ob.mk ?_; focus (first | assumption | omega | decide | trivial | (intro hob; simp only [hob, ZF]; done) | (intros; (repeat' refine And.intro ?_ ?_) <;> first | assumption | omega | trivial | decide) | (intros; simp only [ZE] at *; (repeat' refine And.intro ?_ ?_) <;> first | assumption | omega | trivial)))
        | (refine And.intro (Ob.out ?_) ?_)
        | (refine WP.block ?_)
        | (refine WP.cond rfl (fun hc => ?_) (fun hc => ?_) <;> (try simp only [ZC, reduceCtorEq, ZD] at hc) <;> (try (exact absurd hc (by decide))) <;> (try (exfalso; omega)))
        | ((first | refine WP.skip ?_ | refine WP.exit ?_); simp only [SeqQ, BlkQ, LoopQ, BodyQ, ↓reduceIte, Nat.reduceEqDiff, reduceCtorEq, look, true_and])
        | (refine WP.ret (Sm.out ?_))
        | (first | refine ExG.no (Sm.out ?_) | refine Or.inl (ExG.no (Sm.out ?_)) | refine Or.inl (And.intro (fun hg => absurd hg (by decide)) (ExG.no (Sm.out ?_))))
        | (refine Rt.mk ?_; refine And.intro ?_ ?_ <;> (intro hg; first | exact absurd hg (by decide) | refine Sm.out ?_))
        | (refine Nu.mk ?_; first | (fail_if_success (have := nb1)); intro nb1 | (fail_if_success (have := nb2)); intro nb2 | (fail_if_success (have := nb3)); intro nb3 | (fail_if_success (have := nb4)); intro nb4 | intro nbz)
        | (refine Fr.mk ?_; intro hfr; (first | (have hFRb : _ ≤ _ ∧ _ ≤ _ := And.intro hfr.1 hfr.2.1) | (have hFRb : _ ≤ _ := hfr.1) | skip); replace FR := Sm.mk (And.intro hfr FR.out); clear hfr; refine Sm.out ?_)
        | (refine Two.mk ?_ ?_)
        | (refine Cs.mk ?_; intro hcs; first | exact False.elim hcs | (exfalso; omega) | (refine Sm.out ?_))
        | go_step
        | omega
        | (simp only [maxLen_eq]; omega)
      (refine OutQ.upd (by simp only [resv, ZK, look, loadv, loadn, loadnm, load1, load1m, hget, ↓reduceIte, Nat.reduceEqDiff, Nat.reduceAdd, Nat.reduceMul, Nat.reduceLeDiff, Nat.reduceLT, reduceCtorEq, TFSpD, FR.out, cZ]) (by simp only [resv, resA, ZK, look, loadv, loadn, loadnm, load1, load1m, hget, ↓reduceIte, Nat.reduceEqDiff, Nat.reduceAdd, Nat.reduceMul, Nat.reduceLeDiff, Nat.reduceLT, reduceCtorEq, TFSpD, FR.out, cZ]; first | done | rfl) (by simp only [hget, ↓reduceIte, if_true, if_false, FR.out, cZ]; first | done | rfl) ?_ <;> first | exact rfl | (simp only [ZK, look, loadv, loadn, loadnm, load1, load1m, hget, ↓reduceIte, Nat.reduceEqDiff, Nat.reduceAdd, Nat.reduceMul, Nat.reduceLeDiff, Nat.reduceLT, reduceCtorEq, TFSpD, FR.out, cZ]; done) | skip)
    · rw [z5] at cN
      first | (have FRx := FR; clear FRx) | (have FR : Sm (¬ ((1 : Nat) = 0)) := Sm.mk Nat.one_ne_zero)
      repeat' first
        | (refine Sm.mk ?_; try simp -dsimp only [ZK, rvc, drawF, headN, pureH, stp, dvc, calleeOf, gcall, pev, eff, newB, okd, og, ogs, ogo, ogp, slv, bltv, opd, litv, strip, one, both, putE, St.put, look, gdOf, gdv, picka, pickv, pickw, binv, bini, bins, binb, binp, binq, isSlT, bina, shp, eqCells, unv, convv, nilv, faddv, addp, idxav, idxp, load1, load1m, loadn, loadnm, loadv, hget, hset, hrep, hdel, slicev, bnd, shift1, lenv, capv, IntKind.bits, extractv, fieldv, indexv, min2v, max2v, mkiv, cellsA, fillA, buildv, stC, oneC, rowMB, intsA, plN, appE, appZ, appC, appNZ, appNC, VwL, srcC, srcZ, srcM, isBoolT, isPtrT, isSliceT, uOk, Value.oneCell', Nat.reducePow, Int.reducePow, Nat.reduceAdd, Nat.reduceMul, Nat.reduceSub, Nat.reduceLT, Nat.reduceLeDiff, Nat.reduceEqDiff, Nat.reduceBEq, Nat.reduceDiv, Nat.reduceMod, ↓reduceIte, reduceCtorEq, Int.reduceToNat, Int.reduceLT, Int.reduceLE, TFSpD, SeqQ, BlkQ, LoopQ, BodyQ, k1, k2, k3, w1, w5, FR.out])
        | (refine CallV.upd (by simp only [hget, ↓reduceIte, FR.out, k1, k2, k3, w1, w5]; first | done | rfl) (cN) (Sm.out ?_))
        | (refine CallV.upd (by simp only [hget, ↓reduceIte, FR.out, k1, k2, k3, w1, w5]; first | done | rfl) (cB _ _) (Sm.out ?_))
        | (refine WP.seq fun K hK => ?_)
        | (refine WP.region (rvc_sound _ _ (Sm.out ?_)))
        | (refine WP.drawK rfl mixed (by decide +kernel) (Sm.out ?_))
        | (refine Ob.mk ?_; focus (first | assumption | omega | decide | trivial | (intro hob; simp only [hob, ZF]; done) | (intros; (repeat' refine And.intro ?_ ?_) <;> first | assumption | omega | trivial | decide) | (intros; simp only [ZE] at *; (repeat' refine And.intro ?_ ?_) <;> first | assumption | omega | trivial)))
        | (refine And.intro (Ob.out ?_) ?_)
        | (refine WP.block ?_)
        | (refine WP.cond rfl (fun hc => ?_) (fun hc => ?_) <;> (try simp only [ZC, reduceCtorEq, ZD] at hc) <;> (try (exact absurd hc (by decide))) <;> (try (exfalso; omega)))
        | ((first | refine WP.skip ?_ | refine WP.exit ?_); simp only [SeqQ, BlkQ, LoopQ, BodyQ, ↓reduceIte, Nat.reduceEqDiff, reduceCtorEq, look, true_and])
        | (refine WP.ret (Sm.out ?_))
        | (first | refine ExG.no (Sm.out ?_) | refine Or.inl (ExG.no (Sm.out ?_)) | refine Or.inl (And.intro (fun hg => absurd hg (by decide)) (ExG.no (Sm.out ?_))))
        | (refine Rt.mk ?_; refine And.intro ?_ ?_ <;> (intro hg; first | exact absurd hg (by decide) | refine Sm.out ?_))
        | (refine Nu.mk ?_; first | (fail_if_success (have := nb1)); intro nb1 | (fail_if_success (have := nb2)); intro nb2 | (fail_if_success (have := nb3)); intro nb3 | (fail_if_success (have := nb4)); intro nb4 | intro nbz)
        | (refine Fr.mk ?_; intro hfr; (first | (have hFRb : _ ≤ _ ∧ _ ≤ _ := And.intro hfr.1 hfr.2.1) | (have hFRb : _ ≤ _ := hfr.1) | skip); replace FR := Sm.mk (And.intro hfr FR.out); clear hfr; refine Sm.out ?_)
        | (refine Two.mk ?_ ?_)
        | (refine Cs.mk ?_; intro hcs; first | exact False.elim hcs | (exfalso; omega) | (refine Sm.out ?_))
        | go_step
        | omega
        | (simp only [maxLen_eq]; omega)
      (refine OutQ.upd (by simp only [resv, ZK, look, loadv, loadn, loadnm, load1, load1m, hget, ↓reduceIte, Nat.reduceEqDiff, Nat.reduceAdd, Nat.reduceMul, Nat.reduceLeDiff, Nat.reduceLT, reduceCtorEq, TFSpD, FR.out, cZ]) (by simp only [resv, resA, ZK, look, loadv, loadn, loadnm, load1, load1m, hget, ↓reduceIte, Nat.reduceEqDiff, Nat.reduceAdd, Nat.reduceMul, Nat.reduceLeDiff, Nat.reduceLT, reduceCtorEq, TFSpD, FR.out, cZ]; first | done | rfl) (by simp only [hget, ↓reduceIte, if_true, if_false, FR.out, cZ]; first | done | rfl) ?_ <;> first | exact rfl | (simp only [ZK, look, loadv, loadn, loadnm, load1, load1m, hget, ↓reduceIte, Nat.reduceEqDiff, Nat.reduceAdd, Nat.reduceMul, Nat.reduceLeDiff, Nat.reduceLT, reduceCtorEq, TFSpD, FR.out, cZ]; done) | skip)
    · rw [z6] at cN
      first | (have FRx := FR; clear FRx) | (have FR : Sm (¬ ((1 : Nat) = 0)) := Sm.mk Nat.one_ne_zero)
      repeat' first
        | (refine Sm.mk ?_; try simp -dsimp only [ZK, rvc, drawF, headN, pureH, stp, dvc, calleeOf, gcall, pev, eff, newB, okd, og, ogs, ogo, ogp, slv, bltv, opd, litv, strip, one, both, putE, St.put, look, gdOf, gdv, picka, pickv, pickw, binv, bini, bins, binb, binp, binq, isSlT, bina, shp, eqCells, unv, convv, nilv, faddv, addp, idxav, idxp, load1, load1m, loadn, loadnm, loadv, hget, hset, hrep, hdel, slicev, bnd, shift1, lenv, capv, IntKind.bits, extractv, fieldv, indexv, min2v, max2v, mkiv, cellsA, fillA, buildv, stC, oneC, rowMB, intsA, plN, appE, appZ, appC, appNZ, appNC, VwL, srcC, srcZ, srcM, isBoolT, isPtrT, isSliceT, uOk, Value.oneCell', Nat.reducePow, Int.reducePow, Nat.reduceAdd, Nat.reduceMul, Nat.reduceSub, Nat.reduceLT, Nat.reduceLeDiff, Nat.reduceEqDiff, Nat.reduceBEq, Nat.reduceDiv, Nat.reduceMod, ↓reduceIte, reduceCtorEq, Int.reduceToNat, Int.reduceLT, Int.reduceLE, TFSpD, SeqQ, BlkQ, LoopQ, BodyQ, k1, k2, k3, w1, w6, FR.out])
        | (refine CallV.upd (by simp only [hget, ↓reduceIte, FR.out, k1, k2, k3, w1, w6]; first | done | rfl) (cN) (Sm.out ?_))
        | (refine CallV.upd (by simp only [hget, ↓reduceIte, FR.out, k1, k2, k3, w1, w6]; first | done | rfl) (cB _ _) (Sm.out ?_))
        | (refine WP.seq fun K hK => ?_)
        | (refine WP.region (rvc_sound _ _ (Sm.out ?_)))
        | (refine WP.drawK rfl mixed (by decide +kernel) (Sm.out ?_))
        | (refine Ob.mk ?_; focus (first | assumption | omega | decide | trivial | (intro hob; simp only [hob, ZF]; done) | (intros; (repeat' refine And.intro ?_ ?_) <;> first | assumption | omega | trivial | decide) | (intros; simp only [ZE] at *; (repeat' refine And.intro ?_ ?_) <;> first | assumption | omega | trivial)))
        | (refine And.intro (Ob.out ?_) ?_)
        | (refine WP.block ?_)
        | (refine WP.cond rfl (fun hc => ?_) (fun hc => ?_) <;> (try simp only [ZC, reduceCtorEq, ZD] at hc) <;> (try (exact absurd hc (by decide))) <;> (try (exfalso; omega)))
        | ((first | refine WP.skip ?_ | refine WP.exit ?_); simp only [SeqQ, BlkQ, LoopQ, BodyQ, ↓reduceIte, Nat.reduceEqDiff, reduceCtorEq, look, true_and])
        | (refine WP.ret (Sm.out ?_))
        | (first | refine ExG.no (Sm.out ?_) | refine Or.inl (ExG.no (Sm.out ?_)) | refine Or.inl (And.intro (fun hg => absurd hg (by decide)) (ExG.no (Sm.out ?_))))
        | (refine Rt.mk ?_; refine And.intro ?_ ?_ <;> (intro hg; first | exact absurd hg (by decide) | refine Sm.out ?_))
        | (refine Nu.mk ?_; first | (fail_if_success (have := nb1)); intro nb1 | (fail_if_success (have := nb2)); intro nb2 | (fail_if_success (have := nb3)); intro nb3 | (fail_if_success (have := nb4)); intro nb4 | intro nbz)
        | (refine Fr.mk ?_; intro hfr; (first | (have hFRb : _ ≤ _ ∧ _ ≤ _ := And.intro hfr.1 hfr.2.1) | (have hFRb : _ ≤ _ := hfr.1) | skip); replace FR := Sm.mk (And.intro hfr FR.out); clear hfr; refine Sm.out ?_)
        | (refine Two.mk ?_ ?_)
        | (refine Cs.mk ?_; intro hcs; first | exact False.elim hcs | (exfalso; omega) | (refine Sm.out ?_))
        | go_step
        | omega
        | (simp only [maxLen_eq]; omega)
      (refine OutQ.upd (by simp only [resv, ZK, look, loadv, loadn, loadnm, load1, load1m, hget, ↓reduceIte, Nat.reduceEqDiff, Nat.reduceAdd, Nat.reduceMul, Nat.reduceLeDiff, Nat.reduceLT, reduceCtorEq, TFSpD, FR.out, cZ]) (by simp only [resv, resA, ZK, look, loadv, loadn, loadnm, load1, load1m, hget, ↓reduceIte, Nat.reduceEqDiff, Nat.reduceAdd, Nat.reduceMul, Nat.reduceLeDiff, Nat.reduceLT, reduceCtorEq, TFSpD, FR.out, cZ]; first | done | rfl) (by simp only [hget, ↓reduceIte, if_true, if_false, FR.out, cZ]; first | done | rfl) ?_ <;> first | exact rfl | (simp only [ZK, look, loadv, loadn, loadnm, load1, load1m, hget, ↓reduceIte, Nat.reduceEqDiff, Nat.reduceAdd, Nat.reduceMul, Nat.reduceLeDiff, Nat.reduceLT, reduceCtorEq, TFSpD, FR.out, cZ]; done) | skip)
theorem fmt_ct (n0 x : Nat) (hx : x < 1000000) : ACt Tryd.prog 18 [iv .i64 (x : Int), iv .i64 10] (GG n0) (fun r F' => r = stz (dec x) ∧ F' = GG n0) := by
  have cF := format_ct n0 x hx
  refine ACt.intro Tryd.func18 rfl (by kernel_rfl) (by simp [Tryd.ntmps18]) (fun cx => ?_)
  simp only [argE, Tryd.ntmps18, Tryd.results18, GG, p10] at cF ⊢
  first | (have FRx := FR; clear FRx) | (have FR : Sm (¬ ((1 : Nat) = 0)) := Sm.mk Nat.one_ne_zero)
  repeat' first
    | (refine Sm.mk ?_; try simp -dsimp only [ZK, rvc, drawF, headN, pureH, stp, dvc, calleeOf, gcall, pev, eff, newB, okd, og, ogs, ogo, ogp, slv, bltv, opd, litv, strip, one, both, putE, St.put, look, gdOf, gdv, picka, pickv, pickw, binv, bini, bins, binb, binp, binq, isSlT, bina, shp, eqCells, unv, convv, nilv, faddv, addp, idxav, idxp, load1, load1m, loadn, loadnm, loadv, hget, hset, hrep, hdel, slicev, bnd, shift1, lenv, capv, IntKind.bits, extractv, fieldv, indexv, min2v, max2v, mkiv, cellsA, fillA, buildv, stC, oneC, rowMB, intsA, plN, appE, appZ, appC, appNZ, appNC, VwL, srcC, srcZ, srcM, isBoolT, isPtrT, isSliceT, uOk, Value.oneCell', Nat.reducePow, Int.reducePow, Nat.reduceAdd, Nat.reduceMul, Nat.reduceSub, Nat.reduceLT, Nat.reduceLeDiff, Nat.reduceEqDiff, Nat.reduceBEq, Nat.reduceDiv, Nat.reduceMod, ↓reduceIte, reduceCtorEq, Int.reduceToNat, Int.reduceLT, Int.reduceLE, TFSpD, SeqQ, BlkQ, LoopQ, BodyQ, FR.out])
    | (refine CallV.upd (by simp only [hget, ↓reduceIte, FR.out]; first | done | rfl) (cF) (Sm.out ?_))
    | (refine WP.seq fun K hK => ?_)
    | (refine WP.region (rvc_sound _ _ (Sm.out ?_)))
    | (refine WP.drawK rfl mixed (by decide +kernel) (Sm.out ?_))
    | (refine Ob.mk ?_; focus (first | assumption | omega | decide | trivial | (intro hob; simp only [hob, ZF]; done) | (intros; (repeat' refine And.intro ?_ ?_) <;> first | assumption | omega | trivial | decide) | (intros; simp only [ZE] at *; (repeat' refine And.intro ?_ ?_) <;> first | assumption | omega | trivial)))
    | (refine And.intro (Ob.out ?_) ?_)
    | (refine WP.block ?_)
    | (refine WP.cond rfl (fun hc => ?_) (fun hc => ?_) <;> (try simp only [ZC, reduceCtorEq, ZD] at hc) <;> (try (exact absurd hc (by decide))) <;> (try (exfalso; omega)))
    | ((first | refine WP.skip ?_ | refine WP.exit ?_); simp only [SeqQ, BlkQ, LoopQ, BodyQ, ↓reduceIte, Nat.reduceEqDiff, reduceCtorEq, look, true_and])
    | (refine WP.ret (Sm.out ?_))
    | (first | refine ExG.no (Sm.out ?_) | refine Or.inl (ExG.no (Sm.out ?_)) | refine Or.inl (And.intro (fun hg => absurd hg (by decide)) (ExG.no (Sm.out ?_))))
    | (refine Rt.mk ?_; refine And.intro ?_ ?_ <;> (intro hg; first | exact absurd hg (by decide) | refine Sm.out ?_))
    | (refine Nu.mk ?_; first | (fail_if_success (have := nb1)); intro nb1 | (fail_if_success (have := nb2)); intro nb2 | (fail_if_success (have := nb3)); intro nb3 | (fail_if_success (have := nb4)); intro nb4 | intro nbz)
    | (refine Fr.mk ?_; intro hfr; (first | (have hFRb : _ ≤ _ ∧ _ ≤ _ := And.intro hfr.1 hfr.2.1) | (have hFRb : _ ≤ _ := hfr.1) | skip); replace FR := Sm.mk (And.intro hfr FR.out); clear hfr; refine Sm.out ?_)
    | (refine Two.mk ?_ ?_)
    | (refine Cs.mk ?_; intro hcs; first | exact False.elim hcs | (exfalso; omega) | (refine Sm.out ?_))
    | go_step
    | omega
    | (simp only [maxLen_eq]; omega)
  (refine OutQ.upd (by simp only [resv, ZK, look, loadv, loadn, loadnm, load1, load1m, hget, ↓reduceIte, Nat.reduceEqDiff, Nat.reduceAdd, Nat.reduceMul, Nat.reduceLeDiff, Nat.reduceLT, reduceCtorEq, TFSpD, FR.out]) (by simp only [resv, resA, ZK, look, loadv, loadn, loadnm, load1, load1m, hget, ↓reduceIte, Nat.reduceEqDiff, Nat.reduceAdd, Nat.reduceMul, Nat.reduceLeDiff, Nat.reduceLT, reduceCtorEq, TFSpD, FR.out]; first | done | rfl) (by simp only [hget, ↓reduceIte, if_true, if_false, FR.out]; first | done | rfl) ?_ <;> first | exact rfl | (simp only [ZK, look, loadv, loadn, loadnm, load1, load1m, hget, ↓reduceIte, Nat.reduceEqDiff, Nat.reduceAdd, Nat.reduceMul, Nat.reduceLeDiff, Nat.reduceLT, reduceCtorEq, TFSpD, FR.out]; done) | skip)
end Go.Proofs.YtdfkpnkohikcgaaDoor
