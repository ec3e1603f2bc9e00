/-
  The walks and the laws that the statement leans on, part 5.
-/
import Derived.Test.YtjdjpgjjnajjhaaDoorZ4
namespace Go.Proofs.YtjdjpgjjnajjhaaDoor
open Go
set_option linter.unusedVariables false
set_option linter.unusedSimpArgs false
theorem TFTxB : ((((((type_of% tyc0) ∧ (type_of% tyc3)) ∧ ((type_of% zmb3) ∧ ((type_of% tyc4) ∧ (type_of% zmb4)))) ∧ (((type_of% tyc5) ∧ ((type_of% zmb5) ∧ (type_of% tyc9))) ∧ ((type_of% zmb9) ∧ ((type_of% tyc21) ∧ (type_of% zmb21))))) ∧ ((((type_of% tyc35) ∧ ((type_of% elt35) ∧ (type_of% mkz35))) ∧ ((type_of% apT35) ∧ ((type_of% elk35) ∧ (type_of% zmb35)))) ∧ (((type_of% tyc36) ∧ ((type_of% zmb36) ∧ (type_of% tyc38))) ∧ ((type_of% foff38_0) ∧ ((type_of% fpart38_0) ∧ (type_of% foff38_1)))))) ∧ (((((type_of% fpart38_1) ∧ ((type_of% zmb38) ∧ (type_of% bldT38))) ∧ ((type_of% tyc40) ∧ ((type_of% zmb40) ∧ (type_of% tyc60)))) ∧ (((type_of% zmb60) ∧ ((type_of% tyc62) ∧ (type_of% zmb62))) ∧ ((type_of% tyc64) ∧ ((type_of% zmb64) ∧ (type_of% Tryd.underlying0))))) ∧ ((((type_of% Tryd.underlying3) ∧ ((type_of% Tryd.underlying4) ∧ (type_of% Tryd.underlying5))) ∧ ((type_of% Tryd.underlying9) ∧ ((type_of% Tryd.underlying21) ∧ (type_of% Tryd.underlying35)))) ∧ (((type_of% Tryd.underlying36) ∧ ((type_of% Tryd.underlying38) ∧ (type_of% Tryd.underlying40))) ∧ ((type_of% Tryd.underlying60) ∧ ((type_of% Tryd.underlying62) ∧ (type_of% Tryd.underlying64))))))) :=
  ⟨⟨⟨⟨⟨tyc0, tyc3⟩, ⟨zmb3, ⟨tyc4, zmb4⟩⟩⟩, ⟨⟨tyc5, ⟨zmb5, tyc9⟩⟩, ⟨zmb9, ⟨tyc21, zmb21⟩⟩⟩⟩, ⟨⟨⟨tyc35, ⟨elt35, mkz35⟩⟩, ⟨apT35, ⟨elk35, zmb35⟩⟩⟩, ⟨⟨tyc36, ⟨zmb36, tyc38⟩⟩, ⟨foff38_0, ⟨fpart38_0, foff38_1⟩⟩⟩⟩⟩, ⟨⟨⟨⟨fpart38_1, ⟨zmb38, bldT38⟩⟩, ⟨tyc40, ⟨zmb40, tyc60⟩⟩⟩, ⟨⟨zmb60, ⟨tyc62, zmb62⟩⟩, ⟨tyc64, ⟨zmb64, Tryd.underlying0⟩⟩⟩⟩, ⟨⟨⟨Tryd.underlying3, ⟨Tryd.underlying4, Tryd.underlying5⟩⟩, ⟨Tryd.underlying9, ⟨Tryd.underlying21, Tryd.underlying35⟩⟩⟩, ⟨⟨Tryd.underlying36, ⟨Tryd.underlying38, Tryd.underlying40⟩⟩, ⟨Tryd.underlying60, ⟨Tryd.underlying62, Tryd.underlying64⟩⟩⟩⟩⟩⟩
abbrev nps : AV := .lit (.pointer none)
abbrev nsl : AV := .lit (.slice none 0 0)
abbrev nif : AV := .lit .nilIface
theorem noesc_ct (b : Nat) : ACt Tryd.prog 40 [pt b 0] [] (Fn (pt b 0)) :=
  ACt.outer (ls := [.pointer (some ⟨b, 0, none⟩)]) rfl (by decide +kernel) rfl (by decide +kernel) rfl fun w => ⟨_, rfl, fun I => .lit _⟩
theorem cc_nil (b : Nat) (S : AV) : ACt Tryd.prog 34 [pt b 0] [(b, .cells [nps, S] 2 38)] (fun r F' => r = .tup [] ∧ F' = [(b, .cells [pt b 0, S] 2 38)]) := by
  have cE := noesc_ct b
  have e1 : ptB Tryd.prog 36 = true := by kernel_rfl
  have e2 : toUB Tryd.prog 36 = true := by kernel_rfl
  have e3 : frUB Tryd.prog 62 38 2 38 0 = true := by kernel_rfl
  refine ACt.intro Tryd.func34 rfl (by kernel_rfl) (by simp [Tryd.ntmps34]) (fun cx => ?_)
  simp only [argE, Tryd.ntmps34, Tryd.results34]
  first | (have FRx := FR; clear FRx) | (have FR : Sm (¬ ((1 : Nat) = 0)) := Sm.mk Nat.one_ne_zero)
  repeat' first
    | (refine Sm.mk ?_; try simp -dsimp only [ZK, rvc, drawF, headN, pureH, stp, dvc, calleeOf, gcall, pev, eff, newB, okd, og, ogs, ogo, ogp, slv, bltv, opd, litv, strip, one, both, putE, St.put, look, gdOf, gdv, picka, pickv, pickw, binv, bini, bins, binb, binp, binq, isSlT, bina, shp, eqCells, unv, convv, nilv, faddv, addp, idxav, idxp, load1, load1m, loadn, loadnm, loadv, hget, hset, hrep, hdel, slicev, bnd, shift1, lenv, capv, IntKind.bits, extractv, fieldv, indexv, min2v, max2v, mkiv, cellsA, fillA, buildv, stC, oneC, rowMB, intsA, plN, appE, appZ, appC, appNZ, appNC, VwL, srcC, srcZ, srcM, isBoolT, isPtrT, isSliceT, uOk, Value.oneCell', Nat.reducePow, Int.reducePow, Nat.reduceAdd, Nat.reduceMul, Nat.reduceSub, Nat.reduceLT, Nat.reduceLeDiff, Nat.reduceEqDiff, Nat.reduceBEq, Nat.reduceDiv, Nat.reduceMod, ↓reduceIte, reduceCtorEq, Int.reduceToNat, Int.reduceLT, Int.reduceLE, TFTxB, SeqQ, BlkQ, LoopQ, BodyQ, e1, e2, e3, FR.out])
    | (first | refine CallV.fn (cE) (Sm.out ?_) | refine ExF.mk (cE) (Sm.out ?_) | refine ExG.mk (fun _ => cE) (Sm.out ?_) | refine ExG.mkJ (fun _ => cE) (Sm.out ?_) | refine ExG.mkI (Ob.out ?_) (fun _ => cE) (Sm.out ?_))
    | (refine WP.seq fun K hK => ?_)
    | (refine WP.region (rvc_sound _ _ (Sm.out ?_)))
    | (refine WP.drawK rfl mixed (by decide +kernel) (Sm.out ?_))
    | (refine Ob.mk ?_; focus (first | assumption | omega | decide | trivial | (intro hob; simp only [hob, ZF]; done) | (intros; (repeat' refine And.intro ?_ ?_) <;> first | assumption | omega | trivial | decide) | (intros; simp only [ZE] at *; (repeat' refine And.intro ?_ ?_) <;> first | assumption | omega | trivial)))
    | (refine And.intro (Ob.out ?_) ?_)
    | (refine WP.block ?_)
    | (refine WP.cond rfl (fun hc => ?_) (fun hc => ?_) <;> (try simp only [ZC, reduceCtorEq, ZD] at hc) <;> (try (exact absurd hc (by decide))) <;> (try (exfalso; omega)))
    | ((first | refine WP.skip ?_ | refine WP.exit ?_); simp only [SeqQ, BlkQ, LoopQ, BodyQ, ↓reduceIte, Nat.reduceEqDiff, reduceCtorEq, look, true_and])
    | (refine WP.ret (Sm.out ?_))
    | (first | refine ExG.no (Sm.out ?_) | refine Or.inl (ExG.no (Sm.out ?_)) | refine Or.inl (And.intro (fun hg => absurd hg (by decide)) (ExG.no (Sm.out ?_))))
    | (refine Rt.mk ?_; refine And.intro ?_ ?_ <;> (intro hg; first | exact absurd hg (by decide) | refine Sm.out ?_))
    | (refine Nu.mk ?_; first | (fail_if_success (have := nb1)); intro nb1 | (fail_if_success (have := nb2)); intro nb2 | (fail_if_success (have := nb3)); intro nb3 | (fail_if_success (have := nb4)); intro nb4 | (fail_if_success (have := nb5)); intro nb5 | (fail_if_success (have := nb6)); intro nb6 | intro nbz)
    | (refine Fr.mk ?_; intro hfr; (first | (have hFRb : _ ≤ _ ∧ _ ≤ _ := And.intro hfr.1 hfr.2.1) | (have hFRb : _ ≤ _ := hfr.1) | skip); replace FR := Sm.mk (And.intro hfr FR.out); clear hfr; refine Sm.out ?_)
    | (refine Two.mk ?_ ?_)
    | (refine Cs.mk ?_; intro hcs; first | exact False.elim hcs | (exfalso; omega) | (refine Sm.out ?_))
    | go_step
    | omega
    | (simp only [maxLen_eq]; omega)
  (refine OutQ.upd (by simp only [resv, ZK, look, loadv, loadn, loadnm, load1, load1m, hget, ↓reduceIte, Nat.reduceEqDiff, Nat.reduceAdd, Nat.reduceMul, Nat.reduceLeDiff, Nat.reduceLT, reduceCtorEq, TFTxB, FR.out]) (by simp only [resv, resA, ZK, look, loadv, loadn, loadnm, load1, load1m, hget, ↓reduceIte, Nat.reduceEqDiff, Nat.reduceAdd, Nat.reduceMul, Nat.reduceLeDiff, Nat.reduceLT, reduceCtorEq, TFTxB, FR.out]; first | done | rfl) (by simp only [hget, ↓reduceIte, if_true, if_false, FR.out]; first | done | rfl) ?_ <;> first | exact rfl | (simp only [ZK, look, loadv, loadn, loadnm, load1, load1m, hget, ↓reduceIte, Nat.reduceEqDiff, Nat.reduceAdd, Nat.reduceMul, Nat.reduceLeDiff, Nat.reduceLT, reduceCtorEq, TFTxB, FR.out]; done) | skip)
theorem cc_used (b : Nat) (S : AV) : ACt Tryd.prog 34 [pt b 0] [(b, .cells [pt b 0, S] 2 38)] (fun r F' => r = .tup [] ∧ F' = [(b, .cells [pt b 0, S] 2 38)]) := by
  have e1 : ptB Tryd.prog 36 = true := by kernel_rfl
  refine ACt.intro Tryd.func34 rfl (by kernel_rfl) (by simp [Tryd.ntmps34]) (fun cx => ?_)
  simp only [argE, Tryd.ntmps34, Tryd.results34]
  first | (have FRx := FR; clear FRx) | (have FR : Sm (¬ ((1 : Nat) = 0)) := Sm.mk Nat.one_ne_zero)
  repeat' first
    | (refine Sm.mk ?_; try simp -dsimp only [ZK, rvc, drawF, headN, pureH, stp, dvc, calleeOf, gcall, pev, eff, newB, okd, og, ogs, ogo, ogp, slv, bltv, opd, litv, strip, one, both, putE, St.put, look, gdOf, gdv, picka, pickv, pickw, binv, bini, bins, binb, binp, binq, isSlT, bina, shp, eqCells, unv, convv, nilv, faddv, addp, idxav, idxp, load1, load1m, loadn, loadnm, loadv, hget, hset, hrep, hdel, slicev, bnd, shift1, lenv, capv, IntKind.bits, extractv, fieldv, indexv, min2v, max2v, mkiv, cellsA, fillA, buildv, stC, oneC, rowMB, intsA, plN, appE, appZ, appC, appNZ, appNC, VwL, srcC, srcZ, srcM, isBoolT, isPtrT, isSliceT, uOk, Value.oneCell', Nat.reducePow, Int.reducePow, Nat.reduceAdd, Nat.reduceMul, Nat.reduceSub, Nat.reduceLT, Nat.reduceLeDiff, Nat.reduceEqDiff, Nat.reduceBEq, Nat.reduceDiv, Nat.reduceMod, ↓reduceIte, reduceCtorEq, Int.reduceToNat, Int.reduceLT, Int.reduceLE, TFTxB, SeqQ, BlkQ, LoopQ, BodyQ, e1, FR.out])
    | (refine WP.seq fun K hK => ?_)
    | (refine WP.region (rvc_sound _ _ (Sm.out ?_)))
    | (refine WP.drawK rfl mixed (by decide +kernel) (Sm.out ?_))
    | (refine Ob.mk ?_; focus (first | assumption | omega | decide | trivial | (intro hob; simp only [hob, ZF]; done) | (intros; (repeat' refine And.intro ?_ ?_) <;> first | assumption | omega | trivial | decide) | (intros; simp only [ZE] at *; (repeat' refine And.intro ?_ ?_) <;> first | assumption | omega | trivial)))
    | (refine And.intro (Ob.out ?_) ?_)
    | (refine WP.block ?_)
    | (refine WP.cond rfl (fun hc => ?_) (fun hc => ?_) <;> (try simp only [ZC, reduceCtorEq, ZD] at hc) <;> (try (exact absurd hc (by decide))) <;> (try (exfalso; omega)))
    | ((first | refine WP.skip ?_ | refine WP.exit ?_); simp only [SeqQ, BlkQ, LoopQ, BodyQ, ↓reduceIte, Nat.reduceEqDiff, reduceCtorEq, look, true_and])
    | (refine WP.ret (Sm.out ?_))
    | (first | refine ExG.no (Sm.out ?_) | refine Or.inl (ExG.no (Sm.out ?_)) | refine Or.inl (And.intro (fun hg => absurd hg (by decide)) (ExG.no (Sm.out ?_))))
    | (refine Rt.mk ?_; refine And.intro ?_ ?_ <;> (intro hg; first | exact absurd hg (by decide) | refine Sm.out ?_))
    | (refine Nu.mk ?_; first | (fail_if_success (have := nb1)); intro nb1 | (fail_if_success (have := nb2)); intro nb2 | (fail_if_success (have := nb3)); intro nb3 | (fail_if_success (have := nb4)); intro nb4 | (fail_if_success (have := nb5)); intro nb5 | (fail_if_success (have := nb6)); intro nb6 | intro nbz)
    | (refine Fr.mk ?_; intro hfr; (first | (have hFRb : _ ≤ _ ∧ _ ≤ _ := And.intro hfr.1 hfr.2.1) | (have hFRb : _ ≤ _ := hfr.1) | skip); replace FR := Sm.mk (And.intro hfr FR.out); clear hfr; refine Sm.out ?_)
    | (refine Two.mk ?_ ?_)
    | (refine Cs.mk ?_; intro hcs; first | exact False.elim hcs | (exfalso; omega) | (refine Sm.out ?_))
    | go_step
    | omega
    | (simp only [maxLen_eq]; omega)
  (refine OutQ.upd (by simp only [resv, ZK, look, loadv, loadn, loadnm, load1, load1m, hget, ↓reduceIte, Nat.reduceEqDiff, Nat.reduceAdd, Nat.reduceMul, Nat.reduceLeDiff, Nat.reduceLT, reduceCtorEq, TFTxB, FR.out]) (by simp only [resv, resA, ZK, look, loadv, loadn, loadnm, load1, load1m, hget, ↓reduceIte, Nat.reduceEqDiff, Nat.reduceAdd, Nat.reduceMul, Nat.reduceLeDiff, Nat.reduceLT, reduceCtorEq, TFTxB, FR.out]; first | done | rfl) (by simp only [hget, ↓reduceIte, if_true, if_false, FR.out]; first | done | rfl) ?_ <;> first | exact rfl | (simp only [ZK, look, loadv, loadn, loadnm, load1, load1m, hget, ↓reduceIte, Nat.reduceEqDiff, Nat.reduceAdd, Nat.reduceMul, Nat.reduceLeDiff, Nat.reduceLT, reduceCtorEq, TFTxB, FR.out]; done) | skip)
/-- a builder that was written: its row, and what it has room for -/
abbrev bdM (b x n k : Nat) : MB := .cells [pt b 0, ms x 0 n k] 2 38
abbrev bd0 : MB := .cells [nps, nsl] 2 38
theorem ubx (xs : List Int) (hb : By xs) : ub (bstr xs).data.toList = xs := by
  apply List.ext_getElem
  · simp [ub, bstr]
  · intro i h1 h2
    have := hb i h2
    rw [List.getD_eq_getElem?_getD, List.getElem?_eq_getElem h2, Option.getD_some] at this
    simp only [ub, bstr, List.getElem_map]
    rw [UInt8.toNat_ofNat', Nat.mod_eq_of_lt (by omega)]
    omega
theorem ws_nil (b : Nat) (xs : List Int) (hb : By xs) (h0 : 0 < xs.length) (hl : xs.length ≤ 1000) :
    ACt Tryd.prog 26 [pt b 0, stz xs] [(b, bd0)] (fun r F' => ∃ x k : Nat, (xs.length ≤ k ∧ k ≤ 9223372036854775807) ∧ r = .tup [iv .i64 (xs.length : Int), nif] ∧ F' = [(x, .zs .u8 xs k 5), (b, bdM b x xs.length k)]) := by
  have c1 := cc_nil b nsl
  have hs := bstr_size xs
  have hu : ((bstr xs).data.toList.map fun b => (b.toNat : Int)) = xs := ubx xs hb
  obtain ⟨B, hB⟩ : ∃ B, B = bstr xs := ⟨_, rfl⟩
  unfold stz
  rw [← hB] at hs hu ⊢
  refine ACt.intro Tryd.func26 rfl (by kernel_rfl) (by simp [Tryd.ntmps26]) (fun cx => ?_)
  simp only [argE, Tryd.ntmps26, Tryd.results26]
  have l1 : xs.length ≤ 9223372036854775807 ∧ xs.length * 1 ≤ 140737488355328 := by omega
  first | (have FRx := FR; clear FRx) | (have FR : Sm (¬ ((1 : Nat) = 0)) := Sm.mk Nat.one_ne_zero)
  repeat' first
    | (refine Sm.mk ?_; try simp -dsimp only [ZK, rvc, drawF, headN, pureH, stp, dvc, calleeOf, gcall, pev, eff, newB, okd, og, ogs, ogo, ogp, slv, bltv, opd, litv, strip, one, both, putE, St.put, look, gdOf, gdv, picka, pickv, pickw, binv, bini, bins, binb, binp, binq, isSlT, bina, shp, eqCells, unv, convv, nilv, faddv, addp, idxav, idxp, load1, load1m, loadn, loadnm, loadv, hget, hset, hrep, hdel, slicev, bnd, shift1, lenv, capv, IntKind.bits, extractv, fieldv, indexv, min2v, max2v, mkiv, cellsA, fillA, buildv, stC, oneC, rowMB, intsA, plN, appE, appZ, appC, appNZ, appNC, VwL, srcC, srcZ, srcM, isBoolT, isPtrT, isSliceT, uOk, Value.oneCell', Nat.reducePow, Int.reducePow, Nat.reduceAdd, Nat.reduceMul, Nat.reduceSub, Nat.reduceLT, Nat.reduceLeDiff, Nat.reduceEqDiff, Nat.reduceBEq, Nat.reduceDiv, Nat.reduceMod, ↓reduceIte, reduceCtorEq, Int.reduceToNat, Int.reduceLT, Int.reduceLE, TFTxB, SeqQ, BlkQ, LoopQ, BodyQ, hs, hu, h0, l1, FR.out])
    | (refine CallV.upd (by simp only [hget, ↓reduceIte, FR.out, hs, hu, h0, l1]; first | done | rfl) (c1) (Sm.out ?_))
    | (refine WP.seq fun K hK => ?_)
    | (refine WP.region (rvc_sound _ _ (Sm.out ?_)))
    | (refine WP.drawK rfl mixed (by decide +kernel) (Sm.out ?_))
    | (refine Ob.mk ?_; focus (first | assumption | omega | decide | trivial | (intro hob; simp only [hob, ZF]; done) | (intros; (repeat' refine And.intro ?_ ?_) <;> first | assumption | omega | trivial | decide) | (intros; simp only [ZE] at *; (repeat' refine And.intro ?_ ?_) <;> first | assumption | omega | trivial)))
    | (refine And.intro (Ob.out ?_) ?_)
    | (refine WP.block ?_)
    | (refine WP.cond rfl (fun hc => ?_) (fun hc => ?_) <;> (try simp only [ZC, reduceCtorEq, ZD] at hc) <;> (try (exact absurd hc (by decide))) <;> (try (exfalso; omega)))
    | ((first | refine WP.skip ?_ | refine WP.exit ?_); simp only [SeqQ, BlkQ, LoopQ, BodyQ, ↓reduceIte, Nat.reduceEqDiff, reduceCtorEq, look, true_and])
    | (refine WP.ret (Sm.out ?_))
    | (first | refine ExG.no (Sm.out ?_) | refine Or.inl (ExG.no (Sm.out ?_)) | refine Or.inl (And.intro (fun hg => absurd hg (by decide)) (ExG.no (Sm.out ?_))))
    | (refine Rt.mk ?_; refine And.intro ?_ ?_ <;> (intro hg; first | exact absurd hg (by decide) | refine Sm.out ?_))
    | (refine Nu.mk ?_; first | (fail_if_success (have := nb1)); intro nb1 | (fail_if_success (have := nb2)); intro nb2 | (fail_if_success (have := nb3)); intro nb3 | (fail_if_success (have := nb4)); intro nb4 | (fail_if_success (have := nb5)); intro nb5 | (fail_if_success (have := nb6)); intro nb6 | intro nbz)
    | (refine Fr.mk ?_; intro hfr; (first | (have hFRb : _ ≤ _ ∧ _ ≤ _ := And.intro hfr.1 hfr.2.1) | (have hFRb : _ ≤ _ := hfr.1) | skip); replace FR := Sm.mk (And.intro hfr FR.out); clear hfr; refine Sm.out ?_)
    | (refine Two.mk ?_ ?_)
    | (refine Cs.mk ?_; intro hcs; first | exact False.elim hcs | (exfalso; omega) | (refine Sm.out ?_))
    | go_step
    | omega
    | (simp only [maxLen_eq]; omega)
  (refine OutQ.drop _ _ (perm2 (by simp only [hget, hdel, ↓reduceIte, if_true, if_false, FR.out, hs]; first | done | rfl) (by simp only [hget, hdel, ↓reduceIte, if_true, if_false, FR.out, hs]; first | done | rfl)) (by simp only [resv, ZK, look, loadv, loadn, loadnm, load1, load1m, hget, ↓reduceIte, Nat.reduceEqDiff, Nat.reduceAdd, Nat.reduceMul, Nat.reduceLeDiff, Nat.reduceLT, reduceCtorEq, TFTxB, FR.out, hs]) ⟨nb1, nb2, hFRb, (by simp only [resv, resA, ZK, look, loadv, loadn, loadnm, load1, load1m, hget, ↓reduceIte, Nat.reduceEqDiff, Nat.reduceAdd, Nat.reduceMul, Nat.reduceLeDiff, Nat.reduceLT, reduceCtorEq, TFTxB, FR.out, hs]; first | done | rfl), rfl⟩)
theorem ws_used (b x n k : Nat) (zs xs : List Int) (hd : b ≠ x ∧ x ≠ b) (hn : zs.length = n) (hnk : n ≤ k ∧ k ≤ 9223372036854775807) (hb : By xs) (hl : xs.length ≤ 1000) (hln : n ≤ 100000) :
    ACt Tryd.prog 26 [pt b 0, stz xs] [(x, .zs .u8 zs k 5), (b, bdM b x n k)] (fun r F' => ∃ x k : Nat, (n + xs.length ≤ k ∧ k ≤ 9223372036854775807) ∧ r = .tup [iv .i64 (xs.length : Int), nif] ∧ F' = [(x, .zs .u8 (zs ++ xs) k 5), (b, bdM b x (n + xs.length) k)]) := by
  have c1 := cc_used b (ms x 0 n k)
  have hs := bstr_size xs
  have hu : ((bstr xs).data.toList.map fun b => (b.toNat : Int)) = xs := ubx xs hb
  obtain ⟨B, hB⟩ : ∃ B, B = bstr xs := ⟨_, rfl⟩
  unfold stz
  rw [← hB] at hs hu ⊢
  refine ACt.intro Tryd.func26 rfl (by kernel_rfl) (by simp [Tryd.ntmps26]) (fun cx => ?_)
  simp only [argE, Tryd.ntmps26, Tryd.results26]
  have l1 : n + xs.length ≤ 9223372036854775807 ∧ (n + xs.length) * 1 ≤ 140737488355328 := by omega
  have l2 : k ≤ 9223372036854775807 := hnk.2
  first | (have FRx := FR; clear FRx) | (have FR : Sm (¬ ((1 : Nat) = 0)) := Sm.mk Nat.one_ne_zero)
  repeat' first
    | (refine Sm.mk ?_; try simp -dsimp only [ZK, rvc, drawF, headN, pureH, stp, dvc, calleeOf, gcall, pev, eff, newB, okd, og, ogs, ogo, ogp, slv, bltv, opd, litv, strip, one, both, putE, St.put, look, gdOf, gdv, picka, pickv, pickw, binv, bini, bins, binb, binp, binq, isSlT, bina, shp, eqCells, unv, convv, nilv, faddv, addp, idxav, idxp, load1, load1m, loadn, loadnm, loadv, hget, hset, hrep, hdel, slicev, bnd, shift1, lenv, capv, IntKind.bits, extractv, fieldv, indexv, min2v, max2v, mkiv, cellsA, fillA, buildv, stC, oneC, rowMB, intsA, plN, appE, appZ, appC, appNZ, appNC, VwL, srcC, srcZ, srcM, isBoolT, isPtrT, isSliceT, uOk, Value.oneCell', Nat.reducePow, Int.reducePow, Nat.reduceAdd, Nat.reduceMul, Nat.reduceSub, Nat.reduceLT, Nat.reduceLeDiff, Nat.reduceEqDiff, Nat.reduceBEq, Nat.reduceDiv, Nat.reduceMod, ↓reduceIte, reduceCtorEq, Int.reduceToNat, Int.reduceLT, Int.reduceLE, TFTxB, SeqQ, BlkQ, LoopQ, BodyQ, hs, hu, l1, l2, hn, hd, FR.out])
    | (refine CallV.upd (by simp only [hget, ↓reduceIte, FR.out, hs, hu, l1, l2, hn, hd]; first | done | rfl) (c1) (Sm.out ?_))
    | (refine WP.seq fun K hK => ?_)
    | (refine WP.region (rvc_sound _ _ (Sm.out ?_)))
    | (refine WP.drawK rfl mixed (by decide +kernel) (Sm.out ?_))
    | (refine Ob.mk ?_; focus (first | assumption | omega | decide | trivial | (intro hob; simp only [hob, ZF]; done) | (intros; (repeat' refine And.intro ?_ ?_) <;> first | assumption | omega | trivial | decide) | (intros; simp only [ZE] at *; (repeat' refine And.intro ?_ ?_) <;> first | assumption | omega | trivial)))
    | (refine And.intro (Ob.out ?_) ?_)
    | (refine WP.block ?_)
    | (refine WP.cond rfl (fun hc => ?_) (fun hc => ?_) <;> (try simp only [ZC, reduceCtorEq, ZD] at hc) <;> (try (exact absurd hc (by decide))) <;> (try (exfalso; omega)))
    | ((first | refine WP.skip ?_ | refine WP.exit ?_); simp only [SeqQ, BlkQ, LoopQ, BodyQ, ↓reduceIte, Nat.reduceEqDiff, reduceCtorEq, look, true_and])
    | (refine WP.ret (Sm.out ?_))
    | (first | refine ExG.no (Sm.out ?_) | refine Or.inl (ExG.no (Sm.out ?_)) | refine Or.inl (And.intro (fun hg => absurd hg (by decide)) (ExG.no (Sm.out ?_))))
    | (refine Rt.mk ?_; refine And.intro ?_ ?_ <;> (intro hg; first | exact absurd hg (by decide) | refine Sm.out ?_))
    | (refine Nu.mk ?_; first | (fail_if_success (have := nb1)); intro nb1 | (fail_if_success (have := nb2)); intro nb2 | (fail_if_success (have := nb3)); intro nb3 | (fail_if_success (have := nb4)); intro nb4 | (fail_if_success (have := nb5)); intro nb5 | (fail_if_success (have := nb6)); intro nb6 | intro nbz)
    | (refine Fr.mk ?_; intro hfr; (first | (have hFRb : _ ≤ _ ∧ _ ≤ _ := And.intro hfr.1 hfr.2.1) | (have hFRb : _ ≤ _ := hfr.1) | skip); replace FR := Sm.mk (And.intro hfr FR.out); clear hfr; refine Sm.out ?_)
    | (refine Two.mk ?_ ?_)
    | (refine Cs.mk ?_; intro hcs; first | exact False.elim hcs | (exfalso; omega) | (refine Sm.out ?_))
    | go_step
    | omega
    | (simp only [maxLen_eq]; omega)
  (refine OutQ.drop _ _ (perm2 (by simp only [hget, hdel, ↓reduceIte, if_true, if_false, FR.out, hs, hd]; first | done | rfl) (by simp only [hget, hdel, ↓reduceIte, if_true, if_false, FR.out, hs, hd]; first | done | rfl)) (by simp only [resv, ZK, look, loadv, loadn, loadnm, load1, load1m, hget, ↓reduceIte, Nat.reduceEqDiff, Nat.reduceAdd, Nat.reduceMul, Nat.reduceLeDiff, Nat.reduceLT, reduceCtorEq, TFTxB, FR.out, hs, hd]) ⟨nb1, nb2, hFRb, (by simp only [resv, resA, ZK, look, loadv, loadn, loadnm, load1, load1m, hget, ↓reduceIte, Nat.reduceEqDiff, Nat.reduceAdd, Nat.reduceMul, Nat.reduceLeDiff, Nat.reduceLT, reduceCtorEq, TFTxB, FR.out, hs, hd]; first | done | rfl), rfl⟩)
theorem ar_nil (c : Int) (hc : 0 ≤ c ∧ c < 128) : ACt Tryd.prog 35 [nsl, iv .i32 c] [] (fun r F' => ∃ x k : Nat, (1 ≤ k ∧ k ≤ 9223372036854775807) ∧ r = ms x 0 1 k ∧ F' = [(x, .zs .u8 [c] k 5)]) := by
  refine ACt.intro Tryd.func35 rfl (by kernel_rfl) (by simp [Tryd.ntmps35]) (fun cx => ?_)
  simp only [argE, Tryd.ntmps35, Tryd.results35]
  have w1 : IntKind.u32.wrap c = c := wrap_u32 (by omega) (by omega)
  have w2 : IntKind.u8.wrap c = c := wrap_u8 (by omega) (by omega)
  have k1 : decide (c ≤ 127) = true := decide_eq_true (by omega)
  first | (have FRx := FR; clear FRx) | (have FR : Sm (¬ ((1 : Nat) = 0)) := Sm.mk Nat.one_ne_zero)
  repeat' first
    | (refine Sm.mk ?_; try simp -dsimp only [ZK, rvc, drawF, headN, pureH, stp, dvc, calleeOf, gcall, pev, eff, newB, okd, og, ogs, ogo, ogp, slv, bltv, opd, litv, strip, one, both, putE, St.put, look, gdOf, gdv, picka, pickv, pickw, binv, bini, bins, binb, binp, binq, isSlT, bina, shp, eqCells, unv, convv, nilv, faddv, addp, idxav, idxp, load1, load1m, loadn, loadnm, loadv, hget, hset, hrep, hdel, slicev, bnd, shift1, lenv, capv, IntKind.bits, extractv, fieldv, indexv, min2v, max2v, mkiv, cellsA, fillA, buildv, stC, oneC, rowMB, intsA, plN, appE, appZ, appC, appNZ, appNC, VwL, srcC, srcZ, srcM, isBoolT, isPtrT, isSliceT, uOk, Value.oneCell', Nat.reducePow, Int.reducePow, Nat.reduceAdd, Nat.reduceMul, Nat.reduceSub, Nat.reduceLT, Nat.reduceLeDiff, Nat.reduceEqDiff, Nat.reduceBEq, Nat.reduceDiv, Nat.reduceMod, ↓reduceIte, reduceCtorEq, Int.reduceToNat, Int.reduceLT, Int.reduceLE, TFTxB, SeqQ, BlkQ, LoopQ, BodyQ, w1, w2, k1, FR.out])
    | (refine WP.seq fun K hK => ?_)
    | (refine WP.region (rvc_sound _ _ (Sm.out ?_)))
    | (refine WP.drawK rfl mixed (by decide +kernel) (Sm.out ?_))
    | (refine Ob.mk ?_; focus (first | assumption | omega | decide | trivial | (intro hob; simp only [hob, ZF]; done) | (intros; (repeat' refine And.intro ?_ ?_) <;> first | assumption | omega | trivial | decide) | (intros; simp only [ZE] at *; (repeat' refine And.intro ?_ ?_) <;> first | assumption | omega | trivial)))
    | (refine And.intro (Ob.out ?_) ?_)
    | (refine WP.block ?_)
    | (refine WP.cond rfl (fun hc => ?_) (fun hc => ?_) <;> (try simp only [ZC, reduceCtorEq, ZD] at hc) <;> (try (exact absurd hc (by decide))) <;> (try (exfalso; omega)))
    | ((first | refine WP.skip ?_ | refine WP.exit ?_); simp only [SeqQ, BlkQ, LoopQ, BodyQ, ↓reduceIte, Nat.reduceEqDiff, reduceCtorEq, look, true_and])
    | (refine WP.ret (Sm.out ?_))
    | (first | refine ExG.no (Sm.out ?_) | refine Or.inl (ExG.no (Sm.out ?_)) | refine Or.inl (And.intro (fun hg => absurd hg (by decide)) (ExG.no (Sm.out ?_))))
    | (refine Rt.mk ?_; refine And.intro ?_ ?_ <;> (intro hg; first | exact absurd hg (by decide) | refine Sm.out ?_))
    | (refine Nu.mk ?_; first | (fail_if_success (have := nb1)); intro nb1 | (fail_if_success (have := nb2)); intro nb2 | (fail_if_success (have := nb3)); intro nb3 | (fail_if_success (have := nb4)); intro nb4 | (fail_if_success (have := nb5)); intro nb5 | (fail_if_success (have := nb6)); intro nb6 | intro nbz)
    | (refine Fr.mk ?_; intro hfr; (first | (have hFRb : _ ≤ _ ∧ _ ≤ _ := And.intro hfr.1 hfr.2.1) | (have hFRb : _ ≤ _ := hfr.1) | skip); replace FR := Sm.mk (And.intro hfr FR.out); clear hfr; refine Sm.out ?_)
    | (refine Two.mk ?_ ?_)
    | (refine Cs.mk ?_; intro hcs; first | exact False.elim hcs | (exfalso; omega) | (refine Sm.out ?_))
    | go_step
    | omega
    | (simp only [maxLen_eq]; omega)
  (refine OutQ.drop _ _ (perm1 (by simp only [hget, hdel, ↓reduceIte, if_true, if_false, FR.out]; first | done | rfl)) (by simp only [resv, ZK, look, loadv, loadn, loadnm, load1, load1m, hget, ↓reduceIte, Nat.reduceEqDiff, Nat.reduceAdd, Nat.reduceMul, Nat.reduceLeDiff, Nat.reduceLT, reduceCtorEq, TFTxB, FR.out]) ⟨nb2, nb3, hFRb, (by simp only [resv, resA, ZK, look, loadv, loadn, loadnm, load1, load1m, hget, ↓reduceIte, Nat.reduceEqDiff, Nat.reduceAdd, Nat.reduceMul, Nat.reduceLeDiff, Nat.reduceLT, reduceCtorEq, TFTxB, FR.out]; first | done | rfl), rfl⟩)
theorem ar_used (x n k : Nat) (zs : List Int) (hn : zs.length = n) (hnk : n ≤ k ∧ k ≤ 9223372036854775807) (hln : n ≤ 100000) (c : Int) (hc : 0 ≤ c ∧ c < 128) :
    ACt Tryd.prog 35 [ms x 0 n k, iv .i32 c] [(x, .zs .u8 zs k 5)] (fun r F' => ∃ x k : Nat, (n + 1 ≤ k ∧ k ≤ 9223372036854775807) ∧ r = ms x 0 (n + 1) k ∧ F' = [(x, .zs .u8 (zs ++ [c]) k 5)]) := by
  refine ACt.intro Tryd.func35 rfl (by kernel_rfl) (by simp [Tryd.ntmps35]) (fun cx => ?_)
  simp only [argE, Tryd.ntmps35, Tryd.results35]
  have w1 : IntKind.u32.wrap c = c := wrap_u32 (by omega) (by omega)
  have w2 : IntKind.u8.wrap c = c := wrap_u8 (by omega) (by omega)
  have k1 : decide (c ≤ 127) = true := decide_eq_true (by omega)
  have l1 : n + 1 ≤ 9223372036854775807 ∧ (n + 1) * 1 ≤ 140737488355328 := by omega
  have l2 : k ≤ 9223372036854775807 := hnk.2
  first | (have FRx := FR; clear FRx) | (have FR : Sm (¬ ((1 : Nat) = 0)) := Sm.mk Nat.one_ne_zero)
  repeat' first
    | (refine Sm.mk ?_; try simp -dsimp only [ZK, rvc, drawF, headN, pureH, stp, dvc, calleeOf, gcall, pev, eff, newB, okd, og, ogs, ogo, ogp, slv, bltv, opd, litv, strip, one, both, putE, St.put, look, gdOf, gdv, picka, pickv, pickw, binv, bini, bins, binb, binp, binq, isSlT, bina, shp, eqCells, unv, convv, nilv, faddv, addp, idxav, idxp, load1, load1m, loadn, loadnm, loadv, hget, hset, hrep, hdel, slicev, bnd, shift1, lenv, capv, IntKind.bits, extractv, fieldv, indexv, min2v, max2v, mkiv, cellsA, fillA, buildv, stC, oneC, rowMB, intsA, plN, appE, appZ, appC, appNZ, appNC, VwL, srcC, srcZ, srcM, isBoolT, isPtrT, isSliceT, uOk, Value.oneCell', Nat.reducePow, Int.reducePow, Nat.reduceAdd, Nat.reduceMul, Nat.reduceSub, Nat.reduceLT, Nat.reduceLeDiff, Nat.reduceEqDiff, Nat.reduceBEq, Nat.reduceDiv, Nat.reduceMod, ↓reduceIte, reduceCtorEq, Int.reduceToNat, Int.reduceLT, Int.reduceLE, TFTxB, SeqQ, BlkQ, LoopQ, BodyQ, w1, w2, k1, l1, l2, hn, FR.out])
    | (refine WP.seq fun K hK => ?_)
    | (refine WP.region (rvc_sound _ _ (Sm.out ?_)))
    | (refine WP.drawK rfl mixed (by decide +kernel) (Sm.out ?_))
    | (refine Ob.mk ?_; focus (first | assumption | omega | decide | trivial | (intro hob; simp only [hob, ZF]; done) | (intros; (repeat' refine And.intro ?_ ?_) <;> first | assumption | omega | trivial | decide) | (intros; simp only [ZE] at *; (repeat' refine And.intro ?_ ?_) <;> first | assumption | omega | trivial)))
    | (refine And.intro (Ob.out ?_) ?_)
    | (refine WP.block ?_)
    | (refine WP.cond rfl (fun hc => ?_) (fun hc => ?_) <;> (try simp only [ZC, reduceCtorEq, ZD] at hc) <;> (try (exact absurd hc (by decide))) <;> (try (exfalso; omega)))
    | ((first | refine WP.skip ?_ | refine WP.exit ?_); simp only [SeqQ, BlkQ, LoopQ, BodyQ, ↓reduceIte, Nat.reduceEqDiff, reduceCtorEq, look, true_and])
    | (refine WP.ret (Sm.out ?_))
    | (first | refine ExG.no (Sm.out ?_) | refine Or.inl (ExG.no (Sm.out ?_)) | refine Or.inl (And.intro (fun hg => absurd hg (by decide)) (ExG.no (Sm.out ?_))))
    | (refine Rt.mk ?_; refine And.intro ?_ ?_ <;> (intro hg; first | exact absurd hg (by decide) | refine Sm.out ?_))
    | (refine Nu.mk ?_; first | (fail_if_success (have := nb1)); intro nb1 | (fail_if_success (have := nb2)); intro nb2 | (fail_if_success (have := nb3)); intro nb3 | (fail_if_success (have := nb4)); intro nb4 | (fail_if_success (have := nb5)); intro nb5 | (fail_if_success (have := nb6)); intro nb6 | intro nbz)
    | (refine Fr.mk ?_; intro hfr; (first | (have hFRb : _ ≤ _ ∧ _ ≤ _ := And.intro hfr.1 hfr.2.1) | (have hFRb : _ ≤ _ := hfr.1) | skip); replace FR := Sm.mk (And.intro hfr FR.out); clear hfr; refine Sm.out ?_)
    | (refine Two.mk ?_ ?_)
    | (refine Cs.mk ?_; intro hcs; first | exact False.elim hcs | (exfalso; omega) | (refine Sm.out ?_))
    | go_step
    | omega
    | (simp only [maxLen_eq]; omega)
  (refine OutQ.drop _ _ (perm1 (by simp only [hget, hdel, ↓reduceIte, if_true, if_false, FR.out]; first | done | rfl)) (by simp only [resv, ZK, look, loadv, loadn, loadnm, load1, load1m, hget, ↓reduceIte, Nat.reduceEqDiff, Nat.reduceAdd, Nat.reduceMul, Nat.reduceLeDiff, Nat.reduceLT, reduceCtorEq, TFTxB, FR.out]) ⟨nb2, nb3, hFRb, (by simp only [resv, resA, ZK, look, loadv, loadn, loadnm, load1, load1m, hget, ↓reduceIte, Nat.reduceEqDiff, Nat.reduceAdd, Nat.reduceMul, Nat.reduceLeDiff, Nat.reduceLT, reduceCtorEq, TFTxB, FR.out]; first | done | rfl), rfl⟩)
theorem str_ct (b x n k : Nat) (zs : List Int) (hd : b ≠ x ∧ x ≠ b) (hn : zs.length = n) (h0 : 0 < n) (hk : n ≤ k) (hln : n ≤ 100000) :
    ACt Tryd.prog 27 [pt b 0] [(x, .zs .u8 zs k 5), (b, bdM b x n k)] (Fn (stz zs)) := by
  have e1 : usB Tryd.prog 60 5 = true := by kernel_rfl
  have tk : zs.take n = zs := by rw [← hn, List.take_length]
  have t1 : ((n : Nat) : Int).toNat = n := by omega
  have i1 : (0 : Int) < (n : Int) ∧ (n : Int) ≤ 9223372036854775807 := by omega
  have kk : k ≠ 0 := by omega
  refine ACt.intro Tryd.func27 rfl (by kernel_rfl) (by simp [Tryd.ntmps27]) (fun cx => ?_)
  simp only [argE, Tryd.ntmps27, Tryd.results27]
  first | (have FRx := FR; clear FRx) | (have FR : Sm (¬ ((1 : Nat) = 0)) := Sm.mk Nat.one_ne_zero)
  repeat' first
    | (refine Sm.mk ?_; try simp -dsimp only [ZK, rvc, drawF, headN, pureH, stp, dvc, calleeOf, gcall, pev, eff, newB, okd, og, ogs, ogo, ogp, slv, bltv, opd, litv, strip, one, both, putE, St.put, look, gdOf, gdv, picka, pickv, pickw, binv, bini, bins, binb, binp, binq, isSlT, bina, shp, eqCells, unv, convv, nilv, faddv, addp, idxav, idxp, load1, load1m, loadn, loadnm, loadv, hget, hset, hrep, hdel, slicev, bnd, shift1, lenv, capv, IntKind.bits, extractv, fieldv, indexv, min2v, max2v, mkiv, cellsA, fillA, buildv, stC, oneC, rowMB, intsA, plN, appE, appZ, appC, appNZ, appNC, VwL, srcC, srcZ, srcM, isBoolT, isPtrT, isSliceT, uOk, Value.oneCell', Nat.reducePow, Int.reducePow, Nat.reduceAdd, Nat.reduceMul, Nat.reduceSub, Nat.reduceLT, Nat.reduceLeDiff, Nat.reduceEqDiff, Nat.reduceBEq, Nat.reduceDiv, Nat.reduceMod, ↓reduceIte, reduceCtorEq, Int.reduceToNat, Int.reduceLT, Int.reduceLE, TFTxB, SeqQ, BlkQ, LoopQ, BodyQ, e1, tk, t1, i1, kk, hn, hd, h0, hdel, FR.out])
    | (refine WP.seq fun K hK => ?_)
    | (refine WP.region (rvc_sound _ _ (Sm.out ?_)))
    | (refine WP.drawK rfl mixed (by decide +kernel) (Sm.out ?_))
    | (refine Ob.mk ?_; focus (first | assumption | omega | decide | trivial | (intro hob; simp only [hob, ZF]; done) | (intros; (repeat' refine And.intro ?_ ?_) <;> first | assumption | omega | trivial | decide) | (intros; simp only [ZE] at *; (repeat' refine And.intro ?_ ?_) <;> first | assumption | omega | trivial)))
    | (refine And.intro (Ob.out ?_) ?_)
    | (refine WP.block ?_)
    | (refine WP.cond rfl (fun hc => ?_) (fun hc => ?_) <;> (try simp only [ZC, reduceCtorEq, ZD] at hc) <;> (try (exact absurd hc (by decide))) <;> (try (exfalso; omega)))
    | ((first | refine WP.skip ?_ | refine WP.exit ?_); simp only [SeqQ, BlkQ, LoopQ, BodyQ, ↓reduceIte, Nat.reduceEqDiff, reduceCtorEq, look, true_and])
    | (refine WP.ret (Sm.out ?_))
    | (first | refine ExG.no (Sm.out ?_) | refine Or.inl (ExG.no (Sm.out ?_)) | refine Or.inl (And.intro (fun hg => absurd hg (by decide)) (ExG.no (Sm.out ?_))))
    | (refine Rt.mk ?_; refine And.intro ?_ ?_ <;> (intro hg; first | exact absurd hg (by decide) | refine Sm.out ?_))
    | (refine Nu.mk ?_; first | (fail_if_success (have := nb1)); intro nb1 | (fail_if_success (have := nb2)); intro nb2 | (fail_if_success (have := nb3)); intro nb3 | (fail_if_success (have := nb4)); intro nb4 | (fail_if_success (have := nb5)); intro nb5 | (fail_if_success (have := nb6)); intro nb6 | intro nbz)
    | (refine Fr.mk ?_; intro hfr; (first | (have hFRb : _ ≤ _ ∧ _ ≤ _ := And.intro hfr.1 hfr.2.1) | (have hFRb : _ ≤ _ := hfr.1) | skip); replace FR := Sm.mk (And.intro hfr FR.out); clear hfr; refine Sm.out ?_)
    | (refine Two.mk ?_ ?_)
    | (refine Cs.mk ?_; intro hcs; first | exact False.elim hcs | (exfalso; omega) | (refine Sm.out ?_))
    | go_step
    | omega
    | (simp only [maxLen_eq]; omega)
  (refine OutQ.all ?_ ?_; (focus (simp only [resv, ZK, look, loadv, loadn, loadnm, load1, load1m, hget, ↓reduceIte, Nat.reduceEqDiff, Nat.reduceAdd, Nat.reduceMul, Nat.reduceLeDiff, Nat.reduceLT, reduceCtorEq, TFTxB, tk, FR.out])); (try simp only [resv, resA, Fn, ZK, look, loadv, loadn, loadnm, load1, load1m, hget, ↓reduceIte, Nat.reduceEqDiff, Nat.reduceAdd, Nat.reduceMul, Nat.reduceLeDiff, Nat.reduceLT, reduceCtorEq, TFTxB, tk, FR.out]); (try simp [resA, Fn, look, tk, FR.out]))
/-- a call that puts a new block in its blocks' place -/
theorem CallV.newR {P : Program} {f : FuncId} {args : List AV} {H F R : Hp} {F0 : Nat → Nat → Hp} {post : AV → Hp → Prop} {φ : Nat → Nat → Prop} {x : Nat → Nat → AV} {m : Nat → Nat → MB}
    (h : ACt P f args F (fun r F' => ∃ b c, φ b c ∧ r = x b c ∧ F' = (b, m b c) :: F0 b c)) (hP : H.Perm (F ++ R))
    (hp : Nu fun b => Nu fun c => Fr (φ b c ∧ fresh (F0 b c ++ R) b) (post (x b c) ((b, m b c) :: (F0 b c ++ R)))) : CallV P f args H post :=
  ⟨F, R, _, hP, h, fun r F' hr hn => by
    obtain ⟨b, c, e0, e1, e2⟩ := hr
    subst e1 e2
    refine ((hp.out b).out c).out ⟨e0, fun p hp' => ?_⟩
    simp only [List.cons_append, List.map_cons, List.nodup_cons] at hn
    have hne : p.1 ≠ b := fun he => hn.1 (List.mem_map.2 ⟨p, hp', he⟩)
    exact ⟨hne, fun he => hne he.symm⟩⟩
theorem pmz {α : Type} (H : List α) : H.Perm (H ++ []) := by rw [List.append_nil]
structure BQ where
  x : Nat
  k : Nat
/-- a builder that holds a text -/
def bH (b : Nat) : List Int → BQ → Hp
  | [], _ => [(b, bd0)]
  | z :: r, q => [(q.x, .zs .u8 (z :: r) q.k 5), (b, bdM b q.x (z :: r).length q.k)]
def bOk (b : Nat) (zs : List Int) (q : BQ) : Prop := zs ≠ [] → (b ≠ q.x ∧ q.x ≠ b) ∧ zs.length ≤ q.k ∧ q.k ≤ 9223372036854775807
abbrev BS (b : Nat) (zs : List Int) : Type := {q : BQ // bOk b zs q}
theorem bH_ne {b : Nat} {zs : List Int} (q : BQ) (h : zs ≠ []) : bH b zs q = [(q.x, .zs .u8 zs q.k 5), (b, bdM b q.x zs.length q.k)] := by
  cases zs with
  | nil => exact absurd rfl h
  | cons z r => rfl
theorem bH_len {b n : Nat} {zs : List Int} (q : BQ) (h : zs ≠ []) (hl : zs.length = n) : bH b zs q = [(q.x, .zs .u8 zs q.k 5), (b, bdM b q.x n q.k)] := by
  subst hl; exact bH_ne q h
theorem wr_nil (b : Nat) (c : Int) (hc : 0 ≤ c ∧ c < 128) : ACt Tryd.prog 24 [pt b 0, iv .i32 c] [(b, bd0)] (fun r F' => ∃ x k : Nat, (1 ≤ k ∧ k ≤ 9223372036854775807) ∧ r = .tup [iv .i64 1, nif] ∧ F' = [(x, .zs .u8 [c] k 5), (b, bdM b x 1 k)]) := by
  have c1 := cc_nil b nsl
  have cA := ar_nil c hc
  have w1 : IntKind.i64.wrap (1 - 0) = 1 := by decide
  refine ACt.intro Tryd.func24 rfl (by kernel_rfl) (by simp [Tryd.ntmps24]) (fun cx => ?_)
  simp only [argE, Tryd.ntmps24, Tryd.results24]
  first | (have FRx := FR; clear FRx) | (have FR : Sm (¬ ((1 : Nat) = 0)) := Sm.mk Nat.one_ne_zero)
  repeat' first
    | (refine Sm.mk ?_; try simp -dsimp only [ZK, rvc, drawF, headN, pureH, stp, dvc, calleeOf, gcall, pev, eff, newB, okd, og, ogs, ogo, ogp, slv, bltv, opd, litv, strip, one, both, putE, St.put, look, gdOf, gdv, picka, pickv, pickw, binv, bini, bins, binb, binp, binq, isSlT, bina, shp, eqCells, unv, convv, nilv, faddv, addp, idxav, idxp, load1, load1m, loadn, loadnm, loadv, hget, hset, hrep, hdel, slicev, bnd, shift1, lenv, capv, IntKind.bits, extractv, fieldv, indexv, min2v, max2v, mkiv, cellsA, fillA, buildv, stC, oneC, rowMB, intsA, plN, appE, appZ, appC, appNZ, appNC, VwL, srcC, srcZ, srcM, isBoolT, isPtrT, isSliceT, uOk, Value.oneCell', Nat.reducePow, Int.reducePow, Nat.reduceAdd, Nat.reduceMul, Nat.reduceSub, Nat.reduceLT, Nat.reduceLeDiff, Nat.reduceEqDiff, Nat.reduceBEq, Nat.reduceDiv, Nat.reduceMod, ↓reduceIte, reduceCtorEq, Int.reduceToNat, Int.reduceLT, Int.reduceLE, TFTxB, SeqQ, BlkQ, LoopQ, BodyQ, w1, FR.out])
    | (refine CallV.upd (by simp only [hget, ↓reduceIte, FR.out, w1]; first | done | rfl) (c1) (Sm.out ?_))
    | (refine CallV.newC (cA) (List.Perm.refl _) (fun _ _ => rfl) (Sm.out ?_))
    | (refine WP.seq fun K hK => ?_)
    | (refine WP.region (rvc_sound _ _ (Sm.out ?_)))
    | (refine WP.drawK rfl mixed (by decide +kernel) (Sm.out ?_))
    | (refine Ob.mk ?_; focus (first | assumption | omega | decide | trivial | (intro hob; simp only [hob, ZF]; done) | (intros; (repeat' refine And.intro ?_ ?_) <;> first | assumption | omega | trivial | decide) | (intros; simp only [ZE] at *; (repeat' refine And.intro ?_ ?_) <;> first | assumption | omega | trivial)))
    | (refine And.intro (Ob.out ?_) ?_)
    | (refine WP.block ?_)
    | (refine WP.cond rfl (fun hc => ?_) (fun hc => ?_) <;> (try simp only [ZC, reduceCtorEq, ZD] at hc) <;> (try (exact absurd hc (by decide))) <;> (try (exfalso; omega)))
    | ((first | refine WP.skip ?_ | refine WP.exit ?_); simp only [SeqQ, BlkQ, LoopQ, BodyQ, ↓reduceIte, Nat.reduceEqDiff, reduceCtorEq, look, true_and])
    | (refine WP.ret (Sm.out ?_))
    | (first | refine ExG.no (Sm.out ?_) | refine Or.inl (ExG.no (Sm.out ?_)) | refine Or.inl (And.intro (fun hg => absurd hg (by decide)) (ExG.no (Sm.out ?_))))
    | (refine Rt.mk ?_; refine And.intro ?_ ?_ <;> (intro hg; first | exact absurd hg (by decide) | refine Sm.out ?_))
    | (refine Nu.mk ?_; first | (fail_if_success (have := nb1)); intro nb1 | (fail_if_success (have := nb2)); intro nb2 | (fail_if_success (have := nb3)); intro nb3 | (fail_if_success (have := nb4)); intro nb4 | (fail_if_success (have := nb5)); intro nb5 | (fail_if_success (have := nb6)); intro nb6 | intro nbz)
    | (refine Fr.mk ?_; intro hfr; (first | (have hFRb : _ ≤ _ ∧ _ ≤ _ := And.intro hfr.1 hfr.2.1) | (have hFRb : _ ≤ _ := hfr.1) | skip); replace FR := Sm.mk (And.intro hfr FR.out); clear hfr; refine Sm.out ?_)
    | (refine Two.mk ?_ ?_)
    | (refine Cs.mk ?_; intro hcs; first | exact False.elim hcs | (exfalso; omega) | (refine Sm.out ?_))
    | go_step
    | omega
    | (simp only [maxLen_eq]; omega)
  (refine OutQ.drop _ _ (perm2 (by simp only [hget, hdel, ↓reduceIte, if_true, if_false, FR.out, w1]; first | done | rfl) (by simp only [hget, hdel, ↓reduceIte, if_true, if_false, FR.out, w1]; first | done | rfl)) (by simp only [resv, ZK, look, loadv, loadn, loadnm, load1, load1m, hget, ↓reduceIte, Nat.reduceEqDiff, Nat.reduceAdd, Nat.reduceMul, Nat.reduceLeDiff, Nat.reduceLT, reduceCtorEq, TFTxB, FR.out, w1]) ⟨nb1, nb2, FR.out.1.1, (by simp only [resv, resA, ZK, look, loadv, loadn, loadnm, load1, load1m, hget, ↓reduceIte, Nat.reduceEqDiff, Nat.reduceAdd, Nat.reduceMul, Nat.reduceLeDiff, Nat.reduceLT, reduceCtorEq, TFTxB, FR.out, w1]; first | done | rfl), rfl⟩)
theorem wr_used (b x n k : Nat) (zs : List Int) (hd : b ≠ x ∧ x ≠ b) (hn : zs.length = n) (hnk : n ≤ k ∧ k ≤ 9223372036854775807) (hln : n ≤ 100000) (c : Int) (hc : 0 ≤ c ∧ c < 128) :
    ACt Tryd.prog 24 [pt b 0, iv .i32 c] [(x, .zs .u8 zs k 5), (b, bdM b x n k)] (fun r F' => ∃ x k : Nat, (n + 1 ≤ k ∧ k ≤ 9223372036854775807) ∧ r = .tup [iv .i64 1, nif] ∧ F' = [(x, .zs .u8 (zs ++ [c]) k 5), (b, bdM b x (n + 1) k)]) := by
  have c1 := cc_used b (ms x 0 n k)
  have cA := ar_used x n k zs hn hnk hln c hc
  have w1 : IntKind.i64.wrap (((n + 1 : Nat) : Int) - (n : Int)) = 1 := by rw [wrap_i64 (by omega) (by omega)]; omega
  refine ACt.intro Tryd.func24 rfl (by kernel_rfl) (by simp [Tryd.ntmps24]) (fun cx => ?_)
  simp only [argE, Tryd.ntmps24, Tryd.results24]
  first | (have FRx := FR; clear FRx) | (have FR : Sm (¬ ((1 : Nat) = 0)) := Sm.mk Nat.one_ne_zero)
  repeat' first
    | (refine Sm.mk ?_; try simp -dsimp only [ZK, rvc, drawF, headN, pureH, stp, dvc, calleeOf, gcall, pev, eff, newB, okd, og, ogs, ogo, ogp, slv, bltv, opd, litv, strip, one, both, putE, St.put, look, gdOf, gdv, picka, pickv, pickw, binv, bini, bins, binb, binp, binq, isSlT, bina, shp, eqCells, unv, convv, nilv, faddv, addp, idxav, idxp, load1, load1m, loadn, loadnm, loadv, hget, hset, hrep, hdel, slicev, bnd, shift1, lenv, capv, IntKind.bits, extractv, fieldv, indexv, min2v, max2v, mkiv, cellsA, fillA, buildv, stC, oneC, rowMB, intsA, plN, appE, appZ, appC, appNZ, appNC, VwL, srcC, srcZ, srcM, isBoolT, isPtrT, isSliceT, uOk, Value.oneCell', Nat.reducePow, Int.reducePow, Nat.reduceAdd, Nat.reduceMul, Nat.reduceSub, Nat.reduceLT, Nat.reduceLeDiff, Nat.reduceEqDiff, Nat.reduceBEq, Nat.reduceDiv, Nat.reduceMod, ↓reduceIte, reduceCtorEq, Int.reduceToNat, Int.reduceLT, Int.reduceLE, TFTxB, SeqQ, BlkQ, LoopQ, BodyQ, w1, hd, FR.out])
    | (refine CallV.upd (by simp only [hget, ↓reduceIte, FR.out, w1, hd]; first | done | rfl) (c1) (Sm.out ?_))
    | (refine CallV.newR (cA) (List.Perm.swap _ _ _) (Sm.out ?_))
    | (refine WP.seq fun K hK => ?_)
    | (refine WP.region (rvc_sound _ _ (Sm.out ?_)))
    | (refine WP.drawK rfl mixed (by decide +kernel) (Sm.out ?_))
    | (refine Ob.mk ?_; focus (first | assumption | omega | decide | trivial | (intro hob; simp only [hob, ZF]; done) | (intros; (repeat' refine And.intro ?_ ?_) <;> first | assumption | omega | trivial | decide) | (intros; simp only [ZE] at *; (repeat' refine And.intro ?_ ?_) <;> first | assumption | omega | trivial)))
    | (refine And.intro (Ob.out ?_) ?_)
    | (refine WP.block ?_)
    | (refine WP.cond rfl (fun hc => ?_) (fun hc => ?_) <;> (try simp only [ZC, reduceCtorEq, ZD] at hc) <;> (try (exact absurd hc (by decide))) <;> (try (exfalso; omega)))
    | ((first | refine WP.skip ?_ | refine WP.exit ?_); simp only [SeqQ, BlkQ, LoopQ, BodyQ, ↓reduceIte, Nat.reduceEqDiff, reduceCtorEq, look, true_and])
    | (refine WP.ret (Sm.out ?_))
    | (first | refine ExG.no (Sm.out ?_) | refine Or.inl (ExG.no (Sm.out ?_)) | refine Or.inl (And.intro (fun hg => absurd hg (by decide)) (ExG.no (Sm.out ?_))))
    | (refine Rt.mk ?_; refine And.intro ?_ ?_ <;> (intro hg; first | exact absurd hg (by decide) | refine Sm.out ?_))
    | (refine Nu.mk ?_; first | (fail_if_success (have := nb1)); intro nb1 | (fail_if_success (have := nb2)); intro nb2 | (fail_if_success (have := nb3)); intro nb3 | (fail_if_success (have := nb4)); intro nb4 | (fail_if_success (have := nb5)); intro nb5 | (fail_if_success (have := nb6)); intro nb6 | intro nbz)
    | (refine Fr.mk ?_; intro hfr; (first | (have hFRb : _ ≤ _ ∧ _ ≤ _ := And.intro hfr.1 hfr.2.1) | (have hFRb : _ ≤ _ := hfr.1) | skip); replace FR := Sm.mk (And.intro hfr FR.out); clear hfr; refine Sm.out ?_)
    | (refine Two.mk ?_ ?_)
    | (refine Cs.mk ?_; intro hcs; first | exact False.elim hcs | (exfalso; omega) | (refine Sm.out ?_))
    | go_step
    | omega
    | (simp only [maxLen_eq]; omega)
  (refine OutQ.drop _ _ (perm2 (by simp only [hget, hdel, ↓reduceIte, if_true, if_false, FR.out, w1, hd]; first | done | rfl) (by simp only [hget, hdel, ↓reduceIte, if_true, if_false, FR.out, w1, hd]; first | done | rfl)) (by simp only [resv, ZK, look, loadv, loadn, loadnm, load1, load1m, hget, ↓reduceIte, Nat.reduceEqDiff, Nat.reduceAdd, Nat.reduceMul, Nat.reduceLeDiff, Nat.reduceLT, reduceCtorEq, TFTxB, FR.out, w1, hd]) ⟨nb1, nb2, FR.out.1.1, (by simp only [resv, resA, ZK, look, loadv, loadn, loadnm, load1, load1m, hget, ↓reduceIte, Nat.reduceEqDiff, Nat.reduceAdd, Nat.reduceMul, Nat.reduceLeDiff, Nat.reduceLT, reduceCtorEq, TFTxB, FR.out, w1, hd]; first | done | rfl), rfl⟩)
theorem bk_of {b x k n : Nat} {zs : List Int} (h : zs.length = n) (hk : n ≤ k ∧ k ≤ 9223372036854775807) (hn : (([(x, MB.zs .u8 zs k 5), (b, bdM b x n k)] ++ [] : Hp).map (·.1)).Nodup) : bOk b zs ⟨x, k⟩ := fun _ => by
  simp at hn
  exact ⟨⟨fun e => hn e.symm, hn⟩, by simp only; omega, hk.2⟩
theorem ws_b {b : Nat} {zs : List Int} {q : BQ} (hq : bOk b zs q) (hz : zs.length ≤ 50000) (xs : List Int) (hb : By xs) (h0 : 0 < xs.length) (hl : xs.length ≤ 1000) :
    ACt Tryd.prog 26 [pt b 0, stz xs] (bH b zs q) (fun r F' => ∃ g : BS b (zs ++ xs), r = .tup [iv .i64 (xs.length : Int), nif] ∧ F' = bH b (zs ++ xs) g.1) := by
  by_cases h : zs = []
  · subst h
    refine ACt.frm (R := []) (ws_nil b xs hb h0 hl) (pmz _) fun r F' hr hn => ?_
    obtain ⟨x, k, hk, e1, e2⟩ := hr
    subst e1 e2
    have hne : [] ++ xs ≠ [] := fun e => by simp at e; subst e; simp at h0
    exact ⟨_, [], pmz _, ⟨⟨x, k⟩, bk_of (by simp) hk hn⟩, rfl, by rw [bH_ne _ hne]; rfl⟩
  · obtain ⟨hd, hk1, hk2⟩ := hq h
    rw [bH_ne q h]
    refine ACt.frm (R := []) (ws_used b q.x zs.length q.k zs xs hd rfl ⟨hk1, hk2⟩ hb hl (by omega)) (pmz _) fun r F' hr hn => ?_
    obtain ⟨x, k, hk, e1, e2⟩ := hr
    subst e1 e2
    have hne : zs ++ xs ≠ [] := fun e => h (List.append_eq_nil_iff.1 e).1
    exact ⟨_, [], pmz _, ⟨⟨x, k⟩, bk_of (by simp) hk hn⟩, rfl, by rw [List.append_nil]; exact (bH_len ⟨x, k⟩ hne (by simp)).symm⟩
theorem wr_b {b : Nat} {zs : List Int} {q : BQ} (hq : bOk b zs q) (hz : zs.length ≤ 50000) (c : Int) (hc : 0 ≤ c ∧ c < 128) :
    ACt Tryd.prog 24 [pt b 0, iv .i32 c] (bH b zs q) (fun r F' => ∃ g : BS b (zs ++ [c]), r = .tup [iv .i64 1, nif] ∧ F' = bH b (zs ++ [c]) g.1) := by
  by_cases h : zs = []
  · subst h
    refine ACt.frm (R := []) (wr_nil b c hc) (pmz _) fun r F' hr hn => ?_
    obtain ⟨x, k, hk, e1, e2⟩ := hr
    subst e1 e2
    have hne : [] ++ [c] ≠ [] := by simp
    exact ⟨_, [], pmz _, ⟨⟨x, k⟩, bk_of (by simp) hk hn⟩, rfl, by rw [bH_ne _ hne]; rfl⟩
  · obtain ⟨hd, hk1, hk2⟩ := hq h
    rw [bH_ne q h]
    refine ACt.frm (R := []) (wr_used b q.x zs.length q.k zs hd rfl ⟨hk1, hk2⟩ (by omega) c hc) (pmz _) fun r F' hr hn => ?_
    obtain ⟨x, k, hk, e1, e2⟩ := hr
    subst e1 e2
    have hne : zs ++ [c] ≠ [] := by simp
    exact ⟨_, [], pmz _, ⟨⟨x, k⟩, bk_of (by simp) hk hn⟩, rfl, by rw [List.append_nil]; exact (bH_len ⟨x, k⟩ hne (by simp)).symm⟩
theorem str_b {b : Nat} {zs : List Int} {q : BQ} (hq : bOk b zs q) (h : zs ≠ []) (hz : zs.length ≤ 50000) : ACt Tryd.prog 27 [pt b 0] (bH b zs q) (Fn (stz zs)) := by
  obtain ⟨hd, hk1, hk2⟩ := hq h
  rw [bH_ne q h]
  exact str_ct b q.x zs.length q.k zs hd rfl (List.length_pos_iff.2 h) hk1 (by omega)
/-- a builder's call, over more blocks -/
theorem liftB {f : FuncId} {args : List AV} {b : Nat} {zs zs' : List Int} {q : BQ} {x : AV} (X : Hp) (h : ACt Tryd.prog f args (bH b zs q) (fun r F' => ∃ g : BS b zs', r = x ∧ F' = bH b zs' g.1)) :
    ACt Tryd.prog f args (X ++ bH b zs q) (fun r F' => ∃ g : BS b zs', r = x ∧ F' = X ++ bH b zs' g.1) :=
  ACt.frm (R := X) h List.perm_append_comm fun r F' hr _ => by
    obtain ⟨g, e1, e2⟩ := hr
    subst e1 e2
    exact ⟨X ++ bH b zs' g.1, [], by rw [List.append_nil]; exact List.perm_append_comm, g, rfl, rfl⟩
theorem liftF {f : FuncId} {args : List AV} {F F0 : Hp} {x : AV} (X : Hp) (h : ACt Tryd.prog f args F (fun r F' => r = x ∧ F' = F0)) : ACt Tryd.prog f args (X ++ F) (fun r F' => r = x ∧ F' = X ++ F0) :=
  ACt.frm (R := X) h List.perm_append_comm fun r F' hr _ => by
    obtain ⟨e1, e2⟩ := hr
    subst e1 e2
    exact ⟨_, [], by rw [List.append_nil]; exact List.perm_append_comm, rfl, rfl⟩
end Go.Proofs.YtjdjpgjjnajjhaaDoor
namespace Go.Proofs.YtjdjpgjjnajjhaaDoor
open Go
set_option linter.unusedVariables false
set_option linter.unusedSimpArgs false
theorem TFTxC : (((type_of% tyc4) ∧ ((type_of% zmb4) ∧ (type_of% tyc21))) ∧ ((type_of% zmb21) ∧ ((type_of% Tryd.underlying4) ∧ (type_of% Tryd.underlying21)))) :=
  ⟨⟨tyc4, ⟨zmb4, tyc21⟩⟩, ⟨zmb21, ⟨Tryd.underlying4, Tryd.underlying21⟩⟩⟩
/-- is a rune a letter? -/
def letB (r : Int) : Bool := decide ((97 ≤ r ∧ r ≤ 122) ∨ (65 ≤ r ∧ r ≤ 90) ∨ (192 ≤ r ∧ r ≤ 591 ∧ r ≠ 215 ∧ r ≠ 247) ∨ (880 ≤ r ∧ r ≤ 1279))
def digB (r : Int) : Bool := decide (48 ≤ r ∧ r ≤ 57)
theorem let_cases (r : Int) : ∃ b1 b2 b3 b4 b5 b6 b7 b8 b9 b10 b11 b12 : Bool, decide (r ≥ 97) = b1 ∧ decide (r ≤ 122) = b2 ∧ decide (r ≥ 65) = b3 ∧ decide (r ≤ 90) = b4 ∧ (r == 215) = b5 ∧ (r == 247) = b6 ∧ decide (r ≥ 192) = b7 ∧ decide (r ≤ 591) = b8 ∧ decide (r ≥ 880) = b9 ∧ decide (r ≤ 1279) = b10 ∧ (r != 215) = b11 ∧ (r != 247) = b12 ∧
    ((b1 = false ∧ b2 = true ∧ b3 = false ∧ b4 = true ∧ b5 = false ∧ b6 = false ∧ b7 = false ∧ b8 = true ∧ b9 = false ∧ b10 = true ∧ b11 = true ∧ b12 = true ∧ letB r = false) ∨
     (b1 = false ∧ b2 = true ∧ b3 = true ∧ b4 = true ∧ b5 = false ∧ b6 = false ∧ b7 = false ∧ b8 = true ∧ b9 = false ∧ b10 = true ∧ b11 = true ∧ b12 = true ∧ letB r = true) ∨
     (b1 = false ∧ b2 = true ∧ b3 = true ∧ b4 = false ∧ b5 = false ∧ b6 = false ∧ b7 = false ∧ b8 = true ∧ b9 = false ∧ b10 = true ∧ b11 = true ∧ b12 = true ∧ letB r = false) ∨
     (b1 = true ∧ b2 = true ∧ b3 = true ∧ b4 = false ∧ b5 = false ∧ b6 = false ∧ b7 = false ∧ b8 = true ∧ b9 = false ∧ b10 = true ∧ b11 = true ∧ b12 = true ∧ letB r = true) ∨
     (b1 = true ∧ b2 = false ∧ b3 = true ∧ b4 = false ∧ b5 = false ∧ b6 = false ∧ b7 = false ∧ b8 = true ∧ b9 = false ∧ b10 = true ∧ b11 = true ∧ b12 = true ∧ letB r = false) ∨
     (b1 = true ∧ b2 = false ∧ b3 = true ∧ b4 = false ∧ b5 = true ∧ b6 = false ∧ b7 = true ∧ b8 = true ∧ b9 = false ∧ b10 = true ∧ b11 = false ∧ b12 = true ∧ letB r = false) ∨
     (b1 = true ∧ b2 = false ∧ b3 = true ∧ b4 = false ∧ b5 = false ∧ b6 = true ∧ b7 = true ∧ b8 = true ∧ b9 = false ∧ b10 = true ∧ b11 = true ∧ b12 = false ∧ letB r = false) ∨
     (b1 = true ∧ b2 = false ∧ b3 = true ∧ b4 = false ∧ b5 = false ∧ b6 = false ∧ b7 = true ∧ b8 = true ∧ b9 = false ∧ b10 = true ∧ b11 = true ∧ b12 = true ∧ letB r = true) ∨
     (b1 = true ∧ b2 = false ∧ b3 = true ∧ b4 = false ∧ b5 = false ∧ b6 = false ∧ b7 = true ∧ b8 = false ∧ b9 = false ∧ b10 = true ∧ b11 = true ∧ b12 = true ∧ letB r = false) ∨
     (b1 = true ∧ b2 = false ∧ b3 = true ∧ b4 = false ∧ b5 = false ∧ b6 = false ∧ b7 = true ∧ b8 = false ∧ b9 = true ∧ b10 = true ∧ b11 = true ∧ b12 = true ∧ letB r = true) ∨
     (b1 = true ∧ b2 = false ∧ b3 = true ∧ b4 = false ∧ b5 = false ∧ b6 = false ∧ b7 = true ∧ b8 = false ∧ b9 = true ∧ b10 = false ∧ b11 = true ∧ b12 = true ∧ letB r = false)) := by
  refine ⟨_, _, _, _, _, _, _, _, _, _, _, _, rfl, rfl, rfl, rfl, rfl, rfl, rfl, rfl, rfl, rfl, rfl, rfl, ?_⟩
  by_cases h0 : r < 65
  · exact .inl ⟨decide_eq_false (by omega), decide_eq_true (by omega), decide_eq_false (by omega), decide_eq_true (by omega), beq_eq_false_iff_ne.2 (by omega), beq_eq_false_iff_ne.2 (by omega), decide_eq_false (by omega), decide_eq_true (by omega), decide_eq_false (by omega), decide_eq_true (by omega), bne_iff_ne.2 (by omega), bne_iff_ne.2 (by omega), decide_eq_false (by omega)⟩
  by_cases h1 : r ≤ 90
  · exact .inr (.inl ⟨decide_eq_false (by omega), decide_eq_true (by omega), decide_eq_true (by omega), decide_eq_true (by omega), beq_eq_false_iff_ne.2 (by omega), beq_eq_false_iff_ne.2 (by omega), decide_eq_false (by omega), decide_eq_true (by omega), decide_eq_false (by omega), decide_eq_true (by omega), bne_iff_ne.2 (by omega), bne_iff_ne.2 (by omega), decide_eq_true (by omega)⟩)
  by_cases h2 : r < 97
  · exact .inr (.inr (.inl ⟨decide_eq_false (by omega), decide_eq_true (by omega), decide_eq_true (by omega), decide_eq_false (by omega), beq_eq_false_iff_ne.2 (by omega), beq_eq_false_iff_ne.2 (by omega), decide_eq_false (by omega), decide_eq_true (by omega), decide_eq_false (by omega), decide_eq_true (by omega), bne_iff_ne.2 (by omega), bne_iff_ne.2 (by omega), decide_eq_false (by omega)⟩))
  by_cases h3 : r ≤ 122
  · exact .inr (.inr (.inr (.inl ⟨decide_eq_true (by omega), decide_eq_true (by omega), decide_eq_true (by omega), decide_eq_false (by omega), beq_eq_false_iff_ne.2 (by omega), beq_eq_false_iff_ne.2 (by omega), decide_eq_false (by omega), decide_eq_true (by omega), decide_eq_false (by omega), decide_eq_true (by omega), bne_iff_ne.2 (by omega), bne_iff_ne.2 (by omega), decide_eq_true (by omega)⟩)))
  by_cases h4 : r < 192
  · exact .inr (.inr (.inr (.inr (.inl ⟨decide_eq_true (by omega), decide_eq_false (by omega), decide_eq_true (by omega), decide_eq_false (by omega), beq_eq_false_iff_ne.2 (by omega), beq_eq_false_iff_ne.2 (by omega), decide_eq_false (by omega), decide_eq_true (by omega), decide_eq_false (by omega), decide_eq_true (by omega), bne_iff_ne.2 (by omega), bne_iff_ne.2 (by omega), decide_eq_false (by omega)⟩))))
  by_cases h5 : r = 215
  · exact .inr (.inr (.inr (.inr (.inr (.inl ⟨decide_eq_true (by omega), decide_eq_false (by omega), decide_eq_true (by omega), decide_eq_false (by omega), beq_iff_eq.2 (by omega), beq_eq_false_iff_ne.2 (by omega), decide_eq_true (by omega), decide_eq_true (by omega), decide_eq_false (by omega), decide_eq_true (by omega), by rw [bne_eq_false_iff_eq]; omega, bne_iff_ne.2 (by omega), decide_eq_false (by omega)⟩)))))
  by_cases h6 : r = 247
  · exact .inr (.inr (.inr (.inr (.inr (.inr (.inl ⟨decide_eq_true (by omega), decide_eq_false (by omega), decide_eq_true (by omega), decide_eq_false (by omega), beq_eq_false_iff_ne.2 (by omega), beq_iff_eq.2 (by omega), decide_eq_true (by omega), decide_eq_true (by omega), decide_eq_false (by omega), decide_eq_true (by omega), bne_iff_ne.2 (by omega), by rw [bne_eq_false_iff_eq]; omega, decide_eq_false (by omega)⟩))))))
  by_cases h7 : r ≤ 591
  · exact .inr (.inr (.inr (.inr (.inr (.inr (.inr (.inl ⟨decide_eq_true (by omega), decide_eq_false (by omega), decide_eq_true (by omega), decide_eq_false (by omega), beq_eq_false_iff_ne.2 (by omega), beq_eq_false_iff_ne.2 (by omega), decide_eq_true (by omega), decide_eq_true (by omega), decide_eq_false (by omega), decide_eq_true (by omega), bne_iff_ne.2 (by omega), bne_iff_ne.2 (by omega), decide_eq_true (by omega)⟩)))))))
  by_cases h8 : r < 880
  · exact .inr (.inr (.inr (.inr (.inr (.inr (.inr (.inr (.inl ⟨decide_eq_true (by omega), decide_eq_false (by omega), decide_eq_true (by omega), decide_eq_false (by omega), beq_eq_false_iff_ne.2 (by omega), beq_eq_false_iff_ne.2 (by omega), decide_eq_true (by omega), decide_eq_false (by omega), decide_eq_false (by omega), decide_eq_true (by omega), bne_iff_ne.2 (by omega), bne_iff_ne.2 (by omega), decide_eq_false (by omega)⟩))))))))
  by_cases h9 : r ≤ 1279
  · exact .inr (.inr (.inr (.inr (.inr (.inr (.inr (.inr (.inr (.inl ⟨decide_eq_true (by omega), decide_eq_false (by omega), decide_eq_true (by omega), decide_eq_false (by omega), beq_eq_false_iff_ne.2 (by omega), beq_eq_false_iff_ne.2 (by omega), decide_eq_true (by omega), decide_eq_false (by omega), decide_eq_true (by omega), decide_eq_true (by omega), bne_iff_ne.2 (by omega), bne_iff_ne.2 (by omega), decide_eq_true (by omega)⟩)))))))))
  exact .inr (.inr (.inr (.inr (.inr (.inr (.inr (.inr (.inr (.inr (⟨decide_eq_true (by omega), decide_eq_false (by omega), decide_eq_true (by omega), decide_eq_false (by omega), beq_eq_false_iff_ne.2 (by omega), beq_eq_false_iff_ne.2 (by omega), decide_eq_true (by omega), decide_eq_false (by omega), decide_eq_true (by omega), decide_eq_false (by omega), bne_iff_ne.2 (by omega), bne_iff_ne.2 (by omega), decide_eq_false (by omega)⟩))))))))))
theorem letter_ct (r : Int) : ACt Tryd.prog 8 [iv .i32 r] [] (Fn (bv (letB r))) := by
  obtain ⟨b1, b2, b3, b4, b5, b6, b7, b8, b9, b10, b11, b12, q1, q2, q3, q4, q5, q6, q7, q8, q9, q10, q11, q12, h⟩ := let_cases r
  rcases h with ⟨rfl, rfl, rfl, rfl, rfl, rfl, rfl, rfl, rfl, rfl, rfl, rfl, e⟩ | ⟨rfl, rfl, rfl, rfl, rfl, rfl, rfl, rfl, rfl, rfl, rfl, rfl, e⟩ | ⟨rfl, rfl, rfl, rfl, rfl, rfl, rfl, rfl, rfl, rfl, rfl, rfl, e⟩ | ⟨rfl, rfl, rfl, rfl, rfl, rfl, rfl, rfl, rfl, rfl, rfl, rfl, e⟩ | ⟨rfl, rfl, rfl, rfl, rfl, rfl, rfl, rfl, rfl, rfl, rfl, rfl, e⟩ | ⟨rfl, rfl, rfl, rfl, rfl, rfl, rfl, rfl, rfl, rfl, rfl, rfl, e⟩ | ⟨rfl, rfl, rfl, rfl, rfl, rfl, rfl, rfl, rfl, rfl, rfl, rfl, e⟩ | ⟨rfl, rfl, rfl, rfl, rfl, rfl, rfl, rfl, rfl, rfl, rfl, rfl, e⟩ | ⟨rfl, rfl, rfl, rfl, rfl, rfl, rfl, rfl, rfl, rfl, rfl, rfl, e⟩ | ⟨rfl, rfl, rfl, rfl, rfl, rfl, rfl, rfl, rfl, rfl, rfl, rfl, e⟩ | ⟨rfl, rfl, rfl, rfl, rfl, rfl, rfl, rfl, rfl, rfl, rfl, rfl, e⟩
  all_goals
    rw [e]
    refine ACt.intro Tryd.func8 rfl (by kernel_rfl) (by simp [Tryd.ntmps8]) (fun cx => ?_)
    simp only [argE, Tryd.ntmps8, Tryd.results8]
  all_goals (
      first | (have FRx := FR; clear FRx) | (have FR : Sm (¬ ((1 : Nat) = 0)) := Sm.mk Nat.one_ne_zero)
      repeat' first
        | (refine Sm.mk ?_; try simp -dsimp only [ZK, rvc, drawF, headN, pureH, stp, dvc, calleeOf, gcall, pev, eff, newB, okd, og, ogs, ogo, ogp, slv, bltv, opd, litv, strip, one, both, putE, St.put, look, gdOf, gdv, picka, pickv, pickw, binv, bini, bins, binb, binp, binq, isSlT, bina, shp, eqCells, unv, convv, nilv, faddv, addp, idxav, idxp, load1, load1m, loadn, loadnm, loadv, hget, hset, hrep, hdel, slicev, bnd, shift1, lenv, capv, IntKind.bits, extractv, fieldv, indexv, min2v, max2v, mkiv, cellsA, fillA, buildv, stC, oneC, rowMB, intsA, plN, appE, appZ, appC, appNZ, appNC, VwL, srcC, srcZ, srcM, isBoolT, isPtrT, isSliceT, uOk, Value.oneCell', Nat.reducePow, Int.reducePow, Nat.reduceAdd, Nat.reduceMul, Nat.reduceSub, Nat.reduceLT, Nat.reduceLeDiff, Nat.reduceEqDiff, Nat.reduceBEq, Nat.reduceDiv, Nat.reduceMod, ↓reduceIte, reduceCtorEq, Int.reduceToNat, Int.reduceLT, Int.reduceLE, TFTxC, SeqQ, BlkQ, LoopQ, BodyQ, q1, q2, q3, q4, q5, q6, q7, q8, q9, q10, q11, q12, FR.out])
        | (refine WP.seq fun K hK => ?_)
        | (refine WP.region (rvc_sound _ _ (Sm.out ?_)))
        | (refine WP.drawK rfl mixed (by decide +kernel) (Sm.out ?_))
        | (refine Ob.mk ?_; focus (first | assumption | omega | decide | trivial | (intro hob; simp only [hob, ZF]; done) | (intros; (repeat' refine And.intro ?_ ?_) <;> first | assumption | omega | trivial | decide) | (intros; simp only [ZE] at *; (repeat' refine And.intro ?_ ?_) <;> first | assumption | omega | trivial)))
        | (refine And.intro (Ob.out ?_) ?_)
        | (refine WP.block ?_)
        | (refine WP.cond rfl (fun hc => ?_) (fun hc => ?_) <;> (try simp only [ZC, reduceCtorEq, ZD] at hc) <;> (try (exact absurd hc (by decide))) <;> (try (exfalso; omega)))
        | ((first | refine WP.skip ?_ | refine WP.exit ?_); simp only [SeqQ, BlkQ, LoopQ, BodyQ, ↓reduceIte, Nat.reduceEqDiff, reduceCtorEq, look, true_and])
        | (refine WP.ret (Sm.out ?_))
        | (first | refine ExG.no (Sm.out ?_) | refine Or.inl (ExG.no (Sm.out ?_)) | refine Or.inl (And.intro (fun hg => absurd hg (by decide)) (ExG.no (Sm.out ?_))))
        | (refine Rt.mk ?_; refine And.intro ?_ ?_ <;> (intro hg; first | exact absurd hg (by decide) | refine Sm.out ?_))
        | (refine Nu.mk ?_; first | (fail_if_success (have := nb1)); intro nb1 | (fail_if_success (have := nb2)); intro nb2 | (fail_if_success (have := nb3)); intro nb3 | intro nbz)
        | (refine Fr.mk ?_; intro hfr; (first | (have hFRb : _ ≤ _ ∧ _ ≤ _ := And.intro hfr.1 hfr.2.1) | (have hFRb : _ ≤ _ := hfr.1) | skip); replace FR := Sm.mk (And.intro hfr FR.out); clear hfr; refine Sm.out ?_)
        | (refine Two.mk ?_ ?_)
        | (refine Cs.mk ?_; intro hcs; first | exact False.elim hcs | (exfalso; omega) | (refine Sm.out ?_))
        | go_step
        | omega
        | (simp only [maxLen_eq]; omega))
  all_goals (refine OutQ.all ?_ ?_; (focus (simp only [resv, ZK, look, loadv, loadn, loadnm, load1, load1m, hget, ↓reduceIte, Nat.reduceEqDiff, Nat.reduceAdd, Nat.reduceMul, Nat.reduceLeDiff, Nat.reduceLT, reduceCtorEq, TFTxC])); (try simp only [resv, resA, Fn, ZK, look, loadv, loadn, loadnm, load1, load1m, hget, ↓reduceIte, Nat.reduceEqDiff, Nat.reduceAdd, Nat.reduceMul, Nat.reduceLeDiff, Nat.reduceLT, reduceCtorEq, TFTxC]); (try simp [resA, Fn, look]))
theorem digit_ct (r : Int) : ACt Tryd.prog 22 [iv .i32 r] [] (Fn (bv (digB r))) := by
  unfold digB
  by_cases h1 : 48 ≤ r
  · have q1 : decide (r ≥ 48) = true := decide_eq_true h1
    by_cases h2 : r ≤ 57
    · have q2 : decide (r ≤ 57) = true := decide_eq_true h2
      rw [decide_eq_true (⟨h1, h2⟩ : 48 ≤ r ∧ r ≤ 57)]
      refine ACt.intro Tryd.func22 rfl (by kernel_rfl) (by simp [Tryd.ntmps22]) (fun cx => ?_)
      simp only [argE, Tryd.ntmps22, Tryd.results22]
      first | (have FRx := FR; clear FRx) | (have FR : Sm (¬ ((1 : Nat) = 0)) := Sm.mk Nat.one_ne_zero)
      repeat' first
        | (refine Sm.mk ?_; try simp -dsimp only [ZK, rvc, drawF, headN, pureH, stp, dvc, calleeOf, gcall, pev, eff, newB, okd, og, ogs, ogo, ogp, slv, bltv, opd, litv, strip, one, both, putE, St.put, look, gdOf, gdv, picka, pickv, pickw, binv, bini, bins, binb, binp, binq, isSlT, bina, shp, eqCells, unv, convv, nilv, faddv, addp, idxav, idxp, load1, load1m, loadn, loadnm, loadv, hget, hset, hrep, hdel, slicev, bnd, shift1, lenv, capv, IntKind.bits, extractv, fieldv, indexv, min2v, max2v, mkiv, cellsA, fillA, buildv, stC, oneC, rowMB, intsA, plN, appE, appZ, appC, appNZ, appNC, VwL, srcC, srcZ, srcM, isBoolT, isPtrT, isSliceT, uOk, Value.oneCell', Nat.reducePow, Int.reducePow, Nat.reduceAdd, Nat.reduceMul, Nat.reduceSub, Nat.reduceLT, Nat.reduceLeDiff, Nat.reduceEqDiff, Nat.reduceBEq, Nat.reduceDiv, Nat.reduceMod, ↓reduceIte, reduceCtorEq, Int.reduceToNat, Int.reduceLT, Int.reduceLE, TFTxC, SeqQ, BlkQ, LoopQ, BodyQ, q1, q2, FR.out])
        | (refine WP.seq fun K hK => ?_)
        | (refine WP.region (rvc_sound _ _ (Sm.out ?_)))
        | (refine WP.drawK rfl mixed (by decide +kernel) (Sm.out ?_))
        | (refine Ob.mk ?_; focus (first | assumption | omega | decide | trivial | (intro hob; simp only [hob, ZF]; done) | (intros; (repeat' refine And.intro ?_ ?_) <;> first | assumption | omega | trivial | decide) | (intros; simp only [ZE] at *; (repeat' refine And.intro ?_ ?_) <;> first | assumption | omega | trivial)))
        | (refine And.intro (Ob.out ?_) ?_)
        | (refine WP.block ?_)
        | (refine WP.cond rfl (fun hc => ?_) (fun hc => ?_) <;> (try simp only [ZC, reduceCtorEq, ZD] at hc) <;> (try (exact absurd hc (by decide))) <;> (try (exfalso; omega)))
        | ((first | refine WP.skip ?_ | refine WP.exit ?_); simp only [SeqQ, BlkQ, LoopQ, BodyQ, ↓reduceIte, Nat.reduceEqDiff, reduceCtorEq, look, true_and])
        | (refine WP.ret (Sm.out ?_))
        | (first | refine ExG.no (Sm.out ?_) | refine Or.inl (ExG.no (Sm.out ?_)) | refine Or.inl (And.intro (fun hg => absurd hg (by decide)) (ExG.no (Sm.out ?_))))
        | (refine Rt.mk ?_; refine And.intro ?_ ?_ <;> (intro hg; first | exact absurd hg (by decide) | refine Sm.out ?_))
        | (refine Nu.mk ?_; first | (fail_if_success (have := nb1)); intro nb1 | (fail_if_success (have := nb2)); intro nb2 | (fail_if_success (have := nb3)); intro nb3 | intro nbz)
        | (refine Fr.mk ?_; intro hfr; (first | (have hFRb : _ ≤ _ ∧ _ ≤ _ := And.intro hfr.1 hfr.2.1) | (have hFRb : _ ≤ _ := hfr.1) | skip); replace FR := Sm.mk (And.intro hfr FR.out); clear hfr; refine Sm.out ?_)
        | (refine Two.mk ?_ ?_)
        | (refine Cs.mk ?_; intro hcs; first | exact False.elim hcs | (exfalso; omega) | (refine Sm.out ?_))
        | go_step
        | omega
        | (simp only [maxLen_eq]; omega)
      (refine OutQ.all ?_ ?_; (focus (simp only [resv, ZK, look, loadv, loadn, loadnm, load1, load1m, hget, ↓reduceIte, Nat.reduceEqDiff, Nat.reduceAdd, Nat.reduceMul, Nat.reduceLeDiff, Nat.reduceLT, reduceCtorEq, TFTxC])); (try simp only [resv, resA, Fn, ZK, look, loadv, loadn, loadnm, load1, load1m, hget, ↓reduceIte, Nat.reduceEqDiff, Nat.reduceAdd, Nat.reduceMul, Nat.reduceLeDiff, Nat.reduceLT, reduceCtorEq, TFTxC]); (try simp [resA, Fn, look]))
    · have q2 : decide (r ≤ 57) = false := decide_eq_false h2
      rw [decide_eq_false (fun h => h2 h.2 : ¬ (48 ≤ r ∧ r ≤ 57))]
      refine ACt.intro Tryd.func22 rfl (by kernel_rfl) (by simp [Tryd.ntmps22]) (fun cx => ?_)
      simp only [argE, Tryd.ntmps22, Tryd.results22]
      first | (have FRx := FR; clear FRx) | (have FR : Sm (¬ ((1 : Nat) = 0)) := Sm.mk Nat.one_ne_zero)
      repeat' first
        | (refine Sm.mk ?_; try simp -dsimp only [ZK, rvc, drawF, headN, pureH, stp, dvc, calleeOf, gcall, pev, eff, newB, okd, og, ogs, ogo, ogp, slv, bltv, opd, litv, strip, one, both, putE, St.put, look, gdOf, gdv, picka, pickv, pickw, binv, bini, bins, binb, binp, binq, isSlT, bina, shp, eqCells, unv, convv, nilv, faddv, addp, idxav, idxp, load1, load1m, loadn, loadnm, loadv, hget, hset, hrep, hdel, slicev, bnd, shift1, lenv, capv, IntKind.bits, extractv, fieldv, indexv, min2v, max2v, mkiv, cellsA, fillA, buildv, stC, oneC, rowMB, intsA, plN, appE, appZ, appC, appNZ, appNC, VwL, srcC, srcZ, srcM, isBoolT, isPtrT, isSliceT, uOk, Value.oneCell', Nat.reducePow, Int.reducePow, Nat.reduceAdd, Nat.reduceMul, Nat.reduceSub, Nat.reduceLT, Nat.reduceLeDiff, Nat.reduceEqDiff, Nat.reduceBEq, Nat.reduceDiv, Nat.reduceMod, ↓reduceIte, reduceCtorEq, Int.reduceToNat, Int.reduceLT, Int.reduceLE, TFTxC, SeqQ, BlkQ, LoopQ, BodyQ, q1, q2, FR.out])
        | (refine WP.seq fun K hK => ?_)
        | (refine WP.region (rvc_sound _ _ (Sm.out ?_)))
        | (refine WP.drawK rfl mixed (by decide +kernel) (Sm.out ?_))
        | (refine Ob.mk ?_; focus (first | assumption | omega | decide | trivial | (intro hob; simp only [hob, ZF]; done) | (intros; (repeat' refine And.intro ?_ ?_) <;> first | assumption | omega | trivial | decide) | (intros; simp only [ZE] at *; (repeat' refine And.intro ?_ ?_) <;> first | assumption | omega | trivial)))
        | (refine And.intro (Ob.out ?_) ?_)
        | (refine WP.block ?_)
        | (refine WP.cond rfl (fun hc => ?_) (fun hc => ?_) <;> (try simp only [ZC, reduceCtorEq, ZD] at hc) <;> (try (exact absurd hc (by decide))) <;> (try (exfalso; omega)))
        | ((first | refine WP.skip ?_ | refine WP.exit ?_); simp only [SeqQ, BlkQ, LoopQ, BodyQ, ↓reduceIte, Nat.reduceEqDiff, reduceCtorEq, look, true_and])
        | (refine WP.ret (Sm.out ?_))
        | (first | refine ExG.no (Sm.out ?_) | refine Or.inl (ExG.no (Sm.out ?_)) | refine Or.inl (And.intro (fun hg => absurd hg (by decide)) (ExG.no (Sm.out ?_))))
        | (refine Rt.mk ?_; refine And.intro ?_ ?_ <;> (intro hg; first | exact absurd hg (by decide) | refine Sm.out ?_))
        | (refine Nu.mk ?_; first | (fail_if_success (have := nb1)); intro nb1 | (fail_if_success (have := nb2)); intro nb2 | (fail_if_success (have := nb3)); intro nb3 | intro nbz)
        | (refine Fr.mk ?_; intro hfr; (first | (have hFRb : _ ≤ _ ∧ _ ≤ _ := And.intro hfr.1 hfr.2.1) | (have hFRb : _ ≤ _ := hfr.1) | skip); replace FR := Sm.mk (And.intro hfr FR.out); clear hfr; refine Sm.out ?_)
        | (refine Two.mk ?_ ?_)
        | (refine Cs.mk ?_; intro hcs; first | exact False.elim hcs | (exfalso; omega) | (refine Sm.out ?_))
        | go_step
        | omega
        | (simp only [maxLen_eq]; omega)
      (refine OutQ.all ?_ ?_; (focus (simp only [resv, ZK, look, loadv, loadn, loadnm, load1, load1m, hget, ↓reduceIte, Nat.reduceEqDiff, Nat.reduceAdd, Nat.reduceMul, Nat.reduceLeDiff, Nat.reduceLT, reduceCtorEq, TFTxC])); (try simp only [resv, resA, Fn, ZK, look, loadv, loadn, loadnm, load1, load1m, hget, ↓reduceIte, Nat.reduceEqDiff, Nat.reduceAdd, Nat.reduceMul, Nat.reduceLeDiff, Nat.reduceLT, reduceCtorEq, TFTxC]); (try simp [resA, Fn, look]))
  · have q1 : decide (r ≥ 48) = false := decide_eq_false h1
    rw [decide_eq_false (fun h => h1 h.1 : ¬ (48 ≤ r ∧ r ≤ 57))]
    refine ACt.intro Tryd.func22 rfl (by kernel_rfl) (by simp [Tryd.ntmps22]) (fun cx => ?_)
    simp only [argE, Tryd.ntmps22, Tryd.results22]
    first | (have FRx := FR; clear FRx) | (have FR : Sm (¬ ((1 : Nat) = 0)) := Sm.mk Nat.one_ne_zero)
    repeat' first
      | (refine Sm.mk ?_; try simp -dsimp only [ZK, rvc, drawF, headN, pureH, stp, dvc, calleeOf, gcall, pev, eff, newB, okd, og, ogs, ogo, ogp, slv, bltv, opd, litv, strip, one, both, putE, St.put, look, gdOf, gdv, picka, pickv, pickw, binv, bini, bins, binb, binp, binq, isSlT, bina, shp, eqCells, unv, convv, nilv, faddv, addp, idxav, idxp, load1, load1m, loadn, loadnm, loadv, hget, hset, hrep, hdel, slicev, bnd, shift1, lenv, capv, IntKind.bits, extractv, fieldv, indexv, min2v, max2v, mkiv, cellsA, fillA, buildv, stC, oneC, rowMB, intsA, plN, appE, appZ, appC, appNZ, appNC, VwL, srcC, srcZ, srcM, isBoolT, isPtrT, isSliceT, uOk, Value.oneCell', Nat.reducePow, Int.reducePow, Nat.reduceAdd, Nat.reduceMul, Nat.reduceSub, Nat.reduceLT, Nat.reduceLeDiff, Nat.reduceEqDiff, Nat.reduceBEq, Nat.reduceDiv, Nat.reduceMod, ↓reduceIte, reduceCtorEq, Int.reduceToNat, Int.reduceLT, Int.reduceLE, TFTxC, SeqQ, BlkQ, LoopQ, BodyQ, q1, FR.out])
      | (refine WP.seq fun K hK => ?_)
      | (refine WP.region (rvc_sound _ _ (Sm.out ?_)))
      | (refine WP.drawK rfl mixed (by decide +kernel) (Sm.out ?_))
      | (refine Ob.mk ?_; focus (first | assumption | omega | decide | trivial | (intro hob; simp only [hob, ZF]; done) | (intros; (repeat' refine And.intro ?_ ?_) <;> first | assumption | omega | trivial | decide) | (intros; simp only [ZE] at *; (repeat' refine And.intro ?_ ?_) <;> first | assumption | omega | trivial)))
      | (refine And.intro (Ob.out ?_) ?_)
      | (refine WP.block ?_)
      | (refine WP.cond rfl (fun hc => ?_) (fun hc => ?_) <;> (try simp only [ZC, reduceCtorEq, ZD] at hc) <;> (try (exact absurd hc (by decide))) <;> (try (exfalso; omega)))
      | ((first | refine WP.skip ?_ | refine WP.exit ?_); simp only [SeqQ, BlkQ, LoopQ, BodyQ, ↓reduceIte, Nat.reduceEqDiff, reduceCtorEq, look, true_and])
      | (refine WP.ret (Sm.out ?_))
      | (first | refine ExG.no (Sm.out ?_) | refine Or.inl (ExG.no (Sm.out ?_)) | refine Or.inl (And.intro (fun hg => absurd hg (by decide)) (ExG.no (Sm.out ?_))))
      | (refine Rt.mk ?_; refine And.intro ?_ ?_ <;> (intro hg; first | exact absurd hg (by decide) | refine Sm.out ?_))
      | (refine Nu.mk ?_; first | (fail_if_success (have := nb1)); intro nb1 | (fail_if_success (have := nb2)); intro nb2 | (fail_if_success (have := nb3)); intro nb3 | intro nbz)
      | (refine Fr.mk ?_; intro hfr; (first | (have hFRb : _ ≤ _ ∧ _ ≤ _ := And.intro hfr.1 hfr.2.1) | (have hFRb : _ ≤ _ := hfr.1) | skip); replace FR := Sm.mk (And.intro hfr FR.out); clear hfr; refine Sm.out ?_)
      | (refine Two.mk ?_ ?_)
      | (refine Cs.mk ?_; intro hcs; first | exact False.elim hcs | (exfalso; omega) | (refine Sm.out ?_))
      | go_step
      | omega
      | (simp only [maxLen_eq]; omega)
    (refine OutQ.all ?_ ?_; (focus (simp only [resv, ZK, look, loadv, loadn, loadnm, load1, load1m, hget, ↓reduceIte, Nat.reduceEqDiff, Nat.reduceAdd, Nat.reduceMul, Nat.reduceLeDiff, Nat.reduceLT, reduceCtorEq, TFTxC])); (try simp only [resv, resA, Fn, ZK, look, loadv, loadn, loadnm, load1, load1m, hget, ↓reduceIte, Nat.reduceEqDiff, Nat.reduceAdd, Nat.reduceMul, Nat.reduceLeDiff, Nat.reduceLT, reduceCtorEq, TFTxC]); (try simp [resA, Fn, look]))
end Go.Proofs.YtjdjpgjjnajjhaaDoor
namespace Go.Proofs.YtjdjpgjjnajjhaaDoor
open Go
set_option linter.unusedVariables false
set_option linter.unusedSimpArgs false
/-- does a byte go on? -/
def ctB (zs : List Int) (k : Nat) : Prop := k < zs.length ∧ 128 ≤ zs.getD k 0 ∧ zs.getD k 0 ≤ 191
def nB (b : Int) : Nat := if 192 ≤ b ∧ b < 224 then 1 else if 224 ≤ b ∧ b < 240 then 2 else if 240 ≤ b ∧ b < 248 then 3 else 0
def bsR (n : Nat) : Int := [0, 192, 224, 240].getD n 0
def lsR (n : Nat) : Int := [0, 128, 2048, 65536].getD n 0
def cP (zs : List Int) (i n : Nat) : Nat → Int
  | 0 => zs.getD i 0 - bsR n
  | k + 1 => 64 * cP zs i n k + zs.getD (i + (k + 1)) 0 - 128
theorem cP_succ (zs : List Int) (i n k : Nat) : cP zs i n (k + 1) = 64 * cP zs i n k + zs.getD (i + (k + 1)) 0 - 128 := rfl
def allC (zs : List Int) (i n : Nat) : Prop := ∀ k, 1 ≤ k → k ≤ n → ctB zs (i + k)
def fitR (n : Nat) (c : Int) : Prop := lsR n ≤ c ∧ c ≤ 1114111 ∧ ¬ (55296 ≤ c ∧ c < 57344)
open Classical in
/-- the rune at a place, and how far it reaches; a bad byte is -1 -/
noncomputable def elR (zs : List Int) (i : Nat) : Int × Nat :=
  if zs.getD i 0 < 128 then (zs.getD i 0, 1)
  else if nB (zs.getD i 0) ≠ 0 ∧ allC zs i (nB (zs.getD i 0)) ∧ fitR (nB (zs.getD i 0)) (cP zs i (nB (zs.getD i 0)) (nB (zs.getD i 0))) then (cP zs i (nB (zs.getD i 0)) (nB (zs.getD i 0)), nB (zs.getD i 0) + 1) else (-1, 1)
theorem ct_cases {zs : List Int} (hb : By zs) (k : Nat) : (decide (k < (bstr zs).size) && (((bstr zs).get! k).toNat / 64 == 2)) = true ↔ ctB zs k := by
  rw [bstr_size]
  simp only [Bool.and_eq_true, decide_eq_true_eq, beq_iff_eq]
  unfold ctB
  constructor
  · rintro ⟨h1, h2⟩
    have := bstr_get hb h1
    exact ⟨h1, by omega, by omega⟩
  · rintro ⟨h1, h2, h3⟩
    have := bstr_get hb h1
    exact ⟨h1, by omega⟩
theorem valid_iff (c : Nat) : Utf8.valid (c : Int) = true ↔ (c : Int) ≤ 1114111 ∧ ¬ (55296 ≤ (c : Int) ∧ (c : Int) < 57344) := by
  unfold Utf8.valid
  simp only [Bool.and_eq_true, Bool.or_eq_true, decide_eq_true_eq]
  omega
theorem el_dec {zs : List Int} (hb : By zs) {i : Nat} (h : i < zs.length) : ∃ r w, Utf8.decode (bstr zs) i = (r, w) ∧ r < 2000000 ∧ ((elR zs i = ((r : Int), w) ∧ 1 ≤ w ∧ w ≤ 4 ∧ i + w ≤ zs.length) ∨ (elR zs i = (-1, 1) ∧ r = 65533 ∧ w = 1)) := by
  have hg := bstr_get hb h
  have hb0 := hb i h
  have c1 := ct_cases hb (i + 1)
  have c2 := ct_cases hb (i + 2)
  have c3 := ct_cases hb (i + 3)
  obtain ⟨G, hG⟩ : ∃ G : Nat → Nat, ∀ k, ((bstr zs).get! k).toNat = G k := ⟨_, fun _ => rfl⟩
  rw [hG] at hg
  simp only [hG] at c1 c2 c3
  by_cases h0 : zs.getD i 0 < 128
  · refine ⟨_, _, dec_lo hb h h0, by omega, .inl ⟨?_, by decide, by decide, by omega⟩⟩
    unfold elR; rw [if_pos h0]
    congr 1; omega
  have g1 : ctB zs (i + 1) → ((G (i + 1) : Nat) : Int) = zs.getD (i + 1) 0 := fun hc => by rw [← hG]; exact bstr_get hb hc.1
  have g2 : ctB zs (i + 2) → ((G (i + 2) : Nat) : Int) = zs.getD (i + 2) 0 := fun hc => by rw [← hG]; exact bstr_get hb hc.1
  have g3 : ctB zs (i + 3) → ((G (i + 3) : Nat) : Int) = zs.getD (i + 3) 0 := fun hc => by rw [← hG]; exact bstr_get hb hc.1
  have bad : ∀ (hx : ¬ (nB (zs.getD i 0) ≠ 0 ∧ allC zs i (nB (zs.getD i 0)) ∧ fitR (nB (zs.getD i 0)) (cP zs i (nB (zs.getD i 0)) (nB (zs.getD i 0))))), elR zs i = (-1, 1) := fun hx => by
    unfold elR; rw [if_neg h0, if_neg hx]
  have good : ∀ n, nB (zs.getD i 0) = n → n ≠ 0 → allC zs i n → fitR n (cP zs i n n) → elR zs i = (cP zs i n n, n + 1) := fun n e hn ha hf => by
    subst e; unfold elR; rw [if_neg h0, if_pos ⟨hn, ha, hf⟩]
  have key : ∃ r w, Utf8.decode (bstr zs) i = (r, w) ∧ ((elR zs i = ((r : Int), w) ∧ 1 ≤ w ∧ w ≤ 4 ∧ i + w ≤ zs.length ∧ r < 2000000) ∨ (elR zs i = (-1, 1) ∧ r = 65533 ∧ w = 1)) := by
    unfold Utf8.decode
    simp only [Nat.add_zero, hG]
    generalize hm0 : G i = m0 at hg ⊢
    generalize hm1 : G (i + 1) = m1 at c1 g1 ⊢
    generalize hm2 : G (i + 2) = m2 at c2 g2 ⊢
    generalize hm3 : G (i + 3) = m3 at c3 g3 ⊢
    generalize hk1 : (decide (i + 1 < (bstr zs).size) && (m1 / 64 == 2)) = k1 at c1 ⊢
    generalize hk2 : (decide (i + 2 < (bstr zs).size) && (m2 / 64 == 2)) = k2 at c2 ⊢
    generalize hk3 : (decide (i + 3 < (bstr zs).size) && (m3 / 64 == 2)) = k3 at c3 ⊢
    rw [if_neg (by omega)]
    by_cases n1 : 192 ≤ zs.getD i 0 ∧ zs.getD i 0 < 224
    · have hn : nB (zs.getD i 0) = 1 := by unfold nB; rw [if_pos n1]
      have e6 : (m0 / 32 == 6) = true := beq_iff_eq.2 (by omega)
      have e14 : (m0 / 16 == 14) = false := beq_eq_false_iff_ne.2 (by omega)
      have e30 : (m0 / 8 == 30) = false := beq_eq_false_iff_ne.2 (by omega)
      rw [e6, e14, e30]
      cases k1
      · simp only [Bool.and_false, Bool.false_and, Bool.false_eq_true, if_false]
        refine ⟨_, _, rfl, .inr ⟨bad fun hx => ?_, rfl, rfl⟩⟩
        rw [hn] at hx
        have := c1.2 (hx.2.1 1 (by omega) (by omega)); cases this
      · have hc := c1.1 rfl
        have hz := g1 hc
        obtain ⟨_, hz1, hz2⟩ := hc
        have hall : allC zs i 1 := fun k h1 h2 => by rcases (show k = 1 by omega) with rfl; exact c1.1 rfl
        have hcp : cP zs i 1 1 = ((m0 % 32 * 64 + m1 % 64 : Nat) : Int) := by
          show 64 * (zs.getD i 0 - 192) + zs.getD (i + 1) 0 - 128 = _
          omega
        simp only [Bool.and_true, if_true, Bool.true_and]
        by_cases hv : m0 % 32 * 64 + m1 % 64 ≥ 128
        · rw [if_pos hv]
          refine ⟨_, _, rfl, .inl ⟨?_, by decide, by decide, by have := (c1.1 rfl).1; omega, by omega⟩⟩
          rw [good 1 hn (by decide) hall (by rw [hcp]; exact ⟨by show (128 : Int) ≤ _; omega, by omega, by omega⟩), hcp]
        · rw [if_neg hv]
          refine ⟨_, _, rfl, .inr ⟨bad fun hx => ?_, rfl, rfl⟩⟩
          rw [hn] at hx
          have := hx.2.2.1
          rw [hcp] at this
          have this : (128 : Int) ≤ _ := this
          omega
    have e6 : (m0 / 32 == 6) = false := beq_eq_false_iff_ne.2 (by omega)
    rw [e6]
    by_cases n2 : 224 ≤ zs.getD i 0 ∧ zs.getD i 0 < 240
    · have hn : nB (zs.getD i 0) = 2 := by unfold nB; rw [if_neg n1, if_pos n2]
      have e14 : (m0 / 16 == 14) = true := beq_iff_eq.2 (by omega)
      have e30 : (m0 / 8 == 30) = false := beq_eq_false_iff_ne.2 (by omega)
      rw [e14, e30]
      by_cases hk : k1 = true ∧ k2 = true
      · obtain ⟨rfl, rfl⟩ := hk
        have hc1 := c1.1 rfl
        have hc2 := c2.1 rfl
        have hz1 := g1 hc1
        have hz2 := g2 hc2
        have hall : allC zs i 2 := fun k h1 h2 => by rcases (by omega : k = 1 ∨ k = 2) with rfl | rfl; exact hc1; exact hc2
        have hcp : cP zs i 2 2 = ((m0 % 16 * 4096 + m1 % 64 * 64 + m2 % 64 : Nat) : Int) := by
          show 64 * (64 * (zs.getD i 0 - 224) + zs.getD (i + 1) 0 - 128) + zs.getD (i + 2) 0 - 128 = _
          have := hc1.2; have := hc2.2
          omega
        simp only [Bool.false_and, Bool.and_true, Bool.true_and, if_true, Bool.false_eq_true, if_false]
        by_cases hv : m0 % 16 * 4096 + m1 % 64 * 64 + m2 % 64 ≥ 2048 ∧ Utf8.valid ((m0 % 16 * 4096 + m1 % 64 * 64 + m2 % 64 : Nat) : Int) = true
        · rw [if_pos (by simp only [Bool.and_eq_true, decide_eq_true_eq]; exact hv)]
          have hv2 := (valid_iff _).1 hv.2
          refine ⟨_, _, rfl, .inl ⟨?_, by decide, by decide, by have := hc2.1; omega, by omega⟩⟩
          rw [good 2 hn (by decide) hall (by rw [hcp]; exact ⟨by show (2048 : Int) ≤ _; omega, hv2.1, hv2.2⟩), hcp]
        · rw [if_neg (by simp only [Bool.and_eq_true, decide_eq_true_eq]; exact hv)]
          refine ⟨_, _, rfl, .inr ⟨bad fun hx => ?_, rfl, rfl⟩⟩
          rw [hn] at hx
          obtain ⟨f1, f2, f3⟩ := hx.2.2
          rw [hcp] at f1 f2 f3
          have f1 : (2048 : Int) ≤ _ := f1
          exact hv ⟨by omega, (valid_iff _).2 ⟨f2, f3⟩⟩
      · have hk' : (k1 && k2) = false := by cases k1 <;> cases k2 <;> simp_all
        have hx' : elR zs i = (-1, 1) := bad fun hx => by
          rw [hn] at hx
          exact hk ⟨c1.2 (hx.2.1 1 (by omega) (by omega)), c2.2 (hx.2.1 2 (by omega) (by omega))⟩
        have hif : (false && k1) = false := rfl
        refine ⟨Utf8.runeError, 1, ?_, .inr ⟨hx', rfl, rfl⟩⟩
        simp only [Bool.false_and, Bool.true_and, hk', Bool.false_eq_true, if_false]
    have e14 : (m0 / 16 == 14) = false := beq_eq_false_iff_ne.2 (by omega)
    rw [e14]
    by_cases n3 : 240 ≤ zs.getD i 0 ∧ zs.getD i 0 < 248
    · have hn : nB (zs.getD i 0) = 3 := by unfold nB; rw [if_neg n1, if_neg n2, if_pos n3]
      have e30 : (m0 / 8 == 30) = true := beq_iff_eq.2 (by omega)
      rw [e30]
      by_cases hk : k1 = true ∧ k2 = true ∧ k3 = true
      · obtain ⟨rfl, rfl, rfl⟩ := hk
        have hc1 := c1.1 rfl
        have hc2 := c2.1 rfl
        have hc3 := c3.1 rfl
        have hz1 := g1 hc1
        have hz2 := g2 hc2
        have hz3 := g3 hc3
        have hall : allC zs i 3 := fun k h1 h2 => by rcases (by omega : k = 1 ∨ k = 2 ∨ k = 3) with rfl | rfl | rfl; exact hc1; exact hc2; exact hc3
        have hcp : cP zs i 3 3 = ((m0 % 8 * 262144 + m1 % 64 * 4096 + m2 % 64 * 64 + m3 % 64 : Nat) : Int) := by
          show 64 * (64 * (64 * (zs.getD i 0 - 240) + zs.getD (i + 1) 0 - 128) + zs.getD (i + 2) 0 - 128) + zs.getD (i + 3) 0 - 128 = _
          have := hc1.2; have := hc2.2; have := hc3.2
          omega
        simp only [Bool.false_and, Bool.and_true, Bool.true_and, if_true, Bool.false_eq_true, if_false]
        by_cases hv : m0 % 8 * 262144 + m1 % 64 * 4096 + m2 % 64 * 64 + m3 % 64 ≥ 65536 ∧ Utf8.valid ((m0 % 8 * 262144 + m1 % 64 * 4096 + m2 % 64 * 64 + m3 % 64 : Nat) : Int) = true
        · rw [if_pos (by simp only [Bool.and_eq_true, decide_eq_true_eq]; exact hv)]
          have hv2 := (valid_iff _).1 hv.2
          refine ⟨_, _, rfl, .inl ⟨?_, by decide, by decide, by have := hc3.1; omega, by omega⟩⟩
          rw [good 3 hn (by decide) hall (by rw [hcp]; exact ⟨by show (65536 : Int) ≤ _; omega, hv2.1, hv2.2⟩), hcp]
        · rw [if_neg (by simp only [Bool.and_eq_true, decide_eq_true_eq]; exact hv)]
          refine ⟨_, _, rfl, .inr ⟨bad fun hx => ?_, rfl, rfl⟩⟩
          rw [hn] at hx
          obtain ⟨f1, f2, f3⟩ := hx.2.2
          rw [hcp] at f1 f2 f3
          have f1 : (65536 : Int) ≤ _ := f1
          exact hv ⟨by omega, (valid_iff _).2 ⟨f2, f3⟩⟩
      · have hk' : (k1 && k2 && k3) = false := by cases k1 <;> cases k2 <;> cases k3 <;> simp_all
        have hx' : elR zs i = (-1, 1) := bad fun hx => by
          rw [hn] at hx
          exact hk ⟨c1.2 (hx.2.1 1 (by omega) (by omega)), c2.2 (hx.2.1 2 (by omega) (by omega)), c3.2 (hx.2.1 3 (by omega) (by omega))⟩
        refine ⟨Utf8.runeError, 1, ?_, .inr ⟨hx', rfl, rfl⟩⟩
        simp only [Bool.false_and, Bool.true_and, hk', Bool.false_eq_true, if_false]
    have e30 : (m0 / 8 == 30) = false := beq_eq_false_iff_ne.2 (by omega)
    rw [e30]
    have hn : nB (zs.getD i 0) = 0 := by unfold nB; rw [if_neg n1, if_neg n2, if_neg n3]
    refine ⟨Utf8.runeError, 1, ?_, .inr ⟨bad fun hx => hx.1 hn, rfl, rfl⟩⟩
    simp only [Bool.false_and, Bool.false_eq_true, if_false]
  obtain ⟨r, w, e, h1 | h1⟩ := key
  · exact ⟨r, w, e, h1.2.2.2.2, .inl ⟨h1.1, h1.2.1, h1.2.2.1, h1.2.2.2.1⟩⟩
  · exact ⟨r, w, e, by have := h1.2.1; omega, .inr h1⟩
end Go.Proofs.YtjdjpgjjnajjhaaDoor
