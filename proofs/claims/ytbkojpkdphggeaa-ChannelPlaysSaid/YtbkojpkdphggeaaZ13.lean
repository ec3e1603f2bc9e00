/-
  The walks and the laws that the statement leans on, part 13.
-/
import Derived.Test.YtbkojpkdphggeaaZ12
namespace Go.Proofs.Ytbkojpkdphggeaa
open Go
set_option linter.unusedVariables false
set_option linter.unusedSimpArgs false
set_option linter.defProp false
def TFCnK :=
  And.intro (And.intro (And.intro (And.intro (And.intro (And.intro tyc0 tyc3) (And.intro zmb3 tyc4)) (And.intro (And.intro zmb4 tyc27) (And.intro mth27_26 (And.intro mth27_27 con27)))) (And.intro (And.intro (And.intro zmb27 tyc28) (And.intro elt28 (And.intro mkz28 mkc28))) (And.intro (And.intro apT28 elk28) (And.intro zmb28 (And.intro tyc29 elt29))))) (And.intro (And.intro (And.intro (And.intro mkz29 mkc29) (And.intro apT29 elk29)) (And.intro (And.intro zmb29 tyc32) (And.intro foff32_0 (And.intro fpart32_0 foff32_1)))) (And.intro (And.intro (And.intro fpart32_1 foff32_2) (And.intro fpart32_2 (And.intro zmb32 bldT32))) (And.intro (And.intro tyc33 zmb33) (And.intro tyc37 (And.intro foff37_0 fpart37_0)))))) (And.intro (And.intro (And.intro (And.intro (And.intro foff37_1 fpart37_1) (And.intro foff37_2 fpart37_2)) (And.intro (And.intro zmb37 bldT37) (And.intro tyc50 (And.intro foff50_0 fpart50_0)))) (And.intro (And.intro (And.intro foff50_1 fpart50_1) (And.intro foff50_2 (And.intro fpart50_2 foff50_3))) (And.intro (And.intro fpart50_3 foff50_4) (And.intro fpart50_4 (And.intro fe50 zmb50))))) (And.intro (And.intro (And.intro (And.intro bldT50 tyc53) (And.intro foff53_0 fpart53_0)) (And.intro (And.intro foff53_1 fpart53_1) (And.intro zmb53 (And.intro bldT53 Try.underlying0)))) (And.intro (And.intro (And.intro Try.underlying3 Try.underlying4) (And.intro Try.underlying27 (And.intro Try.underlying28 Try.underlying29))) (And.intro (And.intro Try.underlying32 Try.underlying33) (And.intro Try.underlying37 (And.intro Try.underlying50 Try.underlying53))))))
theorem has_n (k : Ky) : ACt Try.prog 19 [nsl, kv k] [] (Fn (bv false)) := by
  have h := has_ct [] k 0 rfl (by omega)
  rw [hasB_f (by simp)] at h
  exact h.view rfl ⟨.nils, .same _, trivial⟩
theorem has_o (x c : Nat) (h : List Ky) (k : Ky) (n : Nat) (hn : h.length = n) (hl : n ≤ 100000) (h2 : n ≤ c) (h3 : c ≤ 9223372036854775807) :
    ACt Try.prog 19 [ms x 0 n c, kv k] [(x, .cells (kcs h) (c * 5) 50)] (fun r F' => r = bv (hasB h k) ∧ F' = [(x, .cells (kcs h) (c * 5) 50)]) :=
  (has_ct h k n hn hl).view rfl ⟨vw_row h2 (by rw [maxLen_eq]; omega), .same _, trivial⟩
theorem rdel_n (c : Nat) (H N : AV) (i : Int) : ACt Try.prog 11 [pt c 0, iv .i64 i] [(c, rM nsl H N)] (fun r F' => r = .tup [nsl, iv .i64 7] ∧ F' = [(c, rM nsl H N)]) := by
  have cA := there_n c H N i
  refine ACt.intro Try.func11 rfl (by kernel_rfl) (by simp [Try.ntmps11]) (fun cx => ?_)
  simp only [argE, Try.ntmps11, Try.results11]
  first | (have FRx := FR; clear FRx) | have FR := fr0S
  repeat' first | (refine Sm.mk ?_; try simp -dsimp only [ZK, rvc, drawF, headN, pureH, stp, dvc, calleeOf, gcall, pev, eff, newB, okd, og, ogs, ogo, ogp, slv, bltv, opd, litv, strip, one, both, putE, St.put, look, gdOf, gdv, picka, pickv, pickw, binv, bini, bins, binb, binp, binq, isSlT, bina, shp, eqCells, unv, convv, nilv, faddv, addp, idxav, idxp, load1, load1m, loadn, loadnm, loadv, hget, hset, hrep, hdel, slicev, slice3v, bnd, shift1, lenv, capv, IntKind.bits, extractv, fieldv, indexv, min2v, max2v, mkiv, tasv, tasz, cellsA, fillA, buildv, stC, oneC, rowMB, intsA, plN, appE, appZ, appC, appS, srcB, appNZ, appNC, VwL, srcC, srcZ, srcM, isBoolT, isPtrT, isSliceT, uOk, Value.oneCell', Nat.reducePow, Int.reducePow, Nat.reduceAdd, Nat.reduceMul, Nat.reduceSub, Nat.reduceLT, Nat.reduceLeDiff, Nat.reduceEqDiff, Nat.reduceBEq, Nat.reduceDiv, Nat.reduceMod, ↓reduceIte, reduceCtorEq, Int.reduceToNat, Int.reduceLT, Int.reduceLE, drawMF, mkS, TFCnK, SeqQ, BlkQ, LoopQ, BodyQ, FR.out]) | (refine CallV.upd (by simp only [hget, ↓reduceIte, FR.out]; first | done | rfl) (cA) (Sm.out ?_)) | refine WP.seq fun K hK => ?_ | refine WP.region (rvc_sound _ _ (Sm.out ?_)) | (refine WP.drawMk (ia := 8) (k := 9) mixed (by decide +kernel) (by decide +kernel) (by decide +kernel) (by decide +kernel) (Sm.out ?_)) | (refine WP.drawMk (ia := 11) (k := 12) mixed (by decide +kernel) (by decide +kernel) (by decide +kernel) (by decide +kernel) (Sm.out ?_)) | refine WP.drawK rfl mixed (by decide +kernel) (Sm.out ?_) | (refine Ob.mk ?_; focus (first | assumption | omega | decide | trivial | (intro hob; simp only [hob, ZF]; done) | (intros; (repeat' refine And.intro ?_ ?_) <;> first | assumption | omega | trivial | decide) | (intros; simp only [ZE] at *; (repeat' refine And.intro ?_ ?_) <;> first | assumption | omega | trivial))) | refine And.intro (Ob.out ?_) ?_ | refine WP.block ?_ | (refine WP.cond rfl (fun hc => ?_) (fun hc => ?_) <;> (try simp only [ZC, reduceCtorEq, ZD] at hc) <;> (try exact absurd hc (by decide)) <;> (try (exfalso; omega))) | ((first | refine WP.skip ?_ | refine WP.exit ?_); simp only [SeqQ, BlkQ, LoopQ, BodyQ, ↓reduceIte, Nat.reduceEqDiff, reduceCtorEq, look, true_and]) | refine WP.ret (Sm.out ?_) | (first | refine ExG.no (Sm.out ?_) | refine Or.inl (ExG.no (Sm.out ?_)) | refine Or.inl (And.intro (fun hg => absurd hg (by decide)) (ExG.no (Sm.out ?_)))) | (refine Rt.mk ?_; refine And.intro ?_ ?_ <;> (intro hg; first | exact absurd hg (by decide) | refine Sm.out ?_)) | (refine Nu.mk ?_; first | (fail_if_success have := nb1); intro nb1 | (fail_if_success have := nb2); intro nb2 | (fail_if_success have := nb3); intro nb3 | (fail_if_success have := nb4); intro nb4 | (fail_if_success have := nb5); intro nb5 | (fail_if_success have := nb6); intro nb6 | (fail_if_success have := nb7); intro nb7 | (fail_if_success have := nb8); intro nb8 | (fail_if_success have := nb9); intro nb9 | (fail_if_success have := nb10); intro nb10 | (fail_if_success have := nb11); intro nb11 | (fail_if_success have := nb12); intro nb12 | intro nbz) | (refine Fr.mk ?_; intro hfr; (first | (have hFRb : _ ≤ _ ∧ _ ≤ _ := And.intro hfr.1 hfr.2.1) | (have hFRb : _ ≤ _ := hfr.1) | skip); replace FR := Sm.mk (And.intro hfr FR.out); clear hfr; refine Sm.out ?_) | refine Two.mk ?_ ?_ | (refine Cs.mk ?_; intro hcs; first | exact False.elim hcs | (exfalso; omega) | (refine Sm.out ?_)) | go_step | omega | (simp only [maxLen_eq]; omega)
  (refine OutQ.upd (by simp only [resv, ZK, look, loadv, loadn, loadnm, load1, load1m, hget, ↓reduceIte, Nat.reduceEqDiff, Nat.reduceAdd, Nat.reduceMul, Nat.reduceLeDiff, Nat.reduceLT, reduceCtorEq, TFCnK, FR.out]) (by simp only [resv, resA, ZK, look, loadv, loadn, loadnm, load1, load1m, hget, ↓reduceIte, Nat.reduceEqDiff, Nat.reduceAdd, Nat.reduceMul, Nat.reduceLeDiff, Nat.reduceLT, reduceCtorEq, TFCnK, FR.out]; first | done | rfl) (by simp only [hget, ↓reduceIte, if_true, if_false, FR.out]; first | done | rfl) ?_ <;> first | exact rfl | (simp only [ZK, look, loadv, loadn, loadnm, load1, load1m, hget, ↓reduceIte, Nat.reduceEqDiff, Nat.reduceAdd, Nat.reduceMul, Nat.reduceLeDiff, Nat.reduceLT, reduceCtorEq, TFCnK, FR.out]; done) | skip)
theorem rdel_b (c x n k : Nat) (H N : AV) (i : Int) (h : atI n i = 7) : ACt Try.prog 11 [pt c 0, iv .i64 i] [(c, rM (ms x 0 n k) H N)] (fun r F' => r = .tup [nsl, iv .i64 7] ∧ F' = [(c, rM (ms x 0 n k) H N)]) := by
  have cA := there_s c x n k H N i
  rw [h, show ((7 : Int) == 0) = false from rfl] at cA
  refine ACt.intro Try.func11 rfl (by kernel_rfl) (by simp [Try.ntmps11]) (fun cx => ?_)
  simp only [argE, Try.ntmps11, Try.results11]
  first | (have FRx := FR; clear FRx) | have FR := fr0S
  repeat' first | (refine Sm.mk ?_; try simp -dsimp only [ZK, rvc, drawF, headN, pureH, stp, dvc, calleeOf, gcall, pev, eff, newB, okd, og, ogs, ogo, ogp, slv, bltv, opd, litv, strip, one, both, putE, St.put, look, gdOf, gdv, picka, pickv, pickw, binv, bini, bins, binb, binp, binq, isSlT, bina, shp, eqCells, unv, convv, nilv, faddv, addp, idxav, idxp, load1, load1m, loadn, loadnm, loadv, hget, hset, hrep, hdel, slicev, slice3v, bnd, shift1, lenv, capv, IntKind.bits, extractv, fieldv, indexv, min2v, max2v, mkiv, tasv, tasz, cellsA, fillA, buildv, stC, oneC, rowMB, intsA, plN, appE, appZ, appC, appS, srcB, appNZ, appNC, VwL, srcC, srcZ, srcM, isBoolT, isPtrT, isSliceT, uOk, Value.oneCell', Nat.reducePow, Int.reducePow, Nat.reduceAdd, Nat.reduceMul, Nat.reduceSub, Nat.reduceLT, Nat.reduceLeDiff, Nat.reduceEqDiff, Nat.reduceBEq, Nat.reduceDiv, Nat.reduceMod, ↓reduceIte, reduceCtorEq, Int.reduceToNat, Int.reduceLT, Int.reduceLE, drawMF, mkS, TFCnK, SeqQ, BlkQ, LoopQ, BodyQ, FR.out]) | (refine CallV.upd (by simp only [hget, ↓reduceIte, FR.out]; first | done | rfl) (cA) (Sm.out ?_)) | refine WP.seq fun K hK => ?_ | refine WP.region (rvc_sound _ _ (Sm.out ?_)) | (refine WP.drawMk (ia := 8) (k := 9) mixed (by decide +kernel) (by decide +kernel) (by decide +kernel) (by decide +kernel) (Sm.out ?_)) | (refine WP.drawMk (ia := 11) (k := 12) mixed (by decide +kernel) (by decide +kernel) (by decide +kernel) (by decide +kernel) (Sm.out ?_)) | refine WP.drawK rfl mixed (by decide +kernel) (Sm.out ?_) | (refine Ob.mk ?_; focus (first | assumption | omega | decide | trivial | (intro hob; simp only [hob, ZF]; done) | (intros; (repeat' refine And.intro ?_ ?_) <;> first | assumption | omega | trivial | decide) | (intros; simp only [ZE] at *; (repeat' refine And.intro ?_ ?_) <;> first | assumption | omega | trivial))) | refine And.intro (Ob.out ?_) ?_ | refine WP.block ?_ | (refine WP.cond rfl (fun hc => ?_) (fun hc => ?_) <;> (try simp only [ZC, reduceCtorEq, ZD] at hc) <;> (try exact absurd hc (by decide)) <;> (try (exfalso; omega))) | ((first | refine WP.skip ?_ | refine WP.exit ?_); simp only [SeqQ, BlkQ, LoopQ, BodyQ, ↓reduceIte, Nat.reduceEqDiff, reduceCtorEq, look, true_and]) | refine WP.ret (Sm.out ?_) | (first | refine ExG.no (Sm.out ?_) | refine Or.inl (ExG.no (Sm.out ?_)) | refine Or.inl (And.intro (fun hg => absurd hg (by decide)) (ExG.no (Sm.out ?_)))) | (refine Rt.mk ?_; refine And.intro ?_ ?_ <;> (intro hg; first | exact absurd hg (by decide) | refine Sm.out ?_)) | (refine Nu.mk ?_; first | (fail_if_success have := nb1); intro nb1 | (fail_if_success have := nb2); intro nb2 | (fail_if_success have := nb3); intro nb3 | (fail_if_success have := nb4); intro nb4 | (fail_if_success have := nb5); intro nb5 | (fail_if_success have := nb6); intro nb6 | (fail_if_success have := nb7); intro nb7 | (fail_if_success have := nb8); intro nb8 | (fail_if_success have := nb9); intro nb9 | (fail_if_success have := nb10); intro nb10 | (fail_if_success have := nb11); intro nb11 | (fail_if_success have := nb12); intro nb12 | intro nbz) | (refine Fr.mk ?_; intro hfr; (first | (have hFRb : _ ≤ _ ∧ _ ≤ _ := And.intro hfr.1 hfr.2.1) | (have hFRb : _ ≤ _ := hfr.1) | skip); replace FR := Sm.mk (And.intro hfr FR.out); clear hfr; refine Sm.out ?_) | refine Two.mk ?_ ?_ | (refine Cs.mk ?_; intro hcs; first | exact False.elim hcs | (exfalso; omega) | (refine Sm.out ?_)) | go_step | omega | (simp only [maxLen_eq]; omega)
  (refine OutQ.upd (by simp only [resv, ZK, look, loadv, loadn, loadnm, load1, load1m, hget, ↓reduceIte, Nat.reduceEqDiff, Nat.reduceAdd, Nat.reduceMul, Nat.reduceLeDiff, Nat.reduceLT, reduceCtorEq, TFCnK, FR.out]) (by simp only [resv, resA, ZK, look, loadv, loadn, loadnm, load1, load1m, hget, ↓reduceIte, Nat.reduceEqDiff, Nat.reduceAdd, Nat.reduceMul, Nat.reduceLeDiff, Nat.reduceLT, reduceCtorEq, TFCnK, FR.out]; first | done | rfl) (by simp only [hget, ↓reduceIte, if_true, if_false, FR.out]; first | done | rfl) ?_ <;> first | exact rfl | (simp only [ZK, look, loadv, loadn, loadnm, load1, load1m, hget, ↓reduceIte, Nat.reduceEqDiff, Nat.reduceAdd, Nat.reduceMul, Nat.reduceLeDiff, Nat.reduceLT, reduceCtorEq, TFCnK, FR.out]; done) | skip)
theorem rdel_r (c x k : Nat) (l : List Pk) (n i : Nat) (hd : c ≠ x ∧ x ≠ c) (H N : AV) (hn : l.length = n) (hi : i < n) (hk : n ≤ k ∧ k ≤ 9223372036854775807) (hkl : n ≤ 100000) (m : Mg) (hl : l[i]'(by omega) = ⟨true, m⟩) :
    ACt Try.prog 11 [pt c 0, iv .i64 (i : Int)] [(c, rM (ms x 0 n k) H N), (x, .cells (pcs l) (k * 4) 53)]
      (fun r F' => ∃ y k', (n - 1 ≤ k' ∧ k' ≤ 9223372036854775807) ∧ r = .tup [.sl m.ks.length (kcs m.ks), iv .i64 0] ∧ F' = [(y, .cells (pcs (l.eraseIdx i)) (k' * 4) 53), (c, rM (ms y 0 (n - 1) k') H N)]) := by
  have cA := there_s c x n k H N i
  rw [show atI n (i : Int) = 0 by unfold atI; rw [if_pos (by omega)], show ((0 : Int) == 0) = true from rfl] at cA
  have cT := without_ct c x k l n i hd H N hn hi hk hkl
  have hdr := pcs_drop l i (by omega)
  rw [hl] at hdr
  have hpl := pcs_len l
  rw [hn] at hpl
  obtain ⟨q, hq⟩ : ∃ n, n = m.ks.length := ⟨_, rfl⟩
  obtain ⟨K1, hK1⟩ : ∃ C, C = kcs m.ks := ⟨_, rfl⟩
  simp only [← hq, ← hK1] at hdr ⊢
  clear hl hK1
  obtain ⟨C, hC⟩ : ∃ C, C = pcs l := ⟨_, rfl⟩
  rw [← hC] at cT hdr hpl ⊢
  obtain ⟨D, hD⟩ : ∃ D, D = pcs (l.eraseIdx i) := ⟨_, rfl⟩
  rw [← hD] at cT ⊢
  obtain ⟨n1, hn1⟩ : ∃ n1, n1 = n - 1 := ⟨_, rfl⟩
  rw [← hn1] at cT ⊢
  have t1 : ∀ q : Nat, ((q : Nat) : Int).toNat = q := fun q => by omega
  have g1 : i * 4 + 4 ≤ n * 4 := by omega
  obtain ⟨mg, mp, mks⟩ := m
  refine ACt.intro Try.func11 rfl (by kernel_rfl) (by simp [Try.ntmps11]) (fun cx => ?_)
  simp only [argE, Try.ntmps11, Try.results11]
  first | (have FRx := FR; clear FRx) | have FR := fr0S
  repeat' first | (refine Sm.mk ?_; try simp -dsimp only [ZK, rvc, drawF, headN, pureH, stp, dvc, calleeOf, gcall, pev, eff, newB, okd, og, ogs, ogo, ogp, slv, bltv, opd, litv, strip, one, both, putE, St.put, look, gdOf, gdv, picka, pickv, pickw, binv, bini, bins, binb, binp, binq, isSlT, bina, shp, eqCells, unv, convv, nilv, faddv, addp, idxav, idxp, load1, load1m, loadn, loadnm, loadv, hget, hset, hrep, hdel, slicev, slice3v, bnd, shift1, lenv, capv, IntKind.bits, extractv, fieldv, indexv, min2v, max2v, mkiv, tasv, tasz, cellsA, fillA, buildv, stC, oneC, rowMB, intsA, plN, appE, appZ, appC, appS, srcB, appNZ, appNC, VwL, srcC, srcZ, srcM, isBoolT, isPtrT, isSliceT, uOk, Value.oneCell', Nat.reducePow, Int.reducePow, Nat.reduceAdd, Nat.reduceMul, Nat.reduceSub, Nat.reduceLT, Nat.reduceLeDiff, Nat.reduceEqDiff, Nat.reduceBEq, Nat.reduceDiv, Nat.reduceMod, ↓reduceIte, reduceCtorEq, Int.reduceToNat, Int.reduceLT, Int.reduceLE, drawMF, mkS, TFCnK, SeqQ, BlkQ, LoopQ, BodyQ, hd, hi, hdr, hpl, t1, g1, Nat.zero_add, FR.out]) | (refine CallV.upd (by simp only [hget, ↓reduceIte, FR.out, hd, hi, hdr, hpl, t1, g1, Nat.zero_add]; first | done | rfl) (cA) (Sm.out ?_)) | refine CallV.newC (cT) (pr_b _ _ _) (fun _ _ => rfl) (Sm.out ?_) | refine WP.seq fun K hK => ?_ | refine WP.region (rvc_sound _ _ (Sm.out ?_)) | (refine WP.drawMk (ia := 8) (k := 9) mixed (by decide +kernel) (by decide +kernel) (by decide +kernel) (by decide +kernel) (Sm.out ?_)) | (refine WP.drawMk (ia := 11) (k := 12) mixed (by decide +kernel) (by decide +kernel) (by decide +kernel) (by decide +kernel) (Sm.out ?_)) | refine WP.drawK rfl mixed (by decide +kernel) (Sm.out ?_) | (refine Ob.mk ?_; focus (first | assumption | omega | decide | trivial | (intro hob; simp only [hob, ZF]; done) | (intros; (repeat' refine And.intro ?_ ?_) <;> first | assumption | omega | trivial | decide) | (intros; simp only [ZE] at *; (repeat' refine And.intro ?_ ?_) <;> first | assumption | omega | trivial))) | refine And.intro (Ob.out ?_) ?_ | refine WP.block ?_ | (refine WP.cond rfl (fun hc => ?_) (fun hc => ?_) <;> (try simp only [ZC, reduceCtorEq, ZD] at hc) <;> (try exact absurd hc (by decide)) <;> (try (exfalso; omega))) | ((first | refine WP.skip ?_ | refine WP.exit ?_); simp only [SeqQ, BlkQ, LoopQ, BodyQ, ↓reduceIte, Nat.reduceEqDiff, reduceCtorEq, look, true_and]) | refine WP.ret (Sm.out ?_) | (first | refine ExG.no (Sm.out ?_) | refine Or.inl (ExG.no (Sm.out ?_)) | refine Or.inl (And.intro (fun hg => absurd hg (by decide)) (ExG.no (Sm.out ?_)))) | (refine Rt.mk ?_; refine And.intro ?_ ?_ <;> (intro hg; first | exact absurd hg (by decide) | refine Sm.out ?_)) | (refine Nu.mk ?_; first | (fail_if_success have := nb1); intro nb1 | (fail_if_success have := nb2); intro nb2 | (fail_if_success have := nb3); intro nb3 | (fail_if_success have := nb4); intro nb4 | (fail_if_success have := nb5); intro nb5 | (fail_if_success have := nb6); intro nb6 | (fail_if_success have := nb7); intro nb7 | (fail_if_success have := nb8); intro nb8 | (fail_if_success have := nb9); intro nb9 | (fail_if_success have := nb10); intro nb10 | (fail_if_success have := nb11); intro nb11 | (fail_if_success have := nb12); intro nb12 | intro nbz) | (refine Fr.mk ?_; intro hfr; (first | (have hFRb : _ ≤ _ ∧ _ ≤ _ := And.intro hfr.1 hfr.2.1) | (have hFRb : _ ≤ _ := hfr.1) | skip); replace FR := Sm.mk (And.intro hfr FR.out); clear hfr; refine Sm.out ?_) | refine Two.mk ?_ ?_ | (refine Cs.mk ?_; intro hcs; first | exact False.elim hcs | (exfalso; omega) | (refine Sm.out ?_)) | go_step | omega | (simp only [maxLen_eq]; omega)
  (refine OutQ.drop _ _ (perm2 (by simp only [hget, hdel, ↓reduceIte, if_true, if_false, FR.out, hd]; first | done | rfl) (by simp only [hget, hdel, ↓reduceIte, if_true, if_false, FR.out, hd]; first | done | rfl)) (by simp only [resv, ZK, look, loadv, loadn, loadnm, load1, load1m, hget, ↓reduceIte, Nat.reduceEqDiff, Nat.reduceAdd, Nat.reduceMul, Nat.reduceLeDiff, Nat.reduceLT, reduceCtorEq, TFCnK, FR.out, hd]) ⟨nb2, nb3, FR.out.1.1, (by simp only [resv, resA, ZK, look, loadv, loadn, loadnm, load1, load1m, hget, ↓reduceIte, Nat.reduceEqDiff, Nat.reduceAdd, Nat.reduceMul, Nat.reduceLeDiff, Nat.reduceLT, reduceCtorEq, TFCnK, FR.out, hd]; first | done | rfl), rfl⟩)
def hdR (c : Nat) (F N : AV) (h : List Ky) (q : Nat × Nat) : Hp :=
  match h with
  | [] => [(c, rM F nsl N)]
  | k :: r => [(q.1, .cells (kcs (k :: r)) (q.2 * 5) 50), (c, rM F (ms q.1 0 (k :: r).length q.2) N)]
theorem hdR_ne {c : Nat} {F N : AV} {h : List Ky} (q : Nat × Nat) (hh : h ≠ []) : hdR c F N h q = [(q.1, .cells (kcs h) (q.2 * 5) 50), (c, rM F (ms q.1 0 h.length q.2) N)] := by
  cases h with
  | nil => exact absurd rfl hh
  | cons k r => rfl
def ROk (c b1 b2 : Nat) (h : List Ky) (q : Nat × Nat) : Prop := h ≠ [] → ((c ≠ q.1 ∧ q.1 ≠ c) ∧ (b1 ≠ q.1 ∧ q.1 ≠ b1) ∧ (b2 ≠ q.1 ∧ q.1 ≠ b2)) ∧ h.length ≤ q.2 ∧ q.2 ≤ 9223372036854775807
theorem pr_h {α : Type} (a b c d e : α) : List.Perm [a, b, c, d, e] ([a, c, d, e] ++ [b]) := by
  show List.Perm (a :: ([b] ++ [c, d, e])) (a :: ([c, d, e] ++ [b]))
  exact List.Perm.cons _ List.perm_append_comm
theorem pr_i {α : Type} (a b c d e : α) : List.Perm [a, b, c, d, e] ([b, c, d, e] ++ [a]) := by
  show List.Perm ([a] ++ [b, c, d, e]) ([b, c, d, e] ++ [a])
  exact List.perm_append_comm
theorem pr_j {α : Type} (a b c d : α) : List.Perm [a, b, c, d] ([b, d, a] ++ [c]) := by
  have h1 : List.Perm [a, b, c, d] [b, c, d, a] := List.perm_append_comm (l₁ := [a]) (l₂ := [b, c, d])
  have h2 : List.Perm [b, c, d, a] (b :: ([d, a] ++ [c])) := List.Perm.cons _ (List.perm_append_comm (l₁ := [c]) (l₂ := [d, a]))
  exact h1.trans h2
theorem pr_k {α : Type} (a b c d : α) : List.Perm [a, b, c, d] ([b, c] ++ [a, d]) := by
  have h1 : List.Perm ([a] ++ [b, c] ++ [d]) ([b, c] ++ [a] ++ [d]) := List.perm_append_comm.append_right _
  simpa using h1
theorem pr_l {α : Type} (a b c d e : α) : List.Perm [a, b, c, d, e] ([e, b] ++ [d, a] ++ [c]) := by
  have h1 : List.Perm [a, b, c, d, e] [e, a, b, c, d] := List.perm_append_comm (l₁ := [a, b, c, d]) (l₂ := [e])
  have h2 : List.Perm [a, b, c, d] [b, d, a, c] := by
    have h3 : List.Perm [a, b, c, d] [b, c, d, a] := List.perm_append_comm (l₁ := [a]) (l₂ := [b, c, d])
    have h4 : List.Perm [c, d, a] [d, a, c] := List.perm_append_comm (l₁ := [c]) (l₂ := [d, a])
    exact h3.trans (List.Perm.cons _ h4)
  exact h1.trans (List.Perm.cons _ h2)
set_option maxHeartbeats 4000000 in
theorem rdel_l0 (c x k : Nat) (l : List Pk) (h0 : List Ky) (q0 : Nat × Nat) (n i : Nat) (hd : c ≠ x ∧ x ≠ c) (N : AV) (hn : l.length = n) (hi : i < n) (hk : n ≤ k ∧ k ≤ 9223372036854775807) (hkl : n ≤ 100000) (m : Mg) (hl : l[i]'(by omega) = ⟨false, m⟩) (hm : 1 ≤ m.ks.length ∧ m.ks.length ≤ 100)
    (hh0 : h0 = []) (hq0 : HOk c h0 q0) (hxq : x ≠ q0.1 ∧ q0.1 ≠ x) (hl0 : h0.length ≤ 50000) :
    ACt Try.prog 11 [pt c 0, iv .i64 (i : Int)] ([(c, rM (ms x 0 n k) nsl N), (x, .cells (pcs l) (k * 4) 53)])
      (fun r F' => ∃ y k1 z k2, ((n - 1 + 1 ≤ k1 ∧ k1 ≤ 9223372036854775807) ∧ ((hrL h0 m.ks).length ≤ k2 ∧ k2 ≤ 9223372036854775807)) ∧ r = .tup [nsl, iv .i64 0] ∧ F' = [(y, .cells (pcs (l.eraseIdx i ++ [⟨true, m⟩])) (k1 * 4) 53), (z, .cells (kcs (hrL h0 m.ks)) (k2 * 5) 50), (c, rM (ms y 0 (n - 1 + 1) k1) (ms z 0 (hrL h0 m.ks).length k2) N)]) := by
  have cA := there_s c x n k nsl N i
  rw [show atI n (i : Int) = 0 by unfold atI; rw [if_pos (by omega)], show ((0 : Int) == 0) = true from rfl] at cA
  have cT := without_ct c x k l n i hd nsl N hn hi hk hkl
  have hdr := pcs_drop l i (by omega)
  rw [hl] at hdr
  have hpl := pcs_len l
  rw [hn] at hpl
  have hel := pcs_len (l.eraseIdx i)
  rw [List.length_eraseIdx_of_lt (by omega), hn] at hel
  have hap : pcs (l.eraseIdx i ++ [⟨true, m⟩]) = pcs (l.eraseIdx i) ++ [bv true, .lit (.string m.g), bv m.p, .sl m.ks.length (kcs m.ks)] := pcs_app _ _
  rw [hap]
  have hKl := kcs_len m.ks
  have hkd := kcs_drop m.ks
  obtain ⟨q, hq⟩ : ∃ n, n = m.ks.length := ⟨_, rfl⟩
  obtain ⟨K1, hK1⟩ : ∃ C, C = kcs m.ks := ⟨_, rfl⟩
  simp only [← hq, ← hK1] at hdr hKl hkd hm ⊢
  clear hl hK1 hap
  obtain ⟨R, hR⟩ : ∃ R, R = hrL h0 m.ks := ⟨_, rfl⟩
  have hRne : R ≠ [] := by rw [hR]; exact hrL_ne _ _ (.inr (by intro e; rw [e] at hq; simp at hq; omega))
  rw [← hR]
  obtain ⟨C, hC⟩ : ∃ C, C = pcs l := ⟨_, rfl⟩
  rw [← hC] at cT hdr hpl ⊢
  obtain ⟨D, hD⟩ : ∃ D, D = pcs (l.eraseIdx i) := ⟨_, rfl⟩
  rw [← hD] at cT hel ⊢
  obtain ⟨n1, hn1⟩ : ∃ n1, n1 = n - 1 := ⟨_, rfl⟩
  rw [← hn1] at cT hel ⊢
  have hn1' : n1 ≤ 100000 := by omega
  clear hn1 hC hD
  have t1 : ∀ q : Nat, ((q : Nat) : Int).toNat = q := fun q => by omega
  have g1 : i * 4 + 4 ≤ n * 4 := by omega
  have hf := fe50
  obtain ⟨mg, mp, mks⟩ := m
  simp only at hq hkd hR hdr
  refine ACt.intro Try.func11 rfl (by kernel_rfl) (by simp [Try.ntmps11]) (fun cx => ?_)
  simp only [argE, Try.ntmps11, Try.results11]
  first | (have FRx := FR; clear FRx) | have FR := fr0S
  repeat' first | (refine Sm.mk ?_; try simp -dsimp only [ZK, rvc, drawF, headN, pureH, stp, dvc, calleeOf, gcall, pev, eff, newB, okd, og, ogs, ogo, ogp, slv, bltv, opd, litv, strip, one, both, putE, St.put, look, gdOf, gdv, picka, pickv, pickw, binv, bini, bins, binb, binp, binq, isSlT, bina, shp, eqCells, unv, convv, nilv, faddv, addp, idxav, idxp, load1, load1m, loadn, loadnm, loadv, hget, hset, hrep, hdel, slicev, slice3v, bnd, shift1, lenv, capv, IntKind.bits, extractv, fieldv, indexv, min2v, max2v, mkiv, tasv, tasz, cellsA, fillA, buildv, stC, oneC, rowMB, intsA, plN, appE, appZ, appC, appS, srcB, appNZ, appNC, VwL, srcC, srcZ, srcM, isBoolT, isPtrT, isSliceT, uOk, Value.oneCell', Nat.reducePow, Int.reducePow, Nat.reduceAdd, Nat.reduceMul, Nat.reduceSub, Nat.reduceLT, Nat.reduceLeDiff, Nat.reduceEqDiff, Nat.reduceBEq, Nat.reduceDiv, Nat.reduceMod, ↓reduceIte, reduceCtorEq, Int.reduceToNat, Int.reduceLT, Int.reduceLE, drawMF, mkS, TFCnK, SeqQ, BlkQ, LoopQ, BodyQ, hd, hi, hdr, hpl, t1, g1, Nat.zero_add, FR.out]) | (refine CallV.upd (by simp only [hget, ↓reduceIte, FR.out, hd, hi, hdr, hpl, t1, g1, Nat.zero_add]; first | done | rfl) (cA) (Sm.out ?_)) | refine CallV.newC (cT) (pr_b _ _ _) (fun _ _ => rfl) (Sm.out ?_) | refine WP.seq fun K hK => ?_ | ((fail_if_success (show WP _ _ _ (.region 8 _ _) _ _)); refine WP.region (rvc_sound _ _ (Sm.out ?_))) | ((fail_if_success (show WP _ _ _ (.region 8 _ _) _ _)); refine WP.drawMk (ia := 8) (k := 9) mixed (by decide +kernel) (by decide +kernel) (by decide +kernel) (by decide +kernel) (Sm.out ?_)) | ((fail_if_success (show WP _ _ _ (.region 8 _ _) _ _)); refine WP.drawMk (ia := 11) (k := 12) mixed (by decide +kernel) (by decide +kernel) (by decide +kernel) (by decide +kernel) (Sm.out ?_)) | ((fail_if_success (show WP _ _ _ (.region 8 _ _) _ _)); refine WP.drawK rfl mixed (by decide +kernel) (Sm.out ?_)) | (refine Ob.mk ?_; focus (first | assumption | omega | decide | trivial | (intro hob; simp only [hob, ZF]; done) | (intros; (repeat' refine And.intro ?_ ?_) <;> first | assumption | omega | trivial | decide) | (intros; simp only [ZE] at *; (repeat' refine And.intro ?_ ?_) <;> first | assumption | omega | trivial))) | refine And.intro (Ob.out ?_) ?_ | refine WP.block ?_ | (refine WP.cond rfl (fun hc => ?_) (fun hc => ?_) <;> (try simp only [ZC, reduceCtorEq, ZD] at hc) <;> (try exact absurd hc (by decide)) <;> (try (exfalso; omega))) | ((first | refine WP.skip ?_ | refine WP.exit ?_); simp only [SeqQ, BlkQ, LoopQ, BodyQ, ↓reduceIte, Nat.reduceEqDiff, reduceCtorEq, look, true_and]) | refine WP.ret (Sm.out ?_) | (first | refine ExG.no (Sm.out ?_) | refine Or.inl (ExG.no (Sm.out ?_)) | refine Or.inl (And.intro (fun hg => absurd hg (by decide)) (ExG.no (Sm.out ?_)))) | (refine Rt.mk ?_; refine And.intro ?_ ?_ <;> (intro hg; first | exact absurd hg (by decide) | refine Sm.out ?_)) | (refine Nu.mk ?_; first | (fail_if_success have := nb1); intro nb1 | (fail_if_success have := nb2); intro nb2 | (fail_if_success have := nb3); intro nb3 | (fail_if_success have := nb4); intro nb4 | (fail_if_success have := nb5); intro nb5 | (fail_if_success have := nb6); intro nb6 | (fail_if_success have := nb7); intro nb7 | (fail_if_success have := nb8); intro nb8 | (fail_if_success have := nb9); intro nb9 | (fail_if_success have := nb10); intro nb10 | (fail_if_success have := nb11); intro nb11 | (fail_if_success have := nb12); intro nb12 | intro nbz) | (refine Fr.mk ?_; intro hfr; (first | (have hFRb : _ ≤ _ ∧ _ ≤ _ := And.intro hfr.1 hfr.2.1) | (have hFRb : _ ≤ _ := hfr.1) | skip); replace FR := Sm.mk (And.intro hfr FR.out); clear hfr; refine Sm.out ?_) | refine Two.mk ?_ ?_ | (refine Cs.mk ?_; intro hcs; first | exact False.elim hcs | (exfalso; omega) | (refine Sm.out ?_)) | go_step | omega | (simp only [maxLen_eq]; omega)
  have hnn : (nb1 ≠ c ∧ c ≠ nb1) ∧ (nb2 ≠ c ∧ c ≠ nb2) ∧ (nb1 ≠ nb2 ∧ nb2 ≠ nb1) := by simp [FR.out]
  have hb3 : n1 ≤ nb3 ∧ nb3 ≤ 9223372036854775807 := FR.out.1.1
  have hRk : ROk c nb1 nb2 h0 q0 := fun h => absurd hh0 h
  refine WP.loop (Γ := HrG) (fun g => ⟨[(7, iv .i64 (g.i : Int)), (6, pt nb1 0), (0, pt c 0)], hdR c (ms nb2 0 n1 nb3) N g.h g.q ++ [(nb1, .cells [bv false, .lit (.string mg), bv mp, .sl q K1] 4 53), (nb2, .cells D (nb3 * 4) 53)]⟩)
    (fun g => g.i ≤ q ∧ ROk c nb1 nb2 g.h g.q ∧ g.h.length ≤ 50000 + g.i ∧ R = hrL g.h (mks.drop g.i)) (fun g => q - g.i) ⟨0, h0, q0⟩ ⟨Nat.zero_le _, hRk, by simp only; omega, hR⟩ (Sub.of_env [(x, .cells C (k * 4) 53)] (by rw [hh0]; exact pr_j _ _ _ _) (by simp [look])) ?_
  clear hRk hq0 hh0 hR
  intro ⟨j, h, qq⟩ ⟨hj, hqq, hjl, hRj⟩
  simp only at hj hqq hjl hRj ⊢
  have FR : Sm (¬ ((1 : Nat) = 0)) := Sm.mk Nat.one_ne_zero
  have m3 : nb3 ≤ maxLen := by rw [maxLen_eq]; omega
  by_cases hjn : j < q
  · have ki : decide ((j : Int) < (q : Int)) = true := decide_eq_true (by omega)
    have s1 : IntKind.i64.wrap ((j : Int) + 1) = ((j + 1 : Nat) : Int) := by rw [wrap_i64 (by omega) (by omega)]; omega
    have hd2 := hkd j (by omega)
    rw [List.drop_eq_getElem_cons (show j < mks.length by omega), hrL_cons] at hRj
    obtain ⟨ky, hky⟩ : ∃ k, k = mks[j]'(by omega) := ⟨_, rfl⟩
    rw [← hky] at hd2 hRj
    clear hky
    have q1 : (j + 1) * 5 ≤ K1.length := by omega
    by_cases hh : h = []
    · subst hh
      have hb : hasB [] ky = false := hasB_f (by simp)
      have cK := has_n ky
      have ea : addH [] ky = [ky] := by unfold addH; rw [hb]; rfl
      rw [ea] at hRj
      have e0 : hdR c (ms nb2 0 n1 nb3) N [] qq = [(c, rM (ms nb2 0 n1 nb3) nsl N)] := rfl
      rw [e0]
      simp only [List.cons_append, List.nil_append]
      first | (have FRx := FR; clear FRx) | have FR := fr0S
      repeat' first | (refine Sm.mk ?_; try simp -dsimp only [ZK, rvc, drawF, headN, pureH, stp, dvc, calleeOf, gcall, pev, eff, newB, okd, og, ogs, ogo, ogp, slv, bltv, opd, litv, strip, one, both, putE, St.put, look, gdOf, gdv, picka, pickv, pickw, binv, bini, bins, binb, binp, binq, isSlT, bina, shp, eqCells, unv, convv, nilv, faddv, addp, idxav, idxp, load1, load1m, loadn, loadnm, loadv, hget, hset, hrep, hdel, slicev, slice3v, bnd, shift1, lenv, capv, IntKind.bits, extractv, fieldv, indexv, min2v, max2v, mkiv, tasv, tasz, cellsA, fillA, buildv, stC, oneC, rowMB, intsA, plN, appE, appZ, appC, appS, srcB, appNZ, appNC, VwL, srcC, srcZ, srcM, isBoolT, isPtrT, isSliceT, uOk, Value.oneCell', Nat.reducePow, Int.reducePow, Nat.reduceAdd, Nat.reduceMul, Nat.reduceSub, Nat.reduceLT, Nat.reduceLeDiff, Nat.reduceEqDiff, Nat.reduceBEq, Nat.reduceDiv, Nat.reduceMod, ↓reduceIte, reduceCtorEq, Int.reduceToNat, Int.reduceLT, Int.reduceLE, drawMF, mkS, TFCnK, SeqQ, BlkQ, LoopQ, BodyQ, hnn, ki, hd2, q1, hjn, s1, t1, Nat.one_mul, Nat.zero_add, FR.out]) | (first | refine CallV.fn (cK) (Sm.out ?_) | refine ExF.mk (cK) (Sm.out ?_) | refine ExG.mk (fun _ => cK) (Sm.out ?_) | refine ExG.mkJ (fun _ => cK) (Sm.out ?_) | refine ExG.mkI (Ob.out ?_) (fun _ => cK) (Sm.out ?_)) | refine WP.seq fun K hK => ?_ | refine WP.region (rvc_sound _ _ (Sm.out ?_)) | (refine WP.drawMk (ia := 8) (k := 9) mixed (by decide +kernel) (by decide +kernel) (by decide +kernel) (by decide +kernel) (Sm.out ?_)) | (refine WP.drawMk (ia := 11) (k := 12) mixed (by decide +kernel) (by decide +kernel) (by decide +kernel) (by decide +kernel) (Sm.out ?_)) | refine WP.drawK rfl mixed (by decide +kernel) (Sm.out ?_) | (refine Ob.mk ?_; focus (first | assumption | omega | decide | trivial | (intro hob; simp only [hob, ZF]; done) | (intros; (repeat' refine And.intro ?_ ?_) <;> first | assumption | omega | trivial | decide) | (intros; simp only [ZE] at *; (repeat' refine And.intro ?_ ?_) <;> first | assumption | omega | trivial))) | refine And.intro (Ob.out ?_) ?_ | refine WP.block ?_ | (refine WP.cond rfl (fun hc => ?_) (fun hc => ?_) <;> (try simp only [ZC, reduceCtorEq, ZD] at hc) <;> (try exact absurd hc (by decide)) <;> (try (exfalso; omega))) | ((first | refine WP.skip ?_ | refine WP.exit ?_); simp only [SeqQ, BlkQ, LoopQ, BodyQ, ↓reduceIte, Nat.reduceEqDiff, reduceCtorEq, look, true_and]) | refine WP.ret (Sm.out ?_) | (first | refine ExG.no (Sm.out ?_) | refine Or.inl (ExG.no (Sm.out ?_)) | refine Or.inl (And.intro (fun hg => absurd hg (by decide)) (ExG.no (Sm.out ?_)))) | (refine Rt.mk ?_; refine And.intro ?_ ?_ <;> (intro hg; first | exact absurd hg (by decide) | refine Sm.out ?_)) | (refine Nu.mk ?_; first | (fail_if_success have := nb1); intro nb1 | (fail_if_success have := nb2); intro nb2 | (fail_if_success have := nb3); intro nb3 | (fail_if_success have := nb4); intro nb4 | (fail_if_success have := nb5); intro nb5 | (fail_if_success have := nb6); intro nb6 | (fail_if_success have := nb7); intro nb7 | (fail_if_success have := nb8); intro nb8 | (fail_if_success have := nb9); intro nb9 | (fail_if_success have := nb10); intro nb10 | (fail_if_success have := nb11); intro nb11 | (fail_if_success have := nb12); intro nb12 | intro nbz) | (refine Fr.mk ?_; intro hfr; (first | (have hFRb : _ ≤ _ ∧ _ ≤ _ := And.intro hfr.1 hfr.2.1) | (have hFRb : _ ≤ _ := hfr.1) | skip); replace FR := Sm.mk (And.intro hfr FR.out); clear hfr; refine Sm.out ?_) | refine Two.mk ?_ ?_ | (refine Cs.mk ?_; intro hcs; first | exact False.elim hcs | (exfalso; omega) | (refine Sm.out ?_)) | go_step | omega | (simp only [maxLen_eq]; omega)
      exact ⟨⟨j + 1, [ky], (nb5, nb6)⟩, ⟨by simp only; omega, fun _ => ⟨⟨by simp [FR.out], by simp [FR.out], by simp [FR.out]⟩, by simp only [List.length_cons, List.length_nil]; omega, by simp only; omega⟩, by simp only [List.length_cons, List.length_nil]; omega, hRj⟩, by simp only; omega, (Sub.of_env [(nb4, kb ky)] (pr_h _ _ _ _ _) (by simp [look]))⟩
    · obtain ⟨⟨⟨hd1, hd3⟩, ⟨hd4, hd5⟩, ⟨hd6, hd7⟩⟩, hk1, hk2⟩ := hqq hh
      have cK := has_o qq.1 qq.2 h ky h.length rfl (by omega) hk1 hk2
      have hDl := kcs_len h
      have hrn := hdR_ne (F := ms nb2 0 n1 nb3) (N := N) (c := c) qq hh
      have hap : kcs (h ++ [ky]) = kcs h ++ [.lit (.string ky.g), .lit (.string ky.r), bv ky.p, iv .u64 ky.e, bv ky.s] := kcs_app h [ky]
      have hrn2 : ∀ y k', hdR c (ms nb2 0 n1 nb3) N (h ++ [ky]) (y, k') = [(y, .cells (kcs (h ++ [ky])) (k' * 5) 50), (c, rM (ms nb2 0 n1 nb3) (ms y 0 (h.length + 1) k') N)] := fun y k' => by
        rw [hdR_ne _ (by simp)]; simp
      rw [hrn]
      obtain ⟨m, hm⟩ : ∃ m, m = h.length := ⟨_, rfl⟩
      rw [← hm] at cK hDl hk1 hjl hrn2 ⊢
      have m1 : qq.2 ≤ maxLen := by rw [maxLen_eq]; omega
      by_cases hb : hasB h ky = true
      · rw [hb] at cK
        have ea : addH h ky = h := by unfold addH; rw [if_pos hb]
        rw [ea] at hRj
        obtain ⟨E, hE⟩ : ∃ D, D = kcs h := ⟨_, rfl⟩
        rw [← hE] at cK hDl hrn ⊢
        obtain ⟨y, kq⟩ := qq
        simp only at hd1 hd3 hd4 hd5 hd6 hd7 hk1 hk2 m1 cK ⊢
        have q3 : m * 5 ≤ E.length := by omega
        simp only [List.cons_append, List.nil_append]
        first | (have FRx := FR; clear FRx) | have FR := fr0S
        repeat' first | (refine Sm.mk ?_; try simp -dsimp only [ZK, rvc, drawF, headN, pureH, stp, dvc, calleeOf, gcall, pev, eff, newB, okd, og, ogs, ogo, ogp, slv, bltv, opd, litv, strip, one, both, putE, St.put, look, gdOf, gdv, picka, pickv, pickw, binv, bini, bins, binb, binp, binq, isSlT, bina, shp, eqCells, unv, convv, nilv, faddv, addp, idxav, idxp, load1, load1m, loadn, loadnm, loadv, hget, hset, hrep, hdel, slicev, slice3v, bnd, shift1, lenv, capv, IntKind.bits, extractv, fieldv, indexv, min2v, max2v, mkiv, tasv, tasz, cellsA, fillA, buildv, stC, oneC, rowMB, intsA, plN, appE, appZ, appC, appS, srcB, appNZ, appNC, VwL, srcC, srcZ, srcM, isBoolT, isPtrT, isSliceT, uOk, Value.oneCell', Nat.reducePow, Int.reducePow, Nat.reduceAdd, Nat.reduceMul, Nat.reduceSub, Nat.reduceLT, Nat.reduceLeDiff, Nat.reduceEqDiff, Nat.reduceBEq, Nat.reduceDiv, Nat.reduceMod, ↓reduceIte, reduceCtorEq, Int.reduceToNat, Int.reduceLT, Int.reduceLE, drawMF, mkS, TFCnK, SeqQ, BlkQ, LoopQ, BodyQ, hnn, ki, hd2, q1, hjn, s1, t1, hd1, hd3, hd4, hd5, hd6, hd7, hDl, q3, Nat.zero_add, FR.out]) | (refine CallV.updM (cK) (perm1 (by simp only [hget, hdel, ↓reduceIte, FR.out, hnn, ki, hd2, q1, hjn, s1, t1, hd1, hd3, hd4, hd5, hd6, hd7, hDl, q3, Nat.zero_add]; first | done | rfl)) (Sm.out ?_)) | ((first | refine ExF.up ?_ (cK) (Sm.out ?_) | refine ExG.up ?_ (fun _ => cK) (Sm.out ?_) | refine ExG.upJ ?_ (fun _ => cK) (Sm.out ?_) | refine ExG.upI ?_ (fun _ => cK) (Ob.out ?_) (Sm.out ?_)); focus (exact ⟨_, (perm1 (by simp only [hget, hdel, ↓reduceIte, FR.out, hnn, ki, hd2, q1, hjn, s1, t1, hd1, hd3, hd4, hd5, hd6, hd7, hDl, q3, Nat.zero_add]; first | done | rfl))⟩)) | refine WP.seq fun K hK => ?_ | refine WP.region (rvc_sound _ _ (Sm.out ?_)) | (refine WP.drawMk (ia := 8) (k := 9) mixed (by decide +kernel) (by decide +kernel) (by decide +kernel) (by decide +kernel) (Sm.out ?_)) | (refine WP.drawMk (ia := 11) (k := 12) mixed (by decide +kernel) (by decide +kernel) (by decide +kernel) (by decide +kernel) (Sm.out ?_)) | refine WP.drawK rfl mixed (by decide +kernel) (Sm.out ?_) | (refine Ob.mk ?_; focus (first | assumption | omega | decide | trivial | (intro hob; simp only [hob, ZF]; done) | (intros; (repeat' refine And.intro ?_ ?_) <;> first | assumption | omega | trivial | decide) | (intros; simp only [ZE] at *; (repeat' refine And.intro ?_ ?_) <;> first | assumption | omega | trivial))) | refine And.intro (Ob.out ?_) ?_ | refine WP.block ?_ | (refine WP.cond rfl (fun hc => ?_) (fun hc => ?_) <;> (try simp only [ZC, reduceCtorEq, ZD] at hc) <;> (try exact absurd hc (by decide)) <;> (try (exfalso; omega))) | ((first | refine WP.skip ?_ | refine WP.exit ?_); simp only [SeqQ, BlkQ, LoopQ, BodyQ, ↓reduceIte, Nat.reduceEqDiff, reduceCtorEq, look, true_and]) | refine WP.ret (Sm.out ?_) | (first | refine ExG.no (Sm.out ?_) | refine Or.inl (ExG.no (Sm.out ?_)) | refine Or.inl (And.intro (fun hg => absurd hg (by decide)) (ExG.no (Sm.out ?_)))) | (refine Rt.mk ?_; refine And.intro ?_ ?_ <;> (intro hg; first | exact absurd hg (by decide) | refine Sm.out ?_)) | (refine Nu.mk ?_; first | (fail_if_success have := nb1); intro nb1 | (fail_if_success have := nb2); intro nb2 | (fail_if_success have := nb3); intro nb3 | (fail_if_success have := nb4); intro nb4 | (fail_if_success have := nb5); intro nb5 | (fail_if_success have := nb6); intro nb6 | (fail_if_success have := nb7); intro nb7 | (fail_if_success have := nb8); intro nb8 | (fail_if_success have := nb9); intro nb9 | (fail_if_success have := nb10); intro nb10 | (fail_if_success have := nb11); intro nb11 | (fail_if_success have := nb12); intro nb12 | intro nbz) | (refine Fr.mk ?_; intro hfr; (first | (have hFRb : _ ≤ _ ∧ _ ≤ _ := And.intro hfr.1 hfr.2.1) | (have hFRb : _ ≤ _ := hfr.1) | skip); replace FR := Sm.mk (And.intro hfr FR.out); clear hfr; refine Sm.out ?_) | refine Two.mk ?_ ?_ | (refine Cs.mk ?_; intro hcs; first | exact False.elim hcs | (exfalso; omega) | (refine Sm.out ?_)) | go_step | omega | (simp only [maxLen_eq]; omega)
        exact ⟨⟨j + 1, h, (y, kq)⟩, ⟨by simp only; omega, hqq, by simp only; omega, hRj⟩, by simp only; omega, (Sub.of_env [] (by simp only [hrn, ← hm]; exact pmz _) (by simp [look]))⟩
      · have hb' : hasB h ky = false := by simpa using hb
        rw [hb'] at cK
        have ea : addH h ky = h ++ [ky] := by unfold addH; rw [if_neg hb]
        rw [ea] at hRj
        obtain ⟨E, hE⟩ : ∃ D, D = kcs h := ⟨_, rfl⟩
        rw [← hE] at cK hDl hap hrn ⊢
        obtain ⟨G, hG⟩ : ∃ E, E = kcs (h ++ [ky]) := ⟨_, rfl⟩
        rw [← hG] at hap
        simp only [← hG] at hrn2
        have hap' := hap.symm
        obtain ⟨y, kq⟩ := qq
        simp only at hd1 hd3 hd4 hd5 hd6 hd7 hk1 hk2 m1 cK ⊢
        have q3 : m * 5 ≤ E.length := by omega
        simp only [List.cons_append, List.nil_append]
        first | (have FRx := FR; clear FRx) | have FR := fr0S
        repeat' first | (refine Sm.mk ?_; try simp -dsimp only [ZK, rvc, drawF, headN, pureH, stp, dvc, calleeOf, gcall, pev, eff, newB, okd, og, ogs, ogo, ogp, slv, bltv, opd, litv, strip, one, both, putE, St.put, look, gdOf, gdv, picka, pickv, pickw, binv, bini, bins, binb, binp, binq, isSlT, bina, shp, eqCells, unv, convv, nilv, faddv, addp, idxav, idxp, load1, load1m, loadn, loadnm, loadv, hget, hset, hrep, hdel, slicev, slice3v, bnd, shift1, lenv, capv, IntKind.bits, extractv, fieldv, indexv, min2v, max2v, mkiv, tasv, tasz, cellsA, fillA, buildv, stC, oneC, rowMB, intsA, plN, appE, appZ, appC, appS, srcB, appNZ, appNC, VwL, srcC, srcZ, srcM, isBoolT, isPtrT, isSliceT, uOk, Value.oneCell', Nat.reducePow, Int.reducePow, Nat.reduceAdd, Nat.reduceMul, Nat.reduceSub, Nat.reduceLT, Nat.reduceLeDiff, Nat.reduceEqDiff, Nat.reduceBEq, Nat.reduceDiv, Nat.reduceMod, ↓reduceIte, reduceCtorEq, Int.reduceToNat, Int.reduceLT, Int.reduceLE, drawMF, mkS, TFCnK, SeqQ, BlkQ, LoopQ, BodyQ, hnn, ki, hd2, q1, hjn, s1, t1, hd1, hd3, hd4, hd5, hd6, hd7, hDl, q3, m1, hk1, hap', Nat.one_mul, Nat.zero_add, FR.out]) | (refine CallV.updM (cK) (perm1 (by simp only [hget, hdel, ↓reduceIte, FR.out, hnn, ki, hd2, q1, hjn, s1, t1, hd1, hd3, hd4, hd5, hd6, hd7, hDl, q3, m1, hk1, hap', Nat.one_mul, Nat.zero_add]; first | done | rfl)) (Sm.out ?_)) | ((first | refine ExF.up ?_ (cK) (Sm.out ?_) | refine ExG.up ?_ (fun _ => cK) (Sm.out ?_) | refine ExG.upJ ?_ (fun _ => cK) (Sm.out ?_) | refine ExG.upI ?_ (fun _ => cK) (Ob.out ?_) (Sm.out ?_)); focus (exact ⟨_, (perm1 (by simp only [hget, hdel, ↓reduceIte, FR.out, hnn, ki, hd2, q1, hjn, s1, t1, hd1, hd3, hd4, hd5, hd6, hd7, hDl, q3, m1, hk1, hap', Nat.one_mul, Nat.zero_add]; first | done | rfl))⟩)) | refine WP.seq fun K hK => ?_ | refine WP.region (rvc_sound _ _ (Sm.out ?_)) | (refine WP.drawMk (ia := 8) (k := 9) mixed (by decide +kernel) (by decide +kernel) (by decide +kernel) (by decide +kernel) (Sm.out ?_)) | (refine WP.drawMk (ia := 11) (k := 12) mixed (by decide +kernel) (by decide +kernel) (by decide +kernel) (by decide +kernel) (Sm.out ?_)) | refine WP.drawK rfl mixed (by decide +kernel) (Sm.out ?_) | (refine Ob.mk ?_; focus (first | assumption | omega | decide | trivial | (intro hob; simp only [hob, ZF]; done) | (intros; (repeat' refine And.intro ?_ ?_) <;> first | assumption | omega | trivial | decide) | (intros; simp only [ZE] at *; (repeat' refine And.intro ?_ ?_) <;> first | assumption | omega | trivial))) | refine And.intro (Ob.out ?_) ?_ | refine WP.block ?_ | (refine WP.cond rfl (fun hc => ?_) (fun hc => ?_) <;> (try simp only [ZC, reduceCtorEq, ZD] at hc) <;> (try exact absurd hc (by decide)) <;> (try (exfalso; omega))) | ((first | refine WP.skip ?_ | refine WP.exit ?_); simp only [SeqQ, BlkQ, LoopQ, BodyQ, ↓reduceIte, Nat.reduceEqDiff, reduceCtorEq, look, true_and]) | refine WP.ret (Sm.out ?_) | (first | refine ExG.no (Sm.out ?_) | refine Or.inl (ExG.no (Sm.out ?_)) | refine Or.inl (And.intro (fun hg => absurd hg (by decide)) (ExG.no (Sm.out ?_)))) | (refine Rt.mk ?_; refine And.intro ?_ ?_ <;> (intro hg; first | exact absurd hg (by decide) | refine Sm.out ?_)) | (refine Nu.mk ?_; first | (fail_if_success have := nb1); intro nb1 | (fail_if_success have := nb2); intro nb2 | (fail_if_success have := nb3); intro nb3 | (fail_if_success have := nb4); intro nb4 | (fail_if_success have := nb5); intro nb5 | (fail_if_success have := nb6); intro nb6 | (fail_if_success have := nb7); intro nb7 | (fail_if_success have := nb8); intro nb8 | (fail_if_success have := nb9); intro nb9 | (fail_if_success have := nb10); intro nb10 | (fail_if_success have := nb11); intro nb11 | (fail_if_success have := nb12); intro nb12 | intro nbz) | (refine Fr.mk ?_; intro hfr; (first | (have hFRb : _ ≤ _ ∧ _ ≤ _ := And.intro hfr.1 hfr.2.1) | (have hFRb : _ ≤ _ := hfr.1) | skip); replace FR := Sm.mk (And.intro hfr FR.out); clear hfr; refine Sm.out ?_) | refine Two.mk ?_ ?_ | (refine Cs.mk ?_; intro hcs; first | exact False.elim hcs | (exfalso; omega) | (refine Sm.out ?_)) | go_step | omega | (simp only [maxLen_eq]; omega)
        exact ⟨⟨j + 1, h ++ [ky], (nb5, nb6)⟩, ⟨by simp only; omega, fun _ => ⟨⟨by simp [FR.out], by simp [FR.out], by simp [FR.out]⟩, by simp only [List.length_append, List.length_cons, List.length_nil]; omega, by simp only; omega⟩, by simp only [List.length_append, List.length_cons, List.length_nil]; omega, hRj⟩, by simp only; omega, (Sub.of_env [(nb4, kb ky)] (by simp only [hrn2]; exact pr_i _ _ _ _ _) (by simp [look]))⟩
  · obtain rfl : j = q := by omega
    have ki : decide ((j : Int) < (j : Int)) = false := decide_eq_false (by omega)
    rw [List.drop_eq_nil_of_le (by omega), hrL_nil] at hRj
    subst hRj
    obtain ⟨⟨⟨hd1, hd3⟩, ⟨hd4, hd5⟩, ⟨hd6, hd7⟩⟩, hk1, hk2⟩ := hqq hRne
    rw [hdR_ne _ hRne]
    obtain ⟨E, hE⟩ : ∃ D, D = kcs R := ⟨_, rfl⟩
    obtain ⟨m, hm⟩ : ∃ m, m = R.length := ⟨_, rfl⟩
    rw [← hE, ← hm]
    rw [← hm] at hk1
    obtain ⟨y, kq⟩ := qq
    simp only at hd1 hd3 hd4 hd5 hd6 hd7 hk1 hk2 ⊢
    simp only [List.cons_append, List.nil_append]
    have hb4 := hb3.1
    first | (have FRx := FR; clear FRx) | have FR := fr0S
    repeat' first | (refine Sm.mk ?_; try simp -dsimp only [ZK, rvc, drawF, headN, pureH, stp, dvc, calleeOf, gcall, pev, eff, newB, okd, og, ogs, ogo, ogp, slv, bltv, opd, litv, strip, one, both, putE, St.put, look, gdOf, gdv, picka, pickv, pickw, binv, bini, bins, binb, binp, binq, isSlT, bina, shp, eqCells, unv, convv, nilv, faddv, addp, idxav, idxp, load1, load1m, loadn, loadnm, loadv, hget, hset, hrep, hdel, slicev, slice3v, bnd, shift1, lenv, capv, IntKind.bits, extractv, fieldv, indexv, min2v, max2v, mkiv, tasv, tasz, cellsA, fillA, buildv, stC, oneC, rowMB, intsA, plN, appE, appZ, appC, appS, srcB, appNZ, appNC, VwL, srcC, srcZ, srcM, isBoolT, isPtrT, isSliceT, uOk, Value.oneCell', Nat.reducePow, Int.reducePow, Nat.reduceAdd, Nat.reduceMul, Nat.reduceSub, Nat.reduceLT, Nat.reduceLeDiff, Nat.reduceEqDiff, Nat.reduceBEq, Nat.reduceDiv, Nat.reduceMod, ↓reduceIte, reduceCtorEq, Int.reduceToNat, Int.reduceLT, Int.reduceLE, drawMF, mkS, TFCnK, SeqQ, BlkQ, LoopQ, BodyQ, hnn, ki, hd1, hd3, hd4, hd5, hd6, hd7, hel, m3, hb4, t1, Nat.one_mul, Nat.zero_add, FR.out]) | refine WP.seq fun K hK => ?_ | refine WP.region (rvc_sound _ _ (Sm.out ?_)) | (refine WP.drawMk (ia := 8) (k := 9) mixed (by decide +kernel) (by decide +kernel) (by decide +kernel) (by decide +kernel) (Sm.out ?_)) | (refine WP.drawMk (ia := 11) (k := 12) mixed (by decide +kernel) (by decide +kernel) (by decide +kernel) (by decide +kernel) (Sm.out ?_)) | refine WP.drawK rfl mixed (by decide +kernel) (Sm.out ?_) | (refine Ob.mk ?_; focus (first | assumption | omega | decide | trivial | (intro hob; simp only [hob, ZF]; done) | (intros; (repeat' refine And.intro ?_ ?_) <;> first | assumption | omega | trivial | decide) | (intros; simp only [ZE] at *; (repeat' refine And.intro ?_ ?_) <;> first | assumption | omega | trivial))) | refine And.intro (Ob.out ?_) ?_ | refine WP.block ?_ | (refine WP.cond rfl (fun hc => ?_) (fun hc => ?_) <;> (try simp only [ZC, reduceCtorEq, ZD] at hc) <;> (try exact absurd hc (by decide)) <;> (try (exfalso; omega))) | ((first | refine WP.skip ?_ | refine WP.exit ?_); simp only [SeqQ, BlkQ, LoopQ, BodyQ, ↓reduceIte, Nat.reduceEqDiff, reduceCtorEq, look, true_and]) | refine WP.ret (Sm.out ?_) | (first | refine ExG.no (Sm.out ?_) | refine Or.inl (ExG.no (Sm.out ?_)) | refine Or.inl (And.intro (fun hg => absurd hg (by decide)) (ExG.no (Sm.out ?_)))) | (refine Rt.mk ?_; refine And.intro ?_ ?_ <;> (intro hg; first | exact absurd hg (by decide) | refine Sm.out ?_)) | (refine Nu.mk ?_; first | (fail_if_success have := nb1); intro nb1 | (fail_if_success have := nb2); intro nb2 | (fail_if_success have := nb3); intro nb3 | (fail_if_success have := nb4); intro nb4 | (fail_if_success have := nb5); intro nb5 | (fail_if_success have := nb6); intro nb6 | (fail_if_success have := nb7); intro nb7 | (fail_if_success have := nb8); intro nb8 | (fail_if_success have := nb9); intro nb9 | (fail_if_success have := nb10); intro nb10 | (fail_if_success have := nb11); intro nb11 | (fail_if_success have := nb12); intro nb12 | intro nbz) | (refine Fr.mk ?_; intro hfr; (first | (have hFRb : _ ≤ _ ∧ _ ≤ _ := And.intro hfr.1 hfr.2.1) | (have hFRb : _ ≤ _ := hfr.1) | skip); replace FR := Sm.mk (And.intro hfr FR.out); clear hfr; refine Sm.out ?_) | refine Two.mk ?_ ?_ | (refine Cs.mk ?_; intro hcs; first | exact False.elim hcs | (exfalso; omega) | (refine Sm.out ?_)) | go_step | omega | (simp only [maxLen_eq]; omega)
    (refine OutQ.drop _ _ (perm3 (by simp only [hget, hdel, ↓reduceIte, if_true, if_false, FR.out, hnn, hd1, hd3, hd4, hd5, hd6, hd7, ← hE, ← hm]; first | done | rfl) (by simp only [hget, hdel, ↓reduceIte, if_true, if_false, FR.out, hnn, hd1, hd3, hd4, hd5, hd6, hd7, ← hE, ← hm]; first | done | rfl) (by simp only [hget, hdel, ↓reduceIte, if_true, if_false, FR.out, hnn, hd1, hd3, hd4, hd5, hd6, hd7, ← hE, ← hm]; first | done | rfl)) (by simp only [resv, ZK, look, loadv, loadn, loadnm, load1, load1m, hget, ↓reduceIte, Nat.reduceEqDiff, Nat.reduceAdd, Nat.reduceMul, Nat.reduceLeDiff, Nat.reduceLT, reduceCtorEq, TFCnK, FR.out, hnn, hd1, hd3, hd4, hd5, hd6, hd7, ← hE, ← hm]) ⟨nb5, nb6, y, kq, ⟨by omega, by omega⟩, (by simp only [resv, resA, ZK, look, loadv, loadn, loadnm, load1, load1m, hget, ↓reduceIte, Nat.reduceEqDiff, Nat.reduceAdd, Nat.reduceMul, Nat.reduceLeDiff, Nat.reduceLT, reduceCtorEq, TFCnK, FR.out, hnn, hd1, hd3, hd4, hd5, hd6, hd7, ← hE, ← hm]; first | done | rfl), rfl⟩)
set_option maxHeartbeats 4000000 in
theorem rdel_l1 (c x k : Nat) (l : List Pk) (h0 : List Ky) (q0 : Nat × Nat) (n i : Nat) (hd : c ≠ x ∧ x ≠ c) (N : AV) (hn : l.length = n) (hi : i < n) (hk : n ≤ k ∧ k ≤ 9223372036854775807) (hkl : n ≤ 100000) (m : Mg) (hl : l[i]'(by omega) = ⟨false, m⟩) (hm : 1 ≤ m.ks.length ∧ m.ks.length ≤ 100)
    (hh0 : h0 ≠ []) (hq0 : HOk c h0 q0) (hxq : x ≠ q0.1 ∧ q0.1 ≠ x) (hl0 : h0.length ≤ 50000) :
    ACt Try.prog 11 [pt c 0, iv .i64 (i : Int)] ([(c, rM (ms x 0 n k) (ms q0.1 0 h0.length q0.2) N), (x, .cells (pcs l) (k * 4) 53), (q0.1, .cells (kcs h0) (q0.2 * 5) 50)])
      (fun r F' => ∃ y k1 z k2, ((n - 1 + 1 ≤ k1 ∧ k1 ≤ 9223372036854775807) ∧ ((hrL h0 m.ks).length ≤ k2 ∧ k2 ≤ 9223372036854775807)) ∧ r = .tup [nsl, iv .i64 0] ∧ F' = [(y, .cells (pcs (l.eraseIdx i ++ [⟨true, m⟩])) (k1 * 4) 53), (z, .cells (kcs (hrL h0 m.ks)) (k2 * 5) 50), (c, rM (ms y 0 (n - 1 + 1) k1) (ms z 0 (hrL h0 m.ks).length k2) N)]) := by
  obtain ⟨⟨hc1, hc2⟩, hc3, hc4⟩ := hq0 hh0
  have cA := there_s c x n k (ms q0.1 0 h0.length q0.2) N i
  rw [show atI n (i : Int) = 0 by unfold atI; rw [if_pos (by omega)], show ((0 : Int) == 0) = true from rfl] at cA
  have cT := without_ct c x k l n i hd (ms q0.1 0 h0.length q0.2) N hn hi hk hkl
  have hdr := pcs_drop l i (by omega)
  rw [hl] at hdr
  have hpl := pcs_len l
  rw [hn] at hpl
  have hel := pcs_len (l.eraseIdx i)
  rw [List.length_eraseIdx_of_lt (by omega), hn] at hel
  have hap : pcs (l.eraseIdx i ++ [⟨true, m⟩]) = pcs (l.eraseIdx i) ++ [bv true, .lit (.string m.g), bv m.p, .sl m.ks.length (kcs m.ks)] := pcs_app _ _
  rw [hap]
  have hKl := kcs_len m.ks
  have hkd := kcs_drop m.ks
  obtain ⟨q, hq⟩ : ∃ n, n = m.ks.length := ⟨_, rfl⟩
  obtain ⟨K1, hK1⟩ : ∃ C, C = kcs m.ks := ⟨_, rfl⟩
  simp only [← hq, ← hK1] at hdr hKl hkd hm ⊢
  clear hl hK1 hap
  obtain ⟨R, hR⟩ : ∃ R, R = hrL h0 m.ks := ⟨_, rfl⟩
  have hRne : R ≠ [] := by rw [hR]; exact hrL_ne _ _ (.inr (by intro e; rw [e] at hq; simp at hq; omega))
  rw [← hR]
  obtain ⟨C, hC⟩ : ∃ C, C = pcs l := ⟨_, rfl⟩
  rw [← hC] at cT hdr hpl ⊢
  obtain ⟨D, hD⟩ : ∃ D, D = pcs (l.eraseIdx i) := ⟨_, rfl⟩
  rw [← hD] at cT hel ⊢
  obtain ⟨n1, hn1⟩ : ∃ n1, n1 = n - 1 := ⟨_, rfl⟩
  rw [← hn1] at cT hel ⊢
  have hn1' : n1 ≤ 100000 := by omega
  clear hn1 hC hD
  have t1 : ∀ q : Nat, ((q : Nat) : Int).toNat = q := fun q => by omega
  have g1 : i * 4 + 4 ≤ n * 4 := by omega
  have hf := fe50
  obtain ⟨mg, mp, mks⟩ := m
  simp only at hq hkd hR hdr
  refine ACt.intro Try.func11 rfl (by kernel_rfl) (by simp [Try.ntmps11]) (fun cx => ?_)
  simp only [argE, Try.ntmps11, Try.results11]
  first | (have FRx := FR; clear FRx) | have FR := fr0S
  repeat' first | (refine Sm.mk ?_; try simp -dsimp only [ZK, rvc, drawF, headN, pureH, stp, dvc, calleeOf, gcall, pev, eff, newB, okd, og, ogs, ogo, ogp, slv, bltv, opd, litv, strip, one, both, putE, St.put, look, gdOf, gdv, picka, pickv, pickw, binv, bini, bins, binb, binp, binq, isSlT, bina, shp, eqCells, unv, convv, nilv, faddv, addp, idxav, idxp, load1, load1m, loadn, loadnm, loadv, hget, hset, hrep, hdel, slicev, slice3v, bnd, shift1, lenv, capv, IntKind.bits, extractv, fieldv, indexv, min2v, max2v, mkiv, tasv, tasz, cellsA, fillA, buildv, stC, oneC, rowMB, intsA, plN, appE, appZ, appC, appS, srcB, appNZ, appNC, VwL, srcC, srcZ, srcM, isBoolT, isPtrT, isSliceT, uOk, Value.oneCell', Nat.reducePow, Int.reducePow, Nat.reduceAdd, Nat.reduceMul, Nat.reduceSub, Nat.reduceLT, Nat.reduceLeDiff, Nat.reduceEqDiff, Nat.reduceBEq, Nat.reduceDiv, Nat.reduceMod, ↓reduceIte, reduceCtorEq, Int.reduceToNat, Int.reduceLT, Int.reduceLE, drawMF, mkS, TFCnK, SeqQ, BlkQ, LoopQ, BodyQ, hd, hi, hdr, hpl, t1, g1, Nat.zero_add, hc1, hc2, hxq, FR.out]) | (refine CallV.upd (by simp only [hget, ↓reduceIte, FR.out, hd, hi, hdr, hpl, t1, g1, Nat.zero_add, hc1, hc2, hxq]; first | done | rfl) (cA) (Sm.out ?_)) | refine CallV.newC (cT) (pr_k _ _ _ _) (fun _ _ => rfl) (Sm.out ?_) | refine WP.seq fun K hK => ?_ | ((fail_if_success (show WP _ _ _ (.region 8 _ _) _ _)); refine WP.region (rvc_sound _ _ (Sm.out ?_))) | ((fail_if_success (show WP _ _ _ (.region 8 _ _) _ _)); refine WP.drawMk (ia := 8) (k := 9) mixed (by decide +kernel) (by decide +kernel) (by decide +kernel) (by decide +kernel) (Sm.out ?_)) | ((fail_if_success (show WP _ _ _ (.region 8 _ _) _ _)); refine WP.drawMk (ia := 11) (k := 12) mixed (by decide +kernel) (by decide +kernel) (by decide +kernel) (by decide +kernel) (Sm.out ?_)) | ((fail_if_success (show WP _ _ _ (.region 8 _ _) _ _)); refine WP.drawK rfl mixed (by decide +kernel) (Sm.out ?_)) | (refine Ob.mk ?_; focus (first | assumption | omega | decide | trivial | (intro hob; simp only [hob, ZF]; done) | (intros; (repeat' refine And.intro ?_ ?_) <;> first | assumption | omega | trivial | decide) | (intros; simp only [ZE] at *; (repeat' refine And.intro ?_ ?_) <;> first | assumption | omega | trivial))) | refine And.intro (Ob.out ?_) ?_ | refine WP.block ?_ | (refine WP.cond rfl (fun hc => ?_) (fun hc => ?_) <;> (try simp only [ZC, reduceCtorEq, ZD] at hc) <;> (try exact absurd hc (by decide)) <;> (try (exfalso; omega))) | ((first | refine WP.skip ?_ | refine WP.exit ?_); simp only [SeqQ, BlkQ, LoopQ, BodyQ, ↓reduceIte, Nat.reduceEqDiff, reduceCtorEq, look, true_and]) | refine WP.ret (Sm.out ?_) | (first | refine ExG.no (Sm.out ?_) | refine Or.inl (ExG.no (Sm.out ?_)) | refine Or.inl (And.intro (fun hg => absurd hg (by decide)) (ExG.no (Sm.out ?_)))) | (refine Rt.mk ?_; refine And.intro ?_ ?_ <;> (intro hg; first | exact absurd hg (by decide) | refine Sm.out ?_)) | (refine Nu.mk ?_; first | (fail_if_success have := nb1); intro nb1 | (fail_if_success have := nb2); intro nb2 | (fail_if_success have := nb3); intro nb3 | (fail_if_success have := nb4); intro nb4 | (fail_if_success have := nb5); intro nb5 | (fail_if_success have := nb6); intro nb6 | (fail_if_success have := nb7); intro nb7 | (fail_if_success have := nb8); intro nb8 | (fail_if_success have := nb9); intro nb9 | (fail_if_success have := nb10); intro nb10 | (fail_if_success have := nb11); intro nb11 | (fail_if_success have := nb12); intro nb12 | intro nbz) | (refine Fr.mk ?_; intro hfr; (first | (have hFRb : _ ≤ _ ∧ _ ≤ _ := And.intro hfr.1 hfr.2.1) | (have hFRb : _ ≤ _ := hfr.1) | skip); replace FR := Sm.mk (And.intro hfr FR.out); clear hfr; refine Sm.out ?_) | refine Two.mk ?_ ?_ | (refine Cs.mk ?_; intro hcs; first | exact False.elim hcs | (exfalso; omega) | (refine Sm.out ?_)) | go_step | omega | (simp only [maxLen_eq]; omega)
  have hnn : (nb1 ≠ c ∧ c ≠ nb1) ∧ (nb2 ≠ c ∧ c ≠ nb2) ∧ (nb1 ≠ nb2 ∧ nb2 ≠ nb1) := by simp [FR.out]
  have hb3 : n1 ≤ nb3 ∧ nb3 ≤ 9223372036854775807 := FR.out.1.1
  have hz1 : (nb1 ≠ q0.1 ∧ q0.1 ≠ nb1) ∧ (nb2 ≠ q0.1 ∧ q0.1 ≠ nb2) := by simp [FR.out]
  have hRk : ROk c nb1 nb2 h0 q0 := fun _ => ⟨⟨⟨hc1, hc2⟩, hz1.1, hz1.2⟩, hc3, hc4⟩
  refine WP.loop (Γ := HrG) (fun g => ⟨[(7, iv .i64 (g.i : Int)), (6, pt nb1 0), (0, pt c 0)], hdR c (ms nb2 0 n1 nb3) N g.h g.q ++ [(nb1, .cells [bv false, .lit (.string mg), bv mp, .sl q K1] 4 53), (nb2, .cells D (nb3 * 4) 53)]⟩)
    (fun g => g.i ≤ q ∧ ROk c nb1 nb2 g.h g.q ∧ g.h.length ≤ 50000 + g.i ∧ R = hrL g.h (mks.drop g.i)) (fun g => q - g.i) ⟨0, h0, q0⟩ ⟨Nat.zero_le _, hRk, by simp only; omega, hR⟩ (Sub.of_env [(x, .cells C (k * 4) 53)] (by rw [hdR_ne _ hh0]; exact pr_l _ _ _ _ _) (by simp [look])) ?_
  clear hRk hq0 hh0 hR
  intro ⟨j, h, qq⟩ ⟨hj, hqq, hjl, hRj⟩
  simp only at hj hqq hjl hRj ⊢
  have FR : Sm (¬ ((1 : Nat) = 0)) := Sm.mk Nat.one_ne_zero
  have m3 : nb3 ≤ maxLen := by rw [maxLen_eq]; omega
  by_cases hjn : j < q
  · have ki : decide ((j : Int) < (q : Int)) = true := decide_eq_true (by omega)
    have s1 : IntKind.i64.wrap ((j : Int) + 1) = ((j + 1 : Nat) : Int) := by rw [wrap_i64 (by omega) (by omega)]; omega
    have hd2 := hkd j (by omega)
    rw [List.drop_eq_getElem_cons (show j < mks.length by omega), hrL_cons] at hRj
    obtain ⟨ky, hky⟩ : ∃ k, k = mks[j]'(by omega) := ⟨_, rfl⟩
    rw [← hky] at hd2 hRj
    clear hky
    have q1 : (j + 1) * 5 ≤ K1.length := by omega
    by_cases hh : h = []
    · subst hh
      have hb : hasB [] ky = false := hasB_f (by simp)
      have cK := has_n ky
      have ea : addH [] ky = [ky] := by unfold addH; rw [hb]; rfl
      rw [ea] at hRj
      have e0 : hdR c (ms nb2 0 n1 nb3) N [] qq = [(c, rM (ms nb2 0 n1 nb3) nsl N)] := rfl
      rw [e0]
      simp only [List.cons_append, List.nil_append]
      first | (have FRx := FR; clear FRx) | have FR := fr0S
      repeat' first | (refine Sm.mk ?_; try simp -dsimp only [ZK, rvc, drawF, headN, pureH, stp, dvc, calleeOf, gcall, pev, eff, newB, okd, og, ogs, ogo, ogp, slv, bltv, opd, litv, strip, one, both, putE, St.put, look, gdOf, gdv, picka, pickv, pickw, binv, bini, bins, binb, binp, binq, isSlT, bina, shp, eqCells, unv, convv, nilv, faddv, addp, idxav, idxp, load1, load1m, loadn, loadnm, loadv, hget, hset, hrep, hdel, slicev, slice3v, bnd, shift1, lenv, capv, IntKind.bits, extractv, fieldv, indexv, min2v, max2v, mkiv, tasv, tasz, cellsA, fillA, buildv, stC, oneC, rowMB, intsA, plN, appE, appZ, appC, appS, srcB, appNZ, appNC, VwL, srcC, srcZ, srcM, isBoolT, isPtrT, isSliceT, uOk, Value.oneCell', Nat.reducePow, Int.reducePow, Nat.reduceAdd, Nat.reduceMul, Nat.reduceSub, Nat.reduceLT, Nat.reduceLeDiff, Nat.reduceEqDiff, Nat.reduceBEq, Nat.reduceDiv, Nat.reduceMod, ↓reduceIte, reduceCtorEq, Int.reduceToNat, Int.reduceLT, Int.reduceLE, drawMF, mkS, TFCnK, SeqQ, BlkQ, LoopQ, BodyQ, hnn, ki, hd2, q1, hjn, s1, t1, Nat.one_mul, Nat.zero_add, FR.out]) | (first | refine CallV.fn (cK) (Sm.out ?_) | refine ExF.mk (cK) (Sm.out ?_) | refine ExG.mk (fun _ => cK) (Sm.out ?_) | refine ExG.mkJ (fun _ => cK) (Sm.out ?_) | refine ExG.mkI (Ob.out ?_) (fun _ => cK) (Sm.out ?_)) | refine WP.seq fun K hK => ?_ | refine WP.region (rvc_sound _ _ (Sm.out ?_)) | (refine WP.drawMk (ia := 8) (k := 9) mixed (by decide +kernel) (by decide +kernel) (by decide +kernel) (by decide +kernel) (Sm.out ?_)) | (refine WP.drawMk (ia := 11) (k := 12) mixed (by decide +kernel) (by decide +kernel) (by decide +kernel) (by decide +kernel) (Sm.out ?_)) | refine WP.drawK rfl mixed (by decide +kernel) (Sm.out ?_) | (refine Ob.mk ?_; focus (first | assumption | omega | decide | trivial | (intro hob; simp only [hob, ZF]; done) | (intros; (repeat' refine And.intro ?_ ?_) <;> first | assumption | omega | trivial | decide) | (intros; simp only [ZE] at *; (repeat' refine And.intro ?_ ?_) <;> first | assumption | omega | trivial))) | refine And.intro (Ob.out ?_) ?_ | refine WP.block ?_ | (refine WP.cond rfl (fun hc => ?_) (fun hc => ?_) <;> (try simp only [ZC, reduceCtorEq, ZD] at hc) <;> (try exact absurd hc (by decide)) <;> (try (exfalso; omega))) | ((first | refine WP.skip ?_ | refine WP.exit ?_); simp only [SeqQ, BlkQ, LoopQ, BodyQ, ↓reduceIte, Nat.reduceEqDiff, reduceCtorEq, look, true_and]) | refine WP.ret (Sm.out ?_) | (first | refine ExG.no (Sm.out ?_) | refine Or.inl (ExG.no (Sm.out ?_)) | refine Or.inl (And.intro (fun hg => absurd hg (by decide)) (ExG.no (Sm.out ?_)))) | (refine Rt.mk ?_; refine And.intro ?_ ?_ <;> (intro hg; first | exact absurd hg (by decide) | refine Sm.out ?_)) | (refine Nu.mk ?_; first | (fail_if_success have := nb1); intro nb1 | (fail_if_success have := nb2); intro nb2 | (fail_if_success have := nb3); intro nb3 | (fail_if_success have := nb4); intro nb4 | (fail_if_success have := nb5); intro nb5 | (fail_if_success have := nb6); intro nb6 | (fail_if_success have := nb7); intro nb7 | (fail_if_success have := nb8); intro nb8 | (fail_if_success have := nb9); intro nb9 | (fail_if_success have := nb10); intro nb10 | (fail_if_success have := nb11); intro nb11 | (fail_if_success have := nb12); intro nb12 | intro nbz) | (refine Fr.mk ?_; intro hfr; (first | (have hFRb : _ ≤ _ ∧ _ ≤ _ := And.intro hfr.1 hfr.2.1) | (have hFRb : _ ≤ _ := hfr.1) | skip); replace FR := Sm.mk (And.intro hfr FR.out); clear hfr; refine Sm.out ?_) | refine Two.mk ?_ ?_ | (refine Cs.mk ?_; intro hcs; first | exact False.elim hcs | (exfalso; omega) | (refine Sm.out ?_)) | go_step | omega | (simp only [maxLen_eq]; omega)
      exact ⟨⟨j + 1, [ky], (nb5, nb6)⟩, ⟨by simp only; omega, fun _ => ⟨⟨by simp [FR.out], by simp [FR.out], by simp [FR.out]⟩, by simp only [List.length_cons, List.length_nil]; omega, by simp only; omega⟩, by simp only [List.length_cons, List.length_nil]; omega, hRj⟩, by simp only; omega, (Sub.of_env [(nb4, kb ky)] (pr_h _ _ _ _ _) (by simp [look]))⟩
    · obtain ⟨⟨⟨hd1, hd3⟩, ⟨hd4, hd5⟩, ⟨hd6, hd7⟩⟩, hk1, hk2⟩ := hqq hh
      have cK := has_o qq.1 qq.2 h ky h.length rfl (by omega) hk1 hk2
      have hDl := kcs_len h
      have hrn := hdR_ne (F := ms nb2 0 n1 nb3) (N := N) (c := c) qq hh
      have hap : kcs (h ++ [ky]) = kcs h ++ [.lit (.string ky.g), .lit (.string ky.r), bv ky.p, iv .u64 ky.e, bv ky.s] := kcs_app h [ky]
      have hrn2 : ∀ y k', hdR c (ms nb2 0 n1 nb3) N (h ++ [ky]) (y, k') = [(y, .cells (kcs (h ++ [ky])) (k' * 5) 50), (c, rM (ms nb2 0 n1 nb3) (ms y 0 (h.length + 1) k') N)] := fun y k' => by
        rw [hdR_ne _ (by simp)]; simp
      rw [hrn]
      obtain ⟨m, hm⟩ : ∃ m, m = h.length := ⟨_, rfl⟩
      rw [← hm] at cK hDl hk1 hjl hrn2 ⊢
      have m1 : qq.2 ≤ maxLen := by rw [maxLen_eq]; omega
      by_cases hb : hasB h ky = true
      · rw [hb] at cK
        have ea : addH h ky = h := by unfold addH; rw [if_pos hb]
        rw [ea] at hRj
        obtain ⟨E, hE⟩ : ∃ D, D = kcs h := ⟨_, rfl⟩
        rw [← hE] at cK hDl hrn ⊢
        obtain ⟨y, kq⟩ := qq
        simp only at hd1 hd3 hd4 hd5 hd6 hd7 hk1 hk2 m1 cK ⊢
        have q3 : m * 5 ≤ E.length := by omega
        simp only [List.cons_append, List.nil_append]
        first | (have FRx := FR; clear FRx) | have FR := fr0S
        repeat' first | (refine Sm.mk ?_; try simp -dsimp only [ZK, rvc, drawF, headN, pureH, stp, dvc, calleeOf, gcall, pev, eff, newB, okd, og, ogs, ogo, ogp, slv, bltv, opd, litv, strip, one, both, putE, St.put, look, gdOf, gdv, picka, pickv, pickw, binv, bini, bins, binb, binp, binq, isSlT, bina, shp, eqCells, unv, convv, nilv, faddv, addp, idxav, idxp, load1, load1m, loadn, loadnm, loadv, hget, hset, hrep, hdel, slicev, slice3v, bnd, shift1, lenv, capv, IntKind.bits, extractv, fieldv, indexv, min2v, max2v, mkiv, tasv, tasz, cellsA, fillA, buildv, stC, oneC, rowMB, intsA, plN, appE, appZ, appC, appS, srcB, appNZ, appNC, VwL, srcC, srcZ, srcM, isBoolT, isPtrT, isSliceT, uOk, Value.oneCell', Nat.reducePow, Int.reducePow, Nat.reduceAdd, Nat.reduceMul, Nat.reduceSub, Nat.reduceLT, Nat.reduceLeDiff, Nat.reduceEqDiff, Nat.reduceBEq, Nat.reduceDiv, Nat.reduceMod, ↓reduceIte, reduceCtorEq, Int.reduceToNat, Int.reduceLT, Int.reduceLE, drawMF, mkS, TFCnK, SeqQ, BlkQ, LoopQ, BodyQ, hnn, ki, hd2, q1, hjn, s1, t1, hd1, hd3, hd4, hd5, hd6, hd7, hDl, q3, Nat.zero_add, FR.out]) | (refine CallV.updM (cK) (perm1 (by simp only [hget, hdel, ↓reduceIte, FR.out, hnn, ki, hd2, q1, hjn, s1, t1, hd1, hd3, hd4, hd5, hd6, hd7, hDl, q3, Nat.zero_add]; first | done | rfl)) (Sm.out ?_)) | ((first | refine ExF.up ?_ (cK) (Sm.out ?_) | refine ExG.up ?_ (fun _ => cK) (Sm.out ?_) | refine ExG.upJ ?_ (fun _ => cK) (Sm.out ?_) | refine ExG.upI ?_ (fun _ => cK) (Ob.out ?_) (Sm.out ?_)); focus (exact ⟨_, (perm1 (by simp only [hget, hdel, ↓reduceIte, FR.out, hnn, ki, hd2, q1, hjn, s1, t1, hd1, hd3, hd4, hd5, hd6, hd7, hDl, q3, Nat.zero_add]; first | done | rfl))⟩)) | refine WP.seq fun K hK => ?_ | refine WP.region (rvc_sound _ _ (Sm.out ?_)) | (refine WP.drawMk (ia := 8) (k := 9) mixed (by decide +kernel) (by decide +kernel) (by decide +kernel) (by decide +kernel) (Sm.out ?_)) | (refine WP.drawMk (ia := 11) (k := 12) mixed (by decide +kernel) (by decide +kernel) (by decide +kernel) (by decide +kernel) (Sm.out ?_)) | refine WP.drawK rfl mixed (by decide +kernel) (Sm.out ?_) | (refine Ob.mk ?_; focus (first | assumption | omega | decide | trivial | (intro hob; simp only [hob, ZF]; done) | (intros; (repeat' refine And.intro ?_ ?_) <;> first | assumption | omega | trivial | decide) | (intros; simp only [ZE] at *; (repeat' refine And.intro ?_ ?_) <;> first | assumption | omega | trivial))) | refine And.intro (Ob.out ?_) ?_ | refine WP.block ?_ | (refine WP.cond rfl (fun hc => ?_) (fun hc => ?_) <;> (try simp only [ZC, reduceCtorEq, ZD] at hc) <;> (try exact absurd hc (by decide)) <;> (try (exfalso; omega))) | ((first | refine WP.skip ?_ | refine WP.exit ?_); simp only [SeqQ, BlkQ, LoopQ, BodyQ, ↓reduceIte, Nat.reduceEqDiff, reduceCtorEq, look, true_and]) | refine WP.ret (Sm.out ?_) | (first | refine ExG.no (Sm.out ?_) | refine Or.inl (ExG.no (Sm.out ?_)) | refine Or.inl (And.intro (fun hg => absurd hg (by decide)) (ExG.no (Sm.out ?_)))) | (refine Rt.mk ?_; refine And.intro ?_ ?_ <;> (intro hg; first | exact absurd hg (by decide) | refine Sm.out ?_)) | (refine Nu.mk ?_; first | (fail_if_success have := nb1); intro nb1 | (fail_if_success have := nb2); intro nb2 | (fail_if_success have := nb3); intro nb3 | (fail_if_success have := nb4); intro nb4 | (fail_if_success have := nb5); intro nb5 | (fail_if_success have := nb6); intro nb6 | (fail_if_success have := nb7); intro nb7 | (fail_if_success have := nb8); intro nb8 | (fail_if_success have := nb9); intro nb9 | (fail_if_success have := nb10); intro nb10 | (fail_if_success have := nb11); intro nb11 | (fail_if_success have := nb12); intro nb12 | intro nbz) | (refine Fr.mk ?_; intro hfr; (first | (have hFRb : _ ≤ _ ∧ _ ≤ _ := And.intro hfr.1 hfr.2.1) | (have hFRb : _ ≤ _ := hfr.1) | skip); replace FR := Sm.mk (And.intro hfr FR.out); clear hfr; refine Sm.out ?_) | refine Two.mk ?_ ?_ | (refine Cs.mk ?_; intro hcs; first | exact False.elim hcs | (exfalso; omega) | (refine Sm.out ?_)) | go_step | omega | (simp only [maxLen_eq]; omega)
        exact ⟨⟨j + 1, h, (y, kq)⟩, ⟨by simp only; omega, hqq, by simp only; omega, hRj⟩, by simp only; omega, (Sub.of_env [] (by simp only [hrn, ← hm]; exact pmz _) (by simp [look]))⟩
      · have hb' : hasB h ky = false := by simpa using hb
        rw [hb'] at cK
        have ea : addH h ky = h ++ [ky] := by unfold addH; rw [if_neg hb]
        rw [ea] at hRj
        obtain ⟨E, hE⟩ : ∃ D, D = kcs h := ⟨_, rfl⟩
        rw [← hE] at cK hDl hap hrn ⊢
        obtain ⟨G, hG⟩ : ∃ E, E = kcs (h ++ [ky]) := ⟨_, rfl⟩
        rw [← hG] at hap
        simp only [← hG] at hrn2
        have hap' := hap.symm
        obtain ⟨y, kq⟩ := qq
        simp only at hd1 hd3 hd4 hd5 hd6 hd7 hk1 hk2 m1 cK ⊢
        have q3 : m * 5 ≤ E.length := by omega
        simp only [List.cons_append, List.nil_append]
        first | (have FRx := FR; clear FRx) | have FR := fr0S
        repeat' first | (refine Sm.mk ?_; try simp -dsimp only [ZK, rvc, drawF, headN, pureH, stp, dvc, calleeOf, gcall, pev, eff, newB, okd, og, ogs, ogo, ogp, slv, bltv, opd, litv, strip, one, both, putE, St.put, look, gdOf, gdv, picka, pickv, pickw, binv, bini, bins, binb, binp, binq, isSlT, bina, shp, eqCells, unv, convv, nilv, faddv, addp, idxav, idxp, load1, load1m, loadn, loadnm, loadv, hget, hset, hrep, hdel, slicev, slice3v, bnd, shift1, lenv, capv, IntKind.bits, extractv, fieldv, indexv, min2v, max2v, mkiv, tasv, tasz, cellsA, fillA, buildv, stC, oneC, rowMB, intsA, plN, appE, appZ, appC, appS, srcB, appNZ, appNC, VwL, srcC, srcZ, srcM, isBoolT, isPtrT, isSliceT, uOk, Value.oneCell', Nat.reducePow, Int.reducePow, Nat.reduceAdd, Nat.reduceMul, Nat.reduceSub, Nat.reduceLT, Nat.reduceLeDiff, Nat.reduceEqDiff, Nat.reduceBEq, Nat.reduceDiv, Nat.reduceMod, ↓reduceIte, reduceCtorEq, Int.reduceToNat, Int.reduceLT, Int.reduceLE, drawMF, mkS, TFCnK, SeqQ, BlkQ, LoopQ, BodyQ, hnn, ki, hd2, q1, hjn, s1, t1, hd1, hd3, hd4, hd5, hd6, hd7, hDl, q3, m1, hk1, hap', Nat.one_mul, Nat.zero_add, FR.out]) | (refine CallV.updM (cK) (perm1 (by simp only [hget, hdel, ↓reduceIte, FR.out, hnn, ki, hd2, q1, hjn, s1, t1, hd1, hd3, hd4, hd5, hd6, hd7, hDl, q3, m1, hk1, hap', Nat.one_mul, Nat.zero_add]; first | done | rfl)) (Sm.out ?_)) | ((first | refine ExF.up ?_ (cK) (Sm.out ?_) | refine ExG.up ?_ (fun _ => cK) (Sm.out ?_) | refine ExG.upJ ?_ (fun _ => cK) (Sm.out ?_) | refine ExG.upI ?_ (fun _ => cK) (Ob.out ?_) (Sm.out ?_)); focus (exact ⟨_, (perm1 (by simp only [hget, hdel, ↓reduceIte, FR.out, hnn, ki, hd2, q1, hjn, s1, t1, hd1, hd3, hd4, hd5, hd6, hd7, hDl, q3, m1, hk1, hap', Nat.one_mul, Nat.zero_add]; first | done | rfl))⟩)) | refine WP.seq fun K hK => ?_ | refine WP.region (rvc_sound _ _ (Sm.out ?_)) | (refine WP.drawMk (ia := 8) (k := 9) mixed (by decide +kernel) (by decide +kernel) (by decide +kernel) (by decide +kernel) (Sm.out ?_)) | (refine WP.drawMk (ia := 11) (k := 12) mixed (by decide +kernel) (by decide +kernel) (by decide +kernel) (by decide +kernel) (Sm.out ?_)) | refine WP.drawK rfl mixed (by decide +kernel) (Sm.out ?_) | (refine Ob.mk ?_; focus (first | assumption | omega | decide | trivial | (intro hob; simp only [hob, ZF]; done) | (intros; (repeat' refine And.intro ?_ ?_) <;> first | assumption | omega | trivial | decide) | (intros; simp only [ZE] at *; (repeat' refine And.intro ?_ ?_) <;> first | assumption | omega | trivial))) | refine And.intro (Ob.out ?_) ?_ | refine WP.block ?_ | (refine WP.cond rfl (fun hc => ?_) (fun hc => ?_) <;> (try simp only [ZC, reduceCtorEq, ZD] at hc) <;> (try exact absurd hc (by decide)) <;> (try (exfalso; omega))) | ((first | refine WP.skip ?_ | refine WP.exit ?_); simp only [SeqQ, BlkQ, LoopQ, BodyQ, ↓reduceIte, Nat.reduceEqDiff, reduceCtorEq, look, true_and]) | refine WP.ret (Sm.out ?_) | (first | refine ExG.no (Sm.out ?_) | refine Or.inl (ExG.no (Sm.out ?_)) | refine Or.inl (And.intro (fun hg => absurd hg (by decide)) (ExG.no (Sm.out ?_)))) | (refine Rt.mk ?_; refine And.intro ?_ ?_ <;> (intro hg; first | exact absurd hg (by decide) | refine Sm.out ?_)) | (refine Nu.mk ?_; first | (fail_if_success have := nb1); intro nb1 | (fail_if_success have := nb2); intro nb2 | (fail_if_success have := nb3); intro nb3 | (fail_if_success have := nb4); intro nb4 | (fail_if_success have := nb5); intro nb5 | (fail_if_success have := nb6); intro nb6 | (fail_if_success have := nb7); intro nb7 | (fail_if_success have := nb8); intro nb8 | (fail_if_success have := nb9); intro nb9 | (fail_if_success have := nb10); intro nb10 | (fail_if_success have := nb11); intro nb11 | (fail_if_success have := nb12); intro nb12 | intro nbz) | (refine Fr.mk ?_; intro hfr; (first | (have hFRb : _ ≤ _ ∧ _ ≤ _ := And.intro hfr.1 hfr.2.1) | (have hFRb : _ ≤ _ := hfr.1) | skip); replace FR := Sm.mk (And.intro hfr FR.out); clear hfr; refine Sm.out ?_) | refine Two.mk ?_ ?_ | (refine Cs.mk ?_; intro hcs; first | exact False.elim hcs | (exfalso; omega) | (refine Sm.out ?_)) | go_step | omega | (simp only [maxLen_eq]; omega)
        exact ⟨⟨j + 1, h ++ [ky], (nb5, nb6)⟩, ⟨by simp only; omega, fun _ => ⟨⟨by simp [FR.out], by simp [FR.out], by simp [FR.out]⟩, by simp only [List.length_append, List.length_cons, List.length_nil]; omega, by simp only; omega⟩, by simp only [List.length_append, List.length_cons, List.length_nil]; omega, hRj⟩, by simp only; omega, (Sub.of_env [(nb4, kb ky)] (by simp only [hrn2]; exact pr_i _ _ _ _ _) (by simp [look]))⟩
  · obtain rfl : j = q := by omega
    have ki : decide ((j : Int) < (j : Int)) = false := decide_eq_false (by omega)
    rw [List.drop_eq_nil_of_le (by omega), hrL_nil] at hRj
    subst hRj
    obtain ⟨⟨⟨hd1, hd3⟩, ⟨hd4, hd5⟩, ⟨hd6, hd7⟩⟩, hk1, hk2⟩ := hqq hRne
    rw [hdR_ne _ hRne]
    obtain ⟨E, hE⟩ : ∃ D, D = kcs R := ⟨_, rfl⟩
    obtain ⟨m, hm⟩ : ∃ m, m = R.length := ⟨_, rfl⟩
    rw [← hE, ← hm]
    rw [← hm] at hk1
    obtain ⟨y, kq⟩ := qq
    simp only at hd1 hd3 hd4 hd5 hd6 hd7 hk1 hk2 ⊢
    simp only [List.cons_append, List.nil_append]
    have hb4 := hb3.1
    first | (have FRx := FR; clear FRx) | have FR := fr0S
    repeat' first | (refine Sm.mk ?_; try simp -dsimp only [ZK, rvc, drawF, headN, pureH, stp, dvc, calleeOf, gcall, pev, eff, newB, okd, og, ogs, ogo, ogp, slv, bltv, opd, litv, strip, one, both, putE, St.put, look, gdOf, gdv, picka, pickv, pickw, binv, bini, bins, binb, binp, binq, isSlT, bina, shp, eqCells, unv, convv, nilv, faddv, addp, idxav, idxp, load1, load1m, loadn, loadnm, loadv, hget, hset, hrep, hdel, slicev, slice3v, bnd, shift1, lenv, capv, IntKind.bits, extractv, fieldv, indexv, min2v, max2v, mkiv, tasv, tasz, cellsA, fillA, buildv, stC, oneC, rowMB, intsA, plN, appE, appZ, appC, appS, srcB, appNZ, appNC, VwL, srcC, srcZ, srcM, isBoolT, isPtrT, isSliceT, uOk, Value.oneCell', Nat.reducePow, Int.reducePow, Nat.reduceAdd, Nat.reduceMul, Nat.reduceSub, Nat.reduceLT, Nat.reduceLeDiff, Nat.reduceEqDiff, Nat.reduceBEq, Nat.reduceDiv, Nat.reduceMod, ↓reduceIte, reduceCtorEq, Int.reduceToNat, Int.reduceLT, Int.reduceLE, drawMF, mkS, TFCnK, SeqQ, BlkQ, LoopQ, BodyQ, hnn, ki, hd1, hd3, hd4, hd5, hd6, hd7, hel, m3, hb4, t1, Nat.one_mul, Nat.zero_add, FR.out]) | refine WP.seq fun K hK => ?_ | refine WP.region (rvc_sound _ _ (Sm.out ?_)) | (refine WP.drawMk (ia := 8) (k := 9) mixed (by decide +kernel) (by decide +kernel) (by decide +kernel) (by decide +kernel) (Sm.out ?_)) | (refine WP.drawMk (ia := 11) (k := 12) mixed (by decide +kernel) (by decide +kernel) (by decide +kernel) (by decide +kernel) (Sm.out ?_)) | refine WP.drawK rfl mixed (by decide +kernel) (Sm.out ?_) | (refine Ob.mk ?_; focus (first | assumption | omega | decide | trivial | (intro hob; simp only [hob, ZF]; done) | (intros; (repeat' refine And.intro ?_ ?_) <;> first | assumption | omega | trivial | decide) | (intros; simp only [ZE] at *; (repeat' refine And.intro ?_ ?_) <;> first | assumption | omega | trivial))) | refine And.intro (Ob.out ?_) ?_ | refine WP.block ?_ | (refine WP.cond rfl (fun hc => ?_) (fun hc => ?_) <;> (try simp only [ZC, reduceCtorEq, ZD] at hc) <;> (try exact absurd hc (by decide)) <;> (try (exfalso; omega))) | ((first | refine WP.skip ?_ | refine WP.exit ?_); simp only [SeqQ, BlkQ, LoopQ, BodyQ, ↓reduceIte, Nat.reduceEqDiff, reduceCtorEq, look, true_and]) | refine WP.ret (Sm.out ?_) | (first | refine ExG.no (Sm.out ?_) | refine Or.inl (ExG.no (Sm.out ?_)) | refine Or.inl (And.intro (fun hg => absurd hg (by decide)) (ExG.no (Sm.out ?_)))) | (refine Rt.mk ?_; refine And.intro ?_ ?_ <;> (intro hg; first | exact absurd hg (by decide) | refine Sm.out ?_)) | (refine Nu.mk ?_; first | (fail_if_success have := nb1); intro nb1 | (fail_if_success have := nb2); intro nb2 | (fail_if_success have := nb3); intro nb3 | (fail_if_success have := nb4); intro nb4 | (fail_if_success have := nb5); intro nb5 | (fail_if_success have := nb6); intro nb6 | (fail_if_success have := nb7); intro nb7 | (fail_if_success have := nb8); intro nb8 | (fail_if_success have := nb9); intro nb9 | (fail_if_success have := nb10); intro nb10 | (fail_if_success have := nb11); intro nb11 | (fail_if_success have := nb12); intro nb12 | intro nbz) | (refine Fr.mk ?_; intro hfr; (first | (have hFRb : _ ≤ _ ∧ _ ≤ _ := And.intro hfr.1 hfr.2.1) | (have hFRb : _ ≤ _ := hfr.1) | skip); replace FR := Sm.mk (And.intro hfr FR.out); clear hfr; refine Sm.out ?_) | refine Two.mk ?_ ?_ | (refine Cs.mk ?_; intro hcs; first | exact False.elim hcs | (exfalso; omega) | (refine Sm.out ?_)) | go_step | omega | (simp only [maxLen_eq]; omega)
    (refine OutQ.drop _ _ (perm3 (by simp only [hget, hdel, ↓reduceIte, if_true, if_false, FR.out, hnn, hd1, hd3, hd4, hd5, hd6, hd7, ← hE, ← hm]; first | done | rfl) (by simp only [hget, hdel, ↓reduceIte, if_true, if_false, FR.out, hnn, hd1, hd3, hd4, hd5, hd6, hd7, ← hE, ← hm]; first | done | rfl) (by simp only [hget, hdel, ↓reduceIte, if_true, if_false, FR.out, hnn, hd1, hd3, hd4, hd5, hd6, hd7, ← hE, ← hm]; first | done | rfl)) (by simp only [resv, ZK, look, loadv, loadn, loadnm, load1, load1m, hget, ↓reduceIte, Nat.reduceEqDiff, Nat.reduceAdd, Nat.reduceMul, Nat.reduceLeDiff, Nat.reduceLT, reduceCtorEq, TFCnK, FR.out, hnn, hd1, hd3, hd4, hd5, hd6, hd7, ← hE, ← hm]) ⟨nb5, nb6, y, kq, ⟨by omega, by omega⟩, (by simp only [resv, resA, ZK, look, loadv, loadn, loadnm, load1, load1m, hget, ↓reduceIte, Nat.reduceEqDiff, Nat.reduceAdd, Nat.reduceMul, Nat.reduceLeDiff, Nat.reduceLT, reduceCtorEq, TFCnK, FR.out, hnn, hd1, hd3, hd4, hd5, hd6, hd7, ← hE, ← hm]; first | done | rfl), rfl⟩)
theorem liftE {ι : Type} {M : ι → Hp} {cap : ι → Prop} {f : FuncId} {args : List AV} {F R F1 H : Hp} {v : AV} (h : ACt Try.prog f args F (fun r F' => r = v ∧ F' = F1)) (hP : H.Perm (F ++ R)) (i : ι) (hQ : (F1 ++ R).Perm (M i)) (hc : cap i) :
    ACt Try.prog f args H (fun r F' => ∃ g : { i : ι // ((M i).map (·.1)).Nodup ∧ cap i }, r = v ∧ F' = M g.1) :=
  ACt.frm (R := R) h hP fun r F' hr hn => by
    obtain ⟨e1, e2⟩ := hr
    subst e1 e2
    exact ⟨M i, [], by rw [List.append_nil]; exact hQ, ⟨i, ((hQ.map _).nodup_iff.1 hn), hc⟩, rfl, rfl⟩
theorem liftX {ι : Type} {M : ι → Hp} {cap : ι → Prop} {f : FuncId} {args : List AV} {F R H : Hp} {F1 : Nat → Nat → Hp} {v : AV} {φ : Nat → Nat → Prop} (h : ACt Try.prog f args F (fun r F' => ∃ y k, φ y k ∧ r = v ∧ F' = F1 y k)) (hP : H.Perm (F ++ R)) (i : Nat → Nat → ι)
    (hQ : ∀ y k, (F1 y k ++ R).Perm (M (i y k))) (hc : ∀ y k, φ y k → cap (i y k)) :
    ACt Try.prog f args H (fun r F' => ∃ g : { i : ι // ((M i).map (·.1)).Nodup ∧ cap i }, r = v ∧ F' = M g.1) :=
  ACt.frm (R := R) h hP fun r F' hr hn => by
    obtain ⟨y, k, e0, e1, e2⟩ := hr
    subst e1 e2
    exact ⟨M (i y k), [], by rw [List.append_nil]; exact hQ y k, ⟨i y k, (((hQ y k).map _).nodup_iff.1 hn), hc y k e0⟩, rfl, rfl⟩
theorem liftX4 {ι : Type} {M : ι → Hp} {cap : ι → Prop} {f : FuncId} {args : List AV} {F R H : Hp} {F1 : Nat → Nat → Nat → Nat → Hp} {v : AV} {φ : Nat → Nat → Nat → Nat → Prop} (h : ACt Try.prog f args F (fun r F' => ∃ y k z j, φ y k z j ∧ r = v ∧ F' = F1 y k z j)) (hP : H.Perm (F ++ R)) (i : Nat → Nat → Nat → Nat → ι)
    (hQ : ∀ y k z j, (F1 y k z j ++ R).Perm (M (i y k z j))) (hc : ∀ y k z j, φ y k z j → cap (i y k z j)) :
    ACt Try.prog f args H (fun r F' => ∃ g : { i : ι // ((M i).map (·.1)).Nodup ∧ cap i }, r = v ∧ F' = M g.1) :=
  ACt.frm (R := R) h hP fun r F' hr hn => by
    obtain ⟨y, k, z, j, e0, e1, e2⟩ := hr
    subst e1 e2
    exact ⟨M (i y k z j), [], by rw [List.append_nil]; exact hQ y k z j, ⟨i y k z j, (((hQ y k z j).map _).nodup_iff.1 hn), hc y k z j e0⟩, rfl, rfl⟩
theorem liftS {f : FuncId} {args : List AV} {F R H : Hp} {v : AV} (h : ACt Try.prog f args F (fun r F' => r = v ∧ F' = F)) (hP : H.Perm (F ++ R)) : ACt Try.prog f args H (fun r F' => r = v ∧ F' = H) :=
  ACt.frm (R := R) h hP fun r F' hr _ => by
    obtain ⟨e1, e2⟩ := hr
    subst e1 e2
    exact ⟨H, [], by rw [List.append_nil]; exact hP.symm, rfl, rfl⟩
structure CA where
  l : List Pk
  h : List Ky
  n : Int
abbrev CI : Type := Option (Nat × Nat) × (Nat × Nat)
def fV (n : Nat) : Option (Nat × Nat) → AV
  | none => nsl
  | some q => ms q.1 0 n q.2
def fB (l : List Pk) : Option (Nat × Nat) → Hp
  | none => []
  | some q => [(q.1, .cells (fcs l) q.2 20)]
def gB (l : List Pk) : Option (Nat × Nat) → Hp
  | none => []
  | some q => [(q.1, .cells (pcs l) (q.2 * 4) 53)]
def hV (h : List Ky) (q : Nat × Nat) : AV := match h with
  | [] => nsl
  | k :: r => ms q.1 0 (k :: r).length q.2
def hB (h : List Ky) (q : Nat × Nat) : Hp := match h with
  | [] => []
  | k :: r => [(q.1, .cells (kcs (k :: r)) (q.2 * 5) 50)]
theorem hV_ne {h : List Ky} (q : Nat × Nat) (hh : h ≠ []) : hV h q = ms q.1 0 h.length q.2 := by cases h; exact absurd rfl hh; rfl
theorem hB_ne {h : List Ky} (q : Nat × Nat) (hh : h ≠ []) : hB h q = [(q.1, .cells (kcs h) (q.2 * 5) 50)] := by cases h; exact absurd rfl hh; rfl
def cH (c : Nat) (a : CA) (i : CI) : Hp := (c, chM (fV a.l.length i.1) (hV a.h i.2) (iv .u64 a.n)) :: (fB a.l i.1 ++ hB a.h i.2)
def rH (c : Nat) (a : CA) (i : CI) : Hp := (c, rM (fV a.l.length i.1) (hV a.h i.2) (iv .u64 a.n)) :: (gB a.l i.1 ++ hB a.h i.2)
def capA (a : CA) (i : CI) : Prop := (i.1 = none → a.l = []) ∧ (∀ q, i.1 = some q → a.l.length ≤ q.2 ∧ q.2 ≤ 9223372036854775807) ∧ (a.h ≠ [] → a.h.length ≤ i.2.2 ∧ i.2.2 ≤ 9223372036854775807)
abbrev CS (c : Nat) (a : CA) : Type := { i : CI // ((cH c a i).map (·.1)).Nodup ∧ capA a i }
abbrev RS (c : Nat) (a : CA) : Type := { i : CI // ((rH c a i).map (·.1)).Nodup ∧ capA a i }
structure AOk (a : CA) : Prop where
  l : a.l.length ≤ 60
  m : ∀ p ∈ a.l, MR p.m
  h : a.h.length ≤ 50000
def kV (ks : List Ky) : AV := match ks with
  | [] => nsl
  | k :: r => .sl (k :: r).length (kcs (k :: r))
theorem kV_ne {h : List Ky} (hh : h ≠ []) : kV h = .sl h.length (kcs h) := by cases h; exact absurd rfl hh; rfl
/-! The steps -/
noncomputable def pst (a : CA) (m : Mg) : CA × Int := if mrB m = false then (a, 6) else if 60 ≤ a.l.length then (⟨a.l, a.h, IntKind.u64.wrap (a.n + 1)⟩, 11) else (⟨a.l ++ [⟨false, m⟩], a.h, a.n⟩, 0)
def lse (a : CA) (i : Int) : CA × Int := if 0 ≤ i ∧ i < (a.l.length : Int) then (⟨a.l.eraseIdx i.toNat, a.h, IntKind.u64.wrap (a.n + 1)⟩, 0) else (a, 7)
def dbl (a : CA) (i : Int) : CA × Int := if h : 0 ≤ i ∧ i < (a.l.length : Int) then (if 60 ≤ a.l.length then (a, 11) else (⟨a.l ++ [a.l[i.toNat]'(by omega)], a.h, a.n⟩, 0)) else (a, 7)
noncomputable def dlv (a : CA) (i : Int) : CA × (List Ky × Int) :=
  if h : 0 ≤ i ∧ i < (a.l.length : Int) then
    (if (a.l[i.toNat]'(by omega)).a = true then (⟨a.l.eraseIdx i.toNat, a.h, a.n⟩, ((a.l[i.toNat]'(by omega)).m.ks, 0))
     else (⟨a.l.eraseIdx i.toNat ++ [⟨true, (a.l[i.toNat]'(by omega)).m⟩], hrL a.h (a.l[i.toNat]'(by omega)).m.ks, a.n⟩, ([], 0)))
  else (a, ([], 7))
theorem nd_c {c x : Nat} {m m2 : MB} {l : Hp} (h : (((c, m) :: ([(x, m2)] ++ l) : Hp).map (·.1)).Nodup) : c ≠ x ∧ x ≠ c := by
  simp only [List.cons_append, List.nil_append, List.map_cons, List.nodup_cons, List.mem_cons, not_or] at h
  exact ⟨h.1.1, fun e => h.1.1 e.symm⟩
theorem nd_h {c x z : Nat} {m m2 m3 : MB} (h : (((c, m) :: ([(x, m2)] ++ [(z, m3)]) : Hp).map (·.1)).Nodup) : (c ≠ z ∧ z ≠ c) ∧ (x ≠ z ∧ z ≠ x) := by
  simp only [List.cons_append, List.nil_append, List.map_cons, List.map_nil, List.nodup_cons, List.mem_cons, List.not_mem_nil, or_false, not_or] at h
  exact ⟨⟨h.1.2, fun e => h.1.2 e.symm⟩, ⟨h.2.1, fun e => h.2.1 e.symm⟩⟩
theorem post_c (c : Nat) (a : CA) (ha : AOk a) (g : CS c a) (m : Mg) (hz : ∀ k ∈ m.ks, Kz k) : ACt Try.prog 21 [pt c 0, mv m] (cH c a g.1) (fun r F' => ∃ g' : CS c (pst a m).1, r = iv .i64 (pst a m).2 ∧ F' = cH c (pst a m).1 g'.1) := by
  obtain ⟨⟨fo, q⟩, hnd, hf0, hf1, hh1⟩ := g
  obtain ⟨l, h, n⟩ := a
  have hal := ha.l
  simp only at hf0 hf1 hh1 hal
  by_cases hm : mrB m = false
  · have e : pst ⟨l, h, n⟩ m = (⟨l, h, n⟩, 6) := by unfold pst; rw [if_pos hm]
    rw [e]
    exact liftE (M := cH c ⟨l, h, n⟩) (cap := capA ⟨l, h, n⟩) (R := fB l fo ++ hB h q) (post_form c _ _ _ m hz hm) (List.Perm.refl _) (fo, q) (List.Perm.refl _) ⟨hf0, hf1, hh1⟩
  have hmt : mrB m = true := by simpa using hm
  by_cases h60 : 60 ≤ l.length
  · have e : pst ⟨l, h, n⟩ m = (⟨l, h, IntKind.u64.wrap (n + 1)⟩, 11) := by unfold pst; rw [if_neg hm, if_pos h60]
    rw [e]
    cases fo with
    | none => have := hf0 rfl; rw [this] at h60; simp at h60
    | some x =>
      exact liftE (M := cH c ⟨l, h, IntKind.u64.wrap (n + 1)⟩) (cap := capA ⟨l, h, IntKind.u64.wrap (n + 1)⟩) (R := fB l (some x) ++ hB h q) (post_full c x.1 l.length x.2 (hV h q) n m hz hmt h60) (List.Perm.refl _) (some x, q) (List.Perm.refl _) ⟨hf0, hf1, hh1⟩
  · have e : pst ⟨l, h, n⟩ m = (⟨l ++ [(⟨false, m⟩ : Pk)], h, n⟩, 0) := by unfold pst; rw [if_neg hm, if_neg h60]
    rw [e]
    cases fo with
    | none =>
      have hl := hf0 rfl
      subst hl
      exact liftX (M := cH c ⟨[] ++ [(⟨false, m⟩ : Pk)], h, n⟩) (cap := capA ⟨[] ++ [(⟨false, m⟩ : Pk)], h, n⟩) (R := hB h q) (post_n c (hV h q) (iv .u64 n) m hz hmt) (List.Perm.refl _) (fun y k => (some (y, k), q)) (fun y k => List.Perm.swap _ _ _)
        (fun y k hk => ⟨fun h => by simp at h, fun q' hq' => by cases hq'; exact hk, hh1⟩)
    | some x =>
      obtain ⟨x, k⟩ := x
      have hk := hf1 _ rfl
      have hd := nd_c hnd
      exact liftX (M := cH c ⟨l ++ [(⟨false, m⟩ : Pk)], h, n⟩) (cap := capA ⟨l ++ [(⟨false, m⟩ : Pk)], h, n⟩) (R := hB h q) (post_s c x k l l.length hd (hV h q) (iv .u64 n) m hz hmt rfl hk (by omega)) (List.Perm.swap _ _ _) (fun y k => (some (y, k), q))
        (fun y k => by simp only [cH, fV, fB, List.length_append, List.length_cons, List.length_nil]; exact List.Perm.swap _ _ _)
        (fun y k hk => ⟨fun h => by simp at h, fun q' hq' => by cases hq'; simp only [List.length_append, List.length_cons, List.length_nil]; exact hk, hh1⟩)
theorem lose_c (c : Nat) (a : CA) (ha : AOk a) (g : CS c a) (i : Int) : ACt Try.prog 22 [pt c 0, iv .i64 i] (cH c a g.1) (fun r F' => ∃ g' : CS c (lse a i).1, r = iv .i64 (lse a i).2 ∧ F' = cH c (lse a i).1 g'.1) := by
  obtain ⟨⟨fo, q⟩, hnd, hf0, hf1, hh1⟩ := g
  obtain ⟨l, h, n⟩ := a
  have hal := ha.l
  simp only at hf0 hf1 hh1 hal
  by_cases hi : 0 ≤ i ∧ i < (l.length : Int)
  · cases fo with
    | none => have := hf0 rfl; rw [this] at hi; simp at hi; omega
    | some x =>
      obtain ⟨x, k⟩ := x
      have hk := hf1 _ rfl
      have hd := nd_c hnd
      obtain ⟨j, rfl⟩ := Int.eq_ofNat_of_zero_le hi.1
      have hj : j < l.length := by omega
      have e : lse ⟨l, h, n⟩ (j : Int) = (⟨l.eraseIdx j, h, IntKind.u64.wrap (n + 1)⟩, 0) := by unfold lse; rw [if_pos hi]; rfl
      rw [e]
      have e1 : l.length - 1 = (l.eraseIdx j).length := by rw [List.length_eraseIdx_of_lt hj]
      have cL := lose_s c x k l l.length j hd (hV h q) n rfl hj hk (by omega)
      rw [e1] at cL
      exact liftE (M := cH c ⟨l.eraseIdx j, h, IntKind.u64.wrap (n + 1)⟩) (cap := capA ⟨l.eraseIdx j, h, IntKind.u64.wrap (n + 1)⟩) (R := hB h q) cL (List.Perm.refl _) (some (x, k), q) (List.Perm.refl _)
        ⟨fun h => by simp at h, fun q' hq' => by cases hq'; simp only; rw [← e1]; exact ⟨by omega, hk.2⟩, hh1⟩
  · have e : lse ⟨l, h, n⟩ i = (⟨l, h, n⟩, 7) := by unfold lse; rw [if_neg hi]
    rw [e]
    cases fo with
    | none => exact liftE (M := cH c ⟨l, h, n⟩) (cap := capA ⟨l, h, n⟩) (R := fB l none ++ hB h q) (lose_n c (hV h q) (iv .u64 n) i) (List.Perm.refl _) (none, q) (List.Perm.refl _) ⟨hf0, hf1, hh1⟩
    | some x => exact liftE (M := cH c ⟨l, h, n⟩) (cap := capA ⟨l, h, n⟩) (R := fB l (some x) ++ hB h q) (lose_b c x.1 l.length x.2 (hV h q) (iv .u64 n) i (by unfold atI; rw [if_neg hi])) (List.Perm.refl _) (some x, q) (List.Perm.refl _) ⟨hf0, hf1, hh1⟩
theorem dbl_c (c : Nat) (a : CA) (ha : AOk a) (g : CS c a) (i : Int) : ACt Try.prog 23 [pt c 0, iv .i64 i] (cH c a g.1) (fun r F' => ∃ g' : CS c (dbl a i).1, r = iv .i64 (dbl a i).2 ∧ F' = cH c (dbl a i).1 g'.1) := by
  obtain ⟨⟨fo, q⟩, hnd, hf0, hf1, hh1⟩ := g
  obtain ⟨l, h, n⟩ := a
  have hal := ha.l
  simp only at hf0 hf1 hh1 hal
  by_cases hi : 0 ≤ i ∧ i < (l.length : Int)
  · cases fo with
    | none => have := hf0 rfl; rw [this] at hi; simp at hi; omega
    | some x =>
      obtain ⟨x, k⟩ := x
      have hk := hf1 _ rfl
      have hd := nd_c hnd
      by_cases h60 : 60 ≤ l.length
      · have e : dbl ⟨l, h, n⟩ i = (⟨l, h, n⟩, 11) := by unfold dbl; rw [dif_pos hi, if_pos h60]
        rw [e]
        exact liftE (M := cH c ⟨l, h, n⟩) (cap := capA ⟨l, h, n⟩) (R := fB l (some (x, k)) ++ hB h q) (dbl_f c x l.length k (hV h q) (iv .u64 n) i (by unfold atI; rw [if_pos hi]) h60) (List.Perm.refl _) (some (x, k), q) (List.Perm.refl _) ⟨hf0, hf1, hh1⟩
      · obtain ⟨j, rfl⟩ := Int.eq_ofNat_of_zero_le hi.1
        have hj : j < l.length := by omega
        have e : dbl ⟨l, h, n⟩ (j : Int) = (⟨l ++ [l[j]], h, n⟩, 0) := by unfold dbl; rw [dif_pos hi, if_neg h60]; rfl
        rw [e]
        exact liftX (M := cH c ⟨l ++ [l[j]], h, n⟩) (cap := capA ⟨l ++ [l[j]], h, n⟩) (R := hB h q) (dbl_s c x k l l.length j hd (hV h q) (iv .u64 n) rfl hj hk (by omega)) (List.Perm.swap _ _ _) (fun y k => (some (y, k), q))
          (fun y k => by simp only [cH, fV, fB, List.length_append, List.length_cons, List.length_nil]; exact List.Perm.swap _ _ _)
          (fun y k hk => ⟨fun h => by simp at h, fun q' hq' => by cases hq'; simp only [List.length_append, List.length_cons, List.length_nil]; exact hk, hh1⟩)
  · have e : dbl ⟨l, h, n⟩ i = (⟨l, h, n⟩, 7) := by unfold dbl; rw [dif_neg hi]
    rw [e]
    cases fo with
    | none => exact liftE (M := cH c ⟨l, h, n⟩) (cap := capA ⟨l, h, n⟩) (R := fB l none ++ hB h q) (dbl_n c (hV h q) (iv .u64 n) i) (List.Perm.refl _) (none, q) (List.Perm.refl _) ⟨hf0, hf1, hh1⟩
    | some x => exact liftE (M := cH c ⟨l, h, n⟩) (cap := capA ⟨l, h, n⟩) (R := fB l (some x) ++ hB h q) (dbl_b c x.1 l.length x.2 (hV h q) (iv .u64 n) i (by unfold atI; rw [if_neg hi])) (List.Perm.refl _) (some x, q) (List.Perm.refl _) ⟨hf0, hf1, hh1⟩
theorem pr_m {α : Type} (a b c : α) : List.Perm [a, b, c] (c :: ([a] ++ [b])) := by
  show List.Perm ([a, b] ++ [c]) ([c] ++ [a, b])
  exact List.perm_append_comm
theorem del_c (c : Nat) (a : CA) (ha : AOk a) (g : CS c a) (i : Int) : ACt Try.prog 20 [pt c 0, iv .i64 i] (cH c a g.1) (fun r F' => ∃ g' : CS c (dlv a i).1, r = .tup [kV (dlv a i).2.1, iv .i64 (dlv a i).2.2] ∧ F' = cH c (dlv a i).1 g'.1) := by
  obtain ⟨⟨fo, q⟩, hnd, hf0, hf1, hh1⟩ := g
  obtain ⟨l, h, n⟩ := a
  have hal := ha.l
  have ham := ha.m
  have hah := ha.h
  simp only at hf0 hf1 hh1 hal ham hah
  by_cases hi : 0 ≤ i ∧ i < (l.length : Int)
  · cases fo with
    | none => have := hf0 rfl; rw [this] at hi; simp at hi; omega
    | some x =>
      obtain ⟨x, k⟩ := x
      have hk := hf1 _ rfl
      have hd := nd_c hnd
      obtain ⟨j, rfl⟩ := Int.eq_ofNat_of_zero_le hi.1
      have hj : j < l.length := by omega
      have hmr := ham _ (List.getElem_mem hj)
      have hks : l[j].m.ks ≠ [] := fun e => by have := hmr.1; rw [e] at this; simp at this
      have e1 : l.length - 1 = (l.eraseIdx j).length := by rw [List.length_eraseIdx_of_lt hj]
      by_cases hra : l[j].a = true
      · have e : dlv ⟨l, h, n⟩ (j : Int) = (⟨l.eraseIdx j, h, n⟩, (l[j].m.ks, 0)) := by unfold dlv; rw [dif_pos hi]; exact if_pos hra
        rw [e]
        have hel : l[j] = ⟨true, l[j].m⟩ := by rw [← hra]
        have cL := del_r c x k l l.length j hd (hV h q) (iv .u64 n) rfl hj hk (by omega) l[j].m hel ⟨hmr.1, by have := hmr.2.1; omega⟩
        rw [e1, ← kV_ne hks] at cL
        exact liftE (M := cH c ⟨l.eraseIdx j, h, n⟩) (cap := capA ⟨l.eraseIdx j, h, n⟩) (R := hB h q) cL (List.Perm.refl _) (some (x, k), q) (List.Perm.refl _)
          ⟨fun h => by simp at h, fun q' hq' => by cases hq'; simp only; rw [← e1]; exact ⟨by omega, hk.2⟩, hh1⟩
      · have e : dlv ⟨l, h, n⟩ (j : Int) = (⟨l.eraseIdx j ++ [(⟨true, l[j].m⟩ : Pk)], hrL h l[j].m.ks, n⟩, ([], 0)) := by unfold dlv; rw [dif_pos hi]; exact if_neg hra
        rw [e]
        have hra' : l[j].a = false := by simpa using hra
        have hel : l[j] = ⟨false, l[j].m⟩ := by rw [← hra']
        have hRne := hrL_ne l[j].m.ks h (.inr hks)
        have e2 : l.length - 1 + 1 = (l.eraseIdx j ++ [(⟨true, l[j].m⟩ : Pk)]).length := by rw [List.length_append, ← e1]; rfl
        by_cases hh : h = []
        · subst hh
          have cL := del_l0 c x k l l.length j hd (iv .u64 n) rfl hj hk (by omega) l[j].m hel ⟨hmr.1, by have := hmr.2.1; omega⟩
          rw [e2] at cL
          exact liftX4 (M := cH c ⟨l.eraseIdx j ++ [(⟨true, l[j].m⟩ : Pk)], hrL [] l[j].m.ks, n⟩) (cap := capA ⟨l.eraseIdx j ++ [(⟨true, l[j].m⟩ : Pk)], hrL [] l[j].m.ks, n⟩) (R := []) cL (List.Perm.refl _) (fun y k1 z k2 => (some (y, k1), (z, k2)))
            (fun y k1 z k2 => by simp only [cH, fV, fB, hV_ne _ hRne, hB_ne _ hRne]; exact pr_m _ _ _)
            (fun y k1 z k2 hk => ⟨fun h => by simp at h, fun q' hq' => by cases hq'; exact hk.1, fun _ => hk.2⟩)
        · have hnd2 := hnd
          simp only [cH, fB] at hnd2
          rw [hB_ne _ hh] at hnd2
          have hdh := nd_h hnd2
          have cL := del_l1 c x k q.1 q.2 h l l.length j hd hdh hh (hh1 hh) hah (iv .u64 n) rfl hj hk (by omega) l[j].m hel ⟨hmr.1, by have := hmr.2.1; omega⟩
          rw [e2] at cL
          exact liftX4 (M := cH c ⟨l.eraseIdx j ++ [(⟨true, l[j].m⟩ : Pk)], hrL h l[j].m.ks, n⟩) (cap := capA ⟨l.eraseIdx j ++ [(⟨true, l[j].m⟩ : Pk)], hrL h l[j].m.ks, n⟩) (R := []) cL (by simp only [cH, fV, fB, hV_ne _ hh, hB_ne _ hh]; exact List.Perm.refl _) (fun y k1 z k2 => (some (y, k1), (z, k2)))
            (fun y k1 z k2 => by simp only [cH, fV, fB, hV_ne _ hRne, hB_ne _ hRne]; exact pr_m _ _ _)
            (fun y k1 z k2 hk => ⟨fun h => by simp at h, fun q' hq' => by cases hq'; exact hk.1, fun _ => hk.2⟩)
  · have e : dlv ⟨l, h, n⟩ i = (⟨l, h, n⟩, ([], 7)) := by unfold dlv; rw [dif_neg hi]
    rw [e]
    cases fo with
    | none => exact liftE (M := cH c ⟨l, h, n⟩) (cap := capA ⟨l, h, n⟩) (R := fB l none ++ hB h q) (del_n c (hV h q) (iv .u64 n) i) (List.Perm.refl _) (none, q) (List.Perm.refl _) ⟨hf0, hf1, hh1⟩
    | some x => exact liftE (M := cH c ⟨l, h, n⟩) (cap := capA ⟨l, h, n⟩) (R := fB l (some x) ++ hB h q) (del_b c x.1 l.length x.2 (hV h q) (iv .u64 n) i (by unfold atI; rw [if_neg hi])) (List.Perm.refl _) (some x, q) (List.Perm.refl _) ⟨hf0, hf1, hh1⟩
/-! The looks -/
theorem pr_n {α : Type} (a b : α) (l : List α) : List.Perm (a :: (l ++ [b])) ([b, a] ++ l) := by
  have h1 : List.Perm (a :: (l ++ [b])) (a :: ([b] ++ l)) := List.Perm.cons _ List.perm_append_comm
  exact h1.trans (List.Perm.swap _ _ _)
theorem lost_c (c : Nat) (a : CA) (i : CI) : ACt Try.prog 15 [pt c 0] (cH c a i) (fun r F' => r = iv .u64 a.n ∧ F' = cH c a i) := liftS (R := fB a.l i.1 ++ hB a.h i.2) (lost_ct c _ _ a.n) (List.Perm.refl _)
theorem flying_c (c : Nat) (a : CA) (ha : AOk a) (g : CS c a) : ACt Try.prog 17 [pt c 0] (cH c a g.1) (fun r F' => r = flR a.l ∧ F' = cH c a g.1) := by
  obtain ⟨⟨fo, q⟩, hnd, hf0, hf1, hh1⟩ := g
  obtain ⟨l, h, n⟩ := a
  have hal := ha.l
  have ham := ha.m
  simp only at hf0 hf1 hh1 hal ham
  cases fo with
  | none =>
    have hl := hf0 rfl
    subst hl
    exact liftS (R := hB h q) (flying_n c (hV h q) (iv .u64 n)) (List.Perm.refl _)
  | some x =>
    obtain ⟨x, k⟩ := x
    exact liftS (R := hB h q) (flying_s c x k l l.length (nd_c hnd) (hV h q) (iv .u64 n) rfl (hf1 _ rfl) (by omega) fun p hp => ⟨(ham p hp).1, by have := (ham p hp).2.1; omega⟩) (List.Perm.swap _ _ _)
theorem heard_c (c : Nat) (a : CA) (ha : AOk a) (g : CS c a) : ACt Try.prog 18 [pt c 0] (cH c a g.1) (fun r F' => r = kV a.h ∧ F' = cH c a g.1) := by
  obtain ⟨⟨fo, q⟩, hnd, hf0, hf1, hh1⟩ := g
  obtain ⟨l, h, n⟩ := a
  have hah := ha.h
  simp only at hf0 hf1 hh1 hah
  by_cases hh : h = []
  · subst hh
    exact liftS (R := fB l fo ++ []) (heard_n c (fV l.length fo) (iv .u64 n)) (List.Perm.refl _)
  · have hl1 : 1 ≤ h.length := by have := List.length_pos_iff.2 hh; omega
    have hd : c ≠ q.1 ∧ q.1 ≠ c := by
      simp only [cH, hB_ne _ hh, List.map_cons, List.map_append, List.map_nil, List.nodup_cons, List.mem_append, List.mem_cons, List.not_mem_nil, or_false, not_or] at hnd
      exact ⟨hnd.1.2, fun e => hnd.1.2 e.symm⟩
    rw [kV_ne hh]
    have cX := heard_s c q.1 q.2 h h.length hd (fV l.length fo) (iv .u64 n) rfl hl1 (hh1 hh) (by omega)
    refine liftS (R := fB l fo) cX ?_
    simp only [cH, hV_ne _ hh, hB_ne _ hh]
    exact pr_n _ _ _
theorem rpost_c (c : Nat) (a : CA) (ha : AOk a) (g : RS c a) (m : Mg) (hz : ∀ k ∈ m.ks, Kz k) : ACt Try.prog 10 [pt c 0, mv m] (rH c a g.1) (fun r F' => ∃ g' : RS c (pst a m).1, r = iv .i64 (pst a m).2 ∧ F' = rH c (pst a m).1 g'.1) := by
  obtain ⟨⟨fo, q⟩, hnd, hf0, hf1, hh1⟩ := g
  obtain ⟨l, h, n⟩ := a
  have hal := ha.l
  simp only at hf0 hf1 hh1 hal
  by_cases hm : mrB m = false
  · have e : pst ⟨l, h, n⟩ m = (⟨l, h, n⟩, 6) := by unfold pst; rw [if_pos hm]
    rw [e]
    exact liftE (M := rH c ⟨l, h, n⟩) (cap := capA ⟨l, h, n⟩) (R := gB l fo ++ hB h q) (rpost_form c _ _ _ m hz hm) (List.Perm.refl _) (fo, q) (List.Perm.refl _) ⟨hf0, hf1, hh1⟩
  have hmt : mrB m = true := by simpa using hm
  by_cases h60 : 60 ≤ l.length
  · have e : pst ⟨l, h, n⟩ m = (⟨l, h, IntKind.u64.wrap (n + 1)⟩, 11) := by unfold pst; rw [if_neg hm, if_pos h60]
    rw [e]
    cases fo with
    | none => have := hf0 rfl; rw [this] at h60; simp at h60
    | some x =>
      exact liftE (M := rH c ⟨l, h, IntKind.u64.wrap (n + 1)⟩) (cap := capA ⟨l, h, IntKind.u64.wrap (n + 1)⟩) (R := gB l (some x) ++ hB h q) (rpost_full c x.1 l.length x.2 (hV h q) n m hz hmt h60) (List.Perm.refl _) (some x, q) (List.Perm.refl _) ⟨hf0, hf1, hh1⟩
  · have e : pst ⟨l, h, n⟩ m = (⟨l ++ [(⟨false, m⟩ : Pk)], h, n⟩, 0) := by unfold pst; rw [if_neg hm, if_neg h60]
    rw [e]
    cases fo with
    | none =>
      have hl := hf0 rfl
      subst hl
      exact liftX (M := rH c ⟨[] ++ [(⟨false, m⟩ : Pk)], h, n⟩) (cap := capA ⟨[] ++ [(⟨false, m⟩ : Pk)], h, n⟩) (R := hB h q) (rpost_n c (hV h q) (iv .u64 n) m hz hmt) (List.Perm.refl _) (fun y k => (some (y, k), q)) (fun y k => List.Perm.swap _ _ _)
        (fun y k hk => ⟨fun h => by simp at h, fun q' hq' => by cases hq'; exact hk, hh1⟩)
    | some x =>
      obtain ⟨x, k⟩ := x
      have hk := hf1 _ rfl
      have hd := nd_c hnd
      exact liftX (M := rH c ⟨l ++ [(⟨false, m⟩ : Pk)], h, n⟩) (cap := capA ⟨l ++ [(⟨false, m⟩ : Pk)], h, n⟩) (R := hB h q) (rpost_s c x k l l.length hd (hV h q) (iv .u64 n) m hz hmt rfl hk (by omega)) (List.Perm.swap _ _ _) (fun y k => (some (y, k), q))
        (fun y k => by simp only [rH, fV, gB, List.length_append, List.length_cons, List.length_nil]; exact List.Perm.swap _ _ _)
        (fun y k hk => ⟨fun h => by simp at h, fun q' hq' => by cases hq'; simp only [List.length_append, List.length_cons, List.length_nil]; exact hk, hh1⟩)
theorem rlose_c (c : Nat) (a : CA) (ha : AOk a) (g : RS c a) (i : Int) : ACt Try.prog 12 [pt c 0, iv .i64 i] (rH c a g.1) (fun r F' => ∃ g' : RS c (lse a i).1, r = iv .i64 (lse a i).2 ∧ F' = rH c (lse a i).1 g'.1) := by
  obtain ⟨⟨fo, q⟩, hnd, hf0, hf1, hh1⟩ := g
  obtain ⟨l, h, n⟩ := a
  have hal := ha.l
  simp only at hf0 hf1 hh1 hal
  by_cases hi : 0 ≤ i ∧ i < (l.length : Int)
  · cases fo with
    | none => have := hf0 rfl; rw [this] at hi; simp at hi; omega
    | some x =>
      obtain ⟨x, k⟩ := x
      have hk := hf1 _ rfl
      have hd := nd_c hnd
      obtain ⟨j, rfl⟩ := Int.eq_ofNat_of_zero_le hi.1
      have hj : j < l.length := by omega
      have e : lse ⟨l, h, n⟩ (j : Int) = (⟨l.eraseIdx j, h, IntKind.u64.wrap (n + 1)⟩, 0) := by unfold lse; rw [if_pos hi]; rfl
      rw [e]
      have e1 : l.length - 1 = (l.eraseIdx j).length := by rw [List.length_eraseIdx_of_lt hj]
      have cL := rlose_s c x k l l.length j hd (hV h q) n rfl hj hk (by omega)
      rw [e1] at cL
      exact liftX (M := rH c ⟨l.eraseIdx j, h, IntKind.u64.wrap (n + 1)⟩) (cap := capA ⟨l.eraseIdx j, h, IntKind.u64.wrap (n + 1)⟩) (R := hB h q) cL (List.Perm.refl _) (fun y k => (some (y, k), q)) (fun y k => List.Perm.swap _ _ _)
        (fun y k hk => ⟨fun h => by simp at h, fun q' hq' => by cases hq'; exact hk, hh1⟩)
  · have e : lse ⟨l, h, n⟩ i = (⟨l, h, n⟩, 7) := by unfold lse; rw [if_neg hi]
    rw [e]
    cases fo with
    | none => exact liftE (M := rH c ⟨l, h, n⟩) (cap := capA ⟨l, h, n⟩) (R := gB l none ++ hB h q) (rlose_n c (hV h q) (iv .u64 n) i) (List.Perm.refl _) (none, q) (List.Perm.refl _) ⟨hf0, hf1, hh1⟩
    | some x => exact liftE (M := rH c ⟨l, h, n⟩) (cap := capA ⟨l, h, n⟩) (R := gB l (some x) ++ hB h q) (rlose_b c x.1 l.length x.2 (hV h q) (iv .u64 n) i (by unfold atI; rw [if_neg hi])) (List.Perm.refl _) (some x, q) (List.Perm.refl _) ⟨hf0, hf1, hh1⟩
theorem rdbl_c (c : Nat) (a : CA) (ha : AOk a) (g : RS c a) (i : Int) : ACt Try.prog 13 [pt c 0, iv .i64 i] (rH c a g.1) (fun r F' => ∃ g' : RS c (dbl a i).1, r = iv .i64 (dbl a i).2 ∧ F' = rH c (dbl a i).1 g'.1) := by
  obtain ⟨⟨fo, q⟩, hnd, hf0, hf1, hh1⟩ := g
  obtain ⟨l, h, n⟩ := a
  have hal := ha.l
  simp only at hf0 hf1 hh1 hal
  by_cases hi : 0 ≤ i ∧ i < (l.length : Int)
  · cases fo with
    | none => have := hf0 rfl; rw [this] at hi; simp at hi; omega
    | some x =>
      obtain ⟨x, k⟩ := x
      have hk := hf1 _ rfl
      have hd := nd_c hnd
      by_cases h60 : 60 ≤ l.length
      · have e : dbl ⟨l, h, n⟩ i = (⟨l, h, n⟩, 11) := by unfold dbl; rw [dif_pos hi, if_pos h60]
        rw [e]
        exact liftE (M := rH c ⟨l, h, n⟩) (cap := capA ⟨l, h, n⟩) (R := gB l (some (x, k)) ++ hB h q) (rdbl_f c x l.length k (hV h q) (iv .u64 n) i (by unfold atI; rw [if_pos hi]) h60) (List.Perm.refl _) (some (x, k), q) (List.Perm.refl _) ⟨hf0, hf1, hh1⟩
      · obtain ⟨j, rfl⟩ := Int.eq_ofNat_of_zero_le hi.1
        have hj : j < l.length := by omega
        have e : dbl ⟨l, h, n⟩ (j : Int) = (⟨l ++ [l[j]], h, n⟩, 0) := by unfold dbl; rw [dif_pos hi, if_neg h60]; rfl
        rw [e]
        exact liftX (M := rH c ⟨l ++ [l[j]], h, n⟩) (cap := capA ⟨l ++ [l[j]], h, n⟩) (R := hB h q) (rdbl_s c x k l l.length j hd (hV h q) (iv .u64 n) rfl hj hk (by omega)) (List.Perm.swap _ _ _) (fun y k => (some (y, k), q))
          (fun y k => by simp only [rH, fV, gB, List.length_append, List.length_cons, List.length_nil]; exact List.Perm.swap _ _ _)
          (fun y k hk => ⟨fun h => by simp at h, fun q' hq' => by cases hq'; simp only [List.length_append, List.length_cons, List.length_nil]; exact hk, hh1⟩)
  · have e : dbl ⟨l, h, n⟩ i = (⟨l, h, n⟩, 7) := by unfold dbl; rw [dif_neg hi]
    rw [e]
    cases fo with
    | none => exact liftE (M := rH c ⟨l, h, n⟩) (cap := capA ⟨l, h, n⟩) (R := gB l none ++ hB h q) (rdbl_n c (hV h q) (iv .u64 n) i) (List.Perm.refl _) (none, q) (List.Perm.refl _) ⟨hf0, hf1, hh1⟩
    | some x => exact liftE (M := rH c ⟨l, h, n⟩) (cap := capA ⟨l, h, n⟩) (R := gB l (some x) ++ hB h q) (rdbl_b c x.1 l.length x.2 (hV h q) (iv .u64 n) i (by unfold atI; rw [if_neg hi])) (List.Perm.refl _) (some x, q) (List.Perm.refl _) ⟨hf0, hf1, hh1⟩
theorem rdel_c (c : Nat) (a : CA) (ha : AOk a) (g : RS c a) (i : Int) : ACt Try.prog 11 [pt c 0, iv .i64 i] (rH c a g.1) (fun r F' => ∃ g' : RS c (dlv a i).1, r = .tup [kV (dlv a i).2.1, iv .i64 (dlv a i).2.2] ∧ F' = rH c (dlv a i).1 g'.1) := by
  obtain ⟨⟨fo, q⟩, hnd, hf0, hf1, hh1⟩ := g
  obtain ⟨l, h, n⟩ := a
  have hal := ha.l
  have ham := ha.m
  have hah := ha.h
  simp only at hf0 hf1 hh1 hal ham hah
  by_cases hi : 0 ≤ i ∧ i < (l.length : Int)
  · cases fo with
    | none => have := hf0 rfl; rw [this] at hi; simp at hi; omega
    | some x =>
      obtain ⟨x, k⟩ := x
      have hk := hf1 _ rfl
      have hd := nd_c hnd
      obtain ⟨j, rfl⟩ := Int.eq_ofNat_of_zero_le hi.1
      have hj : j < l.length := by omega
      have hmr := ham _ (List.getElem_mem hj)
      have hks : l[j].m.ks ≠ [] := fun e => by have := hmr.1; rw [e] at this; simp at this
      have e1 : l.length - 1 = (l.eraseIdx j).length := by rw [List.length_eraseIdx_of_lt hj]
      by_cases hra : l[j].a = true
      · have e : dlv ⟨l, h, n⟩ (j : Int) = (⟨l.eraseIdx j, h, n⟩, (l[j].m.ks, 0)) := by unfold dlv; rw [dif_pos hi]; exact if_pos hra
        rw [e]
        have hel : l[j] = ⟨true, l[j].m⟩ := by rw [← hra]
        have cL := rdel_r c x k l l.length j hd (hV h q) (iv .u64 n) rfl hj hk (by omega) l[j].m hel
        rw [e1, ← kV_ne hks] at cL
        exact liftX (M := rH c ⟨l.eraseIdx j, h, n⟩) (cap := capA ⟨l.eraseIdx j, h, n⟩) (R := hB h q) cL (List.Perm.refl _) (fun y k => (some (y, k), q)) (fun y k => List.Perm.swap _ _ _)
          (fun y k hk => ⟨fun h => by simp at h, fun q' hq' => by cases hq'; exact hk, hh1⟩)
      · have e : dlv ⟨l, h, n⟩ (j : Int) = (⟨l.eraseIdx j ++ [(⟨true, l[j].m⟩ : Pk)], hrL h l[j].m.ks, n⟩, ([], 0)) := by unfold dlv; rw [dif_pos hi]; exact if_neg hra
        rw [e]
        have hra' : l[j].a = false := by simpa using hra
        have hel : l[j] = ⟨false, l[j].m⟩ := by rw [← hra']
        have hRne := hrL_ne l[j].m.ks h (.inr hks)
        have e2 : l.length - 1 + 1 = (l.eraseIdx j ++ [(⟨true, l[j].m⟩ : Pk)]).length := by rw [List.length_append, ← e1]; rfl
        by_cases hh : h = []
        · have cL := rdel_l0 c x k l h (x + 1, 0) l.length j hd (iv .u64 n) rfl hj hk (by omega) l[j].m hel ⟨hmr.1, by have := hmr.2.1; omega⟩ hh (fun hx => absurd hh hx) (by simp only; omega) hah
          rw [e2] at cL
          refine liftX4 (M := rH c ⟨l.eraseIdx j ++ [(⟨true, l[j].m⟩ : Pk)], hrL h l[j].m.ks, n⟩) (cap := capA ⟨l.eraseIdx j ++ [(⟨true, l[j].m⟩ : Pk)], hrL h l[j].m.ks, n⟩) (R := []) cL ?_ (fun y k1 z k2 => (some (y, k1), (z, k2)))
            (fun y k1 z k2 => by simp only [rH, fV, gB, hV_ne _ hRne, hB_ne _ hRne]; exact pr_m _ _ _)
            (fun y k1 z k2 hk => ⟨fun h => by simp at h, fun q' hq' => by cases hq'; exact hk.1, fun _ => hk.2⟩)
          subst hh
          exact List.Perm.refl _
        · have hnd2 := hnd
          simp only [rH, gB] at hnd2
          rw [hB_ne _ hh] at hnd2
          have hdh := nd_h hnd2
          have cL := rdel_l1 c x k l h q l.length j hd (iv .u64 n) rfl hj hk (by omega) l[j].m hel ⟨hmr.1, by have := hmr.2.1; omega⟩ hh (fun hx => ⟨hdh.1, hh1 hx⟩) hdh.2 hah
          rw [e2] at cL
          exact liftX4 (M := rH c ⟨l.eraseIdx j ++ [(⟨true, l[j].m⟩ : Pk)], hrL h l[j].m.ks, n⟩) (cap := capA ⟨l.eraseIdx j ++ [(⟨true, l[j].m⟩ : Pk)], hrL h l[j].m.ks, n⟩) (R := []) cL (by simp only [rH, fV, gB, hV_ne _ hh, hB_ne _ hh]; exact List.Perm.refl _) (fun y k1 z k2 => (some (y, k1), (z, k2)))
            (fun y k1 z k2 => by simp only [rH, fV, gB, hV_ne _ hRne, hB_ne _ hRne]; exact pr_m _ _ _)
            (fun y k1 z k2 hk => ⟨fun h => by simp at h, fun q' hq' => by cases hq'; exact hk.1, fun _ => hk.2⟩)
  · have e : dlv ⟨l, h, n⟩ i = (⟨l, h, n⟩, ([], 7)) := by unfold dlv; rw [dif_neg hi]
    rw [e]
    cases fo with
    | none => exact liftE (M := rH c ⟨l, h, n⟩) (cap := capA ⟨l, h, n⟩) (R := gB l none ++ hB h q) (rdel_n c (hV h q) (iv .u64 n) i) (List.Perm.refl _) (none, q) (List.Perm.refl _) ⟨hf0, hf1, hh1⟩
    | some x => exact liftE (M := rH c ⟨l, h, n⟩) (cap := capA ⟨l, h, n⟩) (R := gB l (some x) ++ hB h q) (rdel_b c x.1 l.length x.2 (hV h q) (iv .u64 n) i (by unfold atI; rw [if_neg hi])) (List.Perm.refl _) (some x, q) (List.Perm.refl _) ⟨hf0, hf1, hh1⟩
/-! A call's step, and what stays -/
noncomputable def stA (a : CA) (x : Ac) : CA × (List Ky × Int) :=
  if x.kd = 1 then ((pst a x.m).1, ([], (pst a x.m).2)) else if x.kd = 2 then dlv a x.i else if x.kd = 3 then ((lse a x.i).1, ([], (lse a x.i).2)) else if x.kd = 4 then ((dbl a x.i).1, ([], (dbl a x.i).2)) else (a, ([], 0))
structure BOk (t : Nat) (a : CA) : Prop where
  l : a.l.length ≤ 60
  m : ∀ p ∈ a.l, MR p.m
  h : a.h.length ≤ 8 * t
theorem BOk.to {t : Nat} {a : CA} (h : BOk t a) (ht : t ≤ 1000) : AOk a := ⟨h.l, h.m, by have := h.h; omega⟩
theorem BOk.step {t : Nat} {a : CA} (h : BOk t a) (x : Ac) : BOk (t + 1) (stA a x).1 := by
  obtain ⟨h1, h2, h3⟩ := h
  have mer : ∀ (i : Nat) (p : Pk), p ∈ a.l.eraseIdx i → MR p.m := fun i p hp => h2 p (List.mem_of_mem_eraseIdx hp)
  have ler : ∀ i : Nat, (a.l.eraseIdx i).length ≤ a.l.length := fun i => by
    rw [List.length_eraseIdx]; split <;> omega
  have hsame : BOk (t + 1) a := ⟨h1, h2, by omega⟩
  unfold stA
  split
  · simp only
    unfold pst
    split
    · exact hsame
    · split
      · exact ⟨h1, h2, by simp only; omega⟩
      · rename_i hm h60
        refine ⟨by simp only [List.length_append, List.length_cons, List.length_nil]; omega, fun p hp => ?_, by simp only; omega⟩
        rcases List.mem_append.1 hp with hp | hp
        · exact h2 p hp
        · rw [List.mem_singleton.1 hp]; exact mrB_out (by simpa using hm)
  · split
    · unfold dlv
      split
      · rename_i hi
        split
        · exact ⟨Nat.le_trans (ler _) h1, mer _, by simp only; omega⟩
        · have hmr := h2 _ (List.getElem_mem (show x.i.toNat < a.l.length by omega))
          have hle := hrL_len (a.l[x.i.toNat]'(by omega)).m.ks a.h
          refine ⟨?_, fun p hp => ?_, by simp only; have := hmr.2.1; omega⟩
          · simp only [List.length_append, List.length_cons, List.length_nil]
            rw [List.length_eraseIdx_of_lt (by omega)]; omega
          · rcases List.mem_append.1 hp with hp | hp
            · exact mer _ p hp
            · rw [List.mem_singleton.1 hp]; exact hmr
      · exact hsame
    · split
      · simp only
        unfold lse
        split
        · exact ⟨Nat.le_trans (ler _) h1, mer _, by simp only; omega⟩
        · exact hsame
      · split
        · simp only
          unfold dbl
          split
          · rename_i hi
            split
            · exact hsame
            · refine ⟨by simp only [List.length_append, List.length_cons, List.length_nil]; omega, fun p hp => ?_, by simp only; omega⟩
              rcases List.mem_append.1 hp with hp | hp
              · exact h2 p hp
              · rw [List.mem_singleton.1 hp]; exact h2 _ (List.getElem_mem _)
          · exact hsame
        · exact hsame
end Go.Proofs.Ytbkojpkdphggeaa
