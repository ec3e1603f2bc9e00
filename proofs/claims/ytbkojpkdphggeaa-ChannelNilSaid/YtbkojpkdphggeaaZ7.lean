/-
  The walks and the laws that the statement leans on, part 7.
-/
import Derived.Test.YtbkojpkdphggeaaZ6
namespace Go.Proofs.Ytbkojpkdphggeaa
open Go
set_option linter.unusedVariables false
set_option linter.unusedSimpArgs false
theorem TFCnD : (((((((type_of% tyc0) ∧ (type_of% tyc3)) ∧ ((type_of% zmb3) ∧ (type_of% tyc4))) ∧ (((type_of% zmb4) ∧ (type_of% tyc20)) ∧ ((type_of% zmb20) ∧ (type_of% tyc25)))) ∧ ((((type_of% mth25_31) ∧ (type_of% mth25_35)) ∧ ((type_of% mth25_33) ∧ (type_of% mth25_32))) ∧ (((type_of% con25) ∧ (type_of% zmb25)) ∧ ((type_of% tyc29) ∧ (type_of% elt29))))) ∧ (((((type_of% mkz29) ∧ (type_of% mkc29)) ∧ ((type_of% apT29) ∧ (type_of% elk29))) ∧ (((type_of% zmb29) ∧ (type_of% tyc30)) ∧ ((type_of% zmb30) ∧ (type_of% tyc33)))) ∧ ((((type_of% zmb33) ∧ (type_of% tyc50)) ∧ ((type_of% foff50_0) ∧ (type_of% fpart50_0))) ∧ (((type_of% foff50_1) ∧ (type_of% fpart50_1)) ∧ ((type_of% foff50_2) ∧ ((type_of% fpart50_2) ∧ (type_of% foff50_3))))))) ∧ ((((((type_of% fpart50_3) ∧ (type_of% foff50_4)) ∧ ((type_of% fpart50_4) ∧ (type_of% fe50))) ∧ (((type_of% zmb50) ∧ (type_of% bldT50)) ∧ ((type_of% tyc55) ∧ (type_of% elt55)))) ∧ ((((type_of% mkz55) ∧ (type_of% mkc55)) ∧ ((type_of% apT55) ∧ (type_of% elk55))) ∧ (((type_of% zmb55) ∧ (type_of% tyc57)) ∧ ((type_of% foff57_0) ∧ (type_of% fpart57_0))))) ∧ (((((type_of% foff57_1) ∧ (type_of% fpart57_1)) ∧ ((type_of% foff57_2) ∧ (type_of% fpart57_2))) ∧ (((type_of% zmb57) ∧ (type_of% bldT57)) ∧ ((type_of% Try.underlying0) ∧ (type_of% Try.underlying3)))) ∧ ((((type_of% Try.underlying4) ∧ (type_of% Try.underlying20)) ∧ ((type_of% Try.underlying25) ∧ (type_of% Try.underlying29))) ∧ (((type_of% Try.underlying30) ∧ (type_of% Try.underlying33)) ∧ ((type_of% Try.underlying50) ∧ ((type_of% Try.underlying55) ∧ (type_of% Try.underlying57)))))))) :=
  ⟨⟨⟨⟨⟨⟨tyc0, tyc3⟩, ⟨zmb3, tyc4⟩⟩, ⟨⟨zmb4, tyc20⟩, ⟨zmb20, tyc25⟩⟩⟩, ⟨⟨⟨mth25_31, mth25_35⟩, ⟨mth25_33, mth25_32⟩⟩, ⟨⟨con25, zmb25⟩, ⟨tyc29, elt29⟩⟩⟩⟩, ⟨⟨⟨⟨mkz29, mkc29⟩, ⟨apT29, elk29⟩⟩, ⟨⟨zmb29, tyc30⟩, ⟨zmb30, tyc33⟩⟩⟩, ⟨⟨⟨zmb33, tyc50⟩, ⟨foff50_0, fpart50_0⟩⟩, ⟨⟨foff50_1, fpart50_1⟩, ⟨foff50_2, ⟨fpart50_2, foff50_3⟩⟩⟩⟩⟩⟩, ⟨⟨⟨⟨⟨fpart50_3, foff50_4⟩, ⟨fpart50_4, fe50⟩⟩, ⟨⟨zmb50, bldT50⟩, ⟨tyc55, elt55⟩⟩⟩, ⟨⟨⟨mkz55, mkc55⟩, ⟨apT55, elk55⟩⟩, ⟨⟨zmb55, tyc57⟩, ⟨foff57_0, fpart57_0⟩⟩⟩⟩, ⟨⟨⟨⟨foff57_1, fpart57_1⟩, ⟨foff57_2, fpart57_2⟩⟩, ⟨⟨zmb57, bldT57⟩, ⟨Try.underlying0, Try.underlying3⟩⟩⟩, ⟨⟨⟨Try.underlying4, Try.underlying20⟩, ⟨Try.underlying25, Try.underlying29⟩⟩, ⟨⟨Try.underlying30, Try.underlying33⟩, ⟨Try.underlying50, ⟨Try.underlying55, Try.underlying57⟩⟩⟩⟩⟩⟩⟩
theorem Wk.cutc {env : List (Nat × AV)} {H : Hp} (b m : Nat) {cs : List AV} {s0 : Nat} {ty : TypeId} (hg : hget H b = some (.cells cs s0 ty)) : Wk ⟨env, H⟩ ⟨env, hset H b (.cells (cs.take m) s0 ty)⟩ := by
  intro cx n a w ok
  obtain ⟨h1, h2⟩ := ok.world.conv (m' := .cells (cs.take m) s0 ty) (hget_mem hg) (fun I hm => by
    obtain ⟨cur, c1, c2, c3, c4⟩ := hm
    refine ⟨cur, c1, c2, by simp; omega, fun i hi => ?_⟩
    have hi' : i < m ∧ i < cs.length := by rw [List.length_take] at hi; omega
    rw [List.getElem_take]
    exact c4 i hi'.2)
  exact ⟨ok.defers, ok.size, fun i => (ok.reps i).mono fun c hc => ⟨(h2 c).1 hc, rfl⟩, h1⟩
abbrev nif : AV := .lit .nilIface
theorem dl_ct (x n k i : Nat) (cs : List AV) (hn : cs.length = n) (hi : i < n) (hk : n ≤ k ∧ k ≤ 9223372036854775807) (hkl : n ≤ 100000) (ho : cs.all oneC = true) :
    ACt Try.prog 38 [ms x 0 n k, iv .i64 (i : Int), iv .i64 ((i + 1 : Nat) : Int)] [(x, .cells cs k 20)] (fun r F' => r = ms x 0 (n - 1) k ∧ F' = [(x, .cells (cs.take i ++ cs.drop (i + 1)) k 20)]) := by
  obtain ⟨M, hM⟩ : ∃ M, M = n - (i + 1) := ⟨_, rfl⟩
  have hM' : n - (i + 1) = M := hM.symm
  obtain ⟨T, hT⟩ : ∃ T, T = cs.drop (i + 1) := ⟨_, rfl⟩
  have hTl : T.length = M := by rw [hT, List.length_drop]; omega
  have hTt : T.take M = T := List.take_of_length_le (by omega)
  have ho1 : T.all oneC = true := by
    rw [hT, List.all_eq_true]
    intro y hy
    exact List.all_eq_true.1 ho y (List.mem_of_mem_drop hy)
  obtain ⟨A, hA⟩ : ∃ A, A = cs.take i ++ T ++ cs.drop (i + M) := ⟨_, rfl⟩
  have f1 : cs.take i ++ T ++ cs.drop (i + M) = A := hA.symm
  have f1' : cs.take i ++ (T ++ cs.drop (i + M)) = A := by rw [← List.append_assoc]; exact f1
  have f2 : A.length = n := by rw [hA]; simp; omega
  obtain ⟨B, hB⟩ : ∃ B, B = A.take (i + M) ++ [nif] ++ A.drop (i + M + 1) := ⟨_, rfl⟩
  have f3 : A.take (i + M) ++ [nif] ++ A.drop (i + M + 1) = B := hB.symm
  have f3' : A.take (i + M) ++ nif :: A.drop (i + M + 1) = B := by rw [← f3]; simp
  obtain ⟨Z, hZ⟩ : ∃ Z, Z = cs.take i ++ T := ⟨_, rfl⟩
  have hZl : Z.length = i + M := by rw [hZ]; simp; omega
  have f4 : B.take (i + M) = Z := by
    have hAl : (A.take (i + M)).length = i + M := by rw [List.length_take]; omega
    rw [hB, List.append_assoc, List.take_append_of_le_length (by omega), List.take_of_length_le (by omega), hA, ← hZ, List.take_append_of_le_length (by omega), List.take_of_length_le (by omega)]
  rw [show cs.take i ++ cs.drop (i + 1) = Z by rw [hZ, hT]]
  have hTd : cs.drop (i + 1) = T := hT.symm
  have t1 : ∀ q : Nat, ((q : Nat) : Int).toNat = q := fun q => by omega
  have k0 : ((i : Int) == ((i + 1 : Nat) : Int)) = false := beq_eq_false_iff_ne.2 (by omega)
  have k1 : k ≠ 0 := by omega
  have k2 : k ≠ i + M := by omega
  have e1 : i + M = n - 1 := by omega
  have e2 : n - (i + M) = 1 := by omega
  have b1 : i + M ≤ k := by omega
  have b2 : i + M ≤ n := by omega
  have b3 : i + 1 + M ≤ n := by omega
  have b4 : i + M + 1 ≤ n := by omega
  clear hA hB hZ hT ho hM
  by_cases hk1 : k = i + 1
  · have hM0 : M = 0 := by omega
    have hT0 : T = [] := List.eq_nil_of_length_eq_zero (by omega)
    subst hM0 hT0 hk1
    have k3 : i + 1 ≠ i := by omega
    simp only [Nat.add_zero, List.append_nil] at *
    refine ACt.intro Try.func38 rfl (by kernel_rfl) (by simp [Try.ntmps38]) (fun cx => ?_)
    simp only [argE, Try.ntmps38, Try.results38]
    first | (have FRx := FR; clear FRx) | (have FR : Sm (¬ ((1 : Nat) = 0)) := Sm.mk Nat.one_ne_zero)
    repeat' first
      | (refine Sm.mk ?_; try simp -dsimp only [ZK, rvc, drawF, headN, pureH, stp, dvc, calleeOf, gcall, pev, eff, newB, okd, og, ogs, ogo, ogp, slv, bltv, opd, litv, strip, one, both, putE, St.put, look, gdOf, gdv, picka, pickv, pickw, binv, bini, bins, binb, binp, binq, isSlT, bina, shp, eqCells, unv, convv, nilv, faddv, addp, idxav, idxp, load1, load1m, loadn, loadnm, loadv, hget, hset, hrep, hdel, slicev, slice3v, bnd, shift1, lenv, capv, IntKind.bits, extractv, fieldv, indexv, min2v, max2v, mkiv, tasv, tasz, cellsA, fillA, buildv, stC, oneC, rowMB, intsA, plN, appE, appZ, appC, appS, srcB, appNZ, appNC, VwL, srcC, srcZ, srcM, isBoolT, isPtrT, isSliceT, uOk, Value.oneCell', Nat.reducePow, Int.reducePow, Nat.reduceAdd, Nat.reduceMul, Nat.reduceSub, Nat.reduceLT, Nat.reduceLeDiff, Nat.reduceEqDiff, Nat.reduceBEq, Nat.reduceDiv, Nat.reduceMod, ↓reduceIte, reduceCtorEq, Int.reduceToNat, Int.reduceLT, Int.reduceLE, TFCnD, SeqQ, BlkQ, LoopQ, BodyQ, k0, k3, t1, hM', f1, f1', f2, f3, f3', hn, e2, b1, b2, b3, b4, stL, Nat.mul_one, Nat.one_mul, Nat.zero_add, Nat.add_zero, Nat.sub_zero, List.replicate_one, List.take_zero, List.length_nil, List.all_nil, List.append_nil, List.take_append_drop, FR.out])
      | (refine WP.seq fun K hK => ?_)
      | (refine WP.region (rvc_sound _ _ (Sm.out ?_)))
      | (refine WP.drawK rfl mixed (by decide +kernel) (Sm.out ?_))
      | (refine Ob.mk ?_; focus (first | assumption | omega | decide | trivial | (intro hob; simp only [hob, ZF]; done) | (intros; (repeat' refine And.intro ?_ ?_) <;> first | assumption | omega | trivial | decide) | (intros; simp only [ZE] at *; (repeat' refine And.intro ?_ ?_) <;> first | assumption | omega | trivial)))
      | (refine And.intro (Ob.out ?_) ?_)
      | (refine WP.block ?_)
      | (refine WP.cond rfl (fun hc => ?_) (fun hc => ?_) <;> (try simp only [ZC, reduceCtorEq, ZD] at hc) <;> (try (exact absurd hc (by decide))) <;> (try (exfalso; omega)))
      | ((first | refine WP.skip ?_ | refine WP.exit ?_); simp only [SeqQ, BlkQ, LoopQ, BodyQ, ↓reduceIte, Nat.reduceEqDiff, reduceCtorEq, look, true_and])
      | (refine WP.ret (Sm.out ?_))
      | (first | refine ExG.no (Sm.out ?_) | refine Or.inl (ExG.no (Sm.out ?_)) | refine Or.inl (And.intro (fun hg => absurd hg (by decide)) (ExG.no (Sm.out ?_))))
      | (refine Rt.mk ?_; refine And.intro ?_ ?_ <;> (intro hg; first | exact absurd hg (by decide) | refine Sm.out ?_))
      | (refine Nu.mk ?_; first | (fail_if_success (have := nb1)); intro nb1 | (fail_if_success (have := nb2)); intro nb2 | (fail_if_success (have := nb3)); intro nb3 | (fail_if_success (have := nb4)); intro nb4 | (fail_if_success (have := nb5)); intro nb5 | (fail_if_success (have := nb6)); intro nb6 | intro nbz)
      | (refine Fr.mk ?_; intro hfr; (first | (have hFRb : _ ≤ _ ∧ _ ≤ _ := And.intro hfr.1 hfr.2.1) | (have hFRb : _ ≤ _ := hfr.1) | skip); replace FR := Sm.mk (And.intro hfr FR.out); clear hfr; refine Sm.out ?_)
      | (refine Two.mk ?_ ?_)
      | (refine Cs.mk ?_; intro hcs; first | exact False.elim hcs | (exfalso; omega) | (refine Sm.out ?_))
      | go_step
      | omega
      | (simp only [maxLen_eq]; omega)
    (refine OutQ.wk (Wk.cutc x i (cs := B) (s0 := i + 1) (ty := 20) (by simp only [hget, ↓reduceIte])) ?_); simp only [hset, ↓reduceIte, f4]
    (refine OutQ.upd (by simp only [resv, ZK, look, loadv, loadn, loadnm, load1, load1m, hget, ↓reduceIte, Nat.reduceEqDiff, Nat.reduceAdd, Nat.reduceMul, Nat.reduceLeDiff, Nat.reduceLT, reduceCtorEq, TFCnD, FR.out, e1]) (by simp only [resv, resA, ZK, look, loadv, loadn, loadnm, load1, load1m, hget, ↓reduceIte, Nat.reduceEqDiff, Nat.reduceAdd, Nat.reduceMul, Nat.reduceLeDiff, Nat.reduceLT, reduceCtorEq, TFCnD, FR.out, e1]; first | done | rfl) (by simp only [hget, ↓reduceIte, if_true, if_false, FR.out, e1]; first | done | rfl) ?_ <;> first | exact rfl | (simp only [ZK, look, loadv, loadn, loadnm, load1, load1m, hget, ↓reduceIte, Nat.reduceEqDiff, Nat.reduceAdd, Nat.reduceMul, Nat.reduceLeDiff, Nat.reduceLT, reduceCtorEq, TFCnD, FR.out, e1]; done) | skip)
  · refine ACt.intro Try.func38 rfl (by kernel_rfl) (by simp [Try.ntmps38]) (fun cx => ?_)
    simp only [argE, Try.ntmps38, Try.results38]
    first | (have FRx := FR; clear FRx) | (have FR : Sm (¬ ((1 : Nat) = 0)) := Sm.mk Nat.one_ne_zero)
    repeat' first
      | (refine Sm.mk ?_; try simp -dsimp only [ZK, rvc, drawF, headN, pureH, stp, dvc, calleeOf, gcall, pev, eff, newB, okd, og, ogs, ogo, ogp, slv, bltv, opd, litv, strip, one, both, putE, St.put, look, gdOf, gdv, picka, pickv, pickw, binv, bini, bins, binb, binp, binq, isSlT, bina, shp, eqCells, unv, convv, nilv, faddv, addp, idxav, idxp, load1, load1m, loadn, loadnm, loadv, hget, hset, hrep, hdel, slicev, slice3v, bnd, shift1, lenv, capv, IntKind.bits, extractv, fieldv, indexv, min2v, max2v, mkiv, tasv, tasz, cellsA, fillA, buildv, stC, oneC, rowMB, intsA, plN, appE, appZ, appC, appS, srcB, appNZ, appNC, VwL, srcC, srcZ, srcM, isBoolT, isPtrT, isSliceT, uOk, Value.oneCell', Nat.reducePow, Int.reducePow, Nat.reduceAdd, Nat.reduceMul, Nat.reduceSub, Nat.reduceLT, Nat.reduceLeDiff, Nat.reduceEqDiff, Nat.reduceBEq, Nat.reduceDiv, Nat.reduceMod, ↓reduceIte, reduceCtorEq, Int.reduceToNat, Int.reduceLT, Int.reduceLE, TFCnD, SeqQ, BlkQ, LoopQ, BodyQ, k0, k1, k2, hk1, t1, hM', hTd, hTl, hTt, ho1, f1, f1', f2, f3, f3', hn, e2, b1, b2, b3, b4, stL, Nat.mul_one, Nat.one_mul, Nat.zero_add, Nat.sub_zero, List.replicate_one, List.length_cons, List.length_nil, FR.out])
      | (refine WP.seq fun K hK => ?_)
      | (refine WP.region (rvc_sound _ _ (Sm.out ?_)))
      | (refine WP.drawK rfl mixed (by decide +kernel) (Sm.out ?_))
      | (refine Ob.mk ?_; focus (first | assumption | omega | decide | trivial | (intro hob; simp only [hob, ZF]; done) | (intros; (repeat' refine And.intro ?_ ?_) <;> first | assumption | omega | trivial | decide) | (intros; simp only [ZE] at *; (repeat' refine And.intro ?_ ?_) <;> first | assumption | omega | trivial)))
      | (refine And.intro (Ob.out ?_) ?_)
      | (refine WP.block ?_)
      | (refine WP.cond rfl (fun hc => ?_) (fun hc => ?_) <;> (try simp only [ZC, reduceCtorEq, ZD] at hc) <;> (try (exact absurd hc (by decide))) <;> (try (exfalso; omega)))
      | ((first | refine WP.skip ?_ | refine WP.exit ?_); simp only [SeqQ, BlkQ, LoopQ, BodyQ, ↓reduceIte, Nat.reduceEqDiff, reduceCtorEq, look, true_and])
      | (refine WP.ret (Sm.out ?_))
      | (first | refine ExG.no (Sm.out ?_) | refine Or.inl (ExG.no (Sm.out ?_)) | refine Or.inl (And.intro (fun hg => absurd hg (by decide)) (ExG.no (Sm.out ?_))))
      | (refine Rt.mk ?_; refine And.intro ?_ ?_ <;> (intro hg; first | exact absurd hg (by decide) | refine Sm.out ?_))
      | (refine Nu.mk ?_; first | (fail_if_success (have := nb1)); intro nb1 | (fail_if_success (have := nb2)); intro nb2 | (fail_if_success (have := nb3)); intro nb3 | (fail_if_success (have := nb4)); intro nb4 | (fail_if_success (have := nb5)); intro nb5 | (fail_if_success (have := nb6)); intro nb6 | intro nbz)
      | (refine Fr.mk ?_; intro hfr; (first | (have hFRb : _ ≤ _ ∧ _ ≤ _ := And.intro hfr.1 hfr.2.1) | (have hFRb : _ ≤ _ := hfr.1) | skip); replace FR := Sm.mk (And.intro hfr FR.out); clear hfr; refine Sm.out ?_)
      | (refine Two.mk ?_ ?_)
      | (refine Cs.mk ?_; intro hcs; first | exact False.elim hcs | (exfalso; omega) | (refine Sm.out ?_))
      | go_step
      | omega
      | (simp only [maxLen_eq]; omega)
    (refine OutQ.wk (Wk.cutc x (i + M) (cs := B) (s0 := k) (ty := 20) (by simp only [hget, ↓reduceIte])) ?_); simp only [hset, ↓reduceIte, f4]
    (refine OutQ.upd (by simp only [resv, ZK, look, loadv, loadn, loadnm, load1, load1m, hget, ↓reduceIte, Nat.reduceEqDiff, Nat.reduceAdd, Nat.reduceMul, Nat.reduceLeDiff, Nat.reduceLT, reduceCtorEq, TFCnD, FR.out, e1]) (by simp only [resv, resA, ZK, look, loadv, loadn, loadnm, load1, load1m, hget, ↓reduceIte, Nat.reduceEqDiff, Nat.reduceAdd, Nat.reduceMul, Nat.reduceLeDiff, Nat.reduceLT, reduceCtorEq, TFCnD, FR.out, e1]; first | done | rfl) (by simp only [hget, ↓reduceIte, if_true, if_false, FR.out, e1]; first | done | rfl) ?_ <;> first | exact rfl | (simp only [ZK, look, loadv, loadn, loadnm, load1, load1m, hget, ↓reduceIte, Nat.reduceEqDiff, Nat.reduceAdd, Nat.reduceMul, Nat.reduceLeDiff, Nat.reduceLT, reduceCtorEq, TFCnD, FR.out, e1]; done) | skip)
end Go.Proofs.Ytbkojpkdphggeaa
namespace Go.Proofs.Ytbkojpkdphggeaa
open Go
set_option linter.unusedVariables false
set_option linter.unusedSimpArgs false
theorem TFCnE : (((((((type_of% tyc0) ∧ (type_of% tyc3)) ∧ ((type_of% zmb3) ∧ ((type_of% tyc4) ∧ (type_of% zmb4)))) ∧ (((type_of% tyc20) ∧ (type_of% zmb20)) ∧ ((type_of% tyc25) ∧ ((type_of% mth25_31) ∧ (type_of% mth25_35))))) ∧ ((((type_of% mth25_33) ∧ (type_of% mth25_32)) ∧ ((type_of% con25) ∧ ((type_of% zmb25) ∧ (type_of% tyc29)))) ∧ (((type_of% elt29) ∧ (type_of% mkz29)) ∧ ((type_of% mkc29) ∧ ((type_of% apT29) ∧ (type_of% elk29)))))) ∧ (((((type_of% zmb29) ∧ (type_of% tyc30)) ∧ ((type_of% zmb30) ∧ ((type_of% tyc33) ∧ (type_of% zmb33)))) ∧ (((type_of% tyc37) ∧ (type_of% foff37_0)) ∧ ((type_of% fpart37_0) ∧ ((type_of% foff37_1) ∧ (type_of% fpart37_1))))) ∧ ((((type_of% foff37_2) ∧ (type_of% fpart37_2)) ∧ ((type_of% zmb37) ∧ ((type_of% bldT37) ∧ (type_of% tyc50)))) ∧ (((type_of% foff50_0) ∧ ((type_of% fpart50_0) ∧ (type_of% foff50_1))) ∧ ((type_of% fpart50_1) ∧ ((type_of% foff50_2) ∧ (type_of% fpart50_2))))))) ∧ ((((((type_of% foff50_3) ∧ (type_of% fpart50_3)) ∧ ((type_of% foff50_4) ∧ ((type_of% fpart50_4) ∧ (type_of% fe50)))) ∧ (((type_of% zmb50) ∧ (type_of% bldT50)) ∧ ((type_of% tyc55) ∧ ((type_of% elt55) ∧ (type_of% mkz55))))) ∧ ((((type_of% mkc55) ∧ (type_of% apT55)) ∧ ((type_of% elk55) ∧ ((type_of% zmb55) ∧ (type_of% tyc57)))) ∧ (((type_of% foff57_0) ∧ (type_of% fpart57_0)) ∧ ((type_of% foff57_1) ∧ ((type_of% fpart57_1) ∧ (type_of% foff57_2)))))) ∧ (((((type_of% fpart57_2) ∧ (type_of% zmb57)) ∧ ((type_of% bldT57) ∧ ((type_of% tyc63) ∧ (type_of% foff63_0)))) ∧ (((type_of% fpart63_0) ∧ (type_of% zmb63)) ∧ ((type_of% bldT63) ∧ ((type_of% Try.underlying0) ∧ (type_of% Try.underlying3))))) ∧ ((((type_of% Try.underlying4) ∧ (type_of% Try.underlying20)) ∧ ((type_of% Try.underlying25) ∧ ((type_of% Try.underlying29) ∧ (type_of% Try.underlying30)))) ∧ (((type_of% Try.underlying33) ∧ ((type_of% Try.underlying37) ∧ (type_of% Try.underlying50))) ∧ ((type_of% Try.underlying55) ∧ ((type_of% Try.underlying57) ∧ (type_of% Try.underlying63)))))))) :=
  ⟨⟨⟨⟨⟨⟨tyc0, tyc3⟩, ⟨zmb3, ⟨tyc4, zmb4⟩⟩⟩, ⟨⟨tyc20, zmb20⟩, ⟨tyc25, ⟨mth25_31, mth25_35⟩⟩⟩⟩, ⟨⟨⟨mth25_33, mth25_32⟩, ⟨con25, ⟨zmb25, tyc29⟩⟩⟩, ⟨⟨elt29, mkz29⟩, ⟨mkc29, ⟨apT29, elk29⟩⟩⟩⟩⟩, ⟨⟨⟨⟨zmb29, tyc30⟩, ⟨zmb30, ⟨tyc33, zmb33⟩⟩⟩, ⟨⟨tyc37, foff37_0⟩, ⟨fpart37_0, ⟨foff37_1, fpart37_1⟩⟩⟩⟩, ⟨⟨⟨foff37_2, fpart37_2⟩, ⟨zmb37, ⟨bldT37, tyc50⟩⟩⟩, ⟨⟨foff50_0, ⟨fpart50_0, foff50_1⟩⟩, ⟨fpart50_1, ⟨foff50_2, fpart50_2⟩⟩⟩⟩⟩⟩, ⟨⟨⟨⟨⟨foff50_3, fpart50_3⟩, ⟨foff50_4, ⟨fpart50_4, fe50⟩⟩⟩, ⟨⟨zmb50, bldT50⟩, ⟨tyc55, ⟨elt55, mkz55⟩⟩⟩⟩, ⟨⟨⟨mkc55, apT55⟩, ⟨elk55, ⟨zmb55, tyc57⟩⟩⟩, ⟨⟨foff57_0, fpart57_0⟩, ⟨foff57_1, ⟨fpart57_1, foff57_2⟩⟩⟩⟩⟩, ⟨⟨⟨⟨fpart57_2, zmb57⟩, ⟨bldT57, ⟨tyc63, foff63_0⟩⟩⟩, ⟨⟨fpart63_0, zmb63⟩, ⟨bldT63, ⟨Try.underlying0, Try.underlying3⟩⟩⟩⟩, ⟨⟨⟨Try.underlying4, Try.underlying20⟩, ⟨Try.underlying25, ⟨Try.underlying29, Try.underlying30⟩⟩⟩, ⟨⟨Try.underlying33, ⟨Try.underlying37, Try.underlying50⟩⟩, ⟨Try.underlying55, ⟨Try.underlying57, Try.underlying63⟩⟩⟩⟩⟩⟩⟩
abbrev nps : AV := .lit (.pointer none)
/-- the channel's block -/
abbrev chM (F H N : AV) : MB := .cells [F, H, N] 3 57
/-- a packet in an interface -/
def fv (p : Pk) : AV := .ifc (if p.a then 65 else 63) (mv p.m)
def fcs (l : List Pk) : List AV := l.map fv
theorem fcs_len (l : List Pk) : (fcs l).length = l.length := by simp [fcs]
theorem fcs_at {l : List Pk} {i : Nat} (h : i < l.length) : (fcs l).getD i .any = fv l[i] := by simp [fcs, List.getD_eq_getElem?_getD, h]
theorem fcs_one (l : List Pk) : (fcs l).all oneC = true := by
  rw [List.all_eq_true]
  intro x hx
  obtain ⟨p, _, rfl⟩ := List.mem_map.1 hx
  rfl
theorem fcs_er (l : List Pk) (i : Nat) : (fcs l).take i ++ (fcs l).drop (i + 1) = fcs (l.eraseIdx i) := by
  simp only [fcs, List.eraseIdx_eq_take_drop_succ, List.map_append, List.map_take, List.map_drop]
theorem new_ct : ACt Try.prog 8 [] [] (fun r F' => ∃ b, r = pt b 0 ∧ F' = [(b, chM nsl nsl (iv .u64 0))]) := by
  refine ACt.intro Try.func8 rfl (by kernel_rfl) (by simp [Try.ntmps8]) (fun cx => ?_)
  simp only [argE, Try.ntmps8, Try.results8]
  first | (have FRx := FR; clear FRx) | (have FR : Sm (¬ ((1 : Nat) = 0)) := Sm.mk Nat.one_ne_zero)
  repeat' first
    | (refine Sm.mk ?_; try simp -dsimp only [ZK, rvc, drawF, headN, pureH, stp, dvc, calleeOf, gcall, pev, eff, newB, okd, og, ogs, ogo, ogp, slv, bltv, opd, litv, strip, one, both, putE, St.put, look, gdOf, gdv, picka, pickv, pickw, binv, bini, bins, binb, binp, binq, isSlT, bina, shp, eqCells, unv, convv, nilv, faddv, addp, idxav, idxp, load1, load1m, loadn, loadnm, loadv, hget, hset, hrep, hdel, slicev, slice3v, bnd, shift1, lenv, capv, IntKind.bits, extractv, fieldv, indexv, min2v, max2v, mkiv, tasv, tasz, cellsA, fillA, buildv, stC, oneC, rowMB, intsA, plN, appE, appZ, appC, appS, srcB, appNZ, appNC, VwL, srcC, srcZ, srcM, isBoolT, isPtrT, isSliceT, uOk, Value.oneCell', Nat.reducePow, Int.reducePow, Nat.reduceAdd, Nat.reduceMul, Nat.reduceSub, Nat.reduceLT, Nat.reduceLeDiff, Nat.reduceEqDiff, Nat.reduceBEq, Nat.reduceDiv, Nat.reduceMod, ↓reduceIte, reduceCtorEq, Int.reduceToNat, Int.reduceLT, Int.reduceLE, drawMF, mkS, TFCnE, SeqQ, BlkQ, LoopQ, BodyQ, FR.out])
    | (refine WP.seq fun K hK => ?_)
    | (refine WP.region (rvc_sound _ _ (Sm.out ?_)))
    | (refine WP.drawMk (ia := 9) (k := 10) mixed (by decide +kernel) (by decide +kernel) (by decide +kernel) (by decide +kernel) (Sm.out ?_))
    | (refine WP.drawMk (ia := 12) (k := 13) mixed (by decide +kernel) (by decide +kernel) (by decide +kernel) (by decide +kernel) (Sm.out ?_))
    | (refine WP.drawK rfl mixed (by decide +kernel) (Sm.out ?_))
    | (refine Ob.mk ?_; focus (first | assumption | omega | decide | trivial | (intro hob; simp only [hob, ZF]; done) | (intros; (repeat' refine And.intro ?_ ?_) <;> first | assumption | omega | trivial | decide) | (intros; simp only [ZE] at *; (repeat' refine And.intro ?_ ?_) <;> first | assumption | omega | trivial)))
    | (refine And.intro (Ob.out ?_) ?_)
    | (refine WP.block ?_)
    | (refine WP.cond rfl (fun hc => ?_) (fun hc => ?_) <;> (try simp only [ZC, reduceCtorEq, ZD] at hc) <;> (try (exact absurd hc (by decide))) <;> (try (exfalso; omega)))
    | ((first | refine WP.skip ?_ | refine WP.exit ?_); simp only [SeqQ, BlkQ, LoopQ, BodyQ, ↓reduceIte, Nat.reduceEqDiff, reduceCtorEq, look, true_and])
    | (refine WP.ret (Sm.out ?_))
    | (first | refine ExG.no (Sm.out ?_) | refine Or.inl (ExG.no (Sm.out ?_)) | refine Or.inl (And.intro (fun hg => absurd hg (by decide)) (ExG.no (Sm.out ?_))))
    | (refine Rt.mk ?_; refine And.intro ?_ ?_ <;> (intro hg; first | exact absurd hg (by decide) | refine Sm.out ?_))
    | (refine Nu.mk ?_; first | (fail_if_success (have := nb1)); intro nb1 | (fail_if_success (have := nb2)); intro nb2 | (fail_if_success (have := nb3)); intro nb3 | (fail_if_success (have := nb4)); intro nb4 | (fail_if_success (have := nb5)); intro nb5 | (fail_if_success (have := nb6)); intro nb6 | (fail_if_success (have := nb7)); intro nb7 | (fail_if_success (have := nb8)); intro nb8 | intro nbz)
    | (refine Fr.mk ?_; intro hfr; (first | (have hFRb : _ ≤ _ ∧ _ ≤ _ := And.intro hfr.1 hfr.2.1) | (have hFRb : _ ≤ _ := hfr.1) | skip); replace FR := Sm.mk (And.intro hfr FR.out); clear hfr; refine Sm.out ?_)
    | (refine Two.mk ?_ ?_)
    | (refine Cs.mk ?_; intro hcs; first | exact False.elim hcs | (exfalso; omega) | (refine Sm.out ?_))
    | go_step
    | omega
    | (simp only [maxLen_eq]; omega)
  (refine OutQ.drop _ _ (perm1 (by simp only [hget, hdel, ↓reduceIte, if_true, if_false, FR.out]; first | done | rfl)) (by simp only [resv, ZK, look, loadv, loadn, loadnm, load1, load1m, hget, ↓reduceIte, Nat.reduceEqDiff, Nat.reduceAdd, Nat.reduceMul, Nat.reduceLeDiff, Nat.reduceLT, reduceCtorEq, TFCnE, FR.out]) ⟨nb1, (by simp only [resv, resA, ZK, look, loadv, loadn, loadnm, load1, load1m, hget, ↓reduceIte, Nat.reduceEqDiff, Nat.reduceAdd, Nat.reduceMul, Nat.reduceLeDiff, Nat.reduceLT, reduceCtorEq, TFCnE, FR.out]; first | done | rfl), rfl⟩)
theorem lost_nil : ACt Try.prog 15 [nps] [] (Fn (iv .u64 0)) := by
  refine ACt.intro Try.func15 rfl (by kernel_rfl) (by simp [Try.ntmps15]) (fun cx => ?_)
  simp only [argE, Try.ntmps15, Try.results15]
  first | (have FRx := FR; clear FRx) | (have FR : Sm (¬ ((1 : Nat) = 0)) := Sm.mk Nat.one_ne_zero)
  repeat' first
    | (refine Sm.mk ?_; try simp -dsimp only [ZK, rvc, drawF, headN, pureH, stp, dvc, calleeOf, gcall, pev, eff, newB, okd, og, ogs, ogo, ogp, slv, bltv, opd, litv, strip, one, both, putE, St.put, look, gdOf, gdv, picka, pickv, pickw, binv, bini, bins, binb, binp, binq, isSlT, bina, shp, eqCells, unv, convv, nilv, faddv, addp, idxav, idxp, load1, load1m, loadn, loadnm, loadv, hget, hset, hrep, hdel, slicev, slice3v, bnd, shift1, lenv, capv, IntKind.bits, extractv, fieldv, indexv, min2v, max2v, mkiv, tasv, tasz, cellsA, fillA, buildv, stC, oneC, rowMB, intsA, plN, appE, appZ, appC, appS, srcB, appNZ, appNC, VwL, srcC, srcZ, srcM, isBoolT, isPtrT, isSliceT, uOk, Value.oneCell', Nat.reducePow, Int.reducePow, Nat.reduceAdd, Nat.reduceMul, Nat.reduceSub, Nat.reduceLT, Nat.reduceLeDiff, Nat.reduceEqDiff, Nat.reduceBEq, Nat.reduceDiv, Nat.reduceMod, ↓reduceIte, reduceCtorEq, Int.reduceToNat, Int.reduceLT, Int.reduceLE, drawMF, mkS, TFCnE, SeqQ, BlkQ, LoopQ, BodyQ, FR.out])
    | (refine WP.seq fun K hK => ?_)
    | (refine WP.region (rvc_sound _ _ (Sm.out ?_)))
    | (refine WP.drawMk (ia := 9) (k := 10) mixed (by decide +kernel) (by decide +kernel) (by decide +kernel) (by decide +kernel) (Sm.out ?_))
    | (refine WP.drawMk (ia := 12) (k := 13) mixed (by decide +kernel) (by decide +kernel) (by decide +kernel) (by decide +kernel) (Sm.out ?_))
    | (refine WP.drawK rfl mixed (by decide +kernel) (Sm.out ?_))
    | (refine Ob.mk ?_; focus (first | assumption | omega | decide | trivial | (intro hob; simp only [hob, ZF]; done) | (intros; (repeat' refine And.intro ?_ ?_) <;> first | assumption | omega | trivial | decide) | (intros; simp only [ZE] at *; (repeat' refine And.intro ?_ ?_) <;> first | assumption | omega | trivial)))
    | (refine And.intro (Ob.out ?_) ?_)
    | (refine WP.block ?_)
    | (refine WP.cond rfl (fun hc => ?_) (fun hc => ?_) <;> (try simp only [ZC, reduceCtorEq, ZD] at hc) <;> (try (exact absurd hc (by decide))) <;> (try (exfalso; omega)))
    | ((first | refine WP.skip ?_ | refine WP.exit ?_); simp only [SeqQ, BlkQ, LoopQ, BodyQ, ↓reduceIte, Nat.reduceEqDiff, reduceCtorEq, look, true_and])
    | (refine WP.ret (Sm.out ?_))
    | (first | refine ExG.no (Sm.out ?_) | refine Or.inl (ExG.no (Sm.out ?_)) | refine Or.inl (And.intro (fun hg => absurd hg (by decide)) (ExG.no (Sm.out ?_))))
    | (refine Rt.mk ?_; refine And.intro ?_ ?_ <;> (intro hg; first | exact absurd hg (by decide) | refine Sm.out ?_))
    | (refine Nu.mk ?_; first | (fail_if_success (have := nb1)); intro nb1 | (fail_if_success (have := nb2)); intro nb2 | (fail_if_success (have := nb3)); intro nb3 | (fail_if_success (have := nb4)); intro nb4 | (fail_if_success (have := nb5)); intro nb5 | (fail_if_success (have := nb6)); intro nb6 | (fail_if_success (have := nb7)); intro nb7 | (fail_if_success (have := nb8)); intro nb8 | intro nbz)
    | (refine Fr.mk ?_; intro hfr; (first | (have hFRb : _ ≤ _ ∧ _ ≤ _ := And.intro hfr.1 hfr.2.1) | (have hFRb : _ ≤ _ := hfr.1) | skip); replace FR := Sm.mk (And.intro hfr FR.out); clear hfr; refine Sm.out ?_)
    | (refine Two.mk ?_ ?_)
    | (refine Cs.mk ?_; intro hcs; first | exact False.elim hcs | (exfalso; omega) | (refine Sm.out ?_))
    | go_step
    | omega
    | (simp only [maxLen_eq]; omega)
  (refine OutQ.all ?_ ?_; (focus (simp only [resv, ZK, look, loadv, loadn, loadnm, load1, load1m, hget, ↓reduceIte, Nat.reduceEqDiff, Nat.reduceAdd, Nat.reduceMul, Nat.reduceLeDiff, Nat.reduceLT, reduceCtorEq, TFCnE])); (try simp only [resv, resA, Fn, ZK, look, loadv, loadn, loadnm, load1, load1m, hget, ↓reduceIte, Nat.reduceEqDiff, Nat.reduceAdd, Nat.reduceMul, Nat.reduceLeDiff, Nat.reduceLT, reduceCtorEq, TFCnE]); (try simp [resA, Fn, look]))
/-- what is at a place: none, or something -/
def atI (n : Nat) (i : Int) : Int := if 0 ≤ i ∧ i < (n : Int) then 0 else 7
theorem at_nil (i : Int) : ACt Try.prog 31 [nps, iv .i64 i] [] (Fn (iv .i64 1)) := by
  refine ACt.intro Try.func31 rfl (by kernel_rfl) (by simp [Try.ntmps31]) (fun cx => ?_)
  simp only [argE, Try.ntmps31, Try.results31]
  first | (have FRx := FR; clear FRx) | (have FR : Sm (¬ ((1 : Nat) = 0)) := Sm.mk Nat.one_ne_zero)
  repeat' first
    | (refine Sm.mk ?_; try simp -dsimp only [ZK, rvc, drawF, headN, pureH, stp, dvc, calleeOf, gcall, pev, eff, newB, okd, og, ogs, ogo, ogp, slv, bltv, opd, litv, strip, one, both, putE, St.put, look, gdOf, gdv, picka, pickv, pickw, binv, bini, bins, binb, binp, binq, isSlT, bina, shp, eqCells, unv, convv, nilv, faddv, addp, idxav, idxp, load1, load1m, loadn, loadnm, loadv, hget, hset, hrep, hdel, slicev, slice3v, bnd, shift1, lenv, capv, IntKind.bits, extractv, fieldv, indexv, min2v, max2v, mkiv, tasv, tasz, cellsA, fillA, buildv, stC, oneC, rowMB, intsA, plN, appE, appZ, appC, appS, srcB, appNZ, appNC, VwL, srcC, srcZ, srcM, isBoolT, isPtrT, isSliceT, uOk, Value.oneCell', Nat.reducePow, Int.reducePow, Nat.reduceAdd, Nat.reduceMul, Nat.reduceSub, Nat.reduceLT, Nat.reduceLeDiff, Nat.reduceEqDiff, Nat.reduceBEq, Nat.reduceDiv, Nat.reduceMod, ↓reduceIte, reduceCtorEq, Int.reduceToNat, Int.reduceLT, Int.reduceLE, drawMF, mkS, TFCnE, SeqQ, BlkQ, LoopQ, BodyQ, FR.out])
    | (refine WP.seq fun K hK => ?_)
    | (refine WP.region (rvc_sound _ _ (Sm.out ?_)))
    | (refine WP.drawMk (ia := 9) (k := 10) mixed (by decide +kernel) (by decide +kernel) (by decide +kernel) (by decide +kernel) (Sm.out ?_))
    | (refine WP.drawMk (ia := 12) (k := 13) mixed (by decide +kernel) (by decide +kernel) (by decide +kernel) (by decide +kernel) (Sm.out ?_))
    | (refine WP.drawK rfl mixed (by decide +kernel) (Sm.out ?_))
    | (refine Ob.mk ?_; focus (first | assumption | omega | decide | trivial | (intro hob; simp only [hob, ZF]; done) | (intros; (repeat' refine And.intro ?_ ?_) <;> first | assumption | omega | trivial | decide) | (intros; simp only [ZE] at *; (repeat' refine And.intro ?_ ?_) <;> first | assumption | omega | trivial)))
    | (refine And.intro (Ob.out ?_) ?_)
    | (refine WP.block ?_)
    | (refine WP.cond rfl (fun hc => ?_) (fun hc => ?_) <;> (try simp only [ZC, reduceCtorEq, ZD] at hc) <;> (try (exact absurd hc (by decide))) <;> (try (exfalso; omega)))
    | ((first | refine WP.skip ?_ | refine WP.exit ?_); simp only [SeqQ, BlkQ, LoopQ, BodyQ, ↓reduceIte, Nat.reduceEqDiff, reduceCtorEq, look, true_and])
    | (refine WP.ret (Sm.out ?_))
    | (first | refine ExG.no (Sm.out ?_) | refine Or.inl (ExG.no (Sm.out ?_)) | refine Or.inl (And.intro (fun hg => absurd hg (by decide)) (ExG.no (Sm.out ?_))))
    | (refine Rt.mk ?_; refine And.intro ?_ ?_ <;> (intro hg; first | exact absurd hg (by decide) | refine Sm.out ?_))
    | (refine Nu.mk ?_; first | (fail_if_success (have := nb1)); intro nb1 | (fail_if_success (have := nb2)); intro nb2 | (fail_if_success (have := nb3)); intro nb3 | (fail_if_success (have := nb4)); intro nb4 | (fail_if_success (have := nb5)); intro nb5 | (fail_if_success (have := nb6)); intro nb6 | (fail_if_success (have := nb7)); intro nb7 | (fail_if_success (have := nb8)); intro nb8 | intro nbz)
    | (refine Fr.mk ?_; intro hfr; (first | (have hFRb : _ ≤ _ ∧ _ ≤ _ := And.intro hfr.1 hfr.2.1) | (have hFRb : _ ≤ _ := hfr.1) | skip); replace FR := Sm.mk (And.intro hfr FR.out); clear hfr; refine Sm.out ?_)
    | (refine Two.mk ?_ ?_)
    | (refine Cs.mk ?_; intro hcs; first | exact False.elim hcs | (exfalso; omega) | (refine Sm.out ?_))
    | go_step
    | omega
    | (simp only [maxLen_eq]; omega)
  (refine OutQ.all ?_ ?_; (focus (simp only [resv, ZK, look, loadv, loadn, loadnm, load1, load1m, hget, ↓reduceIte, Nat.reduceEqDiff, Nat.reduceAdd, Nat.reduceMul, Nat.reduceLeDiff, Nat.reduceLT, reduceCtorEq, TFCnE])); (try simp only [resv, resA, Fn, ZK, look, loadv, loadn, loadnm, load1, load1m, hget, ↓reduceIte, Nat.reduceEqDiff, Nat.reduceAdd, Nat.reduceMul, Nat.reduceLeDiff, Nat.reduceLT, reduceCtorEq, TFCnE]); (try simp [resA, Fn, look]))
theorem at_n (c : Nat) (H N : AV) (i : Int) : ACt Try.prog 31 [pt c 0, iv .i64 i] [(c, chM nsl H N)] (fun r F' => r = iv .i64 7 ∧ F' = [(c, chM nsl H N)]) := by
  by_cases h : i < 0
  · have k1 : decide (i < 0) = true := decide_eq_true h
    refine ACt.intro Try.func31 rfl (by kernel_rfl) (by simp [Try.ntmps31]) (fun cx => ?_)
    simp only [argE, Try.ntmps31, Try.results31]
    first | (have FRx := FR; clear FRx) | (have FR : Sm (¬ ((1 : Nat) = 0)) := Sm.mk Nat.one_ne_zero)
    repeat' first
      | (refine Sm.mk ?_; try simp -dsimp only [ZK, rvc, drawF, headN, pureH, stp, dvc, calleeOf, gcall, pev, eff, newB, okd, og, ogs, ogo, ogp, slv, bltv, opd, litv, strip, one, both, putE, St.put, look, gdOf, gdv, picka, pickv, pickw, binv, bini, bins, binb, binp, binq, isSlT, bina, shp, eqCells, unv, convv, nilv, faddv, addp, idxav, idxp, load1, load1m, loadn, loadnm, loadv, hget, hset, hrep, hdel, slicev, slice3v, bnd, shift1, lenv, capv, IntKind.bits, extractv, fieldv, indexv, min2v, max2v, mkiv, tasv, tasz, cellsA, fillA, buildv, stC, oneC, rowMB, intsA, plN, appE, appZ, appC, appS, srcB, appNZ, appNC, VwL, srcC, srcZ, srcM, isBoolT, isPtrT, isSliceT, uOk, Value.oneCell', Nat.reducePow, Int.reducePow, Nat.reduceAdd, Nat.reduceMul, Nat.reduceSub, Nat.reduceLT, Nat.reduceLeDiff, Nat.reduceEqDiff, Nat.reduceBEq, Nat.reduceDiv, Nat.reduceMod, ↓reduceIte, reduceCtorEq, Int.reduceToNat, Int.reduceLT, Int.reduceLE, drawMF, mkS, TFCnE, SeqQ, BlkQ, LoopQ, BodyQ, k1, FR.out])
      | (refine WP.seq fun K hK => ?_)
      | (refine WP.region (rvc_sound _ _ (Sm.out ?_)))
      | (refine WP.drawMk (ia := 9) (k := 10) mixed (by decide +kernel) (by decide +kernel) (by decide +kernel) (by decide +kernel) (Sm.out ?_))
      | (refine WP.drawMk (ia := 12) (k := 13) mixed (by decide +kernel) (by decide +kernel) (by decide +kernel) (by decide +kernel) (Sm.out ?_))
      | (refine WP.drawK rfl mixed (by decide +kernel) (Sm.out ?_))
      | (refine Ob.mk ?_; focus (first | assumption | omega | decide | trivial | (intro hob; simp only [hob, ZF]; done) | (intros; (repeat' refine And.intro ?_ ?_) <;> first | assumption | omega | trivial | decide) | (intros; simp only [ZE] at *; (repeat' refine And.intro ?_ ?_) <;> first | assumption | omega | trivial)))
      | (refine And.intro (Ob.out ?_) ?_)
      | (refine WP.block ?_)
      | (refine WP.cond rfl (fun hc => ?_) (fun hc => ?_) <;> (try simp only [ZC, reduceCtorEq, ZD] at hc) <;> (try (exact absurd hc (by decide))) <;> (try (exfalso; omega)))
      | ((first | refine WP.skip ?_ | refine WP.exit ?_); simp only [SeqQ, BlkQ, LoopQ, BodyQ, ↓reduceIte, Nat.reduceEqDiff, reduceCtorEq, look, true_and])
      | (refine WP.ret (Sm.out ?_))
      | (first | refine ExG.no (Sm.out ?_) | refine Or.inl (ExG.no (Sm.out ?_)) | refine Or.inl (And.intro (fun hg => absurd hg (by decide)) (ExG.no (Sm.out ?_))))
      | (refine Rt.mk ?_; refine And.intro ?_ ?_ <;> (intro hg; first | exact absurd hg (by decide) | refine Sm.out ?_))
      | (refine Nu.mk ?_; first | (fail_if_success (have := nb1)); intro nb1 | (fail_if_success (have := nb2)); intro nb2 | (fail_if_success (have := nb3)); intro nb3 | (fail_if_success (have := nb4)); intro nb4 | (fail_if_success (have := nb5)); intro nb5 | (fail_if_success (have := nb6)); intro nb6 | (fail_if_success (have := nb7)); intro nb7 | (fail_if_success (have := nb8)); intro nb8 | intro nbz)
      | (refine Fr.mk ?_; intro hfr; (first | (have hFRb : _ ≤ _ ∧ _ ≤ _ := And.intro hfr.1 hfr.2.1) | (have hFRb : _ ≤ _ := hfr.1) | skip); replace FR := Sm.mk (And.intro hfr FR.out); clear hfr; refine Sm.out ?_)
      | (refine Two.mk ?_ ?_)
      | (refine Cs.mk ?_; intro hcs; first | exact False.elim hcs | (exfalso; omega) | (refine Sm.out ?_))
      | go_step
      | omega
      | (simp only [maxLen_eq]; omega)
    (refine OutQ.upd (by simp only [resv, ZK, look, loadv, loadn, loadnm, load1, load1m, hget, ↓reduceIte, Nat.reduceEqDiff, Nat.reduceAdd, Nat.reduceMul, Nat.reduceLeDiff, Nat.reduceLT, reduceCtorEq, TFCnE, FR.out]) (by simp only [resv, resA, ZK, look, loadv, loadn, loadnm, load1, load1m, hget, ↓reduceIte, Nat.reduceEqDiff, Nat.reduceAdd, Nat.reduceMul, Nat.reduceLeDiff, Nat.reduceLT, reduceCtorEq, TFCnE, FR.out]; first | done | rfl) (by simp only [hget, ↓reduceIte, if_true, if_false, FR.out]; first | done | rfl) ?_ <;> first | exact rfl | (simp only [ZK, look, loadv, loadn, loadnm, load1, load1m, hget, ↓reduceIte, Nat.reduceEqDiff, Nat.reduceAdd, Nat.reduceMul, Nat.reduceLeDiff, Nat.reduceLT, reduceCtorEq, TFCnE, FR.out]; done) | skip)
  · have k1 : decide (i < 0) = false := decide_eq_false h
    have k2 : decide (i ≥ 0) = true := decide_eq_true (by omega)
    refine ACt.intro Try.func31 rfl (by kernel_rfl) (by simp [Try.ntmps31]) (fun cx => ?_)
    simp only [argE, Try.ntmps31, Try.results31]
    first | (have FRx := FR; clear FRx) | (have FR : Sm (¬ ((1 : Nat) = 0)) := Sm.mk Nat.one_ne_zero)
    repeat' first
      | (refine Sm.mk ?_; try simp -dsimp only [ZK, rvc, drawF, headN, pureH, stp, dvc, calleeOf, gcall, pev, eff, newB, okd, og, ogs, ogo, ogp, slv, bltv, opd, litv, strip, one, both, putE, St.put, look, gdOf, gdv, picka, pickv, pickw, binv, bini, bins, binb, binp, binq, isSlT, bina, shp, eqCells, unv, convv, nilv, faddv, addp, idxav, idxp, load1, load1m, loadn, loadnm, loadv, hget, hset, hrep, hdel, slicev, slice3v, bnd, shift1, lenv, capv, IntKind.bits, extractv, fieldv, indexv, min2v, max2v, mkiv, tasv, tasz, cellsA, fillA, buildv, stC, oneC, rowMB, intsA, plN, appE, appZ, appC, appS, srcB, appNZ, appNC, VwL, srcC, srcZ, srcM, isBoolT, isPtrT, isSliceT, uOk, Value.oneCell', Nat.reducePow, Int.reducePow, Nat.reduceAdd, Nat.reduceMul, Nat.reduceSub, Nat.reduceLT, Nat.reduceLeDiff, Nat.reduceEqDiff, Nat.reduceBEq, Nat.reduceDiv, Nat.reduceMod, ↓reduceIte, reduceCtorEq, Int.reduceToNat, Int.reduceLT, Int.reduceLE, drawMF, mkS, TFCnE, SeqQ, BlkQ, LoopQ, BodyQ, k1, k2, FR.out])
      | (refine WP.seq fun K hK => ?_)
      | (refine WP.region (rvc_sound _ _ (Sm.out ?_)))
      | (refine WP.drawMk (ia := 9) (k := 10) mixed (by decide +kernel) (by decide +kernel) (by decide +kernel) (by decide +kernel) (Sm.out ?_))
      | (refine WP.drawMk (ia := 12) (k := 13) mixed (by decide +kernel) (by decide +kernel) (by decide +kernel) (by decide +kernel) (Sm.out ?_))
      | (refine WP.drawK rfl mixed (by decide +kernel) (Sm.out ?_))
      | (refine Ob.mk ?_; focus (first | assumption | omega | decide | trivial | (intro hob; simp only [hob, ZF]; done) | (intros; (repeat' refine And.intro ?_ ?_) <;> first | assumption | omega | trivial | decide) | (intros; simp only [ZE] at *; (repeat' refine And.intro ?_ ?_) <;> first | assumption | omega | trivial)))
      | (refine And.intro (Ob.out ?_) ?_)
      | (refine WP.block ?_)
      | (refine WP.cond rfl (fun hc => ?_) (fun hc => ?_) <;> (try simp only [ZC, reduceCtorEq, ZD] at hc) <;> (try (exact absurd hc (by decide))) <;> (try (exfalso; omega)))
      | ((first | refine WP.skip ?_ | refine WP.exit ?_); simp only [SeqQ, BlkQ, LoopQ, BodyQ, ↓reduceIte, Nat.reduceEqDiff, reduceCtorEq, look, true_and])
      | (refine WP.ret (Sm.out ?_))
      | (first | refine ExG.no (Sm.out ?_) | refine Or.inl (ExG.no (Sm.out ?_)) | refine Or.inl (And.intro (fun hg => absurd hg (by decide)) (ExG.no (Sm.out ?_))))
      | (refine Rt.mk ?_; refine And.intro ?_ ?_ <;> (intro hg; first | exact absurd hg (by decide) | refine Sm.out ?_))
      | (refine Nu.mk ?_; first | (fail_if_success (have := nb1)); intro nb1 | (fail_if_success (have := nb2)); intro nb2 | (fail_if_success (have := nb3)); intro nb3 | (fail_if_success (have := nb4)); intro nb4 | (fail_if_success (have := nb5)); intro nb5 | (fail_if_success (have := nb6)); intro nb6 | (fail_if_success (have := nb7)); intro nb7 | (fail_if_success (have := nb8)); intro nb8 | intro nbz)
      | (refine Fr.mk ?_; intro hfr; (first | (have hFRb : _ ≤ _ ∧ _ ≤ _ := And.intro hfr.1 hfr.2.1) | (have hFRb : _ ≤ _ := hfr.1) | skip); replace FR := Sm.mk (And.intro hfr FR.out); clear hfr; refine Sm.out ?_)
      | (refine Two.mk ?_ ?_)
      | (refine Cs.mk ?_; intro hcs; first | exact False.elim hcs | (exfalso; omega) | (refine Sm.out ?_))
      | go_step
      | omega
      | (simp only [maxLen_eq]; omega)
    (refine OutQ.upd (by simp only [resv, ZK, look, loadv, loadn, loadnm, load1, load1m, hget, ↓reduceIte, Nat.reduceEqDiff, Nat.reduceAdd, Nat.reduceMul, Nat.reduceLeDiff, Nat.reduceLT, reduceCtorEq, TFCnE, FR.out]) (by simp only [resv, resA, ZK, look, loadv, loadn, loadnm, load1, load1m, hget, ↓reduceIte, Nat.reduceEqDiff, Nat.reduceAdd, Nat.reduceMul, Nat.reduceLeDiff, Nat.reduceLT, reduceCtorEq, TFCnE, FR.out]; first | done | rfl) (by simp only [hget, ↓reduceIte, if_true, if_false, FR.out]; first | done | rfl) ?_ <;> first | exact rfl | (simp only [ZK, look, loadv, loadn, loadnm, load1, load1m, hget, ↓reduceIte, Nat.reduceEqDiff, Nat.reduceAdd, Nat.reduceMul, Nat.reduceLeDiff, Nat.reduceLT, reduceCtorEq, TFCnE, FR.out]; done) | skip)
theorem at_s (c x n k : Nat) (H N : AV) (i : Int) : ACt Try.prog 31 [pt c 0, iv .i64 i] [(c, chM (ms x 0 n k) H N)] (fun r F' => r = iv .i64 (atI n i) ∧ F' = [(c, chM (ms x 0 n k) H N)]) := by
  unfold atI
  by_cases h : i < 0
  · have k1 : decide (i < 0) = true := decide_eq_true h
    rw [if_neg (by omega)]
    refine ACt.intro Try.func31 rfl (by kernel_rfl) (by simp [Try.ntmps31]) (fun cx => ?_)
    simp only [argE, Try.ntmps31, Try.results31]
    first | (have FRx := FR; clear FRx) | (have FR : Sm (¬ ((1 : Nat) = 0)) := Sm.mk Nat.one_ne_zero)
    repeat' first
      | (refine Sm.mk ?_; try simp -dsimp only [ZK, rvc, drawF, headN, pureH, stp, dvc, calleeOf, gcall, pev, eff, newB, okd, og, ogs, ogo, ogp, slv, bltv, opd, litv, strip, one, both, putE, St.put, look, gdOf, gdv, picka, pickv, pickw, binv, bini, bins, binb, binp, binq, isSlT, bina, shp, eqCells, unv, convv, nilv, faddv, addp, idxav, idxp, load1, load1m, loadn, loadnm, loadv, hget, hset, hrep, hdel, slicev, slice3v, bnd, shift1, lenv, capv, IntKind.bits, extractv, fieldv, indexv, min2v, max2v, mkiv, tasv, tasz, cellsA, fillA, buildv, stC, oneC, rowMB, intsA, plN, appE, appZ, appC, appS, srcB, appNZ, appNC, VwL, srcC, srcZ, srcM, isBoolT, isPtrT, isSliceT, uOk, Value.oneCell', Nat.reducePow, Int.reducePow, Nat.reduceAdd, Nat.reduceMul, Nat.reduceSub, Nat.reduceLT, Nat.reduceLeDiff, Nat.reduceEqDiff, Nat.reduceBEq, Nat.reduceDiv, Nat.reduceMod, ↓reduceIte, reduceCtorEq, Int.reduceToNat, Int.reduceLT, Int.reduceLE, drawMF, mkS, TFCnE, SeqQ, BlkQ, LoopQ, BodyQ, k1, FR.out])
      | (refine WP.seq fun K hK => ?_)
      | (refine WP.region (rvc_sound _ _ (Sm.out ?_)))
      | (refine WP.drawMk (ia := 9) (k := 10) mixed (by decide +kernel) (by decide +kernel) (by decide +kernel) (by decide +kernel) (Sm.out ?_))
      | (refine WP.drawMk (ia := 12) (k := 13) mixed (by decide +kernel) (by decide +kernel) (by decide +kernel) (by decide +kernel) (Sm.out ?_))
      | (refine WP.drawK rfl mixed (by decide +kernel) (Sm.out ?_))
      | (refine Ob.mk ?_; focus (first | assumption | omega | decide | trivial | (intro hob; simp only [hob, ZF]; done) | (intros; (repeat' refine And.intro ?_ ?_) <;> first | assumption | omega | trivial | decide) | (intros; simp only [ZE] at *; (repeat' refine And.intro ?_ ?_) <;> first | assumption | omega | trivial)))
      | (refine And.intro (Ob.out ?_) ?_)
      | (refine WP.block ?_)
      | (refine WP.cond rfl (fun hc => ?_) (fun hc => ?_) <;> (try simp only [ZC, reduceCtorEq, ZD] at hc) <;> (try (exact absurd hc (by decide))) <;> (try (exfalso; omega)))
      | ((first | refine WP.skip ?_ | refine WP.exit ?_); simp only [SeqQ, BlkQ, LoopQ, BodyQ, ↓reduceIte, Nat.reduceEqDiff, reduceCtorEq, look, true_and])
      | (refine WP.ret (Sm.out ?_))
      | (first | refine ExG.no (Sm.out ?_) | refine Or.inl (ExG.no (Sm.out ?_)) | refine Or.inl (And.intro (fun hg => absurd hg (by decide)) (ExG.no (Sm.out ?_))))
      | (refine Rt.mk ?_; refine And.intro ?_ ?_ <;> (intro hg; first | exact absurd hg (by decide) | refine Sm.out ?_))
      | (refine Nu.mk ?_; first | (fail_if_success (have := nb1)); intro nb1 | (fail_if_success (have := nb2)); intro nb2 | (fail_if_success (have := nb3)); intro nb3 | (fail_if_success (have := nb4)); intro nb4 | (fail_if_success (have := nb5)); intro nb5 | (fail_if_success (have := nb6)); intro nb6 | (fail_if_success (have := nb7)); intro nb7 | (fail_if_success (have := nb8)); intro nb8 | intro nbz)
      | (refine Fr.mk ?_; intro hfr; (first | (have hFRb : _ ≤ _ ∧ _ ≤ _ := And.intro hfr.1 hfr.2.1) | (have hFRb : _ ≤ _ := hfr.1) | skip); replace FR := Sm.mk (And.intro hfr FR.out); clear hfr; refine Sm.out ?_)
      | (refine Two.mk ?_ ?_)
      | (refine Cs.mk ?_; intro hcs; first | exact False.elim hcs | (exfalso; omega) | (refine Sm.out ?_))
      | go_step
      | omega
      | (simp only [maxLen_eq]; omega)
    (refine OutQ.upd (by simp only [resv, ZK, look, loadv, loadn, loadnm, load1, load1m, hget, ↓reduceIte, Nat.reduceEqDiff, Nat.reduceAdd, Nat.reduceMul, Nat.reduceLeDiff, Nat.reduceLT, reduceCtorEq, TFCnE, FR.out]) (by simp only [resv, resA, ZK, look, loadv, loadn, loadnm, load1, load1m, hget, ↓reduceIte, Nat.reduceEqDiff, Nat.reduceAdd, Nat.reduceMul, Nat.reduceLeDiff, Nat.reduceLT, reduceCtorEq, TFCnE, FR.out]; first | done | rfl) (by simp only [hget, ↓reduceIte, if_true, if_false, FR.out]; first | done | rfl) ?_ <;> first | exact rfl | (simp only [ZK, look, loadv, loadn, loadnm, load1, load1m, hget, ↓reduceIte, Nat.reduceEqDiff, Nat.reduceAdd, Nat.reduceMul, Nat.reduceLeDiff, Nat.reduceLT, reduceCtorEq, TFCnE, FR.out]; done) | skip)
  · have k1 : decide (i < 0) = false := decide_eq_false h
    by_cases h2 : i < (n : Int)
    · have k2 : decide (i ≥ (n : Int)) = false := decide_eq_false (by omega)
      rw [if_pos ⟨by omega, h2⟩]
      refine ACt.intro Try.func31 rfl (by kernel_rfl) (by simp [Try.ntmps31]) (fun cx => ?_)
      simp only [argE, Try.ntmps31, Try.results31]
      first | (have FRx := FR; clear FRx) | (have FR : Sm (¬ ((1 : Nat) = 0)) := Sm.mk Nat.one_ne_zero)
      repeat' first
        | (refine Sm.mk ?_; try simp -dsimp only [ZK, rvc, drawF, headN, pureH, stp, dvc, calleeOf, gcall, pev, eff, newB, okd, og, ogs, ogo, ogp, slv, bltv, opd, litv, strip, one, both, putE, St.put, look, gdOf, gdv, picka, pickv, pickw, binv, bini, bins, binb, binp, binq, isSlT, bina, shp, eqCells, unv, convv, nilv, faddv, addp, idxav, idxp, load1, load1m, loadn, loadnm, loadv, hget, hset, hrep, hdel, slicev, slice3v, bnd, shift1, lenv, capv, IntKind.bits, extractv, fieldv, indexv, min2v, max2v, mkiv, tasv, tasz, cellsA, fillA, buildv, stC, oneC, rowMB, intsA, plN, appE, appZ, appC, appS, srcB, appNZ, appNC, VwL, srcC, srcZ, srcM, isBoolT, isPtrT, isSliceT, uOk, Value.oneCell', Nat.reducePow, Int.reducePow, Nat.reduceAdd, Nat.reduceMul, Nat.reduceSub, Nat.reduceLT, Nat.reduceLeDiff, Nat.reduceEqDiff, Nat.reduceBEq, Nat.reduceDiv, Nat.reduceMod, ↓reduceIte, reduceCtorEq, Int.reduceToNat, Int.reduceLT, Int.reduceLE, drawMF, mkS, TFCnE, SeqQ, BlkQ, LoopQ, BodyQ, k1, k2, FR.out])
        | (refine WP.seq fun K hK => ?_)
        | (refine WP.region (rvc_sound _ _ (Sm.out ?_)))
        | (refine WP.drawMk (ia := 9) (k := 10) mixed (by decide +kernel) (by decide +kernel) (by decide +kernel) (by decide +kernel) (Sm.out ?_))
        | (refine WP.drawMk (ia := 12) (k := 13) mixed (by decide +kernel) (by decide +kernel) (by decide +kernel) (by decide +kernel) (Sm.out ?_))
        | (refine WP.drawK rfl mixed (by decide +kernel) (Sm.out ?_))
        | (refine Ob.mk ?_; focus (first | assumption | omega | decide | trivial | (intro hob; simp only [hob, ZF]; done) | (intros; (repeat' refine And.intro ?_ ?_) <;> first | assumption | omega | trivial | decide) | (intros; simp only [ZE] at *; (repeat' refine And.intro ?_ ?_) <;> first | assumption | omega | trivial)))
        | (refine And.intro (Ob.out ?_) ?_)
        | (refine WP.block ?_)
        | (refine WP.cond rfl (fun hc => ?_) (fun hc => ?_) <;> (try simp only [ZC, reduceCtorEq, ZD] at hc) <;> (try (exact absurd hc (by decide))) <;> (try (exfalso; omega)))
        | ((first | refine WP.skip ?_ | refine WP.exit ?_); simp only [SeqQ, BlkQ, LoopQ, BodyQ, ↓reduceIte, Nat.reduceEqDiff, reduceCtorEq, look, true_and])
        | (refine WP.ret (Sm.out ?_))
        | (first | refine ExG.no (Sm.out ?_) | refine Or.inl (ExG.no (Sm.out ?_)) | refine Or.inl (And.intro (fun hg => absurd hg (by decide)) (ExG.no (Sm.out ?_))))
        | (refine Rt.mk ?_; refine And.intro ?_ ?_ <;> (intro hg; first | exact absurd hg (by decide) | refine Sm.out ?_))
        | (refine Nu.mk ?_; first | (fail_if_success (have := nb1)); intro nb1 | (fail_if_success (have := nb2)); intro nb2 | (fail_if_success (have := nb3)); intro nb3 | (fail_if_success (have := nb4)); intro nb4 | (fail_if_success (have := nb5)); intro nb5 | (fail_if_success (have := nb6)); intro nb6 | (fail_if_success (have := nb7)); intro nb7 | (fail_if_success (have := nb8)); intro nb8 | intro nbz)
        | (refine Fr.mk ?_; intro hfr; (first | (have hFRb : _ ≤ _ ∧ _ ≤ _ := And.intro hfr.1 hfr.2.1) | (have hFRb : _ ≤ _ := hfr.1) | skip); replace FR := Sm.mk (And.intro hfr FR.out); clear hfr; refine Sm.out ?_)
        | (refine Two.mk ?_ ?_)
        | (refine Cs.mk ?_; intro hcs; first | exact False.elim hcs | (exfalso; omega) | (refine Sm.out ?_))
        | go_step
        | omega
        | (simp only [maxLen_eq]; omega)
      (refine OutQ.upd (by simp only [resv, ZK, look, loadv, loadn, loadnm, load1, load1m, hget, ↓reduceIte, Nat.reduceEqDiff, Nat.reduceAdd, Nat.reduceMul, Nat.reduceLeDiff, Nat.reduceLT, reduceCtorEq, TFCnE, FR.out]) (by simp only [resv, resA, ZK, look, loadv, loadn, loadnm, load1, load1m, hget, ↓reduceIte, Nat.reduceEqDiff, Nat.reduceAdd, Nat.reduceMul, Nat.reduceLeDiff, Nat.reduceLT, reduceCtorEq, TFCnE, FR.out]; first | done | rfl) (by simp only [hget, ↓reduceIte, if_true, if_false, FR.out]; first | done | rfl) ?_ <;> first | exact rfl | (simp only [ZK, look, loadv, loadn, loadnm, load1, load1m, hget, ↓reduceIte, Nat.reduceEqDiff, Nat.reduceAdd, Nat.reduceMul, Nat.reduceLeDiff, Nat.reduceLT, reduceCtorEq, TFCnE, FR.out]; done) | skip)
    · have k2 : decide (i ≥ (n : Int)) = true := decide_eq_true (by omega)
      rw [if_neg (by omega)]
      refine ACt.intro Try.func31 rfl (by kernel_rfl) (by simp [Try.ntmps31]) (fun cx => ?_)
      simp only [argE, Try.ntmps31, Try.results31]
      first | (have FRx := FR; clear FRx) | (have FR : Sm (¬ ((1 : Nat) = 0)) := Sm.mk Nat.one_ne_zero)
      repeat' first
        | (refine Sm.mk ?_; try simp -dsimp only [ZK, rvc, drawF, headN, pureH, stp, dvc, calleeOf, gcall, pev, eff, newB, okd, og, ogs, ogo, ogp, slv, bltv, opd, litv, strip, one, both, putE, St.put, look, gdOf, gdv, picka, pickv, pickw, binv, bini, bins, binb, binp, binq, isSlT, bina, shp, eqCells, unv, convv, nilv, faddv, addp, idxav, idxp, load1, load1m, loadn, loadnm, loadv, hget, hset, hrep, hdel, slicev, slice3v, bnd, shift1, lenv, capv, IntKind.bits, extractv, fieldv, indexv, min2v, max2v, mkiv, tasv, tasz, cellsA, fillA, buildv, stC, oneC, rowMB, intsA, plN, appE, appZ, appC, appS, srcB, appNZ, appNC, VwL, srcC, srcZ, srcM, isBoolT, isPtrT, isSliceT, uOk, Value.oneCell', Nat.reducePow, Int.reducePow, Nat.reduceAdd, Nat.reduceMul, Nat.reduceSub, Nat.reduceLT, Nat.reduceLeDiff, Nat.reduceEqDiff, Nat.reduceBEq, Nat.reduceDiv, Nat.reduceMod, ↓reduceIte, reduceCtorEq, Int.reduceToNat, Int.reduceLT, Int.reduceLE, drawMF, mkS, TFCnE, SeqQ, BlkQ, LoopQ, BodyQ, k1, k2, FR.out])
        | (refine WP.seq fun K hK => ?_)
        | (refine WP.region (rvc_sound _ _ (Sm.out ?_)))
        | (refine WP.drawMk (ia := 9) (k := 10) mixed (by decide +kernel) (by decide +kernel) (by decide +kernel) (by decide +kernel) (Sm.out ?_))
        | (refine WP.drawMk (ia := 12) (k := 13) mixed (by decide +kernel) (by decide +kernel) (by decide +kernel) (by decide +kernel) (Sm.out ?_))
        | (refine WP.drawK rfl mixed (by decide +kernel) (Sm.out ?_))
        | (refine Ob.mk ?_; focus (first | assumption | omega | decide | trivial | (intro hob; simp only [hob, ZF]; done) | (intros; (repeat' refine And.intro ?_ ?_) <;> first | assumption | omega | trivial | decide) | (intros; simp only [ZE] at *; (repeat' refine And.intro ?_ ?_) <;> first | assumption | omega | trivial)))
        | (refine And.intro (Ob.out ?_) ?_)
        | (refine WP.block ?_)
        | (refine WP.cond rfl (fun hc => ?_) (fun hc => ?_) <;> (try simp only [ZC, reduceCtorEq, ZD] at hc) <;> (try (exact absurd hc (by decide))) <;> (try (exfalso; omega)))
        | ((first | refine WP.skip ?_ | refine WP.exit ?_); simp only [SeqQ, BlkQ, LoopQ, BodyQ, ↓reduceIte, Nat.reduceEqDiff, reduceCtorEq, look, true_and])
        | (refine WP.ret (Sm.out ?_))
        | (first | refine ExG.no (Sm.out ?_) | refine Or.inl (ExG.no (Sm.out ?_)) | refine Or.inl (And.intro (fun hg => absurd hg (by decide)) (ExG.no (Sm.out ?_))))
        | (refine Rt.mk ?_; refine And.intro ?_ ?_ <;> (intro hg; first | exact absurd hg (by decide) | refine Sm.out ?_))
        | (refine Nu.mk ?_; first | (fail_if_success (have := nb1)); intro nb1 | (fail_if_success (have := nb2)); intro nb2 | (fail_if_success (have := nb3)); intro nb3 | (fail_if_success (have := nb4)); intro nb4 | (fail_if_success (have := nb5)); intro nb5 | (fail_if_success (have := nb6)); intro nb6 | (fail_if_success (have := nb7)); intro nb7 | (fail_if_success (have := nb8)); intro nb8 | intro nbz)
        | (refine Fr.mk ?_; intro hfr; (first | (have hFRb : _ ≤ _ ∧ _ ≤ _ := And.intro hfr.1 hfr.2.1) | (have hFRb : _ ≤ _ := hfr.1) | skip); replace FR := Sm.mk (And.intro hfr FR.out); clear hfr; refine Sm.out ?_)
        | (refine Two.mk ?_ ?_)
        | (refine Cs.mk ?_; intro hcs; first | exact False.elim hcs | (exfalso; omega) | (refine Sm.out ?_))
        | go_step
        | omega
        | (simp only [maxLen_eq]; omega)
      (refine OutQ.upd (by simp only [resv, ZK, look, loadv, loadn, loadnm, load1, load1m, hget, ↓reduceIte, Nat.reduceEqDiff, Nat.reduceAdd, Nat.reduceMul, Nat.reduceLeDiff, Nat.reduceLT, reduceCtorEq, TFCnE, FR.out]) (by simp only [resv, resA, ZK, look, loadv, loadn, loadnm, load1, load1m, hget, ↓reduceIte, Nat.reduceEqDiff, Nat.reduceAdd, Nat.reduceMul, Nat.reduceLeDiff, Nat.reduceLT, reduceCtorEq, TFCnE, FR.out]; first | done | rfl) (by simp only [hget, ↓reduceIte, if_true, if_false, FR.out]; first | done | rfl) ?_ <;> first | exact rfl | (simp only [ZK, look, loadv, loadn, loadnm, load1, load1m, hget, ↓reduceIte, Nat.reduceEqDiff, Nat.reduceAdd, Nat.reduceMul, Nat.reduceLeDiff, Nat.reduceLT, reduceCtorEq, TFCnE, FR.out]; done) | skip)
theorem full_n (c : Nat) (H N : AV) : ACt Try.prog 35 [pt c 0] [(c, chM nsl H N)] (fun r F' => r = bv false ∧ F' = [(c, chM nsl H N)]) := by
  have k2 : decide ((0 : Int) ≥ 60) = false := by decide
  refine ACt.intro Try.func35 rfl (by kernel_rfl) (by simp [Try.ntmps35]) (fun cx => ?_)
  simp only [argE, Try.ntmps35, Try.results35]
  first | (have FRx := FR; clear FRx) | (have FR : Sm (¬ ((1 : Nat) = 0)) := Sm.mk Nat.one_ne_zero)
  repeat' first
    | (refine Sm.mk ?_; try simp -dsimp only [ZK, rvc, drawF, headN, pureH, stp, dvc, calleeOf, gcall, pev, eff, newB, okd, og, ogs, ogo, ogp, slv, bltv, opd, litv, strip, one, both, putE, St.put, look, gdOf, gdv, picka, pickv, pickw, binv, bini, bins, binb, binp, binq, isSlT, bina, shp, eqCells, unv, convv, nilv, faddv, addp, idxav, idxp, load1, load1m, loadn, loadnm, loadv, hget, hset, hrep, hdel, slicev, slice3v, bnd, shift1, lenv, capv, IntKind.bits, extractv, fieldv, indexv, min2v, max2v, mkiv, tasv, tasz, cellsA, fillA, buildv, stC, oneC, rowMB, intsA, plN, appE, appZ, appC, appS, srcB, appNZ, appNC, VwL, srcC, srcZ, srcM, isBoolT, isPtrT, isSliceT, uOk, Value.oneCell', Nat.reducePow, Int.reducePow, Nat.reduceAdd, Nat.reduceMul, Nat.reduceSub, Nat.reduceLT, Nat.reduceLeDiff, Nat.reduceEqDiff, Nat.reduceBEq, Nat.reduceDiv, Nat.reduceMod, ↓reduceIte, reduceCtorEq, Int.reduceToNat, Int.reduceLT, Int.reduceLE, drawMF, mkS, TFCnE, SeqQ, BlkQ, LoopQ, BodyQ, k2, FR.out])
    | (refine WP.seq fun K hK => ?_)
    | (refine WP.region (rvc_sound _ _ (Sm.out ?_)))
    | (refine WP.drawMk (ia := 9) (k := 10) mixed (by decide +kernel) (by decide +kernel) (by decide +kernel) (by decide +kernel) (Sm.out ?_))
    | (refine WP.drawMk (ia := 12) (k := 13) mixed (by decide +kernel) (by decide +kernel) (by decide +kernel) (by decide +kernel) (Sm.out ?_))
    | (refine WP.drawK rfl mixed (by decide +kernel) (Sm.out ?_))
    | (refine Ob.mk ?_; focus (first | assumption | omega | decide | trivial | (intro hob; simp only [hob, ZF]; done) | (intros; (repeat' refine And.intro ?_ ?_) <;> first | assumption | omega | trivial | decide) | (intros; simp only [ZE] at *; (repeat' refine And.intro ?_ ?_) <;> first | assumption | omega | trivial)))
    | (refine And.intro (Ob.out ?_) ?_)
    | (refine WP.block ?_)
    | (refine WP.cond rfl (fun hc => ?_) (fun hc => ?_) <;> (try simp only [ZC, reduceCtorEq, ZD] at hc) <;> (try (exact absurd hc (by decide))) <;> (try (exfalso; omega)))
    | ((first | refine WP.skip ?_ | refine WP.exit ?_); simp only [SeqQ, BlkQ, LoopQ, BodyQ, ↓reduceIte, Nat.reduceEqDiff, reduceCtorEq, look, true_and])
    | (refine WP.ret (Sm.out ?_))
    | (first | refine ExG.no (Sm.out ?_) | refine Or.inl (ExG.no (Sm.out ?_)) | refine Or.inl (And.intro (fun hg => absurd hg (by decide)) (ExG.no (Sm.out ?_))))
    | (refine Rt.mk ?_; refine And.intro ?_ ?_ <;> (intro hg; first | exact absurd hg (by decide) | refine Sm.out ?_))
    | (refine Nu.mk ?_; first | (fail_if_success (have := nb1)); intro nb1 | (fail_if_success (have := nb2)); intro nb2 | (fail_if_success (have := nb3)); intro nb3 | (fail_if_success (have := nb4)); intro nb4 | (fail_if_success (have := nb5)); intro nb5 | (fail_if_success (have := nb6)); intro nb6 | (fail_if_success (have := nb7)); intro nb7 | (fail_if_success (have := nb8)); intro nb8 | intro nbz)
    | (refine Fr.mk ?_; intro hfr; (first | (have hFRb : _ ≤ _ ∧ _ ≤ _ := And.intro hfr.1 hfr.2.1) | (have hFRb : _ ≤ _ := hfr.1) | skip); replace FR := Sm.mk (And.intro hfr FR.out); clear hfr; refine Sm.out ?_)
    | (refine Two.mk ?_ ?_)
    | (refine Cs.mk ?_; intro hcs; first | exact False.elim hcs | (exfalso; omega) | (refine Sm.out ?_))
    | go_step
    | omega
    | (simp only [maxLen_eq]; omega)
  (refine OutQ.upd (by simp only [resv, ZK, look, loadv, loadn, loadnm, load1, load1m, hget, ↓reduceIte, Nat.reduceEqDiff, Nat.reduceAdd, Nat.reduceMul, Nat.reduceLeDiff, Nat.reduceLT, reduceCtorEq, TFCnE, FR.out]) (by simp only [resv, resA, ZK, look, loadv, loadn, loadnm, load1, load1m, hget, ↓reduceIte, Nat.reduceEqDiff, Nat.reduceAdd, Nat.reduceMul, Nat.reduceLeDiff, Nat.reduceLT, reduceCtorEq, TFCnE, FR.out]; first | done | rfl) (by simp only [hget, ↓reduceIte, if_true, if_false, FR.out]; first | done | rfl) ?_ <;> first | exact rfl | (simp only [ZK, look, loadv, loadn, loadnm, load1, load1m, hget, ↓reduceIte, Nat.reduceEqDiff, Nat.reduceAdd, Nat.reduceMul, Nat.reduceLeDiff, Nat.reduceLT, reduceCtorEq, TFCnE, FR.out]; done) | skip)
theorem full_s (c x n k : Nat) (H N : AV) : ACt Try.prog 35 [pt c 0] [(c, chM (ms x 0 n k) H N)] (fun r F' => r = bv (decide ((n : Int) ≥ 60)) ∧ F' = [(c, chM (ms x 0 n k) H N)]) := by
  refine ACt.intro Try.func35 rfl (by kernel_rfl) (by simp [Try.ntmps35]) (fun cx => ?_)
  simp only [argE, Try.ntmps35, Try.results35]
  first | (have FRx := FR; clear FRx) | (have FR : Sm (¬ ((1 : Nat) = 0)) := Sm.mk Nat.one_ne_zero)
  repeat' first
    | (refine Sm.mk ?_; try simp -dsimp only [ZK, rvc, drawF, headN, pureH, stp, dvc, calleeOf, gcall, pev, eff, newB, okd, og, ogs, ogo, ogp, slv, bltv, opd, litv, strip, one, both, putE, St.put, look, gdOf, gdv, picka, pickv, pickw, binv, bini, bins, binb, binp, binq, isSlT, bina, shp, eqCells, unv, convv, nilv, faddv, addp, idxav, idxp, load1, load1m, loadn, loadnm, loadv, hget, hset, hrep, hdel, slicev, slice3v, bnd, shift1, lenv, capv, IntKind.bits, extractv, fieldv, indexv, min2v, max2v, mkiv, tasv, tasz, cellsA, fillA, buildv, stC, oneC, rowMB, intsA, plN, appE, appZ, appC, appS, srcB, appNZ, appNC, VwL, srcC, srcZ, srcM, isBoolT, isPtrT, isSliceT, uOk, Value.oneCell', Nat.reducePow, Int.reducePow, Nat.reduceAdd, Nat.reduceMul, Nat.reduceSub, Nat.reduceLT, Nat.reduceLeDiff, Nat.reduceEqDiff, Nat.reduceBEq, Nat.reduceDiv, Nat.reduceMod, ↓reduceIte, reduceCtorEq, Int.reduceToNat, Int.reduceLT, Int.reduceLE, drawMF, mkS, TFCnE, SeqQ, BlkQ, LoopQ, BodyQ, FR.out])
    | (refine WP.seq fun K hK => ?_)
    | (refine WP.region (rvc_sound _ _ (Sm.out ?_)))
    | (refine WP.drawMk (ia := 9) (k := 10) mixed (by decide +kernel) (by decide +kernel) (by decide +kernel) (by decide +kernel) (Sm.out ?_))
    | (refine WP.drawMk (ia := 12) (k := 13) mixed (by decide +kernel) (by decide +kernel) (by decide +kernel) (by decide +kernel) (Sm.out ?_))
    | (refine WP.drawK rfl mixed (by decide +kernel) (Sm.out ?_))
    | (refine Ob.mk ?_; focus (first | assumption | omega | decide | trivial | (intro hob; simp only [hob, ZF]; done) | (intros; (repeat' refine And.intro ?_ ?_) <;> first | assumption | omega | trivial | decide) | (intros; simp only [ZE] at *; (repeat' refine And.intro ?_ ?_) <;> first | assumption | omega | trivial)))
    | (refine And.intro (Ob.out ?_) ?_)
    | (refine WP.block ?_)
    | (refine WP.cond rfl (fun hc => ?_) (fun hc => ?_) <;> (try simp only [ZC, reduceCtorEq, ZD] at hc) <;> (try (exact absurd hc (by decide))) <;> (try (exfalso; omega)))
    | ((first | refine WP.skip ?_ | refine WP.exit ?_); simp only [SeqQ, BlkQ, LoopQ, BodyQ, ↓reduceIte, Nat.reduceEqDiff, reduceCtorEq, look, true_and])
    | (refine WP.ret (Sm.out ?_))
    | (first | refine ExG.no (Sm.out ?_) | refine Or.inl (ExG.no (Sm.out ?_)) | refine Or.inl (And.intro (fun hg => absurd hg (by decide)) (ExG.no (Sm.out ?_))))
    | (refine Rt.mk ?_; refine And.intro ?_ ?_ <;> (intro hg; first | exact absurd hg (by decide) | refine Sm.out ?_))
    | (refine Nu.mk ?_; first | (fail_if_success (have := nb1)); intro nb1 | (fail_if_success (have := nb2)); intro nb2 | (fail_if_success (have := nb3)); intro nb3 | (fail_if_success (have := nb4)); intro nb4 | (fail_if_success (have := nb5)); intro nb5 | (fail_if_success (have := nb6)); intro nb6 | (fail_if_success (have := nb7)); intro nb7 | (fail_if_success (have := nb8)); intro nb8 | intro nbz)
    | (refine Fr.mk ?_; intro hfr; (first | (have hFRb : _ ≤ _ ∧ _ ≤ _ := And.intro hfr.1 hfr.2.1) | (have hFRb : _ ≤ _ := hfr.1) | skip); replace FR := Sm.mk (And.intro hfr FR.out); clear hfr; refine Sm.out ?_)
    | (refine Two.mk ?_ ?_)
    | (refine Cs.mk ?_; intro hcs; first | exact False.elim hcs | (exfalso; omega) | (refine Sm.out ?_))
    | go_step
    | omega
    | (simp only [maxLen_eq]; omega)
  (refine OutQ.upd (by simp only [resv, ZK, look, loadv, loadn, loadnm, load1, load1m, hget, ↓reduceIte, Nat.reduceEqDiff, Nat.reduceAdd, Nat.reduceMul, Nat.reduceLeDiff, Nat.reduceLT, reduceCtorEq, TFCnE, FR.out]) (by simp only [resv, resA, ZK, look, loadv, loadn, loadnm, load1, load1m, hget, ↓reduceIte, Nat.reduceEqDiff, Nat.reduceAdd, Nat.reduceMul, Nat.reduceLeDiff, Nat.reduceLT, reduceCtorEq, TFCnE, FR.out]; first | done | rfl) (by simp only [hget, ↓reduceIte, if_true, if_false, FR.out]; first | done | rfl) ?_ <;> first | exact rfl | (simp only [ZK, look, loadv, loadn, loadnm, load1, load1m, hget, ↓reduceIte, Nat.reduceEqDiff, Nat.reduceAdd, Nat.reduceMul, Nat.reduceLeDiff, Nat.reduceLT, reduceCtorEq, TFCnE, FR.out]; done) | skip)
theorem take_s (c x k : Nat) (l : List Pk) (n i : Nat) (hd : c ≠ x ∧ x ≠ c) (H N : AV) (hn : l.length = n) (hi : i < n) (hk : n ≤ k ∧ k ≤ 9223372036854775807) (hkl : n ≤ 100000) :
    ACt Try.prog 32 [pt c 0, iv .i64 (i : Int)] [(c, chM (ms x 0 n k) H N), (x, .cells (fcs l) k 20)]
      (fun r F' => r = fv (l[i]'(by omega)) ∧ F' = [(c, chM (ms x 0 (n - 1) k) H N), (x, .cells (fcs (l.eraseIdx i)) k 20)]) := by
  have cD := dl_ct x n k i (fcs l) (by rw [fcs_len, hn]) hi hk hkl (fcs_one l)
  rw [fcs_er] at cD
  have hat := fcs_at (l := l) (i := i) (by omega)
  have hat2 := hat
  rw [List.getD_eq_getElem?_getD] at hat2
  have hln := fcs_len l
  rw [hn] at hln
  obtain ⟨C, hC⟩ : ∃ C, C = fcs l := ⟨_, rfl⟩
  rw [← hC] at cD hat hat2 hln ⊢
  obtain ⟨D, hD⟩ : ∃ D, D = fcs (l.eraseIdx i) := ⟨_, rfl⟩
  rw [← hD] at cD ⊢
  obtain ⟨V, hV⟩ : ∃ V, V = l[i]'(by omega) := ⟨_, rfl⟩
  rw [← hV] at hat hat2 ⊢
  obtain ⟨tt, htt⟩ : ∃ tt, tt = (if V.a = true then 65 else 63) := ⟨_, rfl⟩
  obtain ⟨X, hX⟩ : ∃ X, X = mv V.m := ⟨_, rfl⟩
  have hfv : fv V = .ifc tt X := by rw [htt, hX]; rfl
  rw [hfv] at hat hat2 ⊢
  clear hC hD hV htt hX hfv
  have s1 : IntKind.i64.wrap ((i : Int) + 1) = ((i + 1 : Nat) : Int) := by rw [wrap_i64 (by omega) (by omega)]; omega
  have t1 : ∀ q : Nat, ((q : Nat) : Int).toNat = q := fun q => by omega
  have g1 : i < C.length := by omega
  refine ACt.intro Try.func32 rfl (by kernel_rfl) (by simp [Try.ntmps32]) (fun cx => ?_)
  simp only [argE, Try.ntmps32, Try.results32]
  first | (have FRx := FR; clear FRx) | (have FR : Sm (¬ ((1 : Nat) = 0)) := Sm.mk Nat.one_ne_zero)
  repeat' first
    | (refine Sm.mk ?_; try simp -dsimp only [ZK, rvc, drawF, headN, pureH, stp, dvc, calleeOf, gcall, pev, eff, newB, okd, og, ogs, ogo, ogp, slv, bltv, opd, litv, strip, one, both, putE, St.put, look, gdOf, gdv, picka, pickv, pickw, binv, bini, bins, binb, binp, binq, isSlT, bina, shp, eqCells, unv, convv, nilv, faddv, addp, idxav, idxp, load1, load1m, loadn, loadnm, loadv, hget, hset, hrep, hdel, slicev, slice3v, bnd, shift1, lenv, capv, IntKind.bits, extractv, fieldv, indexv, min2v, max2v, mkiv, tasv, tasz, cellsA, fillA, buildv, stC, oneC, rowMB, intsA, plN, appE, appZ, appC, appS, srcB, appNZ, appNC, VwL, srcC, srcZ, srcM, isBoolT, isPtrT, isSliceT, uOk, Value.oneCell', Nat.reducePow, Int.reducePow, Nat.reduceAdd, Nat.reduceMul, Nat.reduceSub, Nat.reduceLT, Nat.reduceLeDiff, Nat.reduceEqDiff, Nat.reduceBEq, Nat.reduceDiv, Nat.reduceMod, ↓reduceIte, reduceCtorEq, Int.reduceToNat, Int.reduceLT, Int.reduceLE, drawMF, mkS, TFCnE, SeqQ, BlkQ, LoopQ, BodyQ, hd, hi, hat, hat2, hln, s1, t1, Nat.mul_one, Nat.zero_add, FR.out])
    | (refine CallV.upd (by simp only [hget, ↓reduceIte, FR.out, hd, hi, hat, hat2, hln, s1, t1, Nat.mul_one, Nat.zero_add]; first | done | rfl) (cD) (Sm.out ?_))
    | (refine WP.seq fun K hK => ?_)
    | (refine WP.region (rvc_sound _ _ (Sm.out ?_)))
    | (refine WP.drawMk (ia := 9) (k := 10) mixed (by decide +kernel) (by decide +kernel) (by decide +kernel) (by decide +kernel) (Sm.out ?_))
    | (refine WP.drawMk (ia := 12) (k := 13) mixed (by decide +kernel) (by decide +kernel) (by decide +kernel) (by decide +kernel) (Sm.out ?_))
    | (refine WP.drawK rfl mixed (by decide +kernel) (Sm.out ?_))
    | (refine Ob.mk ?_; focus (first | assumption | omega | decide | trivial | (intro hob; simp only [hob, ZF]; done) | (intros; (repeat' refine And.intro ?_ ?_) <;> first | assumption | omega | trivial | decide) | (intros; simp only [ZE] at *; (repeat' refine And.intro ?_ ?_) <;> first | assumption | omega | trivial)))
    | (refine And.intro (Ob.out ?_) ?_)
    | (refine WP.block ?_)
    | (refine WP.cond rfl (fun hc => ?_) (fun hc => ?_) <;> (try simp only [ZC, reduceCtorEq, ZD] at hc) <;> (try (exact absurd hc (by decide))) <;> (try (exfalso; omega)))
    | ((first | refine WP.skip ?_ | refine WP.exit ?_); simp only [SeqQ, BlkQ, LoopQ, BodyQ, ↓reduceIte, Nat.reduceEqDiff, reduceCtorEq, look, true_and])
    | (refine WP.ret (Sm.out ?_))
    | (first | refine ExG.no (Sm.out ?_) | refine Or.inl (ExG.no (Sm.out ?_)) | refine Or.inl (And.intro (fun hg => absurd hg (by decide)) (ExG.no (Sm.out ?_))))
    | (refine Rt.mk ?_; refine And.intro ?_ ?_ <;> (intro hg; first | exact absurd hg (by decide) | refine Sm.out ?_))
    | (refine Nu.mk ?_; first | (fail_if_success (have := nb1)); intro nb1 | (fail_if_success (have := nb2)); intro nb2 | (fail_if_success (have := nb3)); intro nb3 | (fail_if_success (have := nb4)); intro nb4 | (fail_if_success (have := nb5)); intro nb5 | (fail_if_success (have := nb6)); intro nb6 | (fail_if_success (have := nb7)); intro nb7 | (fail_if_success (have := nb8)); intro nb8 | intro nbz)
    | (refine Fr.mk ?_; intro hfr; (first | (have hFRb : _ ≤ _ ∧ _ ≤ _ := And.intro hfr.1 hfr.2.1) | (have hFRb : _ ≤ _ := hfr.1) | skip); replace FR := Sm.mk (And.intro hfr FR.out); clear hfr; refine Sm.out ?_)
    | (refine Two.mk ?_ ?_)
    | (refine Cs.mk ?_; intro hcs; first | exact False.elim hcs | (exfalso; omega) | (refine Sm.out ?_))
    | go_step
    | omega
    | (simp only [maxLen_eq]; omega)
  (refine OutQ.drop _ _ (perm2 (by simp only [hget, hdel, ↓reduceIte, if_true, if_false, FR.out, hd]; first | done | rfl) (by simp only [hget, hdel, ↓reduceIte, if_true, if_false, FR.out, hd]; first | done | rfl)) (by simp only [resv, ZK, look, loadv, loadn, loadnm, load1, load1m, hget, ↓reduceIte, Nat.reduceEqDiff, Nat.reduceAdd, Nat.reduceMul, Nat.reduceLeDiff, Nat.reduceLT, reduceCtorEq, TFCnE, FR.out, hd]) ⟨(by simp only [resv, resA, ZK, look, loadv, loadn, loadnm, load1, load1m, hget, ↓reduceIte, Nat.reduceEqDiff, Nat.reduceAdd, Nat.reduceMul, Nat.reduceLeDiff, Nat.reduceLT, reduceCtorEq, TFCnE, FR.out, hd]; first | done | rfl), rfl⟩)
end Go.Proofs.Ytbkojpkdphggeaa
