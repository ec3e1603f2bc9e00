/-
  The walks and the laws that the statement leans on, part 19.
-/
import Derived.Test.YtaffbklkjjmmdaaDoorP9
import Derived.Test.YtaffbklkjjmmdaaDoorP18
namespace Go.Proofs.YtaffbklkjjmmdaaDoor
open Go
set_option linter.unusedVariables false
set_option linter.unusedSimpArgs false
set_option linter.defProp false
def TFHuC :=
  And.intro (And.intro (And.intro (And.intro tyc0 (And.intro tyc3 zmb3)) (And.intro (And.intro tyc4 zmb4) (And.intro tyc22 elt22))) (And.intro (And.intro (And.intro mkz22 mkc22) (And.intro apT22 elk22)) (And.intro (And.intro zmb22 tyc32) (And.intro foff32_0 fpart32_0)))) (And.intro (And.intro (And.intro (And.intro foff32_1 fpart32_1) (And.intro foff32_2 fpart32_2)) (And.intro (And.intro foff32_3 fpart32_3) (And.intro foff32_4 fpart32_4))) (And.intro (And.intro (And.intro fe32 zmb32) (And.intro bldT32 Tryd.underlying0)) (And.intro (And.intro Tryd.underlying3 Tryd.underlying4) (And.intro Tryd.underlying22 Tryd.underlying32))))
theorem Y1HuC {G R : Prop} (r : R) (h : R → G := by intro r; first | (apply WP.region; exact rvc_sound _ _ (Sm.out r)) | exact WP.drawK rfl mixed (by decide +kernel) (Sm.out r) | (apply WP.block; exact r) | (apply WP.skip; exact Yq r) | (apply WP.exit; exact Yq r) | (apply WP.ret; exact Sm.out r) | exact WP.cond rfl (fun _ => r) (fun hg => absurd hg (by decide)) | exact WP.cond rfl (fun hg => absurd hg (by decide)) (fun _ => r) | exact Rt.mk (And.intro (fun _ => Sm.out r) fun hg => absurd hg (by decide)) | exact Rt.mk (And.intro (fun hg => absurd hg (by decide)) fun _ => Sm.out r)) : G := h r
theorem YzHuC {G R : Prop} (r : R) (h : R → G := by intro r; first | (apply ExG.no; exact Sm.out r) | (apply Or.inl; apply ExG.no; exact Sm.out r) | exact Or.inl (And.intro (fun hg => absurd hg (by decide)) (ExG.no (Sm.out r)))) : G := h r
theorem YsHuC0 {P Q : Prop} (q : Q) (h : P = Q := by (try (conv => lhs; simp -dsimp only [ZK, rvc, capA, appA, litL, mkfv, drawF, headN, pureH, stp, dvc, calleeOf, gcall, pev, eff, newB, okd, og, ogs, ogo, ogp, slv, bltv, opd, litv, strip, one, both, putE, St.put, look, gdOf, gdv, picka, pickv, pickw, binv, bini, bins, binb, binp, binq, isSlT, bina, shp, eqCells, unv, convv, nilv, faddv, addp, idxav, idxp, load1, load1m, loadn, loadnm, loadv, hget, hset, hrep, hdel, slicev, slice3v, bnd, shift1, lenv, capv, IntKind.bits, extractv, fieldv, indexv, min2v, max2v, mkiv, tasv, tasz, cellsA, fillA, buildv, stC, oneC, rowMB, intsA, plN, appE, appZ, appC, appS, srcB, appNZ, appNC, VwL, srcC, srcZ, srcM, isBoolT, isPtrT, isSliceT, uOk, Value.oneCell', Nat.reducePow, Int.reducePow, Nat.reduceAdd, Nat.reduceMul, Nat.reduceSub, Nat.reduceLT, Nat.reduceLeDiff, Nat.reduceEqDiff, Nat.reduceBEq, Nat.reduceDiv, Nat.reduceMod, ↓reduceIte, reduceCtorEq, Int.reduceToNat, Int.reduceLT, Int.reduceLE, TFHuC, SeqQ, BlkQ, LoopQ, BodyQ, List.nil_append, Nat.zero_add, FA.out, FR.out])) <;> exact rfl) : P := h.mpr q
theorem YsHuC1 {P Q : Prop} (q : Q) (h : P = Q := by (try (conv => lhs; simp -dsimp only [ZK, rvc, capA, appA, litL, mkfv, drawF, headN, pureH, stp, dvc, calleeOf, gcall, pev, eff, newB, okd, og, ogs, ogo, ogp, slv, bltv, opd, litv, strip, one, both, putE, St.put, look, gdOf, gdv, picka, pickv, pickw, binv, bini, bins, binb, binp, binq, isSlT, bina, shp, eqCells, unv, convv, nilv, faddv, addp, idxav, idxp, load1, load1m, loadn, loadnm, loadv, hget, hset, hrep, hdel, slicev, slice3v, bnd, shift1, lenv, capv, IntKind.bits, extractv, fieldv, indexv, min2v, max2v, mkiv, tasv, tasz, cellsA, fillA, buildv, stC, oneC, rowMB, intsA, plN, appE, appZ, appC, appS, srcB, appNZ, appNC, VwL, srcC, srcZ, srcM, isBoolT, isPtrT, isSliceT, uOk, Value.oneCell', Nat.reducePow, Int.reducePow, Nat.reduceAdd, Nat.reduceMul, Nat.reduceSub, Nat.reduceLT, Nat.reduceLeDiff, Nat.reduceEqDiff, Nat.reduceBEq, Nat.reduceDiv, Nat.reduceMod, ↓reduceIte, reduceCtorEq, Int.reduceToNat, Int.reduceLT, Int.reduceLE, TFHuC, SeqQ, BlkQ, LoopQ, BodyQ, Nat.zero_mul, List.length_nil, FA.out, FR.out])) <;> exact rfl) : P := h.mpr q
theorem YsHuC2 {P Q : Prop} (q : Q) (h : P = Q := by (try (conv => lhs; simp -dsimp only [ZK, rvc, capA, appA, litL, mkfv, drawF, headN, pureH, stp, dvc, calleeOf, gcall, pev, eff, newB, okd, og, ogs, ogo, ogp, slv, bltv, opd, litv, strip, one, both, putE, St.put, look, gdOf, gdv, picka, pickv, pickw, binv, bini, bins, binb, binp, binq, isSlT, bina, shp, eqCells, unv, convv, nilv, faddv, addp, idxav, idxp, load1, load1m, loadn, loadnm, loadv, hget, hset, hrep, hdel, slicev, slice3v, bnd, shift1, lenv, capv, IntKind.bits, extractv, fieldv, indexv, min2v, max2v, mkiv, tasv, tasz, cellsA, fillA, buildv, stC, oneC, rowMB, intsA, plN, appE, appZ, appC, appS, srcB, appNZ, appNC, VwL, srcC, srcZ, srcM, isBoolT, isPtrT, isSliceT, uOk, Value.oneCell', Nat.reducePow, Int.reducePow, Nat.reduceAdd, Nat.reduceMul, Nat.reduceSub, Nat.reduceLT, Nat.reduceLeDiff, Nat.reduceEqDiff, Nat.reduceBEq, Nat.reduceDiv, Nat.reduceMod, ↓reduceIte, reduceCtorEq, Int.reduceToNat, Int.reduceLT, Int.reduceLE, TFHuC, SeqQ, BlkQ, LoopQ, BodyQ, stL, Nat.mul_one, Nat.one_mul, Nat.zero_add, Nat.zero_mul, Nat.add_zero, Nat.sub_zero, List.replicate_one, repA_1, List.all_cons, oneC, Value.oneCell', Bool.and_true, List.length_cons, List.length_nil, List.take_zero, List.all_nil, List.append_nil, List.take_append_drop, FA.out, FR.out])) <;> exact rfl) : P := h.mpr q
theorem YsHuC3 {P Q : Prop} (q : Q) (h : P = Q := by (try (conv => lhs; simp -dsimp only [ZK, rvc, capA, appA, litL, mkfv, drawF, headN, pureH, stp, dvc, calleeOf, gcall, pev, eff, newB, okd, og, ogs, ogo, ogp, slv, bltv, opd, litv, strip, one, both, putE, St.put, look, gdOf, gdv, picka, pickv, pickw, binv, bini, bins, binb, binp, binq, isSlT, bina, shp, eqCells, unv, convv, nilv, faddv, addp, idxav, idxp, load1, load1m, loadn, loadnm, loadv, hget, hset, hrep, hdel, slicev, slice3v, bnd, shift1, lenv, capv, IntKind.bits, extractv, fieldv, indexv, min2v, max2v, mkiv, tasv, tasz, cellsA, fillA, buildv, stC, oneC, rowMB, intsA, plN, appE, appZ, appC, appS, srcB, appNZ, appNC, VwL, srcC, srcZ, srcM, isBoolT, isPtrT, isSliceT, uOk, Value.oneCell', Nat.reducePow, Int.reducePow, Nat.reduceAdd, Nat.reduceMul, Nat.reduceSub, Nat.reduceLT, Nat.reduceLeDiff, Nat.reduceEqDiff, Nat.reduceBEq, Nat.reduceDiv, Nat.reduceMod, ↓reduceIte, reduceCtorEq, Int.reduceToNat, Int.reduceLT, Int.reduceLE, TFHuC, SeqQ, BlkQ, LoopQ, BodyQ, hk1, stL, Nat.mul_one, Nat.one_mul, Nat.zero_add, Nat.sub_zero, List.replicate_one, repA_1, List.all_cons, List.all_nil, oneC, Value.oneCell', Bool.and_true, List.length_cons, List.length_nil, FA.out, FR.out])) <;> exact rfl) : P := h.mpr q
theorem clone_rowS (l : List Sl) (n : Nat) (hn : l.length = n) (h1 : 1 ≤ n) (hl : n ≤ 100000) : ACt Tryd.prog 43 [.sl n (scs l)] [] (fun r F' => ∃ x c : Nat, (n ≤ c ∧ c ≤ 9223372036854775807) ∧ r = ms x 0 n c ∧ F' = (x, .cells (scs l) (c * 5) 32) :: []) := by
  have hCl := scs_len l
  have ho := scs_one l
  rw [hn] at hCl
  obtain ⟨C, hC⟩ : ∃ C, C = scs l := ⟨_, rfl⟩
  rw [← hC] at hCl ho ⊢
  have q1 : 0 < n * 5 := by omega
  have e5 : C.take (n * 5) = C := List.take_of_length_le (by omega)
  have z1 : n ≠ 0 := by omega
  refine ACt.intro Tryd.func43 rfl (by kernel_rfl) (by simp [Tryd.ntmps43]) (fun cx => ?_)
  simp only [argE, Tryd.ntmps43, Tryd.results43]
  first | (have FRx := FR; clear FRx) | have FR := fr0S
  have FA := Sm.mk (And.intro TFHuC (And.intro q1 (And.intro hCl (And.intro ho z1))))
  repeat' first | (apply Sm.mk; refine YsHuC0 ?_) | refine WP.seq fun K hK => ?_ | (apply Ob.mk; exact Yo) | refine And.intro (Ob.out ?_) ?_ | refine Y1HuC ?_ | refine YzHuC ?_ | (refine WP.cond rfl (fun hc => ?_) (fun hc => ?_) <;> (try simp only [ZC, reduceCtorEq, ZD] at hc) <;> (try exact absurd hc (by decide)) <;> (try (exfalso; omega))) | refine Rt.mk (And.intro (fun hg => Sm.out ?_) fun hg => Sm.out ?_) | (refine Nu.mk ?_; first | (fail_if_success have := nb1); intro nb1 | (fail_if_success have := nb2); intro nb2 | (fail_if_success have := nb3); intro nb3 | (fail_if_success have := nb4); intro nb4 | (fail_if_success have := nb5); intro nb5 | (fail_if_success have := nb6); intro nb6 | intro nbz) | (apply Yfr; refine Yf FR fun hFRb FR => ?_) | refine Two.mk ?_ ?_ | (apply Yxc; exact Yx) | refine Cs.mk fun hcs => Sm.out ?_ | go_step | omega | (simp only [maxLen_eq]; omega) | exact trivial
  (refine OutQ.drop _ _ (perm1 (by simp only [hget, hdel, ↓reduceIte, if_true, if_false, FR.out, hCl, Nat.zero_add, List.nil_append]; first | done | rfl)) (by simp only [resv, ZK, look, loadv, loadn, loadnm, load1, load1m, hget, ↓reduceIte, Nat.reduceEqDiff, Nat.reduceAdd, Nat.reduceMul, Nat.reduceLeDiff, Nat.reduceLT, reduceCtorEq, TFHuC, FR.out, hCl, Nat.zero_add, List.nil_append]) ⟨nb2, nb3, FR.out.1, (by simp only [resv, resA, ZK, look, loadv, loadn, loadnm, load1, load1m, hget, ↓reduceIte, Nat.reduceEqDiff, Nat.reduceAdd, Nat.reduceMul, Nat.reduceLeDiff, Nat.reduceLT, reduceCtorEq, TFHuC, FR.out, hCl, Nat.zero_add, List.nil_append]; first | done | rfl), rfl⟩)
theorem clone_rowZ (ad : Addr) (cap : Nat) (hm : cap ≤ maxLen) : ACt Tryd.prog 43 [.lit (.slice (some ad) 0 cap)] [] (fun r F' => ∃ x c : Nat, (0 ≤ c ∧ c ≤ 9223372036854775807) ∧ r = ms x 0 0 c ∧ F' = (x, .cells (scs []) (c * 5) 32) :: []) := by
  have k : (some ad).isNone = false := rfl
  have he : scs [] = [] := rfl
  rw [he]
  refine ACt.intro Tryd.func43 rfl (by kernel_rfl) (by simp [Tryd.ntmps43]) (fun cx => ?_)
  simp only [argE, Tryd.ntmps43, Tryd.results43]
  first | (have FRx := FR; clear FRx) | have FR := fr0S
  have FA := Sm.mk (And.intro TFHuC k)
  repeat' first | (apply Sm.mk; refine Ys ?_) | refine WP.seq fun K hK => ?_ | (apply Ob.mk; exact Yo) | refine And.intro (Ob.out ?_) ?_ | ((fail_if_success (show WP _ _ _ (.region 3 _ _) _ _)); refine Y1HuC ?_) | refine YzHuC ?_ | (refine WP.cond rfl (fun hc => ?_) (fun hc => ?_) <;> (try simp only [ZC, reduceCtorEq, ZD] at hc) <;> (try exact absurd hc (by decide)) <;> (try (exfalso; omega))) | refine Rt.mk (And.intro (fun hg => Sm.out ?_) fun hg => Sm.out ?_) | (refine Nu.mk ?_; first | (fail_if_success have := nb1); intro nb1 | (fail_if_success have := nb2); intro nb2 | (fail_if_success have := nb3); intro nb3 | (fail_if_success have := nb4); intro nb4 | (fail_if_success have := nb5); intro nb5 | (fail_if_success have := nb6); intro nb6 | intro nbz) | (apply Yfr; refine Yf FR fun hFRb FR => ?_) | refine Two.mk ?_ ?_ | (apply Yxc; exact Yx) | refine Cs.mk fun hcs => Sm.out ?_ | go_step | omega | (simp only [maxLen_eq]; omega) | exact trivial
  refine WP.wk (Wk.cons (i := 0) (by simp only [look, ↓reduceIte, Nat.reduceEqDiff]; rfl) (fun w I v h => rep_sl0 hm h)) ?_
  first | (have FRx := FR; clear FRx) | have FR := fr0S
  have FA := Sm.mk (TFHuC)
  repeat' first | (apply Sm.mk; refine YsHuC1 ?_) | refine WP.seq fun K hK => ?_ | (apply Ob.mk; exact Yo) | refine And.intro (Ob.out ?_) ?_ | refine Y1HuC ?_ | refine YzHuC ?_ | (refine WP.cond rfl (fun hc => ?_) (fun hc => ?_) <;> (try simp only [ZC, reduceCtorEq, ZD] at hc) <;> (try exact absurd hc (by decide)) <;> (try (exfalso; omega))) | refine Rt.mk (And.intro (fun hg => Sm.out ?_) fun hg => Sm.out ?_) | (refine Nu.mk ?_; first | (fail_if_success have := nb1); intro nb1 | (fail_if_success have := nb2); intro nb2 | (fail_if_success have := nb3); intro nb3 | (fail_if_success have := nb4); intro nb4 | (fail_if_success have := nb5); intro nb5 | (fail_if_success have := nb6); intro nb6 | intro nbz) | (apply Yfr; refine Yf FR fun hFRb FR => ?_) | refine Two.mk ?_ ?_ | (apply Yxc; exact Yx) | refine Cs.mk fun hcs => Sm.out ?_ | go_step | omega | (simp only [maxLen_eq]; omega) | exact trivial
  (refine OutQ.drop _ _ (perm1 (by simp only [hget, hdel, ↓reduceIte, if_true, if_false, FR.out]; first | done | rfl)) (by simp only [resv, ZK, look, loadv, loadn, loadnm, load1, load1m, hget, ↓reduceIte, Nat.reduceEqDiff, Nat.reduceAdd, Nat.reduceMul, Nat.reduceLeDiff, Nat.reduceLT, reduceCtorEq, TFHuC, FR.out]) ⟨nb2, nb3, FR.out.1, (by simp only [resv, resA, ZK, look, loadv, loadn, loadnm, load1, load1m, hget, ↓reduceIte, Nat.reduceEqDiff, Nat.reduceAdd, Nat.reduceMul, Nat.reduceLeDiff, Nat.reduceLT, reduceCtorEq, TFHuC, FR.out]; first | done | rfl), rfl⟩)
theorem clone_nil (cap : Nat) : ACt Tryd.prog 43 [.lit (.slice none 0 cap)] [] (Fn nsl) := by
  have k : (none : Option Addr).isNone = true := rfl
  refine ACt.intro Tryd.func43 rfl (by kernel_rfl) (by simp [Tryd.ntmps43]) (fun cx => ?_)
  simp only [argE, Tryd.ntmps43, Tryd.results43]
  first | (have FRx := FR; clear FRx) | have FR := fr0S
  have FA := Sm.mk (And.intro TFHuC k)
  repeat' first | (apply Sm.mk; refine Ys ?_) | refine WP.seq fun K hK => ?_ | (apply Ob.mk; exact Yo) | refine And.intro (Ob.out ?_) ?_ | refine Y1HuC ?_ | refine YzHuC ?_ | (refine WP.cond rfl (fun hc => ?_) (fun hc => ?_) <;> (try simp only [ZC, reduceCtorEq, ZD] at hc) <;> (try exact absurd hc (by decide)) <;> (try (exfalso; omega))) | refine Rt.mk (And.intro (fun hg => Sm.out ?_) fun hg => Sm.out ?_) | (refine Nu.mk ?_; first | (fail_if_success have := nb1); intro nb1 | (fail_if_success have := nb2); intro nb2 | (fail_if_success have := nb3); intro nb3 | (fail_if_success have := nb4); intro nb4 | (fail_if_success have := nb5); intro nb5 | (fail_if_success have := nb6); intro nb6 | intro nbz) | (apply Yfr; refine Yf FR fun hFRb FR => ?_) | refine Two.mk ?_ ?_ | (apply Yxc; exact Yx) | refine Cs.mk fun hcs => Sm.out ?_ | go_step | omega | (simp only [maxLen_eq]; omega) | exact trivial
  (refine Yg ?_; try exact trivial)
theorem Wk.cutc {env : List (Nat × AV)} {H : Hp} (b m : Nat) {cs : List AV} {s0 : Nat} {ty : TypeId} (hg : hget H b = some (.cells cs s0 ty)) : Wk ⟨env, H⟩ ⟨env, hset H b (.cells (cs.take m) s0 ty)⟩ := by
  intro cx n a w ok
  obtain ⟨h1, h2⟩ := ok.world.conv (m' := .cells (cs.take m) s0 ty) (hget_mem hg) (fun I hm => by
    obtain ⟨cur, c1, c2, c3, c4⟩ := hm
    refine ⟨cur, c1, c2, by simp; omega, fun i hi => ?_⟩
    have hi' : i < m ∧ i < cs.length := by rw [List.length_take] at hi; omega
    rw [List.getElem_take]
    exact c4 i hi'.2)
  exact ⟨ok.defers, ok.size, fun i => (ok.reps i).mono fun c hc => ⟨(h2 c).1 hc, rfl⟩, h1⟩
theorem OutQ.cutc {P : Program} {rs : List ResultVar} {Q : AV → Hp → Prop} {env : List (Nat × AV)} {H : Hp} (b m : Nat) {cs : List AV} {s0 : Nat} {ty : TypeId} (hg : hget H b = some (.cells cs s0 ty)) (h : OutQ P rs Q ⟨env, hset H b (.cells (cs.take m) s0 ty)⟩) : OutQ P rs Q ⟨env, H⟩ := OutQ.wk (Wk.cutc b m hg) h
theorem tkZ {m : Nat} {Z : List AV} (h : Z.length = m) (Y R D : List AV) : (List.take m (Z ++ Y) ++ R ++ D).take m = Z := by
  subst h
  rw [List.take_append_of_le_length (Nat.le_refl _), List.take_of_length_le (Nat.le_refl _), List.append_assoc, List.take_append_of_le_length (Nat.le_refl _), List.take_of_length_le (Nat.le_refl _)]
theorem tkW {m : Nat} {A : List AV} (h : m ≤ A.length) (R D : List AV) : (List.take m A ++ R ++ D).take m = A.take m := by
  rw [List.append_assoc, List.take_append_of_le_length (by rw [List.length_take]; omega), List.take_take, Nat.min_self]
theorem repA_1 (l : List AV) : repA 1 l = l := by simp [repA]
theorem dl_ct (x n k i : Nat) (cs : List AV) (hn : cs.length = n * 5) (hi : i < n) (hk : n ≤ k ∧ k ≤ 9223372036854775807) (hkl : n ≤ 100000) (ho : cs.all oneC = true) :
    ACt Tryd.prog 45 [ms x 0 n k, iv .i64 (i : Int), iv .i64 ((i + 1 : Nat) : Int)] [(x, .cells cs (k * 5) 32)] (fun r F' => r = ms x 0 (n - 1) k ∧ F' = [(x, .cells (cs.take (i * 5) ++ cs.drop ((i + 1) * 5)) (k * 5) 32)]) := by
  obtain ⟨M, hM⟩ : ∃ M, M = n - (i + 1) := ⟨_, rfl⟩
  have hM' : n - (i + 1) = M := hM.symm
  obtain ⟨T, hT⟩ : ∃ T, T = cs.drop ((i + 1) * 5) := ⟨_, rfl⟩
  have hTl : T.length = M * 5 := by rw [hT, List.length_drop]; omega
  have hTt : T.take (M * 5) = T := List.take_of_length_le (by omega)
  have ho1 : T.all oneC = true := by
    rw [hT, List.all_eq_true]
    intro y hy
    exact List.all_eq_true.1 ho y (List.mem_of_mem_drop hy)
  have hTd : cs.drop ((i + 1) * 5) = T := hT.symm
  have t1 : ∀ q : Nat, ((q : Nat) : Int).toNat = q := fun q => by omega
  have k0 : ((i : Int) == ((i + 1 : Nat) : Int)) = false := beq_eq_false_iff_ne.2 (by omega)
  have k1 : k ≠ 0 := by omega
  have k2 : k ≠ i + M := by omega
  have e1 : i + M = n - 1 := by omega
  have e2 : n - (i + M) = 1 := by omega
  have b1 : i + M ≤ k := by omega
  have b2 : i + M ≤ n := by omega
  have b3 : i + 1 + M ≤ n := by omega
  have b4 : i + M + 1 ≤ n := by omega
  have b5 : i * 5 ≤ n * 5 := by omega
  have f4 := tkZ (m := (i + M) * 5) (Z := cs.take (i * 5) ++ T) (by simp; omega)
  clear hT ho hM
  by_cases hk1 : k = i + 1
  · have hM0 : M = 0 := by omega
    have hT0 : T = [] := List.eq_nil_of_length_eq_zero (by omega)
    subst hM0 hT0 hk1
    have k3 : i + 1 ≠ i := by omega
    have f5 := tkW (m := i * 5) (A := cs) (by omega)
    have e1' : n - 1 = i := by omega
    simp only [Nat.add_zero, List.append_nil] at *
    refine ACt.intro Tryd.func45 rfl (by kernel_rfl) (by simp [Tryd.ntmps45]) (fun cx => ?_)
    simp only [argE, Tryd.ntmps45, Tryd.results45]
    first | (have FRx := FR; clear FRx) | have FR := fr0S
    have FA := Sm.mk (And.intro TFHuC (And.intro k0 (And.intro k3 (And.intro t1 (And.intro hM' (And.intro hTd (And.intro hTl (And.intro hTt (And.intro ho1 (And.intro hn (And.intro e2 (And.intro b1 (And.intro b2 (And.intro b3 (And.intro b4 b5)))))))))))))))
    repeat' first | (apply Sm.mk; refine YsHuC2 ?_) | refine WP.seq fun K hK => ?_ | (apply Ob.mk; exact Yo) | refine And.intro (Ob.out ?_) ?_ | refine Y1HuC ?_ | refine YzHuC ?_ | (refine WP.cond rfl (fun hc => ?_) (fun hc => ?_) <;> (try simp only [ZC, reduceCtorEq, ZD] at hc) <;> (try exact absurd hc (by decide)) <;> (try (exfalso; omega))) | refine Rt.mk (And.intro (fun hg => Sm.out ?_) fun hg => Sm.out ?_) | (refine Nu.mk ?_; first | (fail_if_success have := nb1); intro nb1 | (fail_if_success have := nb2); intro nb2 | (fail_if_success have := nb3); intro nb3 | (fail_if_success have := nb4); intro nb4 | (fail_if_success have := nb5); intro nb5 | (fail_if_success have := nb6); intro nb6 | intro nbz) | (apply Yfr; refine Yf FR fun hFRb FR => ?_) | refine Two.mk ?_ ?_ | (apply Yxc; exact Yx) | refine Cs.mk fun hcs => Sm.out ?_ | go_step | omega | (simp only [maxLen_eq]; omega) | exact trivial
    (refine OutQ.cutc (cs := ?_) (s0 := ?_) (ty := ?_) x (i * 5) ?hg ?_; case hg => exact if_pos rfl); simp only [hset, ↓reduceIte, f5]
    (refine OutQ.upd (by simp only [resv, ZK, look, loadv, loadn, loadnm, load1, load1m, hget, ↓reduceIte, Nat.reduceEqDiff, Nat.reduceAdd, Nat.reduceMul, Nat.reduceLeDiff, Nat.reduceLT, reduceCtorEq, TFHuC, FR.out, e1', f5]) (by simp only [resv, resA, ZK, look, loadv, loadn, loadnm, load1, load1m, hget, ↓reduceIte, Nat.reduceEqDiff, Nat.reduceAdd, Nat.reduceMul, Nat.reduceLeDiff, Nat.reduceLT, reduceCtorEq, TFHuC, FR.out, e1', f5]; first | done | rfl) (by simp only [hget, ↓reduceIte, if_true, if_false, FR.out, e1', f5]; first | done | rfl) ?_ <;> first | exact rfl | (simp only [ZK, look, loadv, loadn, loadnm, load1, load1m, hget, ↓reduceIte, Nat.reduceEqDiff, Nat.reduceAdd, Nat.reduceMul, Nat.reduceLeDiff, Nat.reduceLT, reduceCtorEq, TFHuC, FR.out, e1', f5]; done) | skip)
  · refine ACt.intro Tryd.func45 rfl (by kernel_rfl) (by simp [Tryd.ntmps45]) (fun cx => ?_)
    simp only [argE, Tryd.ntmps45, Tryd.results45]
    first | (have FRx := FR; clear FRx) | have FR := fr0S
    have FA := Sm.mk (And.intro TFHuC (And.intro k0 (And.intro k1 (And.intro k2 (And.intro t1 (And.intro hM' (And.intro hTd (And.intro hTl (And.intro hTt (And.intro ho1 (And.intro hn (And.intro e2 (And.intro b1 (And.intro b2 (And.intro b3 (And.intro b4 b5))))))))))))))))
    repeat' first | (apply Sm.mk; refine YsHuC3 ?_) | refine WP.seq fun K hK => ?_ | (apply Ob.mk; exact Yo) | refine And.intro (Ob.out ?_) ?_ | refine Y1HuC ?_ | refine YzHuC ?_ | (refine WP.cond rfl (fun hc => ?_) (fun hc => ?_) <;> (try simp only [ZC, reduceCtorEq, ZD] at hc) <;> (try exact absurd hc (by decide)) <;> (try (exfalso; omega))) | refine Rt.mk (And.intro (fun hg => Sm.out ?_) fun hg => Sm.out ?_) | (refine Nu.mk ?_; first | (fail_if_success have := nb1); intro nb1 | (fail_if_success have := nb2); intro nb2 | (fail_if_success have := nb3); intro nb3 | (fail_if_success have := nb4); intro nb4 | (fail_if_success have := nb5); intro nb5 | (fail_if_success have := nb6); intro nb6 | intro nbz) | (apply Yfr; refine Yf FR fun hFRb FR => ?_) | refine Two.mk ?_ ?_ | (apply Yxc; exact Yx) | refine Cs.mk fun hcs => Sm.out ?_ | go_step | omega | (simp only [maxLen_eq]; omega) | exact trivial
    (refine OutQ.cutc (cs := ?_) (s0 := ?_) (ty := ?_) x ((i + M) * 5) ?hg2 ?_; case hg2 => exact if_pos rfl); simp only [hset, ↓reduceIte, f4]
    (refine OutQ.upd (by simp only [resv, ZK, look, loadv, loadn, loadnm, load1, load1m, hget, ↓reduceIte, Nat.reduceEqDiff, Nat.reduceAdd, Nat.reduceMul, Nat.reduceLeDiff, Nat.reduceLT, reduceCtorEq, TFHuC, FR.out, e1]) (by simp only [resv, resA, ZK, look, loadv, loadn, loadnm, load1, load1m, hget, ↓reduceIte, Nat.reduceEqDiff, Nat.reduceAdd, Nat.reduceMul, Nat.reduceLeDiff, Nat.reduceLT, reduceCtorEq, TFHuC, FR.out, e1]; first | done | rfl) (by simp only [hget, ↓reduceIte, if_true, if_false, FR.out, e1]; first | done | rfl) ?_ <;> first | exact rfl | (simp only [ZK, look, loadv, loadn, loadnm, load1, load1m, hget, ↓reduceIte, Nat.reduceEqDiff, Nat.reduceAdd, Nat.reduceMul, Nat.reduceLeDiff, Nat.reduceLT, reduceCtorEq, TFHuC, FR.out, e1]; done) | skip)
end Go.Proofs.YtaffbklkjjmmdaaDoor
