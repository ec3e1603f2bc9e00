/-
  The walks and the laws that the statement leans on, part 23.
-/
import Derived.Test.YtaffbklkjjmmdaaDoorP9
import Derived.Test.YtaffbklkjjmmdaaDoorP22
namespace Go.Proofs.YtaffbklkjjmmdaaDoor
open Go
set_option linter.unusedVariables false
set_option linter.unusedSimpArgs false
set_option linter.defProp false
def TFHuH :=
  And.intro (And.intro (And.intro (And.intro (And.intro tyc0 tyc2) (And.intro zmb2 (And.intro tyc3 zmb3))) (And.intro (And.intro tyc4 zmb4) (And.intro tyc9 (And.intro zmb9 tyc22)))) (And.intro (And.intro (And.intro elt22 mkz22) (And.intro mkc22 (And.intro apT22 elk22))) (And.intro (And.intro zmb22 tyc32) (And.intro foff32_0 (And.intro fpart32_0 foff32_1))))) (And.intro (And.intro (And.intro (And.intro fpart32_1 foff32_2) (And.intro fpart32_2 (And.intro foff32_3 fpart32_3))) (And.intro (And.intro foff32_4 fpart32_4) (And.intro fe32 (And.intro zmb32 bldT32)))) (And.intro (And.intro (And.intro tyc40 zmb40) (And.intro Tryd.underlying0 (And.intro Tryd.underlying2 Tryd.underlying3))) (And.intro (And.intro Tryd.underlying4 Tryd.underlying9) (And.intro Tryd.underlying22 (And.intro Tryd.underlying32 Tryd.underlying40)))))
theorem Y1HuH {G R : Prop} (r : R) (h : R → G := by intro r; first | (apply WP.region; exact rvc_sound _ _ (Sm.out r)) | exact WP.drawK rfl mixed (by decide +kernel) (Sm.out r) | (apply WP.block; exact r) | (apply WP.skip; exact Yq r) | (apply WP.exit; exact Yq r) | (apply WP.ret; exact Sm.out r) | exact WP.cond rfl (fun _ => r) (fun hg => absurd hg (by decide)) | exact WP.cond rfl (fun hg => absurd hg (by decide)) (fun _ => r) | exact Rt.mk (And.intro (fun _ => Sm.out r) fun hg => absurd hg (by decide)) | exact Rt.mk (And.intro (fun hg => absurd hg (by decide)) fun _ => Sm.out r)) : G := h r
theorem YzHuH {G R : Prop} (r : R) (h : R → G := by intro r; first | (apply ExG.no; exact Sm.out r) | (apply Or.inl; apply ExG.no; exact Sm.out r) | exact Or.inl (And.intro (fun hg => absurd hg (by decide)) (ExG.no (Sm.out r)))) : G := h r
theorem YsHuH0 {P Q : Prop} (q : Q) (h : P = Q := by (try (conv => lhs; simp -dsimp only [ZK, rvc, capA, appA, litL, mkfv, drawF, headN, pureH, stp, dvc, calleeOf, gcall, pev, eff, newB, okd, og, ogs, ogo, ogp, slv, bltv, opd, litv, strip, one, both, putE, St.put, look, gdOf, gdv, picka, pickv, pickw, binv, bini, bins, binb, binp, binq, isSlT, bina, shp, eqCells, unv, convv, nilv, faddv, addp, idxav, idxp, load1, load1m, loadn, loadnm, loadv, hget, hset, hrep, hdel, slicev, slice3v, bnd, shift1, lenv, capv, IntKind.bits, extractv, fieldv, indexv, min2v, max2v, mkiv, tasv, tasz, cellsA, fillA, buildv, stC, oneC, rowMB, intsA, plN, appE, appZ, appC, appS, srcB, appNZ, appNC, VwL, srcC, srcZ, srcM, isBoolT, isPtrT, isSliceT, uOk, Value.oneCell', Nat.reducePow, Int.reducePow, Nat.reduceAdd, Nat.reduceMul, Nat.reduceSub, Nat.reduceLT, Nat.reduceLeDiff, Nat.reduceEqDiff, Nat.reduceBEq, Nat.reduceDiv, Nat.reduceMod, ↓reduceIte, reduceCtorEq, Int.reduceToNat, Int.reduceLT, Int.reduceLE, TFHuH, SeqQ, BlkQ, LoopQ, BodyQ, Nat.zero_add, List.nil_append, FA.out, FR.out])) <;> exact rfl) : P := h.mpr q
theorem YsHuH1 {P Q : Prop} (q : Q) (h : P = Q := by (try (conv => lhs; simp -dsimp only [ZK, rvc, capA, appA, litL, mkfv, drawF, headN, pureH, stp, dvc, calleeOf, gcall, pev, eff, newB, okd, og, ogs, ogo, ogp, slv, bltv, opd, litv, strip, one, both, putE, St.put, look, gdOf, gdv, picka, pickv, pickw, binv, bini, bins, binb, binp, binq, isSlT, bina, shp, eqCells, unv, convv, nilv, faddv, addp, idxav, idxp, load1, load1m, loadn, loadnm, loadv, hget, hset, hrep, hdel, slicev, slice3v, bnd, shift1, lenv, capv, IntKind.bits, extractv, fieldv, indexv, min2v, max2v, mkiv, tasv, tasz, cellsA, fillA, buildv, stC, oneC, rowMB, intsA, plN, appE, appZ, appC, appS, srcB, appNZ, appNC, VwL, srcC, srcZ, srcM, isBoolT, isPtrT, isSliceT, uOk, Value.oneCell', Nat.reducePow, Int.reducePow, Nat.reduceAdd, Nat.reduceMul, Nat.reduceSub, Nat.reduceLT, Nat.reduceLeDiff, Nat.reduceEqDiff, Nat.reduceBEq, Nat.reduceDiv, Nat.reduceMod, ↓reduceIte, reduceCtorEq, Int.reduceToNat, Int.reduceLT, Int.reduceLE, TFHuH, SeqQ, BlkQ, LoopQ, BodyQ, Nat.sub_zero, List.nil_append, Nat.zero_add, FA.out, FR.out])) <;> exact rfl) : P := h.mpr q
set_option maxHeartbeats 4000000 in
theorem radd_row (l : List Sl) (s : Sl) (now : Int) (n : Nat) (hn : l.length = n) (hl : n ≤ 100000) (hz : Sz s) :
    ACt Tryd.prog 18 [.sl n (scs l), siv s, iv .i64 now] [] (fun r F' => Vw F' r (adR l s now)) := by
  have cR := rsright_ct s hz
  have cN := find_ct l s.nm n hn hl
  have hA1 : srB s = false → adR l s now = .tup [.sl 0 [], iv .i64 2] := fun h => ad_no (addC1 h) (by decide)
  have hA2 : srB s = true → s.t ≤ now → adR l s now = .tup [.sl 0 [], iv .i64 13] := fun h h2 => ad_no (addC2 h h2) (by decide)
  have hA3 : srB s = true → ¬ s.t ≤ now → 0 ≤ ixF (nmP s.nm) l 0 → adR l s now = .tup [.sl 0 [], iv .i64 18] := fun h h2 h3 => ad_no (addC3 h h2 h3) (by decide)
  have hA4 : srB s = true → ¬ s.t ≤ now → ¬ 0 ≤ ixF (nmP s.nm) l 0 → 12 ≤ n → adR l s now = .tup [.sl 0 [], iv .i64 11] := fun h h2 h3 h4 => ad_no (addC4 h h2 h3 (by omega)) (by decide)
  have hA5 : srB s = true → ¬ s.t ≤ now → ¬ 0 ≤ ixF (nmP s.nm) l 0 → ¬ 12 ≤ n → adR l s now = .tup [.sl (n + 1) (scs l ++ [.lit (.string s.nm), .lit (.string s.gl), iv .i64 s.w, iv .i64 s.f, iv .i64 s.t]), iv .i64 0] := fun h h2 h3 h4 => ad_yes hn (addC5 h h2 h3 (by omega))
  have hCl := scs_len l
  have ho := scs_one l
  rw [hn] at hCl
  obtain ⟨R, hR⟩ : ∃ R, R = adR l s now := ⟨_, rfl⟩
  rw [← hR] at hA1 hA2 hA3 hA4 hA5 ⊢
  obtain ⟨p, hp⟩ : ∃ p, srB s = p := ⟨_, rfl⟩
  rw [hp] at cR hA1 hA2 hA3 hA4 hA5
  obtain ⟨x, hx⟩ : ∃ x : Int, ixF (nmP s.nm) l 0 = x := ⟨_, rfl⟩
  rw [hx] at cN hA3 hA4 hA5
  obtain ⟨C, hC'⟩ : ∃ C, C = scs l := ⟨_, rfl⟩
  rw [← hC'] at cN hCl ho hA5 ⊢
  obtain ⟨sn, sg, w, f, t⟩ := s
  simp only at cR cN hA1 hA2 hA3 hA4 hA5
  clear hR hp hx hz hC'
  have q1 : (n + 1) * 5 = n * 5 + 5 := by omega
  have e5 : C.take (n * 5) = C := List.take_of_length_le (by omega)
  refine ACt.intro Tryd.func18 rfl (by kernel_rfl) (by simp [Tryd.ntmps18]) (fun cx => ?_)
  simp only [argE, Tryd.ntmps18, Tryd.results18]
  first | (have FRx := FR; clear FRx) | have FR := fr0S
  have FA := Sm.mk (And.intro TFHuH (And.intro q1 (And.intro hCl (And.intro ho e5))))
  repeat' first | (apply Sm.mk; refine YsHuH0 ?_) | refine WP.seq fun K hK => ?_ | (apply Ob.mk; exact Yo) | refine And.intro (Ob.out ?_) ?_ | refine Y1HuH ?_ | refine Yc (c := cR) (r := ?_) | refine Yc (c := cN) (r := ?_) | refine YzHuH ?_ | (refine WP.cond rfl (fun hc => ?_) (fun hc => ?_) <;> (try simp only [ZC, reduceCtorEq, ZD] at hc) <;> (try exact absurd hc (by decide)) <;> (try (exfalso; omega))) | refine Rt.mk (And.intro (fun hg => Sm.out ?_) fun hg => Sm.out ?_) | (refine Nu.mk ?_; first | (fail_if_success have := nb1); intro nb1 | (fail_if_success have := nb2); intro nb2 | (fail_if_success have := nb3); intro nb3 | (fail_if_success have := nb4); intro nb4 | (fail_if_success have := nb5); intro nb5 | (fail_if_success have := nb6); intro nb6 | (fail_if_success have := nb7); intro nb7 | (fail_if_success have := nb8); intro nb8 | (fail_if_success have := nb9); intro nb9 | (fail_if_success have := nb10); intro nb10 | (fail_if_success have := nb11); intro nb11 | (fail_if_success have := nb12); intro nb12 | intro nbz) | (apply Yfr; refine Yf FR fun hFRb FR => ?_) | refine Two.mk ?_ ?_ | (apply Yxc; exact Yx) | refine Cs.mk fun hcs => Sm.out ?_ | go_step | omega | (simp only [maxLen_eq]; omega) | exact trivial
  · (refine OutQ.drop [] _ (List.Perm.refl _) (by simp only [resv, ZK, look, loadv, loadn, loadnm, load1, load1m, hget, ↓reduceIte, Nat.reduceEqDiff, Nat.reduceAdd, Nat.reduceMul, Nat.reduceLeDiff, Nat.reduceLT, reduceCtorEq, TFHuH, FR.out]) ?_; simp only [resv, resA, ZK, look, loadv, loadn, loadnm, load1, load1m, hget, ↓reduceIte, Nat.reduceEqDiff, Nat.reduceAdd, Nat.reduceMul, Nat.reduceLeDiff, Nat.reduceLT, reduceCtorEq, TFHuH, FR.out]; exact vw_nilc (hA1 hc))
  · (refine OutQ.drop [] _ (List.Perm.refl _) (by simp only [resv, ZK, look, loadv, loadn, loadnm, load1, load1m, hget, ↓reduceIte, Nat.reduceEqDiff, Nat.reduceAdd, Nat.reduceMul, Nat.reduceLeDiff, Nat.reduceLT, reduceCtorEq, TFHuH, FR.out]) ?_; simp only [resv, resA, ZK, look, loadv, loadn, loadnm, load1, load1m, hget, ↓reduceIte, Nat.reduceEqDiff, Nat.reduceAdd, Nat.reduceMul, Nat.reduceLeDiff, Nat.reduceLT, reduceCtorEq, TFHuH, FR.out]; exact vw_nilc (hA2 (by assumption) hc))
  · (refine OutQ.drop [] _ (List.Perm.refl _) (by simp only [resv, ZK, look, loadv, loadn, loadnm, load1, load1m, hget, ↓reduceIte, Nat.reduceEqDiff, Nat.reduceAdd, Nat.reduceMul, Nat.reduceLeDiff, Nat.reduceLT, reduceCtorEq, TFHuH, FR.out]) ?_; simp only [resv, resA, ZK, look, loadv, loadn, loadnm, load1, load1m, hget, ↓reduceIte, Nat.reduceEqDiff, Nat.reduceAdd, Nat.reduceMul, Nat.reduceLeDiff, Nat.reduceLT, reduceCtorEq, TFHuH, FR.out]; exact vw_nilc (hA3 (by assumption) (by omega) (by omega)))
  · (refine OutQ.drop [] _ (List.Perm.refl _) (by simp only [resv, ZK, look, loadv, loadn, loadnm, load1, load1m, hget, ↓reduceIte, Nat.reduceEqDiff, Nat.reduceAdd, Nat.reduceMul, Nat.reduceLeDiff, Nat.reduceLT, reduceCtorEq, TFHuH, FR.out]) ?_; simp only [resv, resA, ZK, look, loadv, loadn, loadnm, load1, load1m, hget, ↓reduceIte, Nat.reduceEqDiff, Nat.reduceAdd, Nat.reduceMul, Nat.reduceLeDiff, Nat.reduceLT, reduceCtorEq, TFHuH, FR.out]; exact vw_nilc (hA4 (by assumption) (by omega) (by omega) (by omega)))
  · have hA := hA5 (by assumption) (by omega) (by omega) (by omega)
    (refine OutQ.drop _ _ (perm1 (b := nb6) (by simp only [hget, hdel, ↓reduceIte, if_true, if_false, FR.out]; first | done | rfl)) (by simp only [resv, ZK, look, loadv, loadn, loadnm, load1, load1m, hget, ↓reduceIte, Nat.reduceEqDiff, Nat.reduceAdd, Nat.reduceMul, Nat.reduceLeDiff, Nat.reduceLT, reduceCtorEq, TFHuH, FR.out]) ?_; simp only [resv, resA, ZK, look, loadv, loadn, loadnm, load1, load1m, hget, ↓reduceIte, Nat.reduceEqDiff, Nat.reduceAdd, Nat.reduceMul, Nat.reduceLeDiff, Nat.reduceLT, reduceCtorEq, TFHuH, FR.out]; exact vw_rowc hA hFRb.1 hFRb.2)
theorem radd_ct (l : List Sl) (s : Sl) (now : Int) (n : Nat) (hn : l.length = n) (hl : n ≤ 100000) (hz : Sz s) : ACt Tryd.prog 18 [.sl n (scs l), siv s, iv .i64 now] [] (Fn (adR l s now)) :=
  ACt.fzV (radd_row l s now n hn hl hz)
set_option maxHeartbeats 4000000 in
theorem rdrop_row (l : List Sl) (nm : ByteArray) (n : Nat) (hn : l.length = n) (hl : n ≤ 100000) :
    ACt Tryd.prog 20 [.sl n (scs l), .lit (.string nm)] [] (fun r F' => Vw F' r (.tup [.sl (drpL l nm).length (scs (drpL l nm)), iv .i64 (drpC l nm)])) := by
  have cN := find_ct l nm n hn hl
  have hs := ixF_spec (nmP nm) l 0
  have hCl := scs_len l
  have ho := scs_one l
  rw [hn] at hCl
  obtain ⟨R, hR⟩ : ∃ R, R = (AV.tup [.sl (drpL l nm).length (scs (drpL l nm)), iv .i64 (drpC l nm)]) := ⟨_, rfl⟩
  rw [← hR]
  rw [show ((0 : Nat) : Int) = 0 from rfl] at hs
  unfold drpL drpC at hR
  rcases hs with ⟨h, _⟩ | ⟨q, hq, h, _⟩
  · rw [h] at cN
    rw [h, if_pos (by omega), if_pos (by omega)] at hR
    have k0 : decide ((-1 : Int) < 0) = true := rfl
    obtain ⟨C, hC'⟩ : ∃ C, C = scs l := ⟨_, rfl⟩
    rw [← hC'] at cN ⊢
    refine ACt.intro Tryd.func20 rfl (by kernel_rfl) (by simp [Tryd.ntmps20]) (fun cx => ?_)
    simp only [argE, Tryd.ntmps20, Tryd.results20]
    first | (have FRx := FR; clear FRx) | have FR := fr0S
    have FA := Sm.mk (And.intro TFHuH k0)
    repeat' first | (apply Sm.mk; refine Ys ?_) | refine WP.seq fun K hK => ?_ | (apply Ob.mk; exact Yo) | refine And.intro (Ob.out ?_) ?_ | refine Y1HuH ?_ | refine Yc (c := cN) (r := ?_) | refine YzHuH ?_ | (refine WP.cond rfl (fun hc => ?_) (fun hc => ?_) <;> (try simp only [ZC, reduceCtorEq, ZD] at hc) <;> (try exact absurd hc (by decide)) <;> (try (exfalso; omega))) | refine Rt.mk (And.intro (fun hg => Sm.out ?_) fun hg => Sm.out ?_) | (refine Nu.mk ?_; first | (fail_if_success have := nb1); intro nb1 | (fail_if_success have := nb2); intro nb2 | (fail_if_success have := nb3); intro nb3 | (fail_if_success have := nb4); intro nb4 | (fail_if_success have := nb5); intro nb5 | (fail_if_success have := nb6); intro nb6 | (fail_if_success have := nb7); intro nb7 | (fail_if_success have := nb8); intro nb8 | (fail_if_success have := nb9); intro nb9 | (fail_if_success have := nb10); intro nb10 | (fail_if_success have := nb11); intro nb11 | (fail_if_success have := nb12); intro nb12 | intro nbz) | (apply Yfr; refine Yf FR fun hFRb FR => ?_) | refine Two.mk ?_ ?_ | (apply Yxc; exact Yx) | refine Cs.mk fun hcs => Sm.out ?_ | go_step | omega | (simp only [maxLen_eq]; omega) | exact trivial
    (refine OutQ.drop [] _ (List.Perm.refl _) (by simp only [resv, ZK, look, loadv, loadn, loadnm, load1, load1m, hget, ↓reduceIte, Nat.reduceEqDiff, Nat.reduceAdd, Nat.reduceMul, Nat.reduceLeDiff, Nat.reduceLT, reduceCtorEq, TFHuH, FR.out]) ?_; simp only [resv, resA, ZK, look, loadv, loadn, loadnm, load1, load1m, hget, ↓reduceIte, Nat.reduceEqDiff, Nat.reduceAdd, Nat.reduceMul, Nat.reduceLeDiff, Nat.reduceLT, reduceCtorEq, TFHuH, FR.out]; exact vw_nilc hR)
  · rw [Nat.zero_add] at h
    rw [h] at cN
    rw [h, if_neg (by omega), if_neg (by omega), show ((q : Int)).toNat = q by omega, List.length_eraseIdx_of_lt hq, hn, List.eraseIdx_eq_take_drop_succ, scs_app, ← scs_take _ _ (by omega), ← scs_drop' _ _ (by omega)] at hR
    have k0 : decide ((q : Int) < 0) = false := decide_eq_false (by omega)
    have s1 : IntKind.i64.wrap ((q : Int) + 1) = ((q + 1 : Nat) : Int) := by rw [wrap_i64 (by omega) (by omega)]; omega
    obtain ⟨C, hC'⟩ : ∃ C, C = scs l := ⟨_, rfl⟩
    rw [← hC'] at cN hCl ho hR ⊢
    have t1 : ∀ q : Nat, ((q : Nat) : Int).toNat = q := fun q => by omega
    obtain ⟨T, hT⟩ : ∃ T, T = C.take (q * 5) := ⟨_, rfl⟩
    have hTl : T.length = q * 5 := by rw [hT, List.length_take]; omega
    have hTo : T.all oneC = true := by
      rw [hT, List.all_eq_true]
      intro y hy
      exact List.all_eq_true.1 ho y (List.mem_of_mem_take hy)
    have hTt : T.take (q * 5) = T := List.take_of_length_le (by omega)
    obtain ⟨U, hU⟩ : ∃ U, U = C.drop ((q + 1) * 5) := ⟨_, rfl⟩
    obtain ⟨M, hM⟩ : ∃ M, M = n - (q + 1) := ⟨_, rfl⟩
    have hUl : U.length = M * 5 := by rw [hU, List.length_drop]; omega
    have hUo : U.all oneC = true := by
      rw [hU, List.all_eq_true]
      intro y hy
      exact List.all_eq_true.1 ho y (List.mem_of_mem_drop hy)
    have hUt : U.take (M * 5) = U := List.take_of_length_le (by omega)
    rw [← hT, ← hU] at hR
    have hT' := hT.symm
    have hU' := hU.symm
    have hM' := hM.symm
    have hjn : q ≤ n := by omega
    have hj1 : q + 1 ≤ n := by omega
    have e1 : q + M = n - 1 := by omega
    have e5 : C.take (n * 5) = C := List.take_of_length_le (by omega)
    refine ACt.intro Tryd.func20 rfl (by kernel_rfl) (by simp [Tryd.ntmps20]) (fun cx => ?_)
    simp only [argE, Tryd.ntmps20, Tryd.results20]
    first | (have FRx := FR; clear FRx) | have FR := fr0S
    have FA := Sm.mk (And.intro TFHuH (And.intro k0 (And.intro s1 (And.intro hjn (And.intro hj1 (And.intro t1 (And.intro hCl (And.intro hT' (And.intro hTl (And.intro hTo (And.intro hTt (And.intro hU' (And.intro hUl (And.intro hUo (And.intro hUt (And.intro hM' (And.intro e1 e5)))))))))))))))))
    repeat' first | (apply Sm.mk; refine YsHuH1 ?_) | refine WP.seq fun K hK => ?_ | (apply Ob.mk; exact Yo) | refine And.intro (Ob.out ?_) ?_ | refine Y1HuH ?_ | refine Yc (c := cN) (r := ?_) | refine YzHuH ?_ | (refine WP.cond rfl (fun hc => ?_) (fun hc => ?_) <;> (try simp only [ZC, reduceCtorEq, ZD] at hc) <;> (try exact absurd hc (by decide)) <;> (try (exfalso; omega))) | refine Rt.mk (And.intro (fun hg => Sm.out ?_) fun hg => Sm.out ?_) | (refine Nu.mk ?_; first | (fail_if_success have := nb1); intro nb1 | (fail_if_success have := nb2); intro nb2 | (fail_if_success have := nb3); intro nb3 | (fail_if_success have := nb4); intro nb4 | (fail_if_success have := nb5); intro nb5 | (fail_if_success have := nb6); intro nb6 | (fail_if_success have := nb7); intro nb7 | (fail_if_success have := nb8); intro nb8 | (fail_if_success have := nb9); intro nb9 | (fail_if_success have := nb10); intro nb10 | (fail_if_success have := nb11); intro nb11 | (fail_if_success have := nb12); intro nb12 | intro nbz) | (apply Yfr; refine Yf FR fun hFRb FR => ?_) | refine Two.mk ?_ ?_ | (apply Yxc; exact Yx) | refine Cs.mk fun hcs => Sm.out ?_ | go_step | omega | (simp only [maxLen_eq]; omega) | exact trivial
    have hb1 := hFRb
    have hb2 := FR.out.1.2
    (refine OutQ.drop _ _ (perm1 (b := nb4) (by simp only [hget, hdel, ↓reduceIte, if_true, if_false, FR.out]; first | done | rfl)) (by simp only [resv, ZK, look, loadv, loadn, loadnm, load1, load1m, hget, ↓reduceIte, Nat.reduceEqDiff, Nat.reduceAdd, Nat.reduceMul, Nat.reduceLeDiff, Nat.reduceLT, reduceCtorEq, TFHuH, FR.out]) ?_; simp only [resv, resA, ZK, look, loadv, loadn, loadnm, load1, load1m, hget, ↓reduceIte, Nat.reduceEqDiff, Nat.reduceAdd, Nat.reduceMul, Nat.reduceLeDiff, Nat.reduceLT, reduceCtorEq, TFHuH, FR.out]; exact vw_rowc hR hb1 hb2)
theorem rdrop_ct (l : List Sl) (nm : ByteArray) (n : Nat) (hn : l.length = n) (hl : n ≤ 100000) : ACt Tryd.prog 20 [.sl n (scs l), .lit (.string nm)] [] (Fn (.tup [.sl (drpL l nm).length (scs (drpL l nm)), iv .i64 (drpC l nm)])) :=
  ACt.fzV (rdrop_row l nm n hn hl)
end Go.Proofs.YtaffbklkjjmmdaaDoor
