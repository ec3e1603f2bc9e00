/-
  The walks and the laws that the statement leans on, part 22.
-/
import Derived.Test.YtdkkfgcdnojmaaaDoorS13
import Derived.Test.YtdkkfgcdnojmaaaDoorS21
namespace Go.Proofs.YtdkkfgcdnojmaaaDoor
open Go
set_option linter.unusedVariables false
set_option linter.unusedSimpArgs false
set_option linter.defProp false
def TFGlD :=
  And.intro (And.intro (And.intro (And.intro tyc0 (And.intro tyc3 zmb3)) (And.intro tyc4 (And.intro zmb4 tyc5))) (And.intro (And.intro zmb5 (And.intro tyc9 zmb9)) (And.intro (And.intro tyc21 zmb21) (And.intro tyc25 elt25)))) (And.intro (And.intro (And.intro mkz25 (And.intro apT25 elk25)) (And.intro (And.intro zmb25 tyc33) (And.intro zmb33 Tryd.underlying0))) (And.intro (And.intro Tryd.underlying3 (And.intro Tryd.underlying4 Tryd.underlying5)) (And.intro (And.intro Tryd.underlying9 Tryd.underlying21) (And.intro Tryd.underlying25 Tryd.underlying33))))
theorem Y1GlD {G R : Prop} (r : R) (h : R → G := by intro r; first | (apply WP.region; exact rvc_sound _ _ (Sm.out r)) | exact WP.drawK rfl mixed (by decide +kernel) (Sm.out r) | (apply WP.block; exact r) | (apply WP.skip; exact Yq r) | (apply WP.exit; exact Yq r) | (apply WP.ret; exact Sm.out r) | exact WP.cond rfl (fun _ => r) (fun hg => absurd hg (by decide)) | exact WP.cond rfl (fun hg => absurd hg (by decide)) (fun _ => r) | exact Rt.mk (And.intro (fun _ => Sm.out r) fun hg => absurd hg (by decide)) | exact Rt.mk (And.intro (fun hg => absurd hg (by decide)) fun _ => Sm.out r)) : G := h r
theorem YzGlD {G R : Prop} (r : R) (h : R → G := by intro r; first | (apply ExG.no; exact Sm.out r) | (apply Or.inl; apply ExG.no; exact Sm.out r) | exact Or.inl (And.intro (fun hg => absurd hg (by decide)) (ExG.no (Sm.out r)))) : G := h r
theorem YsGlD0 {P Q : Prop} (q : Q) (h : P = Q := by (try (conv => lhs; simp -dsimp only [ZK, rvc, capA, appA, litL, mkfv, drawF, headN, pureH, stp, dvc, calleeOf, gcall, pev, eff, newB, okd, og, ogs, ogo, ogp, slv, bltv, opd, litv, strip, one, both, putE, St.put, look, gdOf, gdv, picka, pickv, pickw, binv, bini, bins, binb, binp, binq, isSlT, bina, shp, eqCells, unv, convv, nilv, faddv, addp, idxav, idxp, load1, load1m, loadn, loadnm, loadv, hget, hset, hrep, hdel, slicev, slice3v, bnd, shift1, lenv, capv, IntKind.bits, extractv, fieldv, indexv, min2v, max2v, mkiv, tasv, tasz, cellsA, fillA, buildv, stC, oneC, rowMB, intsA, plN, appE, appZ, appC, appS, srcB, appNZ, appNC, VwL, srcC, srcZ, srcM, isBoolT, isPtrT, isSliceT, uOk, Value.oneCell', Nat.reducePow, Int.reducePow, Nat.reduceAdd, Nat.reduceMul, Nat.reduceSub, Nat.reduceLT, Nat.reduceLeDiff, Nat.reduceEqDiff, Nat.reduceBEq, Nat.reduceDiv, Nat.reduceMod, ↓reduceIte, reduceCtorEq, Int.reduceToNat, Int.reduceLT, Int.reduceLE, TFGlD, SeqQ, BlkQ, LoopQ, BodyQ, hi, FA.out, FR.out])) <;> exact rfl) : P := h.mpr q
abbrev nsl : AV := .lit (.slice none 0 0)
def rowS (A : List Int) (x k : Nat) : AV := match A with
  | [] => nsl
  | z :: r => ms x 0 (z :: r).length k
def rowH (A : List Int) (x k : Nat) : Hp := match A with
  | [] => []
  | z :: r => [(x, .zs .i32 (z :: r) k 21)]
structure GrG where
  i : Nat
  A : List Int
  x : Nat
  k : Nat
set_option maxHeartbeats 4000000 in
theorem gr_ct (zs : List Int) (hb : By zs) (hl : zs.length ≤ 5000) : ACt Tryd.prog 19 [stz zs] [] (Fn (.slz .i32 (rn zs))) := by
  have hs := bstr_size zs
  have hdec := fun i (h : i < zs.length) => el_wrg hb h
  have hr0 := rF_zero zs
  have cP := fun i => hp_ct (zs.drop i) wrg (hb.drop i) wrg_by (by rw [List.length_drop]; omega) (by decide)
  have hx := fun i => bstr_ext zs i zs.length
  rw [List.take_length] at hx
  obtain ⟨B, hB⟩ : ∃ B, B = bstr zs := ⟨_, rfl⟩
  obtain ⟨N, hN⟩ : ∃ N, N = rn zs := ⟨_, rfl⟩
  unfold stz at cP ⊢
  rw [← hB] at hs ⊢
  rw [← hN] at hr0 ⊢
  simp only [← hB] at hdec hx
  have t1 : ∀ k : Nat, ((k : Nat) : Int).toNat = k := fun k => by omega
  refine ACt.intro Tryd.func19 rfl (by kernel_rfl) (by simp [Tryd.ntmps19]) (fun cx => ?_)
  simp only [argE, Tryd.ntmps19, Tryd.results19]
  first | (have FRx := FR; clear FRx) | have FR := fr0S
  have FA := Sm.mk (TFGlD)
  repeat' first | (apply Sm.mk; refine Ys ?_) | refine WP.seq fun K hK => ?_ | (apply Ob.mk; exact Yo) | refine And.intro (Ob.out ?_) ?_ | refine Y1GlD ?_ | refine YzGlD ?_ | (refine WP.cond rfl (fun hc => ?_) (fun hc => ?_) <;> (try simp only [ZC, reduceCtorEq, ZD] at hc) <;> (try exact absurd hc (by decide)) <;> (try (exfalso; omega))) | refine Rt.mk (And.intro (fun hg => Sm.out ?_) fun hg => Sm.out ?_) | (refine Nu.mk ?_; first | (fail_if_success have := nb1); intro nb1 | (fail_if_success have := nb2); intro nb2 | (fail_if_success have := nb3); intro nb3 | (fail_if_success have := nb4); intro nb4 | (fail_if_success have := nb5); intro nb5 | (fail_if_success have := nb6); intro nb6 | intro nbz) | (apply Yfr; refine Yf FR fun hFRb FR => ?_) | refine Two.mk ?_ ?_ | (apply Yxc; exact Yx) | refine Cs.mk fun hcs => Sm.out ?_ | go_step | omega | (simp only [maxLen_eq]; omega) | exact trivial
  refine WP.loop (Γ := GrG) (fun g => ⟨[(7, pt nb1 0), (3, rowS g.A g.x g.k), (0, .lit (.string B))], (nb1, .obj (.stringIter B g.i)) :: rowH g.A g.x g.k⟩)
    (fun g => g.i ≤ zs.length ∧ g.A.length ≤ g.i ∧ (g.A.length ≤ g.k ∧ g.k ≤ 9223372036854775807) ∧ (g.A ≠ [] → nb1 ≠ g.x ∧ g.x ≠ nb1) ∧ N = g.A ++ rF zs g.i) (fun g => zs.length - g.i) ⟨0, [], 0, 0⟩
    ⟨by simp, by simp, by simp, by simp, by simp only; rw [hr0]; rfl⟩ (Sub.pick (by simp [pickB, hget, hdel, FR.out, rowS, rowH]) (by simp [look, rowS, rowH])) ?_
  intro ⟨i, A, x, k⟩ ⟨h1, h2, h3, h4, h5⟩
  simp only at h1 h2 h3 h4 h5 ⊢
  have FR : Sm (¬ ((1 : Nat) = 0)) := Sm.mk Nat.one_ne_zero
  obtain ⟨a, ha⟩ : ∃ a, a = A.length := ⟨_, rfl⟩
  rw [← ha] at h2 h3
  have haA : A.length = a := ha.symm
  have l1 : a + 1 ≤ 9223372036854775807 ∧ (a + 1) * 4 ≤ 140737488355328 := by omega
  have l2 : k ≤ 9223372036854775807 := h3.2
  by_cases hi : i < zs.length
  · obtain ⟨r, w, hd, hr, hw, hk1, hk2⟩ := hdec i hi
    have hin := elR_in hb hi
    have hw1 := elR_w zs i
    rw [rF_step hi] at h5
    rw [hw] at hin hw1 h5
    have cP := cP i
    have hx := hx i
    rw [show wrg.length = 3 from rfl] at cP
    obtain ⟨p, hp⟩ : ∃ p, p = decide ((zs.drop i).take 3 = wrg) := ⟨_, rfl⟩
    rw [← hp] at cP hk1 hk2
    obtain ⟨q, hq⟩ : ∃ q, ((r : Int) == 65533) = q := ⟨_, rfl⟩
    rw [hq] at hk1 hk2
    obtain ⟨D, hD⟩ : ∃ D, D = bstr (zs.drop i) := ⟨_, rfl⟩
    rw [← hD] at cP hx
    obtain ⟨Q, hQ⟩ : ∃ Q, Q = bstr wrg := ⟨_, rfl⟩
    have hQ' : (⟨#[239, 191, 189]⟩ : ByteArray) = Q := by rw [hQ]; rfl
    rw [← hQ] at cP
    have hz := h1
    cases A with
    | nil =>
      simp only [rowS, rowH]
      first | (have FRx := FR; clear FRx) | have FR := fr0S
      have FA := Sm.mk (And.intro TFGlD (And.intro hd (And.intro hs (And.intro hx (And.intro hq (And.intro t1 hQ'))))))
      repeat' first | (apply Sm.mk; refine YsGlD0 ?_) | refine WP.seq fun K hK => ?_ | (apply Ob.mk; exact Yo) | refine And.intro (Ob.out ?_) ?_ | refine Y1GlD ?_ | refine Yc (c := cP) (r := ?_) | refine YzGlD ?_ | (refine WP.cond rfl (fun hc => ?_) (fun hc => ?_) <;> (try simp only [ZC, reduceCtorEq, ZD] at hc) <;> (try exact absurd hc (by decide)) <;> (try (exfalso; omega))) | refine Rt.mk (And.intro (fun hg => Sm.out ?_) fun hg => Sm.out ?_) | (refine Nu.mk ?_; first | (fail_if_success have := nb1); intro nb1 | (fail_if_success have := nb2); intro nb2 | (fail_if_success have := nb3); intro nb3 | (fail_if_success have := nb4); intro nb4 | (fail_if_success have := nb5); intro nb5 | (fail_if_success have := nb6); intro nb6 | intro nbz) | (apply Yfr; refine Yf FR fun hFRb FR => ?_) | refine Two.mk ?_ ?_ | (apply Yxc; exact Yx) | refine Cs.mk fun hcs => Sm.out ?_ | go_step | omega | (simp only [maxLen_eq]; omega) | exact trivial
      · have e := hk1 (by rw [hc.1, hc.2]; rfl)
        rw [e] at h5
        exact ⟨⟨i + w, [-1], nb3, nb4⟩, ⟨by simp only; omega, by simp only [List.length_cons, List.length_nil]; omega, by simp only [List.length_cons, List.length_nil]; omega, fun _ => by simp [FR.out], by simp only; rw [h5]; simp⟩, by simp only; omega, (Sub.pick (by simp [pickB, hget, hdel, FR.out, rowS, rowH]) (by simp [look, rowS, rowH]))⟩
      · have e := hk2 (by revert hc; cases q <;> cases p <;> simp)
        rw [e] at h5
        exact ⟨⟨i + w, [(r : Int)], nb3, nb4⟩, ⟨by simp only; omega, by simp only [List.length_cons, List.length_nil]; omega, by simp only [List.length_cons, List.length_nil]; omega, fun _ => by simp [FR.out], by simp only; rw [h5]; simp⟩, by simp only; omega, (Sub.pick (by simp [pickB, hget, hdel, FR.out, rowS, rowH]) (by simp [look, rowS, rowH]))⟩
    | cons z A =>
      have hne := h4 (by simp)
      have ha2 : a = A.length + 1 := ha
      simp only [rowS, rowH]
      first | (have FRx := FR; clear FRx) | have FR := fr0S
      have FA := Sm.mk (And.intro TFGlD (And.intro hd (And.intro hs (And.intro hx (And.intro hq (And.intro t1 (And.intro hQ' (And.intro haA (And.intro l1 (And.intro l2 hne))))))))))
      repeat' first | (apply Sm.mk; refine YsGlD0 ?_) | refine WP.seq fun K hK => ?_ | (apply Ob.mk; exact Yo) | refine And.intro (Ob.out ?_) ?_ | refine Y1GlD ?_ | refine Yc (c := cP) (r := ?_) | refine YzGlD ?_ | (refine WP.cond rfl (fun hc => ?_) (fun hc => ?_) <;> (try simp only [ZC, reduceCtorEq, ZD] at hc) <;> (try exact absurd hc (by decide)) <;> (try (exfalso; omega))) | refine Rt.mk (And.intro (fun hg => Sm.out ?_) fun hg => Sm.out ?_) | (refine Nu.mk ?_; first | (fail_if_success have := nb1); intro nb1 | (fail_if_success have := nb2); intro nb2 | (fail_if_success have := nb3); intro nb3 | (fail_if_success have := nb4); intro nb4 | (fail_if_success have := nb5); intro nb5 | (fail_if_success have := nb6); intro nb6 | intro nbz) | (apply Yfr; refine Yf FR fun hFRb FR => ?_) | refine Two.mk ?_ ?_ | (apply Yxc; exact Yx) | refine Cs.mk fun hcs => Sm.out ?_ | go_step | omega | (simp only [maxLen_eq]; omega) | exact trivial
      · have e := hk1 (by rw [hc.1, hc.2]; rfl)
        rw [e] at h5
        exact ⟨⟨i + w, z :: (A ++ [-1]), nb3, nb4⟩, ⟨by simp only; omega, by simp at ha ⊢; omega, by simp at ha ⊢; omega, fun _ => by simp [FR.out], by simp only; rw [h5]; simp⟩, by simp only; omega, (Sub.pick (by simp [pickB, hget, hdel, FR.out, rowS, rowH, haA, List.cons_append, ha2, List.length_append, List.length_cons, List.length_nil]) (by simp [look, rowS, rowH, haA, List.cons_append, ha2, List.length_append, List.length_cons, List.length_nil]))⟩
      · have e := hk2 (by revert hc; cases q <;> cases p <;> simp)
        rw [e] at h5
        exact ⟨⟨i + w, z :: (A ++ [(r : Int)]), nb3, nb4⟩, ⟨by simp only; omega, by simp at ha ⊢; omega, by simp at ha ⊢; omega, fun _ => by simp [FR.out], by simp only; rw [h5]; simp⟩, by simp only; omega, (Sub.pick (by simp [pickB, hget, hdel, FR.out, rowS, rowH, haA, List.cons_append, ha2, List.length_append, List.length_cons, List.length_nil]) (by simp [look, rowS, rowH, haA, List.cons_append, ha2, List.length_append, List.length_cons, List.length_nil]))⟩
  · obtain rfl : i = zs.length := by omega
    rw [rF_end (Nat.le_refl _), List.append_nil] at h5
    cases A with
    | nil =>
      simp only [rowS, rowH]
      first | (have FRx := FR; clear FRx) | have FR := fr0S
      have FA := Sm.mk (And.intro TFGlD hs)
      repeat' first | (apply Sm.mk; refine Ys ?_) | refine WP.seq fun K hK => ?_ | (apply Ob.mk; exact Yo) | refine And.intro (Ob.out ?_) ?_ | refine Y1GlD ?_ | refine YzGlD ?_ | (refine WP.cond rfl (fun hc => ?_) (fun hc => ?_) <;> (try simp only [ZC, reduceCtorEq, ZD] at hc) <;> (try exact absurd hc (by decide)) <;> (try (exfalso; omega))) | refine Rt.mk (And.intro (fun hg => Sm.out ?_) fun hg => Sm.out ?_) | (refine Nu.mk ?_; first | (fail_if_success have := nb1); intro nb1 | (fail_if_success have := nb2); intro nb2 | (fail_if_success have := nb3); intro nb3 | (fail_if_success have := nb4); intro nb4 | (fail_if_success have := nb5); intro nb5 | (fail_if_success have := nb6); intro nb6 | intro nbz) | (apply Yfr; refine Yf FR fun hFRb FR => ?_) | refine Two.mk ?_ ?_ | (apply Yxc; exact Yx) | refine Cs.mk fun hcs => Sm.out ?_ | go_step | omega | (simp only [maxLen_eq]; omega) | exact trivial
      (refine OutQ.wk (Wk.cons (i := 2) (by simp only [look, ↓reduceIte, Nat.reduceEqDiff]; first | done | rfl) (fun w I v h => Rep.nilz (k := .i32) h)) ?_)
      (have FA := Sm.mk (And.intro h5 FA.out); refine Yg ?_; try exact trivial)
    | cons z A =>
      have hne := h4 (by simp)
      have e : (z :: A).take a = z :: A := by rw [ha, List.take_length]
      simp only [rowS, rowH]
      first | (have FRx := FR; clear FRx) | have FR := fr0S
      have FA := Sm.mk (And.intro TFGlD (And.intro hs (And.intro haA hne)))
      repeat' first | (apply Sm.mk; refine Ys ?_) | refine WP.seq fun K hK => ?_ | (apply Ob.mk; exact Yo) | refine And.intro (Ob.out ?_) ?_ | refine Y1GlD ?_ | refine YzGlD ?_ | (refine WP.cond rfl (fun hc => ?_) (fun hc => ?_) <;> (try simp only [ZC, reduceCtorEq, ZD] at hc) <;> (try exact absurd hc (by decide)) <;> (try (exfalso; omega))) | refine Rt.mk (And.intro (fun hg => Sm.out ?_) fun hg => Sm.out ?_) | (refine Nu.mk ?_; first | (fail_if_success have := nb1); intro nb1 | (fail_if_success have := nb2); intro nb2 | (fail_if_success have := nb3); intro nb3 | (fail_if_success have := nb4); intro nb4 | (fail_if_success have := nb5); intro nb5 | (fail_if_success have := nb6); intro nb6 | intro nbz) | (apply Yfr; refine Yf FR fun hFRb FR => ?_) | refine Two.mk ?_ ?_ | (apply Yxc; exact Yx) | refine Cs.mk fun hcs => Sm.out ?_ | go_step | omega | (simp only [maxLen_eq]; omega) | exact trivial
      (refine OutQ.wk (Wk.freeze (x) (by simp only [ZK, rvc, capA, appA, litL, mkfv, drawF, headN, pureH, stp, dvc, calleeOf, gcall, pev, eff, newB, okd, og, ogs, ogo, ogp, slv, bltv, opd, litv, strip, one, both, putE, St.put, look, gdOf, gdv, picka, pickv, pickw, binv, bini, bins, binb, binp, binq, isSlT, bina, shp, eqCells, unv, convv, nilv, faddv, addp, idxav, idxp, load1, load1m, loadn, loadnm, loadv, hget, hset, hrep, hdel, slicev, slice3v, bnd, shift1, lenv, capv, IntKind.bits, extractv, fieldv, indexv, min2v, max2v, mkiv, tasv, tasz, cellsA, fillA, buildv, stC, oneC, rowMB, intsA, plN, appE, appZ, appC, appS, srcB, appNZ, appNC, VwL, srcC, srcZ, srcM, isBoolT, isPtrT, isSliceT, uOk, Value.oneCell', Nat.reducePow, Int.reducePow, Nat.reduceAdd, Nat.reduceMul, Nat.reduceSub, Nat.reduceLT, Nat.reduceLeDiff, Nat.reduceEqDiff, Nat.reduceBEq, Nat.reduceDiv, Nat.reduceMod, ↓reduceIte, reduceCtorEq, Int.reduceToNat, Int.reduceLT, Int.reduceLE, TFGlD, SeqQ, BlkQ, LoopQ, BodyQ, haA, e, List.drop_zero, Nat.zero_add, Nat.le_refl, h3, hne, FR.out]; first | done | rfl)) ?_; simp only [frzE, frz, ZK, rvc, capA, appA, litL, mkfv, drawF, headN, pureH, stp, dvc, calleeOf, gcall, pev, eff, newB, okd, og, ogs, ogo, ogp, slv, bltv, opd, litv, strip, one, both, putE, St.put, look, gdOf, gdv, picka, pickv, pickw, binv, bini, bins, binb, binp, binq, isSlT, bina, shp, eqCells, unv, convv, nilv, faddv, addp, idxav, idxp, load1, load1m, loadn, loadnm, loadv, hget, hset, hrep, hdel, slicev, slice3v, bnd, shift1, lenv, capv, IntKind.bits, extractv, fieldv, indexv, min2v, max2v, mkiv, tasv, tasz, cellsA, fillA, buildv, stC, oneC, rowMB, intsA, plN, appE, appZ, appC, appS, srcB, appNZ, appNC, VwL, srcC, srcZ, srcM, isBoolT, isPtrT, isSliceT, uOk, Value.oneCell', Nat.reducePow, Int.reducePow, Nat.reduceAdd, Nat.reduceMul, Nat.reduceSub, Nat.reduceLT, Nat.reduceLeDiff, Nat.reduceEqDiff, Nat.reduceBEq, Nat.reduceDiv, Nat.reduceMod, ↓reduceIte, reduceCtorEq, Int.reduceToNat, Int.reduceLT, Int.reduceLE, TFGlD, SeqQ, BlkQ, LoopQ, BodyQ, haA, e, List.drop_zero, Nat.zero_add, Nat.le_refl, h3, hne, FR.out])
      (have FA := Sm.mk (And.intro h5 FA.out); refine Yg ?_; try exact trivial)
def TFGlE :=
  And.intro (And.intro (And.intro (And.intro tyc3 (And.intro zmb3 tyc4)) (And.intro zmb4 (And.intro tyc5 zmb5))) (And.intro (And.intro tyc9 (And.intro zmb9 tyc21)) (And.intro zmb21 (And.intro tyc25 elt25)))) (And.intro (And.intro (And.intro mkz25 (And.intro apT25 elk25)) (And.intro zmb25 (And.intro tyc33 zmb33))) (And.intro (And.intro Tryd.underlying3 (And.intro Tryd.underlying4 Tryd.underlying5)) (And.intro (And.intro Tryd.underlying9 Tryd.underlying21) (And.intro Tryd.underlying25 Tryd.underlying33))))
theorem Y1GlE {G R : Prop} (r : R) (h : R → G := by intro r; first | (apply WP.region; exact rvc_sound _ _ (Sm.out r)) | exact WP.drawK rfl mixed (by decide +kernel) (Sm.out r) | (apply WP.block; exact r) | (apply WP.skip; exact Yq r) | (apply WP.exit; exact Yq r) | (apply WP.ret; exact Sm.out r) | exact WP.cond rfl (fun _ => r) (fun hg => absurd hg (by decide)) | exact WP.cond rfl (fun hg => absurd hg (by decide)) (fun _ => r) | exact Rt.mk (And.intro (fun _ => Sm.out r) fun hg => absurd hg (by decide)) | exact Rt.mk (And.intro (fun hg => absurd hg (by decide)) fun _ => Sm.out r)) : G := h r
theorem YzGlE {G R : Prop} (r : R) (h : R → G := by intro r; first | (apply ExG.no; exact Sm.out r) | (apply Or.inl; apply ExG.no; exact Sm.out r) | exact Or.inl (And.intro (fun hg => absurd hg (by decide)) (ExG.no (Sm.out r)))) : G := h r
noncomputable def rtB (zs : List Int) : Bool := !decide (zs = []) && gdB zs && decide (((rn zs).length : Int) ≤ 40)
theorem rn_nil_iff {zs : List Int} : rn zs = [] ↔ zs = [] := by
  constructor
  · intro h
    by_cases hz : 0 < zs.length
    · rw [← rF_zero, rF_step hz] at h; cases h
    · exact List.eq_nil_of_length_eq_zero (by omega)
  · rintro rfl; rfl
theorem right_ct (zs : List Int) (hb : By zs) (hl : zs.length ≤ 5000) (n0 n1 : Nat) : ACt Tryd.prog 7 [stz zs] [(0, .zs .u8 fsZ 256 n0), (1, .zs .u8 acZ 32 n1)] (fun r F' => r = bv (rtB zs) ∧ F' = [(0, .zs .u8 fsZ 256 n0), (1, .zs .u8 acZ 32 n1)]) := by
  have cG := goodT_ct zs hb hl n0 n1
  have cC := cnt_ct zs hb (by omega)
  have y1 : ((bstr zs).toList == (⟨#[]⟩ : ByteArray).toList) = decide (zs = []) := str_eq zs [] hb (fun i hi => absurd hi (Nat.not_lt_zero _))
  unfold rtB
  obtain ⟨p, hp⟩ : ∃ p, p = decide (zs = []) := ⟨_, rfl⟩
  rw [← hp] at y1 ⊢
  have y2 : ((bstr zs).toList != (⟨#[]⟩ : ByteArray).toList) = !p := by rw [bne, y1]
  obtain ⟨g, hg⟩ : ∃ g, g = gdB zs := ⟨_, rfl⟩
  rw [← hg] at cG ⊢
  obtain ⟨z, hz⟩ : ∃ z, decide (((rn zs).length : Int) ≤ 40) = z := ⟨_, rfl⟩
  rw [hz]
  obtain ⟨m, hm⟩ : ∃ m : Int, m = ((rn zs).length : Int) := ⟨_, rfl⟩
  rw [← hm] at cC hz
  obtain ⟨F, hF⟩ : ∃ F, F = fsZ := ⟨_, rfl⟩
  obtain ⟨A, hA⟩ : ∃ A, A = acZ := ⟨_, rfl⟩
  rw [← hF, ← hA] at cG ⊢
  obtain ⟨B, hB⟩ : ∃ B, B = bstr zs := ⟨_, rfl⟩
  unfold stz at *
  rw [← hB] at y1 cG cC ⊢
  obtain ⟨u, hu⟩ : ∃ u, (!p) = u := ⟨_, rfl⟩
  rw [hu]
  refine ACt.intro Tryd.func7 rfl (by kernel_rfl) (by simp [Tryd.ntmps7]) (fun cx => ?_)
  simp only [argE, Tryd.ntmps7, Tryd.results7]
  first | (have FRx := FR; clear FRx) | have FR := fr0S
  have FA := Sm.mk (And.intro TFGlE (And.intro y1 (And.intro hu hz)))
  repeat' first | (apply Sm.mk; refine Ys ?_) | refine WP.seq fun K hK => ?_ | (apply Ob.mk; exact Yo) | refine And.intro (Ob.out ?_) ?_ | refine Y1GlE ?_ | refine Yl2 (c := cG) (r := ?_) | refine Yc (c := cC) (r := ?_) | refine YzGlE ?_ | (refine WP.cond rfl (fun hc => ?_) (fun hc => ?_) <;> (try simp only [ZC, reduceCtorEq, ZD] at hc) <;> (try exact absurd hc (by decide)) <;> (try (exfalso; omega))) | refine Rt.mk (And.intro (fun hg => Sm.out ?_) fun hg => Sm.out ?_) | (refine Nu.mk ?_; first | (fail_if_success have := nb1); intro nb1 | (fail_if_success have := nb2); intro nb2 | (fail_if_success have := nb3); intro nb3 | (fail_if_success have := nb4); intro nb4 | intro nbz) | (apply Yfr; refine Yf FR fun hFRb FR => ?_) | refine Two.mk ?_ ?_ | (apply Yxc; exact Yx) | refine Cs.mk fun hcs => Sm.out ?_ | go_step | omega | (simp only [maxLen_eq]; omega) | exact trivial
  (refine OutQ.drop _ _ (perm2 (by simp only [hget, hdel, ↓reduceIte, if_true, if_false, FR.out]; first | done | rfl) (by simp only [hget, hdel, ↓reduceIte, if_true, if_false, FR.out]; first | done | rfl)) (by simp only [resv, ZK, look, loadv, loadn, loadnm, load1, load1m, hget, ↓reduceIte, Nat.reduceEqDiff, Nat.reduceAdd, Nat.reduceMul, Nat.reduceLeDiff, Nat.reduceLT, reduceCtorEq, TFGlE, FR.out]) ⟨(by simp only [resv, resA, ZK, look, loadv, loadn, loadnm, load1, load1m, hget, ↓reduceIte, Nat.reduceEqDiff, Nat.reduceAdd, Nat.reduceMul, Nat.reduceLeDiff, Nat.reduceLT, reduceCtorEq, TFGlE, FR.out]; first | done | rfl), rfl⟩)
theorem rright_ct (zs : List Int) (hb : By zs) (hl : zs.length ≤ 5000) : ACt Tryd.prog 8 [stz zs] [] (Fn (bv (rtB zs))) := by
  have cR := ACt.fzRow (runes_ct zs hb hl)
  have cG := rgood_ct zs hb hl
  have e : rtB zs = (decide (((rn zs).length : Int) ≥ 1) && decide (((rn zs).length : Int) ≤ 40) && gdB zs) := by
    unfold rtB
    have : (!decide (zs = [])) = decide (((rn zs).length : Int) ≥ 1) := by
      rw [← decide_not]
      congr 1
      apply propext
      rw [← rn_nil_iff (zs := zs)]
      constructor
      · intro h; have := List.length_pos_iff.2 h; omega
      · intro h h2; rw [h2] at h; simp at h
    rw [this]
    cases decide (((rn zs).length : Int) ≥ 1) <;> cases gdB zs <;> cases decide (((rn zs).length : Int) ≤ 40) <;> rfl
  rw [e]
  obtain ⟨L, hL⟩ : ∃ L, L = rn zs := ⟨_, rfl⟩
  rw [← hL] at cR ⊢
  obtain ⟨n, hn⟩ : ∃ n, n = L.length := ⟨_, rfl⟩
  have hLn : L.length = n := hn.symm
  rw [← hn]
  obtain ⟨x, hx⟩ : ∃ x, decide ((n : Int) ≥ 1) = x := ⟨_, rfl⟩
  obtain ⟨y, hy⟩ : ∃ y, decide ((n : Int) ≤ 40) = y := ⟨_, rfl⟩
  obtain ⟨g, hg⟩ : ∃ g, gdB zs = g := ⟨_, rfl⟩
  rw [hx, hy]
  rw [hg] at cG ⊢
  refine ACt.intro Tryd.func8 rfl (by kernel_rfl) (by simp [Tryd.ntmps8]) (fun cx => ?_)
  simp only [argE, Tryd.ntmps8, Tryd.results8]
  first | (have FRx := FR; clear FRx) | have FR := fr0S
  have FA := Sm.mk (And.intro TFGlE (And.intro hLn (And.intro hx hy)))
  repeat' first | (apply Sm.mk; refine Ys ?_) | refine WP.seq fun K hK => ?_ | (apply Ob.mk; exact Yo) | refine And.intro (Ob.out ?_) ?_ | refine Y1GlE ?_ | refine Yc (c := cR) (r := ?_) | refine Yc (c := cG) (r := ?_) | refine YzGlE ?_ | (refine WP.cond rfl (fun hc => ?_) (fun hc => ?_) <;> (try simp only [ZC, reduceCtorEq, ZD] at hc) <;> (try exact absurd hc (by decide)) <;> (try (exfalso; omega))) | refine Rt.mk (And.intro (fun hg => Sm.out ?_) fun hg => Sm.out ?_) | (refine Nu.mk ?_; first | (fail_if_success have := nb1); intro nb1 | (fail_if_success have := nb2); intro nb2 | (fail_if_success have := nb3); intro nb3 | (fail_if_success have := nb4); intro nb4 | intro nbz) | (apply Yfr; refine Yf FR fun hFRb FR => ?_) | refine Two.mk ?_ ?_ | (apply Yxc; exact Yx) | refine Cs.mk fun hcs => Sm.out ?_ | go_step | omega | (simp only [maxLen_eq]; omega) | exact trivial
  (refine Yg ?_; try exact trivial)
end Go.Proofs.YtdkkfgcdnojmaaaDoor
