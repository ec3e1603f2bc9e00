/-
  The walks and the laws that the statement leans on, part 38.
-/
import Derived.Test.YtaffbklkjjmmdaaDoorP9
import Derived.Test.YtaffbklkjjmmdaaDoorP21
namespace Go.Proofs.YtaffbklkjjmmdaaDoor
open Go
set_option linter.unusedVariables false
set_option linter.unusedSimpArgs false
set_option linter.defProp false
def TFHuG :=
  And.intro (And.intro (And.intro (And.intro (And.intro tyc0 tyc2) (And.intro zmb2 tyc3)) (And.intro (And.intro zmb3 tyc4) (And.intro zmb4 tyc22))) (And.intro (And.intro (And.intro elt22 mkz22) (And.intro mkc22 apT22)) (And.intro (And.intro elk22 zmb22) (And.intro tyc32 (And.intro foff32_0 fpart32_0))))) (And.intro (And.intro (And.intro (And.intro foff32_1 fpart32_1) (And.intro foff32_2 fpart32_2)) (And.intro (And.intro foff32_3 fpart32_3) (And.intro foff32_4 fpart32_4))) (And.intro (And.intro (And.intro fe32 zmb32) (And.intro bldT32 Tryd.underlying0)) (And.intro (And.intro Tryd.underlying2 Tryd.underlying3) (And.intro Tryd.underlying4 (And.intro Tryd.underlying22 Tryd.underlying32)))))
theorem Y1HuG {G R : Prop} (r : R) (h : R → G := by intro r; first | (apply WP.region; exact rvc_sound _ _ (Sm.out r)) | exact WP.drawK rfl mixed (by decide +kernel) (Sm.out r) | (apply WP.block; exact r) | (apply WP.skip; exact Yq r) | (apply WP.exit; exact Yq r) | (apply WP.ret; exact Sm.out r) | exact WP.cond rfl (fun _ => r) (fun hg => absurd hg (by decide)) | exact WP.cond rfl (fun hg => absurd hg (by decide)) (fun _ => r) | exact Rt.mk (And.intro (fun _ => Sm.out r) fun hg => absurd hg (by decide)) | exact Rt.mk (And.intro (fun hg => absurd hg (by decide)) fun _ => Sm.out r)) : G := h r
theorem YzHuG {G R : Prop} (r : R) (h : R → G := by intro r; first | (apply ExG.no; exact Sm.out r) | (apply Or.inl; apply ExG.no; exact Sm.out r) | exact Or.inl (And.intro (fun hg => absurd hg (by decide)) (ExG.no (Sm.out r)))) : G := h r
theorem YsHuG0 {P Q : Prop} (q : Q) (h : P = Q := by (try (conv => lhs; simp -dsimp only [ZK, rvc, capA, appA, litL, mkfv, drawF, headN, pureH, stp, dvc, calleeOf, gcall, pev, eff, newB, okd, og, ogs, ogo, ogp, slv, bltv, opd, litv, strip, one, both, putE, St.put, look, gdOf, gdv, picka, pickv, pickw, binv, bini, bins, binb, binp, binq, isSlT, bina, shp, eqCells, unv, convv, nilv, faddv, addp, idxav, idxp, load1, load1m, loadn, loadnm, loadv, hget, hset, hrep, hdel, slicev, slice3v, bnd, shift1, lenv, capv, IntKind.bits, extractv, fieldv, indexv, min2v, max2v, mkiv, tasv, tasz, cellsA, fillA, buildv, stC, oneC, rowMB, intsA, plN, appE, appZ, appC, appS, srcB, appNZ, appNC, VwL, srcC, srcZ, srcM, isBoolT, isPtrT, isSliceT, uOk, Value.oneCell', Nat.reducePow, Int.reducePow, Nat.reduceAdd, Nat.reduceMul, Nat.reduceSub, Nat.reduceLT, Nat.reduceLeDiff, Nat.reduceEqDiff, Nat.reduceBEq, Nat.reduceDiv, Nat.reduceMod, ↓reduceIte, reduceCtorEq, Int.reduceToNat, Int.reduceLT, Int.reduceLE, TFHuG, SeqQ, BlkQ, LoopQ, BodyQ, hin, Bool.not_false, FA.out, FR.out])) <;> exact rfl) : P := h.mpr q
theorem YsHuG1 {P Q : Prop} (q : Q) (h : P = Q := by (try (conv => lhs; simp -dsimp only [ZK, rvc, capA, appA, litL, mkfv, drawF, headN, pureH, stp, dvc, calleeOf, gcall, pev, eff, newB, okd, og, ogs, ogo, ogp, slv, bltv, opd, litv, strip, one, both, putE, St.put, look, gdOf, gdv, picka, pickv, pickw, binv, bini, bins, binb, binp, binq, isSlT, bina, shp, eqCells, unv, convv, nilv, faddv, addp, idxav, idxp, load1, load1m, loadn, loadnm, loadv, hget, hset, hrep, hdel, slicev, slice3v, bnd, shift1, lenv, capv, IntKind.bits, extractv, fieldv, indexv, min2v, max2v, mkiv, tasv, tasz, cellsA, fillA, buildv, stC, oneC, rowMB, intsA, plN, appE, appZ, appC, appS, srcB, appNZ, appNC, VwL, srcC, srcZ, srcM, isBoolT, isPtrT, isSliceT, uOk, Value.oneCell', Nat.reducePow, Int.reducePow, Nat.reduceAdd, Nat.reduceMul, Nat.reduceSub, Nat.reduceLT, Nat.reduceLeDiff, Nat.reduceEqDiff, Nat.reduceBEq, Nat.reduceDiv, Nat.reduceMod, ↓reduceIte, reduceCtorEq, Int.reduceToNat, Int.reduceLT, Int.reduceLE, TFHuG, SeqQ, BlkQ, LoopQ, BodyQ, hin, Bool.not_true, FA.out, FR.out])) <;> exact rfl) : P := h.mpr q
theorem YsHuG2 {P Q : Prop} (q : Q) (h : P = Q := by (try (conv => lhs; simp -dsimp only [ZK, rvc, capA, appA, litL, mkfv, drawF, headN, pureH, stp, dvc, calleeOf, gcall, pev, eff, newB, okd, og, ogs, ogo, ogp, slv, bltv, opd, litv, strip, one, both, putE, St.put, look, gdOf, gdv, picka, pickv, pickw, binv, bini, bins, binb, binp, binq, isSlT, bina, shp, eqCells, unv, convv, nilv, faddv, addp, idxav, idxp, load1, load1m, loadn, loadnm, loadv, hget, hset, hrep, hdel, slicev, slice3v, bnd, shift1, lenv, capv, IntKind.bits, extractv, fieldv, indexv, min2v, max2v, mkiv, tasv, tasz, cellsA, fillA, buildv, stC, oneC, rowMB, intsA, plN, appE, appZ, appC, appS, srcB, appNZ, appNC, VwL, srcC, srcZ, srcM, isBoolT, isPtrT, isSliceT, uOk, Value.oneCell', Nat.reducePow, Int.reducePow, Nat.reduceAdd, Nat.reduceMul, Nat.reduceSub, Nat.reduceLT, Nat.reduceLeDiff, Nat.reduceEqDiff, Nat.reduceBEq, Nat.reduceDiv, Nat.reduceMod, ↓reduceIte, reduceCtorEq, Int.reduceToNat, Int.reduceLT, Int.reduceLE, TFHuG, SeqQ, BlkQ, LoopQ, BodyQ, Bool.not_false, FA.out, FR.out])) <;> exact rfl) : P := h.mpr q
theorem YsHuG3 {P Q : Prop} (q : Q) (h : P = Q := by (try (conv => lhs; simp -dsimp only [ZK, rvc, capA, appA, litL, mkfv, drawF, headN, pureH, stp, dvc, calleeOf, gcall, pev, eff, newB, okd, og, ogs, ogo, ogp, slv, bltv, opd, litv, strip, one, both, putE, St.put, look, gdOf, gdv, picka, pickv, pickw, binv, bini, bins, binb, binp, binq, isSlT, bina, shp, eqCells, unv, convv, nilv, faddv, addp, idxav, idxp, load1, load1m, loadn, loadnm, loadv, hget, hset, hrep, hdel, slicev, slice3v, bnd, shift1, lenv, capv, IntKind.bits, extractv, fieldv, indexv, min2v, max2v, mkiv, tasv, tasz, cellsA, fillA, buildv, stC, oneC, rowMB, intsA, plN, appE, appZ, appC, appS, srcB, appNZ, appNC, VwL, srcC, srcZ, srcM, isBoolT, isPtrT, isSliceT, uOk, Value.oneCell', Nat.reducePow, Int.reducePow, Nat.reduceAdd, Nat.reduceMul, Nat.reduceSub, Nat.reduceLT, Nat.reduceLeDiff, Nat.reduceEqDiff, Nat.reduceBEq, Nat.reduceDiv, Nat.reduceMod, ↓reduceIte, reduceCtorEq, Int.reduceToNat, Int.reduceLT, Int.reduceLE, TFHuG, SeqQ, BlkQ, LoopQ, BodyQ, hin, FA.out, FR.out])) <;> exact rfl) : P := h.mpr q
structure StG where
  i : Nat
  A : List Sl
  x : Nat
  k : Nat
theorem ov_dec (now : Int) (v : Sl) : decide (v.t > now) = !ovP now v := by
  unfold ovP
  rw [Bool.eq_iff_iff]; simp
set_option maxHeartbeats 4000000 in
theorem rswp_row (l : List Sl) (now : Int) (n : Nat) (hn : l.length = n) (hl : n ≤ 100000) : ACt Tryd.prog 22 [.sl n (scs l), iv .i64 now] [] (fun r F' => Vw F' r (.sl (swpL l now).length (scs (swpL l now)))) := by
  have hCl := scs_len l
  have hdr := scs_drop l
  rw [hn] at hCl
  have hA : AV.sl (swpL l now).length (scs (swpL l now)) = .sl (l.filter (fun e => !ovP now e)).length (scs (l.filter (fun e => !ovP now e))) := rfl
  obtain ⟨R, hR⟩ : ∃ R, R = AV.sl (swpL l now).length (scs (swpL l now)) := ⟨_, rfl⟩
  rw [← hR] at hA ⊢
  obtain ⟨C, hC'⟩ : ∃ C, C = scs l := ⟨_, rfl⟩
  rw [← hC'] at hCl hdr ⊢
  clear hR hC'
  refine ACt.intro Tryd.func22 rfl (by kernel_rfl) (by simp [Tryd.ntmps22]) (fun cx => ?_)
  simp only [argE, Tryd.ntmps22, Tryd.results22]
  first | (have FRx := FR; clear FRx) | have FR := fr0S
  have FA := Sm.mk (TFHuG)
  repeat' first | (apply Sm.mk; refine Ys ?_) | refine WP.seq fun K hK => ?_ | (apply Ob.mk; exact Yo) | refine And.intro (Ob.out ?_) ?_ | refine Y1HuG ?_ | refine YzHuG ?_ | (refine WP.cond rfl (fun hc => ?_) (fun hc => ?_) <;> (try simp only [ZC, reduceCtorEq, ZD] at hc) <;> (try exact absurd hc (by decide)) <;> (try (exfalso; omega))) | refine Rt.mk (And.intro (fun hg => Sm.out ?_) fun hg => Sm.out ?_) | (refine Nu.mk ?_; first | (fail_if_success have := nb1); intro nb1 | (fail_if_success have := nb2); intro nb2 | (fail_if_success have := nb3); intro nb3 | (fail_if_success have := nb4); intro nb4 | (fail_if_success have := nb5); intro nb5 | (fail_if_success have := nb6); intro nb6 | (fail_if_success have := nb7); intro nb7 | (fail_if_success have := nb8); intro nb8 | (fail_if_success have := nb9); intro nb9 | (fail_if_success have := nb10); intro nb10 | intro nbz) | (apply Yfr; refine Yf FR fun hFRb FR => ?_) | refine Two.mk ?_ ?_ | (apply Yxc; exact Yx) | refine Cs.mk fun hcs => Sm.out ?_ | go_step | omega | (simp only [maxLen_eq]; omega) | exact trivial
  have he0 : scs [] = [] := rfl
  refine WP.loop (Γ := StG) (fun g => ⟨[(6, iv .i64 (g.i : Int)), (5, ms g.x 0 g.A.length g.k), (0, .sl n C), (1, iv .i64 now)], [(g.x, .cells (scs g.A) (g.k * 5) 32)]⟩)
    (fun g => (g.i ≤ n ∧ g.A.length ≤ g.i ∧ g.A.length ≤ g.k ∧ g.k ≤ 9223372036854775807) ∧ g.A = (l.take g.i).filter (fun e => !ovP now e)) (fun g => n - g.i) ⟨0, [], nb1, 0⟩
    ⟨⟨by simp, by simp, by simp, by simp⟩, by simp⟩ (Sub.pick (by simp [pickB, hget, hdel, FR.out, he0, List.length_nil, Nat.zero_mul]) (by simp [look, he0, List.length_nil, Nat.zero_mul])) ?_
  intro ⟨i, A, x, k⟩ ⟨⟨hi, ha1, ha2, ha3⟩, hT⟩
  simp only at hi ha1 ha2 ha3 hT ⊢
  have FR : Sm (¬ ((1 : Nat) = 0)) := Sm.mk Nat.one_ne_zero
  have hQl := scs_len A
  have hQo := scs_one A
  have hQa := scs_app A
  by_cases hin : i < n
  · have ki : decide ((i : Int) < (n : Int)) = true := decide_eq_true (by omega)
    have s1 : IntKind.i64.wrap ((i : Int) + 1) = ((i + 1 : Nat) : Int) := by rw [wrap_i64 (by omega) (by omega)]; omega
    have hd := hdr i (by omega)
    have hta := List.take_succ_eq_append_getElem (show i < l.length by omega)
    obtain ⟨v, hv⟩ : ∃ x, x = l[i]'(by omega) := ⟨_, rfl⟩
    rw [← hv] at hd hta
    have hQa := hQa [v]
    obtain ⟨Q, hQ⟩ : ∃ Q, Q = scs A := ⟨_, rfl⟩
    rw [← hQ] at hQl hQo hQa
    simp only [← hQ]
    have q1 : (i + 1) * 5 ≤ C.length := by omega
    have hdl := ov_dec now v
    have hK : ovP now v = false → A ++ [v] = (l.take (i + 1)).filter (fun e => !ovP now e) := fun h => by
      rw [hta, List.filter_append, ← hT]
      simp [h]
    have hE : ovP now v = true → A = (l.take (i + 1)).filter (fun e => !ovP now e) := fun h => by
      rw [hta, List.filter_append, ← hT]
      simp [h]
    have hAl : (A ++ [v]).length = A.length + 1 := by simp
    obtain ⟨q, hq⟩ : ∃ q, ovP now v = q := ⟨_, rfl⟩
    rw [hq] at hdl hK hE
    clear hv hq hta
    obtain ⟨vn, vg, vw, vf, vt⟩ := v
    simp only at hd hK hE hdl
    have hQb : Q ++ [.lit (.string vn), .lit (.string vg), iv .i64 vw, iv .i64 vf, iv .i64 vt] = scs (A ++ [⟨vn, vg, vw, vf, vt⟩]) := hQa.symm
    cases q with
    | false =>
      first | (have FRx := FR; clear FRx) | have FR := fr0S
      have FA := Sm.mk (And.intro TFHuG (And.intro ki (And.intro hd (And.intro q1 (And.intro s1 (And.intro hQl (And.intro hQo hdl)))))))
      repeat' first | (apply Sm.mk; refine YsHuG0 ?_) | refine WP.seq fun K hK => ?_ | (apply Ob.mk; exact Yo) | refine And.intro (Ob.out ?_) ?_ | refine Y1HuG ?_ | refine YzHuG ?_ | (refine WP.cond rfl (fun hc => ?_) (fun hc => ?_) <;> (try simp only [ZC, reduceCtorEq, ZD] at hc) <;> (try exact absurd hc (by decide)) <;> (try (exfalso; omega))) | refine Rt.mk (And.intro (fun hg => Sm.out ?_) fun hg => Sm.out ?_) | (refine Nu.mk ?_; first | (fail_if_success have := nb1); intro nb1 | (fail_if_success have := nb2); intro nb2 | (fail_if_success have := nb3); intro nb3 | (fail_if_success have := nb4); intro nb4 | (fail_if_success have := nb5); intro nb5 | (fail_if_success have := nb6); intro nb6 | (fail_if_success have := nb7); intro nb7 | (fail_if_success have := nb8); intro nb8 | (fail_if_success have := nb9); intro nb9 | (fail_if_success have := nb10); intro nb10 | intro nbz) | (apply Yfr; refine Yf FR fun hFRb FR => ?_) | refine Two.mk ?_ ?_ | (apply Yxc; exact Yx) | refine Cs.mk fun hcs => Sm.out ?_ | go_step | omega | (simp only [maxLen_eq]; omega) | exact trivial
      have hb := hFRb
      exact ⟨⟨i + 1, A ++ [⟨vn, vg, vw, vf, vt⟩], nb3, nb4⟩, ⟨⟨by simp only; omega, by simp only; omega, by simp only; omega, hb.2⟩, hK rfl⟩, by simp only; omega, (Sub.pick (by simp [pickB, hget, hdel, FR.out, hQb, hAl]) (by simp [look, hQb, hAl]))⟩
    | true =>
      first | (have FRx := FR; clear FRx) | have FR := fr0S
      have FA := Sm.mk (And.intro TFHuG (And.intro ki (And.intro hd (And.intro q1 (And.intro s1 (And.intro hQl (And.intro hQo hdl)))))))
      repeat' first | (apply Sm.mk; refine YsHuG1 ?_) | refine WP.seq fun K hK => ?_ | (apply Ob.mk; exact Yo) | refine And.intro (Ob.out ?_) ?_ | refine Y1HuG ?_ | refine YzHuG ?_ | (refine WP.cond rfl (fun hc => ?_) (fun hc => ?_) <;> (try simp only [ZC, reduceCtorEq, ZD] at hc) <;> (try exact absurd hc (by decide)) <;> (try (exfalso; omega))) | refine Rt.mk (And.intro (fun hg => Sm.out ?_) fun hg => Sm.out ?_) | (refine Nu.mk ?_; first | (fail_if_success have := nb1); intro nb1 | (fail_if_success have := nb2); intro nb2 | (fail_if_success have := nb3); intro nb3 | (fail_if_success have := nb4); intro nb4 | (fail_if_success have := nb5); intro nb5 | (fail_if_success have := nb6); intro nb6 | (fail_if_success have := nb7); intro nb7 | (fail_if_success have := nb8); intro nb8 | (fail_if_success have := nb9); intro nb9 | (fail_if_success have := nb10); intro nb10 | intro nbz) | (apply Yfr; refine Yf FR fun hFRb FR => ?_) | refine Two.mk ?_ ?_ | (apply Yxc; exact Yx) | refine Cs.mk fun hcs => Sm.out ?_ | go_step | omega | (simp only [maxLen_eq]; omega) | exact trivial
      exact ⟨⟨i + 1, A, x, k⟩, ⟨⟨by simp only; omega, by simp only; omega, ha2, ha3⟩, hE rfl⟩, by simp only; omega, (Sub.pick (by simp [pickB, hget, hdel, FR.out, hQ]) (by simp [look, hQ]))⟩
  · have ki : decide ((i : Int) < (n : Int)) = false := decide_eq_false (by omega)
    obtain rfl : i = n := by omega
    rw [List.take_of_length_le (by omega)] at hT
    rw [← hT] at hA
    first | (have FRx := FR; clear FRx) | have FR := fr0S
    have FA := Sm.mk (And.intro TFHuG ki)
    repeat' first | (apply Sm.mk; refine Ys ?_) | refine WP.seq fun K hK => ?_ | (apply Ob.mk; exact Yo) | refine And.intro (Ob.out ?_) ?_ | refine Y1HuG ?_ | refine YzHuG ?_ | (refine WP.cond rfl (fun hc => ?_) (fun hc => ?_) <;> (try simp only [ZC, reduceCtorEq, ZD] at hc) <;> (try exact absurd hc (by decide)) <;> (try (exfalso; omega))) | refine Rt.mk (And.intro (fun hg => Sm.out ?_) fun hg => Sm.out ?_) | (refine Nu.mk ?_; first | (fail_if_success have := nb1); intro nb1 | (fail_if_success have := nb2); intro nb2 | (fail_if_success have := nb3); intro nb3 | (fail_if_success have := nb4); intro nb4 | (fail_if_success have := nb5); intro nb5 | (fail_if_success have := nb6); intro nb6 | (fail_if_success have := nb7); intro nb7 | (fail_if_success have := nb8); intro nb8 | (fail_if_success have := nb9); intro nb9 | (fail_if_success have := nb10); intro nb10 | intro nbz) | (apply Yfr; refine Yf FR fun hFRb FR => ?_) | refine Two.mk ?_ ?_ | (apply Yxc; exact Yx) | refine Cs.mk fun hcs => Sm.out ?_ | go_step | omega | (simp only [maxLen_eq]; omega) | exact trivial
    (refine OutQ.drop _ _ (perm1 (b := x) (by simp only [hget, hdel, ↓reduceIte, if_true, if_false, FR.out]; first | done | rfl)) (by simp only [resv, ZK, look, loadv, loadn, loadnm, load1, load1m, hget, ↓reduceIte, Nat.reduceEqDiff, Nat.reduceAdd, Nat.reduceMul, Nat.reduceLeDiff, Nat.reduceLT, reduceCtorEq, TFHuG, FR.out]) ?_; simp only [resv, resA, ZK, look, loadv, loadn, loadnm, load1, load1m, hget, ↓reduceIte, Nat.reduceEqDiff, Nat.reduceAdd, Nat.reduceMul, Nat.reduceLeDiff, Nat.reduceLT, reduceCtorEq, TFHuG, FR.out]; exact vw_row hA ha2 ha3)
theorem rswp_ct (l : List Sl) (now : Int) (n : Nat) (hn : l.length = n) (hl : n ≤ 100000) : ACt Tryd.prog 22 [.sl n (scs l), iv .i64 now] [] (Fn (.sl (swpL l now).length (scs (swpL l now)))) :=
  ACt.fzV (rswp_row l now n hn hl)
noncomputable def sameX (a b : List Sl) : Bool := @decide (a = b) (Classical.propDecidable _)
theorem sameX_t {a b : List Sl} (h : a = b) : sameX a b = true := by unfold sameX; exact @decide_eq_true _ (Classical.propDecidable _) h
theorem sameX_f {a b : List Sl} (h : a ≠ b) : sameX a b = false := by unfold sameX; exact @decide_eq_false _ (Classical.propDecidable _) h
def seqB (a b : Sl) : Bool := a.nm == b.nm && (a.gl == b.gl && (a.w == b.w && (a.f == b.f && a.t == b.t)))
theorem seqB_iff (a b : Sl) : seqB a b = true ↔ a = b := by
  obtain ⟨an, ag, aw, af, at_⟩ := a
  obtain ⟨bn, bg, bw, bf, bt⟩ := b
  simp [seqB, ba_iff]
set_option maxRecDepth 8000 in
theorem same_ct (l l' : List Sl) (n m : Nat) (hn : l.length = n) (hm : l'.length = m) (hl : n ≤ 100000) : ACt Tryd.prog 23 [.sl n (scs l), .sl m (scs l')] [] (Fn (bv (sameX l l'))) := by
  have hCl := scs_len l
  have hdr := scs_drop l
  have hDl := scs_len l'
  have hds := scs_drop l'
  obtain ⟨R, hR⟩ : ∃ R, R = sameX l l' := ⟨_, rfl⟩
  rw [← hR]
  rw [hn] at hCl
  rw [hm] at hDl
  obtain ⟨C, hC⟩ : ∃ C, C = scs l := ⟨_, rfl⟩
  rw [← hC] at hCl hdr ⊢
  obtain ⟨D, hD⟩ : ∃ D, D = scs l' := ⟨_, rfl⟩
  rw [← hD] at hDl hds ⊢
  clear hC hD
  have hf := fe32
  by_cases hnm : n = m
  case neg =>
    have e : R = false := by
      rw [hR]
      exact sameX_f fun h => hnm (by rw [← hn, ← hm, h])
    have k0 : ((n : Int) != (m : Int)) = true := by simp only [bne_iff_ne, ne_eq]; omega
    have k1 : ((n : Int) == (m : Int)) = false := by simp only [beq_eq_false_iff_ne, ne_eq]; omega
    refine ACt.intro Tryd.func23 rfl (by kernel_rfl) (by simp [Tryd.ntmps23]) (fun cx => ?_)
    simp only [argE, Tryd.ntmps23, Tryd.results23]
    first | (have FRx := FR; clear FRx) | have FR := fr0S
    have FA := Sm.mk (And.intro TFHuG (And.intro k0 k1))
    repeat' first | (apply Sm.mk; refine YsHuG2 ?_) | refine WP.seq fun K hK => ?_ | (apply Ob.mk; exact Yo) | refine And.intro (Ob.out ?_) ?_ | refine Y1HuG ?_ | refine YzHuG ?_ | (refine WP.cond rfl (fun hc => ?_) (fun hc => ?_) <;> (try simp only [ZC, reduceCtorEq, ZD] at hc) <;> (try exact absurd hc (by decide)) <;> (try (exfalso; omega))) | refine Rt.mk (And.intro (fun hg => Sm.out ?_) fun hg => Sm.out ?_) | (refine Nu.mk ?_; first | (fail_if_success have := nb1); intro nb1 | (fail_if_success have := nb2); intro nb2 | (fail_if_success have := nb3); intro nb3 | (fail_if_success have := nb4); intro nb4 | (fail_if_success have := nb5); intro nb5 | (fail_if_success have := nb6); intro nb6 | (fail_if_success have := nb7); intro nb7 | (fail_if_success have := nb8); intro nb8 | (fail_if_success have := nb9); intro nb9 | (fail_if_success have := nb10); intro nb10 | intro nbz) | (apply Yfr; refine Yf FR fun hFRb FR => ?_) | refine Two.mk ?_ ?_ | (apply Yxc; exact Yx) | refine Cs.mk fun hcs => Sm.out ?_ | go_step | omega | (simp only [maxLen_eq]; omega) | exact trivial
    (have FA := Sm.mk (And.intro e FA.out); refine Yg ?_; try exact trivial)
  obtain rfl := hnm
  have k0 : ((n : Int) != (n : Int)) = false := by simp
  refine ACt.intro Tryd.func23 rfl (by kernel_rfl) (by simp [Tryd.ntmps23]) (fun cx => ?_)
  simp only [argE, Tryd.ntmps23, Tryd.results23]
  first | (have FRx := FR; clear FRx) | have FR := fr0S
  have FA := Sm.mk (And.intro TFHuG k0)
  repeat' first | (apply Sm.mk; refine Ys ?_) | refine WP.seq fun K hK => ?_ | (apply Ob.mk; exact Yo) | refine And.intro (Ob.out ?_) ?_ | refine Y1HuG ?_ | refine YzHuG ?_ | (refine WP.cond rfl (fun hc => ?_) (fun hc => ?_) <;> (try simp only [ZC, reduceCtorEq, ZD] at hc) <;> (try exact absurd hc (by decide)) <;> (try (exfalso; omega))) | refine Rt.mk (And.intro (fun hg => Sm.out ?_) fun hg => Sm.out ?_) | (refine Nu.mk ?_; first | (fail_if_success have := nb1); intro nb1 | (fail_if_success have := nb2); intro nb2 | (fail_if_success have := nb3); intro nb3 | (fail_if_success have := nb4); intro nb4 | (fail_if_success have := nb5); intro nb5 | (fail_if_success have := nb6); intro nb6 | (fail_if_success have := nb7); intro nb7 | (fail_if_success have := nb8); intro nb8 | (fail_if_success have := nb9); intro nb9 | (fail_if_success have := nb10); intro nb10 | intro nbz) | (apply Yfr; refine Yf FR fun hFRb FR => ?_) | refine Two.mk ?_ ?_ | (apply Yxc; exact Yx) | refine Cs.mk fun hcs => Sm.out ?_ | go_step | omega | (simp only [maxLen_eq]; omega) | exact trivial
  refine WP.loop (Γ := Nat) (fun i => ⟨[(5, iv .i64 (i : Int)), (0, .sl n C), (1, .sl n D)], []⟩) (fun i => i ≤ n ∧ ∀ q (h : q < l.length) (h' : q < l'.length), q < i → l[q] = l'[q]) (fun i => n - i) 0 ⟨Nat.zero_le _, fun q _ _ h => absurd h (Nat.not_lt_zero _)⟩ (Sub.pick (by simp [pickB, hget, hdel, FR.out]) (by simp [look])) ?_
  intro i ⟨hi, hok⟩
  have FR : Sm (¬ ((1 : Nat) = 0)) := Sm.mk Nat.one_ne_zero
  by_cases hin : i < n
  · have ki : decide ((i : Int) < (n : Int)) = true := decide_eq_true (by omega)
    have s1 : IntKind.i64.wrap ((i : Int) + 1) = ((i + 1 : Nat) : Int) := by rw [wrap_i64 (by omega) (by omega)]; omega
    have hd1 := hdr i (by omega)
    have hd2 := hds i (by omega)
    obtain ⟨x, hx⟩ : ∃ x, x = l[i]'(by omega) := ⟨_, rfl⟩
    obtain ⟨y, hy⟩ : ∃ y, y = l'[i]'(by omega) := ⟨_, rfl⟩
    rw [← hx] at hd1
    rw [← hy] at hd2
    have q1 : (i + 1) * 5 ≤ C.length := by omega
    have q2 : (i + 1) * 5 ≤ D.length := by omega
    obtain ⟨v, hv⟩ : ∃ v, seqB x y = v := ⟨_, rfl⟩
    have hvi := seqB_iff x y
    rw [hv] at hvi
    unfold seqB at hv
    first | (have FRx := FR; clear FRx) | have FR := fr0S
    have FA := Sm.mk (And.intro TFHuG (And.intro ki (And.intro hd1 (And.intro hd2 (And.intro q1 (And.intro q2 (And.intro s1 (And.intro hf hv))))))))
    repeat' first | (apply Sm.mk; refine YsHuG3 ?_) | refine WP.seq fun K hK => ?_ | (apply Ob.mk; exact Yo) | refine And.intro (Ob.out ?_) ?_ | refine Y1HuG ?_ | refine YzHuG ?_ | (refine WP.cond rfl (fun hc => ?_) (fun hc => ?_) <;> (try simp only [ZC, reduceCtorEq, ZD] at hc) <;> (try exact absurd hc (by decide)) <;> (try (exfalso; omega))) | refine Rt.mk (And.intro (fun hg => Sm.out ?_) fun hg => Sm.out ?_) | (refine Nu.mk ?_; first | (fail_if_success have := nb1); intro nb1 | (fail_if_success have := nb2); intro nb2 | (fail_if_success have := nb3); intro nb3 | (fail_if_success have := nb4); intro nb4 | (fail_if_success have := nb5); intro nb5 | (fail_if_success have := nb6); intro nb6 | (fail_if_success have := nb7); intro nb7 | (fail_if_success have := nb8); intro nb8 | (fail_if_success have := nb9); intro nb9 | (fail_if_success have := nb10); intro nb10 | intro nbz) | (apply Yfr; refine Yf FR fun hFRb FR => ?_) | refine Two.mk ?_ ?_ | (apply Yxc; exact Yx) | refine Cs.mk fun hcs => Sm.out ?_ | go_step | omega | (simp only [maxLen_eq]; omega) | exact trivial
    · have e : R = false := by
        rw [hR]
        refine sameX_f fun h => ?_
        subst h
        have := hvi.2 (by rw [hx, hy])
        rw [hc] at this; cases this
      (have FA := Sm.mk (And.intro e FA.out); refine Yg ?_; try exact trivial)
    · exact ⟨i + 1, ⟨by omega, fun q hq hq' h => by
        by_cases e : q = i
        · subst e; rw [← hx, ← hy]; exact hvi.1 hc
        · exact hok q hq hq' (by omega)⟩, by omega, (Sub.pick (by simp [pickB, hget, hdel, FR.out]) (by simp [look]))⟩
  · have ki : decide ((i : Int) < (n : Int)) = false := decide_eq_false (by omega)
    have e : R = true := by
      rw [hR]
      refine sameX_t ?_
      exact List.ext_getElem (by omega) fun q h1 h2 => hok q h1 h2 (by omega)
    first | (have FRx := FR; clear FRx) | have FR := fr0S
    have FA := Sm.mk (And.intro TFHuG ki)
    repeat' first | (apply Sm.mk; refine Ys ?_) | refine WP.seq fun K hK => ?_ | (apply Ob.mk; exact Yo) | refine And.intro (Ob.out ?_) ?_ | refine Y1HuG ?_ | refine YzHuG ?_ | (refine WP.cond rfl (fun hc => ?_) (fun hc => ?_) <;> (try simp only [ZC, reduceCtorEq, ZD] at hc) <;> (try exact absurd hc (by decide)) <;> (try (exfalso; omega))) | refine Rt.mk (And.intro (fun hg => Sm.out ?_) fun hg => Sm.out ?_) | (refine Nu.mk ?_; first | (fail_if_success have := nb1); intro nb1 | (fail_if_success have := nb2); intro nb2 | (fail_if_success have := nb3); intro nb3 | (fail_if_success have := nb4); intro nb4 | (fail_if_success have := nb5); intro nb5 | (fail_if_success have := nb6); intro nb6 | (fail_if_success have := nb7); intro nb7 | (fail_if_success have := nb8); intro nb8 | (fail_if_success have := nb9); intro nb9 | (fail_if_success have := nb10); intro nb10 | intro nbz) | (apply Yfr; refine Yf FR fun hFRb FR => ?_) | refine Two.mk ?_ ?_ | (apply Yxc; exact Yx) | refine Cs.mk fun hcs => Sm.out ?_ | go_step | omega | (simp only [maxLen_eq]; omega) | exact trivial
    (have FA := Sm.mk (And.intro e FA.out); refine Yg ?_; try exact trivial)
end Go.Proofs.YtaffbklkjjmmdaaDoor
