/-
  The walks and the laws that the statement leans on, part 20.
-/
import Derived.Test.YtaffbklkjjmmdaaDoorP9
import Derived.Test.YtaffbklkjjmmdaaDoorP19
namespace Go.Proofs.YtaffbklkjjmmdaaDoor
open Go
set_option linter.unusedVariables false
set_option linter.unusedSimpArgs false
set_option linter.defProp false
def TFHuD :=
  And.intro (And.intro (And.intro (And.intro (And.intro tyc0 tyc2) (And.intro zmb2 tyc3)) (And.intro (And.intro zmb3 tyc4) (And.intro zmb4 (And.intro tyc22 elt22)))) (And.intro (And.intro (And.intro mkz22 mkc22) (And.intro apT22 elk22)) (And.intro (And.intro zmb22 tyc30) (And.intro zmb30 (And.intro tyc32 foff32_0))))) (And.intro (And.intro (And.intro (And.intro fpart32_0 foff32_1) (And.intro fpart32_1 foff32_2)) (And.intro (And.intro fpart32_2 foff32_3) (And.intro fpart32_3 (And.intro foff32_4 fpart32_4)))) (And.intro (And.intro (And.intro fe32 zmb32) (And.intro bldT32 (And.intro Tryd.underlying0 Tryd.underlying2))) (And.intro (And.intro Tryd.underlying3 Tryd.underlying4) (And.intro Tryd.underlying22 (And.intro Tryd.underlying30 Tryd.underlying32)))))
theorem Y1HuD {G R : Prop} (r : R) (h : R → G := by intro r; first | (apply WP.region; exact rvc_sound _ _ (Sm.out r)) | exact WP.drawK rfl mixed (by decide +kernel) (Sm.out r) | (apply WP.block; exact r) | (apply WP.skip; exact Yq r) | (apply WP.exit; exact Yq r) | (apply WP.ret; exact Sm.out r) | exact WP.cond rfl (fun _ => r) (fun hg => absurd hg (by decide)) | exact WP.cond rfl (fun hg => absurd hg (by decide)) (fun _ => r) | exact Rt.mk (And.intro (fun _ => Sm.out r) fun hg => absurd hg (by decide)) | exact Rt.mk (And.intro (fun hg => absurd hg (by decide)) fun _ => Sm.out r)) : G := h r
theorem YzHuD {G R : Prop} (r : R) (h : R → G := by intro r; first | (apply ExG.no; exact Sm.out r) | (apply Or.inl; apply ExG.no; exact Sm.out r) | exact Or.inl (And.intro (fun hg => absurd hg (by decide)) (ExG.no (Sm.out r)))) : G := h r
theorem YsHuD0 {P Q : Prop} (q : Q) (h : P = Q := by (try (conv => lhs; simp -dsimp only [ZK, rvc, capA, appA, litL, mkfv, drawF, headN, pureH, stp, dvc, calleeOf, gcall, pev, eff, newB, okd, og, ogs, ogo, ogp, slv, bltv, opd, litv, strip, one, both, putE, St.put, look, gdOf, gdv, picka, pickv, pickw, binv, bini, bins, binb, binp, binq, isSlT, bina, shp, eqCells, unv, convv, nilv, faddv, addp, idxav, idxp, load1, load1m, loadn, loadnm, loadv, hget, hset, hrep, hdel, slicev, slice3v, bnd, shift1, lenv, capv, IntKind.bits, extractv, fieldv, indexv, min2v, max2v, mkiv, tasv, tasz, cellsA, fillA, buildv, stC, oneC, rowMB, intsA, plN, appE, appZ, appC, appS, srcB, appNZ, appNC, VwL, srcC, srcZ, srcM, isBoolT, isPtrT, isSliceT, uOk, Value.oneCell', Nat.reducePow, Int.reducePow, Nat.reduceAdd, Nat.reduceMul, Nat.reduceSub, Nat.reduceLT, Nat.reduceLeDiff, Nat.reduceEqDiff, Nat.reduceBEq, Nat.reduceDiv, Nat.reduceMod, ↓reduceIte, reduceCtorEq, Int.reduceToNat, Int.reduceLT, Int.reduceLE, TFHuD, SeqQ, BlkQ, LoopQ, BodyQ, hin, FA.out, FR.out])) <;> exact rfl) : P := h.mpr q
theorem YsHuD1 {P Q : Prop} (q : Q) (h : P = Q := by (try (conv => lhs; simp -dsimp only [ZK, rvc, capA, appA, litL, mkfv, drawF, headN, pureH, stp, dvc, calleeOf, gcall, pev, eff, newB, okd, og, ogs, ogo, ogp, slv, bltv, opd, litv, strip, one, both, putE, St.put, look, gdOf, gdv, picka, pickv, pickw, binv, bini, bins, binb, binp, binq, isSlT, bina, shp, eqCells, unv, convv, nilv, faddv, addp, idxav, idxp, load1, load1m, loadn, loadnm, loadv, hget, hset, hrep, hdel, slicev, slice3v, bnd, shift1, lenv, capv, IntKind.bits, extractv, fieldv, indexv, min2v, max2v, mkiv, tasv, tasz, cellsA, fillA, buildv, stC, oneC, rowMB, intsA, plN, appE, appZ, appC, appS, srcB, appNZ, appNC, VwL, srcC, srcZ, srcM, isBoolT, isPtrT, isSliceT, uOk, Value.oneCell', Nat.reducePow, Int.reducePow, Nat.reduceAdd, Nat.reduceMul, Nat.reduceSub, Nat.reduceLT, Nat.reduceLeDiff, Nat.reduceEqDiff, Nat.reduceBEq, Nat.reduceDiv, Nat.reduceMod, ↓reduceIte, reduceCtorEq, Int.reduceToNat, Int.reduceLT, Int.reduceLE, TFHuD, SeqQ, BlkQ, LoopQ, BodyQ, stL, Nat.zero_add, Nat.sub_zero, FA.out, FR.out])) <;> exact rfl) : P := h.mpr q
theorem repA_ln (n : Nat) (z : List AV) : (repA n z).length = n * z.length := by unfold repA; simp
theorem repA_one9 (n : Nat) {z : List AV} (h : z.all oneC = true) : (repA n z).all oneC = true := by
  unfold repA
  rw [List.all_eq_true]
  intro y hy
  obtain ⟨w, hw, hyw⟩ := List.mem_flatten.1 hy
  rw [(List.mem_replicate.1 hw).2] at hyw
  exact List.all_eq_true.1 h y hyw
abbrev nwb (now : Int) : MB := .cells [iv .i64 now] 1 2
abbrev fSw (b : Nat) : AV := .lit (.func (.func 47) #[] #[.pointer (some ⟨b, 0, none⟩)])
theorem sw1_ct (e : Sl) (now : Int) (b : Nat) : ACt Tryd.prog 47 [siv e, pt b 0] [(b, nwb now)] (fun r F' => r = bv (ovP now e) ∧ F' = [(b, nwb now)]) := by
  unfold nwb
  obtain ⟨en, eg, ew, ef, et⟩ := e
  have hq0 : decide (et ≤ now) = ovP now ⟨en, eg, ew, ef, et⟩ := rfl
  obtain ⟨q, hq⟩ : ∃ q, ovP now ⟨en, eg, ew, ef, et⟩ = q := ⟨_, rfl⟩
  rw [hq] at hq0 ⊢
  refine ACt.intro Tryd.func47 rfl (by kernel_rfl) (by simp [Tryd.ntmps47]) (fun cx => ?_)
  simp only [argE, Tryd.ntmps47, Tryd.results47]
  first | (have FRx := FR; clear FRx) | have FR := fr0S
  have FA := Sm.mk (And.intro TFHuD hq0)
  repeat' first | (apply Sm.mk; refine Ys ?_) | refine WP.seq fun K hK => ?_ | (apply Ob.mk; exact Yo) | refine And.intro (Ob.out ?_) ?_ | refine Y1HuD ?_ | refine YzHuD ?_ | (refine WP.cond rfl (fun hc => ?_) (fun hc => ?_) <;> (try simp only [ZC, reduceCtorEq, ZD] at hc) <;> (try exact absurd hc (by decide)) <;> (try (exfalso; omega))) | refine Rt.mk (And.intro (fun hg => Sm.out ?_) fun hg => Sm.out ?_) | (refine Nu.mk ?_; first | (fail_if_success have := nb1); intro nb1 | (fail_if_success have := nb2); intro nb2 | (fail_if_success have := nb3); intro nb3 | (fail_if_success have := nb4); intro nb4 | (fail_if_success have := nb5); intro nb5 | (fail_if_success have := nb6); intro nb6 | (fail_if_success have := nb7); intro nb7 | (fail_if_success have := nb8); intro nb8 | (fail_if_success have := nb9); intro nb9 | (fail_if_success have := nb10); intro nb10 | intro nbz) | (apply Yfr; refine Yf FR fun hFRb FR => ?_) | refine Two.mk ?_ ?_ | (apply Yxc; exact Yx) | refine Cs.mk fun hcs => Sm.out ?_ | go_step | omega | (simp only [maxLen_eq]; omega) | exact trivial
  (refine OutQ.upd (by simp only [resv, ZK, look, loadv, loadn, loadnm, load1, load1m, hget, ↓reduceIte, Nat.reduceEqDiff, Nat.reduceAdd, Nat.reduceMul, Nat.reduceLeDiff, Nat.reduceLT, reduceCtorEq, TFHuD, FR.out, hq0]) (by simp only [resv, resA, ZK, look, loadv, loadn, loadnm, load1, load1m, hget, ↓reduceIte, Nat.reduceEqDiff, Nat.reduceAdd, Nat.reduceMul, Nat.reduceLeDiff, Nat.reduceLT, reduceCtorEq, TFHuD, FR.out, hq0]; first | done | rfl) (by simp only [hget, ↓reduceIte, if_true, if_false, FR.out, hq0]; first | done | rfl) ?_ <;> first | exact rfl | (simp only [ZK, look, loadv, loadn, loadnm, load1, load1m, hget, ↓reduceIte, Nat.reduceEqDiff, Nat.reduceAdd, Nat.reduceMul, Nat.reduceLeDiff, Nat.reduceLT, reduceCtorEq, TFHuD, FR.out, hq0]; done) | skip)
theorem ixf_ct (l : List Sl) (now : Int) (n k x b : Nat) (hn : l.length = n) (hl : n ≤ 100000) (hk : n ≤ k ∧ k ≤ 9223372036854775807) (hxb : x ≠ b ∧ b ≠ x) :
    ACt Tryd.prog 67 [ms x 0 n k, fSw b] [(x, .cells (scs l) (k * 5) 32), (b, nwb now)] (fun r F' => r = iv .i64 (ixF (ovP now) l 0) ∧ F' = [(x, .cells (scs l) (k * 5) 32), (b, nwb now)]) := by
  have hCl := scs_len l
  have hdr := scs_drop l
  have hix := fun (i : Nat) (h : i < l.length) => ixF_drop (ovP now) l h
  have cT := fun e => sw1_ct e now b
  rw [hn] at hCl
  obtain ⟨R, hR⟩ : ∃ R, R = ixF (ovP now) l 0 := ⟨_, rfl⟩
  rw [← hR]
  obtain ⟨C, hC⟩ : ∃ C, C = scs l := ⟨_, rfl⟩
  rw [← hC] at hCl hdr ⊢
  unfold nwb at cT ⊢
  unfold fSw
  refine ACt.intro Tryd.func67 rfl (by kernel_rfl) (by simp [Tryd.ntmps67]) (fun cx => ?_)
  simp only [argE, Tryd.ntmps67, Tryd.results67]
  first | (have FRx := FR; clear FRx) | have FR := fr0S
  have FA := Sm.mk (TFHuD)
  repeat' first | (apply Sm.mk; refine Ys ?_) | refine WP.seq fun K hK => ?_ | (apply Ob.mk; exact Yo) | refine And.intro (Ob.out ?_) ?_ | refine Y1HuD ?_ | refine YzHuD ?_ | (refine WP.cond rfl (fun hc => ?_) (fun hc => ?_) <;> (try simp only [ZC, reduceCtorEq, ZD] at hc) <;> (try exact absurd hc (by decide)) <;> (try (exfalso; omega))) | refine Rt.mk (And.intro (fun hg => Sm.out ?_) fun hg => Sm.out ?_) | (refine Nu.mk ?_; first | (fail_if_success have := nb1); intro nb1 | (fail_if_success have := nb2); intro nb2 | (fail_if_success have := nb3); intro nb3 | (fail_if_success have := nb4); intro nb4 | (fail_if_success have := nb5); intro nb5 | (fail_if_success have := nb6); intro nb6 | (fail_if_success have := nb7); intro nb7 | (fail_if_success have := nb8); intro nb8 | (fail_if_success have := nb9); intro nb9 | (fail_if_success have := nb10); intro nb10 | intro nbz) | (apply Yfr; refine Yf FR fun hFRb FR => ?_) | refine Two.mk ?_ ?_ | (apply Yxc; exact Yx) | refine Cs.mk fun hcs => Sm.out ?_ | go_step | omega | (simp only [maxLen_eq]; omega) | exact trivial
  refine WP.loop (Γ := Nat) (fun i => ⟨[(8, iv .i64 (i : Int)), (7, iv .i64 (n : Int)), (0, ms x 0 n k), (1, .lit (.func (.func 47) #[] #[.pointer (some ⟨b, 0, none⟩)]))], [(x, .cells C (k * 5) 32), (b, .cells [iv .i64 now] 1 2)]⟩) (fun i => i ≤ n ∧ R = ixF (ovP now) (l.drop i) (i : Int)) (fun i => n - i) 0 ⟨Nat.zero_le _, by rw [List.drop_zero]; exact hR⟩ (Sub.pick (by simp [pickB, hget, hdel, FR.out, hxb]) (by simp [look, hxb])) ?_
  intro i ⟨hi, hr⟩
  have FR : Sm (¬ ((1 : Nat) = 0)) := Sm.mk Nat.one_ne_zero
  by_cases hin : i < n
  · have ki : decide ((i : Int) < (n : Int)) = true := decide_eq_true (by omega)
    have s1 : IntKind.i64.wrap ((i : Int) + 1) = ((i + 1 : Nat) : Int) := by rw [wrap_i64 (by omega) (by omega)]; omega
    have hd := hdr i (by omega)
    have hix := hix i (by omega)
    obtain ⟨v, hv⟩ : ∃ x, x = l[i]'(by omega) := ⟨_, rfl⟩
    rw [← hv] at hd hix
    have q1 : (i + 1) * 5 ≤ C.length := by omega
    have cF := cT v
    obtain ⟨q, hq⟩ : ∃ q, ovP now v = q := ⟨_, rfl⟩
    rw [hq] at cF hix
    rw [hix] at hr
    first | (have FRx := FR; clear FRx) | have FR := fr0S
    have FA := Sm.mk (And.intro TFHuD (And.intro ki (And.intro hd (And.intro q1 (And.intro s1 hxb)))))
    repeat' first | (apply Sm.mk; refine YsHuD0 ?_) | refine WP.seq fun K hK => ?_ | (apply Ob.mk; exact Yo) | refine And.intro (Ob.out ?_) ?_ | refine Y1HuD ?_ | (refine CallV.updM (cF) (perm1 (by simp only [hget, hdel, ↓reduceIte, FR.out, ki, hd, q1, hin, s1, hxb]; first | done | rfl)) (Sm.out ?_)) | refine YzHuD ?_ | (refine WP.cond rfl (fun hc => ?_) (fun hc => ?_) <;> (try simp only [ZC, reduceCtorEq, ZD] at hc) <;> (try exact absurd hc (by decide)) <;> (try (exfalso; omega))) | refine Rt.mk (And.intro (fun hg => Sm.out ?_) fun hg => Sm.out ?_) | (refine Nu.mk ?_; first | (fail_if_success have := nb1); intro nb1 | (fail_if_success have := nb2); intro nb2 | (fail_if_success have := nb3); intro nb3 | (fail_if_success have := nb4); intro nb4 | (fail_if_success have := nb5); intro nb5 | (fail_if_success have := nb6); intro nb6 | (fail_if_success have := nb7); intro nb7 | (fail_if_success have := nb8); intro nb8 | (fail_if_success have := nb9); intro nb9 | (fail_if_success have := nb10); intro nb10 | intro nbz) | (apply Yfr; refine Yf FR fun hFRb FR => ?_) | refine Two.mk ?_ ?_ | (apply Yxc; exact Yx) | refine Cs.mk fun hcs => Sm.out ?_ | go_step | omega | (simp only [maxLen_eq]; omega) | exact trivial
    · rw [if_pos hc] at hr
      (refine OutQ.drop _ _ (perm2 (by simp only [hget, hdel, ↓reduceIte, if_true, if_false, FR.out, hr, hxb]; first | done | rfl) (by simp only [hget, hdel, ↓reduceIte, if_true, if_false, FR.out, hr, hxb]; first | done | rfl)) (by simp only [resv, ZK, look, loadv, loadn, loadnm, load1, load1m, hget, ↓reduceIte, Nat.reduceEqDiff, Nat.reduceAdd, Nat.reduceMul, Nat.reduceLeDiff, Nat.reduceLT, reduceCtorEq, TFHuD, FR.out, hr, hxb]) ⟨(by simp only [resv, resA, ZK, look, loadv, loadn, loadnm, load1, load1m, hget, ↓reduceIte, Nat.reduceEqDiff, Nat.reduceAdd, Nat.reduceMul, Nat.reduceLeDiff, Nat.reduceLT, reduceCtorEq, TFHuD, FR.out, hr, hxb]; first | done | rfl), rfl⟩)
    · rw [if_neg (by rw [hc]; simp)] at hr
      exact ⟨i + 1, ⟨by omega, hr⟩, by omega, (Sub.pick (by simp [pickB, hget, hdel, FR.out, hxb]) (by simp [look, hxb]))⟩
  · have ki : decide ((i : Int) < (n : Int)) = false := decide_eq_false (by omega)
    rw [List.drop_eq_nil_of_le (by omega)] at hr
    have hr : R = -1 := hr
    first | (have FRx := FR; clear FRx) | have FR := fr0S
    have FA := Sm.mk (And.intro TFHuD (And.intro ki hxb))
    repeat' first | (apply Sm.mk; refine Ys ?_) | refine WP.seq fun K hK => ?_ | (apply Ob.mk; exact Yo) | refine And.intro (Ob.out ?_) ?_ | refine Y1HuD ?_ | refine YzHuD ?_ | (refine WP.cond rfl (fun hc => ?_) (fun hc => ?_) <;> (try simp only [ZC, reduceCtorEq, ZD] at hc) <;> (try exact absurd hc (by decide)) <;> (try (exfalso; omega))) | refine Rt.mk (And.intro (fun hg => Sm.out ?_) fun hg => Sm.out ?_) | (refine Nu.mk ?_; first | (fail_if_success have := nb1); intro nb1 | (fail_if_success have := nb2); intro nb2 | (fail_if_success have := nb3); intro nb3 | (fail_if_success have := nb4); intro nb4 | (fail_if_success have := nb5); intro nb5 | (fail_if_success have := nb6); intro nb6 | (fail_if_success have := nb7); intro nb7 | (fail_if_success have := nb8); intro nb8 | (fail_if_success have := nb9); intro nb9 | (fail_if_success have := nb10); intro nb10 | intro nbz) | (apply Yfr; refine Yf FR fun hFRb FR => ?_) | refine Two.mk ?_ ?_ | (apply Yxc; exact Yx) | refine Cs.mk fun hcs => Sm.out ?_ | go_step | omega | (simp only [maxLen_eq]; omega) | exact trivial
    (refine OutQ.drop _ _ (perm2 (by simp only [hget, hdel, ↓reduceIte, if_true, if_false, FR.out, hr, hxb]; first | done | rfl) (by simp only [hget, hdel, ↓reduceIte, if_true, if_false, FR.out, hr, hxb]; first | done | rfl)) (by simp only [resv, ZK, look, loadv, loadn, loadnm, load1, load1m, hget, ↓reduceIte, Nat.reduceEqDiff, Nat.reduceAdd, Nat.reduceMul, Nat.reduceLeDiff, Nat.reduceLT, reduceCtorEq, TFHuD, FR.out, hr, hxb]) ⟨(by simp only [resv, resA, ZK, look, loadv, loadn, loadnm, load1, load1m, hget, ↓reduceIte, Nat.reduceEqDiff, Nat.reduceAdd, Nat.reduceMul, Nat.reduceLeDiff, Nat.reduceLT, reduceCtorEq, TFHuD, FR.out, hr, hxb]; first | done | rfl), rfl⟩)
theorem take_keep {now : Int} {l D : List Sl} {i j : Nat} (hj : j < l.length) (hij : i < j) (hD : D.length = l.length) (h1 : D.take i = (l.take j).filter (fun e => !ovP now e)) (h2 : D.drop j = l.drop j) (hp : ovP now l[j] = false) :
    (D.set i l[j]).length = l.length ∧ (D.set i l[j]).take (i + 1) = (l.take (j + 1)).filter (fun e => !ovP now e) ∧ (D.set i l[j]).drop (j + 1) = l.drop (j + 1) := by
  refine ⟨by simp [hD], ?_, ?_⟩
  · rw [List.take_succ_eq_append_getElem hj, List.filter_append, ← h1, List.take_succ_eq_append_getElem (by simp; omega), List.take_set_of_le (Nat.le_refl _)]
    simp [hp]
  · rw [List.drop_set_of_lt (by omega)]
    have := congrArg (List.drop 1) h2
    rwa [List.drop_drop, List.drop_drop] at this
theorem drop_keep {now : Int} {l D : List Sl} {i j : Nat} (hj : j < l.length) (h1 : D.take i = (l.take j).filter (fun e => !ovP now e)) (h2 : D.drop j = l.drop j) (hp : ovP now l[j] = true) :
    D.take i = (l.take (j + 1)).filter (fun e => !ovP now e) ∧ D.drop (j + 1) = l.drop (j + 1) := by
  refine ⟨?_, ?_⟩
  · rw [List.take_succ_eq_append_getElem hj, List.filter_append, ← h1]
    simp [hp]
  · have := congrArg (List.drop 1) h2
    rwa [List.drop_drop, List.drop_drop] at this
set_option maxHeartbeats 4000000 in
theorem dlf_ct (l : List Sl) (now : Int) (n k x b : Nat) (hn : l.length = n) (hl : n ≤ 100000) (hk : n ≤ k ∧ k ≤ 9223372036854775807) (hxb : x ≠ b ∧ b ≠ x) :
    ACt Tryd.prog 46 [ms x 0 n k, fSw b] [(x, .cells (scs l) (k * 5) 32), (b, nwb now)] (fun r F' => r = ms x 0 (l.filter (fun e => !ovP now e)).length k ∧ F' = [(x, .cells (scs (l.filter (fun e => !ovP now e))) (k * 5) 32), (b, nwb now)]) := by
  have cI := ixf_ct l now n k x b hn hl hk hxb
  have cT := fun e => sw1_ct e now b
  have hsp := ixF_spec (ovP now) l 0
  rw [show ((0 : Nat) : Int) = 0 from rfl] at hsp
  obtain ⟨R, hR⟩ : ∃ R, R = l.filter (fun e => !ovP now e) := ⟨_, rfl⟩
  rw [← hR] at hsp ⊢
  rcases hsp with ⟨h1, h2, _⟩ | ⟨q, hq, h1, h2, h3, _⟩
  · rw [h1] at cI
    rw [h2]
    obtain ⟨C, hC⟩ : ∃ C, C = scs l := ⟨_, rfl⟩
    rw [← hC] at cI ⊢
    unfold nwb fSw at cI ⊢
    have k0 : ((-1 : Int) == -1) = true := rfl
    refine ACt.intro Tryd.func46 rfl (by kernel_rfl) (by simp [Tryd.ntmps46]) (fun cx => ?_)
    simp only [argE, Tryd.ntmps46, Tryd.results46]
    first | (have FRx := FR; clear FRx) | have FR := fr0S
    have FA := Sm.mk (And.intro TFHuD (And.intro k0 hxb))
    repeat' first | (apply Sm.mk; refine Ys ?_) | refine WP.seq fun K hK => ?_ | (apply Ob.mk; exact Yo) | refine And.intro (Ob.out ?_) ?_ | refine Y1HuD ?_ | refine Yw2 (c := cI) (r := ?_) | refine YzHuD ?_ | (refine WP.cond rfl (fun hc => ?_) (fun hc => ?_) <;> (try simp only [ZC, reduceCtorEq, ZD] at hc) <;> (try exact absurd hc (by decide)) <;> (try (exfalso; omega))) | refine Rt.mk (And.intro (fun hg => Sm.out ?_) fun hg => Sm.out ?_) | (refine Nu.mk ?_; first | (fail_if_success have := nb1); intro nb1 | (fail_if_success have := nb2); intro nb2 | (fail_if_success have := nb3); intro nb3 | (fail_if_success have := nb4); intro nb4 | (fail_if_success have := nb5); intro nb5 | (fail_if_success have := nb6); intro nb6 | (fail_if_success have := nb7); intro nb7 | (fail_if_success have := nb8); intro nb8 | (fail_if_success have := nb9); intro nb9 | (fail_if_success have := nb10); intro nb10 | intro nbz) | (apply Yfr; refine Yf FR fun hFRb FR => ?_) | refine Two.mk ?_ ?_ | (apply Yxc; exact Yx) | refine Cs.mk fun hcs => Sm.out ?_ | go_step | omega | (simp only [maxLen_eq]; omega) | exact trivial
    (refine OutQ.drop _ _ (perm2 (by simp only [hget, hdel, ↓reduceIte, if_true, if_false, FR.out, hn, hxb]; first | done | rfl) (by simp only [hget, hdel, ↓reduceIte, if_true, if_false, FR.out, hn, hxb]; first | done | rfl)) (by simp only [resv, ZK, look, loadv, loadn, loadnm, load1, load1m, hget, ↓reduceIte, Nat.reduceEqDiff, Nat.reduceAdd, Nat.reduceMul, Nat.reduceLeDiff, Nat.reduceLT, reduceCtorEq, TFHuD, FR.out, hn, hxb]) ⟨(by simp only [resv, resA, ZK, look, loadv, loadn, loadnm, load1, load1m, hget, ↓reduceIte, Nat.reduceEqDiff, Nat.reduceAdd, Nat.reduceMul, Nat.reduceLeDiff, Nat.reduceLT, reduceCtorEq, TFHuD, FR.out, hn, hxb]; first | done | rfl), rfl⟩)
  · rw [h1, Nat.zero_add] at cI
    have hst : (l.take q) = (l.take (q + 1)).filter (fun e => !ovP now e) := by
      rw [List.take_succ_eq_append_getElem hq, List.filter_append, h3]
      simp [h2]
    clear h1 h2 h3
    unfold nwb at cI cT ⊢
    unfold fSw at cI ⊢
    have k0 : ((q : Int) == -1) = false := beq_eq_false_iff_ne.2 (by omega)
    have s0 : IntKind.i64.wrap ((q : Int) + 1) = ((q + 1 : Nat) : Int) := by rw [wrap_i64 (by omega) (by omega)]; omega
    obtain ⟨C, hC⟩ : ∃ C, C = scs l := ⟨_, rfl⟩
    rw [← hC] at cI ⊢
    refine ACt.intro Tryd.func46 rfl (by kernel_rfl) (by simp [Tryd.ntmps46]) (fun cx => ?_)
    simp only [argE, Tryd.ntmps46, Tryd.results46]
    first | (have FRx := FR; clear FRx) | have FR := fr0S
    have FA := Sm.mk (And.intro TFHuD (And.intro k0 (And.intro s0 hxb)))
    repeat' first | (apply Sm.mk; refine Ys ?_) | refine WP.seq fun K hK => ?_ | (apply Ob.mk; exact Yo) | refine And.intro (Ob.out ?_) ?_ | refine Y1HuD ?_ | refine Yw2 (c := cI) (r := ?_) | refine YzHuD ?_ | (refine WP.cond rfl (fun hc => ?_) (fun hc => ?_) <;> (try simp only [ZC, reduceCtorEq, ZD] at hc) <;> (try exact absurd hc (by decide)) <;> (try (exfalso; omega))) | refine Rt.mk (And.intro (fun hg => Sm.out ?_) fun hg => Sm.out ?_) | (refine Nu.mk ?_; first | (fail_if_success have := nb1); intro nb1 | (fail_if_success have := nb2); intro nb2 | (fail_if_success have := nb3); intro nb3 | (fail_if_success have := nb4); intro nb4 | (fail_if_success have := nb5); intro nb5 | (fail_if_success have := nb6); intro nb6 | (fail_if_success have := nb7); intro nb7 | (fail_if_success have := nb8); intro nb8 | (fail_if_success have := nb9); intro nb9 | (fail_if_success have := nb10); intro nb10 | intro nbz) | (apply Yfr; refine Yf FR fun hFRb FR => ?_) | refine Two.mk ?_ ?_ | (apply Yxc; exact Yx) | refine Cs.mk fun hcs => Sm.out ?_ | go_step | omega | (simp only [maxLen_eq]; omega) | exact trivial
    refine WP.loop (Γ := Nat × Nat × List Sl) (fun g => ⟨[(5, iv .i64 (g.1 : Int)), (6, iv .i64 (g.2.1 : Int)), (0, ms x 0 n k), (1, .lit (.func (.func 47) #[] #[.pointer (some ⟨b, 0, none⟩)]))], [(x, .cells (scs g.2.2) (k * 5) 32), (b, .cells [iv .i64 now] 1 2)]⟩) (fun g => g.1 < g.2.1 ∧ g.2.1 ≤ n ∧ g.2.2.length = n ∧ g.2.2.take g.1 = (l.take g.2.1).filter (fun e => !ovP now e) ∧ g.2.2.drop g.2.1 = l.drop g.2.1) (fun g => n - g.2.1) (q, q + 1, l) ⟨by simp only; omega, by simp only; omega, hn, hst, rfl⟩ (Sub.pick (by simp [pickB, hget, hdel, FR.out, hxb, hC]) (by simp [look, hxb, hC])) ?_
    intro ⟨i, j, D⟩ ⟨hij, hj, hD, hT, hd⟩
    simp only at hij hj hD hT hd ⊢
    have FR : Sm (¬ ((1 : Nat) = 0)) := Sm.mk Nat.one_ne_zero
    have hCl := scs_len D
    rw [hD] at hCl
    by_cases hin : j < n
    · have ki : decide ((j : Int) < (n : Int)) = true := decide_eq_true (by omega)
      have s1 : IntKind.i64.wrap ((j : Int) + 1) = ((j + 1 : Nat) : Int) := by rw [wrap_i64 (by omega) (by omega)]; omega
      have s2 : IntKind.i64.wrap ((i : Int) + 1) = ((i + 1 : Nat) : Int) := by rw [wrap_i64 (by omega) (by omega)]; omega
      have hdr := scs_drop D j (by omega)
      have hv2 : D[j]'(by omega) = l[j]'(by omega) := by
        have := congrArg (fun z => z[0]?) hd
        simpa [List.getElem?_drop, List.getElem?_eq_getElem (show j < D.length by omega), List.getElem?_eq_getElem (show j < l.length by omega)] using this
      rw [hv2] at hdr
      have hK := take_keep (now := now) (l := l) (D := D) (i := i) (j := j) (by omega) hij (by omega) hT hd
      have hE := drop_keep (now := now) (l := l) (D := D) (i := i) (j := j) (by omega) hT hd
      obtain ⟨v, hv⟩ : ∃ x, x = l[j]'(by omega) := ⟨_, rfl⟩
      rw [← hv] at hdr hK hE
      obtain ⟨C, hC2⟩ : ∃ C, C = scs D := ⟨_, rfl⟩
      rw [← hC2] at hdr hCl
      simp only [← hC2]
      have q1 : (j + 1) * 5 ≤ C.length := by omega
      have q2 : (i + 1) * 5 ≤ C.length := by omega
      have q3 : i < n := by omega
      have cF := cT v
      obtain ⟨y, hy⟩ : ∃ y, ovP now v = y := ⟨_, rfl⟩
      rw [hy] at cF hK hE
      have h9 := scs_set5 D i (by omega) v
      rw [← hC2] at h9
      first | (have FRx := FR; clear FRx) | have FR := fr0S
      have FA := Sm.mk (And.intro TFHuD (And.intro ki (And.intro hdr (And.intro q1 (And.intro q2 (And.intro q3 (And.intro s1 (And.intro s2 (And.intro hxb hCl)))))))))
      repeat' first | (apply Sm.mk; refine YsHuD0 ?_) | refine WP.seq fun K hK => ?_ | (apply Ob.mk; exact Yo) | refine And.intro (Ob.out ?_) ?_ | refine Y1HuD ?_ | (refine CallV.updM (cF) (perm1 (by simp only [hget, hdel, ↓reduceIte, FR.out, ki, hdr, q1, q2, q3, hin, s1, s2, hxb, hCl]; first | done | rfl)) (Sm.out ?_)) | refine YzHuD ?_ | (refine WP.cond rfl (fun hc => ?_) (fun hc => ?_) <;> (try simp only [ZC, reduceCtorEq, ZD] at hc) <;> (try exact absurd hc (by decide)) <;> (try (exfalso; omega))) | refine Rt.mk (And.intro (fun hg => Sm.out ?_) fun hg => Sm.out ?_) | (refine Nu.mk ?_; first | (fail_if_success have := nb1); intro nb1 | (fail_if_success have := nb2); intro nb2 | (fail_if_success have := nb3); intro nb3 | (fail_if_success have := nb4); intro nb4 | (fail_if_success have := nb5); intro nb5 | (fail_if_success have := nb6); intro nb6 | (fail_if_success have := nb7); intro nb7 | (fail_if_success have := nb8); intro nb8 | (fail_if_success have := nb9); intro nb9 | (fail_if_success have := nb10); intro nb10 | intro nbz) | (apply Yfr; refine Yf FR fun hFRb FR => ?_) | refine Two.mk ?_ ?_ | (apply Yxc; exact Yx) | refine Cs.mk fun hcs => Sm.out ?_ | go_step | omega | (simp only [maxLen_eq]; omega) | exact trivial
      · have hK := hK hc
        exact ⟨(i + 1, j + 1, D.set i v), ⟨by simp only; omega, by simp only; omega, hK.1.trans hn, hK.2.1, hK.2.2⟩, by simp only; omega, (Sub.pick (by simp [pickB, hget, hdel, FR.out, hxb, h9]) (by simp [look, hxb, h9]))⟩
      · have hE := hE hc
        exact ⟨(i, j + 1, D), ⟨by simp only; omega, by simp only; omega, hD, hE.1, hE.2⟩, by simp only; omega, (Sub.pick (by simp [pickB, hget, hdel, FR.out, hxb, hC2]) (by simp [look, hxb, hC2]))⟩
    · have ki : decide ((j : Int) < (n : Int)) = false := decide_eq_false (by omega)
      obtain rfl : j = n := by omega
      obtain ⟨C, hC2⟩ : ∃ C, C = scs D := ⟨_, rfl⟩
      rw [← hC2] at hCl
      simp only [← hC2]
      have q3 : i < j := hij
      have k2 : k ≠ i := by omega
      have t1 : ∀ q : Nat, ((q : Nat) : Int).toNat = q := fun q => by omega
      have q4 : i ≤ j := by omega
      have k1 : k ≠ 0 := by omega
      obtain ⟨Z, hZ⟩ : ∃ Z, repA (j - i) [AV.lit (.string ⟨#[]⟩), AV.lit (.string ⟨#[]⟩), AV.lit (.int .i64 0), AV.lit (.int .i64 0), AV.lit (.int .i64 0)] = Z := ⟨_, rfl⟩
      have hZl : Z.length = (j - i) * 5 := by rw [← hZ, repA_ln]; rfl
      have hZo : Z.all oneC = true := by rw [← hZ]; exact repA_one9 _ rfl
      have q5 : i * 5 + (j - i) * 5 ≤ j * 5 := by omega
      have hx : C.take (i * 5) = scs R := by
        rw [hC2, scs_take _ _ (by omega), hT, hR, List.take_of_length_le (by omega)]
      have hRl : R.length = i := by
        have := congrArg List.length hT
        rw [List.take_of_length_le (show l.length ≤ j by omega), ← hR] at this
        rw [← this, List.length_take]; omega
      have f5 := tkW (m := i * 5) (A := C) (by omega)
      first | (have FRx := FR; clear FRx) | have FR := fr0S
      have FA := Sm.mk (And.intro TFHuD (And.intro ki (And.intro hCl (And.intro hxb (And.intro q3 (And.intro q4 (And.intro q5 (And.intro k1 (And.intro k2 (And.intro t1 (And.intro hZ (And.intro hZl hZo))))))))))))
      repeat' first | (apply Sm.mk; refine YsHuD1 ?_) | refine WP.seq fun K hK => ?_ | (apply Ob.mk; exact Yo) | refine And.intro (Ob.out ?_) ?_ | refine Y1HuD ?_ | refine YzHuD ?_ | (refine WP.cond rfl (fun hc => ?_) (fun hc => ?_) <;> (try simp only [ZC, reduceCtorEq, ZD] at hc) <;> (try exact absurd hc (by decide)) <;> (try (exfalso; omega))) | refine Rt.mk (And.intro (fun hg => Sm.out ?_) fun hg => Sm.out ?_) | (refine Nu.mk ?_; first | (fail_if_success have := nb1); intro nb1 | (fail_if_success have := nb2); intro nb2 | (fail_if_success have := nb3); intro nb3 | (fail_if_success have := nb4); intro nb4 | (fail_if_success have := nb5); intro nb5 | (fail_if_success have := nb6); intro nb6 | (fail_if_success have := nb7); intro nb7 | (fail_if_success have := nb8); intro nb8 | (fail_if_success have := nb9); intro nb9 | (fail_if_success have := nb10); intro nb10 | intro nbz) | (apply Yfr; refine Yf FR fun hFRb FR => ?_) | refine Two.mk ?_ ?_ | (apply Yxc; exact Yx) | refine Cs.mk fun hcs => Sm.out ?_ | go_step | omega | (simp only [maxLen_eq]; omega) | exact trivial
      (refine OutQ.cutc (cs := ?_) (s0 := ?_) (ty := ?_) x (i * 5) ?hg3 ?_; case hg3 => exact if_pos rfl); simp only [hset, ↓reduceIte, f5]
      (refine OutQ.drop _ _ (perm2 (by simp only [hget, hdel, ↓reduceIte, if_true, if_false, FR.out, hRl, hx, f5, hxb]; first | done | rfl) (by simp only [hget, hdel, ↓reduceIte, if_true, if_false, FR.out, hRl, hx, f5, hxb]; first | done | rfl)) (by simp only [resv, ZK, look, loadv, loadn, loadnm, load1, load1m, hget, ↓reduceIte, Nat.reduceEqDiff, Nat.reduceAdd, Nat.reduceMul, Nat.reduceLeDiff, Nat.reduceLT, reduceCtorEq, TFHuD, FR.out, hRl, hx, f5, hxb]) ⟨(by simp only [resv, resA, ZK, look, loadv, loadn, loadnm, load1, load1m, hget, ↓reduceIte, Nat.reduceEqDiff, Nat.reduceAdd, Nat.reduceMul, Nat.reduceLeDiff, Nat.reduceLT, reduceCtorEq, TFHuD, FR.out, hRl, hx, f5, hxb]; first | done | rfl), rfl⟩)
end Go.Proofs.YtaffbklkjjmmdaaDoor
