/-
  The walks and the laws that the statement leans on, part 40.
-/
import Derived.Test.YtaffbklkjjmmdaaDoorC9
import Derived.Test.YtaffbklkjjmmdaaDoorC39
namespace Go.Proofs.YtaffbklkjjmmdaaDoor
open Go
set_option linter.unusedVariables false
set_option linter.unusedSimpArgs false
set_option linter.defProp false
def TFHuVE :=
  And.intro (And.intro (And.intro (And.intro (And.intro tyc0 tyc3) (And.intro zmb3 tyc4)) (And.intro (And.intro zmb4 tyc22) (And.intro elt22 mkz22))) (And.intro (And.intro (And.intro mkc22 apT22) (And.intro elk22 zmb22)) (And.intro (And.intro tyc32 foff32_0) (And.intro fpart32_0 (And.intro foff32_1 fpart32_1))))) (And.intro (And.intro (And.intro (And.intro foff32_2 fpart32_2) (And.intro foff32_3 fpart32_3)) (And.intro (And.intro foff32_4 fpart32_4) (And.intro fe32 zmb32))) (And.intro (And.intro (And.intro bldT32 tyc62) (And.intro zmb62 Tryd.underlying0)) (And.intro (And.intro Tryd.underlying3 Tryd.underlying4) (And.intro Tryd.underlying22 (And.intro Tryd.underlying32 Tryd.underlying62)))))
theorem Y1HuVE {G R : Prop} (r : R) (h : R → G := by intro r; first | (apply WP.region; exact rvc_sound _ _ (Sm.out r)) | exact WP.drawK rfl mixed (by decide +kernel) (Sm.out r) | (apply WP.block; exact r) | (apply WP.skip; exact Yq r) | (apply WP.exit; exact Yq r) | (apply WP.ret; exact Sm.out r) | exact WP.cond rfl (fun _ => r) (fun hg => absurd hg (by decide)) | exact WP.cond rfl (fun hg => absurd hg (by decide)) (fun _ => r) | exact Rt.mk (And.intro (fun _ => Sm.out r) fun hg => absurd hg (by decide)) | exact Rt.mk (And.intro (fun hg => absurd hg (by decide)) fun _ => Sm.out r)) : G := h r
theorem YzHuVE {G R : Prop} (r : R) (h : R → G := by intro r; first | (apply ExG.no; exact Sm.out r) | (apply Or.inl; apply ExG.no; exact Sm.out r) | exact Or.inl (And.intro (fun hg => absurd hg (by decide)) (ExG.no (Sm.out r)))) : G := h r
theorem YsHuVE0 {P Q : Prop} (q : Q) (h : P = Q := by (try (conv => lhs; simp -dsimp only [ZK, rvc, capA, appA, litL, mkfv, drawF, headN, pureH, stp, dvc, calleeOf, gcall, pev, eff, newB, okd, og, ogs, ogo, ogp, slv, bltv, opd, litv, strip, one, both, putE, St.put, look, gdOf, gdv, picka, pickv, pickw, binv, bini, bins, binb, binp, binq, isSlT, bina, shp, eqCells, unv, convv, nilv, faddv, addp, idxav, idxp, load1, load1m, loadn, loadnm, loadv, hget, hset, hrep, hdel, slicev, slice3v, bnd, shift1, lenv, capv, IntKind.bits, extractv, fieldv, indexv, min2v, max2v, mkiv, tasv, tasz, cellsA, fillA, buildv, stC, oneC, rowMB, intsA, plN, appE, appZ, appC, appS, srcB, appNZ, appNC, VwL, srcC, srcZ, srcM, isBoolT, isPtrT, isSliceT, uOk, Value.oneCell', Nat.reducePow, Int.reducePow, Nat.reduceAdd, Nat.reduceMul, Nat.reduceSub, Nat.reduceLT, Nat.reduceLeDiff, Nat.reduceEqDiff, Nat.reduceBEq, Nat.reduceDiv, Nat.reduceMod, ↓reduceIte, reduceCtorEq, Int.reduceToNat, Int.reduceLT, Int.reduceLE, TFHuVE, SeqQ, BlkQ, LoopQ, BodyQ, drawSR, dvm, xst, putE, hdel, List.mem_cons, List.mem_singleton, FA.out, FR.out])) <;> exact rfl) : P := h.mpr q
theorem YsHuVE1 {P Q : Prop} (q : Q) (h : P = Q := by (try (conv => lhs; simp -dsimp only [ZK, rvc, capA, appA, litL, mkfv, drawF, headN, pureH, stp, dvc, calleeOf, gcall, pev, eff, newB, okd, og, ogs, ogo, ogp, slv, bltv, opd, litv, strip, one, both, putE, St.put, look, gdOf, gdv, picka, pickv, pickw, binv, bini, bins, binb, binp, binq, isSlT, bina, shp, eqCells, unv, convv, nilv, faddv, addp, idxav, idxp, load1, load1m, loadn, loadnm, loadv, hget, hset, hrep, hdel, slicev, slice3v, bnd, shift1, lenv, capv, IntKind.bits, extractv, fieldv, indexv, min2v, max2v, mkiv, tasv, tasz, cellsA, fillA, buildv, stC, oneC, rowMB, intsA, plN, appE, appZ, appC, appS, srcB, appNZ, appNC, VwL, srcC, srcZ, srcM, isBoolT, isPtrT, isSliceT, uOk, Value.oneCell', Nat.reducePow, Int.reducePow, Nat.reduceAdd, Nat.reduceMul, Nat.reduceSub, Nat.reduceLT, Nat.reduceLeDiff, Nat.reduceEqDiff, Nat.reduceBEq, Nat.reduceDiv, Nat.reduceMod, ↓reduceIte, reduceCtorEq, Int.reduceToNat, Int.reduceLT, Int.reduceLE, TFHuVE, SeqQ, BlkQ, LoopQ, BodyQ, dkn, kst, fvOf, beq_self_eq_true, Bool.true_beq, Bool.false_beq, Bool.not_true, Bool.not_false, FA.out, FR.out])) <;> exact rfl) : P := h.mpr q
structure PtG where
  D : List Sl
  m : Nat
  z : Bool
structure PtL where
  D : List Sl
  i : Nat
  j : Nat
set_option maxHeartbeats 8000000 in
theorem part_ct (l : List Sl) (x n k a b v : Nat) (hn : l.length = n) (hl : n ≤ 100000) (hk : n ≤ k ∧ k ≤ 9223372036854775807) (hb : b ≤ n) (hv : a ≤ v ∧ v < b) (hf : ∀ e ∈ l, fb e) :
    ACt Tryd.prog 86 [ms x 0 n k, iv .i64 (a : Int), iv .i64 (b : Int), iv .i64 (v : Int), fCm] [(x, .cells (scs l) (k * 5) 32)]
      (fun r F' => ∃ g : PtG, PtO l g.D a b g.m ∧ r = .tup [iv .i64 (g.m : Int), bv g.z] ∧ F' = [(x, .cells (scs g.D) (k * 5) 32)]) := by
  have w1 : IntKind.i64.wrap ((a : Int) + 1) = ((a + 1 : Nat) : Int) := by rw [wrap_i64 (by omega) (by omega)]; omega
  have w2 : IntKind.i64.wrap ((b : Int) - 1) = ((b - 1 : Nat) : Int) := by rw [wrap_i64 (by omega) (by omega)]; omega
  have hIs := PtI.start hn hb hv.1 hv.2
  obtain ⟨un, ug, uw, uf, ut, vn, vg, vw, vf, vt, U, V, C3, hda, hdb, h5a, h5b, hC3, hCl, r1, r2⟩ := swp_cells l (i := a) (j := v) (n := n) hn (by omega) (by omega)
  have r3 : a < n := by omega
  have r4 : v < n := by omega
  obtain ⟨C1, hC1⟩ : ∃ C, C = scs l := ⟨_, rfl⟩
  obtain ⟨C2, hC2⟩ : ∃ C, C = scs (swp l a v) := ⟨_, rfl⟩
  rw [← hC1] at hda hdb h5a hCl
  rw [← hC2] at h5b
  try rw [← hC1]
  refine ACt.intro Tryd.func86 rfl (by kernel_rfl) (by simp [Tryd.ntmps86]) (fun cx => ?_)
  simp only [argE, Tryd.ntmps86, Tryd.results86]
  first | (have FRx := FR; clear FRx) | have FR := fr0S
  have FA := Sm.mk (TFHuVE)
  repeat' first | (apply Sm.mk; refine Ys ?_) | refine WP.seq fun K hK => ?_ | (apply Ob.mk; exact Yo) | refine And.intro (Ob.out ?_) ?_ | ((fail_if_success (show WP _ _ _ (.region 1 _ _) _ _)); refine Y1HuVE ?_) | refine YzHuVE ?_ | (refine WP.cond rfl (fun hc => ?_) (fun hc => ?_) <;> (try simp only [ZC, reduceCtorEq, ZD] at hc) <;> (try exact absurd hc (by decide)) <;> (try (exfalso; omega))) | refine Rt.mk (And.intro (fun hg => Sm.out ?_) fun hg => Sm.out ?_) | (refine Nu.mk ?_; first | (fail_if_success have := nb1); intro nb1 | (fail_if_success have := nb2); intro nb2 | (fail_if_success have := nb3); intro nb3 | (fail_if_success have := nb4); intro nb4 | intro nbz) | (apply Yfr; refine Yf FR fun hFRb FR => ?_) | refine Two.mk ?_ ?_ | (apply Yxc; exact Yx) | refine Cs.mk fun hcs => Sm.out ?_ | go_step | omega | (simp only [maxLen_eq]; omega) | exact trivial
  refine WP.drawS3 (is := 13) (k := 14) x (a * 5) [7, 11] mixed (by decide +kernel) (by decide +kernel) (by decide +kernel) (Sm.out ?_)
  first | (have FRx := FR; clear FRx) | have FR := fr0S
  have FA := Sm.mk (And.intro TFHuVE (And.intro hda (And.intro hdb (And.intro h5a (And.intro h5b (And.intro hC3 (And.intro hCl (And.intro r1 (And.intro r2 (And.intro r3 (And.intro r4 (And.intro w1 w2))))))))))))
  repeat' first | (apply Sm.mk; refine YsHuVE0 ?_) | refine WP.seq fun K hK => ?_ | (apply Ob.mk; exact Yo) | refine And.intro (Ob.out ?_) ?_ | refine Y1HuVE ?_ | refine YzHuVE ?_ | (refine WP.cond rfl (fun hc => ?_) (fun hc => ?_) <;> (try simp only [ZC, reduceCtorEq, ZD] at hc) <;> (try exact absurd hc (by decide)) <;> (try (exfalso; omega))) | refine Rt.mk (And.intro (fun hg => Sm.out ?_) fun hg => Sm.out ?_) | (refine Nu.mk ?_; first | (fail_if_success have := nb1); intro nb1 | (fail_if_success have := nb2); intro nb2 | (fail_if_success have := nb3); intro nb3 | (fail_if_success have := nb4); intro nb4 | intro nbz) | (apply Yfr; refine Yf FR fun hFRb FR => ?_) | refine Two.mk ?_ ?_ | (apply Yxc; exact Yx) | refine Cs.mk fun hcs => Sm.out ?_ | go_step | omega | (simp only [maxLen_eq]; omega) | exact trivial
  rw [hC2]
  obtain ⟨D, hD⟩ : ∃ D, D = swp l a v := ⟨_, rfl⟩
  rw [← hD] at hIs ⊢
  obtain ⟨i0, hi0⟩ : ∃ i, i = a + 1 := ⟨_, rfl⟩
  obtain ⟨j0, hj0⟩ : ∃ i, i = b - 1 := ⟨_, rfl⟩
  rw [← hi0, ← hj0] at hIs ⊢
  have hI := hIs
  clear hIs
  have cA : Sm (∀ q : Nat, PtI l D a b q j0 n ∧ i0 ≤ q ∧ (q ≤ j0 → ¬ (at_ D q).f < (at_ D a).f) → ∀ s', Sub s' ⟨[(12, iv .i64 (q : Int)), (13, iv .i64 (j0 : Int)), (0, ms x 0 n k), (1, iv .i64 (a : Int)), (4, fCm)], [(x, .cells (scs D) (k * 5) 32)]⟩ → K s') := Sm.mk fun iI hq s' hs => by
    refine hK s' (WP.sub hs ?_)
    clear hK hs
    obtain ⟨hI, hqsiI, hstiI⟩ := hq
    first | (have FRx := FR; clear FRx) | have FR := fr0S
    have FA := Sm.mk (TFHuVE)
    repeat' first | (apply Sm.mk; refine Ys ?_) | refine WP.seq fun K hK => ?_ | (apply Ob.mk; exact Yo) | refine And.intro (Ob.out ?_) ?_ | refine Y1HuVE ?_ | refine YzHuVE ?_ | (refine WP.cond rfl (fun hc => ?_) (fun hc => ?_) <;> (try simp only [ZC, reduceCtorEq, ZD] at hc) <;> (try exact absurd hc (by decide)) <;> (try (exfalso; omega))) | refine Rt.mk (And.intro (fun hg => Sm.out ?_) fun hg => Sm.out ?_) | (refine Nu.mk ?_; first | (fail_if_success have := nb1); intro nb1 | (fail_if_success have := nb2); intro nb2 | (fail_if_success have := nb3); intro nb3 | (fail_if_success have := nb4); intro nb4 | intro nbz) | (apply Yfr; refine Yf FR fun hFRb FR => ?_) | refine Two.mk ?_ ?_ | (apply Yxc; exact Yx) | refine Cs.mk fun hcs => Sm.out ?_ | go_step | omega | (simp only [maxLen_eq]; omega) | exact trivial
    have cB : Sm (∀ q : Nat, PtI l D a b iI q n ∧ q ≤ j0 ∧ (iI ≤ q → (at_ D q).f < (at_ D a).f) → ∀ s', Sub s' ⟨[(12, iv .i64 (iI : Int)), (13, iv .i64 (q : Int)), (0, ms x 0 n k), (1, iv .i64 (a : Int)), (4, fCm)], [(x, .cells (scs D) (k * 5) 32)]⟩ → K s') := Sm.mk fun jJ hq s' hs => by
      refine hK s' (WP.sub hs ?_)
      clear hK hs
      obtain ⟨hI, hqsjJ, hstjJ⟩ := hq
      have hai := hI.ai
      have hjb := hI.jb
      have hij := hI.ij
      by_cases hc7 : jJ < iI
      · have k7 : decide ((iI : Int) > (jJ : Int)) = true := decide_eq_true (by omega)
        obtain ⟨un, ug, uw, uf, ut, vn, vg, vw, vf, vt, U, V, C3, hda, hdb, h5a, h5b, hC3, hCl, r1, r2⟩ := swp_cells D (i := jJ) (j := a) (n := n) hI.len (by omega) (by omega)
        have r3 : jJ < n := by omega
        have r4 : a < n := by omega
        obtain ⟨C1, hC1⟩ : ∃ C, C = scs D := ⟨_, rfl⟩
        obtain ⟨C2, hC2⟩ : ∃ C, C = scs (swp D jJ a) := ⟨_, rfl⟩
        rw [← hC1] at hda hdb h5a hCl
        rw [← hC2] at h5b
        try rw [← hC1]
        first | (have FRx := FR; clear FRx) | have FR := fr0S
        have FA := Sm.mk (And.intro TFHuVE k7)
        repeat' first | (apply Sm.mk; refine Ys ?_) | refine WP.seq fun K hK => ?_ | (apply Ob.mk; exact Yo) | refine And.intro (Ob.out ?_) ?_ | ((fail_if_success (show WP _ _ _ (.region 8 _ _) _ _)); refine Y1HuVE ?_) | refine YzHuVE ?_ | (refine WP.cond rfl (fun hc => ?_) (fun hc => ?_) <;> (try simp only [ZC, reduceCtorEq, ZD] at hc) <;> (try exact absurd hc (by decide)) <;> (try (exfalso; omega))) | refine Rt.mk (And.intro (fun hg => Sm.out ?_) fun hg => Sm.out ?_) | (refine Nu.mk ?_; first | (fail_if_success have := nb1); intro nb1 | (fail_if_success have := nb2); intro nb2 | (fail_if_success have := nb3); intro nb3 | (fail_if_success have := nb4); intro nb4 | intro nbz) | (apply Yfr; refine Yf FR fun hFRb FR => ?_) | refine Two.mk ?_ ?_ | (apply Yxc; exact Yx) | refine Cs.mk fun hcs => Sm.out ?_ | go_step | omega | (simp only [maxLen_eq]; omega) | exact trivial
        refine WP.drawS3 (is := 13) (k := 14) x (jJ * 5) [7, 11] mixed (by decide +kernel) (by decide +kernel) (by decide +kernel) (Sm.out ?_)
        first | (have FRx := FR; clear FRx) | have FR := fr0S
        have FA := Sm.mk (And.intro TFHuVE (And.intro hda (And.intro hdb (And.intro h5a (And.intro h5b (And.intro hC3 (And.intro hCl (And.intro r1 (And.intro r2 (And.intro r3 r4))))))))))
        repeat' first | (apply Sm.mk; refine YsHuVE0 ?_) | refine WP.seq fun K hK => ?_ | (apply Ob.mk; exact Yo) | refine And.intro (Ob.out ?_) ?_ | refine Y1HuVE ?_ | refine YzHuVE ?_ | (refine WP.cond rfl (fun hc => ?_) (fun hc => ?_) <;> (try simp only [ZC, reduceCtorEq, ZD] at hc) <;> (try exact absurd hc (by decide)) <;> (try (exfalso; omega))) | refine Rt.mk (And.intro (fun hg => Sm.out ?_) fun hg => Sm.out ?_) | (refine Nu.mk ?_; first | (fail_if_success have := nb1); intro nb1 | (fail_if_success have := nb2); intro nb2 | (fail_if_success have := nb3); intro nb3 | (fail_if_success have := nb4); intro nb4 | intro nbz) | (apply Yfr; refine Yf FR fun hFRb FR => ?_) | refine Two.mk ?_ ?_ | (apply Yxc; exact Yx) | refine Cs.mk fun hcs => Sm.out ?_ | go_step | omega | (simp only [maxLen_eq]; omega) | exact trivial
        (refine OutQ.drop _ _ (perm1 (by simp only [hget, hdel, ↓reduceIte, if_true, if_false, FR.out, hC2]; first | done | rfl)) (by simp only [resv, ZK, look, loadv, loadn, loadnm, load1, load1m, hget, ↓reduceIte, Nat.reduceEqDiff, Nat.reduceAdd, Nat.reduceMul, Nat.reduceLeDiff, Nat.reduceLT, reduceCtorEq, TFHuVE, FR.out, hC2]) ⟨⟨swp D jJ a, jJ, true⟩, hI.done hb hc7, (by simp only [resv, resA, ZK, look, loadv, loadn, loadnm, load1, load1m, hget, ↓reduceIte, Nat.reduceEqDiff, Nat.reduceAdd, Nat.reduceMul, Nat.reduceLeDiff, Nat.reduceLT, reduceCtorEq, TFHuVE, FR.out, hC2]; first | done | rfl), rfl⟩)
      · have k7 : decide ((iI : Int) > (jJ : Int)) = false := decide_eq_false (by omega)
        have w3 : IntKind.i64.wrap ((iI : Int) + 1) = ((iI + 1 : Nat) : Int) := by rw [wrap_i64 (by omega) (by omega)]; omega
        have w4 : IntKind.i64.wrap ((jJ : Int) - 1) = ((jJ - 1 : Nat) : Int) := by rw [wrap_i64 (by omega) (by omega)]; omega
        have hI2 := hI.swap hb (by omega) (hstiI (by omega)) (hstjJ (by omega))
        obtain ⟨un, ug, uw, uf, ut, vn, vg, vw, vf, vt, U, V, C3, hda, hdb, h5a, h5b, hC3, hCl, r1, r2⟩ := swp_cells D (i := iI) (j := jJ) (n := n) hI.len (by omega) (by omega)
        have r3 : iI < n := by omega
        have r4 : jJ < n := by omega
        obtain ⟨C1, hC1⟩ : ∃ C, C = scs D := ⟨_, rfl⟩
        obtain ⟨C2, hC2⟩ : ∃ C, C = scs (swp D iI jJ) := ⟨_, rfl⟩
        rw [← hC1] at hda hdb h5a hCl
        rw [← hC2] at h5b
        try rw [← hC1]
        first | (have FRx := FR; clear FRx) | have FR := fr0S
        have FA := Sm.mk (And.intro TFHuVE k7)
        repeat' first | (apply Sm.mk; refine Ys ?_) | refine WP.seq fun K hK => ?_ | (apply Ob.mk; exact Yo) | refine And.intro (Ob.out ?_) ?_ | ((fail_if_success (show WP _ _ _ (.region 10 _ _) _ _)); refine Y1HuVE ?_) | refine YzHuVE ?_ | (refine WP.cond rfl (fun hc => ?_) (fun hc => ?_) <;> (try simp only [ZC, reduceCtorEq, ZD] at hc) <;> (try exact absurd hc (by decide)) <;> (try (exfalso; omega))) | refine Rt.mk (And.intro (fun hg => Sm.out ?_) fun hg => Sm.out ?_) | (refine Nu.mk ?_; first | (fail_if_success have := nb1); intro nb1 | (fail_if_success have := nb2); intro nb2 | (fail_if_success have := nb3); intro nb3 | (fail_if_success have := nb4); intro nb4 | intro nbz) | (apply Yfr; refine Yf FR fun hFRb FR => ?_) | refine Two.mk ?_ ?_ | (apply Yxc; exact Yx) | refine Cs.mk fun hcs => Sm.out ?_ | go_step | omega | (simp only [maxLen_eq]; omega) | exact trivial
        refine WP.drawS3 (is := 13) (k := 14) x (iI * 5) [7, 11] mixed (by decide +kernel) (by decide +kernel) (by decide +kernel) (Sm.out ?_)
        first | (have FRx := FR; clear FRx) | have FR := fr0S
        have FA := Sm.mk (And.intro TFHuVE (And.intro hda (And.intro hdb (And.intro h5a (And.intro h5b (And.intro hC3 (And.intro hCl (And.intro r1 (And.intro r2 (And.intro r3 (And.intro r4 (And.intro w3 w4))))))))))))
        repeat' first | (apply Sm.mk; refine YsHuVE0 ?_) | refine WP.seq fun K hK => ?_ | (apply Ob.mk; exact Yo) | refine And.intro (Ob.out ?_) ?_ | refine Y1HuVE ?_ | refine YzHuVE ?_ | (refine WP.cond rfl (fun hc => ?_) (fun hc => ?_) <;> (try simp only [ZC, reduceCtorEq, ZD] at hc) <;> (try exact absurd hc (by decide)) <;> (try (exfalso; omega))) | refine Rt.mk (And.intro (fun hg => Sm.out ?_) fun hg => Sm.out ?_) | (refine Nu.mk ?_; first | (fail_if_success have := nb1); intro nb1 | (fail_if_success have := nb2); intro nb2 | (fail_if_success have := nb3); intro nb3 | (fail_if_success have := nb4); intro nb4 | intro nbz) | (apply Yfr; refine Yf FR fun hFRb FR => ?_) | refine Two.mk ?_ ?_ | (apply Yxc; exact Yx) | refine Cs.mk fun hcs => Sm.out ?_ | go_step | omega | (simp only [maxLen_eq]; omega) | exact trivial
        rw [hC2]
        obtain ⟨D2, hD2⟩ : ∃ E, E = swp D iI jJ := ⟨_, rfl⟩
        obtain ⟨i2, hi2⟩ : ∃ i, i = iI + 1 := ⟨_, rfl⟩
        obtain ⟨j2, hj2⟩ : ∃ i, i = jJ - 1 := ⟨_, rfl⟩
        rw [← hD2, ← hi2, ← hj2] at hI2
        refine WP.loop (Γ := PtL) (fun g => ⟨[(12, iv .i64 (g.i : Int)), (13, iv .i64 (g.j : Int)), (0, ms x 0 n k), (1, iv .i64 (a : Int)), (4, fCm)], [(x, .cells (scs g.D) (k * 5) 32)]⟩) (fun g => PtI l g.D a b g.i g.j n) (fun g => g.j + 1 - g.i) ⟨D2, i2, j2⟩ hI2 (Sub.pick (by simp [pickB, hget, hdel, FR.out, hD2, hi2, hj2]) (by simp [look, hD2, hi2, hj2])) ?_
        clear hI2 hD2 hi2 hj2
        intro ⟨D, i0, j0⟩ hI
        simp only at hI ⊢
        have FR : Sm (¬ ((1 : Nat) = 0)) := Sm.mk Nat.one_ne_zero
        first | (have FRx := FR; clear FRx) | have FR := fr0S
        have FA := Sm.mk (TFHuVE)
        repeat' first | (apply Sm.mk; refine Ys ?_) | refine WP.seq fun K hK => ?_ | (apply Ob.mk; exact Yo) | refine And.intro (Ob.out ?_) ?_ | refine Y1HuVE ?_ | refine YzHuVE ?_ | (refine WP.cond rfl (fun hc => ?_) (fun hc => ?_) <;> (try simp only [ZC, reduceCtorEq, ZD] at hc) <;> (try exact absurd hc (by decide)) <;> (try (exfalso; omega))) | refine Rt.mk (And.intro (fun hg => Sm.out ?_) fun hg => Sm.out ?_) | (refine Nu.mk ?_; first | (fail_if_success have := nb1); intro nb1 | (fail_if_success have := nb2); intro nb2 | (fail_if_success have := nb3); intro nb3 | (fail_if_success have := nb4); intro nb4 | intro nbz) | (apply Yfr; refine Yf FR fun hFRb FR => ?_) | refine Two.mk ?_ ?_ | (apply Yxc; exact Yx) | refine Cs.mk fun hcs => Sm.out ?_ | go_step | omega | (simp only [maxLen_eq]; omega) | exact trivial
        have cU : Sm (∀ q : Nat, PtI l D a b q j0 n ∧ i0 ≤ q ∧ (q ≤ j0 → ¬ (at_ D q).f < (at_ D a).f) → ∀ s', Sub s' ⟨[(12, iv .i64 (q : Int)), (13, iv .i64 (j0 : Int)), (0, ms x 0 n k), (1, iv .i64 (a : Int)), (4, fCm)], [(x, .cells (scs D) (k * 5) 32)]⟩ → K s') := Sm.mk fun iI hq s' hs => by
          refine hK s' (WP.sub hs ?_)
          clear hK hs
          obtain ⟨hI, hqsiI, hstiI⟩ := hq
          first | (have FRx := FR; clear FRx) | have FR := fr0S
          have FA := Sm.mk (TFHuVE)
          repeat' first | (apply Sm.mk; refine Ys ?_) | refine WP.seq fun K hK => ?_ | (apply Ob.mk; exact Yo) | refine And.intro (Ob.out ?_) ?_ | refine Y1HuVE ?_ | refine YzHuVE ?_ | (refine WP.cond rfl (fun hc => ?_) (fun hc => ?_) <;> (try simp only [ZC, reduceCtorEq, ZD] at hc) <;> (try exact absurd hc (by decide)) <;> (try (exfalso; omega))) | refine Rt.mk (And.intro (fun hg => Sm.out ?_) fun hg => Sm.out ?_) | (refine Nu.mk ?_; first | (fail_if_success have := nb1); intro nb1 | (fail_if_success have := nb2); intro nb2 | (fail_if_success have := nb3); intro nb3 | (fail_if_success have := nb4); intro nb4 | intro nbz) | (apply Yfr; refine Yf FR fun hFRb FR => ?_) | refine Two.mk ?_ ?_ | (apply Yxc; exact Yx) | refine Cs.mk fun hcs => Sm.out ?_ | go_step | omega | (simp only [maxLen_eq]; omega) | exact trivial
          have cV : Sm (∀ q : Nat, PtI l D a b iI q n ∧ q ≤ j0 ∧ (iI ≤ q → (at_ D q).f < (at_ D a).f) → ∀ s', Sub s' ⟨[(12, iv .i64 (iI : Int)), (13, iv .i64 (q : Int)), (0, ms x 0 n k), (1, iv .i64 (a : Int)), (4, fCm)], [(x, .cells (scs D) (k * 5) 32)]⟩ → K s') := Sm.mk fun jJ hq s' hs => by
            refine hK s' (WP.sub hs ?_)
            clear hK hs
            obtain ⟨hI, hqsjJ, hstjJ⟩ := hq
            have hai := hI.ai
            have hjb := hI.jb
            have hij := hI.ij
            by_cases hc7 : jJ < iI
            · have k7 : decide ((iI : Int) > (jJ : Int)) = true := decide_eq_true (by omega)
              obtain ⟨un, ug, uw, uf, ut, vn, vg, vw, vf, vt, U, V, C3, hda, hdb, h5a, h5b, hC3, hCl, r1, r2⟩ := swp_cells D (i := jJ) (j := a) (n := n) hI.len (by omega) (by omega)
              have r3 : jJ < n := by omega
              have r4 : a < n := by omega
              obtain ⟨C1, hC1⟩ : ∃ C, C = scs D := ⟨_, rfl⟩
              obtain ⟨C2, hC2⟩ : ∃ C, C = scs (swp D jJ a) := ⟨_, rfl⟩
              rw [← hC1] at hda hdb h5a hCl
              rw [← hC2] at h5b
              try rw [← hC1]
              first | (have FRx := FR; clear FRx) | have FR := fr0S
              have FA := Sm.mk (And.intro TFHuVE k7)
              repeat' first | (apply Sm.mk; refine Ys ?_) | refine WP.seq fun K hK => ?_ | (apply Ob.mk; exact Yo) | refine And.intro (Ob.out ?_) ?_ | ((fail_if_success (show WP _ _ _ (.region 21 _ _) _ _)); refine Y1HuVE ?_) | refine YzHuVE ?_ | (refine WP.cond rfl (fun hc => ?_) (fun hc => ?_) <;> (try simp only [ZC, reduceCtorEq, ZD] at hc) <;> (try exact absurd hc (by decide)) <;> (try (exfalso; omega))) | refine Rt.mk (And.intro (fun hg => Sm.out ?_) fun hg => Sm.out ?_) | (refine Nu.mk ?_; first | (fail_if_success have := nb1); intro nb1 | (fail_if_success have := nb2); intro nb2 | (fail_if_success have := nb3); intro nb3 | (fail_if_success have := nb4); intro nb4 | intro nbz) | (apply Yfr; refine Yf FR fun hFRb FR => ?_) | refine Two.mk ?_ ?_ | (apply Yxc; exact Yx) | refine Cs.mk fun hcs => Sm.out ?_ | go_step | omega | (simp only [maxLen_eq]; omega) | exact trivial
              refine WP.drawS3 (is := 13) (k := 14) x (jJ * 5) [7, 11] mixed (by decide +kernel) (by decide +kernel) (by decide +kernel) (Sm.out ?_)
              first | (have FRx := FR; clear FRx) | have FR := fr0S
              have FA := Sm.mk (And.intro TFHuVE (And.intro hda (And.intro hdb (And.intro h5a (And.intro h5b (And.intro hC3 (And.intro hCl (And.intro r1 (And.intro r2 (And.intro r3 r4))))))))))
              repeat' first | (apply Sm.mk; refine YsHuVE0 ?_) | refine WP.seq fun K hK => ?_ | (apply Ob.mk; exact Yo) | refine And.intro (Ob.out ?_) ?_ | refine Y1HuVE ?_ | refine YzHuVE ?_ | (refine WP.cond rfl (fun hc => ?_) (fun hc => ?_) <;> (try simp only [ZC, reduceCtorEq, ZD] at hc) <;> (try exact absurd hc (by decide)) <;> (try (exfalso; omega))) | refine Rt.mk (And.intro (fun hg => Sm.out ?_) fun hg => Sm.out ?_) | (refine Nu.mk ?_; first | (fail_if_success have := nb1); intro nb1 | (fail_if_success have := nb2); intro nb2 | (fail_if_success have := nb3); intro nb3 | (fail_if_success have := nb4); intro nb4 | intro nbz) | (apply Yfr; refine Yf FR fun hFRb FR => ?_) | refine Two.mk ?_ ?_ | (apply Yxc; exact Yx) | refine Cs.mk fun hcs => Sm.out ?_ | go_step | omega | (simp only [maxLen_eq]; omega) | exact trivial
              (refine OutQ.drop _ _ (perm1 (by simp only [hget, hdel, ↓reduceIte, if_true, if_false, FR.out, hC2]; first | done | rfl)) (by simp only [resv, ZK, look, loadv, loadn, loadnm, load1, load1m, hget, ↓reduceIte, Nat.reduceEqDiff, Nat.reduceAdd, Nat.reduceMul, Nat.reduceLeDiff, Nat.reduceLT, reduceCtorEq, TFHuVE, FR.out, hC2]) ⟨⟨swp D jJ a, jJ, false⟩, hI.done hb hc7, (by simp only [resv, resA, ZK, look, loadv, loadn, loadnm, load1, load1m, hget, ↓reduceIte, Nat.reduceEqDiff, Nat.reduceAdd, Nat.reduceMul, Nat.reduceLeDiff, Nat.reduceLT, reduceCtorEq, TFHuVE, FR.out, hC2]; first | done | rfl), rfl⟩)
            · have k7 : decide ((iI : Int) > (jJ : Int)) = false := decide_eq_false (by omega)
              have w3 : IntKind.i64.wrap ((iI : Int) + 1) = ((iI + 1 : Nat) : Int) := by rw [wrap_i64 (by omega) (by omega)]; omega
              have w4 : IntKind.i64.wrap ((jJ : Int) - 1) = ((jJ - 1 : Nat) : Int) := by rw [wrap_i64 (by omega) (by omega)]; omega
              obtain ⟨un, ug, uw, uf, ut, vn, vg, vw, vf, vt, U, V, C3, hda, hdb, h5a, h5b, hC3, hCl, r1, r2⟩ := swp_cells D (i := iI) (j := jJ) (n := n) hI.len (by omega) (by omega)
              have r3 : iI < n := by omega
              have r4 : jJ < n := by omega
              obtain ⟨C1, hC1⟩ : ∃ C, C = scs D := ⟨_, rfl⟩
              obtain ⟨C2, hC2⟩ : ∃ C, C = scs (swp D iI jJ) := ⟨_, rfl⟩
              rw [← hC1] at hda hdb h5a hCl
              rw [← hC2] at h5b
              try rw [← hC1]
              first | (have FRx := FR; clear FRx) | have FR := fr0S
              have FA := Sm.mk (And.intro TFHuVE k7)
              repeat' first | (apply Sm.mk; refine Ys ?_) | refine WP.seq fun K hK => ?_ | (apply Ob.mk; exact Yo) | refine And.intro (Ob.out ?_) ?_ | ((fail_if_success (show WP _ _ _ (.region 18 _ _) _ _)); refine Y1HuVE ?_) | refine YzHuVE ?_ | (refine WP.cond rfl (fun hc => ?_) (fun hc => ?_) <;> (try simp only [ZC, reduceCtorEq, ZD] at hc) <;> (try exact absurd hc (by decide)) <;> (try (exfalso; omega))) | refine Rt.mk (And.intro (fun hg => Sm.out ?_) fun hg => Sm.out ?_) | (refine Nu.mk ?_; first | (fail_if_success have := nb1); intro nb1 | (fail_if_success have := nb2); intro nb2 | (fail_if_success have := nb3); intro nb3 | (fail_if_success have := nb4); intro nb4 | intro nbz) | (apply Yfr; refine Yf FR fun hFRb FR => ?_) | refine Two.mk ?_ ?_ | (apply Yxc; exact Yx) | refine Cs.mk fun hcs => Sm.out ?_ | go_step | omega | (simp only [maxLen_eq]; omega) | exact trivial
              refine WP.drawS3 (is := 13) (k := 14) x (iI * 5) [7, 11] mixed (by decide +kernel) (by decide +kernel) (by decide +kernel) (Sm.out ?_)
              first | (have FRx := FR; clear FRx) | have FR := fr0S
              have FA := Sm.mk (And.intro TFHuVE (And.intro hda (And.intro hdb (And.intro h5a (And.intro h5b (And.intro hC3 (And.intro hCl (And.intro r1 (And.intro r2 (And.intro r3 (And.intro r4 (And.intro w3 w4))))))))))))
              repeat' first | (apply Sm.mk; refine YsHuVE0 ?_) | refine WP.seq fun K hK => ?_ | (apply Ob.mk; exact Yo) | refine And.intro (Ob.out ?_) ?_ | refine Y1HuVE ?_ | refine YzHuVE ?_ | (refine WP.cond rfl (fun hc => ?_) (fun hc => ?_) <;> (try simp only [ZC, reduceCtorEq, ZD] at hc) <;> (try exact absurd hc (by decide)) <;> (try (exfalso; omega))) | refine Rt.mk (And.intro (fun hg => Sm.out ?_) fun hg => Sm.out ?_) | (refine Nu.mk ?_; first | (fail_if_success have := nb1); intro nb1 | (fail_if_success have := nb2); intro nb2 | (fail_if_success have := nb3); intro nb3 | (fail_if_success have := nb4); intro nb4 | intro nbz) | (apply Yfr; refine Yf FR fun hFRb FR => ?_) | refine Two.mk ?_ ?_ | (apply Yxc; exact Yx) | refine Cs.mk fun hcs => Sm.out ?_ | go_step | omega | (simp only [maxLen_eq]; omega) | exact trivial
              exact ⟨⟨swp D iI jJ, iI + 1, jJ - 1⟩, hI.swap hb (by omega) (hstiI (by omega)) (hstjJ (by omega)), by simp only; omega, (Sub.pick (by simp [pickB, hget, hdel, FR.out, hC2]) (by simp [look, hC2]))⟩
          clear hK
          refine WP.loop (Γ := Nat) (fun q => ⟨[(12, iv .i64 (iI : Int)), (13, iv .i64 (q : Int)), (0, ms x 0 n k), (1, iv .i64 (a : Int)), (4, fCm)], [(x, .cells (scs D) (k * 5) 32)]⟩) (fun q => PtI l D a b iI q n ∧ q ≤ j0) (fun q => q) j0 ⟨hI, Nat.le_refl _⟩ (Sub.pick (by simp [pickB, hget, hdel, FR.out]) (by simp [look])) ?_
          clear hI
          intro q ⟨hI, hqs⟩
          have FR : Sm (¬ ((1 : Nat) = 0)) := Sm.mk Nat.one_ne_zero
          have hai := hI.ai
          have hjb := hI.jb
          have hij := hI.ij
          by_cases hq : iI ≤ q
          · have kq : decide (((iI : Nat) : Int) ≤ ((q : Nat) : Int)) = true := decide_eq_true (by omega)
            obtain ⟨un, ug, uw, uf, ut, vn, vg, vw, vf, vt, z, U, V, hd1, hd2, cF, hlt, q1, q2, hCl⟩ := cmp_cells (p := q) (q := a) hf hI.perm hI.len (by omega) (by omega)
            have q3 : q < n := by omega
            have q4 : a < n := by omega
            obtain ⟨C1, hC1⟩ : ∃ C, C = scs D := ⟨_, rfl⟩
            rw [← hC1] at hd1 hd2 q1 q2 hCl ⊢
            obtain ⟨t, ht⟩ : ∃ t, decide ((at_ D q).f < (at_ D a).f) = t := ⟨_, rfl⟩
            rw [ht] at hlt
            have s1 : IntKind.i64.wrap ((q : Int) - 1) = ((q - 1 : Nat) : Int) := by rw [wrap_i64 (by omega) (by omega)]; omega
            cases t with
            | false =>
              have hI2 := hI.dec hq (of_decide_eq_false ht)
              first | (have FRx := FR; clear FRx) | have FR := fr0S
              have FA := Sm.mk (TFHuVE)
              repeat' first | (apply Sm.mk; refine Ys ?_) | refine WP.seq fun K hK => ?_ | (apply Ob.mk; exact Yo) | refine And.intro (Ob.out ?_) ?_ | ((fail_if_success (show WP _ _ _ (.region 15 _ _) _ _)); refine Y1HuVE ?_) | refine YzHuVE ?_ | (refine WP.cond rfl (fun hc => ?_) (fun hc => ?_) <;> (try simp only [ZC, reduceCtorEq, ZD] at hc) <;> (try exact absurd hc (by decide)) <;> (try (exfalso; omega))) | refine Rt.mk (And.intro (fun hg => Sm.out ?_) fun hg => Sm.out ?_) | (refine Nu.mk ?_; first | (fail_if_success have := nb1); intro nb1 | (fail_if_success have := nb2); intro nb2 | (fail_if_success have := nb3); intro nb3 | (fail_if_success have := nb4); intro nb4 | intro nbz) | (apply Yfr; refine Yf FR fun hFRb FR => ?_) | refine Two.mk ?_ ?_ | (apply Yxc; exact Yx) | refine Cs.mk fun hcs => Sm.out ?_ | go_step | omega | (simp only [maxLen_eq]; omega) | exact trivial
              refine WP.drawV (k := 17) mixed (by decide +kernel) (Sm.out ?_)
              first | (have FRx := FR; clear FRx) | have FR := fr0S
              have FA := Sm.mk (And.intro TFHuVE (And.intro kq (And.intro hd1 (And.intro hd2 (And.intro q1 (And.intro q2 (And.intro q3 (And.intro q4 (And.intro hlt (And.intro s1 hCl))))))))))
              repeat' first | (apply Sm.mk; refine YsHuVE1 ?_) | refine WP.seq fun K hK => ?_ | (apply Ob.mk; exact Yo) | refine And.intro (Ob.out ?_) ?_ | refine Y1HuVE ?_ | refine Yc (c := cF) (r := ?_) | refine YzHuVE ?_ | (refine WP.cond rfl (fun hc => ?_) (fun hc => ?_) <;> (try simp only [ZC, reduceCtorEq, ZD] at hc) <;> (try exact absurd hc (by decide)) <;> (try (exfalso; omega))) | refine Rt.mk (And.intro (fun hg => Sm.out ?_) fun hg => Sm.out ?_) | (refine Nu.mk ?_; first | (fail_if_success have := nb1); intro nb1 | (fail_if_success have := nb2); intro nb2 | (fail_if_success have := nb3); intro nb3 | (fail_if_success have := nb4); intro nb4 | intro nbz) | (apply Yfr; refine Yf FR fun hFRb FR => ?_) | refine Two.mk ?_ ?_ | (apply Yxc; exact Yx) | refine Cs.mk fun hcs => Sm.out ?_ | go_step | omega | (simp only [maxLen_eq]; omega) | exact trivial
              exact ⟨q - 1, ⟨hI2, by omega⟩, by omega, (Sub.pick (by simp [pickB, hget, hdel, FR.out, hC1]) (by simp [look, hC1]))⟩
            | true =>
              have hst : iI ≤ q → (at_ D q).f < (at_ D a).f := fun _ => of_decide_eq_true ht
              first | (have FRx := FR; clear FRx) | have FR := fr0S
              have FA := Sm.mk (TFHuVE)
              repeat' first | (apply Sm.mk; refine Ys ?_) | refine WP.seq fun K hK => ?_ | (apply Ob.mk; exact Yo) | refine And.intro (Ob.out ?_) ?_ | ((fail_if_success (show WP _ _ _ (.region 15 _ _) _ _)); refine Y1HuVE ?_) | refine YzHuVE ?_ | (refine WP.cond rfl (fun hc => ?_) (fun hc => ?_) <;> (try simp only [ZC, reduceCtorEq, ZD] at hc) <;> (try exact absurd hc (by decide)) <;> (try (exfalso; omega))) | refine Rt.mk (And.intro (fun hg => Sm.out ?_) fun hg => Sm.out ?_) | (refine Nu.mk ?_; first | (fail_if_success have := nb1); intro nb1 | (fail_if_success have := nb2); intro nb2 | (fail_if_success have := nb3); intro nb3 | (fail_if_success have := nb4); intro nb4 | intro nbz) | (apply Yfr; refine Yf FR fun hFRb FR => ?_) | refine Two.mk ?_ ?_ | (apply Yxc; exact Yx) | refine Cs.mk fun hcs => Sm.out ?_ | go_step | omega | (simp only [maxLen_eq]; omega) | exact trivial
              refine WP.drawV (k := 17) mixed (by decide +kernel) (Sm.out ?_)
              first | (have FRx := FR; clear FRx) | have FR := fr0S
              have FA := Sm.mk (And.intro TFHuVE (And.intro kq (And.intro hd1 (And.intro hd2 (And.intro q1 (And.intro q2 (And.intro q3 (And.intro q4 (And.intro hlt hCl)))))))))
              repeat' first | (apply Sm.mk; refine YsHuVE1 ?_) | refine WP.seq fun K hK => ?_ | (apply Ob.mk; exact Yo) | refine And.intro (Ob.out ?_) ?_ | refine Y1HuVE ?_ | refine Yc (c := cF) (r := ?_) | refine YzHuVE ?_ | (refine WP.cond rfl (fun hc => ?_) (fun hc => ?_) <;> (try simp only [ZC, reduceCtorEq, ZD] at hc) <;> (try exact absurd hc (by decide)) <;> (try (exfalso; omega))) | refine Rt.mk (And.intro (fun hg => Sm.out ?_) fun hg => Sm.out ?_) | (refine Nu.mk ?_; first | (fail_if_success have := nb1); intro nb1 | (fail_if_success have := nb2); intro nb2 | (fail_if_success have := nb3); intro nb3 | (fail_if_success have := nb4); intro nb4 | intro nbz) | (apply Yfr; refine Yf FR fun hFRb FR => ?_) | refine Two.mk ?_ ?_ | (apply Yxc; exact Yx) | refine Cs.mk fun hcs => Sm.out ?_ | go_step | omega | (simp only [maxLen_eq]; omega) | exact trivial
              exact cV.out q ⟨hI, hqs, hst⟩ _ (Sub.pick (by simp [pickB, hget, hdel, FR.out, hC1]) (by simp [look, hC1]))
          · have kq : decide (((iI : Nat) : Int) ≤ ((q : Nat) : Int)) = false := decide_eq_false (by omega)
            first | (have FRx := FR; clear FRx) | have FR := fr0S
            have FA := Sm.mk (TFHuVE)
            repeat' first | (apply Sm.mk; refine Ys ?_) | refine WP.seq fun K hK => ?_ | (apply Ob.mk; exact Yo) | refine And.intro (Ob.out ?_) ?_ | ((fail_if_success (show WP _ _ _ (.region 15 _ _) _ _)); refine Y1HuVE ?_) | refine YzHuVE ?_ | (refine WP.cond rfl (fun hc => ?_) (fun hc => ?_) <;> (try simp only [ZC, reduceCtorEq, ZD] at hc) <;> (try exact absurd hc (by decide)) <;> (try (exfalso; omega))) | refine Rt.mk (And.intro (fun hg => Sm.out ?_) fun hg => Sm.out ?_) | (refine Nu.mk ?_; first | (fail_if_success have := nb1); intro nb1 | (fail_if_success have := nb2); intro nb2 | (fail_if_success have := nb3); intro nb3 | (fail_if_success have := nb4); intro nb4 | intro nbz) | (apply Yfr; refine Yf FR fun hFRb FR => ?_) | refine Two.mk ?_ ?_ | (apply Yxc; exact Yx) | refine Cs.mk fun hcs => Sm.out ?_ | go_step | omega | (simp only [maxLen_eq]; omega) | exact trivial
            refine WP.drawV (k := 17) mixed (by decide +kernel) (Sm.out ?_)
            first | (have FRx := FR; clear FRx) | have FR := fr0S
            have FA := Sm.mk (And.intro TFHuVE kq)
            repeat' first | (apply Sm.mk; refine YsHuVE1 ?_) | refine WP.seq fun K hK => ?_ | (apply Ob.mk; exact Yo) | refine And.intro (Ob.out ?_) ?_ | refine Y1HuVE ?_ | refine YzHuVE ?_ | (refine WP.cond rfl (fun hc => ?_) (fun hc => ?_) <;> (try simp only [ZC, reduceCtorEq, ZD] at hc) <;> (try exact absurd hc (by decide)) <;> (try (exfalso; omega))) | refine Rt.mk (And.intro (fun hg => Sm.out ?_) fun hg => Sm.out ?_) | (refine Nu.mk ?_; first | (fail_if_success have := nb1); intro nb1 | (fail_if_success have := nb2); intro nb2 | (fail_if_success have := nb3); intro nb3 | (fail_if_success have := nb4); intro nb4 | intro nbz) | (apply Yfr; refine Yf FR fun hFRb FR => ?_) | refine Two.mk ?_ ?_ | (apply Yxc; exact Yx) | refine Cs.mk fun hcs => Sm.out ?_ | go_step | omega | (simp only [maxLen_eq]; omega) | exact trivial
            exact cV.out q ⟨hI, hqs, fun h => absurd h hq⟩ _ (Sub.pick (by simp [pickB, hget, hdel, FR.out]) (by simp [look]))
        clear hK
        refine WP.loop (Γ := Nat) (fun q => ⟨[(12, iv .i64 (q : Int)), (13, iv .i64 (j0 : Int)), (0, ms x 0 n k), (1, iv .i64 (a : Int)), (4, fCm)], [(x, .cells (scs D) (k * 5) 32)]⟩) (fun q => PtI l D a b q j0 n ∧ i0 ≤ q) (fun q => j0 + 1 - q) i0 ⟨hI, Nat.le_refl _⟩ (Sub.pick (by simp [pickB, hget, hdel, FR.out]) (by simp [look])) ?_
        clear hI
        intro q ⟨hI, hqs⟩
        have FR : Sm (¬ ((1 : Nat) = 0)) := Sm.mk Nat.one_ne_zero
        have hai := hI.ai
        have hjb := hI.jb
        have hij := hI.ij
        by_cases hq : q ≤ j0
        · have kq : decide (((q : Nat) : Int) ≤ ((j0 : Nat) : Int)) = true := decide_eq_true (by omega)
          obtain ⟨un, ug, uw, uf, ut, vn, vg, vw, vf, vt, z, U, V, hd1, hd2, cF, hlt, q1, q2, hCl⟩ := cmp_cells (p := q) (q := a) hf hI.perm hI.len (by omega) (by omega)
          have q3 : q < n := by omega
          have q4 : a < n := by omega
          obtain ⟨C1, hC1⟩ : ∃ C, C = scs D := ⟨_, rfl⟩
          rw [← hC1] at hd1 hd2 q1 q2 hCl ⊢
          obtain ⟨t, ht⟩ : ∃ t, decide ((at_ D q).f < (at_ D a).f) = t := ⟨_, rfl⟩
          rw [ht] at hlt
          have s1 : IntKind.i64.wrap ((q : Int) + 1) = ((q + 1 : Nat) : Int) := by rw [wrap_i64 (by omega) (by omega)]; omega
          cases t with
          | true =>
            have hI2 := hI.inc hq (of_decide_eq_true ht)
            first | (have FRx := FR; clear FRx) | have FR := fr0S
            have FA := Sm.mk (TFHuVE)
            repeat' first | (apply Sm.mk; refine Ys ?_) | refine WP.seq fun K hK => ?_ | (apply Ob.mk; exact Yo) | refine And.intro (Ob.out ?_) ?_ | ((fail_if_success (show WP _ _ _ (.region 13 _ _) _ _)); refine Y1HuVE ?_) | refine YzHuVE ?_ | (refine WP.cond rfl (fun hc => ?_) (fun hc => ?_) <;> (try simp only [ZC, reduceCtorEq, ZD] at hc) <;> (try exact absurd hc (by decide)) <;> (try (exfalso; omega))) | refine Rt.mk (And.intro (fun hg => Sm.out ?_) fun hg => Sm.out ?_) | (refine Nu.mk ?_; first | (fail_if_success have := nb1); intro nb1 | (fail_if_success have := nb2); intro nb2 | (fail_if_success have := nb3); intro nb3 | (fail_if_success have := nb4); intro nb4 | intro nbz) | (apply Yfr; refine Yf FR fun hFRb FR => ?_) | refine Two.mk ?_ ?_ | (apply Yxc; exact Yx) | refine Cs.mk fun hcs => Sm.out ?_ | go_step | omega | (simp only [maxLen_eq]; omega) | exact trivial
            refine WP.drawV (k := 16) mixed (by decide +kernel) (Sm.out ?_)
            first | (have FRx := FR; clear FRx) | have FR := fr0S
            have FA := Sm.mk (And.intro TFHuVE (And.intro kq (And.intro hd1 (And.intro hd2 (And.intro q1 (And.intro q2 (And.intro q3 (And.intro q4 (And.intro hlt (And.intro s1 hCl))))))))))
            repeat' first | (apply Sm.mk; refine YsHuVE1 ?_) | refine WP.seq fun K hK => ?_ | (apply Ob.mk; exact Yo) | refine And.intro (Ob.out ?_) ?_ | refine Y1HuVE ?_ | refine Yc (c := cF) (r := ?_) | refine YzHuVE ?_ | (refine WP.cond rfl (fun hc => ?_) (fun hc => ?_) <;> (try simp only [ZC, reduceCtorEq, ZD] at hc) <;> (try exact absurd hc (by decide)) <;> (try (exfalso; omega))) | refine Rt.mk (And.intro (fun hg => Sm.out ?_) fun hg => Sm.out ?_) | (refine Nu.mk ?_; first | (fail_if_success have := nb1); intro nb1 | (fail_if_success have := nb2); intro nb2 | (fail_if_success have := nb3); intro nb3 | (fail_if_success have := nb4); intro nb4 | intro nbz) | (apply Yfr; refine Yf FR fun hFRb FR => ?_) | refine Two.mk ?_ ?_ | (apply Yxc; exact Yx) | refine Cs.mk fun hcs => Sm.out ?_ | go_step | omega | (simp only [maxLen_eq]; omega) | exact trivial
            exact ⟨q + 1, ⟨hI2, by omega⟩, by omega, (Sub.pick (by simp [pickB, hget, hdel, FR.out, hC1]) (by simp [look, hC1]))⟩
          | false =>
            have hst : q ≤ j0 → ¬ (at_ D q).f < (at_ D a).f := fun _ => of_decide_eq_false ht
            first | (have FRx := FR; clear FRx) | have FR := fr0S
            have FA := Sm.mk (TFHuVE)
            repeat' first | (apply Sm.mk; refine Ys ?_) | refine WP.seq fun K hK => ?_ | (apply Ob.mk; exact Yo) | refine And.intro (Ob.out ?_) ?_ | ((fail_if_success (show WP _ _ _ (.region 13 _ _) _ _)); refine Y1HuVE ?_) | refine YzHuVE ?_ | (refine WP.cond rfl (fun hc => ?_) (fun hc => ?_) <;> (try simp only [ZC, reduceCtorEq, ZD] at hc) <;> (try exact absurd hc (by decide)) <;> (try (exfalso; omega))) | refine Rt.mk (And.intro (fun hg => Sm.out ?_) fun hg => Sm.out ?_) | (refine Nu.mk ?_; first | (fail_if_success have := nb1); intro nb1 | (fail_if_success have := nb2); intro nb2 | (fail_if_success have := nb3); intro nb3 | (fail_if_success have := nb4); intro nb4 | intro nbz) | (apply Yfr; refine Yf FR fun hFRb FR => ?_) | refine Two.mk ?_ ?_ | (apply Yxc; exact Yx) | refine Cs.mk fun hcs => Sm.out ?_ | go_step | omega | (simp only [maxLen_eq]; omega) | exact trivial
            refine WP.drawV (k := 16) mixed (by decide +kernel) (Sm.out ?_)
            first | (have FRx := FR; clear FRx) | have FR := fr0S
            have FA := Sm.mk (And.intro TFHuVE (And.intro kq (And.intro hd1 (And.intro hd2 (And.intro q1 (And.intro q2 (And.intro q3 (And.intro q4 (And.intro hlt hCl)))))))))
            repeat' first | (apply Sm.mk; refine YsHuVE1 ?_) | refine WP.seq fun K hK => ?_ | (apply Ob.mk; exact Yo) | refine And.intro (Ob.out ?_) ?_ | refine Y1HuVE ?_ | refine Yc (c := cF) (r := ?_) | refine YzHuVE ?_ | (refine WP.cond rfl (fun hc => ?_) (fun hc => ?_) <;> (try simp only [ZC, reduceCtorEq, ZD] at hc) <;> (try exact absurd hc (by decide)) <;> (try (exfalso; omega))) | refine Rt.mk (And.intro (fun hg => Sm.out ?_) fun hg => Sm.out ?_) | (refine Nu.mk ?_; first | (fail_if_success have := nb1); intro nb1 | (fail_if_success have := nb2); intro nb2 | (fail_if_success have := nb3); intro nb3 | (fail_if_success have := nb4); intro nb4 | intro nbz) | (apply Yfr; refine Yf FR fun hFRb FR => ?_) | refine Two.mk ?_ ?_ | (apply Yxc; exact Yx) | refine Cs.mk fun hcs => Sm.out ?_ | go_step | omega | (simp only [maxLen_eq]; omega) | exact trivial
            exact cU.out q ⟨hI, hqs, hst⟩ _ (Sub.pick (by simp [pickB, hget, hdel, FR.out, hC1]) (by simp [look, hC1]))
        · have kq : decide (((q : Nat) : Int) ≤ ((j0 : Nat) : Int)) = false := decide_eq_false (by omega)
          first | (have FRx := FR; clear FRx) | have FR := fr0S
          have FA := Sm.mk (TFHuVE)
          repeat' first | (apply Sm.mk; refine Ys ?_) | refine WP.seq fun K hK => ?_ | (apply Ob.mk; exact Yo) | refine And.intro (Ob.out ?_) ?_ | ((fail_if_success (show WP _ _ _ (.region 13 _ _) _ _)); refine Y1HuVE ?_) | refine YzHuVE ?_ | (refine WP.cond rfl (fun hc => ?_) (fun hc => ?_) <;> (try simp only [ZC, reduceCtorEq, ZD] at hc) <;> (try exact absurd hc (by decide)) <;> (try (exfalso; omega))) | refine Rt.mk (And.intro (fun hg => Sm.out ?_) fun hg => Sm.out ?_) | (refine Nu.mk ?_; first | (fail_if_success have := nb1); intro nb1 | (fail_if_success have := nb2); intro nb2 | (fail_if_success have := nb3); intro nb3 | (fail_if_success have := nb4); intro nb4 | intro nbz) | (apply Yfr; refine Yf FR fun hFRb FR => ?_) | refine Two.mk ?_ ?_ | (apply Yxc; exact Yx) | refine Cs.mk fun hcs => Sm.out ?_ | go_step | omega | (simp only [maxLen_eq]; omega) | exact trivial
          refine WP.drawV (k := 16) mixed (by decide +kernel) (Sm.out ?_)
          first | (have FRx := FR; clear FRx) | have FR := fr0S
          have FA := Sm.mk (And.intro TFHuVE kq)
          repeat' first | (apply Sm.mk; refine YsHuVE1 ?_) | refine WP.seq fun K hK => ?_ | (apply Ob.mk; exact Yo) | refine And.intro (Ob.out ?_) ?_ | refine Y1HuVE ?_ | refine YzHuVE ?_ | (refine WP.cond rfl (fun hc => ?_) (fun hc => ?_) <;> (try simp only [ZC, reduceCtorEq, ZD] at hc) <;> (try exact absurd hc (by decide)) <;> (try (exfalso; omega))) | refine Rt.mk (And.intro (fun hg => Sm.out ?_) fun hg => Sm.out ?_) | (refine Nu.mk ?_; first | (fail_if_success have := nb1); intro nb1 | (fail_if_success have := nb2); intro nb2 | (fail_if_success have := nb3); intro nb3 | (fail_if_success have := nb4); intro nb4 | intro nbz) | (apply Yfr; refine Yf FR fun hFRb FR => ?_) | refine Two.mk ?_ ?_ | (apply Yxc; exact Yx) | refine Cs.mk fun hcs => Sm.out ?_ | go_step | omega | (simp only [maxLen_eq]; omega) | exact trivial
          exact cU.out q ⟨hI, hqs, fun h => absurd h hq⟩ _ (Sub.pick (by simp [pickB, hget, hdel, FR.out]) (by simp [look]))
    clear hK
    refine WP.loop (Γ := Nat) (fun q => ⟨[(12, iv .i64 (iI : Int)), (13, iv .i64 (q : Int)), (0, ms x 0 n k), (1, iv .i64 (a : Int)), (4, fCm)], [(x, .cells (scs D) (k * 5) 32)]⟩) (fun q => PtI l D a b iI q n ∧ q ≤ j0) (fun q => q) j0 ⟨hI, Nat.le_refl _⟩ (Sub.pick (by simp [pickB, hget, hdel, FR.out]) (by simp [look])) ?_
    clear hI
    intro q ⟨hI, hqs⟩
    have FR : Sm (¬ ((1 : Nat) = 0)) := Sm.mk Nat.one_ne_zero
    have hai := hI.ai
    have hjb := hI.jb
    have hij := hI.ij
    by_cases hq : iI ≤ q
    · have kq : decide (((iI : Nat) : Int) ≤ ((q : Nat) : Int)) = true := decide_eq_true (by omega)
      obtain ⟨un, ug, uw, uf, ut, vn, vg, vw, vf, vt, z, U, V, hd1, hd2, cF, hlt, q1, q2, hCl⟩ := cmp_cells (p := q) (q := a) hf hI.perm hI.len (by omega) (by omega)
      have q3 : q < n := by omega
      have q4 : a < n := by omega
      obtain ⟨C1, hC1⟩ : ∃ C, C = scs D := ⟨_, rfl⟩
      rw [← hC1] at hd1 hd2 q1 q2 hCl ⊢
      obtain ⟨t, ht⟩ : ∃ t, decide ((at_ D q).f < (at_ D a).f) = t := ⟨_, rfl⟩
      rw [ht] at hlt
      have s1 : IntKind.i64.wrap ((q : Int) - 1) = ((q - 1 : Nat) : Int) := by rw [wrap_i64 (by omega) (by omega)]; omega
      cases t with
      | false =>
        have hI2 := hI.dec hq (of_decide_eq_false ht)
        first | (have FRx := FR; clear FRx) | have FR := fr0S
        have FA := Sm.mk (TFHuVE)
        repeat' first | (apply Sm.mk; refine Ys ?_) | refine WP.seq fun K hK => ?_ | (apply Ob.mk; exact Yo) | refine And.intro (Ob.out ?_) ?_ | ((fail_if_success (show WP _ _ _ (.region 5 _ _) _ _)); refine Y1HuVE ?_) | refine YzHuVE ?_ | (refine WP.cond rfl (fun hc => ?_) (fun hc => ?_) <;> (try simp only [ZC, reduceCtorEq, ZD] at hc) <;> (try exact absurd hc (by decide)) <;> (try (exfalso; omega))) | refine Rt.mk (And.intro (fun hg => Sm.out ?_) fun hg => Sm.out ?_) | (refine Nu.mk ?_; first | (fail_if_success have := nb1); intro nb1 | (fail_if_success have := nb2); intro nb2 | (fail_if_success have := nb3); intro nb3 | (fail_if_success have := nb4); intro nb4 | intro nbz) | (apply Yfr; refine Yf FR fun hFRb FR => ?_) | refine Two.mk ?_ ?_ | (apply Yxc; exact Yx) | refine Cs.mk fun hcs => Sm.out ?_ | go_step | omega | (simp only [maxLen_eq]; omega) | exact trivial
        refine WP.drawV (k := 17) mixed (by decide +kernel) (Sm.out ?_)
        first | (have FRx := FR; clear FRx) | have FR := fr0S
        have FA := Sm.mk (And.intro TFHuVE (And.intro kq (And.intro hd1 (And.intro hd2 (And.intro q1 (And.intro q2 (And.intro q3 (And.intro q4 (And.intro hlt (And.intro s1 hCl))))))))))
        repeat' first | (apply Sm.mk; refine YsHuVE1 ?_) | refine WP.seq fun K hK => ?_ | (apply Ob.mk; exact Yo) | refine And.intro (Ob.out ?_) ?_ | refine Y1HuVE ?_ | refine Yc (c := cF) (r := ?_) | refine YzHuVE ?_ | (refine WP.cond rfl (fun hc => ?_) (fun hc => ?_) <;> (try simp only [ZC, reduceCtorEq, ZD] at hc) <;> (try exact absurd hc (by decide)) <;> (try (exfalso; omega))) | refine Rt.mk (And.intro (fun hg => Sm.out ?_) fun hg => Sm.out ?_) | (refine Nu.mk ?_; first | (fail_if_success have := nb1); intro nb1 | (fail_if_success have := nb2); intro nb2 | (fail_if_success have := nb3); intro nb3 | (fail_if_success have := nb4); intro nb4 | intro nbz) | (apply Yfr; refine Yf FR fun hFRb FR => ?_) | refine Two.mk ?_ ?_ | (apply Yxc; exact Yx) | refine Cs.mk fun hcs => Sm.out ?_ | go_step | omega | (simp only [maxLen_eq]; omega) | exact trivial
        exact ⟨q - 1, ⟨hI2, by omega⟩, by omega, (Sub.pick (by simp [pickB, hget, hdel, FR.out, hC1]) (by simp [look, hC1]))⟩
      | true =>
        have hst : iI ≤ q → (at_ D q).f < (at_ D a).f := fun _ => of_decide_eq_true ht
        first | (have FRx := FR; clear FRx) | have FR := fr0S
        have FA := Sm.mk (TFHuVE)
        repeat' first | (apply Sm.mk; refine Ys ?_) | refine WP.seq fun K hK => ?_ | (apply Ob.mk; exact Yo) | refine And.intro (Ob.out ?_) ?_ | ((fail_if_success (show WP _ _ _ (.region 5 _ _) _ _)); refine Y1HuVE ?_) | refine YzHuVE ?_ | (refine WP.cond rfl (fun hc => ?_) (fun hc => ?_) <;> (try simp only [ZC, reduceCtorEq, ZD] at hc) <;> (try exact absurd hc (by decide)) <;> (try (exfalso; omega))) | refine Rt.mk (And.intro (fun hg => Sm.out ?_) fun hg => Sm.out ?_) | (refine Nu.mk ?_; first | (fail_if_success have := nb1); intro nb1 | (fail_if_success have := nb2); intro nb2 | (fail_if_success have := nb3); intro nb3 | (fail_if_success have := nb4); intro nb4 | intro nbz) | (apply Yfr; refine Yf FR fun hFRb FR => ?_) | refine Two.mk ?_ ?_ | (apply Yxc; exact Yx) | refine Cs.mk fun hcs => Sm.out ?_ | go_step | omega | (simp only [maxLen_eq]; omega) | exact trivial
        refine WP.drawV (k := 17) mixed (by decide +kernel) (Sm.out ?_)
        first | (have FRx := FR; clear FRx) | have FR := fr0S
        have FA := Sm.mk (And.intro TFHuVE (And.intro kq (And.intro hd1 (And.intro hd2 (And.intro q1 (And.intro q2 (And.intro q3 (And.intro q4 (And.intro hlt hCl)))))))))
        repeat' first | (apply Sm.mk; refine YsHuVE1 ?_) | refine WP.seq fun K hK => ?_ | (apply Ob.mk; exact Yo) | refine And.intro (Ob.out ?_) ?_ | refine Y1HuVE ?_ | refine Yc (c := cF) (r := ?_) | refine YzHuVE ?_ | (refine WP.cond rfl (fun hc => ?_) (fun hc => ?_) <;> (try simp only [ZC, reduceCtorEq, ZD] at hc) <;> (try exact absurd hc (by decide)) <;> (try (exfalso; omega))) | refine Rt.mk (And.intro (fun hg => Sm.out ?_) fun hg => Sm.out ?_) | (refine Nu.mk ?_; first | (fail_if_success have := nb1); intro nb1 | (fail_if_success have := nb2); intro nb2 | (fail_if_success have := nb3); intro nb3 | (fail_if_success have := nb4); intro nb4 | intro nbz) | (apply Yfr; refine Yf FR fun hFRb FR => ?_) | refine Two.mk ?_ ?_ | (apply Yxc; exact Yx) | refine Cs.mk fun hcs => Sm.out ?_ | go_step | omega | (simp only [maxLen_eq]; omega) | exact trivial
        exact cB.out q ⟨hI, hqs, hst⟩ _ (Sub.pick (by simp [pickB, hget, hdel, FR.out, hC1]) (by simp [look, hC1]))
    · have kq : decide (((iI : Nat) : Int) ≤ ((q : Nat) : Int)) = false := decide_eq_false (by omega)
      first | (have FRx := FR; clear FRx) | have FR := fr0S
      have FA := Sm.mk (TFHuVE)
      repeat' first | (apply Sm.mk; refine Ys ?_) | refine WP.seq fun K hK => ?_ | (apply Ob.mk; exact Yo) | refine And.intro (Ob.out ?_) ?_ | ((fail_if_success (show WP _ _ _ (.region 5 _ _) _ _)); refine Y1HuVE ?_) | refine YzHuVE ?_ | (refine WP.cond rfl (fun hc => ?_) (fun hc => ?_) <;> (try simp only [ZC, reduceCtorEq, ZD] at hc) <;> (try exact absurd hc (by decide)) <;> (try (exfalso; omega))) | refine Rt.mk (And.intro (fun hg => Sm.out ?_) fun hg => Sm.out ?_) | (refine Nu.mk ?_; first | (fail_if_success have := nb1); intro nb1 | (fail_if_success have := nb2); intro nb2 | (fail_if_success have := nb3); intro nb3 | (fail_if_success have := nb4); intro nb4 | intro nbz) | (apply Yfr; refine Yf FR fun hFRb FR => ?_) | refine Two.mk ?_ ?_ | (apply Yxc; exact Yx) | refine Cs.mk fun hcs => Sm.out ?_ | go_step | omega | (simp only [maxLen_eq]; omega) | exact trivial
      refine WP.drawV (k := 17) mixed (by decide +kernel) (Sm.out ?_)
      first | (have FRx := FR; clear FRx) | have FR := fr0S
      have FA := Sm.mk (And.intro TFHuVE kq)
      repeat' first | (apply Sm.mk; refine YsHuVE1 ?_) | refine WP.seq fun K hK => ?_ | (apply Ob.mk; exact Yo) | refine And.intro (Ob.out ?_) ?_ | refine Y1HuVE ?_ | refine YzHuVE ?_ | (refine WP.cond rfl (fun hc => ?_) (fun hc => ?_) <;> (try simp only [ZC, reduceCtorEq, ZD] at hc) <;> (try exact absurd hc (by decide)) <;> (try (exfalso; omega))) | refine Rt.mk (And.intro (fun hg => Sm.out ?_) fun hg => Sm.out ?_) | (refine Nu.mk ?_; first | (fail_if_success have := nb1); intro nb1 | (fail_if_success have := nb2); intro nb2 | (fail_if_success have := nb3); intro nb3 | (fail_if_success have := nb4); intro nb4 | intro nbz) | (apply Yfr; refine Yf FR fun hFRb FR => ?_) | refine Two.mk ?_ ?_ | (apply Yxc; exact Yx) | refine Cs.mk fun hcs => Sm.out ?_ | go_step | omega | (simp only [maxLen_eq]; omega) | exact trivial
      exact cB.out q ⟨hI, hqs, fun h => absurd h hq⟩ _ (Sub.pick (by simp [pickB, hget, hdel, FR.out]) (by simp [look]))
  clear hK
  refine WP.loop (Γ := Nat) (fun q => ⟨[(12, iv .i64 (q : Int)), (13, iv .i64 (j0 : Int)), (0, ms x 0 n k), (1, iv .i64 (a : Int)), (4, fCm)], [(x, .cells (scs D) (k * 5) 32)]⟩) (fun q => PtI l D a b q j0 n ∧ i0 ≤ q) (fun q => j0 + 1 - q) i0 ⟨hI, Nat.le_refl _⟩ (Sub.pick (by simp [pickB, hget, hdel, FR.out]) (by simp [look])) ?_
  clear hI
  intro q ⟨hI, hqs⟩
  have FR : Sm (¬ ((1 : Nat) = 0)) := Sm.mk Nat.one_ne_zero
  have hai := hI.ai
  have hjb := hI.jb
  have hij := hI.ij
  by_cases hq : q ≤ j0
  · have kq : decide (((q : Nat) : Int) ≤ ((j0 : Nat) : Int)) = true := decide_eq_true (by omega)
    obtain ⟨un, ug, uw, uf, ut, vn, vg, vw, vf, vt, z, U, V, hd1, hd2, cF, hlt, q1, q2, hCl⟩ := cmp_cells (p := q) (q := a) hf hI.perm hI.len (by omega) (by omega)
    have q3 : q < n := by omega
    have q4 : a < n := by omega
    obtain ⟨C1, hC1⟩ : ∃ C, C = scs D := ⟨_, rfl⟩
    rw [← hC1] at hd1 hd2 q1 q2 hCl ⊢
    obtain ⟨t, ht⟩ : ∃ t, decide ((at_ D q).f < (at_ D a).f) = t := ⟨_, rfl⟩
    rw [ht] at hlt
    have s1 : IntKind.i64.wrap ((q : Int) + 1) = ((q + 1 : Nat) : Int) := by rw [wrap_i64 (by omega) (by omega)]; omega
    cases t with
    | true =>
      have hI2 := hI.inc hq (of_decide_eq_true ht)
      first | (have FRx := FR; clear FRx) | have FR := fr0S
      have FA := Sm.mk (TFHuVE)
      repeat' first | (apply Sm.mk; refine Ys ?_) | refine WP.seq fun K hK => ?_ | (apply Ob.mk; exact Yo) | refine And.intro (Ob.out ?_) ?_ | ((fail_if_success (show WP _ _ _ (.region 3 _ _) _ _)); refine Y1HuVE ?_) | refine YzHuVE ?_ | (refine WP.cond rfl (fun hc => ?_) (fun hc => ?_) <;> (try simp only [ZC, reduceCtorEq, ZD] at hc) <;> (try exact absurd hc (by decide)) <;> (try (exfalso; omega))) | refine Rt.mk (And.intro (fun hg => Sm.out ?_) fun hg => Sm.out ?_) | (refine Nu.mk ?_; first | (fail_if_success have := nb1); intro nb1 | (fail_if_success have := nb2); intro nb2 | (fail_if_success have := nb3); intro nb3 | (fail_if_success have := nb4); intro nb4 | intro nbz) | (apply Yfr; refine Yf FR fun hFRb FR => ?_) | refine Two.mk ?_ ?_ | (apply Yxc; exact Yx) | refine Cs.mk fun hcs => Sm.out ?_ | go_step | omega | (simp only [maxLen_eq]; omega) | exact trivial
      refine WP.drawV (k := 16) mixed (by decide +kernel) (Sm.out ?_)
      first | (have FRx := FR; clear FRx) | have FR := fr0S
      have FA := Sm.mk (And.intro TFHuVE (And.intro kq (And.intro hd1 (And.intro hd2 (And.intro q1 (And.intro q2 (And.intro q3 (And.intro q4 (And.intro hlt (And.intro s1 hCl))))))))))
      repeat' first | (apply Sm.mk; refine YsHuVE1 ?_) | refine WP.seq fun K hK => ?_ | (apply Ob.mk; exact Yo) | refine And.intro (Ob.out ?_) ?_ | refine Y1HuVE ?_ | refine Yc (c := cF) (r := ?_) | refine YzHuVE ?_ | (refine WP.cond rfl (fun hc => ?_) (fun hc => ?_) <;> (try simp only [ZC, reduceCtorEq, ZD] at hc) <;> (try exact absurd hc (by decide)) <;> (try (exfalso; omega))) | refine Rt.mk (And.intro (fun hg => Sm.out ?_) fun hg => Sm.out ?_) | (refine Nu.mk ?_; first | (fail_if_success have := nb1); intro nb1 | (fail_if_success have := nb2); intro nb2 | (fail_if_success have := nb3); intro nb3 | (fail_if_success have := nb4); intro nb4 | intro nbz) | (apply Yfr; refine Yf FR fun hFRb FR => ?_) | refine Two.mk ?_ ?_ | (apply Yxc; exact Yx) | refine Cs.mk fun hcs => Sm.out ?_ | go_step | omega | (simp only [maxLen_eq]; omega) | exact trivial
      exact ⟨q + 1, ⟨hI2, by omega⟩, by omega, (Sub.pick (by simp [pickB, hget, hdel, FR.out, hC1]) (by simp [look, hC1]))⟩
    | false =>
      have hst : q ≤ j0 → ¬ (at_ D q).f < (at_ D a).f := fun _ => of_decide_eq_false ht
      first | (have FRx := FR; clear FRx) | have FR := fr0S
      have FA := Sm.mk (TFHuVE)
      repeat' first | (apply Sm.mk; refine Ys ?_) | refine WP.seq fun K hK => ?_ | (apply Ob.mk; exact Yo) | refine And.intro (Ob.out ?_) ?_ | ((fail_if_success (show WP _ _ _ (.region 3 _ _) _ _)); refine Y1HuVE ?_) | refine YzHuVE ?_ | (refine WP.cond rfl (fun hc => ?_) (fun hc => ?_) <;> (try simp only [ZC, reduceCtorEq, ZD] at hc) <;> (try exact absurd hc (by decide)) <;> (try (exfalso; omega))) | refine Rt.mk (And.intro (fun hg => Sm.out ?_) fun hg => Sm.out ?_) | (refine Nu.mk ?_; first | (fail_if_success have := nb1); intro nb1 | (fail_if_success have := nb2); intro nb2 | (fail_if_success have := nb3); intro nb3 | (fail_if_success have := nb4); intro nb4 | intro nbz) | (apply Yfr; refine Yf FR fun hFRb FR => ?_) | refine Two.mk ?_ ?_ | (apply Yxc; exact Yx) | refine Cs.mk fun hcs => Sm.out ?_ | go_step | omega | (simp only [maxLen_eq]; omega) | exact trivial
      refine WP.drawV (k := 16) mixed (by decide +kernel) (Sm.out ?_)
      first | (have FRx := FR; clear FRx) | have FR := fr0S
      have FA := Sm.mk (And.intro TFHuVE (And.intro kq (And.intro hd1 (And.intro hd2 (And.intro q1 (And.intro q2 (And.intro q3 (And.intro q4 (And.intro hlt hCl)))))))))
      repeat' first | (apply Sm.mk; refine YsHuVE1 ?_) | refine WP.seq fun K hK => ?_ | (apply Ob.mk; exact Yo) | refine And.intro (Ob.out ?_) ?_ | refine Y1HuVE ?_ | refine Yc (c := cF) (r := ?_) | refine YzHuVE ?_ | (refine WP.cond rfl (fun hc => ?_) (fun hc => ?_) <;> (try simp only [ZC, reduceCtorEq, ZD] at hc) <;> (try exact absurd hc (by decide)) <;> (try (exfalso; omega))) | refine Rt.mk (And.intro (fun hg => Sm.out ?_) fun hg => Sm.out ?_) | (refine Nu.mk ?_; first | (fail_if_success have := nb1); intro nb1 | (fail_if_success have := nb2); intro nb2 | (fail_if_success have := nb3); intro nb3 | (fail_if_success have := nb4); intro nb4 | intro nbz) | (apply Yfr; refine Yf FR fun hFRb FR => ?_) | refine Two.mk ?_ ?_ | (apply Yxc; exact Yx) | refine Cs.mk fun hcs => Sm.out ?_ | go_step | omega | (simp only [maxLen_eq]; omega) | exact trivial
      exact cA.out q ⟨hI, hqs, hst⟩ _ (Sub.pick (by simp [pickB, hget, hdel, FR.out, hC1]) (by simp [look, hC1]))
  · have kq : decide (((q : Nat) : Int) ≤ ((j0 : Nat) : Int)) = false := decide_eq_false (by omega)
    first | (have FRx := FR; clear FRx) | have FR := fr0S
    have FA := Sm.mk (TFHuVE)
    repeat' first | (apply Sm.mk; refine Ys ?_) | refine WP.seq fun K hK => ?_ | (apply Ob.mk; exact Yo) | refine And.intro (Ob.out ?_) ?_ | ((fail_if_success (show WP _ _ _ (.region 3 _ _) _ _)); refine Y1HuVE ?_) | refine YzHuVE ?_ | (refine WP.cond rfl (fun hc => ?_) (fun hc => ?_) <;> (try simp only [ZC, reduceCtorEq, ZD] at hc) <;> (try exact absurd hc (by decide)) <;> (try (exfalso; omega))) | refine Rt.mk (And.intro (fun hg => Sm.out ?_) fun hg => Sm.out ?_) | (refine Nu.mk ?_; first | (fail_if_success have := nb1); intro nb1 | (fail_if_success have := nb2); intro nb2 | (fail_if_success have := nb3); intro nb3 | (fail_if_success have := nb4); intro nb4 | intro nbz) | (apply Yfr; refine Yf FR fun hFRb FR => ?_) | refine Two.mk ?_ ?_ | (apply Yxc; exact Yx) | refine Cs.mk fun hcs => Sm.out ?_ | go_step | omega | (simp only [maxLen_eq]; omega) | exact trivial
    refine WP.drawV (k := 16) mixed (by decide +kernel) (Sm.out ?_)
    first | (have FRx := FR; clear FRx) | have FR := fr0S
    have FA := Sm.mk (And.intro TFHuVE kq)
    repeat' first | (apply Sm.mk; refine YsHuVE1 ?_) | refine WP.seq fun K hK => ?_ | (apply Ob.mk; exact Yo) | refine And.intro (Ob.out ?_) ?_ | refine Y1HuVE ?_ | refine YzHuVE ?_ | (refine WP.cond rfl (fun hc => ?_) (fun hc => ?_) <;> (try simp only [ZC, reduceCtorEq, ZD] at hc) <;> (try exact absurd hc (by decide)) <;> (try (exfalso; omega))) | refine Rt.mk (And.intro (fun hg => Sm.out ?_) fun hg => Sm.out ?_) | (refine Nu.mk ?_; first | (fail_if_success have := nb1); intro nb1 | (fail_if_success have := nb2); intro nb2 | (fail_if_success have := nb3); intro nb3 | (fail_if_success have := nb4); intro nb4 | intro nbz) | (apply Yfr; refine Yf FR fun hFRb FR => ?_) | refine Two.mk ?_ ?_ | (apply Yxc; exact Yx) | refine Cs.mk fun hcs => Sm.out ?_ | go_step | omega | (simp only [maxLen_eq]; omega) | exact trivial
    exact cA.out q ⟨hI, hqs, fun h => absurd h hq⟩ _ (Sub.pick (by simp [pickB, hget, hdel, FR.out]) (by simp [look]))
end Go.Proofs.YtaffbklkjjmmdaaDoor
