/-
  The walks and the laws that the statement leans on, part 46.
-/
import Derived.Test.YtaffbklkjjmmdaaDoorC9
import Derived.Test.YtaffbklkjjmmdaaDoorC43
namespace Go.Proofs.YtaffbklkjjmmdaaDoor
open Go
set_option linter.unusedVariables false
set_option linter.unusedSimpArgs false
set_option linter.defProp false
def TFHuVM :=
  And.intro (And.intro (And.intro (And.intro (And.intro tyc0 tyc3) (And.intro zmb3 tyc4)) (And.intro (And.intro zmb4 tyc22) (And.intro elt22 mkz22))) (And.intro (And.intro (And.intro mkc22 apT22) (And.intro elk22 zmb22)) (And.intro (And.intro tyc32 foff32_0) (And.intro fpart32_0 (And.intro foff32_1 fpart32_1))))) (And.intro (And.intro (And.intro (And.intro foff32_2 fpart32_2) (And.intro foff32_3 fpart32_3)) (And.intro (And.intro foff32_4 fpart32_4) (And.intro fe32 zmb32))) (And.intro (And.intro (And.intro bldT32 tyc62) (And.intro zmb62 Tryd.underlying0)) (And.intro (And.intro Tryd.underlying3 Tryd.underlying4) (And.intro Tryd.underlying22 (And.intro Tryd.underlying32 Tryd.underlying62)))))
theorem Y1HuVM {G R : Prop} (r : R) (h : R → G := by intro r; first | (apply WP.region; exact rvc_sound _ _ (Sm.out r)) | exact WP.drawK rfl mixed (by decide +kernel) (Sm.out r) | (apply WP.block; exact r) | (apply WP.skip; exact Yq r) | (apply WP.exit; exact Yq r) | (apply WP.ret; exact Sm.out r) | exact WP.cond rfl (fun _ => r) (fun hg => absurd hg (by decide)) | exact WP.cond rfl (fun hg => absurd hg (by decide)) (fun _ => r) | exact Rt.mk (And.intro (fun _ => Sm.out r) fun hg => absurd hg (by decide)) | exact Rt.mk (And.intro (fun hg => absurd hg (by decide)) fun _ => Sm.out r)) : G := h r
theorem YzHuVM {G R : Prop} (r : R) (h : R → G := by intro r; first | (apply ExG.no; exact Sm.out r) | (apply Or.inl; apply ExG.no; exact Sm.out r) | exact Or.inl (And.intro (fun hg => absurd hg (by decide)) (ExG.no (Sm.out r)))) : G := h r
theorem YsHuVM0 {P Q : Prop} (q : Q) (h : P = Q := by (try (conv => lhs; simp -dsimp only [ZK, rvc, capA, appA, litL, mkfv, drawF, headN, pureH, stp, dvc, calleeOf, gcall, pev, eff, newB, okd, og, ogs, ogo, ogp, slv, bltv, opd, litv, strip, one, both, putE, St.put, look, gdOf, gdv, picka, pickv, pickw, binv, bini, bins, binb, binp, binq, isSlT, bina, shp, eqCells, unv, convv, nilv, faddv, addp, idxav, idxp, load1, load1m, loadn, loadnm, loadv, hget, hset, hrep, hdel, slicev, slice3v, bnd, shift1, lenv, capv, IntKind.bits, extractv, fieldv, indexv, min2v, max2v, mkiv, tasv, tasz, cellsA, fillA, buildv, stC, oneC, rowMB, intsA, plN, appE, appZ, appC, appS, srcB, appNZ, appNC, VwL, srcC, srcZ, srcM, isBoolT, isPtrT, isSliceT, uOk, Value.oneCell', Nat.reducePow, Int.reducePow, Nat.reduceAdd, Nat.reduceMul, Nat.reduceSub, Nat.reduceLT, Nat.reduceLeDiff, Nat.reduceEqDiff, Nat.reduceBEq, Nat.reduceDiv, Nat.reduceMod, ↓reduceIte, reduceCtorEq, Int.reduceToNat, Int.reduceLT, Int.reduceLE, TFHuVM, SeqQ, BlkQ, LoopQ, BodyQ, drawSR, dvm, xst, putE, hdel, List.mem_cons, List.mem_singleton, FA.out, FR.out])) <;> exact rfl) : P := h.mpr q
structure HsG where
  z : Int
  D : List Sl
set_option maxHeartbeats 8000000 in
theorem heap_ct (l : List Sl) (x n k a b : Nat) (hn : l.length = n) (hl : n ≤ 100000) (hk : n ≤ k ∧ k ≤ 9223372036854775807) (hb : b ≤ n) (hab : a < b) (hf : ∀ e ∈ l, fb e) :
    ACt Tryd.prog 80 [ms x 0 n k, iv .i64 (a : Int), iv .i64 (b : Int), fCm] [(x, .cells (scs l) (k * 5) 32)]
      (fun r F' => ∃ g, (g.Perm l ∧ SegS g a b ∧ Out l g a b) ∧ r = .tup [] ∧ F' = [(x, .cells (scs g) (k * 5) 32)]) := by
  obtain ⟨h, hh⟩ : ∃ h, h = b - a := ⟨_, rfl⟩
  have eb : b = a + h := by omega
  subst eb
  have w1 : IntKind.i64.wrap (((a + h : Nat) : Int) - (a : Int)) = (h : Int) := by rw [wrap_i64 (by omega) (by omega)]; omega
  have w2 : IntKind.i64.wrap ((h : Int) - 1) = ((h - 1 : Nat) : Int) := by rw [wrap_i64 (by omega) (by omega)]; omega
  obtain ⟨q, hq⟩ : ∃ q, q = (h - 1) / 2 := ⟨_, rfl⟩
  have d1 : (((h - 1 : Nat) : Int)).tdiv 2 = (q : Int) := by rw [Int.tdiv_eq_ediv_of_nonneg (by omega)]; omega
  have w3 : IntKind.i64.wrap (q : Int) = (q : Int) := wrap_i64 (by omega) (by omega)
  obtain ⟨C, hC⟩ : ∃ C, C = scs l := ⟨_, rfl⟩
  rw [← hC]
  refine ACt.intro Tryd.func80 rfl (by kernel_rfl) (by simp [Tryd.ntmps80]) (fun cx => ?_)
  simp only [argE, Tryd.ntmps80, Tryd.results80]
  first | (have FRx := FR; clear FRx) | have FR := fr0S
  have FA := Sm.mk (And.intro TFHuVM (And.intro w1 (And.intro w2 (And.intro d1 w3))))
  repeat' first | (apply Sm.mk; refine Ys ?_) | refine WP.seq fun K hK => ?_ | (apply Ob.mk; exact Yo) | refine And.intro (Ob.out ?_) ?_ | refine Y1HuVM ?_ | refine YzHuVM ?_ | (refine WP.cond rfl (fun hc => ?_) (fun hc => ?_) <;> (try simp only [ZC, reduceCtorEq, ZD] at hc) <;> (try exact absurd hc (by decide)) <;> (try (exfalso; omega))) | refine Rt.mk (And.intro (fun hg => Sm.out ?_) fun hg => Sm.out ?_) | (refine Nu.mk ?_; first | (fail_if_success have := nb1); intro nb1 | (fail_if_success have := nb2); intro nb2 | (fail_if_success have := nb3); intro nb3 | (fail_if_success have := nb4); intro nb4 | intro nbz) | (apply Yfr; refine Yf FR fun hFRb FR => ?_) | refine Two.mk ?_ ?_ | (apply Yxc; exact Yx) | refine Cs.mk fun hcs => Sm.out ?_ | go_step | omega | (simp only [maxLen_eq]; omega) | exact trivial
  refine WP.loop (Γ := HsG) (fun g => ⟨[(11, iv .i64 g.z), (8, iv .i64 (a : Int)), (9, iv .i64 0), (10, iv .i64 (h : Int)), (0, ms x 0 n k), (3, fCm)], [(x, .cells (scs g.D) (k * 5) 32)]⟩)
    (fun g => (-1 ≤ g.z ∧ g.z ≤ (q : Int)) ∧ g.D.length = n ∧ g.D.Perm l ∧ Out l g.D a (a + h) ∧ HpO g.D a (g.z + 1).toNat h) (fun g => (g.z + 1).toNat) ⟨(q : Int), l⟩
    ⟨by simp only; omega, hn, .refl _, out_refl _ _ _, by simp only; rw [show ((q : Int) + 1).toNat = q + 1 by omega, hq]; exact HpO.far⟩ (Sub.pick (by simp [pickB, hget, hdel, FR.out, hC]) (by simp [look, hC])) ?_
  clear hC C
  intro ⟨z, D⟩ ⟨hz, hD, hP, hO, hH⟩
  simp only at hz hD hP hO hH ⊢
  have FR : Sm (¬ ((1 : Nat) = 0)) := Sm.mk Nat.one_ne_zero
  obtain ⟨C1, hC1⟩ : ∃ C, C = scs D := ⟨_, rfl⟩
  by_cases hz0 : 0 ≤ z
  · obtain ⟨i, rfl⟩ : ∃ i : Nat, z = (i : Int) := ⟨z.toNat, by omega⟩
    rw [show ((i : Int) + 1).toNat = i + 1 by omega] at hH
    have kz : decide ((i : Int) ≥ 0) = true := decide_eq_true (by omega)
    have cS := ACt.sub (sift_ct D x n k a i h hD hl hk (by omega) (by omega) (fun e he => hf e (hP.mem_iff.1 he)) hH)
    rw [← hC1] at cS ⊢
    have s1 : IntKind.i64.wrap ((i : Int) - 1) = (i : Int) - 1 := wrap_i64 (by omega) (by omega)
    first | (have FRx := FR; clear FRx) | have FR := fr0S
    have FA := Sm.mk (And.intro TFHuVM (And.intro kz s1))
    repeat' first | (apply Sm.mk; refine Ys ?_) | refine WP.seq fun K hK => ?_ | (apply Ob.mk; exact Yo) | refine And.intro (Ob.out ?_) ?_ | refine Y1HuVM ?_ | (refine CallV.ex (F := [_]) (perm1 (by simp only [hget, hdel, ↓reduceIte, FR.out, kz, s1]; first | done | rfl)) (cS) (fun g => Sm.out ?_)) | refine YzHuVM ?_ | (refine WP.cond rfl (fun hc => ?_) (fun hc => ?_) <;> (try simp only [ZC, reduceCtorEq, ZD] at hc) <;> (try exact absurd hc (by decide)) <;> (try (exfalso; omega))) | refine Rt.mk (And.intro (fun hg => Sm.out ?_) fun hg => Sm.out ?_) | (refine Nu.mk ?_; first | (fail_if_success have := nb1); intro nb1 | (fail_if_success have := nb2); intro nb2 | (fail_if_success have := nb3); intro nb3 | (fail_if_success have := nb4); intro nb4 | intro nbz) | (apply Yfr; refine Yf FR fun hFRb FR => ?_) | refine Two.mk ?_ ?_ | (apply Yxc; exact Yx) | refine Cs.mk fun hcs => Sm.out ?_ | go_step | omega | (simp only [maxLen_eq]; omega) | exact trivial
    obtain ⟨g, g1, g2, g3⟩ := g
    exact ⟨⟨(i : Int) - 1, g⟩, ⟨by simp only; omega, by simp only; rw [g1.length_eq]; exact hD, g1.trans hP, hO.trans g2 (by omega) (Nat.le_refl _), by simp only; rw [show ((i : Int) - 1 + 1).toNat = i by omega]; exact g3⟩, by simp only; omega, (Sub.pick (by simp [pickB, hget, hdel, FR.out]) (by simp [look]))⟩
  · obtain rfl : z = -1 := by omega
    have kz : decide ((-1 : Int) ≥ 0) = false := by decide
    have hI : PoI l D a h h n := PoI.start hD hP hO hH
    clear hP hO hH hz hD
    rw [← hC1]
    first | (have FRx := FR; clear FRx) | have FR := fr0S
    have FA := Sm.mk (And.intro TFHuVM (And.intro kz w2))
    repeat' first | (apply Sm.mk; refine Ys ?_) | refine WP.seq fun K hK => ?_ | (apply Ob.mk; exact Yo) | refine And.intro (Ob.out ?_) ?_ | refine Y1HuVM ?_ | refine YzHuVM ?_ | (refine WP.cond rfl (fun hc => ?_) (fun hc => ?_) <;> (try simp only [ZC, reduceCtorEq, ZD] at hc) <;> (try exact absurd hc (by decide)) <;> (try (exfalso; omega))) | refine Rt.mk (And.intro (fun hg => Sm.out ?_) fun hg => Sm.out ?_) | (refine Nu.mk ?_; first | (fail_if_success have := nb1); intro nb1 | (fail_if_success have := nb2); intro nb2 | (fail_if_success have := nb3); intro nb3 | (fail_if_success have := nb4); intro nb4 | intro nbz) | (apply Yfr; refine Yf FR fun hFRb FR => ?_) | refine Two.mk ?_ ?_ | (apply Yxc; exact Yx) | refine Cs.mk fun hcs => Sm.out ?_ | go_step | omega | (simp only [maxLen_eq]; omega) | exact trivial
    refine WP.loop (Γ := HsG) (fun g => ⟨[(12, iv .i64 g.z), (8, iv .i64 (a : Int)), (9, iv .i64 0), (10, iv .i64 (h : Int)), (0, ms x 0 n k), (3, fCm)], [(x, .cells (scs g.D) (k * 5) 32)]⟩)
      (fun g => (-1 ≤ g.z ∧ g.z < (h : Int)) ∧ PoI l g.D a h (g.z + 1).toNat n) (fun g => (g.z + 1).toNat) ⟨((h - 1 : Nat) : Int), D⟩
      ⟨by simp only; omega, by simp only; rw [show (((h - 1 : Nat) : Int) + 1).toNat = h by omega]; exact hI⟩ (Sub.pick (by simp [pickB, hget, hdel, FR.out, hC1]) (by simp [look, hC1])) ?_
    clear hI hC1 C1 hz0
    intro ⟨z, D⟩ ⟨hz, hI⟩
    simp only at hz hI ⊢
    have FR : Sm (¬ ((1 : Nat) = 0)) := Sm.mk Nat.one_ne_zero
    have hD := hI.len
    by_cases hz0 : 0 ≤ z
    · obtain ⟨i, rfl⟩ : ∃ i : Nat, z = (i : Int) := ⟨z.toNat, by omega⟩
      rw [show ((i : Int) + 1).toNat = i + 1 by omega] at hI
      have kz : decide ((i : Int) ≥ 0) = true := decide_eq_true (by omega)
      have s1 : IntKind.i64.wrap ((i : Int) - 1) = (i : Int) - 1 := wrap_i64 (by omega) (by omega)
      have s2 : IntKind.i64.wrap ((a : Int) + (i : Int)) = ((a + i : Nat) : Int) := by rw [wrap_i64 (by omega) (by omega)]; omega
      have hpm := swp_count D (i := a) (j := a + i) (by omega) (by omega)
      have cS0 := sift_ct (swp D a (a + i)) x n k a 0 i (by rw [swp_len]; exact hD) hl hk (by omega) (by omega) (fun e he => hf e (hI.perm.mem_iff.1 (hpm.mem_iff.1 he))) (hI.swap (by omega))
      have cS := ACt.sub (show ACt Tryd.prog 99 [ms x 0 n k, iv .i64 0, iv .i64 (i : Int), iv .i64 (a : Int), fCm] _ _ from cS0)
      clear cS0
      obtain ⟨un, ug, uw, uf, ut, vn, vg, vw, vf, vt, U, V, C3, hda, hdb, h5a, h5b, hC3, hCl, r1, r2⟩ := swp_cells D (i := a) (j := a + i) (n := n) hD (by omega) (by omega)
      have r3 : a < n := by omega
      have r4 : a + i < n := by omega
      obtain ⟨C1, hC1⟩ : ∃ C, C = scs D := ⟨_, rfl⟩
      obtain ⟨C2, hC2⟩ : ∃ C, C = scs (swp D a (a + i)) := ⟨_, rfl⟩
      rw [← hC1] at hda hdb h5a hCl ⊢
      rw [← hC2] at h5b cS
      have hSt := fun g g1 g2 g3 => hI.step (g := g) (by omega) g1 g2 g3
      clear hI hpm
      first | (have FRx := FR; clear FRx) | have FR := fr0S
      have FA := Sm.mk (And.intro TFHuVM kz)
      repeat' first | (apply Sm.mk; refine Ys ?_) | refine WP.seq fun K hK => ?_ | (apply Ob.mk; exact Yo) | refine And.intro (Ob.out ?_) ?_ | ((fail_if_success (show WP _ _ _ (.region 10 _ _) _ _)); refine Y1HuVM ?_) | refine YzHuVM ?_ | (refine WP.cond rfl (fun hc => ?_) (fun hc => ?_) <;> (try simp only [ZC, reduceCtorEq, ZD] at hc) <;> (try exact absurd hc (by decide)) <;> (try (exfalso; omega))) | refine Rt.mk (And.intro (fun hg => Sm.out ?_) fun hg => Sm.out ?_) | (refine Nu.mk ?_; first | (fail_if_success have := nb1); intro nb1 | (fail_if_success have := nb2); intro nb2 | (fail_if_success have := nb3); intro nb3 | (fail_if_success have := nb4); intro nb4 | intro nbz) | (apply Yfr; refine Yf FR fun hFRb FR => ?_) | refine Two.mk ?_ ?_ | (apply Yxc; exact Yx) | refine Cs.mk fun hcs => Sm.out ?_ | go_step | omega | (simp only [maxLen_eq]; omega) | exact trivial
      refine WP.drawS3 (is := 17) (k := 18) x (a * 5) [11, 15] mixed (by decide +kernel) (by decide +kernel) (by decide +kernel) (Sm.out ?_)
      first | (have FRx := FR; clear FRx) | have FR := fr0S
      have FA := Sm.mk (And.intro TFHuVM (And.intro hda (And.intro hdb (And.intro h5a (And.intro h5b (And.intro hC3 (And.intro hCl (And.intro r1 (And.intro r2 (And.intro r3 (And.intro r4 (And.intro s1 s2))))))))))))
      repeat' first | (apply Sm.mk; refine YsHuVM0 ?_) | refine WP.seq fun K hK => ?_ | (apply Ob.mk; exact Yo) | refine And.intro (Ob.out ?_) ?_ | refine Y1HuVM ?_ | (refine CallV.ex (F := [_]) (perm1 (by simp only [hget, hdel, ↓reduceIte, FR.out, drawSR, dvm, xst, putE, hdel, List.mem_cons, List.mem_singleton, hda, hdb, h5a, h5b, hC3, hCl, r1, r2, r3, r4, s1, s2]; first | done | rfl)) (cS) (fun g => Sm.out ?_)) | refine YzHuVM ?_ | (refine WP.cond rfl (fun hc => ?_) (fun hc => ?_) <;> (try simp only [ZC, reduceCtorEq, ZD] at hc) <;> (try exact absurd hc (by decide)) <;> (try (exfalso; omega))) | refine Rt.mk (And.intro (fun hg => Sm.out ?_) fun hg => Sm.out ?_) | (refine Nu.mk ?_; first | (fail_if_success have := nb1); intro nb1 | (fail_if_success have := nb2); intro nb2 | (fail_if_success have := nb3); intro nb3 | (fail_if_success have := nb4); intro nb4 | intro nbz) | (apply Yfr; refine Yf FR fun hFRb FR => ?_) | refine Two.mk ?_ ?_ | (apply Yxc; exact Yx) | refine Cs.mk fun hcs => Sm.out ?_ | go_step | omega | (simp only [maxLen_eq]; omega) | exact trivial
      obtain ⟨g, g1, g2, g3⟩ := g
      have hI2 := hSt g g1 g2 g3
      exact ⟨⟨(i : Int) - 1, g⟩, ⟨by simp only; omega, by simp only; rw [show ((i : Int) - 1 + 1).toNat = i by omega]; exact hI2⟩, by simp only; omega, (Sub.pick (by simp [pickB, hget, hdel, FR.out]) (by simp [look]))⟩
    · obtain rfl : z = -1 := by omega
      have kz : decide ((-1 : Int) ≥ 0) = false := by decide
      have hd := PoI.done (show PoI l D a h 0 n from hI)
      obtain ⟨C1, hC1⟩ : ∃ C, C = scs D := ⟨_, rfl⟩
      rw [← hC1]
      first | (have FRx := FR; clear FRx) | have FR := fr0S
      have FA := Sm.mk (And.intro TFHuVM kz)
      repeat' first | (apply Sm.mk; refine Ys ?_) | refine WP.seq fun K hK => ?_ | (apply Ob.mk; exact Yo) | refine And.intro (Ob.out ?_) ?_ | refine Y1HuVM ?_ | refine YzHuVM ?_ | (refine WP.cond rfl (fun hc => ?_) (fun hc => ?_) <;> (try simp only [ZC, reduceCtorEq, ZD] at hc) <;> (try exact absurd hc (by decide)) <;> (try (exfalso; omega))) | refine Rt.mk (And.intro (fun hg => Sm.out ?_) fun hg => Sm.out ?_) | (refine Nu.mk ?_; first | (fail_if_success have := nb1); intro nb1 | (fail_if_success have := nb2); intro nb2 | (fail_if_success have := nb3); intro nb3 | (fail_if_success have := nb4); intro nb4 | intro nbz) | (apply Yfr; refine Yf FR fun hFRb FR => ?_) | refine Two.mk ?_ ?_ | (apply Yxc; exact Yx) | refine Cs.mk fun hcs => Sm.out ?_ | go_step | omega | (simp only [maxLen_eq]; omega) | exact trivial
      (refine OutQ.drop _ _ (perm1 (by simp only [hget, hdel, ↓reduceIte, if_true, if_false, FR.out, hC1]; first | done | rfl)) (by simp only [resv, ZK, look, loadv, loadn, loadnm, load1, load1m, hget, ↓reduceIte, Nat.reduceEqDiff, Nat.reduceAdd, Nat.reduceMul, Nat.reduceLeDiff, Nat.reduceLT, reduceCtorEq, TFHuVM, FR.out, hC1]) ⟨D, ⟨hI.perm, hd, hI.out⟩, (by simp only [resv, resA, ZK, look, loadv, loadn, loadnm, load1, load1m, hget, ↓reduceIte, Nat.reduceEqDiff, Nat.reduceAdd, Nat.reduceMul, Nat.reduceLeDiff, Nat.reduceLT, reduceCtorEq, TFHuVM, FR.out, hC1]; first | done | rfl), rfl⟩)
end Go.Proofs.YtaffbklkjjmmdaaDoor
