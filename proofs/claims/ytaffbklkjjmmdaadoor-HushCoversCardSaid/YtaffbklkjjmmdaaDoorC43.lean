/-
  The walks and the laws that the statement leans on, part 43.
-/
import Derived.Test.YtaffbklkjjmmdaaDoorC9
import Derived.Test.YtaffbklkjjmmdaaDoorC42
namespace Go.Proofs.YtaffbklkjjmmdaaDoor
open Go
set_option linter.unusedVariables false
set_option linter.unusedSimpArgs false
set_option linter.defProp false
def TFHuVI :=
  And.intro (And.intro (And.intro (And.intro (And.intro tyc0 tyc3) (And.intro zmb3 tyc4)) (And.intro (And.intro zmb4 tyc22) (And.intro elt22 mkz22))) (And.intro (And.intro (And.intro mkc22 apT22) (And.intro elk22 zmb22)) (And.intro (And.intro tyc32 foff32_0) (And.intro fpart32_0 (And.intro foff32_1 fpart32_1))))) (And.intro (And.intro (And.intro (And.intro foff32_2 fpart32_2) (And.intro foff32_3 fpart32_3)) (And.intro (And.intro foff32_4 fpart32_4) (And.intro fe32 zmb32))) (And.intro (And.intro (And.intro bldT32 tyc62) (And.intro zmb62 Tryd.underlying0)) (And.intro (And.intro Tryd.underlying3 Tryd.underlying4) (And.intro Tryd.underlying22 (And.intro Tryd.underlying32 Tryd.underlying62)))))
theorem Y1HuVI {G R : Prop} (r : R) (h : R → G := by intro r; first | (apply WP.region; exact rvc_sound _ _ (Sm.out r)) | exact WP.drawK rfl mixed (by decide +kernel) (Sm.out r) | (apply WP.block; exact r) | (apply WP.skip; exact Yq r) | (apply WP.exit; exact Yq r) | (apply WP.ret; exact Sm.out r) | exact WP.cond rfl (fun _ => r) (fun hg => absurd hg (by decide)) | exact WP.cond rfl (fun hg => absurd hg (by decide)) (fun _ => r) | exact Rt.mk (And.intro (fun _ => Sm.out r) fun hg => absurd hg (by decide)) | exact Rt.mk (And.intro (fun hg => absurd hg (by decide)) fun _ => Sm.out r)) : G := h r
theorem YzHuVI {G R : Prop} (r : R) (h : R → G := by intro r; first | (apply ExG.no; exact Sm.out r) | (apply Or.inl; apply ExG.no; exact Sm.out r) | exact Or.inl (And.intro (fun hg => absurd hg (by decide)) (ExG.no (Sm.out r)))) : G := h r
theorem YsHuVI0 {P Q : Prop} (q : Q) (h : P = Q := by (try (conv => lhs; simp -dsimp only [ZK, rvc, capA, appA, litL, mkfv, drawF, headN, pureH, stp, dvc, calleeOf, gcall, pev, eff, newB, okd, og, ogs, ogo, ogp, slv, bltv, opd, litv, strip, one, both, putE, St.put, look, gdOf, gdv, picka, pickv, pickw, binv, bini, bins, binb, binp, binq, isSlT, bina, shp, eqCells, unv, convv, nilv, faddv, addp, idxav, idxp, load1, load1m, loadn, loadnm, loadv, hget, hset, hrep, hdel, slicev, slice3v, bnd, shift1, lenv, capv, IntKind.bits, extractv, fieldv, indexv, min2v, max2v, mkiv, tasv, tasz, cellsA, fillA, buildv, stC, oneC, rowMB, intsA, plN, appE, appZ, appC, appS, srcB, appNZ, appNC, VwL, srcC, srcZ, srcM, isBoolT, isPtrT, isSliceT, uOk, Value.oneCell', Nat.reducePow, Int.reducePow, Nat.reduceAdd, Nat.reduceMul, Nat.reduceSub, Nat.reduceLT, Nat.reduceLeDiff, Nat.reduceEqDiff, Nat.reduceBEq, Nat.reduceDiv, Nat.reduceMod, ↓reduceIte, reduceCtorEq, Int.reduceToNat, Int.reduceLT, Int.reduceLE, TFHuVI, SeqQ, BlkQ, LoopQ, BodyQ, dkn, kst, fvOf, beq_self_eq_true, Bool.true_beq, Bool.false_beq, Bool.not_true, Bool.not_false, FA.out, FR.out])) <;> exact rfl) : P := h.mpr q
theorem YsHuVI1 {P Q : Prop} (q : Q) (h : P = Q := by (try (conv => lhs; simp -dsimp only [ZK, rvc, capA, appA, litL, mkfv, drawF, headN, pureH, stp, dvc, calleeOf, gcall, pev, eff, newB, okd, og, ogs, ogo, ogp, slv, bltv, opd, litv, strip, one, both, putE, St.put, look, gdOf, gdv, picka, pickv, pickw, binv, bini, bins, binb, binp, binq, isSlT, bina, shp, eqCells, unv, convv, nilv, faddv, addp, idxav, idxp, load1, load1m, loadn, loadnm, loadv, hget, hset, hrep, hdel, slicev, slice3v, bnd, shift1, lenv, capv, IntKind.bits, extractv, fieldv, indexv, min2v, max2v, mkiv, tasv, tasz, cellsA, fillA, buildv, stC, oneC, rowMB, intsA, plN, appE, appZ, appC, appS, srcB, appNZ, appNC, VwL, srcC, srcZ, srcM, isBoolT, isPtrT, isSliceT, uOk, Value.oneCell', Nat.reducePow, Int.reducePow, Nat.reduceAdd, Nat.reduceMul, Nat.reduceSub, Nat.reduceLT, Nat.reduceLeDiff, Nat.reduceEqDiff, Nat.reduceBEq, Nat.reduceDiv, Nat.reduceMod, ↓reduceIte, reduceCtorEq, Int.reduceToNat, Int.reduceLT, Int.reduceLE, TFHuVI, SeqQ, BlkQ, LoopQ, BodyQ, drawSR, dvm, xst, putE, hdel, List.mem_cons, List.mem_singleton, FA.out, FR.out])) <;> exact rfl) : P := h.mpr q
structure SiG where
  r : Nat
  D : List Sl
set_option maxHeartbeats 8000000 in
theorem sift_ct (l : List Sl) (x n k s lo hi : Nat) (hn : l.length = n) (hl : n ≤ 100000) (hk : n ≤ k ∧ k ≤ 9223372036854775807) (hs : s + hi ≤ n) (hlo : lo ≤ n) (hf : ∀ e ∈ l, fb e) (hh : HpO l s (lo + 1) hi) :
    ACt Tryd.prog 99 [ms x 0 n k, iv .i64 (lo : Int), iv .i64 (hi : Int), iv .i64 (s : Int), fCm] [(x, .cells (scs l) (k * 5) 32)]
      (fun r F' => ∃ g, (g.Perm l ∧ Out l g (s + lo) (s + hi) ∧ HpO g s lo hi) ∧ r = .tup [] ∧ F' = [(x, .cells (scs g) (k * 5) 32)]) := by
  obtain ⟨C0, hC0⟩ : ∃ C, C = scs l := ⟨_, rfl⟩
  rw [← hC0]
  refine ACt.intro Tryd.func99 rfl (by kernel_rfl) (by simp [Tryd.ntmps99]) (fun cx => ?_)
  simp only [argE, Tryd.ntmps99, Tryd.results99]
  first | (have FRx := FR; clear FRx) | have FR := fr0S
  have FA := Sm.mk (TFHuVI)
  repeat' first | (apply Sm.mk; refine Ys ?_) | refine WP.seq fun K hK => ?_ | (apply Ob.mk; exact Yo) | refine And.intro (Ob.out ?_) ?_ | refine Y1HuVI ?_ | refine YzHuVI ?_ | (refine WP.cond rfl (fun hc => ?_) (fun hc => ?_) <;> (try simp only [ZC, reduceCtorEq, ZD] at hc) <;> (try exact absurd hc (by decide)) <;> (try (exfalso; omega))) | refine Rt.mk (And.intro (fun hg => Sm.out ?_) fun hg => Sm.out ?_) | (refine Nu.mk ?_; first | (fail_if_success have := nb1); intro nb1 | (fail_if_success have := nb2); intro nb2 | (fail_if_success have := nb3); intro nb3 | (fail_if_success have := nb4); intro nb4 | intro nbz) | (apply Yfr; refine Yf FR fun hFRb FR => ?_) | refine Two.mk ?_ ?_ | (apply Yxc; exact Yx) | refine Cs.mk fun hcs => Sm.out ?_ | go_step | omega | (simp only [maxLen_eq]; omega) | exact trivial
  refine WP.loop (Γ := SiG) (fun g => ⟨[(10, iv .i64 (g.r : Int)), (0, ms x 0 n k), (2, iv .i64 (hi : Int)), (3, iv .i64 (s : Int)), (4, fCm)], [(x, .cells (scs g.D) (k * 5) 32)]⟩)
    (fun g => SiI l g.D s lo hi g.r n ∧ g.r ≤ n) (fun g => n - g.r) ⟨lo, l⟩ ⟨SiI.start hn hh, hlo⟩ (Sub.pick (by simp [pickB, hget, hdel, FR.out, hC0]) (by simp [look, hC0])) ?_
  clear hh hn hC0 C0
  intro ⟨r, D⟩ ⟨hI, hrn⟩
  simp only at hI hrn ⊢
  have FR : Sm (¬ ((1 : Nat) = 0)) := Sm.mk Nat.one_ne_zero
  have hlr := hI.lr
  have w1 : IntKind.i64.wrap (2 * (r : Int)) = 2 * (r : Int) := wrap_i64 (by omega) (by omega)
  have w2 : IntKind.i64.wrap (2 * (r : Int) + 1) = ((2 * r + 1 : Nat) : Int) := by rw [wrap_i64 (by omega) (by omega)]; omega
  by_cases hc : hi ≤ 2 * r + 1
  · have k1 : decide ((((2 * r + 1 : Nat)) : Int) ≥ (hi : Int)) = true := decide_eq_true (by omega)
    have hd := hI.done fun c h1 h2 => by omega
    obtain ⟨C1, hC1⟩ : ∃ C, C = scs D := ⟨_, rfl⟩
    rw [← hC1]
    first | (have FRx := FR; clear FRx) | have FR := fr0S
    have FA := Sm.mk (And.intro TFHuVI (And.intro w1 (And.intro w2 k1)))
    repeat' first | (apply Sm.mk; refine Ys ?_) | refine WP.seq fun K hK => ?_ | (apply Ob.mk; exact Yo) | refine And.intro (Ob.out ?_) ?_ | refine Y1HuVI ?_ | refine YzHuVI ?_ | (refine WP.cond rfl (fun hc => ?_) (fun hc => ?_) <;> (try simp only [ZC, reduceCtorEq, ZD] at hc) <;> (try exact absurd hc (by decide)) <;> (try (exfalso; omega))) | refine Rt.mk (And.intro (fun hg => Sm.out ?_) fun hg => Sm.out ?_) | (refine Nu.mk ?_; first | (fail_if_success have := nb1); intro nb1 | (fail_if_success have := nb2); intro nb2 | (fail_if_success have := nb3); intro nb3 | (fail_if_success have := nb4); intro nb4 | intro nbz) | (apply Yfr; refine Yf FR fun hFRb FR => ?_) | refine Two.mk ?_ ?_ | (apply Yxc; exact Yx) | refine Cs.mk fun hcs => Sm.out ?_ | go_step | omega | (simp only [maxLen_eq]; omega) | exact trivial
    (refine OutQ.drop _ _ (perm1 (by simp only [hget, hdel, ↓reduceIte, if_true, if_false, FR.out, hC1]; first | done | rfl)) (by simp only [resv, ZK, look, loadv, loadn, loadnm, load1, load1m, hget, ↓reduceIte, Nat.reduceEqDiff, Nat.reduceAdd, Nat.reduceMul, Nat.reduceLeDiff, Nat.reduceLT, reduceCtorEq, TFHuVI, FR.out, hC1]) ⟨D, ⟨hI.perm, hI.out, hd⟩, (by simp only [resv, resA, ZK, look, loadv, loadn, loadnm, load1, load1m, hget, ↓reduceIte, Nat.reduceEqDiff, Nat.reduceAdd, Nat.reduceMul, Nat.reduceLeDiff, Nat.reduceLT, reduceCtorEq, TFHuVI, FR.out, hC1]; first | done | rfl), rfl⟩)
  · have k1 : decide ((((2 * r + 1 : Nat)) : Int) ≥ (hi : Int)) = false := decide_eq_false (by omega)
    have w3 : IntKind.i64.wrap (((2 * r + 1 : Nat) : Int) + 1) = ((2 * r + 2 : Nat) : Int) := by rw [wrap_i64 (by omega) (by omega)]; omega
    obtain ⟨C1, hC1⟩ : ∃ C, C = scs D := ⟨_, rfl⟩
    rw [← hC1]
    first | (have FRx := FR; clear FRx) | have FR := fr0S
    have FA := Sm.mk (And.intro TFHuVI (And.intro w1 (And.intro w2 k1)))
    repeat' first | (apply Sm.mk; refine Ys ?_) | refine WP.seq fun K hK => ?_ | (apply Ob.mk; exact Yo) | refine And.intro (Ob.out ?_) ?_ | ((fail_if_success (show WP _ _ _ (.region 3 _ _) _ _)); refine Y1HuVI ?_) | refine YzHuVI ?_ | (refine WP.cond rfl (fun hc => ?_) (fun hc => ?_) <;> (try simp only [ZC, reduceCtorEq, ZD] at hc) <;> (try exact absurd hc (by decide)) <;> (try (exfalso; omega))) | refine Rt.mk (And.intro (fun hg => Sm.out ?_) fun hg => Sm.out ?_) | (refine Nu.mk ?_; first | (fail_if_success have := nb1); intro nb1 | (fail_if_success have := nb2); intro nb2 | (fail_if_success have := nb3); intro nb3 | (fail_if_success have := nb4); intro nb4 | intro nbz) | (apply Yfr; refine Yf FR fun hFRb FR => ?_) | refine Two.mk ?_ ?_ | (apply Yxc; exact Yx) | refine Cs.mk fun hcs => Sm.out ?_ | go_step | omega | (simp only [maxLen_eq]; omega) | exact trivial
    rename_i K2 hK2
    have cA : Sm (∀ (t : Bool) (m : Nat), m = (if t then 2 * r + 2 else 2 * r + 1) → m < hi → (∀ c, (c = 2 * r + 1 ∨ c = 2 * r + 2) → c < hi → vA D s c ≤ vA D s m) → ∀ s', Sub s' ⟨[(40, bv t), (11, iv .i64 ((2 * r + 1 : Nat) : Int)), (10, iv .i64 (r : Int)), (0, ms x 0 n k), (2, iv .i64 (hi : Int)), (3, iv .i64 (s : Int)), (4, fCm)], [(x, .cells C1 (k * 5) 32)]⟩ → K s') := Sm.mk fun t m hm hm2 hmx s' hs' => by
      refine hK s' (WP.sub hs' ?_)
      clear hK hs'
      first | (have FRx := FR; clear FRx) | have FR := fr0S
      have FA := Sm.mk (TFHuVI)
      repeat' first | (apply Sm.mk; refine Ys ?_) | refine WP.seq fun K hK => ?_ | (apply Ob.mk; exact Yo) | refine And.intro (Ob.out ?_) ?_ | refine Y1HuVI ?_ | refine YzHuVI ?_ | ((fail_if_success (show WP _ _ _ (.cond _ _ _) _ _)); refine WP.cond rfl (fun hc => ?_) (fun hc => ?_) <;> (try simp only [ZC, reduceCtorEq, ZD] at hc) <;> (try exact absurd hc (by decide)) <;> (try (exfalso; omega))) | refine Rt.mk (And.intro (fun hg => Sm.out ?_) fun hg => Sm.out ?_) | (refine Nu.mk ?_; first | (fail_if_success have := nb1); intro nb1 | (fail_if_success have := nb2); intro nb2 | (fail_if_success have := nb3); intro nb3 | (fail_if_success have := nb4); intro nb4 | intro nbz) | (apply Yfr; refine Yf FR fun hFRb FR => ?_) | refine Two.mk ?_ ?_ | (apply Yxc; exact Yx) | refine Cs.mk fun hcs => Sm.out ?_ | go_step | omega | (simp only [maxLen_eq]; omega) | exact trivial
      have cB : Sm (∀ s', Sub s' ⟨[(11, iv .i64 (m : Int)), (10, iv .i64 (r : Int)), (0, ms x 0 n k), (2, iv .i64 (hi : Int)), (3, iv .i64 (s : Int)), (4, fCm)], [(x, .cells C1 (k * 5) 32)]⟩ → K2 s') := Sm.mk fun s' hs' => by
        refine hK2 s' (WP.sub hs' ?_)
        clear hK2 hs'
        have hmr : m = 2 * r + 1 ∨ m = 2 * r + 2 := by cases t <;> simp at hm <;> omega
        obtain ⟨un, ug, uw, uf, ut, vn, vg, vw, vf, vt, z, U, V, hd1, hd2, cF, hlt, q1, q2, hCl⟩ := cmp_cells (p := s + r) (q := s + m) hf hI.perm hI.len (by omega) (by omega)
        have q3 : s + r < n := by omega
        have q4 : s + m < n := by omega
        have j1 : IntKind.i64.wrap ((s : Int) + (r : Int)) = ((s + r : Nat) : Int) := by rw [wrap_i64 (by omega) (by omega)]; omega
        have j2 : IntKind.i64.wrap ((s : Int) + (m : Int)) = ((s + m : Nat) : Int) := by rw [wrap_i64 (by omega) (by omega)]; omega
        rw [← hC1] at hd1 hd2 q1 q2 hCl
        obtain ⟨t2, ht2⟩ : ∃ t, decide ((at_ D (s + r)).f < (at_ D (s + m)).f) = t := ⟨_, rfl⟩
        rw [ht2] at hlt
        cases t2 with
        | false =>
          have hx := of_decide_eq_false ht2
          have hd := hI.done fun c h1 h2 => by have := hmx c h1 h2; unfold vA at this ⊢; omega
          first | (have FRx := FR; clear FRx) | have FR := fr0S
          have FA := Sm.mk (TFHuVI)
          repeat' first | (apply Sm.mk; refine Ys ?_) | refine WP.seq fun K hK => ?_ | (apply Ob.mk; exact Yo) | refine And.intro (Ob.out ?_) ?_ | ((fail_if_success (show WP _ _ _ (.region 5 _ _) _ _)); refine Y1HuVI ?_) | refine YzHuVI ?_ | (refine WP.cond rfl (fun hc => ?_) (fun hc => ?_) <;> (try simp only [ZC, reduceCtorEq, ZD] at hc) <;> (try exact absurd hc (by decide)) <;> (try (exfalso; omega))) | refine Rt.mk (And.intro (fun hg => Sm.out ?_) fun hg => Sm.out ?_) | (refine Nu.mk ?_; first | (fail_if_success have := nb1); intro nb1 | (fail_if_success have := nb2); intro nb2 | (fail_if_success have := nb3); intro nb3 | (fail_if_success have := nb4); intro nb4 | intro nbz) | (apply Yfr; refine Yf FR fun hFRb FR => ?_) | refine Two.mk ?_ ?_ | (apply Yxc; exact Yx) | refine Cs.mk fun hcs => Sm.out ?_ | go_step | omega | (simp only [maxLen_eq]; omega) | exact trivial
          refine WP.drawV (k := 16) mixed (by decide +kernel) (Sm.out ?_)
          first | (have FRx := FR; clear FRx) | have FR := fr0S
          have FA := Sm.mk (And.intro TFHuVI (And.intro hd1 (And.intro hd2 (And.intro q1 (And.intro q2 (And.intro q3 (And.intro q4 (And.intro hlt (And.intro j1 (And.intro j2 hCl))))))))))
          repeat' first | (apply Sm.mk; refine YsHuVI0 ?_) | refine WP.seq fun K hK => ?_ | (apply Ob.mk; exact Yo) | refine And.intro (Ob.out ?_) ?_ | refine Y1HuVI ?_ | refine Yc (c := cF) (r := ?_) | refine YzHuVI ?_ | (refine WP.cond rfl (fun hc => ?_) (fun hc => ?_) <;> (try simp only [ZC, reduceCtorEq, ZD] at hc) <;> (try exact absurd hc (by decide)) <;> (try (exfalso; omega))) | refine Rt.mk (And.intro (fun hg => Sm.out ?_) fun hg => Sm.out ?_) | (refine Nu.mk ?_; first | (fail_if_success have := nb1); intro nb1 | (fail_if_success have := nb2); intro nb2 | (fail_if_success have := nb3); intro nb3 | (fail_if_success have := nb4); intro nb4 | intro nbz) | (apply Yfr; refine Yf FR fun hFRb FR => ?_) | refine Two.mk ?_ ?_ | (apply Yxc; exact Yx) | refine Cs.mk fun hcs => Sm.out ?_ | go_step | omega | (simp only [maxLen_eq]; omega) | exact trivial
          (refine OutQ.drop _ _ (perm1 (by simp only [hget, hdel, ↓reduceIte, if_true, if_false, FR.out, hC1]; first | done | rfl)) (by simp only [resv, ZK, look, loadv, loadn, loadnm, load1, load1m, hget, ↓reduceIte, Nat.reduceEqDiff, Nat.reduceAdd, Nat.reduceMul, Nat.reduceLeDiff, Nat.reduceLT, reduceCtorEq, TFHuVI, FR.out, hC1]) ⟨D, ⟨hI.perm, hI.out, hd⟩, (by simp only [resv, resA, ZK, look, loadv, loadn, loadnm, load1, load1m, hget, ↓reduceIte, Nat.reduceEqDiff, Nat.reduceAdd, Nat.reduceMul, Nat.reduceLeDiff, Nat.reduceLT, reduceCtorEq, TFHuVI, FR.out, hC1]; first | done | rfl), rfl⟩)
        | true =>
          have hI2 := hI.step (m := m) (by omega) hmr hm2 (of_decide_eq_true ht2) hmx
          obtain ⟨un', ug', uw', uf', ut', vn', vg', vw', vf', vt', U', V', C3, hda, hdb, h5a, h5b, hC3, hCl2, r1, r2⟩ := swp_cells D (i := s + r) (j := s + m) (n := n) hI.len (by omega) (by omega)
          obtain ⟨C2, hC2⟩ : ∃ C, C = scs (swp D (s + r) (s + m)) := ⟨_, rfl⟩
          rw [← hC1] at hda hdb h5a
          rw [← hC2] at h5b
          first | (have FRx := FR; clear FRx) | have FR := fr0S
          have FA := Sm.mk (TFHuVI)
          repeat' first | (apply Sm.mk; refine Ys ?_) | refine WP.seq fun K hK => ?_ | (apply Ob.mk; exact Yo) | refine And.intro (Ob.out ?_) ?_ | ((fail_if_success (show WP _ _ _ (.region 5 _ _) _ _)); refine Y1HuVI ?_) | refine YzHuVI ?_ | (refine WP.cond rfl (fun hc => ?_) (fun hc => ?_) <;> (try simp only [ZC, reduceCtorEq, ZD] at hc) <;> (try exact absurd hc (by decide)) <;> (try (exfalso; omega))) | refine Rt.mk (And.intro (fun hg => Sm.out ?_) fun hg => Sm.out ?_) | (refine Nu.mk ?_; first | (fail_if_success have := nb1); intro nb1 | (fail_if_success have := nb2); intro nb2 | (fail_if_success have := nb3); intro nb3 | (fail_if_success have := nb4); intro nb4 | intro nbz) | (apply Yfr; refine Yf FR fun hFRb FR => ?_) | refine Two.mk ?_ ?_ | (apply Yxc; exact Yx) | refine Cs.mk fun hcs => Sm.out ?_ | go_step | omega | (simp only [maxLen_eq]; omega) | exact trivial
          refine WP.drawV (k := 16) mixed (by decide +kernel) (Sm.out ?_)
          first | (have FRx := FR; clear FRx) | have FR := fr0S
          have FA := Sm.mk (And.intro TFHuVI (And.intro hd1 (And.intro hd2 (And.intro q1 (And.intro q2 (And.intro q3 (And.intro q4 (And.intro hlt (And.intro j1 (And.intro j2 hCl))))))))))
          repeat' first | (apply Sm.mk; refine YsHuVI0 ?_) | refine WP.seq fun K hK => ?_ | (apply Ob.mk; exact Yo) | refine And.intro (Ob.out ?_) ?_ | ((fail_if_success (show WP _ _ _ (.region 6 _ _) _ _)); refine Y1HuVI ?_) | refine Yc (c := cF) (r := ?_) | refine YzHuVI ?_ | (refine WP.cond rfl (fun hc => ?_) (fun hc => ?_) <;> (try simp only [ZC, reduceCtorEq, ZD] at hc) <;> (try exact absurd hc (by decide)) <;> (try (exfalso; omega))) | refine Rt.mk (And.intro (fun hg => Sm.out ?_) fun hg => Sm.out ?_) | (refine Nu.mk ?_; first | (fail_if_success have := nb1); intro nb1 | (fail_if_success have := nb2); intro nb2 | (fail_if_success have := nb3); intro nb3 | (fail_if_success have := nb4); intro nb4 | intro nbz) | (apply Yfr; refine Yf FR fun hFRb FR => ?_) | refine Two.mk ?_ ?_ | (apply Yxc; exact Yx) | refine Cs.mk fun hcs => Sm.out ?_ | go_step | omega | (simp only [maxLen_eq]; omega) | exact trivial
          clear hd1 hd2 q1 q2 cF
          refine WP.drawS3 (is := 21) (k := 22) x ((s + r) * 5) [13, 19] mixed (by decide +kernel) (by decide +kernel) (by decide +kernel) (Sm.out ?_)
          first | (have FRx := FR; clear FRx) | have FR := fr0S
          have FA := Sm.mk (And.intro TFHuVI (And.intro hda (And.intro hdb (And.intro h5a (And.intro h5b (And.intro hC3 (And.intro hCl (And.intro r1 (And.intro r2 (And.intro q3 (And.intro q4 (And.intro j1 j2))))))))))))
          repeat' first | (apply Sm.mk; refine YsHuVI1 ?_) | refine WP.seq fun K hK => ?_ | (apply Ob.mk; exact Yo) | refine And.intro (Ob.out ?_) ?_ | refine Y1HuVI ?_ | refine YzHuVI ?_ | (refine WP.cond rfl (fun hc => ?_) (fun hc => ?_) <;> (try simp only [ZC, reduceCtorEq, ZD] at hc) <;> (try exact absurd hc (by decide)) <;> (try (exfalso; omega))) | refine Rt.mk (And.intro (fun hg => Sm.out ?_) fun hg => Sm.out ?_) | (refine Nu.mk ?_; first | (fail_if_success have := nb1); intro nb1 | (fail_if_success have := nb2); intro nb2 | (fail_if_success have := nb3); intro nb3 | (fail_if_success have := nb4); intro nb4 | intro nbz) | (apply Yfr; refine Yf FR fun hFRb FR => ?_) | refine Two.mk ?_ ?_ | (apply Yxc; exact Yx) | refine Cs.mk fun hcs => Sm.out ?_ | go_step | omega | (simp only [maxLen_eq]; omega) | exact trivial
          exact ⟨⟨m, swp D (s + r) (s + m)⟩, ⟨hI2, by simp only; omega⟩, by simp only; omega, (Sub.pick (by simp [pickB, hget, hdel, FR.out, hC2]) (by simp [look, hC2]))⟩
      clear hK2
      cases t with
      | true =>
        have e : m = 2 * r + 2 := by simpa using hm
        subst e
        first | (have FRx := FR; clear FRx) | have FR := fr0S
        have FA := Sm.mk (And.intro TFHuVI w3)
        repeat' first | (apply Sm.mk; refine Ys ?_) | refine WP.seq fun K hK => ?_ | (apply Ob.mk; exact Yo) | refine And.intro (Ob.out ?_) ?_ | refine Y1HuVI ?_ | refine YzHuVI ?_ | (refine WP.cond rfl (fun hc => ?_) (fun hc => ?_) <;> (try simp only [ZC, reduceCtorEq, ZD] at hc) <;> (try exact absurd hc (by decide)) <;> (try (exfalso; omega))) | refine Rt.mk (And.intro (fun hg => Sm.out ?_) fun hg => Sm.out ?_) | (refine Nu.mk ?_; first | (fail_if_success have := nb1); intro nb1 | (fail_if_success have := nb2); intro nb2 | (fail_if_success have := nb3); intro nb3 | (fail_if_success have := nb4); intro nb4 | intro nbz) | (apply Yfr; refine Yf FR fun hFRb FR => ?_) | refine Two.mk ?_ ?_ | (apply Yxc; exact Yx) | refine Cs.mk fun hcs => Sm.out ?_ | go_step | omega | (simp only [maxLen_eq]; omega) | exact trivial
        exact cB.out _ (Sub.pick (by simp [pickB, hget, hdel, FR.out]) (by simp [look]))
      | false =>
        have e : m = 2 * r + 1 := by simpa using hm
        subst e
        first | (have FRx := FR; clear FRx) | have FR := fr0S
        have FA := Sm.mk (TFHuVI)
        repeat' first | (apply Sm.mk; refine Ys ?_) | refine WP.seq fun K hK => ?_ | (apply Ob.mk; exact Yo) | refine And.intro (Ob.out ?_) ?_ | refine Y1HuVI ?_ | refine YzHuVI ?_ | (refine WP.cond rfl (fun hc => ?_) (fun hc => ?_) <;> (try simp only [ZC, reduceCtorEq, ZD] at hc) <;> (try exact absurd hc (by decide)) <;> (try (exfalso; omega))) | refine Rt.mk (And.intro (fun hg => Sm.out ?_) fun hg => Sm.out ?_) | (refine Nu.mk ?_; first | (fail_if_success have := nb1); intro nb1 | (fail_if_success have := nb2); intro nb2 | (fail_if_success have := nb3); intro nb3 | (fail_if_success have := nb4); intro nb4 | intro nbz) | (apply Yfr; refine Yf FR fun hFRb FR => ?_) | refine Two.mk ?_ ?_ | (apply Yxc; exact Yx) | refine Cs.mk fun hcs => Sm.out ?_ | go_step | omega | (simp only [maxLen_eq]; omega) | exact trivial
        exact cB.out _ (Sub.pick (by simp [pickB, hget, hdel, FR.out]) (by simp [look]))
    clear hK hK2
    by_cases h2 : 2 * r + 2 < hi
    · have k2 : decide (((2 * r + 2 : Nat) : Int) < (hi : Int)) = true := decide_eq_true (by omega)
      obtain ⟨un, ug, uw, uf, ut, vn, vg, vw, vf, vt, z, U, V, hd1, hd2, cF, hlt, q1, q2, hCl⟩ := cmp_cells (p := s + (2 * r + 1)) (q := s + (2 * r + 2)) hf hI.perm hI.len (by omega) (by omega)
      have q3 : s + (2 * r + 1) < n := by omega
      have q4 : s + (2 * r + 2) < n := by omega
      have j1 : IntKind.i64.wrap ((s : Int) + ((2 * r + 1 : Nat) : Int)) = ((s + (2 * r + 1) : Nat) : Int) := by rw [wrap_i64 (by omega) (by omega)]; omega
      have j2 : IntKind.i64.wrap (((s + (2 * r + 1) : Nat) : Int) + 1) = ((s + (2 * r + 2) : Nat) : Int) := by rw [wrap_i64 (by omega) (by omega)]; omega
      rw [← hC1] at hd1 hd2 q1 q2 hCl
      obtain ⟨t2, ht2⟩ : ∃ t, decide ((at_ D (s + (2 * r + 1))).f < (at_ D (s + (2 * r + 2))).f) = t := ⟨_, rfl⟩
      rw [ht2] at hlt
      refine WP.drawV (k := 22) mixed (by decide +kernel) (Sm.out ?_)
      first | (have FRx := FR; clear FRx) | have FR := fr0S
      have FA := Sm.mk (And.intro TFHuVI (And.intro w3 (And.intro k2 (And.intro hd1 (And.intro hd2 (And.intro q1 (And.intro q2 (And.intro q3 (And.intro q4 (And.intro hlt (And.intro j1 (And.intro j2 hCl))))))))))))
      repeat' first | (apply Sm.mk; refine YsHuVI0 ?_) | refine WP.seq fun K hK => ?_ | (apply Ob.mk; exact Yo) | refine And.intro (Ob.out ?_) ?_ | refine Y1HuVI ?_ | refine Yc (c := cF) (r := ?_) | refine YzHuVI ?_ | (refine WP.cond rfl (fun hc => ?_) (fun hc => ?_) <;> (try simp only [ZC, reduceCtorEq, ZD] at hc) <;> (try exact absurd hc (by decide)) <;> (try (exfalso; omega))) | refine Rt.mk (And.intro (fun hg => Sm.out ?_) fun hg => Sm.out ?_) | (refine Nu.mk ?_; first | (fail_if_success have := nb1); intro nb1 | (fail_if_success have := nb2); intro nb2 | (fail_if_success have := nb3); intro nb3 | (fail_if_success have := nb4); intro nb4 | intro nbz) | (apply Yfr; refine Yf FR fun hFRb FR => ?_) | refine Two.mk ?_ ?_ | (apply Yxc; exact Yx) | refine Cs.mk fun hcs => Sm.out ?_ | go_step | omega | (simp only [maxLen_eq]; omega) | exact trivial
      cases t2 with
      | true =>
        have hx := of_decide_eq_true ht2
        exact cA.out true (2 * r + 2) rfl h2 (fun c h3 h4 => by
          unfold vA
          rcases h3 with rfl | rfl
          · omega
          · exact Int.le_refl _) _ (Sub.pick (by simp [pickB, hget, hdel, FR.out]) (by simp [look]))
      | false =>
        have hx := of_decide_eq_false ht2
        exact cA.out false (2 * r + 1) rfl (by omega) (fun c h3 h4 => by
          unfold vA
          rcases h3 with rfl | rfl
          · exact Int.le_refl _
          · omega) _ (Sub.pick (by simp [pickB, hget, hdel, FR.out]) (by simp [look]))
    · have k2 : decide (((2 * r + 2 : Nat) : Int) < (hi : Int)) = false := decide_eq_false (by omega)
      refine WP.drawV (k := 22) mixed (by decide +kernel) (Sm.out ?_)
      first | (have FRx := FR; clear FRx) | have FR := fr0S
      have FA := Sm.mk (And.intro TFHuVI (And.intro w3 k2))
      repeat' first | (apply Sm.mk; refine YsHuVI0 ?_) | refine WP.seq fun K hK => ?_ | (apply Ob.mk; exact Yo) | refine And.intro (Ob.out ?_) ?_ | refine Y1HuVI ?_ | refine YzHuVI ?_ | (refine WP.cond rfl (fun hc => ?_) (fun hc => ?_) <;> (try simp only [ZC, reduceCtorEq, ZD] at hc) <;> (try exact absurd hc (by decide)) <;> (try (exfalso; omega))) | refine Rt.mk (And.intro (fun hg => Sm.out ?_) fun hg => Sm.out ?_) | (refine Nu.mk ?_; first | (fail_if_success have := nb1); intro nb1 | (fail_if_success have := nb2); intro nb2 | (fail_if_success have := nb3); intro nb3 | (fail_if_success have := nb4); intro nb4 | intro nbz) | (apply Yfr; refine Yf FR fun hFRb FR => ?_) | refine Two.mk ?_ ?_ | (apply Yxc; exact Yx) | refine Cs.mk fun hcs => Sm.out ?_ | go_step | omega | (simp only [maxLen_eq]; omega) | exact trivial
      exact cA.out false (2 * r + 1) rfl (by omega) (fun c h3 h4 => by
        rcases h3 with rfl | rfl
        · exact Int.le_refl _
        · omega) _ (Sub.pick (by simp [pickB, hget, hdel, FR.out, undef]) (by simp [look, undef]))
end Go.Proofs.YtaffbklkjjmmdaaDoor
