/-
  The walks and the laws that the statement leans on, part 26.
-/
import Derived.Test.YteoajodoejoccaaP10
import Derived.Test.YteoajodoejoccaaP25
namespace Go.Proofs.Yteoajodoejoccaa
open Go Wi
set_option linter.unusedVariables false
set_option linter.unusedSimpArgs false
set_option linter.defProp false
def TFSlB :=
  And.intro (And.intro (And.intro (And.intro (And.intro tyc3 zmb3) (And.intro tyc4 (And.intro zmb4 tyc5))) (And.intro (And.intro zmb5 tyc25) (And.intro mth25_45 (And.intro mth25_44 mth25_43)))) (And.intro (And.intro (And.intro con25 zmb25) (And.intro tyc28 (And.intro zmb28 tyc35))) (And.intro (And.intro zmb35 tyc36) (And.intro elt36 (And.intro mkz36 apT36))))) (And.intro (And.intro (And.intro (And.intro elk36 zmb36) (And.intro tyc62 (And.intro tyc88 tyc90))) (And.intro (And.intro mth90_68 mth90_61) (And.intro mth90_67 (And.intro con90 zmb90)))) (And.intro (And.intro (And.intro Try.underlying3 Try.underlying4) (And.intro Try.underlying5 (And.intro Try.underlying25 Try.underlying28))) (And.intro (And.intro Try.underlying35 Try.underlying36) (And.intro Try.underlying62 (And.intro Try.underlying88 Try.underlying90)))))
theorem Y1SlB {G R : Prop} (r : R) (h : R → G := by intro r; first | (apply WP.region; exact rvc_sound _ _ (Sm.out r)) | exact WP.drawK rfl mixed (by decide +kernel) (Sm.out r) | (apply WP.block; exact r) | (apply WP.skip; exact Yq r) | (apply WP.exit; exact Yq r) | (apply WP.ret; exact Sm.out r) | exact WP.cond rfl (fun _ => r) (fun hg => absurd hg (by decide)) | exact WP.cond rfl (fun hg => absurd hg (by decide)) (fun _ => r) | exact Rt.mk (And.intro (fun _ => Sm.out r) fun hg => absurd hg (by decide)) | exact Rt.mk (And.intro (fun hg => absurd hg (by decide)) fun _ => Sm.out r)) : G := h r
theorem YzSlB {G R : Prop} (r : R) (h : R → G := by intro r; first | (apply ExG.no; exact Sm.out r) | (apply Or.inl; apply ExG.no; exact Sm.out r) | exact Or.inl (And.intro (fun hg => absurd hg (by decide)) (ExG.no (Sm.out r)))) : G := h r
theorem frontS {Γ : Type} {f : FuncId} {args : List AV} {k : Γ → Nat × MB} {v : Γ → AV} (D : Hp) (c : ACt Try.prog f args [] (fun r F' => ∃ g, r = v g ∧ F' = [k g])) : ACt Try.prog f args D (fun r F' => ∃ g, r = v g ∧ F' = k g :: D) :=
  ACt.frm (R := D) c (.refl _) fun r F' hr _ => by
    obtain ⟨g, e1, e2⟩ := hr
    subst e1 e2
    exact ⟨k g :: D, [], by rw [List.append_nil]; exact .refl _, g, rfl, rfl⟩
set_option maxRecDepth 20000 in
set_option maxHeartbeats 4000000 in
theorem snap_ct {c s n : Nat} {W : Bs} (b : Nat) (a : DA) (l : DL) (hA : AOk c a) (hS : Stl s n (ub W) a) (hl : LOk b a l) (f m : Nat) (hfm : f + m ≤ n) (hm : 1 ≤ m) (par : Nat) (hms5 : m * s ≤ 5000) :
    ACt Try.prog 34 [pt b 0, iv .i64 (f : Int), iv .i64 (m : Int), nu par] (dH b a l) (fun r F' => r = .tup [nu (slF ((W.drop (f * s)).take (m * s)) par).1, .slz .u8 (slF ((W.drop (f * s)).take (m * s)) par).2, iv .i64 0] ∧ F' = dH b a l) := by
  obtain ⟨R, hR⟩ : ∃ R, R = (W.drop (f * s)).take (m * s) := ⟨_, rfl⟩
  rw [← hR]
  have hRT : ub R = ((ub W).drop (f * s)).take (m * s) := by rw [hR, ub_map, ub_map, List.map_take, List.map_drop]
  obtain ⟨T, hT⟩ : ∃ T, T = ub W := ⟨_, rfl⟩
  rw [← hT] at hS hRT
  have hs : a.size = s := hS.s
  have hn : a.n = n := hS.n
  have hn2 := hA.n2
  have hs1 := hA.s1
  have hs2 := hA.s2
  have hfl := flat_len (size := s) a.S (by rw [← hs]; exact hA.Sr)
  rw [hS.T, hA.Sl, hn] at hfl
  have hms : m * s ≤ 400 * 512 := Nat.mul_le_mul (by omega) (by omega)
  have hrow := fun j (hj : j < m) => flat_get (s := s) (L := a.S) (i := f + j) (by rw [← hs]; exact hA.Sr) (by rw [hA.Sl]; omega)
  have cR := fun j (hj : j < m) => readok_d b a l hA hl (f + j) (by omega) hS.dk
  rw [hS.T] at hrow
  refine ACt.intro Try.func34 rfl (by kernel_rfl) (by simp [Try.ntmps34]) (fun cx => ?_)
  simp only [argE, Try.ntmps34, Try.results34]
  first | (have FRx := FR; clear FRx) | have FR := fr0S
  have FA := Sm.mk (TFSlB)
  repeat' first | (apply Sm.mk; refine Ys ?_) | refine WP.seq fun K hK => ?_ | (apply Ob.mk; exact Yo) | refine And.intro (Ob.out ?_) ?_ | refine Y1SlB ?_ | refine YzSlB ?_ | (refine WP.cond rfl (fun hc => ?_) (fun hc => ?_) <;> (try simp only [ZC, reduceCtorEq, ZD] at hc) <;> (try exact absurd hc (by decide)) <;> (try (exfalso; omega))) | refine Rt.mk (And.intro (fun hg => Sm.out ?_) fun hg => Sm.out ?_) | (refine Nu.mk ?_; first | (fail_if_success have := nb1); intro nb1 | (fail_if_success have := nb2); intro nb2 | (fail_if_success have := nb3); intro nb3 | (fail_if_success have := nb4); intro nb4 | (fail_if_success have := nb5); intro nb5 | (fail_if_success have := nb6); intro nb6 | (fail_if_success have := nb7); intro nb7 | (fail_if_success have := nb8); intro nb8 | intro nbz) | (apply Yfr; refine Yf FR fun hFRb FR => ?_) | refine Two.mk ?_ ?_ | (apply Yxc; exact Yx) | refine Cs.mk fun hcs => Sm.out ?_ | go_step | omega | (simp only [maxLen_eq]; omega) | exact trivial
  refine WP.loop (Γ := RgG) (fun g => ⟨[(21, iv .i64 (g.j : Int)), (20, iv .i64 (m : Int)), (3, nu par), (11, rgV ((T.drop (f * s)).take (g.j * s)) g.x g.k), (0, pt b 0), (1, iv .i64 (f : Int))], rgH ((T.drop (f * s)).take (g.j * s)) g.x g.k ++ dH b a l⟩)
    (fun g => g.j ≤ m ∧ g.j * s ≤ g.k ∧ g.k ≤ 9223372036854775807) (fun g => m - g.j) ⟨0, 0, 0⟩ ⟨Nat.zero_le _, by simp, by simp⟩ (Sub.of_env [] (by simp [rgH]) (by simp [look, rgV])) ?_
  intro ⟨j, x, k⟩ ⟨hj, hk1, hk2⟩
  simp only at hj hk1 hk2 ⊢
  have FR : Sm (¬ ((1 : Nat) = 0)) := Sm.mk Nat.one_ne_zero
  have acl : ((T.drop (f * s)).take (j * s)).length = j * s := by
    have h1 := Nat.mul_le_mul_right s (show f + j ≤ n by omega)
    rw [Nat.add_mul] at h1
    rw [List.length_take, List.length_drop]; omega
  by_cases hjm : j < m
  · have kj : decide ((j : Int) < (m : Int)) = true := decide_eq_true (by omega)
    have w1 : IntKind.i64.wrap ((f : Int) + (j : Int)) = ((f + j : Nat) : Int) := by rw [wrap_i64 (by omega) (by omega)]; omega
    have w2 : IntKind.i64.wrap ((j : Int) + 1) = ((j + 1 : Nat) : Int) := by rw [wrap_i64 (by omega) (by omega)]; omega
    have cR := cR j hjm
    rw [hrow j hjm] at cR
    have ac2 : (T.drop (f * s)).take ((j + 1) * s) = (T.drop (f * s)).take (j * s) ++ (T.drop ((f + j) * s)).take s := by
      rw [Nat.add_mul, Nat.one_mul, List.take_add, List.drop_drop, Nat.add_mul f j]
    have rl : ((T.drop ((f + j) * s)).take s).length = s := by
      have h1 := Nat.mul_le_mul_right s (show f + j + 1 ≤ n by omega)
      rw [Nat.add_mul, Nat.one_mul] at h1
      rw [List.length_take, List.length_drop]; omega
    have jms : j * s + s ≤ m * s := by
      have := Nat.mul_le_mul_right s (show j + 1 ≤ m by omega)
      rwa [Nat.add_mul, Nat.one_mul] at this
    obtain ⟨Y, hY⟩ : ∃ Y, Y = (T.drop ((f + j) * s)).take s := ⟨_, rfl⟩
    rw [← hY] at cR ac2 rl
    obtain ⟨A, hA⟩ : ∃ A, A = (T.drop (f * s)).take (j * s) := ⟨_, rfl⟩
    rw [← hA] at ac2 acl ⊢
    clear hrow hA hY
    have k00 : ((0 : Int) != 0) = false := rfl
    have js1 : (j + 1) * s = j * s + s := by rw [Nat.add_mul, Nat.one_mul]
    by_cases hA0 : A = []
    · subst hA0
      rw [show rgV [] x k = nl from rfl, show rgH [] x k = [] from rfl, List.nil_append]
      have acl0 : j * s = 0 := by simpa using acl.symm
      have hY1 : Y ≠ [] := fun h => by rw [h] at rl; simp at rl; omega
      have r0 : 0 < Y.length := by rw [rl]; omega
      first | (have FRx := FR; clear FRx) | have FR := fr0S
      have FA := Sm.mk (And.intro TFSlB (And.intro kj (And.intro w1 (And.intro w2 (And.intro k00 (And.intro rl r0))))))
      repeat' first | (apply Sm.mk; refine Ys ?_) | refine WP.seq fun K hK => ?_ | (apply Ob.mk; exact Yo) | refine And.intro (Ob.out ?_) ?_ | refine Y1SlB ?_ | refine CallV.updM (cR) (pmz _) (Sm.out ?_) | ((first | refine ExF.up ?_ (cR) (Sm.out ?_) | refine ExG.up ?_ (fun _ => cR) (Sm.out ?_) | refine ExG.upJ ?_ (fun _ => cR) (Sm.out ?_) | refine ExG.upI ?_ (fun _ => cR) (Ob.out ?_) (Sm.out ?_)); focus (exact ⟨_, (pmz _)⟩)) | refine YzSlB ?_ | (refine WP.cond rfl (fun hc => ?_) (fun hc => ?_) <;> (try simp only [ZC, reduceCtorEq, ZD] at hc) <;> (try exact absurd hc (by decide)) <;> (try (exfalso; omega))) | refine Rt.mk (And.intro (fun hg => Sm.out ?_) fun hg => Sm.out ?_) | (refine Nu.mk ?_; first | (fail_if_success have := nb1); intro nb1 | (fail_if_success have := nb2); intro nb2 | (fail_if_success have := nb3); intro nb3 | (fail_if_success have := nb4); intro nb4 | (fail_if_success have := nb5); intro nb5 | (fail_if_success have := nb6); intro nb6 | (fail_if_success have := nb7); intro nb7 | (fail_if_success have := nb8); intro nb8 | intro nbz) | (apply Yfr; refine Yf FR fun hFRb FR => ?_) | refine Two.mk ?_ ?_ | (apply Yxc; exact Yx) | refine Cs.mk fun hcs => Sm.out ?_ | go_step | omega | (simp only [maxLen_eq]; omega) | exact trivial
      have e1 := rgV_ne hY1 nb1 nb2
      have e2 := rgH_ne hY1 nb1 nb2
      rw [List.nil_append] at ac2
      exact ⟨⟨j + 1, nb1, nb2⟩, ⟨by simp only; omega, by simp only; omega, by simp only; omega⟩, by simp only; omega, Sub.of_env [] (by simp [ac2, e2]) (by simp [look, ac2, e1, rl])⟩
    · rw [rgV_ne hA0, rgH_ne hA0]
      simp only [List.cons_append, List.nil_append]
      have cR2 := cR.lookU (pm1 (x, .zs .u8 A k 5) (dH b a l))
      have hA1 : A ++ Y ≠ [] := by simp [hA0]
      first | (have FRx := FR; clear FRx) | have FR := fr0S
      have FA := Sm.mk (And.intro TFSlB (And.intro kj (And.intro w1 (And.intro w2 (And.intro k00 (And.intro rl (And.intro acl (And.intro hk1 hk2))))))))
      repeat' first | (apply Sm.mk; refine Ys ?_) | refine WP.seq fun K hK => ?_ | (apply Ob.mk; exact Yo) | refine And.intro (Ob.out ?_) ?_ | refine Y1SlB ?_ | refine CallV.updM (cR2) (pmz _) (Sm.out ?_) | ((first | refine ExF.up ?_ (cR2) (Sm.out ?_) | refine ExG.up ?_ (fun _ => cR2) (Sm.out ?_) | refine ExG.upJ ?_ (fun _ => cR2) (Sm.out ?_) | refine ExG.upI ?_ (fun _ => cR2) (Ob.out ?_) (Sm.out ?_)); focus (exact ⟨_, (pmz _)⟩)) | refine YzSlB ?_ | (refine WP.cond rfl (fun hc => ?_) (fun hc => ?_) <;> (try simp only [ZC, reduceCtorEq, ZD] at hc) <;> (try exact absurd hc (by decide)) <;> (try (exfalso; omega))) | refine Rt.mk (And.intro (fun hg => Sm.out ?_) fun hg => Sm.out ?_) | (refine Nu.mk ?_; first | (fail_if_success have := nb1); intro nb1 | (fail_if_success have := nb2); intro nb2 | (fail_if_success have := nb3); intro nb3 | (fail_if_success have := nb4); intro nb4 | (fail_if_success have := nb5); intro nb5 | (fail_if_success have := nb6); intro nb6 | (fail_if_success have := nb7); intro nb7 | (fail_if_success have := nb8); intro nb8 | intro nbz) | (apply Yfr; refine Yf FR fun hFRb FR => ?_) | refine Two.mk ?_ ?_ | (apply Yxc; exact Yx) | refine Cs.mk fun hcs => Sm.out ?_ | go_step | omega | (simp only [maxLen_eq]; omega) | exact trivial
      have e1 := rgV_ne hA1 nb1 nb2
      have e2 := rgH_ne hA1 nb1 nb2
      have e3 : (A ++ Y).length = j * s + s := by rw [List.length_append, acl, rl]
      rw [e3] at e1
      exact ⟨⟨j + 1, nb1, nb2⟩, ⟨by simp only; omega, by simp only; omega, by simp only; omega⟩, by simp only; omega, Sub.of_env [] (by simp [ac2, e2]) (by simp [look, ac2, e1])⟩
  · obtain rfl : j = m := by omega
    have kj : decide ((j : Int) < (j : Int)) = false := by simp
    clear hrow cR
    have hA1 : (T.drop (f * s)).take (j * s) ≠ [] := fun h => by
      rw [h] at acl
      have h2 : 1 * 1 ≤ j * s := Nat.mul_le_mul hm (by omega)
      rw [← acl] at h2
      simp at h2
    obtain ⟨A, hA⟩ : ∃ A, A = (T.drop (f * s)).take (j * s) := ⟨_, rfl⟩
    rw [← hA] at acl hA1 ⊢
    rw [rgV_ne hA1, rgH_ne hA1]
    simp only [List.cons_append, List.nil_append]
    have ht : A.take (j * s) = A := List.take_of_length_le (by omega)
    first | (have FRx := FR; clear FRx) | have FR := fr0S
    have FA := Sm.mk (And.intro TFSlB kj)
    repeat' first | (apply Sm.mk; refine Ys ?_) | refine WP.seq fun K hK => ?_ | (apply Ob.mk; exact Yo) | refine And.intro (Ob.out ?_) ?_ | ((fail_if_success (show WP _ _ _ (.region 10 _ _) _ _)); refine Y1SlB ?_) | refine YzSlB ?_ | (refine WP.cond rfl (fun hc => ?_) (fun hc => ?_) <;> (try simp only [ZC, reduceCtorEq, ZD] at hc) <;> (try exact absurd hc (by decide)) <;> (try (exfalso; omega))) | refine Rt.mk (And.intro (fun hg => Sm.out ?_) fun hg => Sm.out ?_) | (refine Nu.mk ?_; first | (fail_if_success have := nb1); intro nb1 | (fail_if_success have := nb2); intro nb2 | (fail_if_success have := nb3); intro nb3 | (fail_if_success have := nb4); intro nb4 | (fail_if_success have := nb5); intro nb5 | (fail_if_success have := nb6); intro nb6 | (fail_if_success have := nb7); intro nb7 | (fail_if_success have := nb8); intro nb8 | intro nbz) | (apply Yfr; refine Yf FR fun hFRb FR => ?_) | refine Two.mk ?_ ?_ | (apply Yxc; exact Yx) | refine Cs.mk fun hcs => Sm.out ?_ | go_step | omega | (simp only [maxLen_eq]; omega) | exact trivial
    (refine WP.wk (Wk.freeze (x) (by simp only [ZK, rvc, capA, appA, litL, mkfv, drawF, headN, pureH, stp, dvc, calleeOf, gcall, pev, eff, newB, okd, og, ogs, ogo, ogp, slv, bltv, opd, litv, strip, one, both, putE, St.put, look, gdOf, gdv, picka, pickv, pickw, binv, bini, bins, binb, binp, binq, isSlT, bina, shp, eqCells, unv, convv, nilv, faddv, addp, idxav, idxp, load1, load1m, loadn, loadnm, loadv, hget, hset, hrep, hdel, slicev, slice3v, bnd, shift1, lenv, capv, IntKind.bits, extractv, fieldv, indexv, min2v, max2v, mkiv, tasv, tasz, cellsA, fillA, buildv, stC, oneC, rowMB, intsA, plN, appE, appZ, appC, appS, srcB, appNZ, appNC, VwL, srcC, srcZ, srcM, isBoolT, isPtrT, isSliceT, uOk, Value.oneCell', Nat.reducePow, Int.reducePow, Nat.reduceAdd, Nat.reduceMul, Nat.reduceSub, Nat.reduceLT, Nat.reduceLeDiff, Nat.reduceEqDiff, Nat.reduceBEq, Nat.reduceDiv, Nat.reduceMod, ↓reduceIte, reduceCtorEq, Int.reduceToNat, Int.reduceLT, Int.reduceLE, TFSlB, SeqQ, BlkQ, LoopQ, BodyQ, hk1, hk2, acl, ht, Nat.le_refl, FR.out]; first | done | rfl)) ?_; simp only [frzE, frz, ZK, rvc, capA, appA, litL, mkfv, drawF, headN, pureH, stp, dvc, calleeOf, gcall, pev, eff, newB, okd, og, ogs, ogo, ogp, slv, bltv, opd, litv, strip, one, both, putE, St.put, look, gdOf, gdv, picka, pickv, pickw, binv, bini, bins, binb, binp, binq, isSlT, bina, shp, eqCells, unv, convv, nilv, faddv, addp, idxav, idxp, load1, load1m, loadn, loadnm, loadv, hget, hset, hrep, hdel, slicev, slice3v, bnd, shift1, lenv, capv, IntKind.bits, extractv, fieldv, indexv, min2v, max2v, mkiv, tasv, tasz, cellsA, fillA, buildv, stC, oneC, rowMB, intsA, plN, appE, appZ, appC, appS, srcB, appNZ, appNC, VwL, srcC, srcZ, srcM, isBoolT, isPtrT, isSliceT, uOk, Value.oneCell', Nat.reducePow, Int.reducePow, Nat.reduceAdd, Nat.reduceMul, Nat.reduceSub, Nat.reduceLT, Nat.reduceLeDiff, Nat.reduceEqDiff, Nat.reduceBEq, Nat.reduceDiv, Nat.reduceMod, ↓reduceIte, reduceCtorEq, Int.reduceToNat, Int.reduceLT, Int.reduceLE, TFSlB, SeqQ, BlkQ, LoopQ, BodyQ, hk1, hk2, acl, ht, Nat.le_refl, FR.out])
    rw [hA, ← hRT]
    have rl := ub_len R
    have hRl : R.length ≤ j * s := by rw [hR, List.length_take]; omega
    by_cases hF : IsF R
    · have cO := open_yes R (by rw [hR, List.length_take]; omega) hF
      have eS : slF R par = slV (ub (bodyB R)) par := by unfold slF; rw [if_pos hF]
      have k00 : ((0 : Int) != 0) = false := rfl
      have cN := frontS (dH b a l) (new_cr (ub (bodyB R)))
      first | (have FRx := FR; clear FRx) | have FR := fr0S
      have FA := Sm.mk (And.intro TFSlB k00)
      repeat' first | (apply Sm.mk; refine Ys ?_) | refine WP.seq fun K hK => ?_ | (apply Ob.mk; exact Yo) | refine And.intro (Ob.out ?_) ?_ | ((fail_if_success (show WP _ _ _ (.region 14 _ _) _ _)); refine Y1SlB ?_) | (first | refine CallV.fn (cO) (Sm.out ?_) | refine ExF.mk (cO) (Sm.out ?_) | refine ExG.mk (fun _ => cO) (Sm.out ?_) | refine ExG.mkJ (fun _ => cO) (Sm.out ?_) | refine ExG.mkI (Ob.out ?_) (fun _ => cO) (Sm.out ?_)) | (refine CallV.exM (cN) (pmz _) (fun g => Sm.out ?_)) | refine YzSlB ?_ | (refine WP.cond rfl (fun hc => ?_) (fun hc => ?_) <;> (try simp only [ZC, reduceCtorEq, ZD] at hc) <;> (try exact absurd hc (by decide)) <;> (try (exfalso; omega))) | refine Rt.mk (And.intro (fun hg => Sm.out ?_) fun hg => Sm.out ?_) | (refine Nu.mk ?_; first | (fail_if_success have := nb1); intro nb1 | (fail_if_success have := nb2); intro nb2 | (fail_if_success have := nb3); intro nb3 | (fail_if_success have := nb4); intro nb4 | (fail_if_success have := nb5); intro nb5 | (fail_if_success have := nb6); intro nb6 | (fail_if_success have := nb7); intro nb7 | (fail_if_success have := nb8); intro nb8 | intro nbz) | (apply Yfr; refine Yf FR fun hFRb FR => ?_) | refine Two.mk ?_ ?_ | (apply Yxc; exact Yx) | refine Cs.mk fun hcs => Sm.out ?_ | go_step | omega | (simp only [maxLen_eq]; omega) | exact trivial
      try simp only [List.append_nil]
      obtain ⟨y, hy⟩ : ∃ y, y = g := ⟨_, rfl⟩
      rw [← hy]
      clear hy
      obtain ⟨D, hD⟩ : ∃ D, D = ub (bodyB R) := ⟨_, rfl⟩
      rw [← hD] at eS ⊢
      have hDb : By D := by rw [hD]; exact by_ub _
      have hDl : D.length ≤ 10000 := by rw [hD, ub_len]; unfold bodyB; rw [List.length_take, List.length_drop]; omega
      have cX := numX y D hDb hDl
      rcases hnF : nF D with _ | ⟨e, q⟩
      · have eV : slV D par = (0, []) := by unfold slV; rw [hnF]
        rw [hnF] at cX
        simp only [oE, rO] at cX
        have cB : ACt Try.prog 52 [pt y 0] [(y, rdN)] (fun r F' => r = bv true ∧ F' = [(y, rdN)]) := bad_e y true
        first | (have FRx := FR; clear FRx) | have FR := fr0S
        have FA := Sm.mk (TFSlB)
        repeat' first | (apply Sm.mk; refine Ys ?_) | refine WP.seq fun K hK => ?_ | (apply Ob.mk; exact Yo) | refine And.intro (Ob.out ?_) ?_ | refine Y1SlB ?_ | refine Yw1 (c := cX) (r := ?_) | refine Yl1 (c := cB) (r := ?_) | refine YzSlB ?_ | (refine WP.cond rfl (fun hc => ?_) (fun hc => ?_) <;> (try simp only [ZC, reduceCtorEq, ZD] at hc) <;> (try exact absurd hc (by decide)) <;> (try (exfalso; omega))) | refine Rt.mk (And.intro (fun hg => Sm.out ?_) fun hg => Sm.out ?_) | (refine Nu.mk ?_; first | (fail_if_success have := nb1); intro nb1 | (fail_if_success have := nb2); intro nb2 | (fail_if_success have := nb3); intro nb3 | (fail_if_success have := nb4); intro nb4 | (fail_if_success have := nb5); intro nb5 | (fail_if_success have := nb6); intro nb6 | (fail_if_success have := nb7); intro nb7 | (fail_if_success have := nb8); intro nb8 | intro nbz) | (apply Yfr; refine Yf FR fun hFRb FR => ?_) | refine Two.mk ?_ ?_ | (apply Yxc; exact Yx) | refine Cs.mk fun hcs => Sm.out ?_ | go_step | omega | (simp only [maxLen_eq]; omega) | exact trivial
        rw [eS, eV]
        (refine OutQ.wk (Wk.cons (i := 9) (by simp only [look, ↓reduceIte, Nat.reduceEqDiff]; first | done | rfl) (fun w I v h => Rep.nilz (k := .u8) h)) ?_)
        (refine OutQ.drop _ _ (pm1 _ _) (by simp only [resv, ZK, look, loadv, loadn, loadnm, load1, load1m, hget, ↓reduceIte, Nat.reduceEqDiff, Nat.reduceAdd, Nat.reduceMul, Nat.reduceLeDiff, Nat.reduceLT, reduceCtorEq, TFSlB, FR.out]) ⟨(by simp only [resv, resA, ZK, look, loadv, loadn, loadnm, load1, load1m, hget, ↓reduceIte, Nat.reduceEqDiff, Nat.reduceAdd, Nat.reduceMul, Nat.reduceLeDiff, Nat.reduceLT, reduceCtorEq, TFSlB, FR.out]; first | done | rfl), rfl⟩)
      · obtain ⟨b1, b2, b3, b4⟩ := nF_bd hDb hnF
        rw [hnF] at cX
        simp only [oE, rO] at cX
        have cB := badR y q false
        have cL := leftR y q
        have tm : Int.tmod (e : Int) 2 = ((e % 2 : Nat) : Int) := by rw [Int.tmod_eq_emod_of_nonneg (by omega)]; omega
        by_cases h0 : e = 0
        · have eV : slV D par = (0, []) := by unfold slV; rw [hnF]; simp only; rw [if_pos (.inl h0)]
          have kE : ((e : Int) == 0) = true := by rw [h0]; rfl
          first | (have FRx := FR; clear FRx) | have FR := fr0S
          have FA := Sm.mk (And.intro TFSlB (And.intro tm kE))
          repeat' first | (apply Sm.mk; refine Ys ?_) | refine WP.seq fun K hK => ?_ | (apply Ob.mk; exact Yo) | refine And.intro (Ob.out ?_) ?_ | refine Y1SlB ?_ | refine Yw1 (c := cX) (r := ?_) | refine Yl1 (c := cB) (r := ?_) | refine YzSlB ?_ | (refine WP.cond rfl (fun hc => ?_) (fun hc => ?_) <;> (try simp only [ZC, reduceCtorEq, ZD] at hc) <;> (try exact absurd hc (by decide)) <;> (try (exfalso; omega))) | refine Rt.mk (And.intro (fun hg => Sm.out ?_) fun hg => Sm.out ?_) | (refine Nu.mk ?_; first | (fail_if_success have := nb1); intro nb1 | (fail_if_success have := nb2); intro nb2 | (fail_if_success have := nb3); intro nb3 | (fail_if_success have := nb4); intro nb4 | (fail_if_success have := nb5); intro nb5 | (fail_if_success have := nb6); intro nb6 | (fail_if_success have := nb7); intro nb7 | (fail_if_success have := nb8); intro nb8 | intro nbz) | (apply Yfr; refine Yf FR fun hFRb FR => ?_) | refine Two.mk ?_ ?_ | (apply Yxc; exact Yx) | refine Cs.mk fun hcs => Sm.out ?_ | go_step | omega | (simp only [maxLen_eq]; omega) | exact trivial
          rw [eS, eV]
          (refine OutQ.wk (Wk.cons (i := 9) (by simp only [look, ↓reduceIte, Nat.reduceEqDiff]; first | done | rfl) (fun w I v h => Rep.nilz (k := .u8) h)) ?_)
          (refine OutQ.drop _ _ (pm1 _ _) (by simp only [resv, ZK, look, loadv, loadn, loadnm, load1, load1m, hget, ↓reduceIte, Nat.reduceEqDiff, Nat.reduceAdd, Nat.reduceMul, Nat.reduceLeDiff, Nat.reduceLT, reduceCtorEq, TFSlB, FR.out]) ⟨(by simp only [resv, resA, ZK, look, loadv, loadn, loadnm, load1, load1m, hget, ↓reduceIte, Nat.reduceEqDiff, Nat.reduceAdd, Nat.reduceMul, Nat.reduceLeDiff, Nat.reduceLT, reduceCtorEq, TFSlB, FR.out]; first | done | rfl), rfl⟩)
        have kE : ((e : Int) == 0) = false := beq_eq_false_iff_ne.2 (by omega)
        by_cases h2 : e % 2 = par
        · have eV : slV D par = (e, q) := by unfold slV; rw [hnF]; simp only; rw [if_neg (by omega)]
          have kP : (((e % 2 : Nat) : Int) != (par : Int)) = false := by rw [h2]; simp
          have wl : IntKind.i64.wrap ((D.length : Int) - (q.length : Int)) = ((D.length - q.length : Nat) : Int) := by rw [wrap_i64 (by omega) (by omega)]; omega
          have dt : D.take D.length = D := List.take_length
          have dq : D.drop (D.length - q.length) = q := b4.symm
          have dl : D.length - q.length ≤ D.length := Nat.sub_le _ _
          first | (have FRx := FR; clear FRx) | have FR := fr0S
          have FA := Sm.mk (And.intro TFSlB (And.intro tm (And.intro kE (And.intro kP (And.intro wl (And.intro dt (And.intro dq dl)))))))
          repeat' first | (apply Sm.mk; refine Ys ?_) | refine WP.seq fun K hK => ?_ | (apply Ob.mk; exact Yo) | refine And.intro (Ob.out ?_) ?_ | refine Y1SlB ?_ | refine Yw1 (c := cX) (r := ?_) | refine Yl1 (c := cB) (r := ?_) | refine Yl1 (c := cL) (r := ?_) | refine YzSlB ?_ | (refine WP.cond rfl (fun hc => ?_) (fun hc => ?_) <;> (try simp only [ZC, reduceCtorEq, ZD] at hc) <;> (try exact absurd hc (by decide)) <;> (try (exfalso; omega))) | refine Rt.mk (And.intro (fun hg => Sm.out ?_) fun hg => Sm.out ?_) | (refine Nu.mk ?_; first | (fail_if_success have := nb1); intro nb1 | (fail_if_success have := nb2); intro nb2 | (fail_if_success have := nb3); intro nb3 | (fail_if_success have := nb4); intro nb4 | (fail_if_success have := nb5); intro nb5 | (fail_if_success have := nb6); intro nb6 | (fail_if_success have := nb7); intro nb7 | (fail_if_success have := nb8); intro nb8 | intro nbz) | (apply Yfr; refine Yf FR fun hFRb FR => ?_) | refine Two.mk ?_ ?_ | (apply Yxc; exact Yx) | refine Cs.mk fun hcs => Sm.out ?_ | go_step | omega | (simp only [maxLen_eq]; omega) | exact trivial
          rw [eS, eV]
          (refine OutQ.drop _ _ (pm1 _ _) (by simp only [resv, ZK, look, loadv, loadn, loadnm, load1, load1m, hget, ↓reduceIte, Nat.reduceEqDiff, Nat.reduceAdd, Nat.reduceMul, Nat.reduceLeDiff, Nat.reduceLT, reduceCtorEq, TFSlB, FR.out]) ⟨(by simp only [resv, resA, ZK, look, loadv, loadn, loadnm, load1, load1m, hget, ↓reduceIte, Nat.reduceEqDiff, Nat.reduceAdd, Nat.reduceMul, Nat.reduceLeDiff, Nat.reduceLT, reduceCtorEq, TFSlB, FR.out]; first | done | rfl), rfl⟩)
        · have eV : slV D par = (0, []) := by unfold slV; rw [hnF]; simp only; rw [if_pos (.inr h2)]
          have kP : (((e % 2 : Nat) : Int) != (par : Int)) = true := by simp; omega
          first | (have FRx := FR; clear FRx) | have FR := fr0S
          have FA := Sm.mk (And.intro TFSlB (And.intro tm (And.intro kE kP)))
          repeat' first | (apply Sm.mk; refine Ys ?_) | refine WP.seq fun K hK => ?_ | (apply Ob.mk; exact Yo) | refine And.intro (Ob.out ?_) ?_ | refine Y1SlB ?_ | refine Yw1 (c := cX) (r := ?_) | refine Yl1 (c := cB) (r := ?_) | refine YzSlB ?_ | (refine WP.cond rfl (fun hc => ?_) (fun hc => ?_) <;> (try simp only [ZC, reduceCtorEq, ZD] at hc) <;> (try exact absurd hc (by decide)) <;> (try (exfalso; omega))) | refine Rt.mk (And.intro (fun hg => Sm.out ?_) fun hg => Sm.out ?_) | (refine Nu.mk ?_; first | (fail_if_success have := nb1); intro nb1 | (fail_if_success have := nb2); intro nb2 | (fail_if_success have := nb3); intro nb3 | (fail_if_success have := nb4); intro nb4 | (fail_if_success have := nb5); intro nb5 | (fail_if_success have := nb6); intro nb6 | (fail_if_success have := nb7); intro nb7 | (fail_if_success have := nb8); intro nb8 | intro nbz) | (apply Yfr; refine Yf FR fun hFRb FR => ?_) | refine Two.mk ?_ ?_ | (apply Yxc; exact Yx) | refine Cs.mk fun hcs => Sm.out ?_ | go_step | omega | (simp only [maxLen_eq]; omega) | exact trivial
          rw [eS, eV]
          (refine OutQ.wk (Wk.cons (i := 9) (by simp only [look, ↓reduceIte, Nat.reduceEqDiff]; first | done | rfl) (fun w I v h => Rep.nilz (k := .u8) h)) ?_)
          (refine OutQ.drop _ _ (pm1 _ _) (by simp only [resv, ZK, look, loadv, loadn, loadnm, load1, load1m, hget, ↓reduceIte, Nat.reduceEqDiff, Nat.reduceAdd, Nat.reduceMul, Nat.reduceLeDiff, Nat.reduceLT, reduceCtorEq, TFSlB, FR.out]) ⟨(by simp only [resv, resA, ZK, look, loadv, loadn, loadnm, load1, load1m, hget, ↓reduceIte, Nat.reduceEqDiff, Nat.reduceAdd, Nat.reduceMul, Nat.reduceLeDiff, Nat.reduceLT, reduceCtorEq, TFSlB, FR.out]; first | done | rfl), rfl⟩)
    · have cO := open_no R (by rw [hR, List.length_take]; omega) hF
      have eS : slF R par = (0, []) := by unfold slF; rw [if_neg hF]
      have y1 : ((10 : Int) != 0) = true := rfl
      first | (have FRx := FR; clear FRx) | have FR := fr0S
      have FA := Sm.mk (And.intro TFSlB y1)
      repeat' first | (apply Sm.mk; refine Ys ?_) | refine WP.seq fun K hK => ?_ | (apply Ob.mk; exact Yo) | refine And.intro (Ob.out ?_) ?_ | refine Y1SlB ?_ | refine Yc (c := cO) (r := ?_) | refine YzSlB ?_ | (refine WP.cond rfl (fun hc => ?_) (fun hc => ?_) <;> (try simp only [ZC, reduceCtorEq, ZD] at hc) <;> (try exact absurd hc (by decide)) <;> (try (exfalso; omega))) | refine Rt.mk (And.intro (fun hg => Sm.out ?_) fun hg => Sm.out ?_) | (refine Nu.mk ?_; first | (fail_if_success have := nb1); intro nb1 | (fail_if_success have := nb2); intro nb2 | (fail_if_success have := nb3); intro nb3 | (fail_if_success have := nb4); intro nb4 | (fail_if_success have := nb5); intro nb5 | (fail_if_success have := nb6); intro nb6 | (fail_if_success have := nb7); intro nb7 | (fail_if_success have := nb8); intro nb8 | intro nbz) | (apply Yfr; refine Yf FR fun hFRb FR => ?_) | refine Two.mk ?_ ?_ | (apply Yxc; exact Yx) | refine Cs.mk fun hcs => Sm.out ?_ | go_step | omega | (simp only [maxLen_eq]; omega) | exact trivial
      rw [eS]
      (refine OutQ.wk (Wk.cons (i := 9) (by simp only [look, ↓reduceIte, Nat.reduceEqDiff]; first | done | rfl) (fun w I v h => Rep.nilz (k := .u8) h)) ?_)
      (refine OutQ.drop _ _ (pmz _) (by simp only [resv, ZK, look, loadv, loadn, loadnm, load1, load1m, hget, ↓reduceIte, Nat.reduceEqDiff, Nat.reduceAdd, Nat.reduceMul, Nat.reduceLeDiff, Nat.reduceLT, reduceCtorEq, TFSlB, FR.out]) ⟨(by simp only [resv, resA, ZK, look, loadv, loadn, loadnm, load1, load1m, hget, ↓reduceIte, Nat.reduceEqDiff, Nat.reduceAdd, Nat.reduceMul, Nat.reduceLeDiff, Nat.reduceLT, reduceCtorEq, TFSlB, FR.out]; first | done | rfl), rfl⟩)
def TFSlC :=
  And.intro (And.intro (And.intro (And.intro (And.intro tyc0 (And.intro tyc3 zmb3)) (And.intro tyc4 (And.intro zmb4 tyc5))) (And.intro (And.intro zmb5 (And.intro tyc25 mth25_45)) (And.intro (And.intro mth25_44 mth25_43) (And.intro con25 zmb25)))) (And.intro (And.intro (And.intro tyc28 (And.intro zmb28 tyc30)) (And.intro (And.intro mth30_37 con30) (And.intro zmb30 tyc35))) (And.intro (And.intro zmb35 (And.intro tyc36 elt36)) (And.intro (And.intro mkz36 apT36) (And.intro elk36 zmb36))))) (And.intro (And.intro (And.intro (And.intro tyc65 (And.intro foff65_0 fpart65_0)) (And.intro foff65_1 (And.intro fpart65_1 foff65_2))) (And.intro (And.intro fpart65_2 (And.intro foff65_3 fpart65_3)) (And.intro (And.intro foff65_4 fpart65_4) (And.intro foff65_5 fpart65_5)))) (And.intro (And.intro (And.intro zmb65 (And.intro bldT65 tyc66)) (And.intro (And.intro Try.underlying0 Try.underlying3) (And.intro Try.underlying4 Try.underlying5))) (And.intro (And.intro Try.underlying25 (And.intro Try.underlying28 Try.underlying30)) (And.intro (And.intro Try.underlying35 Try.underlying36) (And.intro Try.underlying65 Try.underlying66)))))
theorem Y1SlC {G R : Prop} (r : R) (h : R → G := by intro r; first | (apply WP.region; exact rvc_sound _ _ (Sm.out r)) | exact WP.drawK rfl mixed (by decide +kernel) (Sm.out r) | (apply WP.block; exact r) | (apply WP.skip; exact Yq r) | (apply WP.exit; exact Yq r) | (apply WP.ret; exact Sm.out r) | exact WP.cond rfl (fun _ => r) (fun hg => absurd hg (by decide)) | exact WP.cond rfl (fun hg => absurd hg (by decide)) (fun _ => r) | exact Rt.mk (And.intro (fun _ => Sm.out r) fun hg => absurd hg (by decide)) | exact Rt.mk (And.intro (fun hg => absurd hg (by decide)) fun _ => Sm.out r)) : G := h r
theorem YzSlC {G R : Prop} (r : R) (h : R → G := by intro r; first | (apply ExG.no; exact Sm.out r) | (apply Or.inl; apply ExG.no; exact Sm.out r) | exact Or.inl (And.intro (fun hg => absurd hg (by decide)) (ExG.no (Sm.out r)))) : G := h r
set_option maxRecDepth 20000 in
theorem slmay_ct (b : Nat) (a : DA) (l : DL) (f m : Nat) (hn : a.n ≤ 400) (h : f + 2 * m ≤ a.n) (hm : 1 ≤ m) (hk : a.dk = false) : ACt Try.prog 32 [pt b 0, iv .i64 (f : Int), iv .i64 (m : Int)] (dH b a l) (fun r F' => r = iv .i64 0 ∧ F' = dH b a l) := by
  have cB := blocks_d b a l
  have cD := dark_d b a l
  rw [hk] at cD
  have k1 : decide ((f : Int) < 0) = false := decide_eq_false (by omega)
  have k2 : decide ((m : Int) < 1) = false := decide_eq_false (by omega)
  have k3 : decide ((f : Int) > (a.n : Int)) = false := decide_eq_false (by omega)
  have w1 : IntKind.i64.wrap ((a.n : Int) - (f : Int)) = ((a.n - f : Nat) : Int) := by rw [wrap_i64 (by omega) (by omega)]; omega
  have d1 : Int.tdiv ((a.n - f : Nat) : Int) 2 = (((a.n - f) / 2 : Nat) : Int) := by rw [Int.tdiv_eq_ediv_of_nonneg (by omega)]; omega
  have w2 : IntKind.i64.wrap (((a.n - f) / 2 : Nat) : Int) = (((a.n - f) / 2 : Nat) : Int) := wrap_i64 (by omega) (by omega)
  have k4 : decide ((m : Int) > (((a.n - f) / 2 : Nat) : Int)) = false := decide_eq_false (by omega)
  refine ACt.intro Try.func32 rfl (by kernel_rfl) (by simp [Try.ntmps32]) (fun cx => ?_)
  simp only [argE, Try.ntmps32, Try.results32]
  first | (have FRx := FR; clear FRx) | have FR := fr0S
  have FA := Sm.mk (And.intro TFSlC (And.intro k1 (And.intro k2 (And.intro k3 (And.intro k4 (And.intro w1 (And.intro w2 d1)))))))
  repeat' first | (apply Sm.mk; refine Ys ?_) | refine WP.seq fun K hK => ?_ | (apply Ob.mk; exact Yo) | refine And.intro (Ob.out ?_) ?_ | refine Y1SlC ?_ | refine CallV.updM (cB) (pmz _) (Sm.out ?_) | ((first | refine ExF.up ?_ (cB) (Sm.out ?_) | refine ExG.up ?_ (fun _ => cB) (Sm.out ?_) | refine ExG.upJ ?_ (fun _ => cB) (Sm.out ?_) | refine ExG.upI ?_ (fun _ => cB) (Ob.out ?_) (Sm.out ?_)); focus (exact ⟨_, (pmz _)⟩)) | refine CallV.updM (cD) (pmz _) (Sm.out ?_) | ((first | refine ExF.up ?_ (cD) (Sm.out ?_) | refine ExG.up ?_ (fun _ => cD) (Sm.out ?_) | refine ExG.upJ ?_ (fun _ => cD) (Sm.out ?_) | refine ExG.upI ?_ (fun _ => cD) (Ob.out ?_) (Sm.out ?_)); focus (exact ⟨_, (pmz _)⟩)) | refine YzSlC ?_ | (refine WP.cond rfl (fun hc => ?_) (fun hc => ?_) <;> (try simp only [ZC, reduceCtorEq, ZD] at hc) <;> (try exact absurd hc (by decide)) <;> (try (exfalso; omega))) | refine Rt.mk (And.intro (fun hg => Sm.out ?_) fun hg => Sm.out ?_) | (refine Nu.mk ?_; first | (fail_if_success have := nb1); intro nb1 | (fail_if_success have := nb2); intro nb2 | (fail_if_success have := nb3); intro nb3 | (fail_if_success have := nb4); intro nb4 | (fail_if_success have := nb5); intro nb5 | (fail_if_success have := nb6); intro nb6 | (fail_if_success have := nb7); intro nb7 | (fail_if_success have := nb8); intro nb8 | intro nbz) | (apply Yfr; refine Yf FR fun hFRb FR => ?_) | refine Two.mk ?_ ?_ | (apply Yxc; exact Yx) | refine Cs.mk fun hcs => Sm.out ?_ | go_step | omega | (simp only [maxLen_eq]; omega) | exact trivial
  (refine OutQ.drop _ _ (pmz _) (by simp only [resv, ZK, look, loadv, loadn, loadnm, load1, load1m, hget, ↓reduceIte, Nat.reduceEqDiff, Nat.reduceAdd, Nat.reduceMul, Nat.reduceLeDiff, Nat.reduceLT, reduceCtorEq, TFSlC, FR.out]) ⟨(by simp only [resv, resA, ZK, look, loadv, loadn, loadnm, load1, load1m, hget, ↓reduceIte, Nat.reduceEqDiff, Nat.reduceAdd, Nat.reduceMul, Nat.reduceLeDiff, Nat.reduceLT, reduceCtorEq, TFSlC, FR.out]; first | done | rfl), rfl⟩)
def slN (A B : Nat × List Int) : Nat × List Int := if A.1 < B.1 then B else A
end Go.Proofs.Yteoajodoejoccaa
