/-
  The walks and the laws that the statement leans on, part 21.
-/
import Derived.Test.YtfknbndmabogjaaDoorE10
import Derived.Test.YtfknbndmabogjaaDoorE19
namespace Go.Proofs.YtfknbndmabogjaaDoor
open Go
set_option linter.unusedVariables false
set_option linter.unusedSimpArgs false
set_option linter.defProp false
def TFOuI :=
  And.intro (And.intro (And.intro (And.intro (And.intro tyc0 (And.intro tyc3 zmb3)) (And.intro (And.intro tyc4 zmb4) (And.intro tyc24 elt24))) (And.intro (And.intro mkz24 (And.intro mkc24 apT24)) (And.intro (And.intro elk24 zmb24) (And.intro tyc25 zmb25)))) (And.intro (And.intro (And.intro tyc27 (And.intro foff27_0 fpart27_0)) (And.intro (And.intro foff27_1 fpart27_1) (And.intro zmb27 bldT27))) (And.intro (And.intro tyc29 (And.intro foff29_0 fpart29_0)) (And.intro (And.intro foff29_1 fpart29_1) (And.intro foff29_2 fpart29_2))))) (And.intro (And.intro (And.intro (And.intro foff29_3 (And.intro fpart29_3 foff29_4)) (And.intro (And.intro fpart29_4 fe29) (And.intro zmb29 bldT29))) (And.intro (And.intro tyc38 (And.intro foff38_0 fpart38_0)) (And.intro (And.intro foff38_1 fpart38_1) (And.intro foff38_2 fpart38_2)))) (And.intro (And.intro (And.intro foff38_3 (And.intro fpart38_3 foff38_4)) (And.intro (And.intro fpart38_4 zmb38) (And.intro bldT38 Tryd.underlying0))) (And.intro (And.intro Tryd.underlying3 (And.intro Tryd.underlying4 Tryd.underlying24)) (And.intro (And.intro Tryd.underlying25 Tryd.underlying27) (And.intro Tryd.underlying29 Tryd.underlying38)))))
theorem Y1OuI {G R : Prop} (r : R) (h : R → G := by intro r; first | (apply WP.region; exact rvc_sound _ _ (Sm.out r)) | exact WP.drawK rfl mixed (by decide +kernel) (Sm.out r) | (apply WP.block; exact r) | (apply WP.skip; exact Yq r) | (apply WP.exit; exact Yq r) | (apply WP.ret; exact Sm.out r) | exact WP.cond rfl (fun _ => r) (fun hg => absurd hg (by decide)) | exact WP.cond rfl (fun hg => absurd hg (by decide)) (fun _ => r) | exact Rt.mk (And.intro (fun _ => Sm.out r) fun hg => absurd hg (by decide)) | exact Rt.mk (And.intro (fun hg => absurd hg (by decide)) fun _ => Sm.out r)) : G := h r
theorem YzOuI {G R : Prop} (r : R) (h : R → G := by intro r; first | (apply ExG.no; exact Sm.out r) | (apply Or.inl; apply ExG.no; exact Sm.out r) | exact Or.inl (And.intro (fun hg => absurd hg (by decide)) (ExG.no (Sm.out r)))) : G := h r
theorem YsOuI0 {P Q : Prop} (q : Q) (h : P = Q := by (try (conv => lhs; simp -dsimp only [ZK, rvc, capA, appA, litL, mkfv, drawF, headN, pureH, stp, dvc, calleeOf, gcall, pev, eff, newB, okd, og, ogs, ogo, ogp, slv, bltv, opd, litv, strip, one, both, putE, St.put, look, gdOf, gdv, picka, pickv, pickw, binv, bini, bins, binb, binp, binq, isSlT, bina, shp, eqCells, unv, convv, nilv, faddv, addp, idxav, idxp, load1, load1m, loadn, loadnm, loadv, hget, hset, hrep, hdel, slicev, slice3v, bnd, shift1, lenv, capv, IntKind.bits, extractv, fieldv, indexv, min2v, max2v, mkiv, tasv, tasz, cellsA, fillA, buildv, stC, oneC, rowMB, intsA, plN, appE, appZ, appC, appS, srcB, appNZ, appNC, VwL, srcC, srcZ, srcM, isBoolT, isPtrT, isSliceT, uOk, Value.oneCell', Nat.reducePow, Int.reducePow, Nat.reduceAdd, Nat.reduceMul, Nat.reduceSub, Nat.reduceLT, Nat.reduceLeDiff, Nat.reduceEqDiff, Nat.reduceBEq, Nat.reduceDiv, Nat.reduceMod, ↓reduceIte, reduceCtorEq, Int.reduceToNat, Int.reduceLT, Int.reduceLE, TFOuI, SeqQ, BlkQ, LoopQ, BodyQ, Bool.not_not, FA.out, FR.out])) <;> exact rfl) : P := h.mpr q
theorem YsOuI1 {P Q : Prop} (q : Q) (h : P = Q := by (try (conv => lhs; simp -dsimp only [ZK, rvc, capA, appA, litL, mkfv, drawF, headN, pureH, stp, dvc, calleeOf, gcall, pev, eff, newB, okd, og, ogs, ogo, ogp, slv, bltv, opd, litv, strip, one, both, putE, St.put, look, gdOf, gdv, picka, pickv, pickw, binv, bini, bins, binb, binp, binq, isSlT, bina, shp, eqCells, unv, convv, nilv, faddv, addp, idxav, idxp, load1, load1m, loadn, loadnm, loadv, hget, hset, hrep, hdel, slicev, slice3v, bnd, shift1, lenv, capv, IntKind.bits, extractv, fieldv, indexv, min2v, max2v, mkiv, tasv, tasz, cellsA, fillA, buildv, stC, oneC, rowMB, intsA, plN, appE, appZ, appC, appS, srcB, appNZ, appNC, VwL, srcC, srcZ, srcM, isBoolT, isPtrT, isSliceT, uOk, Value.oneCell', Nat.reducePow, Int.reducePow, Nat.reduceAdd, Nat.reduceMul, Nat.reduceSub, Nat.reduceLT, Nat.reduceLeDiff, Nat.reduceEqDiff, Nat.reduceBEq, Nat.reduceDiv, Nat.reduceMod, ↓reduceIte, reduceCtorEq, Int.reduceToNat, Int.reduceLT, Int.reduceLE, TFOuI, SeqQ, BlkQ, LoopQ, BodyQ, hin, FA.out, FR.out])) <;> exact rfl) : P := h.mpr q
noncomputable def sameX (a b : Bx) : Bool := @decide (a = b) (Classical.propDecidable _)
theorem sameX_t {a b : Bx} (h : a = b) : sameX a b = true := by unfold sameX; exact @decide_eq_true _ (Classical.propDecidable _) h
theorem sameX_f {a b : Bx} (h : a ≠ b) : sameX a b = false := by unfold sameX; exact @decide_eq_false _ (Classical.propDecidable _) h
set_option maxRecDepth 8000 in
theorem bsame_ct (a b : Bx) (n m : Nat) (hn : a.l.length = n) (hm : b.l.length = m) (hl : n ≤ 100000) : ACt Tryd.prog 15 [.agg [.sl n (ecs a.l), iv .u64 a.d], .agg [.sl m (ecs b.l), iv .u64 b.d]] [] (Fn (bv (sameX a b))) := by
  have hCl := ecs_len a.l
  have hdr := ecs_drop a.l
  have hDl := ecs_len b.l
  have hds := ecs_drop b.l
  obtain ⟨R, hR⟩ : ∃ R, R = sameX a b := ⟨_, rfl⟩
  rw [← hR]
  obtain ⟨l, d⟩ := a
  obtain ⟨l', d'⟩ := b
  simp only at hn hm hCl hdr hDl hds ⊢
  rw [hn] at hCl
  rw [hm] at hDl
  obtain ⟨C, hC⟩ : ∃ C, C = ecs l := ⟨_, rfl⟩
  rw [← hC] at hCl hdr ⊢
  obtain ⟨D, hD⟩ : ∃ D, D = ecs l' := ⟨_, rfl⟩
  rw [← hD] at hDl hds ⊢
  clear hC hD
  have hf := fe38
  by_cases hnm : n = m ∧ d = d'
  case neg =>
    have e : R = false := by
      rw [hR]
      exact sameX_f fun h => hnm (by
        injection h with h1 h2
        exact ⟨by rw [← hn, ← hm, h1], h2⟩)
    obtain ⟨x, hx⟩ : ∃ x, ((n : Int) != (m : Int)) = x := ⟨_, rfl⟩
    obtain ⟨y, hy⟩ : ∃ y, (d != d') = y := ⟨_, rfl⟩
    have k0 : (x || y) = true := by
      rw [← hx, ← hy]
      simp only [Bool.or_eq_true, bne_iff_ne, ne_eq]
      by_cases h : n = m
      · right; exact fun h2 => hnm ⟨h, h2⟩
      · left; omega
    have hx2 : ((n : Int) == (m : Int)) = !x := by rw [← hx]; simp [bne]
    have hy2 : (d == d') = !y := by rw [← hy]; simp [bne]
    refine ACt.intro Tryd.func15 rfl (by kernel_rfl) (by simp [Tryd.ntmps15]) (fun cx => ?_)
    simp only [argE, Tryd.ntmps15, Tryd.results15]
    first | (have FRx := FR; clear FRx) | have FR := fr0S
    have FA := Sm.mk (And.intro TFOuI (And.intro hx (And.intro hy (And.intro hx2 (And.intro hy2 k0)))))
    repeat' first | (apply Sm.mk; refine YsOuI0 ?_) | refine WP.seq fun K hK => ?_ | (apply Ob.mk; exact Yo) | refine And.intro (Ob.out ?_) ?_ | refine Y1OuI ?_ | refine YzOuI ?_ | (refine WP.cond rfl (fun hc => ?_) (fun hc => ?_) <;> (try simp only [ZC, reduceCtorEq, ZD] at hc) <;> (try exact absurd hc (by decide)) <;> (try (exfalso; omega))) | refine Rt.mk (And.intro (fun hg => Sm.out ?_) fun hg => Sm.out ?_) | (refine Nu.mk ?_; first | (fail_if_success have := nb1); intro nb1 | (fail_if_success have := nb2); intro nb2 | (fail_if_success have := nb3); intro nb3 | (fail_if_success have := nb4); intro nb4 | (fail_if_success have := nb5); intro nb5 | (fail_if_success have := nb6); intro nb6 | intro nbz) | (apply Yfr; refine Yf FR fun hFRb FR => ?_) | refine Two.mk ?_ ?_ | (apply Yxc; exact Yx) | refine Cs.mk fun hcs => Sm.out ?_ | go_step | omega | (simp only [maxLen_eq]; omega) | exact trivial
    (have FA := Sm.mk (And.intro e FA.out); refine Yg ?_; try exact trivial)
  obtain ⟨rfl, rfl⟩ := hnm
  have k0 : ((n : Int) != (n : Int)) = false := by simp
  have k1 : (d != d) = false := by simp
  refine ACt.intro Tryd.func15 rfl (by kernel_rfl) (by simp [Tryd.ntmps15]) (fun cx => ?_)
  simp only [argE, Tryd.ntmps15, Tryd.results15]
  first | (have FRx := FR; clear FRx) | have FR := fr0S
  have FA := Sm.mk (And.intro TFOuI (And.intro k0 k1))
  repeat' first | (apply Sm.mk; refine Ys ?_) | refine WP.seq fun K hK => ?_ | (apply Ob.mk; exact Yo) | refine And.intro (Ob.out ?_) ?_ | refine Y1OuI ?_ | refine YzOuI ?_ | (refine WP.cond rfl (fun hc => ?_) (fun hc => ?_) <;> (try simp only [ZC, reduceCtorEq, ZD] at hc) <;> (try exact absurd hc (by decide)) <;> (try (exfalso; omega))) | refine Rt.mk (And.intro (fun hg => Sm.out ?_) fun hg => Sm.out ?_) | (refine Nu.mk ?_; first | (fail_if_success have := nb1); intro nb1 | (fail_if_success have := nb2); intro nb2 | (fail_if_success have := nb3); intro nb3 | (fail_if_success have := nb4); intro nb4 | (fail_if_success have := nb5); intro nb5 | (fail_if_success have := nb6); intro nb6 | intro nbz) | (apply Yfr; refine Yf FR fun hFRb FR => ?_) | refine Two.mk ?_ ?_ | (apply Yxc; exact Yx) | refine Cs.mk fun hcs => Sm.out ?_ | go_step | omega | (simp only [maxLen_eq]; omega) | exact trivial
  refine WP.loop (Γ := Nat) (fun i => ⟨[(5, iv .i64 (i : Int)), (3, pt nb2 0), (2, pt nb1 0)], [(nb2, .cells [.sl n D, iv .u64 d] 2 27), (nb1, .cells [.sl n C, iv .u64 d] 2 27)]⟩) (fun i => i ≤ n ∧ ∀ q (h : q < l.length) (h' : q < l'.length), q < i → l[q] = l'[q]) (fun i => n - i) 0 ⟨Nat.zero_le _, fun q _ _ h => absurd h (Nat.not_lt_zero _)⟩ (Sub.pick (by simp [pickB, hget, hdel, FR.out]) (by simp [look])) ?_
  intro i ⟨hi, hok⟩
  have hne : nb2 ≠ nb1 ∧ nb1 ≠ nb2 := by simp [FR.out]
  have FR : Sm (¬ ((1 : Nat) = 0)) := Sm.mk Nat.one_ne_zero
  by_cases hin : i < n
  · have ki : decide ((i : Int) < (n : Int)) = true := decide_eq_true (by omega)
    have s1 : IntKind.i64.wrap ((i : Int) + 1) = ((i + 1 : Nat) : Int) := by rw [wrap_i64 (by omega) (by omega)]; omega
    have hd1 := hdr i (by omega)
    have hd2 := hds i (by omega)
    obtain ⟨x, hx⟩ : ∃ x, x = l[i]'(by omega) := ⟨_, rfl⟩
    obtain ⟨y, hy⟩ : ∃ y, y = l'[i]'(by omega) := ⟨_, rfl⟩
    rw [← hx] at hd1
    rw [← hy] at hd2
    have q1 : (i + 1) * 9 ≤ C.length := by omega
    have q2 : (i + 1) * 9 ≤ D.length := by omega
    obtain ⟨v, hv⟩ : ∃ v, eeqB x y = v := ⟨_, rfl⟩
    have hvi := eeqB_iff x y
    rw [hv] at hvi
    unfold eeqB at hv
    first | (have FRx := FR; clear FRx) | have FR := fr0S
    have FA := Sm.mk (And.intro TFOuI (And.intro ki (And.intro hd1 (And.intro hd2 (And.intro q1 (And.intro q2 (And.intro s1 (And.intro hf (And.intro hv hne)))))))))
    repeat' first | (apply Sm.mk; refine YsOuI1 ?_) | refine WP.seq fun K hK => ?_ | (apply Ob.mk; exact Yo) | refine And.intro (Ob.out ?_) ?_ | refine Y1OuI ?_ | refine YzOuI ?_ | (refine WP.cond rfl (fun hc => ?_) (fun hc => ?_) <;> (try simp only [ZC, reduceCtorEq, ZD] at hc) <;> (try exact absurd hc (by decide)) <;> (try (exfalso; omega))) | refine Rt.mk (And.intro (fun hg => Sm.out ?_) fun hg => Sm.out ?_) | (refine Nu.mk ?_; first | (fail_if_success have := nb1); intro nb1 | (fail_if_success have := nb2); intro nb2 | (fail_if_success have := nb3); intro nb3 | (fail_if_success have := nb4); intro nb4 | (fail_if_success have := nb5); intro nb5 | (fail_if_success have := nb6); intro nb6 | intro nbz) | (apply Yfr; refine Yf FR fun hFRb FR => ?_) | refine Two.mk ?_ ?_ | (apply Yxc; exact Yx) | refine Cs.mk fun hcs => Sm.out ?_ | go_step | omega | (simp only [maxLen_eq]; omega) | exact trivial
    · have e : R = false := by
        rw [hR]
        refine sameX_f fun h => ?_
        injection h with h1 h2
        subst h1
        have := hvi.2 (by rw [hx, hy])
        rw [hc] at this; cases this
      (have FA := Sm.mk (And.intro e FA.out); refine Yg ?_; try exact trivial)
    · exact ⟨i + 1, ⟨by omega, fun q hq hq' h => by
        by_cases e : q = i
        · subst e; rw [← hx, ← hy]; exact hvi.1 hc
        · exact hok q hq hq' (by omega)⟩, by omega, (Sub.pick (by simp [pickB, hget, hdel, FR.out, hne]) (by simp [look, hne]))⟩
  · have ki : decide ((i : Int) < (n : Int)) = false := decide_eq_false (by omega)
    have e : R = true := by
      rw [hR]
      refine sameX_t ?_
      congr 1
      exact List.ext_getElem (by omega) fun q h1 h2 => hok q h1 h2 (by omega)
    first | (have FRx := FR; clear FRx) | have FR := fr0S
    have FA := Sm.mk (And.intro TFOuI (And.intro ki hne))
    repeat' first | (apply Sm.mk; refine Ys ?_) | refine WP.seq fun K hK => ?_ | (apply Ob.mk; exact Yo) | refine And.intro (Ob.out ?_) ?_ | refine Y1OuI ?_ | refine YzOuI ?_ | (refine WP.cond rfl (fun hc => ?_) (fun hc => ?_) <;> (try simp only [ZC, reduceCtorEq, ZD] at hc) <;> (try exact absurd hc (by decide)) <;> (try (exfalso; omega))) | refine Rt.mk (And.intro (fun hg => Sm.out ?_) fun hg => Sm.out ?_) | (refine Nu.mk ?_; first | (fail_if_success have := nb1); intro nb1 | (fail_if_success have := nb2); intro nb2 | (fail_if_success have := nb3); intro nb3 | (fail_if_success have := nb4); intro nb4 | (fail_if_success have := nb5); intro nb5 | (fail_if_success have := nb6); intro nb6 | intro nbz) | (apply Yfr; refine Yf FR fun hFRb FR => ?_) | refine Two.mk ?_ ?_ | (apply Yxc; exact Yx) | refine Cs.mk fun hcs => Sm.out ?_ | go_step | omega | (simp only [maxLen_eq]; omega) | exact trivial
    (have FA := Sm.mk (And.intro e FA.out); refine Yg ?_; try exact trivial)
def hbB (b : Bx) : Bool := decide (80 < b.l.length) || b.l.any fun e => hvB e.k
theorem bheavy_ct (b : Bx) (n : Nat) (hn : b.l.length = n) : ACt Tryd.prog 9 [.agg [.sl n (ecs b.l), iv .u64 b.d]] [] (Fn (bv (hbB b))) := by
  have hCl := ecs_len b.l
  have hdr := ecs_drop b.l
  obtain ⟨R, hR⟩ : ∃ R, R = hbB b := ⟨_, rfl⟩
  rw [← hR]
  unfold hbB at hR
  obtain ⟨l, d⟩ := b
  simp only at hn hCl hdr hR ⊢
  rw [hn] at hCl hR
  obtain ⟨C, hC⟩ : ∃ C, C = ecs l := ⟨_, rfl⟩
  rw [← hC] at hCl hdr ⊢
  clear hC
  by_cases hb : 80 < n
  · have k0 : decide ((n : Int) > 80) = true := decide_eq_true (by omega)
    have e : R = true := by rw [hR, decide_eq_true hb]; rfl
    refine ACt.intro Tryd.func9 rfl (by kernel_rfl) (by simp [Tryd.ntmps9]) (fun cx => ?_)
    simp only [argE, Tryd.ntmps9, Tryd.results9]
    first | (have FRx := FR; clear FRx) | have FR := fr0S
    have FA := Sm.mk (And.intro TFOuI k0)
    repeat' first | (apply Sm.mk; refine Ys ?_) | refine WP.seq fun K hK => ?_ | (apply Ob.mk; exact Yo) | refine And.intro (Ob.out ?_) ?_ | refine Y1OuI ?_ | refine YzOuI ?_ | (refine WP.cond rfl (fun hc => ?_) (fun hc => ?_) <;> (try simp only [ZC, reduceCtorEq, ZD] at hc) <;> (try exact absurd hc (by decide)) <;> (try (exfalso; omega))) | refine Rt.mk (And.intro (fun hg => Sm.out ?_) fun hg => Sm.out ?_) | (refine Nu.mk ?_; first | (fail_if_success have := nb1); intro nb1 | (fail_if_success have := nb2); intro nb2 | (fail_if_success have := nb3); intro nb3 | (fail_if_success have := nb4); intro nb4 | (fail_if_success have := nb5); intro nb5 | (fail_if_success have := nb6); intro nb6 | intro nbz) | (apply Yfr; refine Yf FR fun hFRb FR => ?_) | refine Two.mk ?_ ?_ | (apply Yxc; exact Yx) | refine Cs.mk fun hcs => Sm.out ?_ | go_step | omega | (simp only [maxLen_eq]; omega) | exact trivial
    (have FA := Sm.mk (And.intro e FA.out); refine Yg ?_; try exact trivial)
  have k0 : decide ((n : Int) > 80) = false := decide_eq_false (by omega)
  rw [decide_eq_false hb, Bool.false_or] at hR
  refine ACt.intro Tryd.func9 rfl (by kernel_rfl) (by simp [Tryd.ntmps9]) (fun cx => ?_)
  simp only [argE, Tryd.ntmps9, Tryd.results9]
  first | (have FRx := FR; clear FRx) | have FR := fr0S
  have FA := Sm.mk (And.intro TFOuI k0)
  repeat' first | (apply Sm.mk; refine Ys ?_) | refine WP.seq fun K hK => ?_ | (apply Ob.mk; exact Yo) | refine And.intro (Ob.out ?_) ?_ | refine Y1OuI ?_ | refine YzOuI ?_ | (refine WP.cond rfl (fun hc => ?_) (fun hc => ?_) <;> (try simp only [ZC, reduceCtorEq, ZD] at hc) <;> (try exact absurd hc (by decide)) <;> (try (exfalso; omega))) | refine Rt.mk (And.intro (fun hg => Sm.out ?_) fun hg => Sm.out ?_) | (refine Nu.mk ?_; first | (fail_if_success have := nb1); intro nb1 | (fail_if_success have := nb2); intro nb2 | (fail_if_success have := nb3); intro nb3 | (fail_if_success have := nb4); intro nb4 | (fail_if_success have := nb5); intro nb5 | (fail_if_success have := nb6); intro nb6 | intro nbz) | (apply Yfr; refine Yf FR fun hFRb FR => ?_) | refine Two.mk ?_ ?_ | (apply Yxc; exact Yx) | refine Cs.mk fun hcs => Sm.out ?_ | go_step | omega | (simp only [maxLen_eq]; omega) | exact trivial
  refine WP.loop (Γ := Nat) (fun i => ⟨[(3, iv .i64 (i : Int)), (1, pt nb1 0)], [(nb1, .cells [.sl n C, iv .u64 d] 2 27)]⟩) (fun i => i ≤ n ∧ R = (l.drop i).any fun e => hvB e.k) (fun i => n - i) 0 ⟨Nat.zero_le _, by rw [List.drop_zero]; exact hR⟩ (Sub.pick (by simp [pickB, hget, hdel, FR.out]) (by simp [look])) ?_
  intro i ⟨hi, hr⟩
  have FR : Sm (¬ ((1 : Nat) = 0)) := Sm.mk Nat.one_ne_zero
  by_cases hin : i < n
  · have ki : decide ((i : Int) < (n : Int)) = true := decide_eq_true (by omega)
    have s1 : IntKind.i64.wrap ((i : Int) + 1) = ((i + 1 : Nat) : Int) := by rw [wrap_i64 (by omega) (by omega)]; omega
    have hd := hdr i (by omega)
    rw [List.drop_eq_getElem_cons (show i < l.length by omega), List.any_cons] at hr
    obtain ⟨x, hx⟩ : ∃ x, x = l[i]'(by omega) := ⟨_, rfl⟩
    rw [← hx] at hd hr
    have cH := heavy_ct x.k
    obtain ⟨v, hv⟩ : ∃ v, hvB x.k = v := ⟨_, rfl⟩
    rw [hv] at cH hr
    have q1 : (i + 1) * 9 ≤ C.length := by omega
    obtain ⟨⟨kg, kr, kp, ke, ks⟩, eb, en, et, ea⟩ := x
    simp only at hd cH
    first | (have FRx := FR; clear FRx) | have FR := fr0S
    have FA := Sm.mk (And.intro TFOuI (And.intro ki (And.intro hd (And.intro q1 s1))))
    repeat' first | (apply Sm.mk; refine YsOuI1 ?_) | refine WP.seq fun K hK => ?_ | (apply Ob.mk; exact Yo) | refine And.intro (Ob.out ?_) ?_ | refine Y1OuI ?_ | refine Yc (c := cH) (r := ?_) | refine YzOuI ?_ | (refine WP.cond rfl (fun hc => ?_) (fun hc => ?_) <;> (try simp only [ZC, reduceCtorEq, ZD] at hc) <;> (try exact absurd hc (by decide)) <;> (try (exfalso; omega))) | refine Rt.mk (And.intro (fun hg => Sm.out ?_) fun hg => Sm.out ?_) | (refine Nu.mk ?_; first | (fail_if_success have := nb1); intro nb1 | (fail_if_success have := nb2); intro nb2 | (fail_if_success have := nb3); intro nb3 | (fail_if_success have := nb4); intro nb4 | (fail_if_success have := nb5); intro nb5 | (fail_if_success have := nb6); intro nb6 | intro nbz) | (apply Yfr; refine Yf FR fun hFRb FR => ?_) | refine Two.mk ?_ ?_ | (apply Yxc; exact Yx) | refine Cs.mk fun hcs => Sm.out ?_ | go_step | omega | (simp only [maxLen_eq]; omega) | exact trivial
    · rw [hc, Bool.true_or] at hr
      (have FA := Sm.mk (And.intro hr FA.out); refine Yg ?_; try exact trivial)
    · rw [hc, Bool.false_or] at hr
      exact ⟨i + 1, ⟨by omega, hr⟩, by omega, (Sub.pick (by simp [pickB, hget, hdel, FR.out]) (by simp [look]))⟩
  · have ki : decide ((i : Int) < (n : Int)) = false := decide_eq_false (by omega)
    rw [List.drop_eq_nil_of_le (by omega)] at hr
    have hr : R = false := hr
    first | (have FRx := FR; clear FRx) | have FR := fr0S
    have FA := Sm.mk (And.intro TFOuI ki)
    repeat' first | (apply Sm.mk; refine Ys ?_) | refine WP.seq fun K hK => ?_ | (apply Ob.mk; exact Yo) | refine And.intro (Ob.out ?_) ?_ | refine Y1OuI ?_ | refine YzOuI ?_ | (refine WP.cond rfl (fun hc => ?_) (fun hc => ?_) <;> (try simp only [ZC, reduceCtorEq, ZD] at hc) <;> (try exact absurd hc (by decide)) <;> (try (exfalso; omega))) | refine Rt.mk (And.intro (fun hg => Sm.out ?_) fun hg => Sm.out ?_) | (refine Nu.mk ?_; first | (fail_if_success have := nb1); intro nb1 | (fail_if_success have := nb2); intro nb2 | (fail_if_success have := nb3); intro nb3 | (fail_if_success have := nb4); intro nb4 | (fail_if_success have := nb5); intro nb5 | (fail_if_success have := nb6); intro nb6 | intro nbz) | (apply Yfr; refine Yf FR fun hFRb FR => ?_) | refine Two.mk ?_ ?_ | (apply Yxc; exact Yx) | refine Cs.mk fun hcs => Sm.out ?_ | go_step | omega | (simp only [maxLen_eq]; omega) | exact trivial
    (have FA := Sm.mk (And.intro hr FA.out); refine Yg ?_; try exact trivial)
end Go.Proofs.YtfknbndmabogjaaDoor
