/-
  The walks and the laws that the statement leans on, part 25.
-/
import Derived.Test.YtfknbndmabogjaaDoorA9
import Derived.Test.YtfknbndmabogjaaDoorA24
namespace Go.Proofs.YtfknbndmabogjaaDoor
open Go
set_option linter.unusedVariables false
set_option linter.unusedSimpArgs false
set_option linter.defProp false
def TFOuN :=
  And.intro (And.intro (And.intro (And.intro (And.intro (And.intro tyc0 tyc2) (And.intro zmb2 tyc3)) (And.intro (And.intro zmb3 tyc4) (And.intro zmb4 (And.intro tyc23 foff23_0)))) (And.intro (And.intro (And.intro fpart23_0 foff23_1) (And.intro fpart23_1 (And.intro foff23_2 fpart23_2))) (And.intro (And.intro foff23_3 fpart23_3) (And.intro foff23_4 (And.intro fpart23_4 fe23))))) (And.intro (And.intro (And.intro (And.intro zmb23 bldT23) (And.intro tyc24 elt24)) (And.intro (And.intro mkz24 mkc24) (And.intro apT24 (And.intro elk24 zmb24)))) (And.intro (And.intro (And.intro tyc27 foff27_0) (And.intro fpart27_0 (And.intro foff27_1 fpart27_1))) (And.intro (And.intro zmb27 bldT27) (And.intro tyc29 (And.intro foff29_0 fpart29_0)))))) (And.intro (And.intro (And.intro (And.intro (And.intro foff29_1 fpart29_1) (And.intro foff29_2 fpart29_2)) (And.intro (And.intro foff29_3 fpart29_3) (And.intro foff29_4 (And.intro fpart29_4 fe29)))) (And.intro (And.intro (And.intro zmb29 bldT29) (And.intro tyc34 (And.intro zmb34 tyc35))) (And.intro (And.intro tyc38 foff38_0) (And.intro fpart38_0 (And.intro foff38_1 fpart38_1))))) (And.intro (And.intro (And.intro (And.intro foff38_2 fpart38_2) (And.intro foff38_3 fpart38_3)) (And.intro (And.intro foff38_4 fpart38_4) (And.intro zmb38 (And.intro bldT38 Tryd.underlying0)))) (And.intro (And.intro (And.intro Tryd.underlying2 Tryd.underlying3) (And.intro Tryd.underlying4 (And.intro Tryd.underlying23 Tryd.underlying24))) (And.intro (And.intro Tryd.underlying27 Tryd.underlying29) (And.intro Tryd.underlying34 (And.intro Tryd.underlying35 Tryd.underlying38))))))
theorem Y1OuN {G R : Prop} (r : R) (h : R → G := by intro r; first | (apply WP.region; exact rvc_sound _ _ (Sm.out r)) | exact WP.drawK rfl mixed (by decide +kernel) (Sm.out r) | (apply WP.block; exact r) | (apply WP.skip; exact Yq r) | (apply WP.exit; exact Yq r) | (apply WP.ret; exact Sm.out r) | exact WP.cond rfl (fun _ => r) (fun hg => absurd hg (by decide)) | exact WP.cond rfl (fun hg => absurd hg (by decide)) (fun _ => r) | exact Rt.mk (And.intro (fun _ => Sm.out r) fun hg => absurd hg (by decide)) | exact Rt.mk (And.intro (fun hg => absurd hg (by decide)) fun _ => Sm.out r)) : G := h r
theorem YzOuN {G R : Prop} (r : R) (h : R → G := by intro r; first | (apply ExG.no; exact Sm.out r) | (apply Or.inl; apply ExG.no; exact Sm.out r) | exact Or.inl (And.intro (fun hg => absurd hg (by decide)) (ExG.no (Sm.out r)))) : G := h r
theorem YsOuN0 {P Q : Prop} (q : Q) (h : P = Q := by (try (conv => lhs; simp -dsimp only [ZK, rvc, capA, appA, litL, mkfv, drawF, headN, pureH, stp, dvc, calleeOf, gcall, pev, eff, newB, okd, og, ogs, ogo, ogp, slv, bltv, opd, litv, strip, one, both, putE, St.put, look, gdOf, gdv, picka, pickv, pickw, binv, bini, bins, binb, binp, binq, isSlT, bina, shp, eqCells, unv, convv, nilv, faddv, addp, idxav, idxp, load1, load1m, loadn, loadnm, loadv, hget, hset, hrep, hdel, slicev, slice3v, bnd, shift1, lenv, capv, IntKind.bits, extractv, fieldv, indexv, min2v, max2v, mkiv, tasv, tasz, cellsA, fillA, buildv, stC, oneC, rowMB, intsA, plN, appE, appZ, appC, appS, srcB, appNZ, appNC, VwL, srcC, srcZ, srcM, isBoolT, isPtrT, isSliceT, uOk, Value.oneCell', Nat.reducePow, Int.reducePow, Nat.reduceAdd, Nat.reduceMul, Nat.reduceSub, Nat.reduceLT, Nat.reduceLeDiff, Nat.reduceEqDiff, Nat.reduceBEq, Nat.reduceDiv, Nat.reduceMod, ↓reduceIte, reduceCtorEq, Int.reduceToNat, Int.reduceLT, Int.reduceLE, TFOuN, SeqQ, BlkQ, LoopQ, BodyQ, hhv, FA.out, FR.out])) <;> exact rfl) : P := h.mpr q
theorem YsOuN1 {P Q : Prop} (q : Q) (h : P = Q := by (try (conv => lhs; simp -dsimp only [ZK, rvc, capA, appA, litL, mkfv, drawF, headN, pureH, stp, dvc, calleeOf, gcall, pev, eff, newB, okd, og, ogs, ogo, ogp, slv, bltv, opd, litv, strip, one, both, putE, St.put, look, gdOf, gdv, picka, pickv, pickw, binv, bini, bins, binb, binp, binq, isSlT, bina, shp, eqCells, unv, convv, nilv, faddv, addp, idxav, idxp, load1, load1m, loadn, loadnm, loadv, hget, hset, hrep, hdel, slicev, slice3v, bnd, shift1, lenv, capv, IntKind.bits, extractv, fieldv, indexv, min2v, max2v, mkiv, tasv, tasz, cellsA, fillA, buildv, stC, oneC, rowMB, intsA, plN, appE, appZ, appC, appS, srcB, appNZ, appNC, VwL, srcC, srcZ, srcM, isBoolT, isPtrT, isSliceT, uOk, Value.oneCell', Nat.reducePow, Int.reducePow, Nat.reduceAdd, Nat.reduceMul, Nat.reduceSub, Nat.reduceLT, Nat.reduceLeDiff, Nat.reduceEqDiff, Nat.reduceBEq, Nat.reduceDiv, Nat.reduceMod, ↓reduceIte, reduceCtorEq, Int.reduceToNat, Int.reduceLT, Int.reduceLE, TFOuN, SeqQ, BlkQ, LoopQ, BodyQ, Bool.or_false, FA.out, FR.out])) <;> exact rfl) : P := h.mpr q
theorem YsOuN2 {P Q : Prop} (q : Q) (h : P = Q := by (try (conv => lhs; simp -dsimp only [ZK, rvc, capA, appA, litL, mkfv, drawF, headN, pureH, stp, dvc, calleeOf, gcall, pev, eff, newB, okd, og, ogs, ogo, ogp, slv, bltv, opd, litv, strip, one, both, putE, St.put, look, gdOf, gdv, picka, pickv, pickw, binv, bini, bins, binb, binp, binq, isSlT, bina, shp, eqCells, unv, convv, nilv, faddv, addp, idxav, idxp, load1, load1m, loadn, loadnm, loadv, hget, hset, hrep, hdel, slicev, slice3v, bnd, shift1, lenv, capv, IntKind.bits, extractv, fieldv, indexv, min2v, max2v, mkiv, tasv, tasz, cellsA, fillA, buildv, stC, oneC, rowMB, intsA, plN, appE, appZ, appC, appS, srcB, appNZ, appNC, VwL, srcC, srcZ, srcM, isBoolT, isPtrT, isSliceT, uOk, Value.oneCell', Nat.reducePow, Int.reducePow, Nat.reduceAdd, Nat.reduceMul, Nat.reduceSub, Nat.reduceLT, Nat.reduceLeDiff, Nat.reduceEqDiff, Nat.reduceBEq, Nat.reduceDiv, Nat.reduceMod, ↓reduceIte, reduceCtorEq, Int.reduceToNat, Int.reduceLT, Int.reduceLE, TFOuN, SeqQ, BlkQ, LoopQ, BodyQ, hin, FA.out, FR.out])) <;> exact rfl) : P := h.mpr q
set_option maxHeartbeats 8000000 in
set_option maxRecDepth 8000 in
theorem admits_ct (nt : Nt) (b : Bx) (k : Ky) (now : Int) (n : Nat) (hn : b.l.length = n) (hd0 : 0 ≤ b.d) : ACt Tryd.prog 3 [ntv nt, .agg [.sl n (ecs b.l), iv .u64 b.d], kv k, iv .i64 now] [] (fun r _ => r = bv true) := by
  have cA := awake_ct
  have cB := bheavy_ct b n hn
  have cH := heavy_ct k
  obtain ⟨hx, hhx⟩ : ∃ x, hbB b = x := ⟨_, rfl⟩
  obtain ⟨hy, hhy⟩ : ∃ x, hvB k = x := ⟨_, rfl⟩
  rw [hhx] at cB
  rw [hhy] at cH
  by_cases hhv : (hx || hy) = true
  · obtain ⟨C, hC⟩ : ∃ C, C = ecs b.l := ⟨_, rfl⟩
    rw [← hC] at cB ⊢
    obtain ⟨l, d⟩ := b
    obtain ⟨ro, re, fi, ca, rp⟩ := nt
    obtain ⟨kg, kr, kp, ke, ks⟩ := k
    refine ACt.intro Tryd.func3 rfl (by kernel_rfl) (by simp [Tryd.ntmps3]) (fun cx => ?_)
    simp only [argE, Tryd.ntmps3, Tryd.results3]
    first | (have FRx := FR; clear FRx) | have FR := fr0S
    have FA := Sm.mk (TFOuN)
    repeat' first | (apply Sm.mk; refine YsOuN0 ?_) | refine WP.seq fun K hK => ?_ | (apply Ob.mk; exact Yo) | refine And.intro (Ob.out ?_) ?_ | ((fail_if_success (show WP _ _ _ (.region 5 _ _) _ _)); refine Y1OuN ?_) | refine Yc (c := cA) (r := ?_) | refine Yc (c := cB) (r := ?_) | refine Yc (c := cH) (r := ?_) | refine YzOuN ?_ | (refine WP.cond rfl (fun hc => ?_) (fun hc => ?_) <;> (try simp only [ZC, reduceCtorEq, ZD] at hc) <;> (try exact absurd hc (by decide)) <;> (try (exfalso; omega))) | refine Rt.mk (And.intro (fun hg => Sm.out ?_) fun hg => Sm.out ?_) | (refine Nu.mk ?_; first | (fail_if_success have := nb1); intro nb1 | (fail_if_success have := nb2); intro nb2 | (fail_if_success have := nb3); intro nb3 | (fail_if_success have := nb4); intro nb4 | (fail_if_success have := nb5); intro nb5 | (fail_if_success have := nb6); intro nb6 | (fail_if_success have := nb7); intro nb7 | (fail_if_success have := nb8); intro nb8 | (fail_if_success have := nb9); intro nb9 | (fail_if_success have := nb10); intro nb10 | (fail_if_success have := nb11); intro nb11 | (fail_if_success have := nb12); intro nb12 | (fail_if_success have := nb13); intro nb13 | (fail_if_success have := nb14); intro nb14 | intro nbz) | (apply Yfr; refine Yf FR fun hFRb FR => ?_) | refine Two.mk ?_ ?_ | (apply Yxc; exact Yx) | refine Cs.mk fun hcs => Sm.out ?_ | go_step | omega | (simp only [maxLen_eq]; omega) | exact trivial
    (refine Yg ?_; try exact trivial)
  obtain rfl : hx = false := by revert hhv; cases hx <;> simp
  obtain rfl : hy = false := by revert hhv; cases hy <;> simp
  have hz := hb_kz hhx
  have hzk := hv_kz hhy
  have hn80 : n ≤ 80 := by omega
  have cC := copied_ct b n hn (by omega)
  have cR := rbright_ct b n hn (by omega) hz.2
  have cR1 := bright_ct b n hn (by omega) hz.2
  have c1 := admit_ct nt b k now n hn (by omega) hz.2 hzk hd0
  have c2 := radmit_ct nt b k now n hn (by omega) hz.2 hzk hd0
  have cS := bsame_ct b b n n hn hn (by omega)
  have cF := find_ct b k n hn (by omega)
  have cG := rfind_ct b k n hn (by omega)
  have cW := waiting_ct b n hn (by omega)
  rw [sameX_t rfl] at cS
  obtain ⟨t, ht⟩ := ad_pre nt b k now
  have hal := ad_len nt b k now
  have hak := ad_kz (n := nt) (b := b) (k := k) (now := now) hz.2 hzk
  have har := ad_right (n := nt) (b := b) (k := k) (now := now) (hd0 := hd0)
  unfold adR bxv at c1 c2
  obtain ⟨B, hB⟩ : ∃ B, B = adB nt b k now := ⟨_, rfl⟩
  obtain ⟨e, he⟩ : ∃ e, e = adC nt b k now := ⟨_, rfl⟩
  rw [← hB, ← he] at c1 c2
  rw [← hB] at ht hal hak har
  obtain ⟨m, hm⟩ : ∃ m, B.l.length = m := ⟨_, rfl⟩
  have cT := bsame_ct B B m m hm hm (by omega)
  rw [sameX_t rfl] at cT
  have cR2 := bright_ct B m hm (by omega) hak
  have hnm : n ≤ m := by rw [← hm, ht, List.length_append]; omega
  have hge : ∀ i (h1 : i < B.l.length) (h2 : i < b.l.length), B.l[i] = b.l[i] := fun i h1 h2 => by
    rw [List.getElem_of_eq ht, List.getElem_append_left h2]
  have hDl := ecs_len B.l
  have hds := ecs_drop B.l
  have hCl := ecs_len b.l
  have hdr := ecs_drop b.l
  have hwt := fun (i : Nat) (h : i < b.l.length) => wt_drop b.l h
  have hwl := wt_le b.l
  rw [hm] at c1 c2 hDl
  rw [hn] at hCl hwl
  clear hB he hal hak hhx hhy hhv hz hzk
  obtain ⟨p, hp⟩ : ∃ p, bxB b = p := ⟨_, rfl⟩
  rw [hp] at cR cR1 har
  obtain ⟨q, hq⟩ : ∃ p, bxB B = p := ⟨_, rfl⟩
  rw [hq] at cR2 har
  obtain ⟨x, hx⟩ : ∃ x, x = ixE b.l k 0 := ⟨_, rfl⟩
  rw [← hx] at cF cG
  obtain ⟨W, hW⟩ : ∃ W, W = wtB b.l := ⟨_, rfl⟩
  rw [← hW] at cW hwl
  obtain ⟨l, d⟩ := b
  obtain ⟨l', d'⟩ := B
  simp only at cB cC cR cR1 c1 c2 cS cF cG cW cT cR2 hn hm hge hDl hds hCl hdr hwt hwl hW ht ⊢
  obtain ⟨C, hC⟩ : ∃ C, C = ecs l := ⟨_, rfl⟩
  rw [← hC] at cB cC cR cR1 c1 c2 cS cF cG cW hCl hdr ⊢
  obtain ⟨D, hD⟩ : ∃ D, D = ecs l' := ⟨_, rfl⟩
  rw [← hD] at c1 c2 cT cR2 hDl hds
  clear hC hD hp hq hx hd0 ht
  have hf := fe38
  have z1 : (e == e) = true := by simp
  have z2 : (p == p) = true := by simp
  have z3 : (x == x) = true := by simp
  have z4 : ((W : Int) == (W : Int)) = true := by simp
  obtain ⟨ro, re, fi, ca, rp⟩ := nt
  obtain ⟨kg, kr, kp, ke, ks⟩ := k
  refine ACt.intro Tryd.func3 rfl (by kernel_rfl) (by simp [Tryd.ntmps3]) (fun cx => ?_)
  simp only [argE, Tryd.ntmps3, Tryd.results3]
  first | (have FRx := FR; clear FRx) | have FR := fr0S
  have FA := Sm.mk (TFOuN)
  repeat' first | (apply Sm.mk; refine YsOuN1 ?_) | refine WP.seq fun K hK => ?_ | (apply Ob.mk; exact Yo) | refine And.intro (Ob.out ?_) ?_ | refine Y1OuN ?_ | refine Yc (c := cA) (r := ?_) | refine Yc (c := cB) (r := ?_) | refine Yc (c := cH) (r := ?_) | refine Yc (c := cC) (r := ?_) | refine Yc (c := cR) (r := ?_) | refine Yc (c := c1) (r := ?_) | refine Yc (c := c2) (r := ?_) | refine YzOuN ?_ | (refine WP.cond rfl (fun hc => ?_) (fun hc => ?_) <;> (try simp only [ZC, reduceCtorEq, ZD] at hc) <;> (try exact absurd hc (by decide)) <;> (try (exfalso; omega))) | refine Rt.mk (And.intro (fun hg => Sm.out ?_) fun hg => Sm.out ?_) | (refine Nu.mk ?_; first | (fail_if_success have := nb1); intro nb1 | (fail_if_success have := nb2); intro nb2 | (fail_if_success have := nb3); intro nb3 | (fail_if_success have := nb4); intro nb4 | (fail_if_success have := nb5); intro nb5 | (fail_if_success have := nb6); intro nb6 | (fail_if_success have := nb7); intro nb7 | (fail_if_success have := nb8); intro nb8 | (fail_if_success have := nb9); intro nb9 | (fail_if_success have := nb10); intro nb10 | (fail_if_success have := nb11); intro nb11 | (fail_if_success have := nb12); intro nb12 | (fail_if_success have := nb13); intro nb13 | (fail_if_success have := nb14); intro nb14 | intro nbz) | (apply Yfr; refine Yf FR fun hFRb FR => ?_) | refine Two.mk ?_ ?_ | (apply Yxc; exact Yx) | refine Cs.mk fun hcs => Sm.out ?_ | go_step | omega | (simp only [maxLen_eq]; omega) | exact trivial
  have hne := FR.out
  refine WP.loop (Γ := Nat × Nat) (fun g => ⟨[(16, iv .i64 (g.1 : Int)), (15, iv .i64 (g.2 : Int)), (14, iv .i64 e), (13, pt nb6 0), (12, iv .i64 e), (11, pt nb5 0), (10, bv p), (9, pt nb4 0), (6, pt nb3 0), (5, pt nb2 0)], [(nb6, .cells [.sl m D, iv .u64 d'] 2 27), (nb5, .cells [.sl m D, iv .u64 d'] 2 27), (nb4, .cells [.sl n C, iv .u64 d] 2 27), (nb3, kb ⟨kg, kr, kp, ke, ks⟩), (nb2, .cells [.sl n C, iv .u64 d] 2 27), (nb1, .cells [iv .i64 ro, iv .i64 re, iv .i64 fi, iv .i64 ca, iv .i64 rp] 5 23)]⟩) (fun g => g.1 ≤ n ∧ W = g.2 + wtB (l.drop g.1)) (fun g => n - g.1) (0, 0) ⟨Nat.zero_le _, by simp only [List.drop_zero]; omega⟩ (Sub.pick (by simp [pickB, hget, hdel, FR.out, hne]) (by simp [look, hne])) ?_
  intro ⟨i, c⟩ ⟨hi, hr⟩
  simp only at hi hr ⊢
  have FR : Sm (¬ ((1 : Nat) = 0)) := Sm.mk Nat.one_ne_zero
  by_cases hin : i < n
  · have ki : decide ((i : Int) < (n : Int)) = true := decide_eq_true (by omega)
    have km : decide ((i : Int) ≥ (m : Int)) = false := decide_eq_false (by omega)
    have hin2 : i < m := by omega
    have s1 : IntKind.i64.wrap ((i : Int) + 1) = ((i + 1 : Nat) : Int) := by rw [wrap_i64 (by omega) (by omega)]; omega
    have s2 : IntKind.i64.wrap ((c : Int) + 1) = ((c + 1 : Nat) : Int) := by rw [wrap_i64 (by omega) (by omega)]; omega
    have hd1 := hdr i (by omega)
    have hd2 := hds i (by omega)
    have hvs : eeqB (l'[i]'(by omega)) (l[i]'(by omega)) = true := by rw [hge i (by omega) (by omega)]; exact eeqB_self _
    rw [hwt i (by omega)] at hr
    obtain ⟨v, hv⟩ : ∃ v, v = l[i]'(by omega) := ⟨_, rfl⟩
    rw [← hv] at hd1 hvs hr
    obtain ⟨u, hu⟩ : ∃ v, v = l'[i]'(by omega) := ⟨_, rfl⟩
    rw [← hu] at hd2 hvs
    have q1 : (i + 1) * 9 ≤ C.length := by omega
    have q2 : (i + 1) * 9 ≤ D.length := by omega
    unfold eeqB at hvs
    clear hge hwt hdr hds hv hu
    obtain ⟨⟨ug, ur, up, ue, us⟩, fb, fn, ft, fa⟩ := u
    obtain ⟨⟨vg, vr, vp, ve, vs⟩, eb, en, et, ea⟩ := v
    simp only at hd1 hd2 hr hvs
    first | (have FRx := FR; clear FRx) | have FR := fr0S
    have FA := Sm.mk (And.intro TFOuN (And.intro ki (And.intro km (And.intro hd1 (And.intro hd2 (And.intro q1 (And.intro q2 (And.intro hin2 (And.intro s1 (And.intro s2 (And.intro hf (And.intro hvs hne))))))))))))
    repeat' first | (apply Sm.mk; refine YsOuN2 ?_) | refine WP.seq fun K hK => ?_ | (apply Ob.mk; exact Yo) | refine And.intro (Ob.out ?_) ?_ | refine Y1OuN ?_ | refine YzOuN ?_ | (refine WP.cond rfl (fun hc => ?_) (fun hc => ?_) <;> (try simp only [ZC, reduceCtorEq, ZD] at hc) <;> (try exact absurd hc (by decide)) <;> (try (exfalso; omega))) | refine Rt.mk (And.intro (fun hg => Sm.out ?_) fun hg => Sm.out ?_) | (refine Nu.mk ?_; first | (fail_if_success have := nb1); intro nb1 | (fail_if_success have := nb2); intro nb2 | (fail_if_success have := nb3); intro nb3 | (fail_if_success have := nb4); intro nb4 | (fail_if_success have := nb5); intro nb5 | (fail_if_success have := nb6); intro nb6 | (fail_if_success have := nb7); intro nb7 | (fail_if_success have := nb8); intro nb8 | (fail_if_success have := nb9); intro nb9 | (fail_if_success have := nb10); intro nb10 | (fail_if_success have := nb11); intro nb11 | (fail_if_success have := nb12); intro nb12 | (fail_if_success have := nb13); intro nb13 | (fail_if_success have := nb14); intro nb14 | intro nbz) | (apply Yfr; refine Yf FR fun hFRb FR => ?_) | refine Two.mk ?_ ?_ | (apply Yxc; exact Yx) | refine Cs.mk fun hcs => Sm.out ?_ | go_step | omega | (simp only [maxLen_eq]; omega) | exact trivial
    · rw [if_neg (by rw [hc]; simp)] at hr
      exact ⟨(i + 1, c + 1), ⟨by simp only; omega, by simp only; omega⟩, by simp only; omega, (Sub.pick (by simp [pickB, hget, hdel, FR.out, hne]) (by simp [look, hne]))⟩
    · rw [if_pos hc] at hr
      exact ⟨(i + 1, c), ⟨by simp only; omega, by simp only; omega⟩, by simp only; omega, (Sub.pick (by simp [pickB, hget, hdel, FR.out, hne]) (by simp [look, hne]))⟩
  · have ki : decide ((i : Int) < (n : Int)) = false := decide_eq_false (by omega)
    rw [List.drop_eq_nil_of_le (by omega)] at hr
    have hr : W = c := hr
    subst hr
    cases p with
    | false =>
      first | (have FRx := FR; clear FRx) | have FR := fr0S
      have FA := Sm.mk (And.intro TFOuN (And.intro ki (And.intro hne (And.intro z1 (And.intro z2 (And.intro z3 z4))))))
      repeat' first | (apply Sm.mk; refine Ys ?_) | refine WP.seq fun K hK => ?_ | (apply Ob.mk; exact Yo) | refine And.intro (Ob.out ?_) ?_ | refine Y1OuN ?_ | refine Yc (c := cT) (r := ?_) | refine Yc (c := cS) (r := ?_) | refine Yc (c := cR1) (r := ?_) | refine Yc (c := cR2) (r := ?_) | refine Yc (c := cF) (r := ?_) | refine Yc (c := cG) (r := ?_) | refine Yc (c := cW) (r := ?_) | refine YzOuN ?_ | (refine WP.cond rfl (fun hc => ?_) (fun hc => ?_) <;> (try simp only [ZC, reduceCtorEq, ZD] at hc) <;> (try exact absurd hc (by decide)) <;> (try (exfalso; omega))) | refine Rt.mk (And.intro (fun hg => Sm.out ?_) fun hg => Sm.out ?_) | (refine Nu.mk ?_; first | (fail_if_success have := nb1); intro nb1 | (fail_if_success have := nb2); intro nb2 | (fail_if_success have := nb3); intro nb3 | (fail_if_success have := nb4); intro nb4 | (fail_if_success have := nb5); intro nb5 | (fail_if_success have := nb6); intro nb6 | (fail_if_success have := nb7); intro nb7 | (fail_if_success have := nb8); intro nb8 | (fail_if_success have := nb9); intro nb9 | (fail_if_success have := nb10); intro nb10 | (fail_if_success have := nb11); intro nb11 | (fail_if_success have := nb12); intro nb12 | (fail_if_success have := nb13); intro nb13 | (fail_if_success have := nb14); intro nb14 | intro nbz) | (apply Yfr; refine Yf FR fun hFRb FR => ?_) | refine Two.mk ?_ ?_ | (apply Yxc; exact Yx) | refine Cs.mk fun hcs => Sm.out ?_ | go_step | omega | (simp only [maxLen_eq]; omega) | exact trivial
      (refine Yg ?_; try exact trivial)
    | true =>
      obtain rfl : q = true := har rfl
      first | (have FRx := FR; clear FRx) | have FR := fr0S
      have FA := Sm.mk (And.intro TFOuN (And.intro ki (And.intro hne (And.intro z1 (And.intro z2 (And.intro z3 z4))))))
      repeat' first | (apply Sm.mk; refine Ys ?_) | refine WP.seq fun K hK => ?_ | (apply Ob.mk; exact Yo) | refine And.intro (Ob.out ?_) ?_ | refine Y1OuN ?_ | refine Yc (c := cT) (r := ?_) | refine Yc (c := cS) (r := ?_) | refine Yc (c := cR1) (r := ?_) | refine Yc (c := cR2) (r := ?_) | refine Yc (c := cF) (r := ?_) | refine Yc (c := cG) (r := ?_) | refine Yc (c := cW) (r := ?_) | refine YzOuN ?_ | (refine WP.cond rfl (fun hc => ?_) (fun hc => ?_) <;> (try simp only [ZC, reduceCtorEq, ZD] at hc) <;> (try exact absurd hc (by decide)) <;> (try (exfalso; omega))) | refine Rt.mk (And.intro (fun hg => Sm.out ?_) fun hg => Sm.out ?_) | (refine Nu.mk ?_; first | (fail_if_success have := nb1); intro nb1 | (fail_if_success have := nb2); intro nb2 | (fail_if_success have := nb3); intro nb3 | (fail_if_success have := nb4); intro nb4 | (fail_if_success have := nb5); intro nb5 | (fail_if_success have := nb6); intro nb6 | (fail_if_success have := nb7); intro nb7 | (fail_if_success have := nb8); intro nb8 | (fail_if_success have := nb9); intro nb9 | (fail_if_success have := nb10); intro nb10 | (fail_if_success have := nb11); intro nb11 | (fail_if_success have := nb12); intro nb12 | (fail_if_success have := nb13); intro nb13 | (fail_if_success have := nb14); intro nb14 | intro nbz) | (apply Yfr; refine Yf FR fun hFRb FR => ?_) | refine Two.mk ?_ ?_ | (apply Yxc; exact Yx) | refine Cs.mk fun hcs => Sm.out ?_ | go_step | omega | (simp only [maxLen_eq]; omega) | exact trivial
      (refine Yg ?_; try exact trivial)
abbrev keyTy : Ty := .st [.str, .str, .bool, .int .u64, .bool]
abbrev enTy : Ty := .st [keyTy, .int .i64, .int .i64, .int .i64, .bool]
abbrev ntTy : Ty := .st [.int .i64, .int .i64, .int .i64, .int .i64, .int .i64]
abbrev bxTy : Ty := .st [.sl enTy, .int .u64]
theorem key_shp {xs : List AV} (h : Shp keyTy xs) : ∃ k : Ky, xs = [.lit (.string k.g), .lit (.string k.r), bv k.p, iv .u64 k.e, bv k.s] := by
  simp only [Shp, ShpL] at h
  obtain ⟨_, _, rfl, ⟨a, rfl, ha⟩, _, _, rfl, ⟨b, rfl, hb⟩, _, _, rfl, ⟨c, rfl⟩, _, _, rfl, ⟨d, rfl, hd⟩, _, _, rfl, ⟨e, rfl⟩, rfl⟩ := h
  exact ⟨⟨a, b, c, d, e⟩, rfl⟩
theorem en_rows : ∀ (rows : List (List AV)), (∀ r ∈ rows, Shp enTy r) → ∃ L : List En, L.length = rows.length ∧ rows.flatten = ecs L
  | [], _ => ⟨[], rfl, rfl⟩
  | r :: rows, h => by
    obtain ⟨L, l1, l2⟩ := en_rows rows fun x hx => h x (List.mem_cons_of_mem _ hx)
    have h0 := h r (List.mem_cons_self ..)
    simp only [enTy, Shp, ShpL] at h0
    obtain ⟨_, _, rfl, hk, _, _, rfl, ⟨b, rfl, hb⟩, _, _, rfl, ⟨c, rfl, hc⟩, _, _, rfl, ⟨d, rfl, hd⟩, _, _, rfl, ⟨e, rfl⟩, rfl⟩ := h0
    obtain ⟨k, rfl⟩ := key_shp (by simpa only [Shp, ShpL] using hk)
    exact ⟨⟨k, b, c, d, e⟩ :: L, by simp [l1], by simp [l2, ecs]⟩
theorem nt_shp {xs : List AV} (h : Shp ntTy xs) : ∃ n : Nt, xs = [iv .i64 n.room, iv .i64 n.res, iv .i64 n.first, iv .i64 n.cap, iv .i64 n.rep] := by
  simp only [Shp, ShpL] at h
  obtain ⟨_, _, rfl, ⟨a, rfl, ha⟩, _, _, rfl, ⟨b, rfl, hb⟩, _, _, rfl, ⟨c, rfl, hc⟩, _, _, rfl, ⟨d, rfl, hd⟩, _, _, rfl, ⟨e, rfl, he⟩, rfl⟩ := h
  exact ⟨⟨a, b, c, d, e⟩, rfl⟩
theorem bx_shp {xs : List AV} (h : Shp bxTy xs) : ∃ b : Bx, xs = [.sl b.l.length (ecs b.l), iv .u64 b.d] ∧ 0 ≤ b.d ∧ b.d ≤ 18446744073709551615 := by
  simp only [bxTy, Shp, ShpL] at h
  obtain ⟨_, _, rfl, ⟨rows, rfl, hr⟩, _, _, rfl, ⟨d, rfl, hd⟩, rfl⟩ := h
  obtain ⟨L, l1, l2⟩ := en_rows rows fun r hr' => by
    have := hr r hr'
    simpa only [Shp, ShpL] using this
  refine ⟨⟨L, d⟩, by simp [l1, l2], wf_u64 hd⟩
theorem admits_law {xs ys zs : List AV} {now : Int} (hx : Shp ntTy xs) (hy : Shp bxTy ys) (hz : Shp keyTy zs) : ACt Tryd.prog 3 [.agg xs, .agg ys, .agg zs, iv .i64 now] [] (fun r _ => r = bv true) := by
  obtain ⟨n, e1⟩ := nt_shp hx
  obtain ⟨b, e2, h0, h1⟩ := bx_shp hy
  obtain ⟨k, e3⟩ := key_shp hz
  rw [e1, e2, e3]
  exact admits_ct n b k now b.l.length rfl h0
end Go.Proofs.YtfknbndmabogjaaDoor
