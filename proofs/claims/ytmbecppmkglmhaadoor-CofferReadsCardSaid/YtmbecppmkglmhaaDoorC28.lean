/-
  The walks and the laws that the statement leans on, part 28.
-/
import Derived.Test.YtmbecppmkglmhaaDoorC11
import Derived.Test.YtmbecppmkglmhaaDoorC27
namespace Go.Proofs.YtmbecppmkglmhaaDoor
open Go
set_option linter.unusedVariables false
set_option linter.unusedSimpArgs false
set_option linter.defProp false
def TFWlJ :=
  And.intro (And.intro (And.intro (And.intro (And.intro tyc0 tyc3) (And.intro zmb3 (And.intro tyc4 zmb4))) (And.intro (And.intro tyc5 (And.intro zmb5 tyc22)) (And.intro elt22 (And.intro mkz22 apT22)))) (And.intro (And.intro (And.intro elk22 (And.intro zmb22 tyc26)) (And.intro mth26_27 (And.intro mth26_26 mth26_28))) (And.intro (And.intro con26 (And.intro zmb26 tyc29)) (And.intro zmb29 (And.intro tyc82 zmb82))))) (And.intro (And.intro (And.intro (And.intro tyc106 (And.intro foff106_0 fpart106_0)) (And.intro foff106_1 (And.intro fpart106_1 foff106_2))) (And.intro (And.intro fpart106_2 (And.intro foff106_3 fpart106_3)) (And.intro foff106_4 (And.intro fpart106_4 foff106_5)))) (And.intro (And.intro (And.intro fpart106_5 (And.intro zmb106 bldT106)) (And.intro Tryd.underlying0 (And.intro Tryd.underlying3 Tryd.underlying4))) (And.intro (And.intro Tryd.underlying5 (And.intro Tryd.underlying22 Tryd.underlying26)) (And.intro Tryd.underlying29 (And.intro Tryd.underlying82 Tryd.underlying106)))))
theorem Y1WlJ {G R : Prop} (r : R) (h : R → G := by intro r; first | (apply WP.region; exact rvc_sound _ _ (Sm.out r)) | exact WP.drawKk 16 mixed (by decide +kernel) (Sm.out r) | exact WP.drawK rfl mixed (by decide +kernel) (Sm.out r) | (apply WP.block; exact r) | (apply WP.skip; exact Yq r) | (apply WP.exit; exact Yq r) | (apply WP.ret; exact Sm.out r) | exact WP.cond rfl (fun _ => r) (fun hg => absurd hg (by decide)) | exact WP.cond rfl (fun hg => absurd hg (by decide)) (fun _ => r) | exact Rt.mk (And.intro (fun _ => Sm.out r) fun hg => absurd hg (by decide)) | exact Rt.mk (And.intro (fun hg => absurd hg (by decide)) fun _ => Sm.out r)) : G := h r
theorem YzWlJ {G R : Prop} (r : R) (h : R → G := by intro r; first | (apply ExG.no; exact Sm.out r) | (apply Or.inl; apply ExG.no; exact Sm.out r) | exact Or.inl (And.intro (fun hg => absurd hg (by decide)) (ExG.no (Sm.out r)))) : G := h r
theorem YsWlJ0 {P Q : Prop} (q : Q) (h : P = Q := by (try (conv => lhs; simp -dsimp only [ZK, rvc, capA, appA, litL, mkfv, drawF, headN, pureH, stp, dvc, calleeOf, gcall, pev, eff, newB, okd, og, ogs, ogo, ogp, slv, bltv, opd, litv, strip, one, both, putE, St.put, look, gdOf, gdv, picka, pickv, pickw, binv, bini, bins, binb, binp, binq, isSlT, bina, shp, eqCells, unv, convv, nilv, faddv, addp, idxav, idxp, load1, load1m, loadn, loadnm, loadv, hget, hset, hrep, hdel, slicev, slice3v, bnd, shift1, lenv, capv, IntKind.bits, extractv, fieldv, indexv, min2v, max2v, mkiv, tasv, tasz, cellsA, fillA, buildv, stC, oneC, rowMB, intsA, plN, appE, appZ, appC, appS, srcB, appNZ, appNC, VwL, srcC, srcZ, srcM, isBoolT, isPtrT, isSliceT, uOk, Value.oneCell', Nat.reducePow, Int.reducePow, Nat.reduceAdd, Nat.reduceMul, Nat.reduceSub, Nat.reduceLT, Nat.reduceLeDiff, Nat.reduceEqDiff, Nat.reduceBEq, Nat.reduceDiv, Nat.reduceMod, ↓reduceIte, reduceCtorEq, Int.reduceToNat, Int.reduceLT, Int.reduceLE, TFWlJ, SeqQ, BlkQ, LoopQ, BodyQ, Nat.zero_add, List.nil_append, FA.out, FR.out])) <;> exact rfl) : P := h.mpr q
theorem ex_front {Γ : Type} {f : FuncId} {args : List AV} {F H : Hp} {v : Γ → AV} {h : Γ → Hp} (k : Nat × MB) (c : ACt Tryd.prog f args F (fun r F' => ∃ g, r = v g ∧ F' = h g)) (hp : H.Perm (F ++ [k])) : ACt Tryd.prog f args H (fun r F' => ∃ g, r = v g ∧ F' = k :: h g) :=
  ACt.frm (R := [k]) c hp fun r F' hr _ => by
    obtain ⟨g, e1, e2⟩ := hr
    subst e1 e2
    exact ⟨k :: h g, [], by rw [List.append_nil]; exact (List.perm_append_comm (l₁ := h g) (l₂ := [k])), g, rfl, rfl⟩
set_option maxRecDepth 20000 in
set_option maxHeartbeats 8000000 in
theorem app_lay0 {c : Nat} (x b f m u s : Nat) (t z : Bs) (a : DA) (l : DL) (hA : AOk c a) (hl : LOk b a l) (hd : a.dk = false) (hs : a.size = s) (hfm : f + m ≤ a.n) (hu : u + (z.length + 10) ≤ m * s) (ht : t.length = u - u / s * s) (hz : z.length ≤ 5000) (hc : c + m ≤ 980) (ht0 : t = []) (hX0 : (lyR a (f + u / s) (cks s (ub (t ++ frameB z)))).2 = 0) :
    ACt Tryd.prog 49 [pt x 0, .slz .u8 (ub z)] ((x, lgM b f m (ub t) u false) :: dH b a l)
      (fun r F' => ∃ q : LS b (lyR a (f + u / s) (cks s (ub (t ++ frameB z)))).1, r = iv .i64 0 ∧ F' = (x, lgM b f m (ub ((t ++ frameB z).drop ((t ++ frameB z).length - (u + (z.length + 10)) % s))) (u + (z.length + 10)) false) :: dH b (lyR a (f + u / s) (cks s (ub (t ++ frameB z)))).1 q.1) := by
  have hn2 := hA.n2
  have hs1 := hA.s1
  have hs2 := hA.s2
  have hms : m * s ≤ 400 * 512 := Nat.mul_le_mul (by omega) (by omega)
  have hdv := Nat.div_mul_le_self u s
  have hmod := Nat.mod_lt (u + (z.length + 10)) (show 0 < s by omega)
  have hfl := frame_len z
  have hkm : u / s ≤ m := by
    have : u / s * s ≤ m * s := by omega
    exact Nat.le_of_mul_le_mul_right this (by omega)
  have hul : u - u / s * s < s := by
    have h1 := Nat.div_add_mod u s
    have h2 := Nat.mod_lt u (show 0 < s by omega)
    rw [Nat.mul_comm] at h1
    omega
  have hmod2 : (u + (z.length + 10)) % s ≤ u - u / s * s + (z.length + 10) := by
    have h1 := Nat.div_add_mod u s
    rw [Nat.mul_comm] at h1
    have h3 : u + (z.length + 10) = (u - u / s * s + (z.length + 10)) + s * (u / s) := by rw [Nat.mul_comm s]; omega
    rw [h3, Nat.add_mul_mod_self_left]
    exact Nat.mod_le _ _
  have hcl : (cks s (ub (t ++ frameB z))).length ≤ m - u / s := by
    refine cks_len_le (by omega) ?_
    rw [ub_len, List.length_append, hfl, ht, Nat.sub_mul]; omega
  have cL := lay_ct b a l hA hl (f + u / s) (ub (t ++ frameB z)) (Nat.le_trans (Nat.add_le_add_left hkm f) (by omega)) (by rw [ub_len, List.length_append, hfl]; omega) (by rw [hs]; exact Nat.le_trans (Nat.add_le_add_left (Nat.le_trans hcl (Nat.sub_le _ _)) c) (by omega))
  rw [hs] at cL
  obtain ⟨X, hX⟩ : ∃ X, X = lyR a (f + u / s) (cks s (ub (t ++ frameB z))) := ⟨_, rfl⟩
  rw [← hX] at cL hX0 ⊢
  have cLx := ex_front (x, lgM b f m (ub t) u false) cL (H := (x, lgM b f m (ub t) u false) :: dH b a l) (pm1 _ _)
  have cD := (dark_d b a l).lookU (pm1 (x, lgM b f m (ub t) u false) (dH b a l))
  rw [hd] at cD
  have cZ := (size_d b a l).lookU (pm1 (x, lgM b f m (ub t) u false) (dH b a l))
  rw [hs] at cZ
  have cR := room_ct x b f m u s (ub t) false a l hs (by omega) (by omega)
  have cS := fsize_ct (z.length : Int) (by omega) (by omega)
  rw [if_neg (by omega)] at cS
  have cF := frame_ct z (by omega)
  obtain ⟨k, hk⟩ : ∃ k, k = u / s := ⟨_, rfl⟩
  have d1 : (u : Int).tdiv (s : Int) = (k : Int) := by rw [hk, Int.tdiv_eq_ediv_of_nonneg (by omega)]; simp
  have w1 : IntKind.i64.wrap (k : Int) = (k : Int) := by have := Nat.div_le_self u s; rw [wrap_i64 (by omega) (by omega)]
  rw [← hk] at cLx hkm hul hdv ht hmod2
  have w5 : IntKind.i64.wrap ((f : Int) + (k : Int)) = ((f + k : Nat) : Int) := by rw [wrap_i64 (by omega) (by omega)]; omega
  have k0 : ((z.length : Int) + 10 == 0) = false := beq_eq_false_iff_ne.2 (by omega)
  have k1 : decide ((z.length : Int) + 10 > ((m * s - u : Nat) : Int)) = false := decide_eq_false (by omega)
  obtain ⟨u2, hu2⟩ : ∃ u2, u2 = u + (z.length + 10) := ⟨_, rfl⟩
  rw [← hu2] at hmod hmod2 ⊢
  have w6 : IntKind.i64.wrap ((u : Int) + ((z.length : Int) + 10)) = (u2 : Int) := by rw [wrap_i64 (by omega) (by omega)]; omega
  obtain ⟨r, hr⟩ : ∃ r, r = u2 % s := ⟨_, rfl⟩
  have d2 : (u2 : Int).tmod (s : Int) = (r : Int) := by rw [hr, Int.tmod_eq_emod_of_nonneg (by omega)]; simp
  rw [← hr] at hmod hmod2 ⊢
  have hD : (t ++ frameB z).length = t.length + (z.length + 10) := by rw [List.length_append, hfl]
  obtain ⟨D, hDD⟩ : ∃ D, D = ub (t ++ frameB z) := ⟨_, rfl⟩
  have hDa : ub t ++ ub (frameB z) = D := by rw [hDD, ub_append]
  have hDl : D.length = t.length + (z.length + 10) := by rw [hDD, ub_len, hD]
  rw [← hDD] at cLx
  have eT : ub ((t ++ frameB z).drop ((t ++ frameB z).length - r)) = D.drop (t.length + (z.length + 10) - r) := by rw [hDD, ub_drop, hD]
  rw [eT]
  have w7 : IntKind.i64.wrap (((t.length + (z.length + 10) : Nat) : Int) - (r : Int)) = ((t.length + (z.length + 10) - r : Nat) : Int) := by rw [wrap_i64 (by omega) (by omega)]; omega
  obtain ⟨n, hn⟩ : ∃ n, n = t.length + (z.length + 10) := ⟨_, rfl⟩
  rw [← hn] at hDl w7 ⊢
  have htk : D.take n = D := List.take_of_length_le (by omega)
  have cC := bcl_ct (D.drop (n - r)) (by rw [List.length_drop]; omega)
  have s0 : (s : Int) ≠ 0 := by omega
  have zl := ub_len z
  have fl : (ub (frameB z)).length = z.length + 10 := by rw [ub_len, hfl]
  have tl := ub_len t
  have q1 : n - r ≤ n := Nat.sub_le _ _
  have q2 : n ≤ 1000000 := by omega
  have hcl1 := fun h1 => bclR_ct (ub t) h1 (by rw [ub_len]; omega)
  obtain ⟨T, hT⟩ : ∃ T, T = ub t := ⟨_, rfl⟩
  rw [← hT] at cLx cD cZ cR hDa tl hcl1 ⊢
  obtain ⟨Y, hY⟩ : ∃ Y, Y = ub (frameB z) := ⟨_, rfl⟩
  rw [← hY] at cF hDa fl
  obtain ⟨V, hV⟩ : ∃ V, V = ub z := ⟨_, rfl⟩
  rw [← hV] at cF zl ⊢
  rw [tl] at hcl1
  have ht00 : t.length = 0 := by rw [ht0]; rfl
  obtain ⟨tn, htn⟩ : ∃ tn, tn = t.length := ⟨_, rfl⟩
  rw [← htn] at ht00
  rw [← htn] at tl hcl1 hn ht
  have hnn : tn + (z.length + 10) = n := hn.symm
  clear hX hDD hT hY hV hr hk eT hD hcl cL hA hl
  unfold lgM at cLx cD cZ cR ⊢
  have kX : (X.2 != 0) = false := by rw [hX0]; rfl
  rw [hX0] at cLx
  obtain rfl : T = [] := List.eq_nil_of_length_eq_zero (by omega)
  obtain rfl : tn = 0 := ht00
  have cB := bcl0_ct
  simp only [List.nil_append] at hDa
  have fl2 : Y.length = n := by rw [hDa]; exact hDl
  have hn0 : 0 + (z.length + 10) = n := hnn
  refine ACt.intro Tryd.func49 rfl (by kernel_rfl) (by simp [Tryd.ntmps49]) (fun cx => ?_)
  simp only [argE, Tryd.ntmps49, Tryd.results49]
  first | (have FRx := FR; clear FRx) | have FR := fr0S
  have FA := Sm.mk (And.intro TFWlJ (And.intro zl (And.intro k0 (And.intro k1 (And.intro tl (And.intro fl2 (And.intro hDa hn0)))))))
  repeat' first | (apply Sm.mk; refine YsWlJ0 ?_) | refine WP.seq fun K hK => ?_ | (apply Ob.mk; exact Yo) | refine And.intro (Ob.out ?_) ?_ | ((fail_if_success (show WP _ _ _ (.region 10 _ _) _ _)); refine Y1WlJ ?_) | refine CallV.updM (cD) (pmz _) (Sm.out ?_) | ((first | refine ExF.up ?_ (cD) (Sm.out ?_) | refine ExG.up ?_ (fun _ => cD) (Sm.out ?_) | refine ExG.upJ ?_ (fun _ => cD) (Sm.out ?_) | refine ExG.upI ?_ (fun _ => cD) (Ob.out ?_) (Sm.out ?_)); focus (exact ⟨_, (pmz _)⟩)) | refine CallV.updM (cZ) (pmz _) (Sm.out ?_) | ((first | refine ExF.up ?_ (cZ) (Sm.out ?_) | refine ExG.up ?_ (fun _ => cZ) (Sm.out ?_) | refine ExG.upJ ?_ (fun _ => cZ) (Sm.out ?_) | refine ExG.upI ?_ (fun _ => cZ) (Ob.out ?_) (Sm.out ?_)); focus (exact ⟨_, (pmz _)⟩)) | (first | refine CallV.fn (cS) (Sm.out ?_) | refine ExF.mk (cS) (Sm.out ?_) | refine ExG.mk (fun _ => cS) (Sm.out ?_) | refine ExG.mkJ (fun _ => cS) (Sm.out ?_) | refine ExG.mkI (Ob.out ?_) (fun _ => cS) (Sm.out ?_)) | refine CallV.updM (cR) (pmz _) (Sm.out ?_) | ((first | refine ExF.up ?_ (cR) (Sm.out ?_) | refine ExG.up ?_ (fun _ => cR) (Sm.out ?_) | refine ExG.upJ ?_ (fun _ => cR) (Sm.out ?_) | refine ExG.upI ?_ (fun _ => cR) (Ob.out ?_) (Sm.out ?_)); focus (exact ⟨_, (pmz _)⟩)) | (first | refine CallV.fn (cF) (Sm.out ?_) | refine ExF.mk (cF) (Sm.out ?_) | refine ExG.mk (fun _ => cF) (Sm.out ?_) | refine ExG.mkJ (fun _ => cF) (Sm.out ?_) | refine ExG.mkI (Ob.out ?_) (fun _ => cF) (Sm.out ?_)) | (refine CallV.alt (cB) (List.Perm.refl _) (fun _ _ => rfl) (Sm.out ?_) (Sm.out ?_)) | refine YzWlJ ?_ | (refine WP.cond rfl (fun hc => ?_) (fun hc => ?_) <;> (try simp only [ZC, reduceCtorEq, ZD] at hc) <;> (try exact absurd hc (by decide)) <;> (try (exfalso; omega))) | refine Rt.mk (And.intro (fun hg => Sm.out ?_) fun hg => Sm.out ?_) | (refine Nu.mk ?_; first | (fail_if_success have := nb1); intro nb1 | (fail_if_success have := nb2); intro nb2 | (fail_if_success have := nb3); intro nb3 | (fail_if_success have := nb4); intro nb4 | (fail_if_success have := nb5); intro nb5 | (fail_if_success have := nb6); intro nb6 | (fail_if_success have := nb7); intro nb7 | (fail_if_success have := nb8); intro nb8 | intro nbz) | (apply Yfr; refine Yf FR fun hFRb FR => ?_) | refine Two.mk ?_ ?_ | (apply Yxc; exact Yx) | refine Cs.mk fun hcs => Sm.out ?_ | go_step | omega | (simp only [maxLen_eq]; omega) | exact trivial
  · obtain ⟨f1, f2⟩ := hFRb
    rw [hDl] at f1
    (refine WP.wk (Wk.freeze (nb1) (by simp only [ZK, rvc, capA, appA, litL, mkfv, drawF, headN, pureH, stp, dvc, calleeOf, gcall, pev, eff, newB, okd, og, ogs, ogo, ogp, slv, bltv, opd, litv, strip, one, both, putE, St.put, look, gdOf, gdv, picka, pickv, pickw, binv, bini, bins, binb, binp, binq, isSlT, bina, shp, eqCells, unv, convv, nilv, faddv, addp, idxav, idxp, load1, load1m, loadn, loadnm, loadv, hget, hset, hrep, hdel, slicev, slice3v, bnd, shift1, lenv, capv, IntKind.bits, extractv, fieldv, indexv, min2v, max2v, mkiv, tasv, tasz, cellsA, fillA, buildv, stC, oneC, rowMB, intsA, plN, appE, appZ, appC, appS, srcB, appNZ, appNC, VwL, srcC, srcZ, srcM, isBoolT, isPtrT, isSliceT, uOk, Value.oneCell', Nat.reducePow, Int.reducePow, Nat.reduceAdd, Nat.reduceMul, Nat.reduceSub, Nat.reduceLT, Nat.reduceLeDiff, Nat.reduceEqDiff, Nat.reduceBEq, Nat.reduceDiv, Nat.reduceMod, ↓reduceIte, reduceCtorEq, Int.reduceToNat, Int.reduceLT, Int.reduceLE, TFWlJ, SeqQ, BlkQ, LoopQ, BodyQ, hDl, htk, f1, f2, FR.out]; first | done | rfl)) ?_; simp only [frzE, frz, ZK, rvc, capA, appA, litL, mkfv, drawF, headN, pureH, stp, dvc, calleeOf, gcall, pev, eff, newB, okd, og, ogs, ogo, ogp, slv, bltv, opd, litv, strip, one, both, putE, St.put, look, gdOf, gdv, picka, pickv, pickw, binv, bini, bins, binb, binp, binq, isSlT, bina, shp, eqCells, unv, convv, nilv, faddv, addp, idxav, idxp, load1, load1m, loadn, loadnm, loadv, hget, hset, hrep, hdel, slicev, slice3v, bnd, shift1, lenv, capv, IntKind.bits, extractv, fieldv, indexv, min2v, max2v, mkiv, tasv, tasz, cellsA, fillA, buildv, stC, oneC, rowMB, intsA, plN, appE, appZ, appC, appS, srcB, appNZ, appNC, VwL, srcC, srcZ, srcM, isBoolT, isPtrT, isSliceT, uOk, Value.oneCell', Nat.reducePow, Int.reducePow, Nat.reduceAdd, Nat.reduceMul, Nat.reduceSub, Nat.reduceLT, Nat.reduceLeDiff, Nat.reduceEqDiff, Nat.reduceBEq, Nat.reduceDiv, Nat.reduceMod, ↓reduceIte, reduceCtorEq, Int.reduceToNat, Int.reduceLT, Int.reduceLE, TFWlJ, SeqQ, BlkQ, LoopQ, BodyQ, hDl, htk, f1, f2, FR.out])
    first | (have FRx := FR; clear FRx) | have FR := fr0S
    have FA := Sm.mk (And.intro TFWlJ (And.intro d1 (And.intro w1 (And.intro w5 s0))))
    repeat' first | (apply Sm.mk; refine Ys ?_) | refine WP.seq fun K hK => ?_ | (apply Ob.mk; exact Yo) | refine And.intro (Ob.out ?_) ?_ | ((fail_if_success (show WP _ _ _ (.region 11 _ _) _ _)); refine Y1WlJ ?_) | (refine CallV.exM (cLx) (pmz _) (fun g => Sm.out ?_)) | refine YzWlJ ?_ | (refine WP.cond rfl (fun hc => ?_) (fun hc => ?_) <;> (try simp only [ZC, reduceCtorEq, ZD] at hc) <;> (try exact absurd hc (by decide)) <;> (try (exfalso; omega))) | refine Rt.mk (And.intro (fun hg => Sm.out ?_) fun hg => Sm.out ?_) | (refine Nu.mk ?_; first | (fail_if_success have := nb1); intro nb1 | (fail_if_success have := nb2); intro nb2 | (fail_if_success have := nb3); intro nb3 | (fail_if_success have := nb4); intro nb4 | (fail_if_success have := nb5); intro nb5 | (fail_if_success have := nb6); intro nb6 | (fail_if_success have := nb7); intro nb7 | (fail_if_success have := nb8); intro nb8 | intro nbz) | (apply Yfr; refine Yf FR fun hFRb FR => ?_) | refine Two.mk ?_ ?_ | (apply Yxc; exact Yx) | refine Cs.mk fun hcs => Sm.out ?_ | go_step | omega | (simp only [maxLen_eq]; omega) | exact trivial
    obtain ⟨l2, hl2⟩ := g
    simp only [List.append_nil]
    first | (have FRx := FR; clear FRx) | have FR := fr0S
    have FA := Sm.mk (And.intro TFWlJ (And.intro kX (And.intro zl (And.intro w6 (And.intro d2 (And.intro w7 (And.intro s0 (And.intro hDl (And.intro hnn (And.intro htk q1))))))))))
    repeat' first | (apply Sm.mk; refine Ys ?_) | refine WP.seq fun K hK => ?_ | (apply Ob.mk; exact Yo) | refine And.intro (Ob.out ?_) ?_ | refine Y1WlJ ?_ | refine Yc (c := cS) (r := ?_) | refine Yc (c := cC) (r := ?_) | refine YzWlJ ?_ | (refine WP.cond rfl (fun hc => ?_) (fun hc => ?_) <;> (try simp only [ZC, reduceCtorEq, ZD] at hc) <;> (try exact absurd hc (by decide)) <;> (try (exfalso; omega))) | refine Rt.mk (And.intro (fun hg => Sm.out ?_) fun hg => Sm.out ?_) | (refine Nu.mk ?_; first | (fail_if_success have := nb1); intro nb1 | (fail_if_success have := nb2); intro nb2 | (fail_if_success have := nb3); intro nb3 | (fail_if_success have := nb4); intro nb4 | (fail_if_success have := nb5); intro nb5 | (fail_if_success have := nb6); intro nb6 | (fail_if_success have := nb7); intro nb7 | (fail_if_success have := nb8); intro nb8 | intro nbz) | (apply Yfr; refine Yf FR fun hFRb FR => ?_) | refine Two.mk ?_ ?_ | (apply Yxc; exact Yx) | refine Cs.mk fun hcs => Sm.out ?_ | go_step | omega | (simp only [maxLen_eq]; omega) | exact trivial
    (refine OutQ.drop _ _ (pmz _) (by simp only [resv, ZK, look, loadv, loadn, loadnm, load1, load1m, hget, ↓reduceIte, Nat.reduceEqDiff, Nat.reduceAdd, Nat.reduceMul, Nat.reduceLeDiff, Nat.reduceLT, reduceCtorEq, TFWlJ, FR.out]) ⟨⟨l2, hl2⟩, (by simp only [resv, resA, ZK, look, loadv, loadn, loadnm, load1, load1m, hget, ↓reduceIte, Nat.reduceEqDiff, Nat.reduceAdd, Nat.reduceMul, Nat.reduceLeDiff, Nat.reduceLT, reduceCtorEq, TFWlJ, FR.out]; first | done | rfl), rfl⟩)
  · obtain ⟨f1, f2⟩ := hFRb
    rw [hDl] at f1
    (refine WP.wk (Wk.freeze (nb3) (by simp only [ZK, rvc, capA, appA, litL, mkfv, drawF, headN, pureH, stp, dvc, calleeOf, gcall, pev, eff, newB, okd, og, ogs, ogo, ogp, slv, bltv, opd, litv, strip, one, both, putE, St.put, look, gdOf, gdv, picka, pickv, pickw, binv, bini, bins, binb, binp, binq, isSlT, bina, shp, eqCells, unv, convv, nilv, faddv, addp, idxav, idxp, load1, load1m, loadn, loadnm, loadv, hget, hset, hrep, hdel, slicev, slice3v, bnd, shift1, lenv, capv, IntKind.bits, extractv, fieldv, indexv, min2v, max2v, mkiv, tasv, tasz, cellsA, fillA, buildv, stC, oneC, rowMB, intsA, plN, appE, appZ, appC, appS, srcB, appNZ, appNC, VwL, srcC, srcZ, srcM, isBoolT, isPtrT, isSliceT, uOk, Value.oneCell', Nat.reducePow, Int.reducePow, Nat.reduceAdd, Nat.reduceMul, Nat.reduceSub, Nat.reduceLT, Nat.reduceLeDiff, Nat.reduceEqDiff, Nat.reduceBEq, Nat.reduceDiv, Nat.reduceMod, ↓reduceIte, reduceCtorEq, Int.reduceToNat, Int.reduceLT, Int.reduceLE, TFWlJ, SeqQ, BlkQ, LoopQ, BodyQ, hDl, htk, f1, f2, FR.out]; first | done | rfl)) ?_; simp only [frzE, frz, ZK, rvc, capA, appA, litL, mkfv, drawF, headN, pureH, stp, dvc, calleeOf, gcall, pev, eff, newB, okd, og, ogs, ogo, ogp, slv, bltv, opd, litv, strip, one, both, putE, St.put, look, gdOf, gdv, picka, pickv, pickw, binv, bini, bins, binb, binp, binq, isSlT, bina, shp, eqCells, unv, convv, nilv, faddv, addp, idxav, idxp, load1, load1m, loadn, loadnm, loadv, hget, hset, hrep, hdel, slicev, slice3v, bnd, shift1, lenv, capv, IntKind.bits, extractv, fieldv, indexv, min2v, max2v, mkiv, tasv, tasz, cellsA, fillA, buildv, stC, oneC, rowMB, intsA, plN, appE, appZ, appC, appS, srcB, appNZ, appNC, VwL, srcC, srcZ, srcM, isBoolT, isPtrT, isSliceT, uOk, Value.oneCell', Nat.reducePow, Int.reducePow, Nat.reduceAdd, Nat.reduceMul, Nat.reduceSub, Nat.reduceLT, Nat.reduceLeDiff, Nat.reduceEqDiff, Nat.reduceBEq, Nat.reduceDiv, Nat.reduceMod, ↓reduceIte, reduceCtorEq, Int.reduceToNat, Int.reduceLT, Int.reduceLE, TFWlJ, SeqQ, BlkQ, LoopQ, BodyQ, hDl, htk, f1, f2, FR.out])
    first | (have FRx := FR; clear FRx) | have FR := fr0S
    have FA := Sm.mk (And.intro TFWlJ (And.intro d1 (And.intro w1 (And.intro w5 s0))))
    repeat' first | (apply Sm.mk; refine Ys ?_) | refine WP.seq fun K hK => ?_ | (apply Ob.mk; exact Yo) | refine And.intro (Ob.out ?_) ?_ | ((fail_if_success (show WP _ _ _ (.region 11 _ _) _ _)); refine Y1WlJ ?_) | (refine CallV.exM (cLx) (pmz _) (fun g => Sm.out ?_)) | refine YzWlJ ?_ | (refine WP.cond rfl (fun hc => ?_) (fun hc => ?_) <;> (try simp only [ZC, reduceCtorEq, ZD] at hc) <;> (try exact absurd hc (by decide)) <;> (try (exfalso; omega))) | refine Rt.mk (And.intro (fun hg => Sm.out ?_) fun hg => Sm.out ?_) | (refine Nu.mk ?_; first | (fail_if_success have := nb1); intro nb1 | (fail_if_success have := nb2); intro nb2 | (fail_if_success have := nb3); intro nb3 | (fail_if_success have := nb4); intro nb4 | (fail_if_success have := nb5); intro nb5 | (fail_if_success have := nb6); intro nb6 | (fail_if_success have := nb7); intro nb7 | (fail_if_success have := nb8); intro nb8 | intro nbz) | (apply Yfr; refine Yf FR fun hFRb FR => ?_) | refine Two.mk ?_ ?_ | (apply Yxc; exact Yx) | refine Cs.mk fun hcs => Sm.out ?_ | go_step | omega | (simp only [maxLen_eq]; omega) | exact trivial
    obtain ⟨l2, hl2⟩ := g
    simp only [List.append_nil]
    first | (have FRx := FR; clear FRx) | have FR := fr0S
    have FA := Sm.mk (And.intro TFWlJ (And.intro kX (And.intro zl (And.intro w6 (And.intro d2 (And.intro w7 (And.intro s0 (And.intro hDl (And.intro hnn (And.intro htk q1))))))))))
    repeat' first | (apply Sm.mk; refine Ys ?_) | refine WP.seq fun K hK => ?_ | (apply Ob.mk; exact Yo) | refine And.intro (Ob.out ?_) ?_ | refine Y1WlJ ?_ | refine Yc (c := cS) (r := ?_) | refine Yc (c := cC) (r := ?_) | refine YzWlJ ?_ | (refine WP.cond rfl (fun hc => ?_) (fun hc => ?_) <;> (try simp only [ZC, reduceCtorEq, ZD] at hc) <;> (try exact absurd hc (by decide)) <;> (try (exfalso; omega))) | refine Rt.mk (And.intro (fun hg => Sm.out ?_) fun hg => Sm.out ?_) | (refine Nu.mk ?_; first | (fail_if_success have := nb1); intro nb1 | (fail_if_success have := nb2); intro nb2 | (fail_if_success have := nb3); intro nb3 | (fail_if_success have := nb4); intro nb4 | (fail_if_success have := nb5); intro nb5 | (fail_if_success have := nb6); intro nb6 | (fail_if_success have := nb7); intro nb7 | (fail_if_success have := nb8); intro nb8 | intro nbz) | (apply Yfr; refine Yf FR fun hFRb FR => ?_) | refine Two.mk ?_ ?_ | (apply Yxc; exact Yx) | refine Cs.mk fun hcs => Sm.out ?_ | go_step | omega | (simp only [maxLen_eq]; omega) | exact trivial
    (refine OutQ.drop _ _ (pmz _) (by simp only [resv, ZK, look, loadv, loadn, loadnm, load1, load1m, hget, ↓reduceIte, Nat.reduceEqDiff, Nat.reduceAdd, Nat.reduceMul, Nat.reduceLeDiff, Nat.reduceLT, reduceCtorEq, TFWlJ, FR.out]) ⟨⟨l2, hl2⟩, (by simp only [resv, resA, ZK, look, loadv, loadn, loadnm, load1, load1m, hget, ↓reduceIte, Nat.reduceEqDiff, Nat.reduceAdd, Nat.reduceMul, Nat.reduceLeDiff, Nat.reduceLT, reduceCtorEq, TFWlJ, FR.out]; first | done | rfl), rfl⟩)
theorem len_le (L : List Bs) : L.length ≤ usd L := by
  induction L with
  | nil => exact Nat.zero_le _
  | cons x r ih => rw [usd_cons, List.length_cons]; omega
end Go.Proofs.YtmbecppmkglmhaaDoor
