/-
  The walks and the laws that the statement leans on, part 26.
-/
import Derived.Test.YtmbecppmkglmhaaDoorC11
import Derived.Test.YtmbecppmkglmhaaDoorC25
namespace Go.Proofs.YtmbecppmkglmhaaDoor
open Go
set_option linter.unusedVariables false
set_option linter.unusedSimpArgs false
set_option linter.defProp false
def TFWlH :=
  And.intro (And.intro (And.intro (And.intro (And.intro tyc3 (And.intro zmb3 tyc4)) (And.intro (And.intro zmb4 tyc5) (And.intro zmb5 tyc9))) (And.intro (And.intro (And.intro zmb9 tyc22) (And.intro elt22 mkz22)) (And.intro (And.intro apT22 elk22) (And.intro zmb22 tyc26)))) (And.intro (And.intro (And.intro mth26_27 (And.intro mth26_26 mth26_28)) (And.intro (And.intro con26 zmb26) (And.intro tyc29 zmb29))) (And.intro (And.intro (And.intro tyc37 elt37) (And.intro mkz37 mkc37)) (And.intro (And.intro apT37 elk37) (And.intro zmb37 tyc61))))) (And.intro (And.intro (And.intro (And.intro tyc71 (And.intro tyc82 zmb82)) (And.intro (And.intro tyc106 foff106_0) (And.intro fpart106_0 foff106_1))) (And.intro (And.intro (And.intro fpart106_1 foff106_2) (And.intro fpart106_2 foff106_3)) (And.intro (And.intro fpart106_3 foff106_4) (And.intro fpart106_4 foff106_5)))) (And.intro (And.intro (And.intro fpart106_5 (And.intro zmb106 bldT106)) (And.intro (And.intro Tryd.underlying3 Tryd.underlying4) (And.intro Tryd.underlying5 Tryd.underlying9))) (And.intro (And.intro (And.intro Tryd.underlying22 Tryd.underlying26) (And.intro Tryd.underlying29 Tryd.underlying37)) (And.intro (And.intro Tryd.underlying61 Tryd.underlying71) (And.intro Tryd.underlying82 Tryd.underlying106)))))
theorem Y1WlH {G R : Prop} (r : R) (h : R → G := by intro r; first | (apply WP.region; exact rvc_sound _ _ (Sm.out r)) | exact WP.drawK rfl mixed (by decide +kernel) (Sm.out r) | (apply WP.block; exact r) | (apply WP.skip; exact Yq r) | (apply WP.exit; exact Yq r) | (apply WP.ret; exact Sm.out r) | exact WP.cond rfl (fun _ => r) (fun hg => absurd hg (by decide)) | exact WP.cond rfl (fun hg => absurd hg (by decide)) (fun _ => r) | exact Rt.mk (And.intro (fun _ => Sm.out r) fun hg => absurd hg (by decide)) | exact Rt.mk (And.intro (fun hg => absurd hg (by decide)) fun _ => Sm.out r)) : G := h r
theorem YzWlH {G R : Prop} (r : R) (h : R → G := by intro r; first | (apply ExG.no; exact Sm.out r) | (apply Or.inl; apply ExG.no; exact Sm.out r) | exact Or.inl (And.intro (fun hg => absurd hg (by decide)) (ExG.no (Sm.out r)))) : G := h r
theorem YsWlH0 {P Q : Prop} (q : Q) (h : P = Q := by (try (conv => lhs; simp -dsimp only [ZK, rvc, capA, appA, litL, mkfv, drawF, headN, pureH, stp, dvc, calleeOf, gcall, pev, eff, newB, okd, og, ogs, ogo, ogp, slv, bltv, opd, litv, strip, one, both, putE, St.put, look, gdOf, gdv, picka, pickv, pickw, binv, bini, bins, binb, binp, binq, isSlT, bina, shp, eqCells, unv, convv, nilv, faddv, addp, idxav, idxp, load1, load1m, loadn, loadnm, loadv, hget, hset, hrep, hdel, slicev, slice3v, bnd, shift1, lenv, capv, IntKind.bits, extractv, fieldv, indexv, min2v, max2v, mkiv, tasv, tasz, cellsA, fillA, buildv, stC, oneC, rowMB, intsA, plN, appE, appZ, appC, appS, srcB, appNZ, appNC, VwL, srcC, srcZ, srcM, isBoolT, isPtrT, isSliceT, uOk, Value.oneCell', Nat.reducePow, Int.reducePow, Nat.reduceAdd, Nat.reduceMul, Nat.reduceSub, Nat.reduceLT, Nat.reduceLeDiff, Nat.reduceEqDiff, Nat.reduceBEq, Nat.reduceDiv, Nat.reduceMod, ↓reduceIte, reduceCtorEq, Int.reduceToNat, Int.reduceLT, Int.reduceLE, TFWlH, SeqQ, BlkQ, LoopQ, BodyQ, stL, intsA_map, List.length_replicate, hzH.2, FA.out, FR.out])) <;> exact rfl) : P := h.mpr q
theorem opZ_len (R : Bs) (s m k : Nat) (hs : 1 ≤ s) (hR : R.length = m * s) (hk : k = (all R).2 / s) : (opZ R s).length = (m - k) * s ∧ k * s ≤ (all R).2 ∧ k ≤ m := by
  have hul := all_le R
  have hd := Nat.div_mul_le_self (all R).2 s
  rw [← hk] at hd
  have hkm : k ≤ m := by
    have : k * s ≤ m * s := by omega
    exact Nat.le_of_mul_le_mul_right this (by omega)
  unfold opZ
  rw [← hk]
  refine ⟨?_, hd, hkm⟩
  simp only [List.length_append, List.length_drop, List.length_take, zrs, List.length_replicate]
  rw [Nat.sub_mul]
  omega
set_option maxRecDepth 20000 in
set_option maxHeartbeats 4000000 in
theorem open_dirty {c s n f m : Nat} {P Q R : Bs} (b : Nat) (a : DA) (l : DL) (hA : AOk c a) (hR : Rg s n f m P Q R a) (hl : LOk b a l) (hfm : f + m ≤ n) (hm : 1 ≤ m) (hD : opD R = true) (hc : c + m ≤ 980) :
    ((opR a f s R).2 = 0 → ACt Tryd.prog 38 [pt b 0, iv .i64 (f : Int), iv .i64 (m : Int)] (dH b a l) (fun r F' => ∃ g : OpG b (opR a f s R).1, r = .tup [pt g.x 0, .sl (all R).1.length (rowsA (all R).1), iv .i64 0] ∧ F' = (g.x, lgM b f m (ub (tlB R (all R).2 s)) (all R).2 false) :: dH b (opR a f s R).1 g.q.1)) ∧
    ((opR a f s R).2 ≠ 0 → ACt Tryd.prog 38 [pt b 0, iv .i64 (f : Int), iv .i64 (m : Int)] (dH b a l) (fun r F' => ∃ q : LS b (opR a f s R).1, r = .tup [.lit (.pointer none), .sl 0 [], iv .i64 (opR a f s R).2] ∧ F' = dH b (opR a f s R).1 q.1)) := by
  have hs : a.size = s := hR.st.s
  have hn : a.n = n := hR.st.n
  have hn2 := hA.n2
  have hs1 := hA.s1
  have hs2 := hA.s2
  have hms : m * s ≤ 400 * 512 := Nat.mul_le_mul (by omega) (by omega)
  have hRl := hR.lR
  have cM := wmay_ok b a l hn2 hR.st hfm hm
  have cZ := size_d b a l
  rw [hs] at cZ
  have cR := region_ct b a l hA hR.st hl f m hfm hm
  have eR : ((ub (P ++ (R ++ Q))).drop (f * s)).take (m * s) = ub R := by
    rw [← hR.lP, ← hR.lR, ub_drop, ub_take, List.drop_left, List.take_left]
  rw [eR] at cR
  have cA := crcAll_ct R (by omega)
  have hul := all_le R
  have hD2 := hD
  unfold opD at hD2
  have hdt := trm_dirty R (all R).2
  rw [hD2] at hdt
  have cT := trim_ct (ub (R.drop (all R).2)) (by rw [ub_len, List.length_drop]; omega)
  have cC := bcl_ct (ub (tlB R (all R).2 s)) (by rw [ub_len]; simp only [tlB, List.length_drop, List.length_take]; omega)
  change ACt Tryd.prog 59 [.slz .u8 (ub R)] [] (Fn (.tup [.sl (all R).1.length (rowsA (all R).1), iv .i64 (all R).2])) at cA
  obtain ⟨hzl, hdv, hkm⟩ := opZ_len R s m _ (by omega) hRl rfl
  have eX : opR a f s R = lyR a (f + (all R).2 / s) (cks s (ub (opZ R s))) := by unfold opR; rw [if_pos hD]
  have hcl : (cks s (ub (opZ R s))).length ≤ m - (all R).2 / s := cks_len_le (by omega) (by rw [ub_len, hzl]; omega)
  have cL := lay_ct b a l hA hl (f + (all R).2 / s) (ub (opZ R s)) (Nat.le_trans (Nat.add_le_add_left hkm f) (by omega)) (by rw [ub_len, hzl]; have := Nat.mul_le_mul_right s (Nat.sub_le m ((all R).2 / s)); omega) (by rw [hs]; exact Nat.le_trans (Nat.add_le_add_left (Nat.le_trans hcl (Nat.sub_le _ _)) c) (by omega))
  rw [hs, ← eX] at cL
  have eZ : ub (opZ R s) = ub (tlB R (all R).2 s) ++ List.replicate (R.length - (all R).2) 0 := by unfold opZ tlB; rw [ub_append, ub_zrs]
  obtain ⟨X, hX⟩ : ∃ X, X = opR a f s R := ⟨_, rfl⟩
  rw [← hX] at cL ⊢
  obtain ⟨Z, hZ⟩ : ∃ Z, Z = ub (opZ R s) := ⟨_, rfl⟩
  rw [← hZ] at cL eZ
  have hZl : Z.length = (m - (all R).2 / s) * s := by rw [hZ, ub_len, hzl]
  obtain ⟨u, hu⟩ : ∃ u, (all R).2 = u := ⟨_, rfl⟩
  obtain ⟨L, hL⟩ : ∃ L, (all R).1 = L := ⟨_, rfl⟩
  rw [hu] at cA hul hdt cT cC hdv hkm cL eZ hZl ⊢
  rw [hL] at cA ⊢
  obtain ⟨k, hk⟩ : ∃ k, k = u / s := ⟨_, rfl⟩
  have d1 : (u : Int).tdiv (s : Int) = (k : Int) := by rw [hk, Int.tdiv_eq_ediv_of_nonneg (by omega)]; simp
  have w1 : IntKind.i64.wrap (k : Int) = (k : Int) := by have := Nat.div_le_self u s; rw [wrap_i64 (by omega) (by omega)]
  unfold tlB at cC eZ ⊢
  rw [← hk] at cC hdv hkm cL eZ hZl ⊢
  obtain ⟨ks, hks⟩ : ∃ ks, ks = k * s := ⟨_, rfl⟩
  have w2 : IntKind.i64.wrap ((k : Int) * (s : Int)) = (ks : Int) := by rw [← Int.natCast_mul, ← hks]; rw [← hks] at hdv; exact wrap_i64 (by omega) (by omega)
  have w3 : IntKind.i64.wrap ((m : Int) - (k : Int)) = ((m - k : Nat) : Int) := by rw [wrap_i64 (by omega) (by omega)]; omega
  have w4 : IntKind.i64.wrap (((m - k : Nat) : Int) * (s : Int)) = (((m - k) * s : Nat) : Int) := by
    rw [← Int.natCast_mul, wrap_i64 (by omega) (by have := Nat.mul_le_mul_right s (Nat.sub_le m k); omega)]
  have w5 : IntKind.i64.wrap ((f : Int) + (k : Int)) = ((f + k : Nat) : Int) := by rw [wrap_i64 (by omega) (by omega)]; omega
  have hZb : (m - k) * s ≤ 400 * 512 := by have := Nat.mul_le_mul_right s (Nat.sub_le m k); omega
  rw [← hks] at cC hdv eZ ⊢
  have e1 : ((ub R).take u).drop ks = ub ((R.take u).drop ks) := by rw [ub_take, ub_drop]
  have e2 : (ub R).drop u = ub (R.drop u) := ub_drop _ _
  have e3 : (ub R).take R.length = ub R := List.take_of_length_le (by rw [ub_len]; omega)
  obtain ⟨H, hH⟩ : ∃ H, H = ub ((R.take u).drop ks) := ⟨_, rfl⟩
  rw [← hH] at cC e1 eZ ⊢
  have hHl : H.length = u - ks := by rw [hH, ub_len]; simp only [List.length_drop, List.length_take]; omega
  obtain ⟨E, hE⟩ : ∃ E, E = ub (R.drop u) := ⟨_, rfl⟩
  rw [← hE] at cT e2 hdt
  have rl := ub_len R
  obtain ⟨B, hB⟩ : ∃ B, B = ub R := ⟨_, rfl⟩
  rw [← hB] at cR cA e1 e2 e3 rl
  obtain ⟨z, hz⟩ : ∃ z, z = (m - k) * s := ⟨_, rfl⟩
  rw [← hz] at w4 hZb hZl
  have hzH : R.length - u = z - H.length ∧ u - ks ≤ z := by
    rw [hHl, hz, hRl, Nat.sub_mul, ← hks]; omega
  have k00 : ((0 : Int) != 0) = false := rfl
  have s0 : (s : Int) ≠ 0 := by omega
  have cF := fun x => cL.frzG (b := x) (k := .u8) (zs := Z) (s0 := z) (ty := 5) (args := [pt b 0, iv .i64 ((f + k : Nat) : Int), ms x 0 z z]) (by
    have h1 : Z.take z = Z := List.take_of_length_le (by omega)
    have h2 : z ≤ 9223372036854775807 := by omega
    simp [frz, maxLen_eq, hZl, h1, h2])
  have q1 : z ≤ 9223372036854775807 := by omega
  have eZ2 : H ++ (List.replicate z (0 : Int)).drop (u - ks) = Z := by rw [eZ, List.drop_replicate, hzH.1, hHl]
  clear hX hE hB hZ hH hL hu hk hks
  unfold lgM
  refine ⟨fun hX0 => ?_, fun hX0 => ?_⟩
  · have kX : (X.2 != 0) = false := by rw [hX0]; rfl
    refine ACt.intro Tryd.func38 rfl (by kernel_rfl) (by simp [Tryd.ntmps38]) (fun cx => ?_)
    simp only [argE, Tryd.ntmps38, Tryd.results38]
    first | (have FRx := FR; clear FRx) | have FR := fr0S
    have FA := Sm.mk (And.intro TFWlH (And.intro w5 (And.intro eZ2 (And.intro k00 (And.intro rl (And.intro hul (And.intro hdv (And.intro d1 (And.intro w1 (And.intro w2 (And.intro w3 (And.intro w4 (And.intro s0 (And.intro e1 (And.intro e2 (And.intro e3 (And.intro hdt (And.intro q1 hHl))))))))))))))))))
    repeat' first | (apply Sm.mk; refine YsWlH0 ?_) | refine WP.seq fun K hK => ?_ | (apply Ob.mk; exact Yo) | refine And.intro (Ob.out ?_) ?_ | ((fail_if_success (show WP _ _ _ (.region 14 _ _) _ _)); refine Y1WlH ?_) | refine CallV.updM (cM) (pmz _) (Sm.out ?_) | ((first | refine ExF.up ?_ (cM) (Sm.out ?_) | refine ExG.up ?_ (fun _ => cM) (Sm.out ?_) | refine ExG.upJ ?_ (fun _ => cM) (Sm.out ?_) | refine ExG.upI ?_ (fun _ => cM) (Ob.out ?_) (Sm.out ?_)); focus (exact ⟨_, (pmz _)⟩)) | refine CallV.updM (cR) (pmz _) (Sm.out ?_) | ((first | refine ExF.up ?_ (cR) (Sm.out ?_) | refine ExG.up ?_ (fun _ => cR) (Sm.out ?_) | refine ExG.upJ ?_ (fun _ => cR) (Sm.out ?_) | refine ExG.upI ?_ (fun _ => cR) (Ob.out ?_) (Sm.out ?_)); focus (exact ⟨_, (pmz _)⟩)) | (first | refine CallV.fn (cA) (Sm.out ?_) | refine ExF.mk (cA) (Sm.out ?_) | refine ExG.mk (fun _ => cA) (Sm.out ?_) | refine ExG.mkJ (fun _ => cA) (Sm.out ?_) | refine ExG.mkI (Ob.out ?_) (fun _ => cA) (Sm.out ?_)) | refine CallV.updM (cZ) (pmz _) (Sm.out ?_) | ((first | refine ExF.up ?_ (cZ) (Sm.out ?_) | refine ExG.up ?_ (fun _ => cZ) (Sm.out ?_) | refine ExG.upJ ?_ (fun _ => cZ) (Sm.out ?_) | refine ExG.upI ?_ (fun _ => cZ) (Ob.out ?_) (Sm.out ?_)); focus (exact ⟨_, (pmz _)⟩)) | (first | refine CallV.fn (cT) (Sm.out ?_) | refine ExF.mk (cT) (Sm.out ?_) | refine ExG.mk (fun _ => cT) (Sm.out ?_) | refine ExG.mkJ (fun _ => cT) (Sm.out ?_) | refine ExG.mkI (Ob.out ?_) (fun _ => cT) (Sm.out ?_)) | (refine CallV.exM (cF _) (pmz _) (fun g => Sm.out ?_)) | refine YzWlH ?_ | (refine WP.cond rfl (fun hc => ?_) (fun hc => ?_) <;> (try simp only [ZC, reduceCtorEq, ZD] at hc) <;> (try exact absurd hc (by decide)) <;> (try (exfalso; omega))) | refine Rt.mk (And.intro (fun hg => Sm.out ?_) fun hg => Sm.out ?_) | (refine Nu.mk ?_; first | (fail_if_success have := nb1); intro nb1 | (fail_if_success have := nb2); intro nb2 | (fail_if_success have := nb3); intro nb3 | (fail_if_success have := nb4); intro nb4 | (fail_if_success have := nb5); intro nb5 | (fail_if_success have := nb6); intro nb6 | (fail_if_success have := nb7); intro nb7 | (fail_if_success have := nb8); intro nb8 | intro nbz) | (apply Yfr; refine Yf FR fun hFRb FR => ?_) | refine Two.mk ?_ ?_ | (apply Yxc; exact Yx) | refine Cs.mk fun hcs => Sm.out ?_ | go_step | omega | (simp only [maxLen_eq]; omega) | exact trivial
    obtain ⟨l2, hl2⟩ := g
    simp only [List.append_nil]
    first | (have FRx := FR; clear FRx) | have FR := fr0S
    have FA := Sm.mk (And.intro TFWlH kX)
    repeat' first | (apply Sm.mk; refine Ys ?_) | refine WP.seq fun K hK => ?_ | (apply Ob.mk; exact Yo) | refine And.intro (Ob.out ?_) ?_ | refine Y1WlH ?_ | refine Yc (c := cC) (r := ?_) | refine YzWlH ?_ | (refine WP.cond rfl (fun hc => ?_) (fun hc => ?_) <;> (try simp only [ZC, reduceCtorEq, ZD] at hc) <;> (try exact absurd hc (by decide)) <;> (try (exfalso; omega))) | refine Rt.mk (And.intro (fun hg => Sm.out ?_) fun hg => Sm.out ?_) | (refine Nu.mk ?_; first | (fail_if_success have := nb1); intro nb1 | (fail_if_success have := nb2); intro nb2 | (fail_if_success have := nb3); intro nb3 | (fail_if_success have := nb4); intro nb4 | (fail_if_success have := nb5); intro nb5 | (fail_if_success have := nb6); intro nb6 | (fail_if_success have := nb7); intro nb7 | (fail_if_success have := nb8); intro nb8 | intro nbz) | (apply Yfr; refine Yf FR fun hFRb FR => ?_) | refine Two.mk ?_ ?_ | (apply Yxc; exact Yx) | refine Cs.mk fun hcs => Sm.out ?_ | go_step | omega | (simp only [maxLen_eq]; omega) | exact trivial
    (refine OutQ.drop _ _ (pmz _) (by simp only [resv, ZK, look, loadv, loadn, loadnm, load1, load1m, hget, ↓reduceIte, Nat.reduceEqDiff, Nat.reduceAdd, Nat.reduceMul, Nat.reduceLeDiff, Nat.reduceLT, reduceCtorEq, TFWlH, FR.out]) ⟨⟨nb2, l2, hl2⟩, (by simp only [resv, resA, ZK, look, loadv, loadn, loadnm, load1, load1m, hget, ↓reduceIte, Nat.reduceEqDiff, Nat.reduceAdd, Nat.reduceMul, Nat.reduceLeDiff, Nat.reduceLT, reduceCtorEq, TFWlH, FR.out]; first | done | rfl), rfl⟩)
  · have kX : (X.2 != 0) = true := by simpa using hX0
    refine ACt.intro Tryd.func38 rfl (by kernel_rfl) (by simp [Tryd.ntmps38]) (fun cx => ?_)
    simp only [argE, Tryd.ntmps38, Tryd.results38]
    first | (have FRx := FR; clear FRx) | have FR := fr0S
    have FA := Sm.mk (And.intro TFWlH (And.intro w5 (And.intro eZ2 (And.intro k00 (And.intro rl (And.intro hul (And.intro hdv (And.intro d1 (And.intro w1 (And.intro w2 (And.intro w3 (And.intro w4 (And.intro s0 (And.intro e1 (And.intro e2 (And.intro e3 (And.intro hdt (And.intro q1 hHl))))))))))))))))))
    repeat' first | (apply Sm.mk; refine YsWlH0 ?_) | refine WP.seq fun K hK => ?_ | (apply Ob.mk; exact Yo) | refine And.intro (Ob.out ?_) ?_ | ((fail_if_success (show WP _ _ _ (.region 14 _ _) _ _)); refine Y1WlH ?_) | refine CallV.updM (cM) (pmz _) (Sm.out ?_) | ((first | refine ExF.up ?_ (cM) (Sm.out ?_) | refine ExG.up ?_ (fun _ => cM) (Sm.out ?_) | refine ExG.upJ ?_ (fun _ => cM) (Sm.out ?_) | refine ExG.upI ?_ (fun _ => cM) (Ob.out ?_) (Sm.out ?_)); focus (exact ⟨_, (pmz _)⟩)) | refine CallV.updM (cR) (pmz _) (Sm.out ?_) | ((first | refine ExF.up ?_ (cR) (Sm.out ?_) | refine ExG.up ?_ (fun _ => cR) (Sm.out ?_) | refine ExG.upJ ?_ (fun _ => cR) (Sm.out ?_) | refine ExG.upI ?_ (fun _ => cR) (Ob.out ?_) (Sm.out ?_)); focus (exact ⟨_, (pmz _)⟩)) | (first | refine CallV.fn (cA) (Sm.out ?_) | refine ExF.mk (cA) (Sm.out ?_) | refine ExG.mk (fun _ => cA) (Sm.out ?_) | refine ExG.mkJ (fun _ => cA) (Sm.out ?_) | refine ExG.mkI (Ob.out ?_) (fun _ => cA) (Sm.out ?_)) | refine CallV.updM (cZ) (pmz _) (Sm.out ?_) | ((first | refine ExF.up ?_ (cZ) (Sm.out ?_) | refine ExG.up ?_ (fun _ => cZ) (Sm.out ?_) | refine ExG.upJ ?_ (fun _ => cZ) (Sm.out ?_) | refine ExG.upI ?_ (fun _ => cZ) (Ob.out ?_) (Sm.out ?_)); focus (exact ⟨_, (pmz _)⟩)) | (first | refine CallV.fn (cT) (Sm.out ?_) | refine ExF.mk (cT) (Sm.out ?_) | refine ExG.mk (fun _ => cT) (Sm.out ?_) | refine ExG.mkJ (fun _ => cT) (Sm.out ?_) | refine ExG.mkI (Ob.out ?_) (fun _ => cT) (Sm.out ?_)) | (refine CallV.exM (cF _) (pmz _) (fun g => Sm.out ?_)) | refine YzWlH ?_ | (refine WP.cond rfl (fun hc => ?_) (fun hc => ?_) <;> (try simp only [ZC, reduceCtorEq, ZD] at hc) <;> (try exact absurd hc (by decide)) <;> (try (exfalso; omega))) | refine Rt.mk (And.intro (fun hg => Sm.out ?_) fun hg => Sm.out ?_) | (refine Nu.mk ?_; first | (fail_if_success have := nb1); intro nb1 | (fail_if_success have := nb2); intro nb2 | (fail_if_success have := nb3); intro nb3 | (fail_if_success have := nb4); intro nb4 | (fail_if_success have := nb5); intro nb5 | (fail_if_success have := nb6); intro nb6 | (fail_if_success have := nb7); intro nb7 | (fail_if_success have := nb8); intro nb8 | intro nbz) | (apply Yfr; refine Yf FR fun hFRb FR => ?_) | refine Two.mk ?_ ?_ | (apply Yxc; exact Yx) | refine Cs.mk fun hcs => Sm.out ?_ | go_step | omega | (simp only [maxLen_eq]; omega) | exact trivial
    obtain ⟨l2, hl2⟩ := g
    simp only [List.append_nil]
    first | (have FRx := FR; clear FRx) | have FR := fr0S
    have FA := Sm.mk (And.intro TFWlH kX)
    repeat' first | (apply Sm.mk; refine Ys ?_) | refine WP.seq fun K hK => ?_ | (apply Ob.mk; exact Yo) | refine And.intro (Ob.out ?_) ?_ | refine Y1WlH ?_ | refine YzWlH ?_ | (refine WP.cond rfl (fun hc => ?_) (fun hc => ?_) <;> (try simp only [ZC, reduceCtorEq, ZD] at hc) <;> (try exact absurd hc (by decide)) <;> (try (exfalso; omega))) | refine Rt.mk (And.intro (fun hg => Sm.out ?_) fun hg => Sm.out ?_) | (refine Nu.mk ?_; first | (fail_if_success have := nb1); intro nb1 | (fail_if_success have := nb2); intro nb2 | (fail_if_success have := nb3); intro nb3 | (fail_if_success have := nb4); intro nb4 | (fail_if_success have := nb5); intro nb5 | (fail_if_success have := nb6); intro nb6 | (fail_if_success have := nb7); intro nb7 | (fail_if_success have := nb8); intro nb8 | intro nbz) | (apply Yfr; refine Yf FR fun hFRb FR => ?_) | refine Two.mk ?_ ?_ | (apply Yxc; exact Yx) | refine Cs.mk fun hcs => Sm.out ?_ | go_step | omega | (simp only [maxLen_eq]; omega) | exact trivial
    (refine OutQ.wk (Wk.cons (i := 7) (by simp only [look, ↓reduceIte, Nat.reduceEqDiff]; first | done | rfl) (fun w I v h => Rep.nils h)) ?_)
    (refine OutQ.drop _ _ (pmz _) (by simp only [resv, ZK, look, loadv, loadn, loadnm, load1, load1m, hget, ↓reduceIte, Nat.reduceEqDiff, Nat.reduceAdd, Nat.reduceMul, Nat.reduceLeDiff, Nat.reduceLT, reduceCtorEq, TFWlH, FR.out]) ⟨⟨l2, hl2⟩, (by simp only [resv, resA, ZK, look, loadv, loadn, loadnm, load1, load1m, hget, ↓reduceIte, Nat.reduceEqDiff, Nat.reduceAdd, Nat.reduceMul, Nat.reduceLeDiff, Nat.reduceLT, reduceCtorEq, TFWlH, FR.out]; first | done | rfl), rfl⟩)
end Go.Proofs.YtmbecppmkglmhaaDoor
