/-
  The walks and the laws that the statement leans on, part 40.
-/
import Derived.Test.YteoajodoejoccaaL10
import Derived.Test.YteoajodoejoccaaL39
namespace Go.Proofs.Yteoajodoejoccaa
open Go Wi
set_option linter.unusedVariables false
set_option linter.unusedSimpArgs false
set_option linter.defProp false
def TFPtH :=
  And.intro (And.intro (And.intro (And.intro (And.intro (And.intro tyc0 tyc3) (And.intro zmb3 tyc4)) (And.intro (And.intro zmb4 tyc5) (And.intro zmb5 (And.intro tyc22 elt22)))) (And.intro (And.intro (And.intro mkz22 mkc22) (And.intro apT22 (And.intro elk22 zmb22))) (And.intro (And.intro tyc25 mth25_45) (And.intro mth25_44 (And.intro mth25_43 con25))))) (And.intro (And.intro (And.intro (And.intro zmb25 tyc28) (And.intro zmb28 (And.intro tyc30 mth30_37))) (And.intro (And.intro con30 zmb30) (And.intro tyc31 (And.intro tyc36 elt36)))) (And.intro (And.intro (And.intro mkz36 apT36) (And.intro elk36 (And.intro zmb36 tyc38))) (And.intro (And.intro foff38_0 fpart38_0) (And.intro foff38_1 (And.intro fpart38_1 zmb38)))))) (And.intro (And.intro (And.intro (And.intro (And.intro bldT38 tyc40) (And.intro foff40_0 fpart40_0)) (And.intro (And.intro foff40_1 fpart40_1) (And.intro zmb40 (And.intro bldT40 tyc41)))) (And.intro (And.intro (And.intro tyc48 foff48_0) (And.intro fpart48_0 (And.intro foff48_1 fpart48_1))) (And.intro (And.intro foff48_2 fpart48_2) (And.intro foff48_3 (And.intro fpart48_3 foff48_4))))) (And.intro (And.intro (And.intro (And.intro fpart48_4 foff48_5) (And.intro fpart48_5 (And.intro fe48 zmb48))) (And.intro (And.intro bldT48 Try.underlying0) (And.intro Try.underlying3 (And.intro Try.underlying4 Try.underlying5)))) (And.intro (And.intro (And.intro Try.underlying22 Try.underlying25) (And.intro Try.underlying28 (And.intro Try.underlying30 Try.underlying31))) (And.intro (And.intro Try.underlying36 Try.underlying38) (And.intro Try.underlying40 (And.intro Try.underlying41 Try.underlying48))))))
theorem Y1PtH {G R : Prop} (r : R) (h : R → G := by intro r; first | (apply WP.region; exact rvc_sound _ _ (Sm.out r)) | exact WP.drawP (ia := 12) (is := 13) (k := 15) mixed (by decide +kernel) (by decide +kernel) (Sm.out r) | exact WP.drawK rfl mixed (by decide +kernel) (Sm.out r) | (apply WP.block; exact r) | (apply WP.skip; exact Yq r) | (apply WP.exit; exact Yq r) | (apply WP.ret; exact Sm.out r) | exact WP.cond rfl (fun _ => r) (fun hg => absurd hg (by decide)) | exact WP.cond rfl (fun hg => absurd hg (by decide)) (fun _ => r) | exact Rt.mk (And.intro (fun _ => Sm.out r) fun hg => absurd hg (by decide)) | exact Rt.mk (And.intro (fun hg => absurd hg (by decide)) fun _ => Sm.out r)) : G := h r
theorem YzPtH {G R : Prop} (r : R) (h : R → G := by intro r; first | (apply ExG.no; exact Sm.out r) | (apply Or.inl; apply ExG.no; exact Sm.out r) | exact Or.inl (And.intro (fun hg => absurd hg (by decide)) (ExG.no (Sm.out r)))) : G := h r
theorem YsPtH0 {P Q : Prop} (q : Q) (h : P = Q := by (try (conv => lhs; simp -dsimp only [ZK, rvc, capA, appA, litL, mkfv, drawF, headN, pureH, stp, dvc, calleeOf, gcall, pev, eff, newB, okd, og, ogs, ogo, ogp, slv, bltv, opd, litv, strip, one, both, putE, St.put, look, gdOf, gdv, picka, pickv, pickw, binv, bini, bins, binb, binp, binq, isSlT, bina, shp, eqCells, unv, convv, nilv, faddv, addp, idxav, idxp, load1, load1m, loadn, loadnm, loadv, hget, hset, hrep, hdel, slicev, slice3v, bnd, shift1, lenv, capv, IntKind.bits, extractv, fieldv, indexv, min2v, max2v, mkiv, tasv, tasz, cellsA, fillA, buildv, stC, oneC, rowMB, intsA, plN, appE, appZ, appC, appS, srcB, appNZ, appNC, VwL, srcC, srcZ, srcM, isBoolT, isPtrT, isSliceT, uOk, Value.oneCell', Nat.reducePow, Int.reducePow, Nat.reduceAdd, Nat.reduceMul, Nat.reduceSub, Nat.reduceLT, Nat.reduceLeDiff, Nat.reduceEqDiff, Nat.reduceBEq, Nat.reduceDiv, Nat.reduceMod, ↓reduceIte, reduceCtorEq, Int.reduceToNat, Int.reduceLT, Int.reduceLE, TFPtH, SeqQ, BlkQ, LoopQ, BodyQ, dkn, kst, fvOf, undef, beq_self_eq_true, Bool.true_beq, Bool.false_beq, Bool.not_true, Bool.not_false, FA.out, FR.out])) <;> exact rfl) : P := h.mpr q
theorem YsPtH1 {P Q : Prop} (q : Q) (h : P = Q := by (try (conv => lhs; simp -dsimp only [ZK, rvc, capA, appA, litL, mkfv, drawF, headN, pureH, stp, dvc, calleeOf, gcall, pev, eff, newB, okd, og, ogs, ogo, ogp, slv, bltv, opd, litv, strip, one, both, putE, St.put, look, gdOf, gdv, picka, pickv, pickw, binv, bini, bins, binb, binp, binq, isSlT, bina, shp, eqCells, unv, convv, nilv, faddv, addp, idxav, idxp, load1, load1m, loadn, loadnm, loadv, hget, hset, hrep, hdel, slicev, slice3v, bnd, shift1, lenv, capv, IntKind.bits, extractv, fieldv, indexv, min2v, max2v, mkiv, tasv, tasz, cellsA, fillA, buildv, stC, oneC, rowMB, intsA, plN, appE, appZ, appC, appS, srcB, appNZ, appNC, VwL, srcC, srcZ, srcM, isBoolT, isPtrT, isSliceT, uOk, Value.oneCell', Nat.reducePow, Int.reducePow, Nat.reduceAdd, Nat.reduceMul, Nat.reduceSub, Nat.reduceLT, Nat.reduceLeDiff, Nat.reduceEqDiff, Nat.reduceBEq, Nat.reduceDiv, Nat.reduceMod, ↓reduceIte, reduceCtorEq, Int.reduceToNat, Int.reduceLT, Int.reduceLE, TFPtH, SeqQ, BlkQ, LoopQ, BodyQ, hin, FA.out, FR.out])) <;> exact rfl) : P := h.mpr q
structure LG where
  i : Nat
  l : DL
  a : DA
  H : Nat × List Int
def Hld (s n f m : Nat) (E : Nat × List Int) (a : DA) : Prop := ∃ W, Stl s n (ub W) a ∧ W.length = n * s ∧ slP W f m s = E
structure AF (c s : Nat) (a : DA) (Hh Hn : Nat × List Int) : Prop where
  A : AOk c a
  cr : ∀ K T : Int, ∃ E, Hld s 9 1 3 E (crA a K T) ∧ (E = Hh ∨ E = Hn)
  l1 : Hh.2.length ≤ 1000000
  l2 : Hn.2.length ≤ 1000000
theorem Hld.AF {c s : Nat} {a : DA} {E : Nat × List Int} (h : Hld s 9 1 3 E a) (hA : AOk c a) (hl : E.2.length ≤ 1000000) : AF c s a E E :=
  ⟨hA, fun K T => by obtain ⟨W, h1, h2, h3⟩ := h; exact ⟨E, ⟨W, h1.crA K T, h2, h3⟩, .inl rfl⟩, hl, hl⟩
set_option maxRecDepth 20000 in
set_option maxHeartbeats 8000000 in
theorem lasts_ct (Z : Int) (L : List Ac) (x1 x2 x3 x4 x5 x6 : Int) (Y : Bs) (hF : x1 < 9223372036854775808) : ACt Try.prog 4 [iv .i64 Z, .sl L.length (acs L), .agg [iv .i64 x1, iv .i64 x2, iv .i64 x3, iv .i64 x4, iv .i64 x5, iv .i64 x6], .slz .u8 (ub Y)] [] (Fn (bv true)) := by
  have cA := awake6_ct
  have yl := ub_len Y
  obtain ⟨q3, hq3, cL⟩ := long_b L
  have hCl := acs_len L
  have hdr := acs_drop L
  obtain ⟨C, hC⟩ : ∃ C, C = acs L := ⟨_, rfl⟩
  rw [← hC] at hCl cL ⊢
  simp only [← hC] at hdr
  obtain ⟨q1, e1⟩ : ∃ q, decide (Z < 32) = q := ⟨_, rfl⟩
  obtain ⟨q2, e2⟩ : ∃ q, decide (Z > 512) = q := ⟨_, rfl⟩
  obtain ⟨q5, e5⟩ : ∃ q, decide ((Y.length : Int) > 2000) = q := ⟨_, rfl⟩
  refine ACt.intro Try.func4 rfl (by kernel_rfl) (by simp [Try.ntmps4]) (fun cx => ?_)
  simp only [argE, Try.ntmps4, Try.results4]
  first | (have FRx := FR; clear FRx) | have FR := fr0S
  have FA := Sm.mk (And.intro TFPtH (And.intro yl (And.intro e1 (And.intro e2 e5))))
  repeat' first | (apply Sm.mk; refine Ys ?_) | refine WP.seq fun K hK => ?_ | (apply Ob.mk; exact Yo) | refine And.intro (Ob.out ?_) ?_ | ((fail_if_success (show WP _ _ _ (.region 5 _ _) _ _)); refine Y1PtH ?_) | refine Yc (c := cA) (r := ?_) | refine Yc (c := cL) (r := ?_) | refine YzPtH ?_ | (refine WP.cond rfl (fun hc => ?_) (fun hc => ?_) <;> (try simp only [ZC, reduceCtorEq, ZD] at hc) <;> (try exact absurd hc (by decide)) <;> (try (exfalso; omega))) | refine Rt.mk (And.intro (fun hg => Sm.out ?_) fun hg => Sm.out ?_) | (refine Nu.mk ?_; first | (fail_if_success have := nb1); intro nb1 | (fail_if_success have := nb2); intro nb2 | (fail_if_success have := nb3); intro nb3 | (fail_if_success have := nb4); intro nb4 | (fail_if_success have := nb5); intro nb5 | (fail_if_success have := nb6); intro nb6 | (fail_if_success have := nb7); intro nb7 | (fail_if_success have := nb8); intro nb8 | (fail_if_success have := nb9); intro nb9 | (fail_if_success have := nb10); intro nb10 | intro nbz) | (apply Yfr; refine Yf FR fun hFRb FR => ?_) | refine Two.mk ?_ ?_ | (apply Yxc; exact Yx) | refine Cs.mk fun hcs => Sm.out ?_ | go_step | omega | (simp only [maxLen_eq]; omega) | exact trivial
  · (refine Yg ?_; try exact trivial)
  obtain ⟨⟨⟨q7, q8⟩, q9⟩, q10⟩ : ((q1 = false ∧ q2 = false) ∧ q3 = false) ∧ q5 = false := by simpa [Bool.or_eq_false_iff] using hc
  have h3 := of_decide_eq_false (e1.trans q7)
  have h4 := of_decide_eq_false (e2.trans q8)
  obtain ⟨hL1, hL2⟩ := hq3 q9
  have h5 := of_decide_eq_false (e5.trans q10)
  clear e1 e2 e5 hq3
  obtain ⟨s, rfl⟩ : ∃ s : Nat, Z = (s : Int) := ⟨Z.toNat, by omega⟩
  obtain ⟨hA0, hf0, ⟨W, hS0⟩⟩ := mkA_spec 9 s (by omega) (by omega) (by omega) (by omega)
  refine WP.sub (s' := ⟨[(6, pt nb1 0), (0, iv .i64 (s : Int)), (1, .sl L.length C), (3, .slz .u8 (ub Y))], [(nb1, crM x1 x2 x3 x4 x5 x6)]⟩) (Sub.of_env [] (by exact pmz _) (by simp [look])) ?_
  obtain ⟨xb, hxb⟩ : ∃ x, x = nb1 := ⟨_, rfl⟩
  rw [← hxb]
  clear hxb cA cL
  have cM : ACt Try.prog 8 [iv .i64 9, iv .i64 (s : Int)] ([(xb, crM x1 x2 x3 x4 x5 x6)] ++ []) (fun r F' => ∃ g : MS 9 s, r = pt g.1.1 0 ∧ F' = [(xb, crM x1 x2 x3 x4 x5 x6)] ++ dH g.1.1 (mkA 9 s) g.1.2) := lift0 _ (marked_ct 9 s (by omega) (by omega) (by omega) (by omega))
  obtain ⟨a0, ha0⟩ : ∃ a, a = mkA 9 s := ⟨_, rfl⟩
  first | (have FRx := FR; clear FRx) | have FR := fr0S
  have FA := Sm.mk (TFPtH)
  repeat' first | (apply Sm.mk; refine Ys ?_) | refine WP.seq fun K hK => ?_ | (apply Ob.mk; exact Yo) | refine And.intro (Ob.out ?_) ?_ | ((fail_if_success (show WP _ _ _ (.region 6 _ _) _ _)); refine Y1PtH ?_) | (refine CallV.exM (cM) (pmz _) (fun g => Sm.out ?_)) | refine YzPtH ?_ | (refine WP.cond rfl (fun hc => ?_) (fun hc => ?_) <;> (try simp only [ZC, reduceCtorEq, ZD] at hc) <;> (try exact absurd hc (by decide)) <;> (try (exfalso; omega))) | refine Rt.mk (And.intro (fun hg => Sm.out ?_) fun hg => Sm.out ?_) | (refine Nu.mk ?_; first | (fail_if_success have := nb1); intro nb1 | (fail_if_success have := nb2); intro nb2 | (fail_if_success have := nb3); intro nb3 | (fail_if_success have := nb4); intro nb4 | (fail_if_success have := nb5); intro nb5 | (fail_if_success have := nb6); intro nb6 | (fail_if_success have := nb7); intro nb7 | (fail_if_success have := nb8); intro nb8 | (fail_if_success have := nb9); intro nb9 | (fail_if_success have := nb10); intro nb10 | intro nbz) | (apply Yfr; refine Yf FR fun hFRb FR => ?_) | refine Two.mk ?_ ?_ | (apply Yxc; exact Yx) | refine Cs.mk fun hcs => Sm.out ?_ | go_step | omega | (simp only [maxLen_eq]; omega) | exact trivial
  obtain ⟨⟨b, l⟩, hl⟩ := g
  simp only [List.append_nil] at hl ⊢
  rw [← ha0] at hl hA0 hf0 hS0 ⊢
  clear ha0 cM
  have hW : W.length = 9 * s := by
    have h1 := flat_len (size := a0.size) a0.S hA0.Sr
    rw [hS0.T, ub_len, hA0.Sl, hS0.n, hS0.s] at h1
    exact h1
  have hR0 := rg_of (f := 1) (m := 6) hS0 hW (by omega)
  have cF := lift0 [(xb, crM x1 x2 x3 x4 x5 x6)] (slfmt_ct b a0 l hA0 hl 1 3 (by rw [hS0.n]; omega) (by omega) hS0.dk (by omega))
  rw [hS0.s] at cF
  have hF' := (fmt_rg hA0 hR0 (by omega)).up hf0
  change (fmX 1 s 6 a0).2 = 0 ∧ Rg s 9 1 6 _ _ (zrs (6 * s)) (fmX 1 s 6 a0).1 ∧ (fmX 1 s 6 a0).1.f = -1 at hF'
  obtain ⟨hF0, hR1, hf1⟩ := hF'
  have hA1 : AOk 17 (fmX 1 s 6 a0).1 := by
    refine (lyR_ok _ a0 _ _ hA0).le ?_
    have := cks_m (m := 6) (s := s) (by omega) (z := List.replicate (6 * s) (0 : Int)) (by simp)
    omega
  rw [hF0] at cF
  obtain ⟨a1, ha1⟩ : ∃ a, a = (fmX 1 s 6 a0).1 := ⟨_, rfl⟩
  rw [← ha1] at cF hR1 hA1
  clear ha1 hF0 hf1
  first | (have FRx := FR; clear FRx) | have FR := fr0S
  have FA := Sm.mk (TFPtH)
  repeat' first | (apply Sm.mk; refine Ys ?_) | refine WP.seq fun K hK => ?_ | (apply Ob.mk; exact Yo) | refine And.intro (Ob.out ?_) ?_ | ((fail_if_success (show WP _ _ _ (.region 7 _ _) _ _)); refine Y1PtH ?_) | (refine CallV.exM (cF) (pmz _) (fun g => Sm.out ?_)) | refine YzPtH ?_ | (refine WP.cond rfl (fun hc => ?_) (fun hc => ?_) <;> (try simp only [ZC, reduceCtorEq, ZD] at hc) <;> (try exact absurd hc (by decide)) <;> (try (exfalso; omega))) | refine Rt.mk (And.intro (fun hg => Sm.out ?_) fun hg => Sm.out ?_) | (refine Nu.mk ?_; first | (fail_if_success have := nb1); intro nb1 | (fail_if_success have := nb2); intro nb2 | (fail_if_success have := nb3); intro nb3 | (fail_if_success have := nb4); intro nb4 | (fail_if_success have := nb5); intro nb5 | (fail_if_success have := nb6); intro nb6 | (fail_if_success have := nb7); intro nb7 | (fail_if_success have := nb8); intro nb8 | (fail_if_success have := nb9); intro nb9 | (fail_if_success have := nb10); intro nb10 | intro nbz) | (apply Yfr; refine Yf FR fun hFRb FR => ?_) | refine Two.mk ?_ ?_ | (apply Yxc; exact Yx) | refine Cs.mk fun hcs => Sm.out ?_ | go_step | omega | (simp only [maxLen_eq]; omega) | exact trivial
  obtain ⟨l1, hl1⟩ := g
  try simp only [List.append_nil]
  clear cF hl hR0
  have lP := hR1.lP
  obtain ⟨W1, hW1⟩ : ∃ W1, W1 = W.take (1 * s) ++ (zrs (6 * s) ++ W.drop ((1 + 6) * s)) := ⟨_, rfl⟩
  have hS1 := hR1.st
  rw [← hW1] at hS1
  have hW1l : W1.length = 9 * s := by
    rw [hW1]
    simp only [List.length_append, List.length_take, List.length_drop, zrs, List.length_replicate]
    omega
  have hE1 : slP W1 1 3 s = (0, []) := by
    have d1 : W1.drop (1 * s) = zrs (6 * s) ++ W.drop ((1 + 6) * s) := by rw [hW1, List.drop_append_of_le_length (by omega), List.drop_of_length_le (by omega), List.nil_append]
    have t1 : (W1.drop (1 * s)).take (3 * s) = zrs (3 * s) := by
      rw [d1, List.take_append_of_le_length (by simp [zrs]; omega)]
      simp only [zrs, List.take_replicate]
      congr 1; omega
    have t2 : (W1.drop ((1 + 3) * s)).take (3 * s) = zrs (3 * s) := by
      rw [show (1 + 3) * s = 1 * s + 3 * s by omega, ← List.drop_drop, d1, List.drop_append_of_le_length (by simp [zrs]; omega)]
      simp only [zrs, List.drop_replicate]
      rw [List.take_append_of_le_length (by simp; omega), List.take_replicate]
      congr 1; omega
    unfold slP
    rw [t1, t2, slF_zrs, slF_zrs]; rfl
  have cO := lift0 [(xb, crM x1 x2 x3 x4 x5 x6)] (open11_ct (W := W1) b a1 l1 hA1 hS1 hl1 1 3 (by omega) (by omega) (by omega))
  rw [hE1] at cO
  have hH : Hld s 9 1 3 (0, []) (fuA a1 x1) := ⟨W1, ⟨hS1.s, hS1.n, hS1.W, hS1.LS, hS1.dk, hS1.T⟩, hW1l, hE1⟩
  first | (have FRx := FR; clear FRx) | have FR := fr0S
  have FA := Sm.mk (TFPtH)
  repeat' first | (apply Sm.mk; refine Ys ?_) | refine WP.seq fun K hK => ?_ | (apply Ob.mk; exact Yo) | refine And.intro (Ob.out ?_) ?_ | ((fail_if_success (show WP _ _ _ (.region 8 _ _) _ _)); refine Y1PtH ?_) | (refine CallV.exM (cO) (pmz _) (fun g => Sm.out ?_)) | refine YzPtH ?_ | (refine WP.cond rfl (fun hc => ?_) (fun hc => ?_) <;> (try simp only [ZC, reduceCtorEq, ZD] at hc) <;> (try exact absurd hc (by decide)) <;> (try (exfalso; omega))) | refine Rt.mk (And.intro (fun hg => Sm.out ?_) fun hg => Sm.out ?_) | (refine Nu.mk ?_; first | (fail_if_success have := nb1); intro nb1 | (fail_if_success have := nb2); intro nb2 | (fail_if_success have := nb3); intro nb3 | (fail_if_success have := nb4); intro nb4 | (fail_if_success have := nb5); intro nb5 | (fail_if_success have := nb6); intro nb6 | (fail_if_success have := nb7); intro nb7 | (fail_if_success have := nb8); intro nb8 | (fail_if_success have := nb9); intro nb9 | (fail_if_success have := nb10); intro nb10 | intro nbz) | (apply Yfr; refine Yf FR fun hFRb FR => ?_) | refine Two.mk ?_ ?_ | (apply Yxc; exact Yx) | refine Cs.mk fun hcs => Sm.out ?_ | go_step | omega | (simp only [maxLen_eq]; omega) | exact trivial
  obtain ⟨y, rfl⟩ : ∃ y, y = g := ⟨g, rfl⟩
  try simp only [List.append_nil]
  have cFz := upd0 [(xb, crM x1 x2 x3 x4 x5 x6), (y, slO b 1 3 (0, []) false)] (fuse_d b a1 l1 x1)
  have hA2 : AOk 17 (fuA a1 x1) := fuA_ok hA1 x1 hF
  have hl2 := hl1.fuse x1
  obtain ⟨a2, ha2⟩ : ∃ a, a = fuA a1 x1 := ⟨_, rfl⟩
  rw [← ha2] at cFz hH hA2 hl2
  clear ha2 hE1 hW1 hS1 hR1 hA1 hl1 hS0 hA0 hf0 hW cO
  first | (have FRx := FR; clear FRx) | have FR := fr0S
  have FA := Sm.mk (TFPtH)
  repeat' first | (apply Sm.mk; refine Ys ?_) | refine WP.seq fun K hK => ?_ | (apply Ob.mk; exact Yo) | refine And.intro (Ob.out ?_) ?_ | ((fail_if_success (show WP _ _ _ (.region 11 _ _) _ _)); refine Y1PtH ?_) | refine CallV.updM (cFz) (pmz _) (Sm.out ?_) | refine YzPtH ?_ | (refine WP.cond rfl (fun hc => ?_) (fun hc => ?_) <;> (try simp only [ZC, reduceCtorEq, ZD] at hc) <;> (try exact absurd hc (by decide)) <;> (try (exfalso; omega))) | refine Rt.mk (And.intro (fun hg => Sm.out ?_) fun hg => Sm.out ?_) | (refine Nu.mk ?_; first | (fail_if_success have := nb1); intro nb1 | (fail_if_success have := nb2); intro nb2 | (fail_if_success have := nb3); intro nb3 | (fail_if_success have := nb4); intro nb4 | (fail_if_success have := nb5); intro nb5 | (fail_if_success have := nb6); intro nb6 | (fail_if_success have := nb7); intro nb7 | (fail_if_success have := nb8); intro nb8 | (fail_if_success have := nb9); intro nb9 | (fail_if_success have := nb10); intro nb10 | intro nbz) | (apply Yfr; refine Yf FR fun hFRb FR => ?_) | refine Two.mk ?_ ?_ | (apply Yxc; exact Yx) | refine Cs.mk fun hcs => Sm.out ?_ | go_step | omega | (simp only [maxLen_eq]; omega) | exact trivial
  refine WP.sub (s' := ⟨[(13, pt nb3 0), (12, pt nb2 0), (10, pt y 0), (9, pt b 0), (6, pt xb 0), (0, iv .i64 (s : Int)), (1, .sl L.length C), (3, .slz .u8 (ub Y))], (nb3, .cells [nu 0, nl] 2 38) :: (nb2, .cells [nu 0, nl] 2 38) :: (xb, crM x1 x2 x3 x4 x5 x6) :: (y, slO b 1 3 (0, []) false) :: dH b a2 l1⟩) (Sub.of_env [] (by exact pmz _) (by simp [look])) ?_
  refine WP.nd fun hnd => ?_
  simp only [ndF, fresh_cons, and_true, ne_eq] at hnd
  obtain ⟨nb, hnb⟩ : ∃ x, x = nb3 := ⟨_, rfl⟩
  obtain ⟨hb, hhb⟩ : ∃ x, x = nb2 := ⟨_, rfl⟩
  rw [← hnb, ← hhb] at hnd ⊢
  clear hnb hhb
  have hnt : ¬ hb = nb ∧ ¬ nb = hb := hnd.1.1
  have hnx : (¬ xb = nb ∧ ¬ nb = xb) ∧ (¬ xb = hb ∧ ¬ hb = xb) := ⟨hnd.1.2.1, hnd.2.1.1⟩
  have hny : (¬ y = nb ∧ ¬ nb = y) ∧ (¬ y = hb ∧ ¬ hb = y) := ⟨hnd.1.2.2.1, hnd.2.1.2.1⟩
  clear hnd cFz
  refine WP.wk Wk.nil0 ?_
  refine WP.sub (s' := ⟨[(13, pt nb 0), (12, pt hb 0), (10, pt y 0), (9, pt b 0), (6, pt xb 0), (0, iv .i64 (s : Int)), (1, .sl L.length C), (3, .slz .u8 (ub Y))], (hb, .cells [nu 0, nl] 2 38) :: (nb, .cells [nu 0, .slz .u8 []] 2 38) :: (xb, crM x1 x2 x3 x4 x5 x6) :: (y, slO b 1 3 (0, []) false) :: dH b a2 l1⟩) (Sub.of_env [] (by rw [List.append_nil]; exact .swap _ _ _) (by simp [look])) ?_
  refine WP.wk Wk.nil0 ?_
  have w3 : IntKind.i64.wrap (3 * (s : Int)) = ((3 * s : Nat) : Int) := by rw [show (3 * (s : Int)) = ((3 * s : Nat) : Int) by simp]; exact wrap_i64 (by omega) (by omega)
  have z1 : ((0 : Int) != 0) = false := rfl
  have z2 : ((0 : Int) == 0) = true := rfl
  first | (have FRx := FR; clear FRx) | have FR := fr0S
  have FA := Sm.mk (TFPtH)
  repeat' first | (apply Sm.mk; refine Ys ?_) | refine WP.seq fun K hK => ?_ | (apply Ob.mk; exact Yo) | refine And.intro (Ob.out ?_) ?_ | refine Y1PtH ?_ | refine YzPtH ?_ | (refine WP.cond rfl (fun hc => ?_) (fun hc => ?_) <;> (try simp only [ZC, reduceCtorEq, ZD] at hc) <;> (try exact absurd hc (by decide)) <;> (try (exfalso; omega))) | refine Rt.mk (And.intro (fun hg => Sm.out ?_) fun hg => Sm.out ?_) | (refine Nu.mk ?_; first | (fail_if_success have := nb1); intro nb1 | (fail_if_success have := nb2); intro nb2 | (fail_if_success have := nb3); intro nb3 | (fail_if_success have := nb4); intro nb4 | (fail_if_success have := nb5); intro nb5 | (fail_if_success have := nb6); intro nb6 | (fail_if_success have := nb7); intro nb7 | (fail_if_success have := nb8); intro nb8 | (fail_if_success have := nb9); intro nb9 | (fail_if_success have := nb10); intro nb10 | intro nbz) | (apply Yfr; refine Yf FR fun hFRb FR => ?_) | refine Two.mk ?_ ?_ | (apply Yxc; exact Yx) | refine Cs.mk fun hcs => Sm.out ?_ | go_step | omega | (simp only [maxLen_eq]; omega) | exact trivial
  have cont : Sm (∀ (a : DA) (l : DL) (Hh Hn : Nat × List Int), AF 507 s a Hh Hn → LOk b a l → ∀ s', Sub s' ⟨[(13, pt nb 0), (12, pt hb 0), (9, pt b 0), (6, pt xb 0), (0, iv .i64 (s : Int)), (3, .slz .u8 (ub Y))], (hb, snM Hh) :: (nb, snM Hn) :: (xb, crM x1 x2 x3 x4 x5 x6) :: dH b a l⟩ → K s') := Sm.mk fun a l Hh Hn hAF hl s' hsub => by
    refine hK s' (WP.sub hsub ?_)
    clear hK hsub hH hA2 hl2
    have cC := lift0 [(hb, snM Hh), (nb, snM Hn), (xb, crM x1 x2 x3 x4 x5 x6)] (crash_d hAF.A hl (by omega) x2 x3)
    have hA3 := crA_ok hAF.A x2 x3
    have hf3 : (crA a x2 x3).f = -1 := rfl
    obtain ⟨E2, ⟨W2, g1, g2, g3⟩, hE2⟩ := hAF.cr x2 x3
    have hl1 := hAF.l1
    have hl2 := hAF.l2
    obtain ⟨a3, ha3⟩ : ∃ z, z = crA a x2 x3 := ⟨_, rfl⟩
    rw [← ha3] at cC hA3 hf3 g1
    clear ha3
    first | (have FRx := FR; clear FRx) | have FR := fr0S
    have FA := Sm.mk (And.intro TFPtH (And.intro hnt hnx))
    repeat' first | (apply Sm.mk; refine Ys ?_) | refine WP.seq fun K hK => ?_ | (apply Ob.mk; exact Yo) | refine And.intro (Ob.out ?_) ?_ | ((fail_if_success (show WP _ _ _ (.region 22 _ _) _ _)); refine Y1PtH ?_) | (refine CallV.exM (cC) (pmz _) (fun g => Sm.out ?_)) | refine YzPtH ?_ | (refine WP.cond rfl (fun hc => ?_) (fun hc => ?_) <;> (try simp only [ZC, reduceCtorEq, ZD] at hc) <;> (try exact absurd hc (by decide)) <;> (try (exfalso; omega))) | refine Rt.mk (And.intro (fun hg => Sm.out ?_) fun hg => Sm.out ?_) | (refine Nu.mk ?_; first | (fail_if_success have := nb1); intro nb1 | (fail_if_success have := nb2); intro nb2 | (fail_if_success have := nb3); intro nb3 | (fail_if_success have := nb4); intro nb4 | (fail_if_success have := nb5); intro nb5 | (fail_if_success have := nb6); intro nb6 | (fail_if_success have := nb7); intro nb7 | (fail_if_success have := nb8); intro nb8 | (fail_if_success have := nb9); intro nb9 | (fail_if_success have := nb10); intro nb10 | intro nbz) | (apply Yfr; refine Yf FR fun hFRb FR => ?_) | refine Two.mk ?_ ?_ | (apply Yxc; exact Yx) | refine Cs.mk fun hcs => Sm.out ?_ | go_step | omega | (simp only [maxLen_eq]; omega) | exact trivial
    obtain ⟨l3, hl3⟩ := g
    try simp only [List.append_nil]
    have cO8 := lift0 [(hb, snM Hh), (nb, snM Hn), (xb, crM x1 x2 x3 x4 x5 x6)] (open11_ct (W := W2) b a3 l3 hA3 g1 hl3 1 3 (by omega) (by omega) (by omega))
    have hn2 := slP_nil W2 1 3 s
    have hk2 := slP_len W2 1 3 s
    have hb2 := slP_bd W2 1 3 s
    have hPU := fun y8 => put_up (W := W2) (f := 1) (m := 3) y8 b a3 l3 hA3 g1 g2 hl3 (by omega) (by omega) (by omega) Y (by omega) (by omega) hf3
    have cRp := refput_ct (slP W2 1 3 s) (3 * s) (ub Y) (by omega) hb2 (by omega)
    have hRl := rpE_len (slP W2 1 3 s) (3 * s) (ub Y) (by omega) (by omega)
    have hRn := rpE_nil (slP W2 1 3 s) (3 * s) (ub Y) hn2
    rw [g3] at cO8 hn2 hk2 cRp hRl hRn
    simp only [g3] at hPU
    obtain ⟨p, hp⟩ : ∃ p, p = rpE E2 (3 * s) (ub Y) := ⟨_, rfl⟩
    rw [← hp] at cRp hRl hRn
    simp only [← hp] at hPU
    clear hp
    first | (have FRx := FR; clear FRx) | have FR := fr0S
    have FA := Sm.mk (And.intro TFPtH (And.intro hnt hnx))
    repeat' first | (apply Sm.mk; refine Ys ?_) | refine WP.seq fun K hK => ?_ | (apply Ob.mk; exact Yo) | refine And.intro (Ob.out ?_) ?_ | ((fail_if_success (show WP _ _ _ (.region 23 _ _) _ _)); refine Y1PtH ?_) | (refine CallV.exM (cO8) (pmz _) (fun g => Sm.out ?_)) | refine YzPtH ?_ | (refine WP.cond rfl (fun hc => ?_) (fun hc => ?_) <;> (try simp only [ZC, reduceCtorEq, ZD] at hc) <;> (try exact absurd hc (by decide)) <;> (try (exfalso; omega))) | refine Rt.mk (And.intro (fun hg => Sm.out ?_) fun hg => Sm.out ?_) | (refine Nu.mk ?_; first | (fail_if_success have := nb1); intro nb1 | (fail_if_success have := nb2); intro nb2 | (fail_if_success have := nb3); intro nb3 | (fail_if_success have := nb4); intro nb4 | (fail_if_success have := nb5); intro nb5 | (fail_if_success have := nb6); intro nb6 | (fail_if_success have := nb7); intro nb7 | (fail_if_success have := nb8); intro nb8 | (fail_if_success have := nb9); intro nb9 | (fail_if_success have := nb10); intro nb10 | intro nbz) | (apply Yfr; refine Yf FR fun hFRb FR => ?_) | refine Two.mk ?_ ?_ | (apply Yxc; exact Yx) | refine Cs.mk fun hcs => Sm.out ?_ | go_step | omega | (simp only [maxLen_eq]; omega) | exact trivial
    rename_i K4 hK4
    obtain ⟨y8, rfl⟩ : ∃ y8, y8 = g := ⟨g, rfl⟩
    try simp only [List.append_nil]
    clear cO8 cC
    refine WP.sub (s' := ⟨[(19, iv .i64 0), (18, pt y8 0), (13, pt nb 0), (12, pt hb 0), (9, pt b 0), (0, iv .i64 (s : Int)), (3, .slz .u8 (ub Y))], (hb, snM Hh) :: (nb, snM Hn) :: (xb, crM x1 x2 x3 x4 x5 x6) :: (y8, slO b 1 3 E2 false) :: dH b a3 l3⟩) (Sub.of_env [] (by exact pmz _) (by simp [look])) ?_
    have cont4 : Sm (∀ s', Sub s' ⟨[(18, pt y8 0), (9, pt b 0), (0, iv .i64 (s : Int)), (3, .slz .u8 (ub Y))], (y8, slO b 1 3 E2 false) :: dH b a3 l3⟩ → K4 s') := Sm.mk fun s' hsub => by
      refine hK4 s' (WP.sub hsub ?_)
      clear hK hK4 hsub
      have cSn := (snap18_ct y8 b 1 3 E2 false hn2 (by omega)).lookU (H := (y8, slO b 1 3 E2 false) :: dH b a3 l3) (R := dH b a3 l3) (by exact .refl _)
      obtain ⟨X9, cP, hA9, hf9, W9, k1, k2, k3, -, -⟩ := hPU y8
      unfold snV at cSn cRp
      first | (have FRx := FR; clear FRx) | have FR := fr0S
      have FA := Sm.mk (And.intro TFPtH w3)
      repeat' first | (apply Sm.mk; refine Ys ?_) | refine WP.seq fun K hK => ?_ | (apply Ob.mk; exact Yo) | refine And.intro (Ob.out ?_) ?_ | ((fail_if_success (show WP _ _ _ (.region 26 _ _) _ _)); refine Y1PtH ?_) | refine CallV.updM (cSn) (pmz _) (Sm.out ?_) | ((first | refine ExF.up ?_ (cSn) (Sm.out ?_) | refine ExG.up ?_ (fun _ => cSn) (Sm.out ?_) | refine ExG.upJ ?_ (fun _ => cSn) (Sm.out ?_) | refine ExG.upI ?_ (fun _ => cSn) (Ob.out ?_) (Sm.out ?_)); focus (exact ⟨_, (pmz _)⟩)) | (first | refine CallV.fn (cRp) (Sm.out ?_) | refine ExF.mk (cRp) (Sm.out ?_) | refine ExG.mk (fun _ => cRp) (Sm.out ?_) | refine ExG.mkJ (fun _ => cRp) (Sm.out ?_) | refine ExG.mkI (Ob.out ?_) (fun _ => cRp) (Sm.out ?_)) | refine YzPtH ?_ | (refine WP.cond rfl (fun hc => ?_) (fun hc => ?_) <;> (try simp only [ZC, reduceCtorEq, ZD] at hc) <;> (try exact absurd hc (by decide)) <;> (try (exfalso; omega))) | refine Rt.mk (And.intro (fun hg => Sm.out ?_) fun hg => Sm.out ?_) | (refine Nu.mk ?_; first | (fail_if_success have := nb1); intro nb1 | (fail_if_success have := nb2); intro nb2 | (fail_if_success have := nb3); intro nb3 | (fail_if_success have := nb4); intro nb4 | (fail_if_success have := nb5); intro nb5 | (fail_if_success have := nb6); intro nb6 | (fail_if_success have := nb7); intro nb7 | (fail_if_success have := nb8); intro nb8 | (fail_if_success have := nb9); intro nb9 | (fail_if_success have := nb10); intro nb10 | intro nbz) | (apply Yfr; refine Yf FR fun hFRb FR => ?_) | refine Two.mk ?_ ?_ | (apply Yxc; exact Yx) | refine Cs.mk fun hcs => Sm.out ?_ | go_step | omega | (simp only [maxLen_eq]; omega) | exact trivial
      refine WP.sub (s' := ⟨[(21, iv .i64 p.2), (20, pt nb4 0), (18, pt y8 0), (9, pt b 0), (3, .slz .u8 (ub Y))], (nb4, snM p.1) :: (y8, slO b 1 3 E2 false) :: dH b a3 l3⟩) (Sub.of_env [] (by exact pmz _) (by simp [look])) ?_
      obtain ⟨tb, htb⟩ : ∃ x, x = nb4 := ⟨_, rfl⟩
      rw [← htb]
      clear htb cRp cSn
      have cP := lift0 [(tb, snM p.1)] cP
      first | (have FRx := FR; clear FRx) | have FR := fr0S
      have FA := Sm.mk (TFPtH)
      repeat' first | (apply Sm.mk; refine Ys ?_) | refine WP.seq fun K hK => ?_ | (apply Ob.mk; exact Yo) | refine And.intro (Ob.out ?_) ?_ | ((fail_if_success (show WP _ _ _ (.region 27 _ _) _ _)); refine Y1PtH ?_) | (refine CallV.exM (cP) (pmz _) (fun g => Sm.out ?_)) | refine YzPtH ?_ | (refine WP.cond rfl (fun hc => ?_) (fun hc => ?_) <;> (try simp only [ZC, reduceCtorEq, ZD] at hc) <;> (try exact absurd hc (by decide)) <;> (try (exfalso; omega))) | refine Rt.mk (And.intro (fun hg => Sm.out ?_) fun hg => Sm.out ?_) | (refine Nu.mk ?_; first | (fail_if_success have := nb1); intro nb1 | (fail_if_success have := nb2); intro nb2 | (fail_if_success have := nb3); intro nb3 | (fail_if_success have := nb4); intro nb4 | (fail_if_success have := nb5); intro nb5 | (fail_if_success have := nb6); intro nb6 | (fail_if_success have := nb7); intro nb7 | (fail_if_success have := nb8); intro nb8 | (fail_if_success have := nb9); intro nb9 | (fail_if_success have := nb10); intro nb10 | intro nbz) | (apply Yfr; refine Yf FR fun hFRb FR => ?_) | refine Two.mk ?_ ?_ | (apply Yxc; exact Yx) | refine Cs.mk fun hcs => Sm.out ?_ | go_step | omega | (simp only [maxLen_eq]; omega) | exact trivial
      obtain ⟨l9, hl9⟩ := g
      try simp only [List.append_nil]
      have cO9 := lift0 [(tb, snM p.1), (y8, slO b 1 3 p.1 false)] (open11_ct (W := W9) b X9 l9 hA9 k1 hl9 1 3 (by omega) (by omega) (by omega))
      rw [k3] at cO9
      first | (have FRx := FR; clear FRx) | have FR := fr0S
      have FA := Sm.mk (TFPtH)
      repeat' first | (apply Sm.mk; refine Ys ?_) | refine WP.seq fun K hK => ?_ | (apply Ob.mk; exact Yo) | refine And.intro (Ob.out ?_) ?_ | ((fail_if_success (show WP _ _ _ (.region 28 _ _) _ _)); refine Y1PtH ?_) | (refine CallV.exM (cO9) (pmz _) (fun g => Sm.out ?_)) | refine YzPtH ?_ | (refine WP.cond rfl (fun hc => ?_) (fun hc => ?_) <;> (try simp only [ZC, reduceCtorEq, ZD] at hc) <;> (try exact absurd hc (by decide)) <;> (try (exfalso; omega))) | refine Rt.mk (And.intro (fun hg => Sm.out ?_) fun hg => Sm.out ?_) | (refine Nu.mk ?_; first | (fail_if_success have := nb1); intro nb1 | (fail_if_success have := nb2); intro nb2 | (fail_if_success have := nb3); intro nb3 | (fail_if_success have := nb4); intro nb4 | (fail_if_success have := nb5); intro nb5 | (fail_if_success have := nb6); intro nb6 | (fail_if_success have := nb7); intro nb7 | (fail_if_success have := nb8); intro nb8 | (fail_if_success have := nb9); intro nb9 | (fail_if_success have := nb10); intro nb10 | intro nbz) | (apply Yfr; refine Yf FR fun hFRb FR => ?_) | refine Two.mk ?_ ?_ | (apply Yxc; exact Yx) | refine Cs.mk fun hcs => Sm.out ?_ | go_step | omega | (simp only [maxLen_eq]; omega) | exact trivial
      obtain ⟨y9, rfl⟩ : ∃ y9, y9 = g := ⟨g, rfl⟩
      try simp only [List.append_nil]
      clear cP cO9
      refine WP.sub (s' := ⟨[(24, iv .i64 0), (23, pt y9 0), (22, iv .i64 p.2), (21, iv .i64 p.2), (20, pt tb 0), (18, pt y8 0)], (tb, snM p.1) :: (y8, slO b 1 3 p.1 false) :: (y9, slO b 1 3 p.1 false) :: dH b X9 l9⟩) (Sub.of_env [] (by exact pmz _) (by simp [look])) ?_
      have cS8 := (snap18_ct y8 b 1 3 p.1 false hRn hRl).lookU (H := (tb, snM p.1) :: (y8, slO b 1 3 p.1 false) :: (y9, slO b 1 3 p.1 false) :: dH b X9 l9) (R := (tb, snM p.1) :: (y9, slO b 1 3 p.1 false) :: dH b X9 l9) (by exact List.perm_append_comm_assoc [_] [_] _)
      have cS9 := (snap18_ct y9 b 1 3 p.1 false hRn hRl).lookU (H := (tb, snM p.1) :: (y8, slO b 1 3 p.1 false) :: (y9, slO b 1 3 p.1 false) :: dH b X9 l9) (R := (tb, snM p.1) :: (y8, slO b 1 3 p.1 false) :: dH b X9 l9) (by exact List.perm_append_comm_assoc [_, _] [_] _)
      have cSm := same17_ct p.1 p.1 hRl hRl
      rw [sameB_self] at cSm
      unfold snV at cS8 cS9 cSm
      have ke : (p.2 == p.2) = true := by simp
      first | (have FRx := FR; clear FRx) | have FR := fr0S
      have FA := Sm.mk (TFPtH)
      repeat' first | (apply Sm.mk; refine Ys ?_) | refine WP.seq fun K hK => ?_ | (apply Ob.mk; exact Yo) | refine And.intro (Ob.out ?_) ?_ | ((fail_if_success (show WP _ _ _ (.region 28 _ _) _ _)); refine Y1PtH ?_) | refine YzPtH ?_ | (refine WP.cond rfl (fun hc => ?_) (fun hc => ?_) <;> (try simp only [ZC, reduceCtorEq, ZD] at hc) <;> (try exact absurd hc (by decide)) <;> (try (exfalso; omega))) | refine Rt.mk (And.intro (fun hg => Sm.out ?_) fun hg => Sm.out ?_) | (refine Nu.mk ?_; first | (fail_if_success have := nb1); intro nb1 | (fail_if_success have := nb2); intro nb2 | (fail_if_success have := nb3); intro nb3 | (fail_if_success have := nb4); intro nb4 | (fail_if_success have := nb5); intro nb5 | (fail_if_success have := nb6); intro nb6 | (fail_if_success have := nb7); intro nb7 | (fail_if_success have := nb8); intro nb8 | (fail_if_success have := nb9); intro nb9 | (fail_if_success have := nb10); intro nb10 | intro nbz) | (apply Yfr; refine Yf FR fun hFRb FR => ?_) | refine Two.mk ?_ ?_ | (apply Yxc; exact Yx) | refine Cs.mk fun hcs => Sm.out ?_ | go_step | omega | (simp only [maxLen_eq]; omega) | exact trivial
      refine WP.drawV (k := 20) mixed (by decide +kernel) (Sm.out ?_)
      first | (have FRx := FR; clear FRx) | have FR := fr0S
      have FA := Sm.mk (And.intro TFPtH (And.intro z2 ke))
      repeat' first | (apply Sm.mk; refine YsPtH0 ?_) | refine WP.seq fun K hK => ?_ | (apply Ob.mk; exact Yo) | refine And.intro (Ob.out ?_) ?_ | refine Y1PtH ?_ | refine CallV.updM (cS8) (pmz _) (Sm.out ?_) | ((first | refine ExF.up ?_ (cS8) (Sm.out ?_) | refine ExG.up ?_ (fun _ => cS8) (Sm.out ?_) | refine ExG.upJ ?_ (fun _ => cS8) (Sm.out ?_) | refine ExG.upI ?_ (fun _ => cS8) (Ob.out ?_) (Sm.out ?_)); focus (exact ⟨_, (pmz _)⟩)) | refine CallV.updM (cS9) (pmz _) (Sm.out ?_) | ((first | refine ExF.up ?_ (cS9) (Sm.out ?_) | refine ExG.up ?_ (fun _ => cS9) (Sm.out ?_) | refine ExG.upJ ?_ (fun _ => cS9) (Sm.out ?_) | refine ExG.upI ?_ (fun _ => cS9) (Ob.out ?_) (Sm.out ?_)); focus (exact ⟨_, (pmz _)⟩)) | (first | refine CallV.fn (cSm) (Sm.out ?_) | refine ExF.mk (cSm) (Sm.out ?_) | refine ExG.mk (fun _ => cSm) (Sm.out ?_) | refine ExG.mkJ (fun _ => cSm) (Sm.out ?_) | refine ExG.mkI (Ob.out ?_) (fun _ => cSm) (Sm.out ?_)) | refine YzPtH ?_ | (refine WP.cond rfl (fun hc => ?_) (fun hc => ?_) <;> (try simp only [ZC, reduceCtorEq, ZD] at hc) <;> (try exact absurd hc (by decide)) <;> (try (exfalso; omega))) | refine Rt.mk (And.intro (fun hg => Sm.out ?_) fun hg => Sm.out ?_) | (refine Nu.mk ?_; first | (fail_if_success have := nb1); intro nb1 | (fail_if_success have := nb2); intro nb2 | (fail_if_success have := nb3); intro nb3 | (fail_if_success have := nb4); intro nb4 | (fail_if_success have := nb5); intro nb5 | (fail_if_success have := nb6); intro nb6 | (fail_if_success have := nb7); intro nb7 | (fail_if_success have := nb8); intro nb8 | (fail_if_success have := nb9); intro nb9 | (fail_if_success have := nb10); intro nb10 | intro nbz) | (apply Yfr; refine Yf FR fun hFRb FR => ?_) | refine Two.mk ?_ ?_ | (apply Yxc; exact Yx) | refine Cs.mk fun hcs => Sm.out ?_ | go_step | omega | (simp only [maxLen_eq]; omega) | exact trivial
      (refine Yg ?_; try exact trivial)
    clear hK4
    have cSn := (snap18_ct y8 b 1 3 E2 false hn2 (by omega)).lookU (H := (hb, snM Hh) :: (nb, snM Hn) :: (xb, crM x1 x2 x3 x4 x5 x6) :: (y8, slO b 1 3 E2 false) :: dH b a3 l3) (R := (hb, snM Hh) :: (nb, snM Hn) :: (xb, crM x1 x2 x3 x4 x5 x6) :: dH b a3 l3) (by exact List.perm_append_comm_assoc [_, _, _] [_] _)
    have cS1 := same17_ct E2 Hh (by omega) hl1
    have cS2 := same17_ct E2 Hn (by omega) hl2
    unfold snV at cSn cS1 cS2
    by_cases hq : sameB E2 Hh = true
    · rw [hq] at cS1
      refine WP.drawV (k := 16) mixed (by decide +kernel) (Sm.out ?_)
      first | (have FRx := FR; clear FRx) | have FR := fr0S
      have FA := Sm.mk (And.intro TFPtH (And.intro hnt (And.intro hnx z1)))
      repeat' first | (apply Sm.mk; refine YsPtH0 ?_) | refine WP.seq fun K hK => ?_ | (apply Ob.mk; exact Yo) | refine And.intro (Ob.out ?_) ?_ | refine Y1PtH ?_ | refine CallV.updM (cSn) (pmz _) (Sm.out ?_) | ((first | refine ExF.up ?_ (cSn) (Sm.out ?_) | refine ExG.up ?_ (fun _ => cSn) (Sm.out ?_) | refine ExG.upJ ?_ (fun _ => cSn) (Sm.out ?_) | refine ExG.upI ?_ (fun _ => cSn) (Ob.out ?_) (Sm.out ?_)); focus (exact ⟨_, (pmz _)⟩)) | (first | refine CallV.fn (cS1) (Sm.out ?_) | refine ExF.mk (cS1) (Sm.out ?_) | refine ExG.mk (fun _ => cS1) (Sm.out ?_) | refine ExG.mkJ (fun _ => cS1) (Sm.out ?_) | refine ExG.mkI (Ob.out ?_) (fun _ => cS1) (Sm.out ?_)) | refine YzPtH ?_ | (refine WP.cond rfl (fun hc => ?_) (fun hc => ?_) <;> (try simp only [ZC, reduceCtorEq, ZD] at hc) <;> (try exact absurd hc (by decide)) <;> (try (exfalso; omega))) | refine Rt.mk (And.intro (fun hg => Sm.out ?_) fun hg => Sm.out ?_) | (refine Nu.mk ?_; first | (fail_if_success have := nb1); intro nb1 | (fail_if_success have := nb2); intro nb2 | (fail_if_success have := nb3); intro nb3 | (fail_if_success have := nb4); intro nb4 | (fail_if_success have := nb5); intro nb5 | (fail_if_success have := nb6); intro nb6 | (fail_if_success have := nb7); intro nb7 | (fail_if_success have := nb8); intro nb8 | (fail_if_success have := nb9); intro nb9 | (fail_if_success have := nb10); intro nb10 | intro nbz) | (apply Yfr; refine Yf FR fun hFRb FR => ?_) | refine Two.mk ?_ ?_ | (apply Yxc; exact Yx) | refine Cs.mk fun hcs => Sm.out ?_ | go_step | omega | (simp only [maxLen_eq]; omega) | exact trivial
      exact cont4.out _ (Sub.of_env [_, _, _] (by exact List.perm_append_comm (l₁ := [_, _, _])) (by simp [look]))
    · have hq2 : sameB E2 Hh = false := by simpa using hq
      have hss : sameB E2 Hn = true := by
        rcases hE2 with h | h
        · rw [h, sameB_self] at hq; exact absurd rfl hq
        · rw [h]; exact sameB_self _
      rw [hq2] at cS1
      rw [hss] at cS2
      refine WP.drawV (k := 16) mixed (by decide +kernel) (Sm.out ?_)
      first | (have FRx := FR; clear FRx) | have FR := fr0S
      have FA := Sm.mk (And.intro TFPtH (And.intro hnt (And.intro hnx z1)))
      repeat' first | (apply Sm.mk; refine YsPtH0 ?_) | refine WP.seq fun K hK => ?_ | (apply Ob.mk; exact Yo) | refine And.intro (Ob.out ?_) ?_ | refine Y1PtH ?_ | refine CallV.updM (cSn) (pmz _) (Sm.out ?_) | ((first | refine ExF.up ?_ (cSn) (Sm.out ?_) | refine ExG.up ?_ (fun _ => cSn) (Sm.out ?_) | refine ExG.upJ ?_ (fun _ => cSn) (Sm.out ?_) | refine ExG.upI ?_ (fun _ => cSn) (Ob.out ?_) (Sm.out ?_)); focus (exact ⟨_, (pmz _)⟩)) | (first | refine CallV.fn (cS1) (Sm.out ?_) | refine ExF.mk (cS1) (Sm.out ?_) | refine ExG.mk (fun _ => cS1) (Sm.out ?_) | refine ExG.mkJ (fun _ => cS1) (Sm.out ?_) | refine ExG.mkI (Ob.out ?_) (fun _ => cS1) (Sm.out ?_)) | (first | refine CallV.fn (cS2) (Sm.out ?_) | refine ExF.mk (cS2) (Sm.out ?_) | refine ExG.mk (fun _ => cS2) (Sm.out ?_) | refine ExG.mkJ (fun _ => cS2) (Sm.out ?_) | refine ExG.mkI (Ob.out ?_) (fun _ => cS2) (Sm.out ?_)) | refine YzPtH ?_ | (refine WP.cond rfl (fun hc => ?_) (fun hc => ?_) <;> (try simp only [ZC, reduceCtorEq, ZD] at hc) <;> (try exact absurd hc (by decide)) <;> (try (exfalso; omega))) | refine Rt.mk (And.intro (fun hg => Sm.out ?_) fun hg => Sm.out ?_) | (refine Nu.mk ?_; first | (fail_if_success have := nb1); intro nb1 | (fail_if_success have := nb2); intro nb2 | (fail_if_success have := nb3); intro nb3 | (fail_if_success have := nb4); intro nb4 | (fail_if_success have := nb5); intro nb5 | (fail_if_success have := nb6); intro nb6 | (fail_if_success have := nb7); intro nb7 | (fail_if_success have := nb8); intro nb8 | (fail_if_success have := nb9); intro nb9 | (fail_if_success have := nb10); intro nb10 | intro nbz) | (apply Yfr; refine Yf FR fun hFRb FR => ?_) | refine Two.mk ?_ ?_ | (apply Yxc; exact Yx) | refine Cs.mk fun hcs => Sm.out ?_ | go_step | omega | (simp only [maxLen_eq]; omega) | exact trivial
      exact cont4.out _ (Sub.of_env [_, _, _] (by exact List.perm_append_comm (l₁ := [_, _, _])) (by simp [look]))
  refine WP.loop (Γ := LG) (fun g => ⟨[(14, iv .i64 (g.i : Int)), (13, pt nb 0), (12, pt hb 0), (10, pt y 0), (9, pt b 0), (6, pt xb 0), (0, iv .i64 (s : Int)), (1, .sl L.length C), (3, .slz .u8 (ub Y))], (hb, snM g.H) :: (nb, snM g.H) :: (xb, crM x1 x2 x3 x4 x5 x6) :: (y, slO b 1 3 g.H false) :: dH b g.a g.l⟩)
    (fun g => g.i ≤ L.length ∧ AOk (17 + 8 * g.i) g.a ∧ Hld s 9 1 3 g.H g.a ∧ LOk b g.a g.l) (fun g => L.length - g.i) ⟨0, l1, a2, (0, [])⟩ ⟨Nat.zero_le _, hA2, hH, hl2⟩ (Sub.of_env [] (pmz _) (by simp [look])) ?_
  clear hA2 hH hl2 hK
  intro ⟨i, l, a, H⟩ ⟨hi, hA, ⟨W, hS, hW, hE⟩, hl⟩
  simp only at hi hA hS hW hE hl ⊢
  have FR : Sm (¬ ((1 : Nat) = 0)) := Sm.mk Nat.one_ne_zero
  have hEn := slP_nil W 1 3 s
  have hEl := slP_len W 1 3 s
  have hEb := slP_bd W 1 3 s
  by_cases hin : i < L.length
  · have ki : decide ((i : Int) < (L.length : Int)) = true := decide_eq_true (by omega)
    have s1 : IntKind.i64.wrap ((i : Int) + 1) = ((i + 1 : Nat) : Int) := by rw [wrap_i64 (by omega) (by omega)]; omega
    have hd := hdr i hin
    have q1 : (i + 1) * 2 ≤ C.length := by omega
    have vl := ub_len (L[i]).z
    have hv2 := hL2 L[i] (List.getElem_mem hin)
    obtain ⟨v, hv⟩ : ∃ x, x = L[i] := ⟨_, rfl⟩
    rw [← hv] at hd vl hv2
    obtain ⟨TR, hTR⟩ : ∃ TR, TR = acs (L.drop (i + 1)) := ⟨_, rfl⟩
    rw [← hTR] at hd
    have hPS := put_spec (W := W) (f := 1) (m := 3) y b a l hA hS hW hl (by omega) (by omega) (by omega) v.z (by omega) (by omega)
    have cRp := refput_ct (slP W 1 3 s) (3 * s) (ub v.z) (by omega) hEb (by omega)
    have hRl := rpE_len (slP W 1 3 s) (3 * s) (ub v.z) (by omega) (by omega)
    rw [hE] at hEn hEl hEb cRp hRl
    simp only [hE] at hPS
    obtain ⟨p, hp⟩ : ∃ p, p = rpE H (3 * s) (ub v.z) := ⟨_, rfl⟩
    rw [← hp] at cRp hRl
    simp only [← hp] at hPS
    clear hdr hv hTR hp
    obtain ⟨X, E1, ov, cP, hXA, hX⟩ := hPS
    unfold snV at cRp
    first | (have FRx := FR; clear FRx) | have FR := fr0S
    have FA := Sm.mk (And.intro TFPtH (And.intro ki (And.intro hd (And.intro q1 (And.intro vl w3)))))
    repeat' first | (apply Sm.mk; refine YsPtH1 ?_) | refine WP.seq fun K hK => ?_ | (apply Ob.mk; exact Yo) | refine And.intro (Ob.out ?_) ?_ | ((fail_if_success (show WP _ _ _ (.region 15 _ _) _ _)); refine Y1PtH ?_) | refine Yc (c := cRp) (r := ?_) | refine YzPtH ?_ | (refine WP.cond rfl (fun hc => ?_) (fun hc => ?_) <;> (try simp only [ZC, reduceCtorEq, ZD] at hc) <;> (try exact absurd hc (by decide)) <;> (try (exfalso; omega))) | refine Rt.mk (And.intro (fun hg => Sm.out ?_) fun hg => Sm.out ?_) | (refine Nu.mk ?_; first | (fail_if_success have := nb1); intro nb1 | (fail_if_success have := nb2); intro nb2 | (fail_if_success have := nb3); intro nb3 | (fail_if_success have := nb4); intro nb4 | (fail_if_success have := nb5); intro nb5 | (fail_if_success have := nb6); intro nb6 | (fail_if_success have := nb7); intro nb7 | (fail_if_success have := nb8); intro nb8 | (fail_if_success have := nb9); intro nb9 | (fail_if_success have := nb10); intro nb10 | intro nbz) | (apply Yfr; refine Yf FR fun hFRb FR => ?_) | refine Two.mk ?_ ?_ | (apply Yxc; exact Yx) | refine Cs.mk fun hcs => Sm.out ?_ | go_step | omega | (simp only [maxLen_eq]; omega) | exact trivial
    obtain ⟨tb, htb⟩ : ∃ x, x = nb4 := ⟨_, rfl⟩
    rw [← htb]
    clear htb
    refine WP.sub (s' := ⟨[(16, iv .i64 p.2), (15, pt tb 0), (14, iv .i64 (i : Int)), (13, pt nb 0), (12, pt hb 0), (10, pt y 0), (9, pt b 0), (6, pt xb 0), (0, iv .i64 (s : Int)), (1, .sl L.length C), (3, .slz .u8 (ub Y))], (tb, snM p.1) :: (hb, snM H) :: (nb, snM H) :: (xb, crM x1 x2 x3 x4 x5 x6) :: (y, slO b 1 3 H false) :: dH b a l⟩) (Sub.of_env [] (by exact pmz _) (by simp [look])) ?_
    refine WP.nd fun hnd => ?_
    simp only [ndF, fresh_cons, and_true, ne_eq] at hnd
    have ht1 : ¬ hb = tb ∧ ¬ tb = hb := hnd.1.1
    have ht2 : ¬ nb = tb ∧ ¬ tb = nb := hnd.1.2.1
    clear hnd cRp
    first | (have FRx := FR; clear FRx) | have FR := fr0S
    have FA := Sm.mk (And.intro TFPtH (And.intro ht1 (And.intro ht2 (And.intro hnt hnx))))
    repeat' first | (apply Sm.mk; refine Ys ?_) | refine WP.seq fun K hK => ?_ | (apply Ob.mk; exact Yo) | refine And.intro (Ob.out ?_) ?_ | ((fail_if_success (show WP _ _ _ (.region 16 _ _) _ _)); refine Y1PtH ?_) | refine YzPtH ?_ | (refine WP.cond rfl (fun hc => ?_) (fun hc => ?_) <;> (try simp only [ZC, reduceCtorEq, ZD] at hc) <;> (try exact absurd hc (by decide)) <;> (try (exfalso; omega))) | refine Rt.mk (And.intro (fun hg => Sm.out ?_) fun hg => Sm.out ?_) | (refine Nu.mk ?_; first | (fail_if_success have := nb1); intro nb1 | (fail_if_success have := nb2); intro nb2 | (fail_if_success have := nb3); intro nb3 | (fail_if_success have := nb4); intro nb4 | (fail_if_success have := nb5); intro nb5 | (fail_if_success have := nb6); intro nb6 | (fail_if_success have := nb7); intro nb7 | (fail_if_success have := nb8); intro nb8 | (fail_if_success have := nb9); intro nb9 | (fail_if_success have := nb10); intro nb10 | intro nbz) | (apply Yfr; refine Yf FR fun hFRb FR => ?_) | refine Two.mk ?_ ?_ | (apply Yxc; exact Yx) | refine Cs.mk fun hcs => Sm.out ?_ | go_step | omega | (simp only [maxLen_eq]; omega) | exact trivial
    refine WP.sub (s' := ⟨[(16, iv .i64 p.2), (14, iv .i64 (i : Int)), (13, pt nb 0), (12, pt hb 0), (10, pt y 0), (9, pt b 0), (6, pt xb 0), (0, iv .i64 (s : Int)), (1, .sl L.length C), (3, .slz .u8 (ub Y))], (hb, snM H) :: (nb, snM p.1) :: (xb, crM x1 x2 x3 x4 x5 x6) :: (y, slO b 1 3 H false) :: dH b a l⟩) (Sub.of_env [(tb, snM p.1)] (by exact List.perm_append_comm (l₁ := [_])) (by simp [look])) ?_
    have cP := lift0 [(hb, snM H), (nb, snM p.1), (xb, crM x1 x2 x3 x4 x5 x6)] cP
    first | (have FRx := FR; clear FRx) | have FR := fr0S
    have FA := Sm.mk (And.intro TFPtH (And.intro hd (And.intro q1 (And.intro vl (And.intro hnt hnx)))))
    repeat' first | (apply Sm.mk; refine YsPtH1 ?_) | refine WP.seq fun K hK => ?_ | (apply Ob.mk; exact Yo) | refine And.intro (Ob.out ?_) ?_ | ((fail_if_success (show WP _ _ _ (.region 17 _ _) _ _)); refine Y1PtH ?_) | (refine CallV.exM (cP) (pmz _) (fun g => Sm.out ?_)) | refine YzPtH ?_ | (refine WP.cond rfl (fun hc => ?_) (fun hc => ?_) <;> (try simp only [ZC, reduceCtorEq, ZD] at hc) <;> (try exact absurd hc (by decide)) <;> (try (exfalso; omega))) | refine Rt.mk (And.intro (fun hg => Sm.out ?_) fun hg => Sm.out ?_) | (refine Nu.mk ?_; first | (fail_if_success have := nb1); intro nb1 | (fail_if_success have := nb2); intro nb2 | (fail_if_success have := nb3); intro nb3 | (fail_if_success have := nb4); intro nb4 | (fail_if_success have := nb5); intro nb5 | (fail_if_success have := nb6); intro nb6 | (fail_if_success have := nb7); intro nb7 | (fail_if_success have := nb8); intro nb8 | (fail_if_success have := nb9); intro nb9 | (fail_if_success have := nb10); intro nb10 | intro nbz) | (apply Yfr; refine Yf FR fun hFRb FR => ?_) | refine Two.mk ?_ ?_ | (apply Yxc; exact Yx) | refine Cs.mk fun hcs => Sm.out ?_ | go_step | omega | (simp only [maxLen_eq]; omega) | exact trivial
    obtain ⟨l6, hl6⟩ := g
    try simp only [List.append_nil]
    clear cP
    rcases hX with ⟨g1, rfl, rfl, g4, -, W', g5, g6, g7, -⟩ | ⟨g1, g2, g3, rfl, rfl, g6⟩ | ⟨g1, -, -, rfl, rfl, g4, g5⟩
    · rw [g1, g4]
      have y1 : ((0 : Int) == 12) = false := rfl
      first | (have FRx := FR; clear FRx) | have FR := fr0S
      have FA := Sm.mk (And.intro TFPtH (And.intro hnt (And.intro hnx (And.intro y1 (And.intro z1 s1)))))
      repeat' first | (apply Sm.mk; refine Ys ?_) | refine WP.seq fun K hK => ?_ | (apply Ob.mk; exact Yo) | refine And.intro (Ob.out ?_) ?_ | refine Y1PtH ?_ | refine YzPtH ?_ | (refine WP.cond rfl (fun hc => ?_) (fun hc => ?_) <;> (try simp only [ZC, reduceCtorEq, ZD] at hc) <;> (try exact absurd hc (by decide)) <;> (try (exfalso; omega))) | refine Rt.mk (And.intro (fun hg => Sm.out ?_) fun hg => Sm.out ?_) | (refine Nu.mk ?_; first | (fail_if_success have := nb1); intro nb1 | (fail_if_success have := nb2); intro nb2 | (fail_if_success have := nb3); intro nb3 | (fail_if_success have := nb4); intro nb4 | (fail_if_success have := nb5); intro nb5 | (fail_if_success have := nb6); intro nb6 | (fail_if_success have := nb7); intro nb7 | (fail_if_success have := nb8); intro nb8 | (fail_if_success have := nb9); intro nb9 | (fail_if_success have := nb10); intro nb10 | intro nbz) | (apply Yfr; refine Yf FR fun hFRb FR => ?_) | refine Two.mk ?_ ?_ | (apply Yxc; exact Yx) | refine Cs.mk fun hcs => Sm.out ?_ | go_step | omega | (simp only [maxLen_eq]; omega) | exact trivial
      exact ⟨⟨i + 1, l6, X.1, p.1⟩, ⟨by simp only; omega, hXA.le (by simp only; omega), ⟨W', g5, g6, g7⟩, hl6⟩, by simp only; omega, Sub.of_env [] (pmz _) (by simp [look, s1])⟩
    · rw [← g1, g6]
      have y1 : (X.2 == 12) = false := by rcases g2 with h | h <;> rw [h] <;> rfl
      have y2 : (X.2 != X.2) = false := by simp
      first | (have FRx := FR; clear FRx) | have FR := fr0S
      have FA := Sm.mk (And.intro TFPtH (And.intro hnt (And.intro hnx (And.intro y1 (And.intro y2 s1)))))
      repeat' first | (apply Sm.mk; refine Ys ?_) | refine WP.seq fun K hK => ?_ | (apply Ob.mk; exact Yo) | refine And.intro (Ob.out ?_) ?_ | refine Y1PtH ?_ | refine YzPtH ?_ | (refine WP.cond rfl (fun hc => ?_) (fun hc => ?_) <;> (try simp only [ZC, reduceCtorEq, ZD] at hc) <;> (try exact absurd hc (by decide)) <;> (try (exfalso; omega))) | refine Rt.mk (And.intro (fun hg => Sm.out ?_) fun hg => Sm.out ?_) | (refine Nu.mk ?_; first | (fail_if_success have := nb1); intro nb1 | (fail_if_success have := nb2); intro nb2 | (fail_if_success have := nb3); intro nb3 | (fail_if_success have := nb4); intro nb4 | (fail_if_success have := nb5); intro nb5 | (fail_if_success have := nb6); intro nb6 | (fail_if_success have := nb7); intro nb7 | (fail_if_success have := nb8); intro nb8 | (fail_if_success have := nb9); intro nb9 | (fail_if_success have := nb10); intro nb10 | intro nbz) | (apply Yfr; refine Yf FR fun hFRb FR => ?_) | refine Two.mk ?_ ?_ | (apply Yxc; exact Yx) | refine Cs.mk fun hcs => Sm.out ?_ | go_step | omega | (simp only [maxLen_eq]; omega) | exact trivial
      exact ⟨⟨i + 1, l6, X.1, E1⟩, ⟨by simp only; omega, hXA.le (by simp only; omega), ⟨W, by rw [g3]; exact hS, hW, hE⟩, hl6⟩, by simp only; omega, Sub.of_env [] (pmz _) (by simp [look, s1])⟩
    · rw [g1]
      have y1 : ((12 : Int) == 12) = true := rfl
      first | (have FRx := FR; clear FRx) | have FR := fr0S
      have FA := Sm.mk (And.intro TFPtH (And.intro hnt (And.intro hnx (And.intro y1 s1))))
      repeat' first | (apply Sm.mk; refine Ys ?_) | refine WP.seq fun K hK => ?_ | (apply Ob.mk; exact Yo) | refine And.intro (Ob.out ?_) ?_ | refine Y1PtH ?_ | refine YzPtH ?_ | (refine WP.cond rfl (fun hc => ?_) (fun hc => ?_) <;> (try simp only [ZC, reduceCtorEq, ZD] at hc) <;> (try exact absurd hc (by decide)) <;> (try (exfalso; omega))) | refine Rt.mk (And.intro (fun hg => Sm.out ?_) fun hg => Sm.out ?_) | (refine Nu.mk ?_; first | (fail_if_success have := nb1); intro nb1 | (fail_if_success have := nb2); intro nb2 | (fail_if_success have := nb3); intro nb3 | (fail_if_success have := nb4); intro nb4 | (fail_if_success have := nb5); intro nb5 | (fail_if_success have := nb6); intro nb6 | (fail_if_success have := nb7); intro nb7 | (fail_if_success have := nb8); intro nb8 | (fail_if_success have := nb9); intro nb9 | (fail_if_success have := nb10); intro nb10 | intro nbz) | (apply Yfr; refine Yf FR fun hFRb FR => ?_) | refine Two.mk ?_ ?_ | (apply Yxc; exact Yx) | refine Cs.mk fun hcs => Sm.out ?_ | go_step | omega | (simp only [maxLen_eq]; omega) | exact trivial
      refine cont.out X.1 l6 E1 p.1 ⟨hXA.le (by omega), fun K T => ?_, by omega, hRl⟩ hl6 _ (Sub.of_env [(y, slO b 1 3 E1 true)] (by exact List.Perm.cons _ (List.Perm.cons _ (List.Perm.cons _ (List.perm_append_comm (l₁ := [_]))))) (by simp [look]))
      obtain ⟨W', k1, k2, k3⟩ := g5 K T
      exact ⟨_, ⟨W', k1, k2, rfl⟩, k3⟩
  · obtain rfl : i = L.length := by omega
    have ki : decide ((L.length : Int) < (L.length : Int)) = false := by simp
    first | (have FRx := FR; clear FRx) | have FR := fr0S
    have FA := Sm.mk (And.intro TFPtH ki)
    repeat' first | (apply Sm.mk; refine Ys ?_) | refine WP.seq fun K hK => ?_ | (apply Ob.mk; exact Yo) | refine And.intro (Ob.out ?_) ?_ | refine Y1PtH ?_ | refine YzPtH ?_ | (refine WP.cond rfl (fun hc => ?_) (fun hc => ?_) <;> (try simp only [ZC, reduceCtorEq, ZD] at hc) <;> (try exact absurd hc (by decide)) <;> (try (exfalso; omega))) | refine Rt.mk (And.intro (fun hg => Sm.out ?_) fun hg => Sm.out ?_) | (refine Nu.mk ?_; first | (fail_if_success have := nb1); intro nb1 | (fail_if_success have := nb2); intro nb2 | (fail_if_success have := nb3); intro nb3 | (fail_if_success have := nb4); intro nb4 | (fail_if_success have := nb5); intro nb5 | (fail_if_success have := nb6); intro nb6 | (fail_if_success have := nb7); intro nb7 | (fail_if_success have := nb8); intro nb8 | (fail_if_success have := nb9); intro nb9 | (fail_if_success have := nb10); intro nb10 | intro nbz) | (apply Yfr; refine Yf FR fun hFRb FR => ?_) | refine Two.mk ?_ ?_ | (apply Yxc; exact Yx) | refine Cs.mk fun hcs => Sm.out ?_ | go_step | omega | (simp only [maxLen_eq]; omega) | exact trivial
    exact cont.out a l H H (Hld.AF ⟨W, hS, hW, hE⟩ (hA.le (by omega)) (by rw [← hE]; omega)) hl _ (Sub.of_env [(y, slO b 1 3 H false)] (by exact List.Perm.cons _ (List.Perm.cons _ (List.Perm.cons _ (List.perm_append_comm (l₁ := [_]))))) (by simp [look]))
open Go
abbrev actTy : Ty := .st [.int .i64, .row .u8]
abbrev crTy : Ty := .st [.int .i64, .int .i64, .int .i64, .int .i64, .int .i64, .int .i64]
theorem ac_rows : ∀ (rows : List (List AV)), (∀ r ∈ rows, Shp actTy r) → ∃ L : List Ac, L.length = rows.length ∧ rows.flatten = acs L
  | [], _ => ⟨[], rfl, rfl⟩
  | r :: rows, h => by
    obtain ⟨L, l1, l2⟩ := ac_rows rows fun x hx => h x (List.mem_cons_of_mem _ hx)
    have h0 := h r (List.mem_cons_self ..)
    simp only [actTy, Shp, ShpL] at h0
    obtain ⟨_, _, rfl, ⟨a, rfl, ha⟩, _, _, rfl, ⟨zs, rfl, hz⟩, rfl⟩ := h0
    obtain ⟨x, rfl⟩ := ub_of hz
    exact ⟨⟨a, x⟩ :: L, by simp [l1], by simp [l2, acs]⟩
theorem lasts_law {Z : Int} {y : AV} {xs : List AV} (hy : Shp (.sl actTy) [y]) (hx : Shp crTy xs) (bs : List UInt8) : ACt Try.prog 4 [iv .i64 Z, y, .agg xs, .slz .u8 (ub bs)] [] (fun r _ => r = bv true) := by
  unfold Shp at hy
  obtain ⟨rows, e, hr⟩ := hy
  obtain rfl : y = _ := (List.cons.inj e).1
  obtain ⟨L, l1, l2⟩ := ac_rows rows hr
  rw [l2, ← l1]
  simp only [crTy, Shp, ShpL] at hx
  obtain ⟨_, _, rfl, ⟨x1, rfl, h1⟩, _, _, rfl, ⟨x2, rfl, h2⟩, _, _, rfl, ⟨x3, rfl, h3⟩, _, _, rfl, ⟨x4, rfl, h4⟩, _, _, rfl, ⟨x5, rfl, h5⟩, _, _, rfl, ⟨x6, rfl, h6⟩, rfl⟩ := hx
  exact (lasts_ct Z L x1 x2 x3 x4 x5 x6 bs (by have := wf_i64 h1; omega)).mono fun r F h => h.1
end Go.Proofs.Yteoajodoejoccaa
