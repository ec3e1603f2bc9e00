/-
  The walks and the laws that the statement leans on, part 41.
-/
import Derived.Test.YteoajodoejoccaaP10
import Derived.Test.YteoajodoejoccaaP40
namespace Go.Proofs.Yteoajodoejoccaa
open Go Wi
set_option linter.unusedVariables false
set_option linter.unusedSimpArgs false
set_option linter.defProp false
def TFPtK :=
  And.intro (And.intro (And.intro (And.intro (And.intro (And.intro tyc0 tyc3) (And.intro zmb3 tyc4)) (And.intro (And.intro zmb4 tyc5) (And.intro zmb5 tyc9))) (And.intro (And.intro (And.intro zmb9 tyc22) (And.intro elt22 mkz22)) (And.intro (And.intro mkc22 apT22) (And.intro elk22 zmb22)))) (And.intro (And.intro (And.intro (And.intro tyc25 mth25_45) (And.intro mth25_44 mth25_43)) (And.intro (And.intro con25 zmb25) (And.intro tyc28 zmb28))) (And.intro (And.intro (And.intro tyc30 mth30_37) (And.intro con30 zmb30)) (And.intro (And.intro tyc31 tyc36) (And.intro elt36 mkz36))))) (And.intro (And.intro (And.intro (And.intro (And.intro apT36 elk36) (And.intro zmb36 tyc38)) (And.intro (And.intro foff38_0 fpart38_0) (And.intro foff38_1 fpart38_1))) (And.intro (And.intro (And.intro zmb38 bldT38) (And.intro tyc40 foff40_0)) (And.intro (And.intro fpart40_0 foff40_1) (And.intro fpart40_1 zmb40)))) (And.intro (And.intro (And.intro (And.intro bldT40 tyc41) (And.intro Try.underlying0 Try.underlying3)) (And.intro (And.intro Try.underlying4 Try.underlying5) (And.intro Try.underlying9 Try.underlying22))) (And.intro (And.intro (And.intro Try.underlying25 Try.underlying28) (And.intro Try.underlying30 Try.underlying31)) (And.intro (And.intro Try.underlying36 Try.underlying38) (And.intro Try.underlying40 Try.underlying41)))))
theorem Y1PtK {G R : Prop} (r : R) (h : R → G := by intro r; first | (apply WP.region; exact rvc_sound _ _ (Sm.out r)) | exact WP.drawP (ia := 13) (is := 14) (k := 16) mixed (by decide +kernel) (by decide +kernel) (Sm.out r) | exact WP.drawK rfl mixed (by decide +kernel) (Sm.out r) | (apply WP.block; exact r) | (apply WP.skip; exact Yq r) | (apply WP.exit; exact Yq r) | (apply WP.ret; exact Sm.out r) | exact WP.cond rfl (fun _ => r) (fun hg => absurd hg (by decide)) | exact WP.cond rfl (fun hg => absurd hg (by decide)) (fun _ => r) | exact Rt.mk (And.intro (fun _ => Sm.out r) fun hg => absurd hg (by decide)) | exact Rt.mk (And.intro (fun hg => absurd hg (by decide)) fun _ => Sm.out r)) : G := h r
theorem YzPtK {G R : Prop} (r : R) (h : R → G := by intro r; first | (apply ExG.no; exact Sm.out r) | (apply Or.inl; apply ExG.no; exact Sm.out r) | exact Or.inl (And.intro (fun hg => absurd hg (by decide)) (ExG.no (Sm.out r)))) : G := h r
theorem YsPtK0 {P Q : Prop} (q : Q) (h : P = Q := by (try (conv => lhs; simp -dsimp only [ZK, rvc, capA, appA, litL, mkfv, drawF, headN, pureH, stp, dvc, calleeOf, gcall, pev, eff, newB, okd, og, ogs, ogo, ogp, slv, bltv, opd, litv, strip, one, both, putE, St.put, look, gdOf, gdv, picka, pickv, pickw, binv, bini, bins, binb, binp, binq, isSlT, bina, shp, eqCells, unv, convv, nilv, faddv, addp, idxav, idxp, load1, load1m, loadn, loadnm, loadv, hget, hset, hrep, hdel, slicev, slice3v, bnd, shift1, lenv, capv, IntKind.bits, extractv, fieldv, indexv, min2v, max2v, mkiv, tasv, tasz, cellsA, fillA, buildv, stC, oneC, rowMB, intsA, plN, appE, appZ, appC, appS, srcB, appNZ, appNC, VwL, srcC, srcZ, srcM, isBoolT, isPtrT, isSliceT, uOk, Value.oneCell', Nat.reducePow, Int.reducePow, Nat.reduceAdd, Nat.reduceMul, Nat.reduceSub, Nat.reduceLT, Nat.reduceLeDiff, Nat.reduceEqDiff, Nat.reduceBEq, Nat.reduceDiv, Nat.reduceMod, ↓reduceIte, reduceCtorEq, Int.reduceToNat, Int.reduceLT, Int.reduceLE, TFPtK, SeqQ, BlkQ, LoopQ, BodyQ, hin, FA.out, FR.out])) <;> exact rfl) : P := h.mpr q
theorem YsPtK1 {P Q : Prop} (q : Q) (h : P = Q := by (try (conv => lhs; simp -dsimp only [ZK, rvc, capA, appA, litL, mkfv, drawF, headN, pureH, stp, dvc, calleeOf, gcall, pev, eff, newB, okd, og, ogs, ogo, ogp, slv, bltv, opd, litv, strip, one, both, putE, St.put, look, gdOf, gdv, picka, pickv, pickw, binv, bini, bins, binb, binp, binq, isSlT, bina, shp, eqCells, unv, convv, nilv, faddv, addp, idxav, idxp, load1, load1m, loadn, loadnm, loadv, hget, hset, hrep, hdel, slicev, slice3v, bnd, shift1, lenv, capv, IntKind.bits, extractv, fieldv, indexv, min2v, max2v, mkiv, tasv, tasz, cellsA, fillA, buildv, stC, oneC, rowMB, intsA, plN, appE, appZ, appC, appS, srcB, appNZ, appNC, VwL, srcC, srcZ, srcM, isBoolT, isPtrT, isSliceT, uOk, Value.oneCell', Nat.reducePow, Int.reducePow, Nat.reduceAdd, Nat.reduceMul, Nat.reduceSub, Nat.reduceLT, Nat.reduceLeDiff, Nat.reduceEqDiff, Nat.reduceBEq, Nat.reduceDiv, Nat.reduceMod, ↓reduceIte, reduceCtorEq, Int.reduceToNat, Int.reduceLT, Int.reduceLE, TFPtK, SeqQ, BlkQ, LoopQ, BodyQ, dkn, kst, fvOf, undef, beq_self_eq_true, Bool.true_beq, Bool.false_beq, Bool.not_true, Bool.not_false, FA.out, FR.out])) <;> exact rfl) : P := h.mpr q
structure PG where
  i : Nat
  l : DL
  a : DA
  y : Nat
  E : Nat × List Int
set_option maxRecDepth 20000 in
set_option maxHeartbeats 8000000 in
theorem plays_ct (B Z f m : Int) (L : List Ac) : ACt Try.prog 3 [iv .i64 B, iv .i64 Z, iv .i64 f, iv .i64 m, .sl L.length (acs L)] [] (Fn (bv true)) := by
  have cA := awake6_ct
  obtain ⟨q5, hq5, cL⟩ := long_b L
  have hCl := acs_len L
  have hdr := acs_drop L
  obtain ⟨C, hC⟩ : ∃ C, C = acs L := ⟨_, rfl⟩
  rw [← hC] at hCl cL ⊢
  simp only [← hC] at hdr
  obtain ⟨q1, e1⟩ : ∃ q, decide (B < 1) = q := ⟨_, rfl⟩
  obtain ⟨q2, e2⟩ : ∃ q, decide (B > 12) = q := ⟨_, rfl⟩
  obtain ⟨q3, e3⟩ : ∃ q, decide (Z < 32) = q := ⟨_, rfl⟩
  obtain ⟨q4, e4⟩ : ∃ q, decide (Z > 512) = q := ⟨_, rfl⟩
  refine ACt.intro Try.func3 rfl (by kernel_rfl) (by simp [Try.ntmps3]) (fun cx => ?_)
  simp only [argE, Try.ntmps3, Try.results3]
  first | (have FRx := FR; clear FRx) | have FR := fr0S
  have FA := Sm.mk (And.intro TFPtK (And.intro e1 (And.intro e2 (And.intro e3 e4))))
  repeat' first | (apply Sm.mk; refine Ys ?_) | refine WP.seq fun K hK => ?_ | (apply Ob.mk; exact Yo) | refine And.intro (Ob.out ?_) ?_ | ((fail_if_success (show WP _ _ _ (.region 5 _ _) _ _)); refine Y1PtK ?_) | refine Yc (c := cA) (r := ?_) | refine Yc (c := cL) (r := ?_) | refine YzPtK ?_ | (refine WP.cond rfl (fun hc => ?_) (fun hc => ?_) <;> (try simp only [ZC, reduceCtorEq, ZD] at hc) <;> (try exact absurd hc (by decide)) <;> (try (exfalso; omega))) | refine Rt.mk (And.intro (fun hg => Sm.out ?_) fun hg => Sm.out ?_) | (refine Nu.mk ?_; first | (fail_if_success have := nb1); intro nb1 | (fail_if_success have := nb2); intro nb2 | (fail_if_success have := nb3); intro nb3 | (fail_if_success have := nb4); intro nb4 | (fail_if_success have := nb5); intro nb5 | (fail_if_success have := nb6); intro nb6 | (fail_if_success have := nb7); intro nb7 | (fail_if_success have := nb8); intro nb8 | (fail_if_success have := nb9); intro nb9 | (fail_if_success have := nb10); intro nb10 | intro nbz) | (apply Yfr; refine Yf FR fun hFRb FR => ?_) | refine Two.mk ?_ ?_ | (apply Yxc; exact Yx) | refine Cs.mk fun hcs => Sm.out ?_ | go_step | omega | (simp only [maxLen_eq]; omega) | exact trivial
  · (refine Yg ?_; try exact trivial)
  obtain ⟨⟨⟨⟨q7, q8⟩, q9⟩, q10⟩, q11⟩ : (((q1 = false ∧ q2 = false) ∧ q3 = false) ∧ q4 = false) ∧ q5 = false := by simpa [Bool.or_eq_false_iff] using hc
  have h1 := of_decide_eq_false (e1.trans q7)
  have h2 := of_decide_eq_false (e2.trans q8)
  have h3 := of_decide_eq_false (e3.trans q9)
  have h4 := of_decide_eq_false (e4.trans q10)
  obtain ⟨hL1, hL2⟩ := hq5 q11
  clear e1 e2 e3 e4 hq5
  obtain ⟨n, rfl⟩ : ∃ n : Nat, B = (n : Int) := ⟨B.toNat, by omega⟩
  obtain ⟨s, rfl⟩ : ∃ s : Nat, Z = (s : Int) := ⟨Z.toNat, by omega⟩
  have cM : ACt Try.prog 8 [iv .i64 (n : Int), iv .i64 (s : Int)] [] (fun r F' => ∃ g : MS n s, r = pt g.1.1 0 ∧ F' = dH g.1.1 (mkA n s) g.1.2) := marked_ct n s (by omega) (by omega) (by omega) (by omega)
  obtain ⟨hA0, hf0, ⟨W, hS0⟩⟩ := mkA_spec n s (by omega) (by omega) (by omega) (by omega)
  obtain ⟨a0, ha0⟩ : ∃ a, a = mkA n s := ⟨_, rfl⟩
  refine WP.sub (s' := ⟨[(0, iv .i64 (n : Int)), (1, iv .i64 (s : Int)), (2, iv .i64 f), (3, iv .i64 m), (4, .sl L.length C)], []⟩) (Sub.of_env [] (by exact pmz _) (by simp [look])) ?_
  clear cA cL
  first | (have FRx := FR; clear FRx) | have FR := fr0S
  have FA := Sm.mk (TFPtK)
  repeat' first | (apply Sm.mk; refine Ys ?_) | refine WP.seq fun K hK => ?_ | (apply Ob.mk; exact Yo) | refine And.intro (Ob.out ?_) ?_ | ((fail_if_success (show WP _ _ _ (.region 6 _ _) _ _)); refine Y1PtK ?_) | (refine CallV.ex (F := []) (List.Perm.refl _) (cM) (fun g => Sm.out ?_)) | refine YzPtK ?_ | (refine WP.cond rfl (fun hc => ?_) (fun hc => ?_) <;> (try simp only [ZC, reduceCtorEq, ZD] at hc) <;> (try exact absurd hc (by decide)) <;> (try (exfalso; omega))) | refine Rt.mk (And.intro (fun hg => Sm.out ?_) fun hg => Sm.out ?_) | (refine Nu.mk ?_; first | (fail_if_success have := nb1); intro nb1 | (fail_if_success have := nb2); intro nb2 | (fail_if_success have := nb3); intro nb3 | (fail_if_success have := nb4); intro nb4 | (fail_if_success have := nb5); intro nb5 | (fail_if_success have := nb6); intro nb6 | (fail_if_success have := nb7); intro nb7 | (fail_if_success have := nb8); intro nb8 | (fail_if_success have := nb9); intro nb9 | (fail_if_success have := nb10); intro nb10 | intro nbz) | (apply Yfr; refine Yf FR fun hFRb FR => ?_) | refine Two.mk ?_ ?_ | (apply Yxc; exact Yx) | refine Cs.mk fun hcs => Sm.out ?_ | go_step | omega | (simp only [maxLen_eq]; omega) | exact trivial
  obtain ⟨⟨b, l⟩, hl⟩ := g
  simp only [List.append_nil] at hl ⊢
  rw [← ha0] at hl hA0 hf0 hS0 ⊢
  clear ha0 cM
  have cW := all_ct b a0 l hA0 hl hS0.dk
  rw [hS0.T] at cW
  obtain ⟨X, hX⟩ : ∃ X, X = bstr (ub W) := ⟨_, rfl⟩
  rw [← hX] at cW
  have hW : W.length = n * s := by
    have h1 := flat_len (size := a0.size) a0.S hA0.Sr
    rw [hS0.T, ub_len, hA0.Sl, hS0.n, hS0.s] at h1
    exact h1
  by_cases hon : onSl n f m
  rotate_left
  · have cO := on12_b n f m (by omega) false (by simp [hon])
    have cF := slfmt_no b a0 l f m (by have := hA0.n2; omega) (by rw [hS0.n]; exact hon)
    have cP := slopen_no b a0 l f m (by have := hA0.n2; omega) (by rw [hS0.n]; exact hon)
    have kS := baBeq X
    first | (have FRx := FR; clear FRx) | have FR := fr0S
    have FA := Sm.mk (And.intro TFPtK kS)
    repeat' first | (apply Sm.mk; refine Ys ?_) | refine WP.seq fun K hK => ?_ | (apply Ob.mk; exact Yo) | refine And.intro (Ob.out ?_) ?_ | refine Y1PtK ?_ | refine CallV.updM (cW) (pmz _) (Sm.out ?_) | ((first | refine ExF.up ?_ (cW) (Sm.out ?_) | refine ExG.up ?_ (fun _ => cW) (Sm.out ?_) | refine ExG.upJ ?_ (fun _ => cW) (Sm.out ?_) | refine ExG.upI ?_ (fun _ => cW) (Ob.out ?_) (Sm.out ?_)); focus (exact ⟨_, (pmz _)⟩)) | refine CallV.updM (cF) (pmz _) (Sm.out ?_) | ((first | refine ExF.up ?_ (cF) (Sm.out ?_) | refine ExG.up ?_ (fun _ => cF) (Sm.out ?_) | refine ExG.upJ ?_ (fun _ => cF) (Sm.out ?_) | refine ExG.upI ?_ (fun _ => cF) (Ob.out ?_) (Sm.out ?_)); focus (exact ⟨_, (pmz _)⟩)) | refine CallV.updM (cP) (pmz _) (Sm.out ?_) | ((first | refine ExF.up ?_ (cP) (Sm.out ?_) | refine ExG.up ?_ (fun _ => cP) (Sm.out ?_) | refine ExG.upJ ?_ (fun _ => cP) (Sm.out ?_) | refine ExG.upI ?_ (fun _ => cP) (Ob.out ?_) (Sm.out ?_)); focus (exact ⟨_, (pmz _)⟩)) | (first | refine CallV.fn (cO) (Sm.out ?_) | refine ExF.mk (cO) (Sm.out ?_) | refine ExG.mk (fun _ => cO) (Sm.out ?_) | refine ExG.mkJ (fun _ => cO) (Sm.out ?_) | refine ExG.mkI (Ob.out ?_) (fun _ => cO) (Sm.out ?_)) | refine YzPtK ?_ | (refine WP.cond rfl (fun hc => ?_) (fun hc => ?_) <;> (try simp only [ZC, reduceCtorEq, ZD] at hc) <;> (try exact absurd hc (by decide)) <;> (try (exfalso; omega))) | refine Rt.mk (And.intro (fun hg => Sm.out ?_) fun hg => Sm.out ?_) | (refine Nu.mk ?_; first | (fail_if_success have := nb1); intro nb1 | (fail_if_success have := nb2); intro nb2 | (fail_if_success have := nb3); intro nb3 | (fail_if_success have := nb4); intro nb4 | (fail_if_success have := nb5); intro nb5 | (fail_if_success have := nb6); intro nb6 | (fail_if_success have := nb7); intro nb7 | (fail_if_success have := nb8); intro nb8 | (fail_if_success have := nb9); intro nb9 | (fail_if_success have := nb10); intro nb10 | intro nbz) | (apply Yfr; refine Yf FR fun hFRb FR => ?_) | refine Two.mk ?_ ?_ | (apply Yxc; exact Yx) | refine Cs.mk fun hcs => Sm.out ?_ | go_step | omega | (simp only [maxLen_eq]; omega) | exact trivial
    (refine Yg ?_; try exact trivial)
  have cO := on12_b n f m (by omega) true (by simp [hon])
  obtain ⟨o1, o2, o3, o4, o5⟩ := hon
  obtain ⟨p, rfl⟩ : ∃ p : Nat, f = (p : Int) := ⟨f.toNat, by omega⟩
  obtain ⟨q, rfl⟩ : ∃ q : Nat, m = (q : Int) := ⟨m.toNat, by omega⟩
  have hpq : p + 2 * q ≤ n := by omega
  have hq1 : 1 ≤ q := by omega
  have hqs : q * s ≤ 6 * 512 := Nat.mul_le_mul (by omega) (by omega)
  have hps : p * s ≤ 12 * 512 := Nat.mul_le_mul (by omega) (by omega)
  have hns : n * s ≤ 12 * 512 := Nat.mul_le_mul (by omega) (by omega)
  have hz0 : (p + 2 * q) * s ≤ n * s := Nat.mul_le_mul_right s hpq
  have hps2 : p * s ≤ n * s := Nat.mul_le_mul_right s (by omega)
  obtain ⟨P, hP⟩ : ∃ P, P = W.take (p * s) := ⟨_, rfl⟩
  obtain ⟨Q, hQ⟩ : ∃ Q, Q = W.drop ((p + 2 * q) * s) := ⟨_, rfl⟩
  have hH0 : HP s n p q P Q (slP W p q s) a0 := ⟨hf0, W, hS0, hW, rfl, hP.symm, hQ.symm⟩
  have hXs : X.size = n * s := by rw [hX, bstr_size, ub_len, hW]
  have hQl : Q.length = n * s - (p + 2 * q) * s := by rw [hQ, List.length_drop, hW]
  have eXP : X.extract 0 (p * s) = bstr (ub P) := by rw [hX, ext_ub, List.drop_zero, Nat.sub_zero, hP]
  have eXQ : X.extract ((p + 2 * q) * s) (n * s) = bstr (ub Q) := by rw [hX, ext_ub, ← hQ, List.take_of_length_le (by omega)]
  clear hP hQ hX
  obtain ⟨a1, cF, hA1, hH1⟩ := hH0.fmt b l hA0 hl hpq hq1 (by omega)
  first | (have FRx := FR; clear FRx) | have FR := fr0S
  have FA := Sm.mk (TFPtK)
  repeat' first | (apply Sm.mk; refine Ys ?_) | refine WP.seq fun K hK => ?_ | (apply Ob.mk; exact Yo) | refine And.intro (Ob.out ?_) ?_ | ((fail_if_success (show WP _ _ _ (.region 8 _ _) _ _)); refine Y1PtK ?_) | refine CallV.updM (cW) (pmz _) (Sm.out ?_) | ((first | refine ExF.up ?_ (cW) (Sm.out ?_) | refine ExG.up ?_ (fun _ => cW) (Sm.out ?_) | refine ExG.upJ ?_ (fun _ => cW) (Sm.out ?_) | refine ExG.upI ?_ (fun _ => cW) (Ob.out ?_) (Sm.out ?_)); focus (exact ⟨_, (pmz _)⟩)) | (refine CallV.exM (cF) (pmz _) (fun g => Sm.out ?_)) | refine YzPtK ?_ | (refine WP.cond rfl (fun hc => ?_) (fun hc => ?_) <;> (try simp only [ZC, reduceCtorEq, ZD] at hc) <;> (try exact absurd hc (by decide)) <;> (try (exfalso; omega))) | refine Rt.mk (And.intro (fun hg => Sm.out ?_) fun hg => Sm.out ?_) | (refine Nu.mk ?_; first | (fail_if_success have := nb1); intro nb1 | (fail_if_success have := nb2); intro nb2 | (fail_if_success have := nb3); intro nb3 | (fail_if_success have := nb4); intro nb4 | (fail_if_success have := nb5); intro nb5 | (fail_if_success have := nb6); intro nb6 | (fail_if_success have := nb7); intro nb7 | (fail_if_success have := nb8); intro nb8 | (fail_if_success have := nb9); intro nb9 | (fail_if_success have := nb10); intro nb10 | intro nbz) | (apply Yfr; refine Yf FR fun hFRb FR => ?_) | refine Two.mk ?_ ?_ | (apply Yxc; exact Yx) | refine Cs.mk fun hcs => Sm.out ?_ | go_step | omega | (simp only [maxLen_eq]; omega) | exact trivial
  obtain ⟨l1, hl1⟩ := g
  simp only [List.append_nil]
  clear hH0 hS0 hA0 hl hf0 hW cW cF
  have hA1' : AOk 26 a1 := hA1.le (by omega)
  have cP := hH1.opn b l1 hA1 hl1 hpq hq1 (by omega)
  first | (have FRx := FR; clear FRx) | have FR := fr0S
  have FA := Sm.mk (TFPtK)
  repeat' first | (apply Sm.mk; refine Ys ?_) | refine WP.seq fun K hK => ?_ | (apply Ob.mk; exact Yo) | refine And.intro (Ob.out ?_) ?_ | ((fail_if_success (show WP _ _ _ (.region 11 _ _) _ _)); refine Y1PtK ?_) | (refine CallV.exM (cP) (pmz _) (fun g => Sm.out ?_)) | (first | refine CallV.fn (cO) (Sm.out ?_) | refine ExF.mk (cO) (Sm.out ?_) | refine ExG.mk (fun _ => cO) (Sm.out ?_) | refine ExG.mkJ (fun _ => cO) (Sm.out ?_) | refine ExG.mkI (Ob.out ?_) (fun _ => cO) (Sm.out ?_)) | refine YzPtK ?_ | (refine WP.cond rfl (fun hc => ?_) (fun hc => ?_) <;> (try simp only [ZC, reduceCtorEq, ZD] at hc) <;> (try exact absurd hc (by decide)) <;> (try (exfalso; omega))) | refine Rt.mk (And.intro (fun hg => Sm.out ?_) fun hg => Sm.out ?_) | (refine Nu.mk ?_; first | (fail_if_success have := nb1); intro nb1 | (fail_if_success have := nb2); intro nb2 | (fail_if_success have := nb3); intro nb3 | (fail_if_success have := nb4); intro nb4 | (fail_if_success have := nb5); intro nb5 | (fail_if_success have := nb6); intro nb6 | (fail_if_success have := nb7); intro nb7 | (fail_if_success have := nb8); intro nb8 | (fail_if_success have := nb9); intro nb9 | (fail_if_success have := nb10); intro nb10 | intro nbz) | (apply Yfr; refine Yf FR fun hFRb FR => ?_) | refine Two.mk ?_ ?_ | (apply Yxc; exact Yx) | refine Cs.mk fun hcs => Sm.out ?_ | go_step | omega | (simp only [maxLen_eq]; omega) | exact trivial
  obtain ⟨y, rfl⟩ : ∃ y, y = g := ⟨g, rfl⟩
  try simp only [List.append_nil]
  clear cP cO hA1
  have w0 : IntKind.i64.wrap ((q : Int) * (s : Int)) = ((q * s : Nat) : Int) := by rw [← Int.natCast_mul]; exact wrap_i64 (by omega) (by omega)
  have w1 : IntKind.i64.wrap (((q * s : Nat) : Int) - 19) = ((q * s : Nat) : Int) - 19 := wrap_i64 (by omega) (by omega)
  have z1 : ((0 : Int) != 0) = false := rfl
  have z2 : ((0 : Int) == 0) = true := rfl
  have kM : (((q * s : Nat) : Int) - 19 != ((q * s : Nat) : Int) - 19) = false := by simp
  have hs1 := hH1.dsk.1
  have cM := slmost_ct y b q (a := a1) (l := l1) p (0, []) false (by omega) (by omega)
  rw [hs1] at cM
  first | (have FRx := FR; clear FRx) | have FR := fr0S
  have FA := Sm.mk (And.intro TFPtK (And.intro w0 (And.intro w1 (And.intro z1 (And.intro z2 kM)))))
  repeat' first | (apply Sm.mk; refine Ys ?_) | refine WP.seq fun K hK => ?_ | (apply Ob.mk; exact Yo) | refine And.intro (Ob.out ?_) ?_ | refine Y1PtK ?_ | refine CallV.updM (cM) (pmz _) (Sm.out ?_) | ((first | refine ExF.up ?_ (cM) (Sm.out ?_) | refine ExG.up ?_ (fun _ => cM) (Sm.out ?_) | refine ExG.upJ ?_ (fun _ => cM) (Sm.out ?_) | refine ExG.upI ?_ (fun _ => cM) (Ob.out ?_) (Sm.out ?_)); focus (exact ⟨_, (pmz _)⟩)) | refine YzPtK ?_ | (refine WP.cond rfl (fun hc => ?_) (fun hc => ?_) <;> (try simp only [ZC, reduceCtorEq, ZD] at hc) <;> (try exact absurd hc (by decide)) <;> (try (exfalso; omega))) | refine Rt.mk (And.intro (fun hg => Sm.out ?_) fun hg => Sm.out ?_) | (refine Nu.mk ?_; first | (fail_if_success have := nb1); intro nb1 | (fail_if_success have := nb2); intro nb2 | (fail_if_success have := nb3); intro nb3 | (fail_if_success have := nb4); intro nb4 | (fail_if_success have := nb5); intro nb5 | (fail_if_success have := nb6); intro nb6 | (fail_if_success have := nb7); intro nb7 | (fail_if_success have := nb8); intro nb8 | (fail_if_success have := nb9); intro nb9 | (fail_if_success have := nb10); intro nb10 | intro nbz) | (apply Yfr; refine Yf FR fun hFRb FR => ?_) | refine Two.mk ?_ ?_ | (apply Yxc; exact Yx) | refine Cs.mk fun hcs => Sm.out ?_ | go_step | omega | (simp only [maxLen_eq]; omega) | exact trivial
  clear cM kM
  obtain ⟨hb, hhb⟩ : ∃ x, x = nb1 := ⟨_, rfl⟩
  rw [← hhb]
  clear hhb
  refine WP.sub (s' := ⟨[(17, iv .i64 0), (16, pt hb 0), (14, pt y 0), (12, .lit (.string X)), (11, pt b 0), (4, .sl L.length C), (0, iv .i64 (n : Int)), (1, iv .i64 (s : Int)), (2, iv .i64 (p : Int)), (3, iv .i64 (q : Int))], (hb, .cells [nu 0, nl] 2 38) :: (y, slO b p q (0, []) false) :: dH b a1 l1⟩) (Sub.of_env [] (by exact pmz _) (by simp [look])) ?_
  refine WP.wk Wk.nil0 ?_
  refine WP.loop (Γ := PG) (fun g => ⟨[(17, iv .i64 (g.i : Int)), (16, pt hb 0), (14, pt g.y 0), (12, .lit (.string X)), (11, pt b 0), (4, .sl L.length C), (0, iv .i64 (n : Int)), (1, iv .i64 (s : Int)), (2, iv .i64 (p : Int)), (3, iv .i64 (q : Int))], (hb, snM g.E) :: (g.y, slO b p q g.E false) :: dH b g.a g.l⟩)
    (fun g => g.i ≤ L.length ∧ AOk (26 + 14 * g.i) g.a ∧ HP s n p q P Q g.E g.a ∧ LOk b g.a g.l) (fun g => L.length - g.i) ⟨0, l1, a1, y, (0, [])⟩ ⟨Nat.zero_le _, hA1', hH1, hl1⟩ (Sub.of_env [] (pmz _) (by simp [look])) ?_
  clear hA1' hH1 hl1
  intro ⟨i, l, a, y, E⟩ ⟨hi, hA, hH, hl⟩
  simp only at hi hA hH hl ⊢
  have FR : Sm (¬ ((1 : Nat) = 0)) := Sm.mk Nat.one_ne_zero
  by_cases hin : i < L.length
  · have ki : decide ((i : Int) < (L.length : Int)) = true := decide_eq_true (by omega)
    have s1 : IntKind.i64.wrap ((i : Int) + 1) = ((i + 1 : Nat) : Int) := by rw [wrap_i64 (by omega) (by omega)]; omega
    have hd := hdr i hin
    have q1 : (i + 1) * 2 ≤ C.length := by omega
    have vl := ub_len (L[i]).z
    have hv2 := hL2 L[i] (List.getElem_mem hin)
    obtain ⟨v, hv⟩ : ∃ x, x = L[i] := ⟨_, rfl⟩
    rw [← hv] at hd vl hv2
    obtain ⟨TR, hTR⟩ : ∃ TR, TR = acs (L.drop (i + 1)) := ⟨_, rfl⟩
    rw [← hTR] at hd
    clear hdr hv hTR
    by_cases e1 : v.kd = 1
    · have c1 : (v.kd == 1) = true := beq_iff_eq.2 e1
      have hz0 := hH.snp
      have cRp := refput_ct E (q * s) (ub v.z) (by omega) hz0.2.2 (by omega)
      have hPS := hH.put y b l hA hl hpq hq1 (by omega) v.z (by omega) (by omega)
      obtain ⟨e, he⟩ : ∃ e, e = rpE E (q * s) (ub v.z) := ⟨_, rfl⟩
      rw [← he] at cRp hPS
      clear he hz0
      obtain ⟨a2, cP, hA2, hH2⟩ := hPS
      have ke : (e.2 != e.2) = false := by simp
      unfold snV at cRp
      first | (have FRx := FR; clear FRx) | have FR := fr0S
      have FA := Sm.mk (And.intro TFPtK (And.intro ki (And.intro hd (And.intro q1 (And.intro vl (And.intro w0 c1))))))
      repeat' first | (apply Sm.mk; refine YsPtK0 ?_) | refine WP.seq fun K hK => ?_ | (apply Ob.mk; exact Yo) | refine And.intro (Ob.out ?_) ?_ | ((fail_if_success (show WP _ _ _ (.region 20 _ _) _ _)); refine Y1PtK ?_) | refine Yc (c := cRp) (r := ?_) | refine YzPtK ?_ | (refine WP.cond rfl (fun hc => ?_) (fun hc => ?_) <;> (try simp only [ZC, reduceCtorEq, ZD] at hc) <;> (try exact absurd hc (by decide)) <;> (try (exfalso; omega))) | refine Rt.mk (And.intro (fun hg => Sm.out ?_) fun hg => Sm.out ?_) | (refine Nu.mk ?_; first | (fail_if_success have := nb1); intro nb1 | (fail_if_success have := nb2); intro nb2 | (fail_if_success have := nb3); intro nb3 | (fail_if_success have := nb4); intro nb4 | (fail_if_success have := nb5); intro nb5 | (fail_if_success have := nb6); intro nb6 | (fail_if_success have := nb7); intro nb7 | (fail_if_success have := nb8); intro nb8 | (fail_if_success have := nb9); intro nb9 | (fail_if_success have := nb10); intro nb10 | intro nbz) | (apply Yfr; refine Yf FR fun hFRb FR => ?_) | refine Two.mk ?_ ?_ | (apply Yxc; exact Yx) | refine Cs.mk fun hcs => Sm.out ?_ | go_step | omega | (simp only [maxLen_eq]; omega) | exact trivial
      refine WP.sub (s' := ⟨[(19, iv .i64 e.2), (18, pt nb2 0), (17, iv .i64 (i : Int)), (16, pt hb 0), (14, pt y 0), (12, .lit (.string X)), (11, pt b 0), (4, .sl L.length C), (0, iv .i64 (n : Int)), (1, iv .i64 (s : Int)), (2, iv .i64 (p : Int)), (3, iv .i64 (q : Int))], (nb2, snM e.1) :: (hb, snM E) :: (y, slO b p q E false) :: dH b a l⟩) (Sub.of_env [] (by exact pmz _) (by simp [look])) ?_
      refine WP.nd fun hnd => ?_
      simp only [ndF, fresh_cons, and_true, ne_eq] at hnd
      obtain ⟨tb, htb⟩ : ∃ x, x = nb2 := ⟨_, rfl⟩
      rw [← htb] at hnd ⊢
      have ht1 : ¬ hb = tb ∧ ¬ tb = hb := hnd.1.1
      clear htb hnd cRp
      first | (have FRx := FR; clear FRx) | have FR := fr0S
      have FA := Sm.mk (And.intro TFPtK ht1)
      repeat' first | (apply Sm.mk; refine Ys ?_) | refine WP.seq fun K hK => ?_ | (apply Ob.mk; exact Yo) | refine And.intro (Ob.out ?_) ?_ | ((fail_if_success (show WP _ _ _ (.region 21 _ _) _ _)); refine Y1PtK ?_) | refine YzPtK ?_ | (refine WP.cond rfl (fun hc => ?_) (fun hc => ?_) <;> (try simp only [ZC, reduceCtorEq, ZD] at hc) <;> (try exact absurd hc (by decide)) <;> (try (exfalso; omega))) | refine Rt.mk (And.intro (fun hg => Sm.out ?_) fun hg => Sm.out ?_) | (refine Nu.mk ?_; first | (fail_if_success have := nb1); intro nb1 | (fail_if_success have := nb2); intro nb2 | (fail_if_success have := nb3); intro nb3 | (fail_if_success have := nb4); intro nb4 | (fail_if_success have := nb5); intro nb5 | (fail_if_success have := nb6); intro nb6 | (fail_if_success have := nb7); intro nb7 | (fail_if_success have := nb8); intro nb8 | (fail_if_success have := nb9); intro nb9 | (fail_if_success have := nb10); intro nb10 | intro nbz) | (apply Yfr; refine Yf FR fun hFRb FR => ?_) | refine Two.mk ?_ ?_ | (apply Yxc; exact Yx) | refine Cs.mk fun hcs => Sm.out ?_ | go_step | omega | (simp only [maxLen_eq]; omega) | exact trivial
      refine WP.sub (s' := ⟨[(19, iv .i64 e.2), (17, iv .i64 (i : Int)), (16, pt hb 0), (14, pt y 0), (12, .lit (.string X)), (11, pt b 0), (4, .sl L.length C), (0, iv .i64 (n : Int)), (1, iv .i64 (s : Int)), (2, iv .i64 (p : Int)), (3, iv .i64 (q : Int))], (hb, snM e.1) :: (y, slO b p q E false) :: dH b a l⟩) (Sub.of_env [(tb, snM e.1)] (by exact List.perm_append_comm (l₁ := [_])) (by simp [look])) ?_
      have cP := lift0 [(hb, snM e.1)] cP
      first | (have FRx := FR; clear FRx) | have FR := fr0S
      have FA := Sm.mk (And.intro TFPtK (And.intro hd (And.intro q1 (And.intro vl ke))))
      repeat' first | (apply Sm.mk; refine YsPtK0 ?_) | refine WP.seq fun K hK => ?_ | (apply Ob.mk; exact Yo) | refine And.intro (Ob.out ?_) ?_ | ((fail_if_success (show WP _ _ _ (.region 34 _ _) _ _)); refine Y1PtK ?_) | (refine CallV.exM (cP) (pmz _) (fun g => Sm.out ?_)) | refine YzPtK ?_ | (refine WP.cond rfl (fun hc => ?_) (fun hc => ?_) <;> (try simp only [ZC, reduceCtorEq, ZD] at hc) <;> (try exact absurd hc (by decide)) <;> (try (exfalso; omega))) | refine Rt.mk (And.intro (fun hg => Sm.out ?_) fun hg => Sm.out ?_) | (refine Nu.mk ?_; first | (fail_if_success have := nb1); intro nb1 | (fail_if_success have := nb2); intro nb2 | (fail_if_success have := nb3); intro nb3 | (fail_if_success have := nb4); intro nb4 | (fail_if_success have := nb5); intro nb5 | (fail_if_success have := nb6); intro nb6 | (fail_if_success have := nb7); intro nb7 | (fail_if_success have := nb8); intro nb8 | (fail_if_success have := nb9); intro nb9 | (fail_if_success have := nb10); intro nb10 | intro nbz) | (apply Yfr; refine Yf FR fun hFRb FR => ?_) | refine Two.mk ?_ ?_ | (apply Yxc; exact Yx) | refine Cs.mk fun hcs => Sm.out ?_ | go_step | omega | (simp only [maxLen_eq]; omega) | exact trivial
      obtain ⟨l2, hl2⟩ := g
      try simp only [List.append_nil]
      refine WP.sub (s' := ⟨[(17, iv .i64 (i : Int)), (16, pt hb 0), (14, pt y 0), (12, .lit (.string X)), (11, pt b 0), (4, .sl L.length C), (0, iv .i64 (n : Int)), (1, iv .i64 (s : Int)), (2, iv .i64 (p : Int)), (3, iv .i64 (q : Int))], (hb, snM e.1) :: (y, slO b p q e.1 false) :: dH b a2 l2⟩) (Sub.of_env [] (by exact pmz _) (by simp [look])) ?_
      have hz := hH2.snp
      have cSn := (snap18_ct y b p q e.1 false hz.1 (by have := hz.2.1; omega)).lookU (H := (hb, snM e.1) :: (y, slO b p q e.1 false) :: dH b a2 l2) (R := (hb, snM e.1) :: dH b a2 l2) (by exact .swap _ _ _)
      have cSm := same17_ct e.1 e.1 (by have := hz.2.1; omega) (by have := hz.2.1; omega)
      rw [sameB_self] at cSm
      have cWt := look0 [(hb, snM e.1), (y, slO b p q e.1 false)] (waits_d b a2 l2 hH2.dsk.2.2.1)
      unfold snV at cSn cSm
      refine WP.drawV (k := 10) mixed (by decide +kernel) (Sm.out ?_)
      first | (have FRx := FR; clear FRx) | have FR := fr0S
      have FA := Sm.mk (And.intro TFPtK (And.intro z1 (And.intro z2 s1)))
      repeat' first | (apply Sm.mk; refine YsPtK1 ?_) | refine WP.seq fun K hK => ?_ | (apply Ob.mk; exact Yo) | refine And.intro (Ob.out ?_) ?_ | refine Y1PtK ?_ | refine CallV.updM (cSn) (pmz _) (Sm.out ?_) | ((first | refine ExF.up ?_ (cSn) (Sm.out ?_) | refine ExG.up ?_ (fun _ => cSn) (Sm.out ?_) | refine ExG.upJ ?_ (fun _ => cSn) (Sm.out ?_) | refine ExG.upI ?_ (fun _ => cSn) (Ob.out ?_) (Sm.out ?_)); focus (exact ⟨_, (pmz _)⟩)) | (first | refine CallV.fn (cSm) (Sm.out ?_) | refine ExF.mk (cSm) (Sm.out ?_) | refine ExG.mk (fun _ => cSm) (Sm.out ?_) | refine ExG.mkJ (fun _ => cSm) (Sm.out ?_) | refine ExG.mkI (Ob.out ?_) (fun _ => cSm) (Sm.out ?_)) | refine CallV.updM (cWt) (pmz _) (Sm.out ?_) | ((first | refine ExF.up ?_ (cWt) (Sm.out ?_) | refine ExG.up ?_ (fun _ => cWt) (Sm.out ?_) | refine ExG.upJ ?_ (fun _ => cWt) (Sm.out ?_) | refine ExG.upI ?_ (fun _ => cWt) (Ob.out ?_) (Sm.out ?_)); focus (exact ⟨_, (pmz _)⟩)) | refine YzPtK ?_ | (refine WP.cond rfl (fun hc => ?_) (fun hc => ?_) <;> (try simp only [ZC, reduceCtorEq, ZD] at hc) <;> (try exact absurd hc (by decide)) <;> (try (exfalso; omega))) | refine Rt.mk (And.intro (fun hg => Sm.out ?_) fun hg => Sm.out ?_) | (refine Nu.mk ?_; first | (fail_if_success have := nb1); intro nb1 | (fail_if_success have := nb2); intro nb2 | (fail_if_success have := nb3); intro nb3 | (fail_if_success have := nb4); intro nb4 | (fail_if_success have := nb5); intro nb5 | (fail_if_success have := nb6); intro nb6 | (fail_if_success have := nb7); intro nb7 | (fail_if_success have := nb8); intro nb8 | (fail_if_success have := nb9); intro nb9 | (fail_if_success have := nb10); intro nb10 | intro nbz) | (apply Yfr; refine Yf FR fun hFRb FR => ?_) | refine Two.mk ?_ ?_ | (apply Yxc; exact Yx) | refine Cs.mk fun hcs => Sm.out ?_ | go_step | omega | (simp only [maxLen_eq]; omega) | exact trivial
      exact ⟨⟨i + 1, l2, a2, y, e.1⟩, ⟨by simp only; omega, hA2.le (by simp only; omega), hH2, hl2⟩, by simp only; omega, Sub.of_env [] (pmz _) (by simp [look, s1])⟩
    have c1 : (v.kd == 1) = false := beq_eq_false_iff_ne.2 e1
    by_cases e2 : v.kd = 2
    · have c2 : (v.kd == 2) = true := beq_iff_eq.2 e2
      have cD := look0 [(hb, snM E), (y, slO b p q E false)] (deeds_d b a l)
      have cDe : ((a.de : Int) != (a.de : Int)) = false := by simp
      have cO := lift0 [(hb, snM E), (y, slO b p q E false)] (hH.opn b l hA hl hpq hq1 (by omega))
      first | (have FRx := FR; clear FRx) | have FR := fr0S
      have FA := Sm.mk (And.intro TFPtK (And.intro ki (And.intro hd (And.intro q1 (And.intro c1 c2)))))
      repeat' first | (apply Sm.mk; refine YsPtK0 ?_) | refine WP.seq fun K hK => ?_ | (apply Ob.mk; exact Yo) | refine And.intro (Ob.out ?_) ?_ | ((fail_if_success (show WP _ _ _ (.region 26 _ _) _ _)); refine Y1PtK ?_) | refine CallV.updM (cD) (pmz _) (Sm.out ?_) | ((first | refine ExF.up ?_ (cD) (Sm.out ?_) | refine ExG.up ?_ (fun _ => cD) (Sm.out ?_) | refine ExG.upJ ?_ (fun _ => cD) (Sm.out ?_) | refine ExG.upI ?_ (fun _ => cD) (Ob.out ?_) (Sm.out ?_)); focus (exact ⟨_, (pmz _)⟩)) | (refine CallV.exM (cO) (pmz _) (fun g => Sm.out ?_)) | refine YzPtK ?_ | (refine WP.cond rfl (fun hc => ?_) (fun hc => ?_) <;> (try simp only [ZC, reduceCtorEq, ZD] at hc) <;> (try exact absurd hc (by decide)) <;> (try (exfalso; omega))) | refine Rt.mk (And.intro (fun hg => Sm.out ?_) fun hg => Sm.out ?_) | (refine Nu.mk ?_; first | (fail_if_success have := nb1); intro nb1 | (fail_if_success have := nb2); intro nb2 | (fail_if_success have := nb3); intro nb3 | (fail_if_success have := nb4); intro nb4 | (fail_if_success have := nb5); intro nb5 | (fail_if_success have := nb6); intro nb6 | (fail_if_success have := nb7); intro nb7 | (fail_if_success have := nb8); intro nb8 | (fail_if_success have := nb9); intro nb9 | (fail_if_success have := nb10); intro nb10 | intro nbz) | (apply Yfr; refine Yf FR fun hFRb FR => ?_) | refine Two.mk ?_ ?_ | (apply Yxc; exact Yx) | refine Cs.mk fun hcs => Sm.out ?_ | go_step | omega | (simp only [maxLen_eq]; omega) | exact trivial
      obtain ⟨y2, rfl⟩ : ∃ y2, y2 = g := ⟨g, rfl⟩
      try simp only [List.append_nil]
      refine WP.sub (s' := ⟨[(20, iv .i64 (a.de : Int)), (15, iv .i64 0), (17, iv .i64 (i : Int)), (16, pt hb 0), (14, pt y2 0), (12, .lit (.string X)), (11, pt b 0), (4, .sl L.length C), (0, iv .i64 (n : Int)), (1, iv .i64 (s : Int)), (2, iv .i64 (p : Int)), (3, iv .i64 (q : Int))], (hb, snM E) :: (y2, slO b p q E false) :: dH b a l⟩) (Sub.of_env [(y, slO b p q E false)] (by exact List.Perm.cons _ (List.perm_append_comm (l₁ := [_]))) (by simp [look])) ?_
      have cD := look0 [(hb, snM E), (y2, slO b p q E false)] (deeds_d b a l)
      first | (have FRx := FR; clear FRx) | have FR := fr0S
      have FA := Sm.mk (And.intro TFPtK (And.intro z1 cDe))
      repeat' first | (apply Sm.mk; refine Ys ?_) | refine WP.seq fun K hK => ?_ | (apply Ob.mk; exact Yo) | refine And.intro (Ob.out ?_) ?_ | ((fail_if_success (show WP _ _ _ (.region 34 _ _) _ _)); refine Y1PtK ?_) | refine CallV.updM (cD) (pmz _) (Sm.out ?_) | ((first | refine ExF.up ?_ (cD) (Sm.out ?_) | refine ExG.up ?_ (fun _ => cD) (Sm.out ?_) | refine ExG.upJ ?_ (fun _ => cD) (Sm.out ?_) | refine ExG.upI ?_ (fun _ => cD) (Ob.out ?_) (Sm.out ?_)); focus (exact ⟨_, (pmz _)⟩)) | refine YzPtK ?_ | (refine WP.cond rfl (fun hc => ?_) (fun hc => ?_) <;> (try simp only [ZC, reduceCtorEq, ZD] at hc) <;> (try exact absurd hc (by decide)) <;> (try (exfalso; omega))) | refine Rt.mk (And.intro (fun hg => Sm.out ?_) fun hg => Sm.out ?_) | (refine Nu.mk ?_; first | (fail_if_success have := nb1); intro nb1 | (fail_if_success have := nb2); intro nb2 | (fail_if_success have := nb3); intro nb3 | (fail_if_success have := nb4); intro nb4 | (fail_if_success have := nb5); intro nb5 | (fail_if_success have := nb6); intro nb6 | (fail_if_success have := nb7); intro nb7 | (fail_if_success have := nb8); intro nb8 | (fail_if_success have := nb9); intro nb9 | (fail_if_success have := nb10); intro nb10 | intro nbz) | (apply Yfr; refine Yf FR fun hFRb FR => ?_) | refine Two.mk ?_ ?_ | (apply Yxc; exact Yx) | refine Cs.mk fun hcs => Sm.out ?_ | go_step | omega | (simp only [maxLen_eq]; omega) | exact trivial
      refine WP.sub (s' := ⟨[(17, iv .i64 (i : Int)), (16, pt hb 0), (14, pt y2 0), (12, .lit (.string X)), (11, pt b 0), (4, .sl L.length C), (0, iv .i64 (n : Int)), (1, iv .i64 (s : Int)), (2, iv .i64 (p : Int)), (3, iv .i64 (q : Int))], (hb, snM E) :: (y2, slO b p q E false) :: dH b a l⟩) (Sub.of_env [] (by exact pmz _) (by simp [look])) ?_
      have hz := hH.snp
      have cSn := (snap18_ct y2 b p q E false hz.1 (by have := hz.2.1; omega)).lookU (H := (hb, snM E) :: (y2, slO b p q E false) :: dH b a l) (R := (hb, snM E) :: dH b a l) (by exact .swap _ _ _)
      have cSm := same17_ct E E (by have := hz.2.1; omega) (by have := hz.2.1; omega)
      rw [sameB_self] at cSm
      have cWt := look0 [(hb, snM E), (y2, slO b p q E false)] (waits_d b a l hH.dsk.2.2.1)
      unfold snV at cSn cSm
      refine WP.drawV (k := 10) mixed (by decide +kernel) (Sm.out ?_)
      first | (have FRx := FR; clear FRx) | have FR := fr0S
      have FA := Sm.mk (And.intro TFPtK (And.intro z1 (And.intro z2 s1)))
      repeat' first | (apply Sm.mk; refine YsPtK1 ?_) | refine WP.seq fun K hK => ?_ | (apply Ob.mk; exact Yo) | refine And.intro (Ob.out ?_) ?_ | refine Y1PtK ?_ | refine CallV.updM (cSn) (pmz _) (Sm.out ?_) | ((first | refine ExF.up ?_ (cSn) (Sm.out ?_) | refine ExG.up ?_ (fun _ => cSn) (Sm.out ?_) | refine ExG.upJ ?_ (fun _ => cSn) (Sm.out ?_) | refine ExG.upI ?_ (fun _ => cSn) (Ob.out ?_) (Sm.out ?_)); focus (exact ⟨_, (pmz _)⟩)) | (first | refine CallV.fn (cSm) (Sm.out ?_) | refine ExF.mk (cSm) (Sm.out ?_) | refine ExG.mk (fun _ => cSm) (Sm.out ?_) | refine ExG.mkJ (fun _ => cSm) (Sm.out ?_) | refine ExG.mkI (Ob.out ?_) (fun _ => cSm) (Sm.out ?_)) | refine CallV.updM (cWt) (pmz _) (Sm.out ?_) | ((first | refine ExF.up ?_ (cWt) (Sm.out ?_) | refine ExG.up ?_ (fun _ => cWt) (Sm.out ?_) | refine ExG.upJ ?_ (fun _ => cWt) (Sm.out ?_) | refine ExG.upI ?_ (fun _ => cWt) (Ob.out ?_) (Sm.out ?_)); focus (exact ⟨_, (pmz _)⟩)) | refine YzPtK ?_ | (refine WP.cond rfl (fun hc => ?_) (fun hc => ?_) <;> (try simp only [ZC, reduceCtorEq, ZD] at hc) <;> (try exact absurd hc (by decide)) <;> (try (exfalso; omega))) | refine Rt.mk (And.intro (fun hg => Sm.out ?_) fun hg => Sm.out ?_) | (refine Nu.mk ?_; first | (fail_if_success have := nb1); intro nb1 | (fail_if_success have := nb2); intro nb2 | (fail_if_success have := nb3); intro nb3 | (fail_if_success have := nb4); intro nb4 | (fail_if_success have := nb5); intro nb5 | (fail_if_success have := nb6); intro nb6 | (fail_if_success have := nb7); intro nb7 | (fail_if_success have := nb8); intro nb8 | (fail_if_success have := nb9); intro nb9 | (fail_if_success have := nb10); intro nb10 | intro nbz) | (apply Yfr; refine Yf FR fun hFRb FR => ?_) | refine Two.mk ?_ ?_ | (apply Yxc; exact Yx) | refine Cs.mk fun hcs => Sm.out ?_ | go_step | omega | (simp only [maxLen_eq]; omega) | exact trivial
      exact ⟨⟨i + 1, l, a, y2, E⟩, ⟨by simp only; omega, hA.le (by simp only; omega), hH, hl⟩, by simp only; omega, Sub.of_env [] (pmz _) (by simp [look, s1])⟩
    have c2 : (v.kd == 2) = false := beq_eq_false_iff_ne.2 e2
    by_cases e3 : v.kd = 3
    · have c3 : (v.kd == 3) = true := beq_iff_eq.2 e3
      obtain ⟨a2, cF, hA2, hH2⟩ := hH.fmt b l hA hl hpq hq1 (by omega)
      have cF := lift0 [(hb, .cells [nu 0, nl] 2 38), (y, slO b p q E false)] cF
      first | (have FRx := FR; clear FRx) | have FR := fr0S
      have FA := Sm.mk (And.intro TFPtK (And.intro ki (And.intro hd (And.intro q1 (And.intro c1 (And.intro c2 c3))))))
      repeat' first | (apply Sm.mk; refine YsPtK0 ?_) | refine WP.seq fun K hK => ?_ | (apply Ob.mk; exact Yo) | refine And.intro (Ob.out ?_) ?_ | ((fail_if_success (show WP _ _ _ (.region 31 _ _) _ _)); refine Y1PtK ?_) | (refine CallV.exM (cF) (pmz _) (fun g => Sm.out ?_)) | refine YzPtK ?_ | (refine WP.cond rfl (fun hc => ?_) (fun hc => ?_) <;> (try simp only [ZC, reduceCtorEq, ZD] at hc) <;> (try exact absurd hc (by decide)) <;> (try (exfalso; omega))) | refine Rt.mk (And.intro (fun hg => Sm.out ?_) fun hg => Sm.out ?_) | (refine Nu.mk ?_; first | (fail_if_success have := nb1); intro nb1 | (fail_if_success have := nb2); intro nb2 | (fail_if_success have := nb3); intro nb3 | (fail_if_success have := nb4); intro nb4 | (fail_if_success have := nb5); intro nb5 | (fail_if_success have := nb6); intro nb6 | (fail_if_success have := nb7); intro nb7 | (fail_if_success have := nb8); intro nb8 | (fail_if_success have := nb9); intro nb9 | (fail_if_success have := nb10); intro nb10 | intro nbz) | (apply Yfr; refine Yf FR fun hFRb FR => ?_) | refine Two.mk ?_ ?_ | (apply Yxc; exact Yx) | refine Cs.mk fun hcs => Sm.out ?_ | go_step | omega | (simp only [maxLen_eq]; omega) | exact trivial
      obtain ⟨l2, hl2⟩ := g
      try simp only [List.append_nil]
      have cO := lift0 [(hb, .cells [nu 0, nl] 2 38), (y, slO b p q E false)] (hH2.opn b l2 hA2 hl2 hpq hq1 (by omega))
      first | (have FRx := FR; clear FRx) | have FR := fr0S
      have FA := Sm.mk (TFPtK)
      repeat' first | (apply Sm.mk; refine Ys ?_) | refine WP.seq fun K hK => ?_ | (apply Ob.mk; exact Yo) | refine And.intro (Ob.out ?_) ?_ | ((fail_if_success (show WP _ _ _ (.region 32 _ _) _ _)); refine Y1PtK ?_) | (refine CallV.exM (cO) (pmz _) (fun g => Sm.out ?_)) | refine YzPtK ?_ | (refine WP.cond rfl (fun hc => ?_) (fun hc => ?_) <;> (try simp only [ZC, reduceCtorEq, ZD] at hc) <;> (try exact absurd hc (by decide)) <;> (try (exfalso; omega))) | refine Rt.mk (And.intro (fun hg => Sm.out ?_) fun hg => Sm.out ?_) | (refine Nu.mk ?_; first | (fail_if_success have := nb1); intro nb1 | (fail_if_success have := nb2); intro nb2 | (fail_if_success have := nb3); intro nb3 | (fail_if_success have := nb4); intro nb4 | (fail_if_success have := nb5); intro nb5 | (fail_if_success have := nb6); intro nb6 | (fail_if_success have := nb7); intro nb7 | (fail_if_success have := nb8); intro nb8 | (fail_if_success have := nb9); intro nb9 | (fail_if_success have := nb10); intro nb10 | intro nbz) | (apply Yfr; refine Yf FR fun hFRb FR => ?_) | refine Two.mk ?_ ?_ | (apply Yxc; exact Yx) | refine Cs.mk fun hcs => Sm.out ?_ | go_step | omega | (simp only [maxLen_eq]; omega) | exact trivial
      obtain ⟨y2, rfl⟩ : ∃ y2, y2 = g := ⟨g, rfl⟩
      try simp only [List.append_nil]
      refine WP.sub (s' := ⟨[(13, iv .i64 0), (15, iv .i64 0), (17, iv .i64 (i : Int)), (16, pt hb 0), (14, pt y2 0), (12, .lit (.string X)), (11, pt b 0), (4, .sl L.length C), (0, iv .i64 (n : Int)), (1, iv .i64 (s : Int)), (2, iv .i64 (p : Int)), (3, iv .i64 (q : Int))], (hb, .cells [nu 0, nl] 2 38) :: (y2, slO b p q (0, []) false) :: dH b a2 l2⟩) (Sub.of_env [(y, slO b p q E false)] (by exact List.Perm.cons _ (List.perm_append_comm (l₁ := [_]))) (by simp [look])) ?_
      refine WP.wk Wk.nil0 ?_
      first | (have FRx := FR; clear FRx) | have FR := fr0S
      have FA := Sm.mk (And.intro TFPtK z1)
      repeat' first | (apply Sm.mk; refine Ys ?_) | refine WP.seq fun K hK => ?_ | (apply Ob.mk; exact Yo) | refine And.intro (Ob.out ?_) ?_ | ((fail_if_success (show WP _ _ _ (.region 34 _ _) _ _)); refine Y1PtK ?_) | refine YzPtK ?_ | (refine WP.cond rfl (fun hc => ?_) (fun hc => ?_) <;> (try simp only [ZC, reduceCtorEq, ZD] at hc) <;> (try exact absurd hc (by decide)) <;> (try (exfalso; omega))) | refine Rt.mk (And.intro (fun hg => Sm.out ?_) fun hg => Sm.out ?_) | (refine Nu.mk ?_; first | (fail_if_success have := nb1); intro nb1 | (fail_if_success have := nb2); intro nb2 | (fail_if_success have := nb3); intro nb3 | (fail_if_success have := nb4); intro nb4 | (fail_if_success have := nb5); intro nb5 | (fail_if_success have := nb6); intro nb6 | (fail_if_success have := nb7); intro nb7 | (fail_if_success have := nb8); intro nb8 | (fail_if_success have := nb9); intro nb9 | (fail_if_success have := nb10); intro nb10 | intro nbz) | (apply Yfr; refine Yf FR fun hFRb FR => ?_) | refine Two.mk ?_ ?_ | (apply Yxc; exact Yx) | refine Cs.mk fun hcs => Sm.out ?_ | go_step | omega | (simp only [maxLen_eq]; omega) | exact trivial
      obtain ⟨E0, hE0⟩ : ∃ E0 : Nat × List Int, E0 = (0, []) := ⟨_, rfl⟩
      rw [← hE0] at hH2
      refine WP.sub (s' := ⟨[(17, iv .i64 (i : Int)), (16, pt hb 0), (14, pt y2 0), (12, .lit (.string X)), (11, pt b 0), (4, .sl L.length C), (0, iv .i64 (n : Int)), (1, iv .i64 (s : Int)), (2, iv .i64 (p : Int)), (3, iv .i64 (q : Int))], (hb, snM E0) :: (y2, slO b p q E0 false) :: dH b a2 l2⟩) (Sub.of_env [] (by rw [hE0]; exact pmz _) (by simp [look])) ?_
      have hz := hH2.snp
      have cSn := (snap18_ct y2 b p q E0 false hz.1 (by have := hz.2.1; omega)).lookU (H := (hb, snM E0) :: (y2, slO b p q E0 false) :: dH b a2 l2) (R := (hb, snM E0) :: dH b a2 l2) (by exact .swap _ _ _)
      have cSm := same17_ct E0 E0 (by have := hz.2.1; omega) (by have := hz.2.1; omega)
      rw [sameB_self] at cSm
      have cWt := look0 [(hb, snM E0), (y2, slO b p q E0 false)] (waits_d b a2 l2 hH2.dsk.2.2.1)
      unfold snV at cSn cSm
      refine WP.drawV (k := 10) mixed (by decide +kernel) (Sm.out ?_)
      first | (have FRx := FR; clear FRx) | have FR := fr0S
      have FA := Sm.mk (And.intro TFPtK (And.intro z1 (And.intro z2 s1)))
      repeat' first | (apply Sm.mk; refine YsPtK1 ?_) | refine WP.seq fun K hK => ?_ | (apply Ob.mk; exact Yo) | refine And.intro (Ob.out ?_) ?_ | refine Y1PtK ?_ | refine CallV.updM (cSn) (pmz _) (Sm.out ?_) | ((first | refine ExF.up ?_ (cSn) (Sm.out ?_) | refine ExG.up ?_ (fun _ => cSn) (Sm.out ?_) | refine ExG.upJ ?_ (fun _ => cSn) (Sm.out ?_) | refine ExG.upI ?_ (fun _ => cSn) (Ob.out ?_) (Sm.out ?_)); focus (exact ⟨_, (pmz _)⟩)) | (first | refine CallV.fn (cSm) (Sm.out ?_) | refine ExF.mk (cSm) (Sm.out ?_) | refine ExG.mk (fun _ => cSm) (Sm.out ?_) | refine ExG.mkJ (fun _ => cSm) (Sm.out ?_) | refine ExG.mkI (Ob.out ?_) (fun _ => cSm) (Sm.out ?_)) | refine CallV.updM (cWt) (pmz _) (Sm.out ?_) | ((first | refine ExF.up ?_ (cWt) (Sm.out ?_) | refine ExG.up ?_ (fun _ => cWt) (Sm.out ?_) | refine ExG.upJ ?_ (fun _ => cWt) (Sm.out ?_) | refine ExG.upI ?_ (fun _ => cWt) (Ob.out ?_) (Sm.out ?_)); focus (exact ⟨_, (pmz _)⟩)) | refine YzPtK ?_ | (refine WP.cond rfl (fun hc => ?_) (fun hc => ?_) <;> (try simp only [ZC, reduceCtorEq, ZD] at hc) <;> (try exact absurd hc (by decide)) <;> (try (exfalso; omega))) | refine Rt.mk (And.intro (fun hg => Sm.out ?_) fun hg => Sm.out ?_) | (refine Nu.mk ?_; first | (fail_if_success have := nb1); intro nb1 | (fail_if_success have := nb2); intro nb2 | (fail_if_success have := nb3); intro nb3 | (fail_if_success have := nb4); intro nb4 | (fail_if_success have := nb5); intro nb5 | (fail_if_success have := nb6); intro nb6 | (fail_if_success have := nb7); intro nb7 | (fail_if_success have := nb8); intro nb8 | (fail_if_success have := nb9); intro nb9 | (fail_if_success have := nb10); intro nb10 | intro nbz) | (apply Yfr; refine Yf FR fun hFRb FR => ?_) | refine Two.mk ?_ ?_ | (apply Yxc; exact Yx) | refine Cs.mk fun hcs => Sm.out ?_ | go_step | omega | (simp only [maxLen_eq]; omega) | exact trivial
      exact ⟨⟨i + 1, l2, a2, y2, E0⟩, ⟨by simp only; omega, hA2.le (by simp only; omega), hH2, hl2⟩, by simp only; omega, Sub.of_env [] (pmz _) (by simp [look, s1])⟩
    have c3 : (v.kd == 3) = false := beq_eq_false_iff_ne.2 e3
    first | (have FRx := FR; clear FRx) | have FR := fr0S
    have FA := Sm.mk (And.intro TFPtK (And.intro ki (And.intro hd (And.intro q1 (And.intro c1 (And.intro c2 c3))))))
    repeat' first | (apply Sm.mk; refine YsPtK0 ?_) | refine WP.seq fun K hK => ?_ | (apply Ob.mk; exact Yo) | refine And.intro (Ob.out ?_) ?_ | ((fail_if_success (show WP _ _ _ (.region 34 _ _) _ _)); refine Y1PtK ?_) | refine YzPtK ?_ | (refine WP.cond rfl (fun hc => ?_) (fun hc => ?_) <;> (try simp only [ZC, reduceCtorEq, ZD] at hc) <;> (try exact absurd hc (by decide)) <;> (try (exfalso; omega))) | refine Rt.mk (And.intro (fun hg => Sm.out ?_) fun hg => Sm.out ?_) | (refine Nu.mk ?_; first | (fail_if_success have := nb1); intro nb1 | (fail_if_success have := nb2); intro nb2 | (fail_if_success have := nb3); intro nb3 | (fail_if_success have := nb4); intro nb4 | (fail_if_success have := nb5); intro nb5 | (fail_if_success have := nb6); intro nb6 | (fail_if_success have := nb7); intro nb7 | (fail_if_success have := nb8); intro nb8 | (fail_if_success have := nb9); intro nb9 | (fail_if_success have := nb10); intro nb10 | intro nbz) | (apply Yfr; refine Yf FR fun hFRb FR => ?_) | refine Two.mk ?_ ?_ | (apply Yxc; exact Yx) | refine Cs.mk fun hcs => Sm.out ?_ | go_step | omega | (simp only [maxLen_eq]; omega) | exact trivial
    refine WP.sub (s' := ⟨[(17, iv .i64 (i : Int)), (16, pt hb 0), (14, pt y 0), (12, .lit (.string X)), (11, pt b 0), (4, .sl L.length C), (0, iv .i64 (n : Int)), (1, iv .i64 (s : Int)), (2, iv .i64 (p : Int)), (3, iv .i64 (q : Int))], (hb, snM E) :: (y, slO b p q E false) :: dH b a l⟩) (Sub.of_env [] (by exact pmz _) (by simp [look])) ?_
    have hz := hH.snp
    have cSn := (snap18_ct y b p q E false hz.1 (by have := hz.2.1; omega)).lookU (H := (hb, snM E) :: (y, slO b p q E false) :: dH b a l) (R := (hb, snM E) :: dH b a l) (by exact .swap _ _ _)
    have cSm := same17_ct E E (by have := hz.2.1; omega) (by have := hz.2.1; omega)
    rw [sameB_self] at cSm
    have cWt := look0 [(hb, snM E), (y, slO b p q E false)] (waits_d b a l hH.dsk.2.2.1)
    unfold snV at cSn cSm
    refine WP.drawV (k := 10) mixed (by decide +kernel) (Sm.out ?_)
    first | (have FRx := FR; clear FRx) | have FR := fr0S
    have FA := Sm.mk (And.intro TFPtK (And.intro z1 (And.intro z2 s1)))
    repeat' first | (apply Sm.mk; refine YsPtK1 ?_) | refine WP.seq fun K hK => ?_ | (apply Ob.mk; exact Yo) | refine And.intro (Ob.out ?_) ?_ | refine Y1PtK ?_ | refine CallV.updM (cSn) (pmz _) (Sm.out ?_) | ((first | refine ExF.up ?_ (cSn) (Sm.out ?_) | refine ExG.up ?_ (fun _ => cSn) (Sm.out ?_) | refine ExG.upJ ?_ (fun _ => cSn) (Sm.out ?_) | refine ExG.upI ?_ (fun _ => cSn) (Ob.out ?_) (Sm.out ?_)); focus (exact ⟨_, (pmz _)⟩)) | (first | refine CallV.fn (cSm) (Sm.out ?_) | refine ExF.mk (cSm) (Sm.out ?_) | refine ExG.mk (fun _ => cSm) (Sm.out ?_) | refine ExG.mkJ (fun _ => cSm) (Sm.out ?_) | refine ExG.mkI (Ob.out ?_) (fun _ => cSm) (Sm.out ?_)) | refine CallV.updM (cWt) (pmz _) (Sm.out ?_) | ((first | refine ExF.up ?_ (cWt) (Sm.out ?_) | refine ExG.up ?_ (fun _ => cWt) (Sm.out ?_) | refine ExG.upJ ?_ (fun _ => cWt) (Sm.out ?_) | refine ExG.upI ?_ (fun _ => cWt) (Ob.out ?_) (Sm.out ?_)); focus (exact ⟨_, (pmz _)⟩)) | refine YzPtK ?_ | (refine WP.cond rfl (fun hc => ?_) (fun hc => ?_) <;> (try simp only [ZC, reduceCtorEq, ZD] at hc) <;> (try exact absurd hc (by decide)) <;> (try (exfalso; omega))) | refine Rt.mk (And.intro (fun hg => Sm.out ?_) fun hg => Sm.out ?_) | (refine Nu.mk ?_; first | (fail_if_success have := nb1); intro nb1 | (fail_if_success have := nb2); intro nb2 | (fail_if_success have := nb3); intro nb3 | (fail_if_success have := nb4); intro nb4 | (fail_if_success have := nb5); intro nb5 | (fail_if_success have := nb6); intro nb6 | (fail_if_success have := nb7); intro nb7 | (fail_if_success have := nb8); intro nb8 | (fail_if_success have := nb9); intro nb9 | (fail_if_success have := nb10); intro nb10 | intro nbz) | (apply Yfr; refine Yf FR fun hFRb FR => ?_) | refine Two.mk ?_ ?_ | (apply Yxc; exact Yx) | refine Cs.mk fun hcs => Sm.out ?_ | go_step | omega | (simp only [maxLen_eq]; omega) | exact trivial
    exact ⟨⟨i + 1, l, a, y, E⟩, ⟨by simp only; omega, hA.le (by simp only; omega), hH, hl⟩, by simp only; omega, Sub.of_env [] (pmz _) (by simp [look, s1])⟩
  · obtain rfl : i = L.length := by omega
    have ki : decide ((L.length : Int) < (L.length : Int)) = false := by simp
    obtain ⟨W2, h2S, h2W, -, h2P, h2Q⟩ := hH.h
    have cW := look0 [(hb, snM E), (y, slO b p q E false)] (all_ct b a l hA hl h2S.dk)
    rw [h2S.T] at cW
    obtain ⟨X2, hX2⟩ : ∃ X, X = bstr (ub W2) := ⟨_, rfl⟩
    rw [← hX2] at cW
    have hYs : X2.size = n * s := by rw [hX2, bstr_size, ub_len, h2W]
    have eYP : X2.extract 0 (p * s) = bstr (ub P) := by rw [hX2, ext_ub, List.drop_zero, Nat.sub_zero, h2P]
    have eYQ : X2.extract ((p + 2 * q) * s) (n * s) = bstr (ub Q) := by rw [hX2, ext_ub, h2Q, List.take_of_length_le (by omega)]
    obtain ⟨V, hV⟩ : ∃ V, V = bstr (ub P) := ⟨_, rfl⟩
    obtain ⟨U, hU⟩ : ∃ U, U = bstr (ub Q) := ⟨_, rfl⟩
    rw [← hV] at eXP eYP
    rw [← hU] at eXQ eYQ
    have kV : (V.toList == V.toList) = true := beq_self_eq_true _
    have kU : (U.toList == U.toList) = true := beq_self_eq_true _
    have wps : IntKind.i64.wrap ((p : Int) * (s : Int)) = ((p * s : Nat) : Int) := by rw [← Int.natCast_mul]; exact wrap_i64 (by omega) (by omega)
    have w2q : IntKind.i64.wrap (2 * (q : Int)) = ((2 * q : Nat) : Int) := by rw [wrap_i64 (by omega) (by omega)]; omega
    have wpq : IntKind.i64.wrap ((p : Int) + ((2 * q : Nat) : Int)) = ((p + 2 * q : Nat) : Int) := by rw [wrap_i64 (by omega) (by omega)]; omega
    have wqs : IntKind.i64.wrap (((p + 2 * q : Nat) : Int) * (s : Int)) = (((p + 2 * q) * s : Nat) : Int) := by rw [← Int.natCast_mul]; exact wrap_i64 (by omega) (by omega)
    first | (have FRx := FR; clear FRx) | have FR := fr0S
    have FA := Sm.mk (And.intro TFPtK ki)
    repeat' first | (apply Sm.mk; refine Ys ?_) | refine WP.seq fun K hK => ?_ | (apply Ob.mk; exact Yo) | refine And.intro (Ob.out ?_) ?_ | ((fail_if_success (show WP _ _ _ (.region 37 _ _) _ _)); refine Y1PtK ?_) | refine CallV.updM (cW) (pmz _) (Sm.out ?_) | ((first | refine ExF.up ?_ (cW) (Sm.out ?_) | refine ExG.up ?_ (fun _ => cW) (Sm.out ?_) | refine ExG.upJ ?_ (fun _ => cW) (Sm.out ?_) | refine ExG.upI ?_ (fun _ => cW) (Ob.out ?_) (Sm.out ?_)); focus (exact ⟨_, (pmz _)⟩)) | refine YzPtK ?_ | (refine WP.cond rfl (fun hc => ?_) (fun hc => ?_) <;> (try simp only [ZC, reduceCtorEq, ZD] at hc) <;> (try exact absurd hc (by decide)) <;> (try (exfalso; omega))) | refine Rt.mk (And.intro (fun hg => Sm.out ?_) fun hg => Sm.out ?_) | (refine Nu.mk ?_; first | (fail_if_success have := nb1); intro nb1 | (fail_if_success have := nb2); intro nb2 | (fail_if_success have := nb3); intro nb3 | (fail_if_success have := nb4); intro nb4 | (fail_if_success have := nb5); intro nb5 | (fail_if_success have := nb6); intro nb6 | (fail_if_success have := nb7); intro nb7 | (fail_if_success have := nb8); intro nb8 | (fail_if_success have := nb9); intro nb9 | (fail_if_success have := nb10); intro nb10 | intro nbz) | (apply Yfr; refine Yf FR fun hFRb FR => ?_) | refine Two.mk ?_ ?_ | (apply Yxc; exact Yx) | refine Cs.mk fun hcs => Sm.out ?_ | go_step | omega | (simp only [maxLen_eq]; omega) | exact trivial
    refine WP.drawV (k := 31) mixed (by decide +kernel) (Sm.out ?_)
    first | (have FRx := FR; clear FRx) | have FR := fr0S
    have FA := Sm.mk (And.intro TFPtK (And.intro wps (And.intro w2q (And.intro wpq (And.intro wqs (And.intro hXs (And.intro hYs (And.intro eXP (And.intro eYP (And.intro eXQ (And.intro eYQ (And.intro kV (And.intro kU (And.intro hps2 hz0))))))))))))))
    repeat' first | (apply Sm.mk; refine YsPtK1 ?_) | refine WP.seq fun K hK => ?_ | (apply Ob.mk; exact Yo) | refine And.intro (Ob.out ?_) ?_ | refine Y1PtK ?_ | refine YzPtK ?_ | (refine WP.cond rfl (fun hc => ?_) (fun hc => ?_) <;> (try simp only [ZC, reduceCtorEq, ZD] at hc) <;> (try exact absurd hc (by decide)) <;> (try (exfalso; omega))) | refine Rt.mk (And.intro (fun hg => Sm.out ?_) fun hg => Sm.out ?_) | (refine Nu.mk ?_; first | (fail_if_success have := nb1); intro nb1 | (fail_if_success have := nb2); intro nb2 | (fail_if_success have := nb3); intro nb3 | (fail_if_success have := nb4); intro nb4 | (fail_if_success have := nb5); intro nb5 | (fail_if_success have := nb6); intro nb6 | (fail_if_success have := nb7); intro nb7 | (fail_if_success have := nb8); intro nb8 | (fail_if_success have := nb9); intro nb9 | (fail_if_success have := nb10); intro nb10 | intro nbz) | (apply Yfr; refine Yf FR fun hFRb FR => ?_) | refine Two.mk ?_ ?_ | (apply Yxc; exact Yx) | refine Cs.mk fun hcs => Sm.out ?_ | go_step | omega | (simp only [maxLen_eq]; omega) | exact trivial
    (refine Yg ?_; try exact trivial)
open Go
abbrev actTy : Ty := .st [.int .i64, .row .u8]
theorem ac_rows : ∀ (rows : List (List AV)), (∀ r ∈ rows, Shp actTy r) → ∃ L : List Ac, L.length = rows.length ∧ rows.flatten = acs L
  | [], _ => ⟨[], rfl, rfl⟩
  | r :: rows, h => by
    obtain ⟨L, l1, l2⟩ := ac_rows rows fun x hx => h x (List.mem_cons_of_mem _ hx)
    have h0 := h r (List.mem_cons_self ..)
    simp only [actTy, Shp, ShpL] at h0
    obtain ⟨_, _, rfl, ⟨a, rfl, ha⟩, _, _, rfl, ⟨zs, rfl, hz⟩, rfl⟩ := h0
    obtain ⟨x, rfl⟩ := ub_of hz
    exact ⟨⟨a, x⟩ :: L, by simp [l1], by simp [l2, acs]⟩
theorem plays_law {B Z f m : Int} {y : AV} (hy : Shp (.sl actTy) [y]) : ACt Try.prog 3 [iv .i64 B, iv .i64 Z, iv .i64 f, iv .i64 m, y] [] (fun r _ => r = bv true) := by
  unfold Shp at hy
  obtain ⟨rows, e, hr⟩ := hy
  obtain rfl : y = _ := (List.cons.inj e).1
  obtain ⟨L, l1, l2⟩ := ac_rows rows hr
  rw [l2, ← l1]
  exact (plays_ct B Z f m L).mono fun r F h => h.1
end Go.Proofs.Yteoajodoejoccaa
