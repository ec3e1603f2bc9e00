/-
  The walks and the laws that the statement leans on, part 52.
-/
import Derived.Test.YtmbecppmkglmhaaDoorC11
import Derived.Test.YtmbecppmkglmhaaDoorC50
import Derived.Test.YtmbecppmkglmhaaDoorC51
namespace Go.Proofs.YtmbecppmkglmhaaDoor
open Go Wi
set_option linter.unusedVariables false
set_option linter.unusedSimpArgs false
set_option linter.defProp false
def TFCfL :=
  And.intro (And.intro (And.intro (And.intro (And.intro (And.intro tyc0 tyc3) (And.intro zmb3 (And.intro tyc4 zmb4))) (And.intro (And.intro tyc5 (And.intro zmb5 tyc9)) (And.intro zmb9 (And.intro tyc22 elt22)))) (And.intro (And.intro (And.intro mkz22 (And.intro apT22 elk22)) (And.intro zmb22 (And.intro tyc24 foff24_0))) (And.intro (And.intro fpart24_0 (And.intro foff24_1 fpart24_1)) (And.intro foff24_2 (And.intro fpart24_2 foff24_3))))) (And.intro (And.intro (And.intro (And.intro fpart24_3 (And.intro foff24_4 fpart24_4)) (And.intro foff24_5 (And.intro fpart24_5 fe24))) (And.intro (And.intro zmb24 (And.intro bldT24 tyc26)) (And.intro mth26_27 (And.intro mth26_26 mth26_28)))) (And.intro (And.intro (And.intro con26 (And.intro zmb26 tyc29)) (And.intro zmb29 (And.intro tyc32 zmb32))) (And.intro (And.intro tyc34 (And.intro foff34_0 fpart34_0)) (And.intro foff34_1 (And.intro fpart34_1 zmb34)))))) (And.intro (And.intro (And.intro (And.intro (And.intro bldT34 tyc37) (And.intro elt37 (And.intro mkz37 mkc37))) (And.intro (And.intro apT37 (And.intro elk37 zmb37)) (And.intro tyc39 (And.intro foff39_0 fpart39_0)))) (And.intro (And.intro (And.intro foff39_1 (And.intro fpart39_1 zmb39)) (And.intro bldT39 (And.intro tyc41 foff41_0))) (And.intro (And.intro fpart41_0 (And.intro foff41_1 fpart41_1)) (And.intro zmb41 (And.intro bldT41 tyc42))))) (And.intro (And.intro (And.intro (And.intro zmb42 (And.intro tyc45 mth45_50)) (And.intro mth45_48 (And.intro con45 zmb45))) (And.intro (And.intro tyc46 (And.intro Tryd.underlying0 Tryd.underlying3)) (And.intro Tryd.underlying4 (And.intro Tryd.underlying5 Tryd.underlying9)))) (And.intro (And.intro (And.intro Tryd.underlying22 (And.intro Tryd.underlying24 Tryd.underlying26)) (And.intro Tryd.underlying29 (And.intro Tryd.underlying32 Tryd.underlying34))) (And.intro (And.intro Tryd.underlying37 (And.intro Tryd.underlying39 Tryd.underlying41)) (And.intro Tryd.underlying42 (And.intro Tryd.underlying45 Tryd.underlying46))))))
theorem Y1CfL {G R : Prop} (r : R) (h : R → G := by intro r; first | (apply WP.region; exact rvc_sound _ _ (Sm.out r)) | exact WP.drawP (ia := 14) (is := 15) (k := 16) mixed (by decide +kernel) (by decide +kernel) (Sm.out r) | exact WP.drawK rfl mixed (by decide +kernel) (Sm.out r) | (apply WP.block; exact r) | (apply WP.skip; exact Yq r) | (apply WP.exit; exact Yq r) | (apply WP.ret; exact Sm.out r) | exact WP.cond rfl (fun _ => r) (fun hg => absurd hg (by decide)) | exact WP.cond rfl (fun hg => absurd hg (by decide)) (fun _ => r) | exact Rt.mk (And.intro (fun _ => Sm.out r) fun hg => absurd hg (by decide)) | exact Rt.mk (And.intro (fun hg => absurd hg (by decide)) fun _ => Sm.out r)) : G := h r
theorem YzCfL {G R : Prop} (r : R) (h : R → G := by intro r; first | (apply ExG.no; exact Sm.out r) | (apply Or.inl; apply ExG.no; exact Sm.out r) | exact Or.inl (And.intro (fun hg => absurd hg (by decide)) (ExG.no (Sm.out r)))) : G := h r
theorem YsCfL0 {P Q : Prop} (q : Q) (h : P = Q := by (try (conv => lhs; simp -dsimp only [ZK, rvc, capA, appA, litL, mkfv, drawF, headN, pureH, stp, dvc, calleeOf, gcall, pev, eff, newB, okd, og, ogs, ogo, ogp, slv, bltv, opd, litv, strip, one, both, putE, St.put, look, gdOf, gdv, picka, pickv, pickw, binv, bini, bins, binb, binp, binq, isSlT, bina, shp, eqCells, unv, convv, nilv, faddv, addp, idxav, idxp, load1, load1m, loadn, loadnm, loadv, hget, hset, hrep, hdel, slicev, slice3v, bnd, shift1, lenv, capv, IntKind.bits, extractv, fieldv, indexv, min2v, max2v, mkiv, tasv, tasz, cellsA, fillA, buildv, stC, oneC, rowMB, intsA, plN, appE, appZ, appC, appS, srcB, appNZ, appNC, VwL, srcC, srcZ, srcM, isBoolT, isPtrT, isSliceT, uOk, Value.oneCell', Nat.reducePow, Int.reducePow, Nat.reduceAdd, Nat.reduceMul, Nat.reduceSub, Nat.reduceLT, Nat.reduceLeDiff, Nat.reduceEqDiff, Nat.reduceBEq, Nat.reduceDiv, Nat.reduceMod, ↓reduceIte, reduceCtorEq, Int.reduceToNat, Int.reduceLT, Int.reduceLE, TFCfL, SeqQ, BlkQ, LoopQ, BodyQ, dkn, kst, fvOf, undef, beq_self_eq_true, Bool.true_beq, Bool.false_beq, Bool.not_true, Bool.not_false, FA.out, FR.out])) <;> exact rfl) : P := h.mpr q
abbrev crM (x1 x2 x3 x4 x5 x6 : Int) : MB := MB.cells [iv .i64 x1, iv .i64 x2, iv .i64 x3, iv .i64 x4, iv .i64 x5, iv .i64 x6] 6 24
theorem cf_up {c s : Nat} {W R : Bs} {a : DA} {f : Nat} (hA : AOk c a) (hR : Rg s 10 f 3 (W.take (f * s)) (W.drop ((f + 3) * s)) R a) (hfm : f + 3 ≤ 10) (hf : a.f = -1) : (opR a f s R).2 = 0 ∧ Rg s 10 f 3 (W.take (f * s)) (W.drop ((f + 3) * s)) (clR R) (opR a f s R).1 := by
  obtain ⟨h1, h2, -⟩ := (open_rg hA hR hfm).up hf
  exact ⟨h1, h2⟩
section
variable {b : Nat} {a : DA}
def oP : CfG b a ⊕ LS b a → Value
  | .inl g => .pointer (some ⟨g.z, 0, none⟩)
  | .inr _ => .pointer none
def oN (n : Nat) : CfG b a ⊕ LS b a → Nat
  | .inl _ => n
  | .inr _ => 0
def oQ (C : List AV) : CfG b a ⊕ LS b a → List AV
  | .inl _ => C
  | .inr _ => []
def oE : CfG b a ⊕ LS b a → Int
  | .inl _ => 0
  | .inr _ => 12
def oH (n : Nat) (E : Nat × List Int) (LG : MB) : CfG b a ⊕ LS b a → Hp
  | .inl g => (g.z, cfM b 2 g.y g.x n false) :: (g.y, slM b 0 2 E) :: (g.x, LG) :: dH b a g.q.1
  | .inr q => dH b a q.1
theorem both_ct {f : FuncId} {args : List AV} {F : Hp} {n : Nat} {C : List AV} {E : Nat × List Int} {LG : MB} {x : Int} (h : x = 0 ∨ x = 12)
    (c1 : x = 0 → ACt Tryd.prog f args F (fun r F' => ∃ g : CfG b a, r = .tup [pt g.z 0, .sl n C, iv .i64 0] ∧ F' = (g.z, cfM b 2 g.y g.x n false) :: (g.y, slM b 0 2 E) :: (g.x, LG) :: dH b a g.q.1))
    (c2 : x = 12 → ACt Tryd.prog f args F (fun r F' => ∃ q : LS b a, r = .tup [.lit (.pointer none), .sl 0 [], iv .i64 12] ∧ F' = dH b a q.1)) :
    ACt Tryd.prog f args F (fun r F' => ∃ g : CfG b a ⊕ LS b a, r = .tup [.lit (oP g), .sl (oN n g) (oQ C g), iv .i64 (oE g)] ∧ F' = oH n E LG g) := by
  rcases h with h | h
  · exact (c1 h).mono fun r F' ⟨g, h1, h2⟩ => ⟨.inl g, h1, h2⟩
  · exact (c2 h).mono fun r F' ⟨g, h1, h2⟩ => ⟨.inr g, h1, h2⟩
end
set_option maxRecDepth 20000 in
set_option maxHeartbeats 8000000 in
theorem reads_ct (Z x1 x2 x3 x4 x5 x6 : Int) (A B C D : Bs) (hF : x1 < 9223372036854775808) : ACt Tryd.prog 3 [iv .i64 Z, .slz .u8 (ub A), .slz .u8 (ub B), .slz .u8 (ub C), .slz .u8 (ub D), .agg [iv .i64 x1, iv .i64 x2, iv .i64 x3, iv .i64 x4, iv .i64 x5, iv .i64 x6]] [] (Fn (bv true)) := by
  have cA := cfawake_ct
  have al := ub_len A
  have bl := ub_len B
  have cl := ub_len C
  have dl := ub_len D
  obtain ⟨q1, e1⟩ : ∃ q, decide (Z < 32) = q := ⟨_, rfl⟩
  obtain ⟨q2, e2⟩ : ∃ q, decide (Z > 512) = q := ⟨_, rfl⟩
  obtain ⟨q3, e3⟩ : ∃ q, decide ((A.length : Int) > 2000) = q := ⟨_, rfl⟩
  obtain ⟨q4, e4⟩ : ∃ q, decide ((B.length : Int) > 2000) = q := ⟨_, rfl⟩
  obtain ⟨q5, e5⟩ : ∃ q, decide ((C.length : Int) > 2000) = q := ⟨_, rfl⟩
  obtain ⟨q6, e6⟩ : ∃ q, decide ((D.length : Int) > 2000) = q := ⟨_, rfl⟩
  refine ACt.intro Tryd.func3 rfl (by kernel_rfl) (by simp [Tryd.ntmps3]) (fun cx => ?_)
  simp only [argE, Tryd.ntmps3, Tryd.results3]
  first | (have FRx := FR; clear FRx) | have FR := fr0S
  have FA := Sm.mk (And.intro TFCfL (And.intro al (And.intro bl (And.intro cl (And.intro dl (And.intro e1 (And.intro e2 (And.intro e3 (And.intro e4 (And.intro e5 e6))))))))))
  repeat' first | (apply Sm.mk; refine Ys ?_) | refine WP.seq fun K hK => ?_ | (apply Ob.mk; exact Yo) | refine And.intro (Ob.out ?_) ?_ | ((fail_if_success (show WP _ _ _ (.region 5 _ _) _ _)); refine Y1CfL ?_) | refine Yc (c := cA) (r := ?_) | refine YzCfL ?_ | (refine WP.cond rfl (fun hc => ?_) (fun hc => ?_) <;> (try simp only [ZC, reduceCtorEq, ZD] at hc) <;> (try exact absurd hc (by decide)) <;> (try (exfalso; omega))) | refine Rt.mk (And.intro (fun hg => Sm.out ?_) fun hg => Sm.out ?_) | (refine Nu.mk ?_; first | (fail_if_success have := nb1); intro nb1 | (fail_if_success have := nb2); intro nb2 | (fail_if_success have := nb3); intro nb3 | (fail_if_success have := nb4); intro nb4 | (fail_if_success have := nb5); intro nb5 | (fail_if_success have := nb6); intro nb6 | (fail_if_success have := nb7); intro nb7 | (fail_if_success have := nb8); intro nb8 | intro nbz) | (apply Yfr; refine Yf FR fun hFRb FR => ?_) | refine Two.mk ?_ ?_ | (apply Yxc; exact Yx) | refine Cs.mk fun hcs => Sm.out ?_ | go_step | omega | (simp only [maxLen_eq]; omega) | exact trivial
  · (refine Yg ?_; try exact trivial)
  obtain ⟨⟨⟨⟨⟨q7, q8⟩, q9⟩, q10⟩, q11⟩, q12⟩ : ((((q1 = false ∧ q2 = false) ∧ q3 = false) ∧ q4 = false) ∧ q5 = false) ∧ q6 = false := by simpa [Bool.or_eq_false_iff] using hc
  have h3 := of_decide_eq_false (e1.trans q7)
  have h4 := of_decide_eq_false (e2.trans q8)
  have h5 := of_decide_eq_false (e3.trans q9)
  have h6 := of_decide_eq_false (e4.trans q10)
  have h7 := of_decide_eq_false (e5.trans q11)
  have h8 := of_decide_eq_false (e6.trans q12)
  clear e1 e2 e3 e4 e5 e6
  obtain ⟨s, rfl⟩ : ∃ s : Nat, Z = (s : Int) := ⟨Z.toNat, by omega⟩
  have hM0 := mkA_I 10 s (by omega) (by omega) (by omega) (by omega)
  refine WP.sub (s' := ⟨[(11, pt nb1 0), (0, iv .i64 (s : Int)), (1, .slz .u8 (ub A)), (2, .slz .u8 (ub B)), (3, .slz .u8 (ub C)), (4, .slz .u8 (ub D))], [(nb1, crM x1 x2 x3 x4 x5 x6)]⟩) (Sub.of_env [] (by exact pmz _) (by simp [look])) ?_
  obtain ⟨xb, hxb⟩ : ∃ x, x = nb1 := ⟨_, rfl⟩
  rw [← hxb]
  clear hxb cA
  have cM : ACt Tryd.prog 5 [iv .i64 10, iv .i64 (s : Int)] ([(xb, crM x1 x2 x3 x4 x5 x6)] ++ []) (fun r F' => ∃ g : MS 10 s, r = pt g.1.1 0 ∧ F' = [(xb, crM x1 x2 x3 x4 x5 x6)] ++ dH g.1.1 (mkA 10 s) g.1.2) := lift0 _ (marked_ct 10 s (by omega) (by omega) (by omega) (by omega))
  obtain ⟨a0, ha0⟩ : ∃ a, a = mkA 10 s := ⟨_, rfl⟩
  first | (have FRx := FR; clear FRx) | have FR := fr0S
  have FA := Sm.mk (TFCfL)
  repeat' first | (apply Sm.mk; refine Ys ?_) | refine WP.seq fun K hK => ?_ | (apply Ob.mk; exact Yo) | refine And.intro (Ob.out ?_) ?_ | ((fail_if_success (show WP _ _ _ (.region 6 _ _) _ _)); refine Y1CfL ?_) | (refine CallV.exM (cM) (pmz _) (fun g => Sm.out ?_)) | refine YzCfL ?_ | (refine WP.cond rfl (fun hc => ?_) (fun hc => ?_) <;> (try simp only [ZC, reduceCtorEq, ZD] at hc) <;> (try exact absurd hc (by decide)) <;> (try (exfalso; omega))) | refine Rt.mk (And.intro (fun hg => Sm.out ?_) fun hg => Sm.out ?_) | (refine Nu.mk ?_; first | (fail_if_success have := nb1); intro nb1 | (fail_if_success have := nb2); intro nb2 | (fail_if_success have := nb3); intro nb3 | (fail_if_success have := nb4); intro nb4 | (fail_if_success have := nb5); intro nb5 | (fail_if_success have := nb6); intro nb6 | (fail_if_success have := nb7); intro nb7 | (fail_if_success have := nb8); intro nb8 | intro nbz) | (apply Yfr; refine Yf FR fun hFRb FR => ?_) | refine Two.mk ?_ ?_ | (apply Yxc; exact Yx) | refine Cs.mk fun hcs => Sm.out ?_ | go_step | omega | (simp only [maxLen_eq]; omega) | exact trivial
  obtain ⟨⟨b, l⟩, hl⟩ := g
  simp only [List.append_nil] at hl ⊢
  rw [← ha0] at hl hM0 ⊢
  clear ha0 cM
  have cL0 : ACt Tryd.prog 6 [pt b 0, iv .i64 0, iv .i64 2, .slz .u8 (ub A)] ([(xb, crM x1 x2 x3 x4 x5 x6)] ++ dH b a0 l) (fun r F' => ∃ g : LyQ 10 s 13 b, r = .tup [] ∧ F' = [(xb, crM x1 x2 x3 x4 x5 x6)] ++ dH b g.a g.l) := lift0 _ (lay6_ct b a0 l hM0 hl 0 2 (by omega) A (by omega) (by omega))
  first | (have FRx := FR; clear FRx) | have FR := fr0S
  have FA := Sm.mk (TFCfL)
  repeat' first | (apply Sm.mk; refine Ys ?_) | refine WP.seq fun K hK => ?_ | (apply Ob.mk; exact Yo) | refine And.intro (Ob.out ?_) ?_ | ((fail_if_success (show WP _ _ _ (.region 7 _ _) _ _)); refine Y1CfL ?_) | (refine CallV.exM (cL0) (pmz _) (fun g => Sm.out ?_)) | refine YzCfL ?_ | (refine WP.cond rfl (fun hc => ?_) (fun hc => ?_) <;> (try simp only [ZC, reduceCtorEq, ZD] at hc) <;> (try exact absurd hc (by decide)) <;> (try (exfalso; omega))) | refine Rt.mk (And.intro (fun hg => Sm.out ?_) fun hg => Sm.out ?_) | (refine Nu.mk ?_; first | (fail_if_success have := nb1); intro nb1 | (fail_if_success have := nb2); intro nb2 | (fail_if_success have := nb3); intro nb3 | (fail_if_success have := nb4); intro nb4 | (fail_if_success have := nb5); intro nb5 | (fail_if_success have := nb6); intro nb6 | (fail_if_success have := nb7); intro nb7 | (fail_if_success have := nb8); intro nb8 | intro nbz) | (apply Yfr; refine Yf FR fun hFRb FR => ?_) | refine Two.mk ?_ ?_ | (apply Yxc; exact Yx) | refine Cs.mk fun hcs => Sm.out ?_ | go_step | omega | (simp only [maxLen_eq]; omega) | exact trivial
  obtain ⟨a1, l1, hM1, hl1⟩ := g
  try simp only [List.append_nil]
  clear cL0 hM0 hl
  have cL1 : ACt Tryd.prog 6 [pt b 0, iv .i64 2, iv .i64 2, .slz .u8 (ub B)] ([(xb, crM x1 x2 x3 x4 x5 x6)] ++ dH b a1 l1) (fun r F' => ∃ g : LyQ 10 s 15 b, r = .tup [] ∧ F' = [(xb, crM x1 x2 x3 x4 x5 x6)] ++ dH b g.a g.l) := lift0 _ (lay6_ct b a1 l1 hM1 hl1 2 2 (by omega) B (by omega) (by omega))
  first | (have FRx := FR; clear FRx) | have FR := fr0S
  have FA := Sm.mk (TFCfL)
  repeat' first | (apply Sm.mk; refine Ys ?_) | refine WP.seq fun K hK => ?_ | (apply Ob.mk; exact Yo) | refine And.intro (Ob.out ?_) ?_ | ((fail_if_success (show WP _ _ _ (.region 8 _ _) _ _)); refine Y1CfL ?_) | (refine CallV.exM (cL1) (pmz _) (fun g => Sm.out ?_)) | refine YzCfL ?_ | (refine WP.cond rfl (fun hc => ?_) (fun hc => ?_) <;> (try simp only [ZC, reduceCtorEq, ZD] at hc) <;> (try exact absurd hc (by decide)) <;> (try (exfalso; omega))) | refine Rt.mk (And.intro (fun hg => Sm.out ?_) fun hg => Sm.out ?_) | (refine Nu.mk ?_; first | (fail_if_success have := nb1); intro nb1 | (fail_if_success have := nb2); intro nb2 | (fail_if_success have := nb3); intro nb3 | (fail_if_success have := nb4); intro nb4 | (fail_if_success have := nb5); intro nb5 | (fail_if_success have := nb6); intro nb6 | (fail_if_success have := nb7); intro nb7 | (fail_if_success have := nb8); intro nb8 | intro nbz) | (apply Yfr; refine Yf FR fun hFRb FR => ?_) | refine Two.mk ?_ ?_ | (apply Yxc; exact Yx) | refine Cs.mk fun hcs => Sm.out ?_ | go_step | omega | (simp only [maxLen_eq]; omega) | exact trivial
  obtain ⟨a2, l2, hM2, hl2⟩ := g
  try simp only [List.append_nil]
  clear cL1 hM1 hl1
  have cL2 : ACt Tryd.prog 6 [pt b 0, iv .i64 4, iv .i64 3, .slz .u8 (ub C)] ([(xb, crM x1 x2 x3 x4 x5 x6)] ++ dH b a2 l2) (fun r F' => ∃ g : LyQ 10 s 18 b, r = .tup [] ∧ F' = [(xb, crM x1 x2 x3 x4 x5 x6)] ++ dH b g.a g.l) := lift0 _ (lay6_ct b a2 l2 hM2 hl2 4 3 (by omega) C (by omega) (by omega))
  first | (have FRx := FR; clear FRx) | have FR := fr0S
  have FA := Sm.mk (TFCfL)
  repeat' first | (apply Sm.mk; refine Ys ?_) | refine WP.seq fun K hK => ?_ | (apply Ob.mk; exact Yo) | refine And.intro (Ob.out ?_) ?_ | ((fail_if_success (show WP _ _ _ (.region 9 _ _) _ _)); refine Y1CfL ?_) | (refine CallV.exM (cL2) (pmz _) (fun g => Sm.out ?_)) | refine YzCfL ?_ | (refine WP.cond rfl (fun hc => ?_) (fun hc => ?_) <;> (try simp only [ZC, reduceCtorEq, ZD] at hc) <;> (try exact absurd hc (by decide)) <;> (try (exfalso; omega))) | refine Rt.mk (And.intro (fun hg => Sm.out ?_) fun hg => Sm.out ?_) | (refine Nu.mk ?_; first | (fail_if_success have := nb1); intro nb1 | (fail_if_success have := nb2); intro nb2 | (fail_if_success have := nb3); intro nb3 | (fail_if_success have := nb4); intro nb4 | (fail_if_success have := nb5); intro nb5 | (fail_if_success have := nb6); intro nb6 | (fail_if_success have := nb7); intro nb7 | (fail_if_success have := nb8); intro nb8 | intro nbz) | (apply Yfr; refine Yf FR fun hFRb FR => ?_) | refine Two.mk ?_ ?_ | (apply Yxc; exact Yx) | refine Cs.mk fun hcs => Sm.out ?_ | go_step | omega | (simp only [maxLen_eq]; omega) | exact trivial
  obtain ⟨a3, l3, hM3, hl3⟩ := g
  try simp only [List.append_nil]
  clear cL2 hM2 hl2
  have cL3 : ACt Tryd.prog 6 [pt b 0, iv .i64 7, iv .i64 3, .slz .u8 (ub D)] ([(xb, crM x1 x2 x3 x4 x5 x6)] ++ dH b a3 l3) (fun r F' => ∃ g : LyQ 10 s 21 b, r = .tup [] ∧ F' = [(xb, crM x1 x2 x3 x4 x5 x6)] ++ dH b g.a g.l) := lift0 _ (lay6_ct b a3 l3 hM3 hl3 7 3 (by omega) D (by omega) (by omega))
  first | (have FRx := FR; clear FRx) | have FR := fr0S
  have FA := Sm.mk (TFCfL)
  repeat' first | (apply Sm.mk; refine Ys ?_) | refine WP.seq fun K hK => ?_ | (apply Ob.mk; exact Yo) | refine And.intro (Ob.out ?_) ?_ | ((fail_if_success (show WP _ _ _ (.region 10 _ _) _ _)); refine Y1CfL ?_) | (refine CallV.exM (cL3) (pmz _) (fun g => Sm.out ?_)) | refine YzCfL ?_ | (refine WP.cond rfl (fun hc => ?_) (fun hc => ?_) <;> (try simp only [ZC, reduceCtorEq, ZD] at hc) <;> (try exact absurd hc (by decide)) <;> (try (exfalso; omega))) | refine Rt.mk (And.intro (fun hg => Sm.out ?_) fun hg => Sm.out ?_) | (refine Nu.mk ?_; first | (fail_if_success have := nb1); intro nb1 | (fail_if_success have := nb2); intro nb2 | (fail_if_success have := nb3); intro nb3 | (fail_if_success have := nb4); intro nb4 | (fail_if_success have := nb5); intro nb5 | (fail_if_success have := nb6); intro nb6 | (fail_if_success have := nb7); intro nb7 | (fail_if_success have := nb8); intro nb8 | intro nbz) | (apply Yfr; refine Yf FR fun hFRb FR => ?_) | refine Two.mk ?_ ?_ | (apply Yxc; exact Yx) | refine Cs.mk fun hcs => Sm.out ?_ | go_step | omega | (simp only [maxLen_eq]; omega) | exact trivial
  obtain ⟨a4, l4, hM4, hl4⟩ := g
  try simp only [List.append_nil]
  clear cL3 hM3 hl3
  have cY := lift0 [(xb, crM x1 x2 x3 x4 x5 x6)] (sync_d hM4.A hl4 (by omega))
  obtain ⟨hM5, W, hS⟩ := hM4.sync
  obtain ⟨a5, ha5⟩ : ∃ a, a = syA a4 := ⟨_, rfl⟩
  rw [← ha5] at cY hM5 hS
  first | (have FRx := FR; clear FRx) | have FR := fr0S
  have FA := Sm.mk (TFCfL)
  repeat' first | (apply Sm.mk; refine Ys ?_) | refine WP.seq fun K hK => ?_ | (apply Ob.mk; exact Yo) | refine And.intro (Ob.out ?_) ?_ | ((fail_if_success (show WP _ _ _ (.region 11 _ _) _ _)); refine Y1CfL ?_) | (refine CallV.exM (cY) (pmz _) (fun g => Sm.out ?_)) | refine YzCfL ?_ | (refine WP.cond rfl (fun hc => ?_) (fun hc => ?_) <;> (try simp only [ZC, reduceCtorEq, ZD] at hc) <;> (try exact absurd hc (by decide)) <;> (try (exfalso; omega))) | refine Rt.mk (And.intro (fun hg => Sm.out ?_) fun hg => Sm.out ?_) | (refine Nu.mk ?_; first | (fail_if_success have := nb1); intro nb1 | (fail_if_success have := nb2); intro nb2 | (fail_if_success have := nb3); intro nb3 | (fail_if_success have := nb4); intro nb4 | (fail_if_success have := nb5); intro nb5 | (fail_if_success have := nb6); intro nb6 | (fail_if_success have := nb7); intro nb7 | (fail_if_success have := nb8); intro nb8 | intro nbz) | (apply Yfr; refine Yf FR fun hFRb FR => ?_) | refine Two.mk ?_ ?_ | (apply Yxc; exact Yx) | refine Cs.mk fun hcs => Sm.out ?_ | go_step | omega | (simp only [maxLen_eq]; omega) | exact trivial
  obtain ⟨l5, hl5⟩ := g
  try simp only [List.append_nil]
  clear cY hM4 hl4 ha5
  have hA5 := hM5.A
  have hW : W.length = 10 * s := by
    have h1 := flat_len (size := a5.size) a5.S hA5.Sr
    rw [hS.T, ub_len, hA5.Sl, hS.n, hS.s] at h1
    exact h1
  have cW := look0 [(xb, crM x1 x2 x3 x4 x5 x6)] (all_ct b a5 l5 hA5 hl5 hS.dk)
  rw [hS.T] at cW
  obtain ⟨X, hX⟩ : ∃ X, X = bstr (ub W) := ⟨_, rfl⟩
  rw [← hX] at cW
  have hXs : X.size = 10 * s := by rw [hX, bstr_size, ub_len, hW]
  have cS0 := refslot_ct ((W.drop (0 * s)).take (2 * s)) 0 (by rw [List.length_take]; omega)
  have cS1 := refslot_ct ((W.drop ((0 + 2) * s)).take (2 * s)) 1 (by rw [List.length_take]; omega)
  have cNw := newer_ct (slF ((W.drop (0 * s)).take (2 * s)) 0) (slF ((W.drop ((0 + 2) * s)).take (2 * s)) 1)
  rw [← cfE_slN] at cNw
  have eX0 : X.extract 0 (2 * s) = bstr (ub ((W.drop (0 * s)).take (2 * s))) := by rw [hX, ext_ub, Nat.zero_mul, Nat.sub_zero]
  have eX1 : X.extract (2 * s) (4 * s) = bstr (ub ((W.drop ((0 + 2) * s)).take (2 * s))) := by rw [hX, ext_ub, show 4 * s - 2 * s = 2 * s by omega, Nat.zero_add]
  rw [← eX0] at cS0
  rw [← eX1] at cS1
  have hE0 := cfE_nil W 2 s
  have hEl := cfE_len W 2 s
  have hEb := cfE_bd W 2 s
  have hag := fun R4 => cf_again (W := W) (R4 := R4) (s := s) hW
  obtain ⟨hf10, -⟩ := cfF_le W 10 2 s (by omega)
  change cfF W 10 2 s + 3 ≤ 10 at hf10
  have hf2 : cfF W 10 2 s = 4 + (cfE W 2 s).1 % 2 * 3 := rfl
  have hRe : cfR W 10 2 s = (W.drop (cfF W 10 2 s * s)).take (3 * s) := rfl
  have hO5 := fun (a : DA) (l : DL) (hA : AOk 24 a) (hS : Stl s 10 (ub W) a) (hl : LOk b a l) => cfopen_go b a l hA hS hW hl 2 (by omega) (by omega) (by omega) (show 24 + 3 ≤ 980 by omega)
  obtain ⟨E, hE⟩ : ∃ E, E = cfE W 2 s := ⟨_, rfl⟩
  obtain ⟨f, hf⟩ : ∃ f, f = cfF W 10 2 s := ⟨_, rfl⟩
  obtain ⟨R, hR⟩ : ∃ R, R = cfR W 10 2 s := ⟨_, rfl⟩
  rw [← hE] at cNw hE0 hEl hEb hag hf2 hO5
  rw [← hf] at hag hf10 hf2 hRe hO5
  rw [← hR] at hRe hO5
  obtain ⟨A0, hA0⟩ : ∃ A0, A0 = slF ((W.drop (0 * s)).take (2 * s)) 0 := ⟨_, rfl⟩
  obtain ⟨B0, hB0⟩ : ∃ A0, A0 = slF ((W.drop ((0 + 2) * s)).take (2 * s)) 1 := ⟨_, rfl⟩
  rw [← hA0] at cS0 cNw
  rw [← hB0] at cS1 cNw
  clear hA0 hB0 eX0 eX1 hE hf hR
  have hRl : R.length = 3 * s := by
    have m1 := Nat.mul_le_mul_right s hf10
    rw [Nat.add_mul] at m1
    rw [hRe, List.length_take, List.length_drop]; omega
  have w2 : IntKind.i64.wrap (2 * (s : Int)) = ((2 * s : Nat) : Int) := by rw [show (2 * (s : Int)) = ((2 * s : Nat) : Int) by simp]; exact wrap_i64 (by omega) (by omega)
  have w4 : IntKind.i64.wrap (4 * (s : Int)) = ((4 * s : Nat) : Int) := by rw [show (4 * (s : Int)) = ((4 * s : Nat) : Int) by simp]; exact wrap_i64 (by omega) (by omega)
  have w7 : IntKind.i64.wrap (7 * (s : Int)) = ((7 * s : Nat) : Int) := by rw [show (7 * (s : Int)) = ((7 * s : Nat) : Int) by simp]; exact wrap_i64 (by omega) (by omega)
  have eR0 : E.1 % 2 = 0 → X.extract (4 * s) (7 * s) = bstr (ub R) := fun h => by
    rw [hX, ext_ub, hRe, hf2, h, show 7 * s - 4 * s = 3 * s by omega]
  have eR1 : E.1 % 2 = 1 → X.extract (7 * s) (10 * s) = bstr (ub R) := fun h => by
    rw [hX, ext_ub, hRe, hf2, h, show 10 * s - 7 * s = 3 * s by omega]
  unfold snV at cS0 cS1 cNw
  first | (have FRx := FR; clear FRx) | have FR := fr0S
  have FA := Sm.mk (And.intro TFCfL (And.intro w2 (And.intro w4 (And.intro w7 hXs))))
  repeat' first | (apply Sm.mk; refine Ys ?_) | refine WP.seq fun K hK => ?_ | (apply Ob.mk; exact Yo) | refine And.intro (Ob.out ?_) ?_ | ((fail_if_success (show WP _ _ _ (.region 14 _ _) _ _)); refine Y1CfL ?_) | refine CallV.updM (cW) (pmz _) (Sm.out ?_) | ((first | refine ExF.up ?_ (cW) (Sm.out ?_) | refine ExG.up ?_ (fun _ => cW) (Sm.out ?_) | refine ExG.upJ ?_ (fun _ => cW) (Sm.out ?_) | refine ExG.upI ?_ (fun _ => cW) (Ob.out ?_) (Sm.out ?_)); focus (exact ⟨_, (pmz _)⟩)) | (first | refine CallV.fn (cS0) (Sm.out ?_) | refine ExF.mk (cS0) (Sm.out ?_) | refine ExG.mk (fun _ => cS0) (Sm.out ?_) | refine ExG.mkJ (fun _ => cS0) (Sm.out ?_) | refine ExG.mkI (Ob.out ?_) (fun _ => cS0) (Sm.out ?_)) | (first | refine CallV.fn (cS1) (Sm.out ?_) | refine ExF.mk (cS1) (Sm.out ?_) | refine ExG.mk (fun _ => cS1) (Sm.out ?_) | refine ExG.mkJ (fun _ => cS1) (Sm.out ?_) | refine ExG.mkI (Ob.out ?_) (fun _ => cS1) (Sm.out ?_)) | (first | refine CallV.fn (cNw) (Sm.out ?_) | refine ExF.mk (cNw) (Sm.out ?_) | refine ExG.mk (fun _ => cNw) (Sm.out ?_) | refine ExG.mkJ (fun _ => cNw) (Sm.out ?_) | refine ExG.mkI (Ob.out ?_) (fun _ => cNw) (Sm.out ?_)) | refine YzCfL ?_ | (refine WP.cond rfl (fun hc => ?_) (fun hc => ?_) <;> (try simp only [ZC, reduceCtorEq, ZD] at hc) <;> (try exact absurd hc (by decide)) <;> (try (exfalso; omega))) | refine Rt.mk (And.intro (fun hg => Sm.out ?_) fun hg => Sm.out ?_) | (refine Nu.mk ?_; first | (fail_if_success have := nb1); intro nb1 | (fail_if_success have := nb2); intro nb2 | (fail_if_success have := nb3); intro nb3 | (fail_if_success have := nb4); intro nb4 | (fail_if_success have := nb5); intro nb5 | (fail_if_success have := nb6); intro nb6 | (fail_if_success have := nb7); intro nb7 | (fail_if_success have := nb8); intro nb8 | intro nbz) | (apply Yfr; refine Yf FR fun hFRb FR => ?_) | refine Two.mk ?_ ?_ | (apply Yxc; exact Yx) | refine Cs.mk fun hcs => Sm.out ?_ | go_step | omega | (simp only [maxLen_eq]; omega) | exact trivial
  rename_i K2 hK2
  clear cS0 cS1 cNw cW w2 w7
  obtain ⟨sb, hsb⟩ : ∃ x, x = nb2 := ⟨_, rfl⟩
  rw [← hsb]
  clear hsb
  refine WP.sub (s' := ⟨[(16, .lit (.string (X.extract (4 * s) (7 * s)))), (15, pt sb 0), (14, .lit (.string X)), (13, pt b 0), (11, pt xb 0), (0, iv .i64 (s : Int))], (sb, MB.cells [nu E.1, .slz .u8 E.2, nl] 3 39) :: (xb, crM x1 x2 x3 x4 x5 x6) :: dH b a5 l5⟩) (Sub.of_env [] (by exact pmz _) (by simp [look])) ?_
  refine WP.nd fun hnd => ?_
  simp only [ndF, fresh_cons, and_true, ne_eq] at hnd
  have hsx : ¬ xb = sb ∧ ¬ sb = xb := hnd.1.1
  clear hnd
  have z1 : ((0 : Int) != 0) = false := rfl
  have z2 : ((0 : Int) == 0) = true := rfl
  have z3 : ((0 : Int) == 12) = false := rfl
  have z4 : ((0 : Int) != 12) = true := rfl
  have hs1 := hsx.1
  have hs2 := hsx.2
  have cont : Sm (∀ s', Sub s' ⟨[(16, .lit (.string (bstr (ub R)))), (15, pt sb 0), (14, .lit (.string X)), (13, pt b 0), (11, pt xb 0), (0, iv .i64 (s : Int))], (sb, MB.cells [nu E.1, .slz .u8 E.2, nl] 3 39) :: (xb, crM x1 x2 x3 x4 x5 x6) :: dH b a5 l5⟩ → K2 s') := Sm.mk fun s' hsub => by
    refine hK2 s' (WP.sub hsub ?_)
    clear hK hK2 hsub eR0 eR1
    have cRd := read_ct R (by omega) (by omega)
    unfold rdH at cRd
    have hUl := all_usd R
    have hUle := all_le R
    have hLl : (all R).1.length ≤ 1000000 := by have := len_le (all R).1; omega
    have cSm := same12_ct E (all R).1 (by omega) hLl
    have cSt := fun (z y x : Nat) => cfstate_ct z b 2 y x (all R).1.length false E hE0 (by omega) (all R).1
    unfold stV at cSm cSt
    obtain ⟨nL, hnL⟩ : ∃ n, n = (all R).1.length := ⟨_, rfl⟩
    obtain ⟨C1, hC1⟩ : ∃ C, C = rowsA (all R).1 := ⟨_, rfl⟩
    simp only [← hnL, ← hC1] at cRd cSm cSt
    obtain ⟨T1, hT1⟩ : ∃ T, T = bstr (ub R) := ⟨_, rfl⟩
    rw [← hT1] at cRd ⊢
    first | (have FRx := FR; clear FRx) | have FR := fr0S
    have FA := Sm.mk (TFCfL)
    repeat' first | (apply Sm.mk; refine Ys ?_) | refine WP.seq fun K hK => ?_ | (apply Ob.mk; exact Yo) | refine And.intro (Ob.out ?_) ?_ | ((fail_if_success (show WP _ _ _ (.region 17 _ _) _ _)); refine Y1CfL ?_) | refine CallV.new1 (F := []) (List.Perm.refl _) (cRd) rfl (Sm.out ?_) | refine YzCfL ?_ | (refine WP.cond rfl (fun hc => ?_) (fun hc => ?_) <;> (try simp only [ZC, reduceCtorEq, ZD] at hc) <;> (try exact absurd hc (by decide)) <;> (try (exfalso; omega))) | refine Rt.mk (And.intro (fun hg => Sm.out ?_) fun hg => Sm.out ?_) | (refine Nu.mk ?_; first | (fail_if_success have := nb1); intro nb1 | (fail_if_success have := nb2); intro nb2 | (fail_if_success have := nb3); intro nb3 | (fail_if_success have := nb4); intro nb4 | (fail_if_success have := nb5); intro nb5 | (fail_if_success have := nb6); intro nb6 | (fail_if_success have := nb7); intro nb7 | (fail_if_success have := nb8); intro nb8 | intro nbz) | (apply Yfr; refine Yf FR fun hFRb FR => ?_) | refine Two.mk ?_ ?_ | (apply Yxc; exact Yx) | refine Cs.mk fun hcs => Sm.out ?_ | go_step | omega | (simp only [maxLen_eq]; omega) | exact trivial
    try simp only [List.append_nil]
    refine WP.sub (s' := ⟨[(15, pt sb 0), (14, .lit (.string X)), (13, pt b 0), (11, pt xb 0), (0, iv .i64 (s : Int))], (sb, MB.cells [nu E.1, .slz .u8 E.2, .sl nL C1] 3 39) :: (xb, crM x1 x2 x3 x4 x5 x6) :: dH b a5 l5⟩) (Sub.of_env [_] (by exact List.perm_append_comm (l₁ := [_])) (by simp [look])) ?_
    clear cRd hT1 T1
    have hRg := rg_of (f := f) (m := 3) hS hW hf10
    rw [← hRe] at hRg
    have hRg6 := hRg.fuse x1
    have hS6 : Stl s 10 (ub W) (fuA a5 x1) := ⟨hS.s, hS.n, hS.W, hS.LS, hS.dk, hS.T⟩
    have hA6 : AOk 24 (fuA a5 x1) := (fuA_ok hA5 x1 hF).le (by omega)
    have hl6 := hl5.fuse x1
    have cFy := upd0 [(sb, MB.cells [nu E.1, .slz .u8 E.2, .sl nL C1] 3 39), (xb, crM x1 x2 x3 x4 x5 x6)] (fuse_d b a5 l5 x1)
    have hO6 := hO5 (fuA a5 x1) l5 hA6 hS6 hl6
    have hCo := open_rg hA6 hRg6 hf10
    have hCr := hCo.crash x2 x3
    have hA7 : AOk 28 (opR (fuA a5 x1) f s R).1 := (opR_ok (m := 3) hA6 hRg6).le (by omega)
    obtain ⟨a6, ha6⟩ : ∃ a, a = fuA a5 x1 := ⟨_, rfl⟩
    rw [← ha6] at hRg6 hS6 hA6 hl6 cFy hO6 hCo hCr hA7
    clear hRg hS hl5 hA5 hM5 ha6 hO5
    first | (have FRx := FR; clear FRx) | have FR := fr0S
    have FA := Sm.mk (And.intro TFCfL (And.intro hs1 hs2))
    repeat' first | (apply Sm.mk; refine Ys ?_) | refine WP.seq fun K hK => ?_ | (apply Ob.mk; exact Yo) | refine And.intro (Ob.out ?_) ?_ | ((fail_if_success (show WP _ _ _ (.region 18 _ _) _ _)); refine Y1CfL ?_) | refine CallV.updM (cFy) (pmz _) (Sm.out ?_) | refine YzCfL ?_ | (refine WP.cond rfl (fun hc => ?_) (fun hc => ?_) <;> (try simp only [ZC, reduceCtorEq, ZD] at hc) <;> (try exact absurd hc (by decide)) <;> (try (exfalso; omega))) | refine Rt.mk (And.intro (fun hg => Sm.out ?_) fun hg => Sm.out ?_) | (refine Nu.mk ?_; first | (fail_if_success have := nb1); intro nb1 | (fail_if_success have := nb2); intro nb2 | (fail_if_success have := nb3); intro nb3 | (fail_if_success have := nb4); intro nb4 | (fail_if_success have := nb5); intro nb5 | (fail_if_success have := nb6); intro nb6 | (fail_if_success have := nb7); intro nb7 | (fail_if_success have := nb8); intro nb8 | intro nbz) | (apply Yfr; refine Yf FR fun hFRb FR => ?_) | refine Two.mk ?_ ?_ | (apply Yxc; exact Yx) | refine Cs.mk fun hcs => Sm.out ?_ | go_step | omega | (simp only [maxLen_eq]; omega) | exact trivial
    have hx := show (opR a6 f s R).2 = 0 ∨ (opR a6 f s R).2 = 12 from hCo.elim (fun h => .inl h.1) fun h => .inr h.1
    have cO := lift0 [(sb, MB.cells [nu E.1, .slz .u8 E.2, .sl nL C1] 3 39), (xb, crM x1 x2 x3 x4 x5 x6)] (both_ct hx hO6.1 hO6.2)
    rw [← hnL, ← hC1] at cO
    obtain ⟨a7, ha7⟩ : ∃ a, a = (opR a6 f s R).1 := ⟨_, rfl⟩
    obtain ⟨LG, hLG⟩ : ∃ LG, LG = lgM b f (cfN 10 2) (ub (tlB R (all R).2 s)) (all R).2 false := ⟨_, rfl⟩
    rw [← ha7] at cO hCr hA7
    rw [← hLG] at cO
    clear hO6 hCo hx ha7 hLG
    first | (have FRx := FR; clear FRx) | have FR := fr0S
    have FA := Sm.mk (And.intro TFCfL (And.intro hs1 hs2))
    repeat' first | (apply Sm.mk; refine Ys ?_) | refine WP.seq fun K hK => ?_ | (apply Ob.mk; exact Yo) | refine And.intro (Ob.out ?_) ?_ | ((fail_if_success (show WP _ _ _ (.region 19 _ _) _ _)); refine Y1CfL ?_) | (refine CallV.exM (cO) (pmz _) (fun g => Sm.out ?_)) | refine YzCfL ?_ | (refine WP.cond rfl (fun hc => ?_) (fun hc => ?_) <;> (try simp only [ZC, reduceCtorEq, ZD] at hc) <;> (try exact absurd hc (by decide)) <;> (try (exfalso; omega))) | refine Rt.mk (And.intro (fun hg => Sm.out ?_) fun hg => Sm.out ?_) | (refine Nu.mk ?_; first | (fail_if_success have := nb1); intro nb1 | (fail_if_success have := nb2); intro nb2 | (fail_if_success have := nb3); intro nb3 | (fail_if_success have := nb4); intro nb4 | (fail_if_success have := nb5); intro nb5 | (fail_if_success have := nb6); intro nb6 | (fail_if_success have := nb7); intro nb7 | (fail_if_success have := nb8); intro nb8 | intro nbz) | (apply Yfr; refine Yf FR fun hFRb FR => ?_) | refine Two.mk ?_ ?_ | (apply Yxc; exact Yx) | refine Cs.mk fun hcs => Sm.out ?_ | go_step | omega | (simp only [maxLen_eq]; omega) | exact trivial
    rename_i K3 hK3
    try simp only [List.append_nil]
    refine WP.sub (s' := ⟨[(19, iv .i64 (oE g)), (18, .sl (oN nL g) (oQ C1 g)), (17, .lit (oP g)), (15, pt sb 0), (14, .lit (.string X)), (13, pt b 0), (11, pt xb 0), (0, iv .i64 (s : Int))], (sb, MB.cells [nu E.1, .slz .u8 E.2, .sl nL C1] 3 39) :: (xb, crM x1 x2 x3 x4 x5 x6) :: oH nL E LG g⟩) (Sub.of_env [] (by exact pmz _) (by simp [look])) ?_
    clear cO
    have cont2 : Sm (∀ (q : LS b a7), ∀ s', Sub s' ⟨[(15, pt sb 0), (14, .lit (.string X)), (13, pt b 0), (11, pt xb 0), (0, iv .i64 (s : Int))], (sb, MB.cells [nu E.1, .slz .u8 E.2, .sl nL C1] 3 39) :: (xb, crM x1 x2 x3 x4 x5 x6) :: dH b a7 q.1⟩ → K3 s') := Sm.mk fun q s' hsub => by
      refine hK3 s' (WP.sub hsub ?_)
      clear hK hK3 hsub
      obtain ⟨l7, hl7⟩ := q
      simp only
      have cC := lift0 [(sb, MB.cells [nu E.1, .slz .u8 E.2, .sl nL C1] 3 39), (xb, crM x1 x2 x3 x4 x5 x6)] (crash_d hA7 hl7 (by omega) x2 x3)
      have hA8 := crA_ok hA7 x2 x3
      have hf8 : (crA a7 x2 x3).f = -1 := rfl
      obtain ⟨R4, hR4, hRg8⟩ := hCr
      obtain ⟨a8, ha8⟩ : ∃ a, a = crA a7 x2 x3 := ⟨_, rfl⟩
      rw [← ha8] at cC hA8 hf8 hRg8
      clear ha8
      first | (have FRx := FR; clear FRx) | have FR := fr0S
      have FA := Sm.mk (And.intro TFCfL (And.intro hs1 hs2))
      repeat' first | (apply Sm.mk; refine Ys ?_) | refine WP.seq fun K hK => ?_ | (apply Ob.mk; exact Yo) | refine And.intro (Ob.out ?_) ?_ | ((fail_if_success (show WP _ _ _ (.region 22 _ _) _ _)); refine Y1CfL ?_) | (refine CallV.exM (cC) (pmz _) (fun g => Sm.out ?_)) | refine YzCfL ?_ | (refine WP.cond rfl (fun hc => ?_) (fun hc => ?_) <;> (try simp only [ZC, reduceCtorEq, ZD] at hc) <;> (try exact absurd hc (by decide)) <;> (try (exfalso; omega))) | refine Rt.mk (And.intro (fun hg => Sm.out ?_) fun hg => Sm.out ?_) | (refine Nu.mk ?_; first | (fail_if_success have := nb1); intro nb1 | (fail_if_success have := nb2); intro nb2 | (fail_if_success have := nb3); intro nb3 | (fail_if_success have := nb4); intro nb4 | (fail_if_success have := nb5); intro nb5 | (fail_if_success have := nb6); intro nb6 | (fail_if_success have := nb7); intro nb7 | (fail_if_success have := nb8); intro nb8 | intro nbz) | (apply Yfr; refine Yf FR fun hFRb FR => ?_) | refine Two.mk ?_ ?_ | (apply Yxc; exact Yx) | refine Cs.mk fun hcs => Sm.out ?_ | go_step | omega | (simp only [maxLen_eq]; omega) | exact trivial
      obtain ⟨l8, hl8⟩ := g
      try simp only [List.append_nil]
      have eAll := all_open hR4
      have hl4R := hRg8.lR
      obtain ⟨g1, g2, g3, g4, g5, -, -⟩ := hag R4 hl4R
      obtain ⟨h08, hRg9⟩ := cf_up hA8 hRg8 hf10 hf8
      have hO8 := (cfopen_go b a8 l8 hA8 hRg8.st g1 hl8 2 (by omega) (by omega) (by omega) (show _ + 3 ≤ 980 by omega)).1
      rw [g3, g4, g5] at hO8
      have cO8 := lift0 [(sb, MB.cells [nu E.1, .slz .u8 E.2, .sl nL C1] 3 39), (xb, crM x1 x2 x3 x4 x5 x6)] (hO8 h08)
      have hA9 : AOk 40 (opR a8 f s R4).1 := (opR_ok (m := 3) hA8 hRg8).le (by omega)
      rw [eAll, ← hnL, ← hC1] at cO8
      obtain ⟨a9, ha9⟩ : ∃ a, a = (opR a8 f s R4).1 := ⟨_, rfl⟩
      obtain ⟨LG8, hLG8⟩ : ∃ LG, LG = lgM b f (cfN 10 2) (ub (tlB R4 (all R).2 s)) (all R).2 false := ⟨_, rfl⟩
      rw [← ha9] at cO8 hRg9 hA9
      rw [← hLG8] at cO8
      clear hO8 hLG8 ha9 h08
      first | (have FRx := FR; clear FRx) | have FR := fr0S
      have FA := Sm.mk (And.intro TFCfL (And.intro hs1 hs2))
      repeat' first | (apply Sm.mk; refine Ys ?_) | refine WP.seq fun K hK => ?_ | (apply Ob.mk; exact Yo) | refine And.intro (Ob.out ?_) ?_ | ((fail_if_success (show WP _ _ _ (.region 23 _ _) _ _)); refine Y1CfL ?_) | (refine CallV.exM (cO8) (pmz _) (fun g => Sm.out ?_)) | refine YzCfL ?_ | (refine WP.cond rfl (fun hc => ?_) (fun hc => ?_) <;> (try simp only [ZC, reduceCtorEq, ZD] at hc) <;> (try exact absurd hc (by decide)) <;> (try (exfalso; omega))) | refine Rt.mk (And.intro (fun hg => Sm.out ?_) fun hg => Sm.out ?_) | (refine Nu.mk ?_; first | (fail_if_success have := nb1); intro nb1 | (fail_if_success have := nb2); intro nb2 | (fail_if_success have := nb3); intro nb3 | (fail_if_success have := nb4); intro nb4 | (fail_if_success have := nb5); intro nb5 | (fail_if_success have := nb6); intro nb6 | (fail_if_success have := nb7); intro nb7 | (fail_if_success have := nb8); intro nb8 | intro nbz) | (apply Yfr; refine Yf FR fun hFRb FR => ?_) | refine Two.mk ?_ ?_ | (apply Yxc; exact Yx) | refine Cs.mk fun hcs => Sm.out ?_ | go_step | omega | (simp only [maxLen_eq]; omega) | exact trivial
      obtain ⟨z8, y8, x8, l9, hl9⟩ := g
      try simp only [List.append_nil]
      refine WP.sub (s' := ⟨[(19, iv .i64 0), (18, .sl nL C1), (17, pt z8 0), (15, pt sb 0), (14, .lit (.string X)), (13, pt b 0), (0, iv .i64 (s : Int))], (sb, MB.cells [nu E.1, .slz .u8 E.2, .sl nL C1] 3 39) :: (xb, crM x1 x2 x3 x4 x5 x6) :: (z8, cfM b 2 y8 x8 nL false) :: (y8, slM b 0 2 E) :: (x8, LG8) :: dH b a9 l9⟩) (Sub.of_env [] (by exact pmz _) (by simp [look])) ?_
      clear cC cO8
      have cSt9 := (cSt z8 y8 x8).lookU (H := (sb, MB.cells [nu E.1, .slz .u8 E.2, .sl nL C1] 3 39) :: (xb, crM x1 x2 x3 x4 x5 x6) :: (z8, cfM b 2 y8 x8 nL false) :: (y8, slM b 0 2 E) :: (x8, LG8) :: dH b a9 l9) (R := (sb, MB.cells [nu E.1, .slz .u8 E.2, .sl nL C1] 3 39) :: (xb, crM x1 x2 x3 x4 x5 x6) :: (x8, LG8) :: dH b a9 l9) (by exact List.perm_append_comm_assoc [_, _] [_, _] _)
      have cRc := (cfrec_ct z8 b 2 y8 x8 nL false).lookU (H := (sb, MB.cells [nu E.1, .slz .u8 E.2, .sl nL C1] 3 39) :: (xb, crM x1 x2 x3 x4 x5 x6) :: (z8, cfM b 2 y8 x8 nL false) :: (y8, slM b 0 2 E) :: (x8, LG8) :: dH b a9 l9) (R := (sb, MB.cells [nu E.1, .slz .u8 E.2, .sl nL C1] 3 39) :: (xb, crM x1 x2 x3 x4 x5 x6) :: (y8, slM b 0 2 E) :: (x8, LG8) :: dH b a9 l9) (by exact List.perm_append_comm_assoc [_, _] [_] _)
      have cW9 := look0 ((sb, MB.cells [nu E.1, .slz .u8 E.2, .sl nL C1] 3 39) :: (xb, crM x1 x2 x3 x4 x5 x6) :: (z8, cfM b 2 y8 x8 nL false) :: (y8, slM b 0 2 E) :: [(x8, LG8)]) (all_ct b a9 l9 hA9 hl9 hRg9.st.dk)
      rw [hRg9.st.T] at cW9
      obtain ⟨q1, q2, -, -, -, -, -⟩ := hag (clR R4) (by rw [clR_len]; exact hl4R)
      obtain ⟨WW, hWW⟩ : ∃ WW, WW = W.take (f * s) ++ (clR R4 ++ W.drop ((f + 3) * s)) := ⟨_, rfl⟩
      rw [← hWW] at cW9 q1 q2
      obtain ⟨Y, hY⟩ : ∃ Y, Y = bstr (ub WW) := ⟨_, rfl⟩
      rw [← hY] at cW9
      have hYs : Y.size = 10 * s := by rw [hY, bstr_size, ub_len, q1]
      obtain ⟨V, hV⟩ : ∃ V, V = bstr (ub (W.take (4 * s))) := ⟨_, rfl⟩
      have eX4 : X.extract 0 (4 * s) = V := by rw [hX, ext_ub, List.drop_zero, Nat.sub_zero, hV]
      have eY4 : Y.extract 0 (4 * s) = V := by rw [hY, ext_ub, List.drop_zero, Nat.sub_zero, q2, hV]
      have kE : (V.toList == V.toList) = true := beq_self_eq_true _
      have kN : ((nL : Int) == (nL : Int)) = true := beq_self_eq_true _
      first | (have FRx := FR; clear FRx) | have FR := fr0S
      have FA := Sm.mk (TFCfL)
      repeat' first | (apply Sm.mk; refine Ys ?_) | refine WP.seq fun K hK => ?_ | (apply Ob.mk; exact Yo) | refine And.intro (Ob.out ?_) ?_ | ((fail_if_success (show WP _ _ _ (.region 23 _ _) _ _)); refine Y1CfL ?_) | refine YzCfL ?_ | (refine WP.cond rfl (fun hc => ?_) (fun hc => ?_) <;> (try simp only [ZC, reduceCtorEq, ZD] at hc) <;> (try exact absurd hc (by decide)) <;> (try (exfalso; omega))) | refine Rt.mk (And.intro (fun hg => Sm.out ?_) fun hg => Sm.out ?_) | (refine Nu.mk ?_; first | (fail_if_success have := nb1); intro nb1 | (fail_if_success have := nb2); intro nb2 | (fail_if_success have := nb3); intro nb3 | (fail_if_success have := nb4); intro nb4 | (fail_if_success have := nb5); intro nb5 | (fail_if_success have := nb6); intro nb6 | (fail_if_success have := nb7); intro nb7 | (fail_if_success have := nb8); intro nb8 | intro nbz) | (apply Yfr; refine Yf FR fun hFRb FR => ?_) | refine Two.mk ?_ ?_ | (apply Yxc; exact Yx) | refine Cs.mk fun hcs => Sm.out ?_ | go_step | omega | (simp only [maxLen_eq]; omega) | exact trivial
      refine WP.drawV (k := 29) mixed (by decide +kernel) (Sm.out ?_)
      first | (have FRx := FR; clear FRx) | have FR := fr0S
      have FA := Sm.mk (And.intro TFCfL (And.intro hs1 (And.intro hs2 (And.intro z1 (And.intro z2 (And.intro w4 (And.intro hXs (And.intro hYs (And.intro eX4 (And.intro eY4 (And.intro kE kN)))))))))))
      repeat' first | (apply Sm.mk; refine YsCfL0 ?_) | refine WP.seq fun K hK => ?_ | (apply Ob.mk; exact Yo) | refine And.intro (Ob.out ?_) ?_ | refine Y1CfL ?_ | refine CallV.updM (cSt9) (pmz _) (Sm.out ?_) | ((first | refine ExF.up ?_ (cSt9) (Sm.out ?_) | refine ExG.up ?_ (fun _ => cSt9) (Sm.out ?_) | refine ExG.upJ ?_ (fun _ => cSt9) (Sm.out ?_) | refine ExG.upI ?_ (fun _ => cSt9) (Ob.out ?_) (Sm.out ?_)); focus (exact ⟨_, (pmz _)⟩)) | (first | refine CallV.fn (cSm) (Sm.out ?_) | refine ExF.mk (cSm) (Sm.out ?_) | refine ExG.mk (fun _ => cSm) (Sm.out ?_) | refine ExG.mkJ (fun _ => cSm) (Sm.out ?_) | refine ExG.mkI (Ob.out ?_) (fun _ => cSm) (Sm.out ?_)) | refine CallV.updM (cRc) (pmz _) (Sm.out ?_) | ((first | refine ExF.up ?_ (cRc) (Sm.out ?_) | refine ExG.up ?_ (fun _ => cRc) (Sm.out ?_) | refine ExG.upJ ?_ (fun _ => cRc) (Sm.out ?_) | refine ExG.upI ?_ (fun _ => cRc) (Ob.out ?_) (Sm.out ?_)); focus (exact ⟨_, (pmz _)⟩)) | refine CallV.updM (cW9) (pmz _) (Sm.out ?_) | ((first | refine ExF.up ?_ (cW9) (Sm.out ?_) | refine ExG.up ?_ (fun _ => cW9) (Sm.out ?_) | refine ExG.upJ ?_ (fun _ => cW9) (Sm.out ?_) | refine ExG.upI ?_ (fun _ => cW9) (Ob.out ?_) (Sm.out ?_)); focus (exact ⟨_, (pmz _)⟩)) | refine YzCfL ?_ | (refine WP.cond rfl (fun hc => ?_) (fun hc => ?_) <;> (try simp only [ZC, reduceCtorEq, ZD] at hc) <;> (try exact absurd hc (by decide)) <;> (try (exfalso; omega))) | refine Rt.mk (And.intro (fun hg => Sm.out ?_) fun hg => Sm.out ?_) | (refine Nu.mk ?_; first | (fail_if_success have := nb1); intro nb1 | (fail_if_success have := nb2); intro nb2 | (fail_if_success have := nb3); intro nb3 | (fail_if_success have := nb4); intro nb4 | (fail_if_success have := nb5); intro nb5 | (fail_if_success have := nb6); intro nb6 | (fail_if_success have := nb7); intro nb7 | (fail_if_success have := nb8); intro nb8 | intro nbz) | (apply Yfr; refine Yf FR fun hFRb FR => ?_) | refine Two.mk ?_ ?_ | (apply Yxc; exact Yx) | refine Cs.mk fun hcs => Sm.out ?_ | go_step | omega | (simp only [maxLen_eq]; omega) | exact trivial
      (refine Yg ?_; try exact trivial)
    clear hK3 hCr hA7 hag
    rcases g with ⟨z, y, x, l7, hl7⟩ | ⟨l7, hl7⟩
    · simp only [oE, oQ, oN, oP, oH]
      have cSt7 := (cSt z y x).lookU (H := (sb, MB.cells [nu E.1, .slz .u8 E.2, .sl nL C1] 3 39) :: (xb, crM x1 x2 x3 x4 x5 x6) :: (z, cfM b 2 y x nL false) :: (y, slM b 0 2 E) :: (x, LG) :: dH b a7 l7) (R := (sb, MB.cells [nu E.1, .slz .u8 E.2, .sl nL C1] 3 39) :: (xb, crM x1 x2 x3 x4 x5 x6) :: (x, LG) :: dH b a7 l7) (by exact List.perm_append_comm_assoc [_, _] [_, _] _)
      refine WP.drawV (k := 26) mixed (by decide +kernel) (Sm.out ?_)
      first | (have FRx := FR; clear FRx) | have FR := fr0S
      have FA := Sm.mk (And.intro TFCfL (And.intro hs1 (And.intro hs2 (And.intro z1 (And.intro z2 (And.intro z3 z4))))))
      repeat' first | (apply Sm.mk; refine YsCfL0 ?_) | refine WP.seq fun K hK => ?_ | (apply Ob.mk; exact Yo) | refine And.intro (Ob.out ?_) ?_ | refine Y1CfL ?_ | refine CallV.updM (cSt7) (pmz _) (Sm.out ?_) | ((first | refine ExF.up ?_ (cSt7) (Sm.out ?_) | refine ExG.up ?_ (fun _ => cSt7) (Sm.out ?_) | refine ExG.upJ ?_ (fun _ => cSt7) (Sm.out ?_) | refine ExG.upI ?_ (fun _ => cSt7) (Ob.out ?_) (Sm.out ?_)); focus (exact ⟨_, (pmz _)⟩)) | (first | refine CallV.fn (cSm) (Sm.out ?_) | refine ExF.mk (cSm) (Sm.out ?_) | refine ExG.mk (fun _ => cSm) (Sm.out ?_) | refine ExG.mkJ (fun _ => cSm) (Sm.out ?_) | refine ExG.mkI (Ob.out ?_) (fun _ => cSm) (Sm.out ?_)) | refine YzCfL ?_ | (refine WP.cond rfl (fun hc => ?_) (fun hc => ?_) <;> (try simp only [ZC, reduceCtorEq, ZD] at hc) <;> (try exact absurd hc (by decide)) <;> (try (exfalso; omega))) | refine Rt.mk (And.intro (fun hg => Sm.out ?_) fun hg => Sm.out ?_) | (refine Nu.mk ?_; first | (fail_if_success have := nb1); intro nb1 | (fail_if_success have := nb2); intro nb2 | (fail_if_success have := nb3); intro nb3 | (fail_if_success have := nb4); intro nb4 | (fail_if_success have := nb5); intro nb5 | (fail_if_success have := nb6); intro nb6 | (fail_if_success have := nb7); intro nb7 | (fail_if_success have := nb8); intro nb8 | intro nbz) | (apply Yfr; refine Yf FR fun hFRb FR => ?_) | refine Two.mk ?_ ?_ | (apply Yxc; exact Yx) | refine Cs.mk fun hcs => Sm.out ?_ | go_step | omega | (simp only [maxLen_eq]; omega) | exact trivial
      exact cont2.out ⟨l7, hl7⟩ _ (Sub.of_env [_, _, _] (by exact List.Perm.cons _ (List.Perm.cons _ (List.perm_append_comm (l₁ := [_, _, _])))) (by simp [look]))
    · simp only [oE, oQ, oN, oP, oH]
      have y1 : ((12 : Int) == 0) = false := rfl
      have y2 : ((12 : Int) == 12) = true := rfl
      have y3 : ((12 : Int) != 0) = true := rfl
      have y4 : ((12 : Int) != 12) = false := rfl
      refine WP.drawV (k := 26) mixed (by decide +kernel) (Sm.out ?_)
      first | (have FRx := FR; clear FRx) | have FR := fr0S
      have FA := Sm.mk (And.intro TFCfL (And.intro hs1 (And.intro hs2 (And.intro y1 (And.intro y2 (And.intro y3 y4))))))
      repeat' first | (apply Sm.mk; refine YsCfL0 ?_) | refine WP.seq fun K hK => ?_ | (apply Ob.mk; exact Yo) | refine And.intro (Ob.out ?_) ?_ | refine Y1CfL ?_ | refine YzCfL ?_ | (refine WP.cond rfl (fun hc => ?_) (fun hc => ?_) <;> (try simp only [ZC, reduceCtorEq, ZD] at hc) <;> (try exact absurd hc (by decide)) <;> (try (exfalso; omega))) | refine Rt.mk (And.intro (fun hg => Sm.out ?_) fun hg => Sm.out ?_) | (refine Nu.mk ?_; first | (fail_if_success have := nb1); intro nb1 | (fail_if_success have := nb2); intro nb2 | (fail_if_success have := nb3); intro nb3 | (fail_if_success have := nb4); intro nb4 | (fail_if_success have := nb5); intro nb5 | (fail_if_success have := nb6); intro nb6 | (fail_if_success have := nb7); intro nb7 | (fail_if_success have := nb8); intro nb8 | intro nbz) | (apply Yfr; refine Yf FR fun hFRb FR => ?_) | refine Two.mk ?_ ?_ | (apply Yxc; exact Yx) | refine Cs.mk fun hcs => Sm.out ?_ | go_step | omega | (simp only [maxLen_eq]; omega) | exact trivial
      exact cont2.out ⟨l7, hl7⟩ _ (Sub.of_env [] (by exact pmz _) (by simp [look]))
  clear hK2
  have tm : Int.tmod (E.1 : Int) 2 = ((E.1 % 2 : Nat) : Int) := by rw [Int.tmod_eq_emod_of_nonneg (by omega)]; omega
  obtain ⟨p, hp⟩ : ∃ p, p = E.1 % 2 := ⟨_, rfl⟩
  rw [← hp] at eR0 eR1 tm
  have hp2 : p < 2 := by omega
  have w7 : IntKind.i64.wrap (7 * (s : Int)) = ((7 * s : Nat) : Int) := by rw [show (7 * (s : Int)) = ((7 * s : Nat) : Int) by simp]; exact wrap_i64 (by omega) (by omega)
  by_cases hp1 : p = 1
  · have kp : ((p : Int) == 1) = true := by rw [hp1]; rfl
    have e := eR1 hp1
    obtain ⟨T1, hT1⟩ : ∃ T, T = bstr (ub R) := ⟨_, rfl⟩
    rw [← hT1] at e cont
    first | (have FRx := FR; clear FRx) | have FR := fr0S
    have FA := Sm.mk (And.intro TFCfL (And.intro kp (And.intro tm (And.intro w7 (And.intro hXs e)))))
    repeat' first | (apply Sm.mk; refine Ys ?_) | refine WP.seq fun K hK => ?_ | (apply Ob.mk; exact Yo) | refine And.intro (Ob.out ?_) ?_ | refine Y1CfL ?_ | refine YzCfL ?_ | (refine WP.cond rfl (fun hc => ?_) (fun hc => ?_) <;> (try simp only [ZC, reduceCtorEq, ZD] at hc) <;> (try exact absurd hc (by decide)) <;> (try (exfalso; omega))) | refine Rt.mk (And.intro (fun hg => Sm.out ?_) fun hg => Sm.out ?_) | (refine Nu.mk ?_; first | (fail_if_success have := nb1); intro nb1 | (fail_if_success have := nb2); intro nb2 | (fail_if_success have := nb3); intro nb3 | (fail_if_success have := nb4); intro nb4 | (fail_if_success have := nb5); intro nb5 | (fail_if_success have := nb6); intro nb6 | (fail_if_success have := nb7); intro nb7 | (fail_if_success have := nb8); intro nb8 | intro nbz) | (apply Yfr; refine Yf FR fun hFRb FR => ?_) | refine Two.mk ?_ ?_ | (apply Yxc; exact Yx) | refine Cs.mk fun hcs => Sm.out ?_ | go_step | omega | (simp only [maxLen_eq]; omega) | exact trivial
    exact cont.out _ (Sub.of_env [] (by exact pmz _) (by simp [look]))
  · have kp : ((p : Int) == 1) = false := beq_eq_false_iff_ne.2 (by omega)
    have e := eR0 (by omega)
    obtain ⟨T1, hT1⟩ : ∃ T, T = bstr (ub R) := ⟨_, rfl⟩
    rw [← hT1] at e cont
    simp only [e]
    first | (have FRx := FR; clear FRx) | have FR := fr0S
    have FA := Sm.mk (And.intro TFCfL (And.intro kp tm))
    repeat' first | (apply Sm.mk; refine Ys ?_) | refine WP.seq fun K hK => ?_ | (apply Ob.mk; exact Yo) | refine And.intro (Ob.out ?_) ?_ | refine Y1CfL ?_ | refine YzCfL ?_ | (refine WP.cond rfl (fun hc => ?_) (fun hc => ?_) <;> (try simp only [ZC, reduceCtorEq, ZD] at hc) <;> (try exact absurd hc (by decide)) <;> (try (exfalso; omega))) | refine Rt.mk (And.intro (fun hg => Sm.out ?_) fun hg => Sm.out ?_) | (refine Nu.mk ?_; first | (fail_if_success have := nb1); intro nb1 | (fail_if_success have := nb2); intro nb2 | (fail_if_success have := nb3); intro nb3 | (fail_if_success have := nb4); intro nb4 | (fail_if_success have := nb5); intro nb5 | (fail_if_success have := nb6); intro nb6 | (fail_if_success have := nb7); intro nb7 | (fail_if_success have := nb8); intro nb8 | intro nbz) | (apply Yfr; refine Yf FR fun hFRb FR => ?_) | refine Two.mk ?_ ?_ | (apply Yxc; exact Yx) | refine Cs.mk fun hcs => Sm.out ?_ | go_step | omega | (simp only [maxLen_eq]; omega) | exact trivial
    exact cont.out _ (Sub.of_env [] (by exact pmz _) (by simp [look]))
end Go.Proofs.YtmbecppmkglmhaaDoor
namespace Go.Proofs.YtmbecppmkglmhaaDoor
open Go
set_option linter.unusedVariables false
set_option linter.unusedSimpArgs false
abbrev crTy : Ty := .st [.int .i64, .int .i64, .int .i64, .int .i64, .int .i64, .int .i64]
theorem reads_law {Z : Int} {xs : List AV} (A B C D : List UInt8) (hx : Shp crTy xs) : ACt Tryd.prog 3 [iv .i64 Z, .slz .u8 (ub A), .slz .u8 (ub B), .slz .u8 (ub C), .slz .u8 (ub D), .agg xs] [] (fun r _ => r = bv true) := by
  simp only [crTy, Shp, ShpL] at hx
  obtain ⟨_, _, rfl, ⟨x1, rfl, h1⟩, _, _, rfl, ⟨x2, rfl, h2⟩, _, _, rfl, ⟨x3, rfl, h3⟩, _, _, rfl, ⟨x4, rfl, h4⟩, _, _, rfl, ⟨x5, rfl, h5⟩, _, _, rfl, ⟨x6, rfl, h6⟩, rfl⟩ := hx
  exact (reads_ct Z x1 x2 x3 x4 x5 x6 A B C D (by have := wf_i64 h1; omega)).mono fun r F h => h.1
end Go.Proofs.YtmbecppmkglmhaaDoor
