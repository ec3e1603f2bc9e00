/-
  The walks and the laws that the statement leans on, part 40.
-/
import Derived.Test.YteoajodoejoccaaR11
import Derived.Test.YteoajodoejoccaaR31
import Derived.Test.YteoajodoejoccaaR39
namespace Go.Proofs.Yteoajodoejoccaa
open Go Wi
set_option linter.unusedVariables false
set_option linter.unusedSimpArgs false
set_option linter.defProp false
def TFPtF :=
  And.intro (And.intro (And.intro (And.intro (And.intro (And.intro tyc0 tyc3) (And.intro zmb3 tyc4)) (And.intro (And.intro zmb4 tyc5) (And.intro zmb5 tyc9))) (And.intro (And.intro (And.intro zmb9 tyc25) (And.intro mth25_45 mth25_44)) (And.intro (And.intro mth25_43 con25) (And.intro zmb25 (And.intro tyc28 zmb28))))) (And.intro (And.intro (And.intro (And.intro tyc30 mth30_37) (And.intro con30 zmb30)) (And.intro (And.intro tyc31 tyc35) (And.intro zmb35 tyc36))) (And.intro (And.intro (And.intro elt36 mkz36) (And.intro apT36 elk36)) (And.intro (And.intro zmb36 tyc38) (And.intro foff38_0 (And.intro fpart38_0 foff38_1)))))) (And.intro (And.intro (And.intro (And.intro (And.intro fpart38_1 zmb38) (And.intro bldT38 tyc41)) (And.intro (And.intro tyc48 foff48_0) (And.intro fpart48_0 foff48_1))) (And.intro (And.intro (And.intro fpart48_1 foff48_2) (And.intro fpart48_2 foff48_3)) (And.intro (And.intro fpart48_3 foff48_4) (And.intro fpart48_4 (And.intro foff48_5 fpart48_5))))) (And.intro (And.intro (And.intro (And.intro fe48 zmb48) (And.intro bldT48 Try.underlying0)) (And.intro (And.intro Try.underlying3 Try.underlying4) (And.intro Try.underlying5 Try.underlying9))) (And.intro (And.intro (And.intro Try.underlying25 Try.underlying28) (And.intro Try.underlying30 Try.underlying31)) (And.intro (And.intro Try.underlying35 Try.underlying36) (And.intro Try.underlying38 (And.intro Try.underlying41 Try.underlying48))))))
theorem Y1PtF {G R : Prop} (r : R) (h : R → G := by intro r; first | (apply WP.region; exact rvc_sound _ _ (Sm.out r)) | exact WP.drawP (ia := 14) (is := 15) (k := 16) mixed (by decide +kernel) (by decide +kernel) (Sm.out r) | exact WP.drawK rfl mixed (by decide +kernel) (Sm.out r) | (apply WP.block; exact r) | (apply WP.skip; exact Yq r) | (apply WP.exit; exact Yq r) | (apply WP.ret; exact Sm.out r) | exact WP.cond rfl (fun _ => r) (fun hg => absurd hg (by decide)) | exact WP.cond rfl (fun hg => absurd hg (by decide)) (fun _ => r) | exact Rt.mk (And.intro (fun _ => Sm.out r) fun hg => absurd hg (by decide)) | exact Rt.mk (And.intro (fun hg => absurd hg (by decide)) fun _ => Sm.out r)) : G := h r
theorem YzPtF {G R : Prop} (r : R) (h : R → G := by intro r; first | (apply ExG.no; exact Sm.out r) | (apply Or.inl; apply ExG.no; exact Sm.out r) | exact Or.inl (And.intro (fun hg => absurd hg (by decide)) (ExG.no (Sm.out r)))) : G := h r
theorem YsPtF0 {P Q : Prop} (q : Q) (h : P = Q := by (try (conv => lhs; simp -dsimp only [ZK, rvc, capA, appA, litL, mkfv, drawF, headN, pureH, stp, dvc, calleeOf, gcall, pev, eff, newB, okd, og, ogs, ogo, ogp, slv, bltv, opd, litv, strip, one, both, putE, St.put, look, gdOf, gdv, picka, pickv, pickw, binv, bini, bins, binb, binp, binq, isSlT, bina, shp, eqCells, unv, convv, nilv, faddv, addp, idxav, idxp, load1, load1m, loadn, loadnm, loadv, hget, hset, hrep, hdel, slicev, slice3v, bnd, shift1, lenv, capv, IntKind.bits, extractv, fieldv, indexv, min2v, max2v, mkiv, tasv, tasz, cellsA, fillA, buildv, stC, oneC, rowMB, intsA, plN, appE, appZ, appC, appS, srcB, appNZ, appNC, VwL, srcC, srcZ, srcM, isBoolT, isPtrT, isSliceT, uOk, Value.oneCell', Nat.reducePow, Int.reducePow, Nat.reduceAdd, Nat.reduceMul, Nat.reduceSub, Nat.reduceLT, Nat.reduceLeDiff, Nat.reduceEqDiff, Nat.reduceBEq, Nat.reduceDiv, Nat.reduceMod, ↓reduceIte, reduceCtorEq, Int.reduceToNat, Int.reduceLT, Int.reduceLE, TFPtF, SeqQ, BlkQ, LoopQ, BodyQ, dkn, kst, fvOf, undef, beq_self_eq_true, Bool.true_beq, Bool.false_beq, Bool.not_true, Bool.not_false, FA.out, FR.out])) <;> exact rfl) : P := h.mpr q
abbrev crM (x1 x2 x3 x4 x5 x6 : Int) : MB := MB.cells [iv .i64 x1, iv .i64 x2, iv .i64 x3, iv .i64 x4, iv .i64 x5, iv .i64 x6] 6 48
abbrev snM (E : Nat × List Int) : MB := MB.cells [nu E.1, .slz .u8 E.2] 2 38
theorem ext_ub (W : Bs) (i j : Nat) : (bstr (ub W)).extract i j = bstr (ub ((W.drop i).take (j - i))) := by
  rw [bstr_ext, ub_map, ub_map, List.map_take, List.map_drop, List.drop_take]
theorem put_crash {c s n f m : Nat} {W : Bs} (y b : Nat) (a : DA) (l : DL) (hA : AOk c a) (hS : Stl s n (ub W) a) (hW : W.length = n * s) (hl : LOk b a l) (hfm : f + 2 * m ≤ n) (hm : 1 ≤ m) (hms : m * s ≤ 5000) (z : Bs) (hz : z.length ≤ 2000) (hc : c + 2 * m ≤ 900) :
    ∃ (X : DA × Int) (E1 : Nat × List Int) (ov : Bool), ACt Try.prog 15 [pt y 0, .slz .u8 (ub z)] ((y, slO b f m (slP W f m s) false) :: dH b a l) (fun r F' => ∃ q : LS b X.1, r = iv .i64 X.2 ∧ F' = (y, slO b f m E1 ov) :: dH b X.1 q.1) ∧ AOk (c + 2 * m + 2) X.1 ∧
      ((X.2 = 0 ∧ E1 = (rpE (slP W f m s) (m * s) (ub z)).1 ∧ (rpE (slP W f m s) (m * s) (ub z)).2 = 0) ∨
       (X.2 = (rpE (slP W f m s) (m * s) (ub z)).2 ∧ (X.2 = 11 ∨ X.2 = 3) ∧ E1 = slP W f m s) ∨
       (X.2 = 12 ∧ E1 = slP W f m s ∧ (rpE (slP W f m s) (m * s) (ub z)).2 = 0)) ∧
      ∀ K T : Int, ∃ W', Stl s n (ub W') (crA X.1 K T) ∧ W'.length = n * s ∧ (slP W' f m s = slP W f m s ∨ slP W' f m s = (rpE (slP W f m s) (m * s) (ub z)).1) ∧ (X.2 = 0 → slP W' f m s = (rpE (slP W f m s) (m * s) (ub z)).1) := by
  obtain ⟨X, E1, ov, h1, h2, h3⟩ := put_spec y b a l hA hS hW hl hfm hm hms z hz hc
  refine ⟨X, E1, ov, h1, h2, ?_⟩
  rcases h3 with ⟨g1, g2, -, g4, -, W', g5, g6, g7, -⟩ | ⟨g1, g2, g3, g4, -, g6⟩ | ⟨g1, -, -, g4, -, g6, g7⟩
  · exact ⟨.inl ⟨g1, g2, g4⟩, fun K T => ⟨W', g5.crA K T, g6, .inr (g7.trans g2), fun _ => g7.trans g2⟩⟩
  · refine ⟨.inr (.inl ⟨g1, g2, g4⟩), fun K T => ⟨W, ?_, hW, .inl rfl, fun h => ?_⟩⟩
    · rw [g3]; exact hS.crA K T
    · rw [h] at g2; rcases g2 with g | g <;> cases g
  · refine ⟨.inr (.inr ⟨g1, g4, g6⟩), fun K T => ?_⟩
    obtain ⟨W', k1, k2, k3⟩ := g7 K T
    exact ⟨W', k1, k2, k3, fun h => by rw [g1] at h; cases h⟩
theorem rpE_nil (E : Nat × List Int) (M : Nat) (z : List Int) (h : E.1 = 0 → E.2 = []) : (rpE E M z).1.1 = 0 → (rpE E M z).1.2 = [] := by
  unfold rpE
  split
  · exact h
  · split
    · exact h
    · intro h2; exact absurd h2 (by simp)
theorem rpE_len (E : Nat × List Int) (M : Nat) (z : List Int) (h : E.2.length ≤ 1000000) (hz : z.length ≤ 1000000) : (rpE E M z).1.2.length ≤ 1000000 := by
  unfold rpE
  split
  · exact h
  · split
    · exact h
    · exact hz
set_option maxRecDepth 20000 in
set_option maxHeartbeats 8000000 in
theorem reads_ct (Z x1 x2 x3 x4 x5 x6 : Int) (A B C : Bs) (hF : x1 < 9223372036854775808) : ACt Try.prog 5 [iv .i64 Z, .slz .u8 (ub A), .slz .u8 (ub B), .slz .u8 (ub C), .agg [iv .i64 x1, iv .i64 x2, iv .i64 x3, iv .i64 x4, iv .i64 x5, iv .i64 x6]] [] (Fn (bv true)) := by
  have cA := awake6_ct
  have al := ub_len A
  have bl := ub_len B
  have cl := ub_len C
  obtain ⟨q1, e1⟩ : ∃ q, decide (Z < 32) = q := ⟨_, rfl⟩
  obtain ⟨q2, e2⟩ : ∃ q, decide (Z > 512) = q := ⟨_, rfl⟩
  obtain ⟨q3, e3⟩ : ∃ q, decide ((A.length : Int) > 2000) = q := ⟨_, rfl⟩
  obtain ⟨q4, e4⟩ : ∃ q, decide ((B.length : Int) > 2000) = q := ⟨_, rfl⟩
  obtain ⟨q5, e5⟩ : ∃ q, decide ((C.length : Int) > 2000) = q := ⟨_, rfl⟩
  refine ACt.intro Try.func5 rfl (by kernel_rfl) (by simp [Try.ntmps5]) (fun cx => ?_)
  simp only [argE, Try.ntmps5, Try.results5]
  first | (have FRx := FR; clear FRx) | have FR := fr0S
  have FA := Sm.mk (And.intro TFPtF (And.intro al (And.intro bl (And.intro cl (And.intro e1 (And.intro e2 (And.intro e3 (And.intro e4 e5))))))))
  repeat' first | (apply Sm.mk; refine Ys ?_) | refine WP.seq fun K hK => ?_ | (apply Ob.mk; exact Yo) | refine And.intro (Ob.out ?_) ?_ | ((fail_if_success (show WP _ _ _ (.region 5 _ _) _ _)); refine Y1PtF ?_) | refine Yc (c := cA) (r := ?_) | refine YzPtF ?_ | (refine WP.cond rfl (fun hc => ?_) (fun hc => ?_) <;> (try simp only [ZC, reduceCtorEq, ZD] at hc) <;> (try exact absurd hc (by decide)) <;> (try (exfalso; omega))) | refine Rt.mk (And.intro (fun hg => Sm.out ?_) fun hg => Sm.out ?_) | (refine Nu.mk ?_; first | (fail_if_success have := nb1); intro nb1 | (fail_if_success have := nb2); intro nb2 | (fail_if_success have := nb3); intro nb3 | (fail_if_success have := nb4); intro nb4 | (fail_if_success have := nb5); intro nb5 | (fail_if_success have := nb6); intro nb6 | (fail_if_success have := nb7); intro nb7 | (fail_if_success have := nb8); intro nb8 | intro nbz) | (apply Yfr; refine Yf FR fun hFRb FR => ?_) | refine Two.mk ?_ ?_ | (apply Yxc; exact Yx) | refine Cs.mk fun hcs => Sm.out ?_ | go_step | omega | (simp only [maxLen_eq]; omega) | exact trivial
  · (refine Yg ?_; try exact trivial)
  obtain ⟨⟨⟨⟨q7, q8⟩, q9⟩, q10⟩, q11⟩ : (((q1 = false ∧ q2 = false) ∧ q3 = false) ∧ q4 = false) ∧ q5 = false := by simpa [Bool.or_eq_false_iff] using hc
  have h3 := of_decide_eq_false (e1.trans q7)
  have h4 := of_decide_eq_false (e2.trans q8)
  have h5 := of_decide_eq_false (e3.trans q9)
  have h6 := of_decide_eq_false (e4.trans q10)
  have h7 := of_decide_eq_false (e5.trans q11)
  clear e1 e2 e3 e4 e5
  obtain ⟨s, rfl⟩ : ∃ s : Nat, Z = (s : Int) := ⟨Z.toNat, by omega⟩
  have hM0 := mkA_I 8 s (by omega) (by omega) (by omega) (by omega)
  refine WP.sub (s' := ⟨[(9, pt nb1 0), (0, iv .i64 (s : Int)), (1, .slz .u8 (ub A)), (2, .slz .u8 (ub B)), (3, .slz .u8 (ub C))], [(nb1, crM x1 x2 x3 x4 x5 x6)]⟩) (Sub.of_env [] (by exact pmz _) (by simp [look])) ?_
  obtain ⟨xb, hxb⟩ : ∃ x, x = nb1 := ⟨_, rfl⟩
  rw [← hxb]
  clear hxb cA
  have cM : ACt Try.prog 8 [iv .i64 8, iv .i64 (s : Int)] ([(xb, crM x1 x2 x3 x4 x5 x6)] ++ []) (fun r F' => ∃ g : MS 8 s, r = pt g.1.1 0 ∧ F' = [(xb, crM x1 x2 x3 x4 x5 x6)] ++ dH g.1.1 (mkA 8 s) g.1.2) := lift0 _ (marked_ct 8 s (by omega) (by omega) (by omega) (by omega))
  obtain ⟨a0, ha0⟩ : ∃ a, a = mkA 8 s := ⟨_, rfl⟩
  first | (have FRx := FR; clear FRx) | have FR := fr0S
  have FA := Sm.mk (TFPtF)
  repeat' first | (apply Sm.mk; refine Ys ?_) | refine WP.seq fun K hK => ?_ | (apply Ob.mk; exact Yo) | refine And.intro (Ob.out ?_) ?_ | ((fail_if_success (show WP _ _ _ (.region 6 _ _) _ _)); refine Y1PtF ?_) | (refine CallV.exM (cM) (pmz _) (fun g => Sm.out ?_)) | refine YzPtF ?_ | (refine WP.cond rfl (fun hc => ?_) (fun hc => ?_) <;> (try simp only [ZC, reduceCtorEq, ZD] at hc) <;> (try exact absurd hc (by decide)) <;> (try (exfalso; omega))) | refine Rt.mk (And.intro (fun hg => Sm.out ?_) fun hg => Sm.out ?_) | (refine Nu.mk ?_; first | (fail_if_success have := nb1); intro nb1 | (fail_if_success have := nb2); intro nb2 | (fail_if_success have := nb3); intro nb3 | (fail_if_success have := nb4); intro nb4 | (fail_if_success have := nb5); intro nb5 | (fail_if_success have := nb6); intro nb6 | (fail_if_success have := nb7); intro nb7 | (fail_if_success have := nb8); intro nb8 | intro nbz) | (apply Yfr; refine Yf FR fun hFRb FR => ?_) | refine Two.mk ?_ ?_ | (apply Yxc; exact Yx) | refine Cs.mk fun hcs => Sm.out ?_ | go_step | omega | (simp only [maxLen_eq]; omega) | exact trivial
  obtain ⟨⟨b, l⟩, hl⟩ := g
  simp only [List.append_nil] at hl ⊢
  rw [← ha0] at hl hM0 ⊢
  clear ha0 cM
  have cL0 : ACt Try.prog 22 [pt b 0, iv .i64 1, iv .i64 3, .slz .u8 (ub A)] ([(xb, crM x1 x2 x3 x4 x5 x6)] ++ dH b a0 l) (fun r F' => ∃ g : LyQ 8 s 12 b, r = .tup [] ∧ F' = [(xb, crM x1 x2 x3 x4 x5 x6)] ++ dH b g.a g.l) := lift0 _ (lay6_ct b a0 l hM0 hl 1 3 (by omega) A (by omega) (by omega))
  first | (have FRx := FR; clear FRx) | have FR := fr0S
  have FA := Sm.mk (TFPtF)
  repeat' first | (apply Sm.mk; refine Ys ?_) | refine WP.seq fun K hK => ?_ | (apply Ob.mk; exact Yo) | refine And.intro (Ob.out ?_) ?_ | ((fail_if_success (show WP _ _ _ (.region 7 _ _) _ _)); refine Y1PtF ?_) | (refine CallV.exM (cL0) (pmz _) (fun g => Sm.out ?_)) | refine YzPtF ?_ | (refine WP.cond rfl (fun hc => ?_) (fun hc => ?_) <;> (try simp only [ZC, reduceCtorEq, ZD] at hc) <;> (try exact absurd hc (by decide)) <;> (try (exfalso; omega))) | refine Rt.mk (And.intro (fun hg => Sm.out ?_) fun hg => Sm.out ?_) | (refine Nu.mk ?_; first | (fail_if_success have := nb1); intro nb1 | (fail_if_success have := nb2); intro nb2 | (fail_if_success have := nb3); intro nb3 | (fail_if_success have := nb4); intro nb4 | (fail_if_success have := nb5); intro nb5 | (fail_if_success have := nb6); intro nb6 | (fail_if_success have := nb7); intro nb7 | (fail_if_success have := nb8); intro nb8 | intro nbz) | (apply Yfr; refine Yf FR fun hFRb FR => ?_) | refine Two.mk ?_ ?_ | (apply Yxc; exact Yx) | refine Cs.mk fun hcs => Sm.out ?_ | go_step | omega | (simp only [maxLen_eq]; omega) | exact trivial
  obtain ⟨a1, l1, hM1, hl1⟩ := g
  try simp only [List.append_nil]
  clear cL0 hM0 hl
  have cL1 : ACt Try.prog 22 [pt b 0, iv .i64 4, iv .i64 3, .slz .u8 (ub B)] ([(xb, crM x1 x2 x3 x4 x5 x6)] ++ dH b a1 l1) (fun r F' => ∃ g : LyQ 8 s 15 b, r = .tup [] ∧ F' = [(xb, crM x1 x2 x3 x4 x5 x6)] ++ dH b g.a g.l) := lift0 _ (lay6_ct b a1 l1 hM1 hl1 4 3 (by omega) B (by omega) (by omega))
  first | (have FRx := FR; clear FRx) | have FR := fr0S
  have FA := Sm.mk (TFPtF)
  repeat' first | (apply Sm.mk; refine Ys ?_) | refine WP.seq fun K hK => ?_ | (apply Ob.mk; exact Yo) | refine And.intro (Ob.out ?_) ?_ | ((fail_if_success (show WP _ _ _ (.region 8 _ _) _ _)); refine Y1PtF ?_) | (refine CallV.exM (cL1) (pmz _) (fun g => Sm.out ?_)) | refine YzPtF ?_ | (refine WP.cond rfl (fun hc => ?_) (fun hc => ?_) <;> (try simp only [ZC, reduceCtorEq, ZD] at hc) <;> (try exact absurd hc (by decide)) <;> (try (exfalso; omega))) | refine Rt.mk (And.intro (fun hg => Sm.out ?_) fun hg => Sm.out ?_) | (refine Nu.mk ?_; first | (fail_if_success have := nb1); intro nb1 | (fail_if_success have := nb2); intro nb2 | (fail_if_success have := nb3); intro nb3 | (fail_if_success have := nb4); intro nb4 | (fail_if_success have := nb5); intro nb5 | (fail_if_success have := nb6); intro nb6 | (fail_if_success have := nb7); intro nb7 | (fail_if_success have := nb8); intro nb8 | intro nbz) | (apply Yfr; refine Yf FR fun hFRb FR => ?_) | refine Two.mk ?_ ?_ | (apply Yxc; exact Yx) | refine Cs.mk fun hcs => Sm.out ?_ | go_step | omega | (simp only [maxLen_eq]; omega) | exact trivial
  obtain ⟨a4, l4, hM4, hl4⟩ := g
  try simp only [List.append_nil]
  clear cL1 hM1 hl1
  have cY := lift0 [(xb, crM x1 x2 x3 x4 x5 x6)] (sync_d hM4.A hl4 (by omega))
  obtain ⟨hM5, W, hS⟩ := hM4.sync
  obtain ⟨a5, ha5⟩ : ∃ a, a = syA a4 := ⟨_, rfl⟩
  rw [← ha5] at cY hM5 hS
  first | (have FRx := FR; clear FRx) | have FR := fr0S
  have FA := Sm.mk (TFPtF)
  repeat' first | (apply Sm.mk; refine Ys ?_) | refine WP.seq fun K hK => ?_ | (apply Ob.mk; exact Yo) | refine And.intro (Ob.out ?_) ?_ | ((fail_if_success (show WP _ _ _ (.region 9 _ _) _ _)); refine Y1PtF ?_) | (refine CallV.exM (cY) (pmz _) (fun g => Sm.out ?_)) | refine YzPtF ?_ | (refine WP.cond rfl (fun hc => ?_) (fun hc => ?_) <;> (try simp only [ZC, reduceCtorEq, ZD] at hc) <;> (try exact absurd hc (by decide)) <;> (try (exfalso; omega))) | refine Rt.mk (And.intro (fun hg => Sm.out ?_) fun hg => Sm.out ?_) | (refine Nu.mk ?_; first | (fail_if_success have := nb1); intro nb1 | (fail_if_success have := nb2); intro nb2 | (fail_if_success have := nb3); intro nb3 | (fail_if_success have := nb4); intro nb4 | (fail_if_success have := nb5); intro nb5 | (fail_if_success have := nb6); intro nb6 | (fail_if_success have := nb7); intro nb7 | (fail_if_success have := nb8); intro nb8 | intro nbz) | (apply Yfr; refine Yf FR fun hFRb FR => ?_) | refine Two.mk ?_ ?_ | (apply Yxc; exact Yx) | refine Cs.mk fun hcs => Sm.out ?_ | go_step | omega | (simp only [maxLen_eq]; omega) | exact trivial
  obtain ⟨l5, hl5⟩ := g
  try simp only [List.append_nil]
  clear cY hM4 hl4 ha5
  have hA5 := hM5.A
  have hW : W.length = 8 * s := by
    have h1 := flat_len (size := a5.size) a5.S hA5.Sr
    rw [hS.T, ub_len, hA5.Sl, hS.n, hS.s] at h1
    exact h1
  have cW := look0 [(xb, crM x1 x2 x3 x4 x5 x6)] (all_ct b a5 l5 hA5 hl5 hS.dk)
  rw [hS.T] at cW
  obtain ⟨X, hX⟩ : ∃ X, X = bstr (ub W) := ⟨_, rfl⟩
  rw [← hX] at cW
  have hXs : X.size = 8 * s := by rw [hX, bstr_size, ub_len, hW]
  have cS0 := refslot_ct ((W.drop (1 * s)).take (3 * s)) 0 (by rw [List.length_take]; omega)
  have cS1 := refslot_ct ((W.drop ((1 + 3) * s)).take (3 * s)) 1 (by rw [List.length_take]; omega)
  have cNw := newer_ct (slF ((W.drop (1 * s)).take (3 * s)) 0) (slF ((W.drop ((1 + 3) * s)).take (3 * s)) 1)
  change ACt Try.prog 24 _ _ (Fn (snV (slP W 1 3 s))) at cNw
  have eX0 : X.extract s (4 * s) = bstr (ub ((W.drop (1 * s)).take (3 * s))) := by rw [hX, ext_ub, Nat.one_mul, show 4 * s - s = 3 * s by omega]
  have eX1 : X.extract (4 * s) (7 * s) = bstr (ub ((W.drop ((1 + 3) * s)).take (3 * s))) := by rw [hX, ext_ub, show 7 * s - 4 * s = 3 * s by omega]
  rw [← eX0] at cS0
  rw [← eX1] at cS1
  have hE0 := slP_nil W 1 3 s
  have hEl := slP_len W 1 3 s
  have hEb := slP_bd W 1 3 s
  have hA6 : AOk 20 (fuA a5 x1) := (fuA_ok hA5 x1 hF).le (by omega)
  have hS6 : Stl s 8 (ub W) (fuA a5 x1) := ⟨hS.s, hS.n, hS.W, hS.LS, hS.dk, hS.T⟩
  have hl6 := hl5.fuse x1
  have cO := lift0 [(xb, crM x1 x2 x3 x4 x5 x6)] (open11_ct (W := W) b a5 l5 hA5 hS hl5 1 3 (by omega) (by omega) (by omega))
  have hPC := fun y => put_crash (W := W) (f := 1) (m := 3) y b (fuA a5 x1) l5 hA6 hS6 hW hl6 (by omega) (by omega) (by omega) C (by omega) (by omega)
  have hRp := rpE_len (slP W 1 3 s) (3 * s) (ub C) (by omega) (by omega)
  have hRn := rpE_nil (slP W 1 3 s) (3 * s) (ub C) hE0
  have cRp := refput_ct (slP W 1 3 s) (3 * s) (ub C) (by omega) hEb (by omega)
  obtain ⟨E, hE⟩ : ∃ E, E = slP W 1 3 s := ⟨_, rfl⟩
  rw [← hE] at cNw hE0 hEl hEb cO cRp hRp hRn
  simp only [← hE] at hPC
  obtain ⟨p, hp⟩ : ∃ p, p = rpE E (3 * s) (ub C) := ⟨_, rfl⟩
  rw [← hp] at cRp hRp hRn
  simp only [← hp] at hPC
  obtain ⟨A0, hA0⟩ : ∃ A0, A0 = slF ((W.drop (1 * s)).take (3 * s)) 0 := ⟨_, rfl⟩
  obtain ⟨B0, hB0⟩ : ∃ A0, A0 = slF ((W.drop ((1 + 3) * s)).take (3 * s)) 1 := ⟨_, rfl⟩
  rw [← hA0] at cS0 cNw
  rw [← hB0] at cS1 cNw
  clear hA0 hB0 eX0 eX1 hp hE
  have w3 : IntKind.i64.wrap (3 * (s : Int)) = ((3 * s : Nat) : Int) := by rw [show (3 * (s : Int)) = ((3 * s : Nat) : Int) by simp]; exact wrap_i64 (by omega) (by omega)
  have w4 : IntKind.i64.wrap (4 * (s : Int)) = ((4 * s : Nat) : Int) := by rw [show (4 * (s : Int)) = ((4 * s : Nat) : Int) by simp]; exact wrap_i64 (by omega) (by omega)
  have w7 : IntKind.i64.wrap (7 * (s : Int)) = ((7 * s : Nat) : Int) := by rw [show (7 * (s : Int)) = ((7 * s : Nat) : Int) by simp]; exact wrap_i64 (by omega) (by omega)
  unfold snV at cS0 cS1 cNw
  first | (have FRx := FR; clear FRx) | have FR := fr0S
  have FA := Sm.mk (And.intro TFPtF (And.intro w4 (And.intro w7 hXs)))
  repeat' first | (apply Sm.mk; refine Ys ?_) | refine WP.seq fun K hK => ?_ | (apply Ob.mk; exact Yo) | refine And.intro (Ob.out ?_) ?_ | ((fail_if_success (show WP _ _ _ (.region 11 _ _) _ _)); refine Y1PtF ?_) | refine CallV.updM (cW) (pmz _) (Sm.out ?_) | ((first | refine ExF.up ?_ (cW) (Sm.out ?_) | refine ExG.up ?_ (fun _ => cW) (Sm.out ?_) | refine ExG.upJ ?_ (fun _ => cW) (Sm.out ?_) | refine ExG.upI ?_ (fun _ => cW) (Ob.out ?_) (Sm.out ?_)); focus (exact ⟨_, (pmz _)⟩)) | (first | refine CallV.fn (cS0) (Sm.out ?_) | refine ExF.mk (cS0) (Sm.out ?_) | refine ExG.mk (fun _ => cS0) (Sm.out ?_) | refine ExG.mkJ (fun _ => cS0) (Sm.out ?_) | refine ExG.mkI (Ob.out ?_) (fun _ => cS0) (Sm.out ?_)) | (first | refine CallV.fn (cS1) (Sm.out ?_) | refine ExF.mk (cS1) (Sm.out ?_) | refine ExG.mk (fun _ => cS1) (Sm.out ?_) | refine ExG.mkJ (fun _ => cS1) (Sm.out ?_) | refine ExG.mkI (Ob.out ?_) (fun _ => cS1) (Sm.out ?_)) | (first | refine CallV.fn (cNw) (Sm.out ?_) | refine ExF.mk (cNw) (Sm.out ?_) | refine ExG.mk (fun _ => cNw) (Sm.out ?_) | refine ExG.mkJ (fun _ => cNw) (Sm.out ?_) | refine ExG.mkI (Ob.out ?_) (fun _ => cNw) (Sm.out ?_)) | refine YzPtF ?_ | (refine WP.cond rfl (fun hc => ?_) (fun hc => ?_) <;> (try simp only [ZC, reduceCtorEq, ZD] at hc) <;> (try exact absurd hc (by decide)) <;> (try (exfalso; omega))) | refine Rt.mk (And.intro (fun hg => Sm.out ?_) fun hg => Sm.out ?_) | (refine Nu.mk ?_; first | (fail_if_success have := nb1); intro nb1 | (fail_if_success have := nb2); intro nb2 | (fail_if_success have := nb3); intro nb3 | (fail_if_success have := nb4); intro nb4 | (fail_if_success have := nb5); intro nb5 | (fail_if_success have := nb6); intro nb6 | (fail_if_success have := nb7); intro nb7 | (fail_if_success have := nb8); intro nb8 | intro nbz) | (apply Yfr; refine Yf FR fun hFRb FR => ?_) | refine Two.mk ?_ ?_ | (apply Yxc; exact Yx) | refine Cs.mk fun hcs => Sm.out ?_ | go_step | omega | (simp only [maxLen_eq]; omega) | exact trivial
  clear cS0 cS1 cNw cW w4 w7
  obtain ⟨sb, hsb⟩ : ∃ x, x = nb2 := ⟨_, rfl⟩
  rw [← hsb]
  clear hsb
  refine WP.sub (s' := ⟨[(13, pt sb 0), (12, .lit (.string X)), (11, pt b 0), (9, pt xb 0), (0, iv .i64 (s : Int)), (3, .slz .u8 (ub C))], (sb, snM E) :: (xb, crM x1 x2 x3 x4 x5 x6) :: dH b a5 l5⟩) (Sub.of_env [] (by exact pmz _) (by simp [look])) ?_
  have z1 : ((0 : Int) != 0) = false := rfl
  have z2 : ((0 : Int) == 0) = true := rfl
  have cO := lift0 [(sb, snM E)] cO
  first | (have FRx := FR; clear FRx) | have FR := fr0S
  have FA := Sm.mk (TFPtF)
  repeat' first | (apply Sm.mk; refine Ys ?_) | refine WP.seq fun K hK => ?_ | (apply Ob.mk; exact Yo) | refine And.intro (Ob.out ?_) ?_ | ((fail_if_success (show WP _ _ _ (.region 12 _ _) _ _)); refine Y1PtF ?_) | (refine CallV.exM (cO) (pmz _) (fun g => Sm.out ?_)) | refine YzPtF ?_ | (refine WP.cond rfl (fun hc => ?_) (fun hc => ?_) <;> (try simp only [ZC, reduceCtorEq, ZD] at hc) <;> (try exact absurd hc (by decide)) <;> (try (exfalso; omega))) | refine Rt.mk (And.intro (fun hg => Sm.out ?_) fun hg => Sm.out ?_) | (refine Nu.mk ?_; first | (fail_if_success have := nb1); intro nb1 | (fail_if_success have := nb2); intro nb2 | (fail_if_success have := nb3); intro nb3 | (fail_if_success have := nb4); intro nb4 | (fail_if_success have := nb5); intro nb5 | (fail_if_success have := nb6); intro nb6 | (fail_if_success have := nb7); intro nb7 | (fail_if_success have := nb8); intro nb8 | intro nbz) | (apply Yfr; refine Yf FR fun hFRb FR => ?_) | refine Two.mk ?_ ?_ | (apply Yxc; exact Yx) | refine Cs.mk fun hcs => Sm.out ?_ | go_step | omega | (simp only [maxLen_eq]; omega) | exact trivial
  obtain ⟨y, rfl⟩ : ∃ y, y = g := ⟨g, rfl⟩
  try simp only [List.append_nil]
  clear cO
  refine WP.sub (s' := ⟨[(15, iv .i64 0), (14, pt y 0), (13, pt sb 0), (12, .lit (.string X)), (11, pt b 0), (9, pt xb 0), (0, iv .i64 (s : Int)), (3, .slz .u8 (ub C))], (sb, snM E) :: (xb, crM x1 x2 x3 x4 x5 x6) :: (y, slO b 1 3 E false) :: dH b a5 l5⟩) (Sub.of_env [] (by exact pmz _) (by simp [look])) ?_
  have cSn := (snap18_ct y b 1 3 E false hE0 (by omega)).lookU (H := (sb, snM E) :: (xb, crM x1 x2 x3 x4 x5 x6) :: (y, slO b 1 3 E false) :: dH b a5 l5) (R := (sb, snM E) :: (xb, crM x1 x2 x3 x4 x5 x6) :: dH b a5 l5) (by exact List.perm_append_comm_assoc [_, _] [_] _)
  have cSm := same17_ct E E (by omega) (by omega)
  rw [sameB_self] at cSm
  have cW := look0 [(sb, snM E), (xb, crM x1 x2 x3 x4 x5 x6), (y, slO b 1 3 E false)] (all_ct b a5 l5 hA5 hl5 hS.dk)
  rw [hS.T, ← hX] at cW
  have kX : (X.toList == X.toList) = true := beq_self_eq_true _
  unfold snV at cSn cSm
  refine WP.drawV (k := 15) mixed (by decide +kernel) (Sm.out ?_)
  first | (have FRx := FR; clear FRx) | have FR := fr0S
  have FA := Sm.mk (And.intro TFPtF (And.intro z1 (And.intro z2 kX)))
  repeat' first | (apply Sm.mk; refine YsPtF0 ?_) | refine WP.seq fun K hK => ?_ | (apply Ob.mk; exact Yo) | refine And.intro (Ob.out ?_) ?_ | ((fail_if_success (show WP _ _ _ (.region 14 _ _) _ _)); refine Y1PtF ?_) | refine CallV.updM (cSn) (pmz _) (Sm.out ?_) | ((first | refine ExF.up ?_ (cSn) (Sm.out ?_) | refine ExG.up ?_ (fun _ => cSn) (Sm.out ?_) | refine ExG.upJ ?_ (fun _ => cSn) (Sm.out ?_) | refine ExG.upI ?_ (fun _ => cSn) (Ob.out ?_) (Sm.out ?_)); focus (exact ⟨_, (pmz _)⟩)) | (first | refine CallV.fn (cSm) (Sm.out ?_) | refine ExF.mk (cSm) (Sm.out ?_) | refine ExG.mk (fun _ => cSm) (Sm.out ?_) | refine ExG.mkJ (fun _ => cSm) (Sm.out ?_) | refine ExG.mkI (Ob.out ?_) (fun _ => cSm) (Sm.out ?_)) | refine CallV.updM (cW) (pmz _) (Sm.out ?_) | ((first | refine ExF.up ?_ (cW) (Sm.out ?_) | refine ExG.up ?_ (fun _ => cW) (Sm.out ?_) | refine ExG.upJ ?_ (fun _ => cW) (Sm.out ?_) | refine ExG.upI ?_ (fun _ => cW) (Ob.out ?_) (Sm.out ?_)); focus (exact ⟨_, (pmz _)⟩)) | refine YzPtF ?_ | (refine WP.cond rfl (fun hc => ?_) (fun hc => ?_) <;> (try simp only [ZC, reduceCtorEq, ZD] at hc) <;> (try exact absurd hc (by decide)) <;> (try (exfalso; omega))) | refine Rt.mk (And.intro (fun hg => Sm.out ?_) fun hg => Sm.out ?_) | (refine Nu.mk ?_; first | (fail_if_success have := nb1); intro nb1 | (fail_if_success have := nb2); intro nb2 | (fail_if_success have := nb3); intro nb3 | (fail_if_success have := nb4); intro nb4 | (fail_if_success have := nb5); intro nb5 | (fail_if_success have := nb6); intro nb6 | (fail_if_success have := nb7); intro nb7 | (fail_if_success have := nb8); intro nb8 | intro nbz) | (apply Yfr; refine Yf FR fun hFRb FR => ?_) | refine Two.mk ?_ ?_ | (apply Yxc; exact Yx) | refine Cs.mk fun hcs => Sm.out ?_ | go_step | omega | (simp only [maxLen_eq]; omega) | exact trivial
  clear cSn cSm cW kX
  unfold snV at cRp
  first | (have FRx := FR; clear FRx) | have FR := fr0S
  have FA := Sm.mk (And.intro TFPtF w3)
  repeat' first | (apply Sm.mk; refine Ys ?_) | refine WP.seq fun K hK => ?_ | (apply Ob.mk; exact Yo) | refine And.intro (Ob.out ?_) ?_ | ((fail_if_success (show WP _ _ _ (.region 15 _ _) _ _)); refine Y1PtF ?_) | refine Yc (c := cRp) (r := ?_) | refine YzPtF ?_ | (refine WP.cond rfl (fun hc => ?_) (fun hc => ?_) <;> (try simp only [ZC, reduceCtorEq, ZD] at hc) <;> (try exact absurd hc (by decide)) <;> (try (exfalso; omega))) | refine Rt.mk (And.intro (fun hg => Sm.out ?_) fun hg => Sm.out ?_) | (refine Nu.mk ?_; first | (fail_if_success have := nb1); intro nb1 | (fail_if_success have := nb2); intro nb2 | (fail_if_success have := nb3); intro nb3 | (fail_if_success have := nb4); intro nb4 | (fail_if_success have := nb5); intro nb5 | (fail_if_success have := nb6); intro nb6 | (fail_if_success have := nb7); intro nb7 | (fail_if_success have := nb8); intro nb8 | intro nbz) | (apply Yfr; refine Yf FR fun hFRb FR => ?_) | refine Two.mk ?_ ?_ | (apply Yxc; exact Yx) | refine Cs.mk fun hcs => Sm.out ?_ | go_step | omega | (simp only [maxLen_eq]; omega) | exact trivial
  clear cRp w3
  obtain ⟨tb, htb⟩ : ∃ x, x = nb3 := ⟨_, rfl⟩
  rw [← htb]
  clear htb
  refine WP.sub (s' := ⟨[(17, iv .i64 p.2), (16, pt tb 0), (14, pt y 0), (13, pt sb 0), (11, pt b 0), (9, pt xb 0), (3, .slz .u8 (ub C))], (tb, snM p.1) :: (sb, snM E) :: (xb, crM x1 x2 x3 x4 x5 x6) :: (y, slO b 1 3 E false) :: dH b a5 l5⟩) (Sub.of_env [] (by exact pmz _) (by simp [look])) ?_
  refine WP.nd fun hnd => ?_
  simp only [ndF, fresh_cons, and_true, ne_eq] at hnd
  have cFy := upd0 [(tb, snM p.1), (sb, snM E), (xb, crM x1 x2 x3 x4 x5 x6), (y, slO b 1 3 E false)] (fuse_d b a5 l5 x1)
  obtain ⟨a6, ha6⟩ : ∃ a, a = fuA a5 x1 := ⟨_, rfl⟩
  rw [← ha6] at cFy
  simp only [← ha6] at hPC
  obtain ⟨Y, E1, ov, cP, hA7, hYc, hYk⟩ := hPC y
  clear hPC ha6 hl5 hA5 hM5 hA6 hl6 hX hXs
  have cP := lift0 [(tb, snM p.1), (sb, snM E), (xb, crM x1 x2 x3 x4 x5 x6)] cP
  first | (have FRx := FR; clear FRx) | have FR := fr0S
  have FA := Sm.mk (And.intro TFPtF hnd)
  repeat' first | (apply Sm.mk; refine Ys ?_) | refine WP.seq fun K hK => ?_ | (apply Ob.mk; exact Yo) | refine And.intro (Ob.out ?_) ?_ | ((fail_if_success (show WP _ _ _ (.region 16 _ _) _ _)); refine Y1PtF ?_) | refine CallV.updM (cFy) (pmz _) (Sm.out ?_) | refine YzPtF ?_ | (refine WP.cond rfl (fun hc => ?_) (fun hc => ?_) <;> (try simp only [ZC, reduceCtorEq, ZD] at hc) <;> (try exact absurd hc (by decide)) <;> (try (exfalso; omega))) | refine Rt.mk (And.intro (fun hg => Sm.out ?_) fun hg => Sm.out ?_) | (refine Nu.mk ?_; first | (fail_if_success have := nb1); intro nb1 | (fail_if_success have := nb2); intro nb2 | (fail_if_success have := nb3); intro nb3 | (fail_if_success have := nb4); intro nb4 | (fail_if_success have := nb5); intro nb5 | (fail_if_success have := nb6); intro nb6 | (fail_if_success have := nb7); intro nb7 | (fail_if_success have := nb8); intro nb8 | intro nbz) | (apply Yfr; refine Yf FR fun hFRb FR => ?_) | refine Two.mk ?_ ?_ | (apply Yxc; exact Yx) | refine Cs.mk fun hcs => Sm.out ?_ | go_step | omega | (simp only [maxLen_eq]; omega) | exact trivial
  first | (have FRx := FR; clear FRx) | have FR := fr0S
  have FA := Sm.mk (And.intro TFPtF hnd)
  repeat' first | (apply Sm.mk; refine Ys ?_) | refine WP.seq fun K hK => ?_ | (apply Ob.mk; exact Yo) | refine And.intro (Ob.out ?_) ?_ | ((fail_if_success (show WP _ _ _ (.region 17 _ _) _ _)); refine Y1PtF ?_) | (refine CallV.exM (cP) (pmz _) (fun g => Sm.out ?_)) | refine YzPtF ?_ | (refine WP.cond rfl (fun hc => ?_) (fun hc => ?_) <;> (try simp only [ZC, reduceCtorEq, ZD] at hc) <;> (try exact absurd hc (by decide)) <;> (try (exfalso; omega))) | refine Rt.mk (And.intro (fun hg => Sm.out ?_) fun hg => Sm.out ?_) | (refine Nu.mk ?_; first | (fail_if_success have := nb1); intro nb1 | (fail_if_success have := nb2); intro nb2 | (fail_if_success have := nb3); intro nb3 | (fail_if_success have := nb4); intro nb4 | (fail_if_success have := nb5); intro nb5 | (fail_if_success have := nb6); intro nb6 | (fail_if_success have := nb7); intro nb7 | (fail_if_success have := nb8); intro nb8 | intro nbz) | (apply Yfr; refine Yf FR fun hFRb FR => ?_) | refine Two.mk ?_ ?_ | (apply Yxc; exact Yx) | refine Cs.mk fun hcs => Sm.out ?_ | go_step | omega | (simp only [maxLen_eq]; omega) | exact trivial
  rename_i K3 hK3
  try simp only [List.append_nil]
  refine WP.sub (s' := ⟨[(18, iv .i64 Y.2), (17, iv .i64 p.2), (16, pt tb 0), (14, pt y 0), (13, pt sb 0), (11, pt b 0), (9, pt xb 0)], (tb, snM p.1) :: (sb, snM E) :: (xb, crM x1 x2 x3 x4 x5 x6) :: (y, slO b 1 3 E1 ov) :: dH b Y.1 g.1⟩) (Sub.of_env [] (by exact pmz _) (by simp [look])) ?_
  obtain ⟨l6, hl6⟩ := g
  simp only
  have hnt : ¬ sb = tb ∧ ¬ tb = sb := hnd.1.1
  have hnx : (¬ xb = tb ∧ ¬ tb = xb) ∧ (¬ xb = sb ∧ ¬ sb = xb) := ⟨hnd.1.2.1, hnd.2.1.1⟩
  have hny : (¬ y = tb ∧ ¬ tb = y) ∧ (¬ y = sb ∧ ¬ sb = y) := ⟨hnd.1.2.2.1, hnd.2.1.2.1⟩
  clear hnd cP cFy
  have cont : Sm (∀ (q : LS b Y.1) s', Sub s' ⟨[(18, iv .i64 Y.2), (16, pt tb 0), (13, pt sb 0), (11, pt b 0), (9, pt xb 0)], (tb, snM p.1) :: (sb, snM E) :: (xb, crM x1 x2 x3 x4 x5 x6) :: dH b Y.1 q.1⟩ → K3 s') := Sm.mk fun q s' hsub => by
    refine hK3 s' (WP.sub hsub ?_)
    clear hK hK3 hsub
    obtain ⟨l7, hl7⟩ := q
    simp only
    have cC := lift0 [(tb, snM p.1), (sb, snM E), (xb, crM x1 x2 x3 x4 x5 x6)] (crash_d hA7 hl7 (by omega) x2 x3)
    have hA8 := crA_ok hA7 x2 x3
    obtain ⟨W', g1, g2, g3, g4⟩ := hYk x2 x3
    obtain ⟨a8, ha8⟩ : ∃ a, a = crA Y.1 x2 x3 := ⟨_, rfl⟩
    rw [← ha8] at cC hA8 g1
    clear ha8
    first | (have FRx := FR; clear FRx) | have FR := fr0S
    have FA := Sm.mk (And.intro TFPtF (And.intro hnt hnx))
    repeat' first | (apply Sm.mk; refine Ys ?_) | refine WP.seq fun K hK => ?_ | (apply Ob.mk; exact Yo) | refine And.intro (Ob.out ?_) ?_ | ((fail_if_success (show WP _ _ _ (.region 20 _ _) _ _)); refine Y1PtF ?_) | (refine CallV.exM (cC) (pmz _) (fun g => Sm.out ?_)) | refine YzPtF ?_ | (refine WP.cond rfl (fun hc => ?_) (fun hc => ?_) <;> (try simp only [ZC, reduceCtorEq, ZD] at hc) <;> (try exact absurd hc (by decide)) <;> (try (exfalso; omega))) | refine Rt.mk (And.intro (fun hg => Sm.out ?_) fun hg => Sm.out ?_) | (refine Nu.mk ?_; first | (fail_if_success have := nb1); intro nb1 | (fail_if_success have := nb2); intro nb2 | (fail_if_success have := nb3); intro nb3 | (fail_if_success have := nb4); intro nb4 | (fail_if_success have := nb5); intro nb5 | (fail_if_success have := nb6); intro nb6 | (fail_if_success have := nb7); intro nb7 | (fail_if_success have := nb8); intro nb8 | intro nbz) | (apply Yfr; refine Yf FR fun hFRb FR => ?_) | refine Two.mk ?_ ?_ | (apply Yxc; exact Yx) | refine Cs.mk fun hcs => Sm.out ?_ | go_step | omega | (simp only [maxLen_eq]; omega) | exact trivial
    obtain ⟨l8, hl8⟩ := g
    try simp only [List.append_nil]
    have cO8 := lift0 [(tb, snM p.1), (sb, snM E), (xb, crM x1 x2 x3 x4 x5 x6)] (open11_ct (W := W') b a8 l8 hA8 g1 hl8 1 3 (by omega) (by omega) (by omega))
    have hn2 := slP_nil W' 1 3 s
    have hl2 := slP_len W' 1 3 s
    obtain ⟨E2, hE2⟩ : ∃ E, E = slP W' 1 3 s := ⟨_, rfl⟩
    rw [← hE2] at cO8 hn2 hl2 g3 g4
    clear hE2 cC
    first | (have FRx := FR; clear FRx) | have FR := fr0S
    have FA := Sm.mk (And.intro TFPtF (And.intro hnt hnx))
    repeat' first | (apply Sm.mk; refine Ys ?_) | refine WP.seq fun K hK => ?_ | (apply Ob.mk; exact Yo) | refine And.intro (Ob.out ?_) ?_ | ((fail_if_success (show WP _ _ _ (.region 21 _ _) _ _)); refine Y1PtF ?_) | (refine CallV.exM (cO8) (pmz _) (fun g => Sm.out ?_)) | refine YzPtF ?_ | (refine WP.cond rfl (fun hc => ?_) (fun hc => ?_) <;> (try simp only [ZC, reduceCtorEq, ZD] at hc) <;> (try exact absurd hc (by decide)) <;> (try (exfalso; omega))) | refine Rt.mk (And.intro (fun hg => Sm.out ?_) fun hg => Sm.out ?_) | (refine Nu.mk ?_; first | (fail_if_success have := nb1); intro nb1 | (fail_if_success have := nb2); intro nb2 | (fail_if_success have := nb3); intro nb3 | (fail_if_success have := nb4); intro nb4 | (fail_if_success have := nb5); intro nb5 | (fail_if_success have := nb6); intro nb6 | (fail_if_success have := nb7); intro nb7 | (fail_if_success have := nb8); intro nb8 | intro nbz) | (apply Yfr; refine Yf FR fun hFRb FR => ?_) | refine Two.mk ?_ ?_ | (apply Yxc; exact Yx) | refine Cs.mk fun hcs => Sm.out ?_ | go_step | omega | (simp only [maxLen_eq]; omega) | exact trivial
    rename_i K4 hK4
    obtain ⟨y8, rfl⟩ : ∃ y8, y8 = g := ⟨g, rfl⟩
    try simp only [List.append_nil]
    clear cO8
    refine WP.sub (s' := ⟨[(20, iv .i64 0), (19, pt y8 0), (18, iv .i64 Y.2), (16, pt tb 0), (13, pt sb 0)], (tb, snM p.1) :: (sb, snM E) :: (xb, crM x1 x2 x3 x4 x5 x6) :: (y8, slO b 1 3 E2 false) :: dH b a8 l8⟩) (Sub.of_env [] (by exact pmz _) (by simp [look])) ?_
    have cSn := (snap18_ct y8 b 1 3 E2 false hn2 (by omega)).lookU (H := (tb, snM p.1) :: (sb, snM E) :: (xb, crM x1 x2 x3 x4 x5 x6) :: (y8, slO b 1 3 E2 false) :: dH b a8 l8) (R := (tb, snM p.1) :: (sb, snM E) :: (xb, crM x1 x2 x3 x4 x5 x6) :: dH b a8 l8) (by exact List.perm_append_comm_assoc [_, _, _] [_] _)
    unfold snV at cSn
    have cont4 : Sm (∀ s', Sub s' ⟨[(19, pt y8 0), (16, pt tb 0), (13, pt sb 0)], (tb, snM p.1) :: (sb, snM E) :: (xb, crM x1 x2 x3 x4 x5 x6) :: (y8, slO b 1 3 E2 false) :: dH b a8 l8⟩ → K4 s') := Sm.mk fun s' hsub => by
      refine hK4 s' (WP.sub hsub ?_)
      clear hK hK4 hsub
      have cS1 := same17_ct E2 E (by omega) (by omega)
      unfold snV at cS1
      by_cases hq : sameB E2 E = true
      · rw [hq] at cS1
        first | (have FRx := FR; clear FRx) | have FR := fr0S
        have FA := Sm.mk (TFPtF)
        repeat' first | (apply Sm.mk; refine Ys ?_) | refine WP.seq fun K hK => ?_ | (apply Ob.mk; exact Yo) | refine And.intro (Ob.out ?_) ?_ | ((fail_if_success (show WP _ _ _ (.region 23 _ _) _ _)); refine Y1PtF ?_) | refine YzPtF ?_ | (refine WP.cond rfl (fun hc => ?_) (fun hc => ?_) <;> (try simp only [ZC, reduceCtorEq, ZD] at hc) <;> (try exact absurd hc (by decide)) <;> (try (exfalso; omega))) | refine Rt.mk (And.intro (fun hg => Sm.out ?_) fun hg => Sm.out ?_) | (refine Nu.mk ?_; first | (fail_if_success have := nb1); intro nb1 | (fail_if_success have := nb2); intro nb2 | (fail_if_success have := nb3); intro nb3 | (fail_if_success have := nb4); intro nb4 | (fail_if_success have := nb5); intro nb5 | (fail_if_success have := nb6); intro nb6 | (fail_if_success have := nb7); intro nb7 | (fail_if_success have := nb8); intro nb8 | intro nbz) | (apply Yfr; refine Yf FR fun hFRb FR => ?_) | refine Two.mk ?_ ?_ | (apply Yxc; exact Yx) | refine Cs.mk fun hcs => Sm.out ?_ | go_step | omega | (simp only [maxLen_eq]; omega) | exact trivial
        refine WP.drawV (k := 11) mixed (by decide +kernel) (Sm.out ?_)
        first | (have FRx := FR; clear FRx) | have FR := fr0S
        have FA := Sm.mk (And.intro TFPtF (And.intro hnt hnx))
        repeat' first | (apply Sm.mk; refine YsPtF0 ?_) | refine WP.seq fun K hK => ?_ | (apply Ob.mk; exact Yo) | refine And.intro (Ob.out ?_) ?_ | refine Y1PtF ?_ | refine CallV.updM (cSn) (pmz _) (Sm.out ?_) | ((first | refine ExF.up ?_ (cSn) (Sm.out ?_) | refine ExG.up ?_ (fun _ => cSn) (Sm.out ?_) | refine ExG.upJ ?_ (fun _ => cSn) (Sm.out ?_) | refine ExG.upI ?_ (fun _ => cSn) (Ob.out ?_) (Sm.out ?_)); focus (exact ⟨_, (pmz _)⟩)) | (first | refine CallV.fn (cS1) (Sm.out ?_) | refine ExF.mk (cS1) (Sm.out ?_) | refine ExG.mk (fun _ => cS1) (Sm.out ?_) | refine ExG.mkJ (fun _ => cS1) (Sm.out ?_) | refine ExG.mkI (Ob.out ?_) (fun _ => cS1) (Sm.out ?_)) | refine YzPtF ?_ | (refine WP.cond rfl (fun hc => ?_) (fun hc => ?_) <;> (try simp only [ZC, reduceCtorEq, ZD] at hc) <;> (try exact absurd hc (by decide)) <;> (try (exfalso; omega))) | refine Rt.mk (And.intro (fun hg => Sm.out ?_) fun hg => Sm.out ?_) | (refine Nu.mk ?_; first | (fail_if_success have := nb1); intro nb1 | (fail_if_success have := nb2); intro nb2 | (fail_if_success have := nb3); intro nb3 | (fail_if_success have := nb4); intro nb4 | (fail_if_success have := nb5); intro nb5 | (fail_if_success have := nb6); intro nb6 | (fail_if_success have := nb7); intro nb7 | (fail_if_success have := nb8); intro nb8 | intro nbz) | (apply Yfr; refine Yf FR fun hFRb FR => ?_) | refine Two.mk ?_ ?_ | (apply Yxc; exact Yx) | refine Cs.mk fun hcs => Sm.out ?_ | go_step | omega | (simp only [maxLen_eq]; omega) | exact trivial
        (refine Yg ?_; try exact trivial)
      · have hq2 : sameB E2 E = false := by simpa using hq
        have e2 : E2 = p.1 := by
          rcases g3 with g | g
          · rw [g, sameB_self] at hq; exact absurd rfl hq
          · exact g
        have cS2 := same17_ct E2 p.1 (by omega) (by omega)
        have hss : sameB E2 p.1 = true := by rw [e2]; exact sameB_self _
        unfold snV at cS2
        rw [hq2] at cS1
        rw [hss] at cS2
        first | (have FRx := FR; clear FRx) | have FR := fr0S
        have FA := Sm.mk (TFPtF)
        repeat' first | (apply Sm.mk; refine Ys ?_) | refine WP.seq fun K hK => ?_ | (apply Ob.mk; exact Yo) | refine And.intro (Ob.out ?_) ?_ | ((fail_if_success (show WP _ _ _ (.region 23 _ _) _ _)); refine Y1PtF ?_) | refine YzPtF ?_ | (refine WP.cond rfl (fun hc => ?_) (fun hc => ?_) <;> (try simp only [ZC, reduceCtorEq, ZD] at hc) <;> (try exact absurd hc (by decide)) <;> (try (exfalso; omega))) | refine Rt.mk (And.intro (fun hg => Sm.out ?_) fun hg => Sm.out ?_) | (refine Nu.mk ?_; first | (fail_if_success have := nb1); intro nb1 | (fail_if_success have := nb2); intro nb2 | (fail_if_success have := nb3); intro nb3 | (fail_if_success have := nb4); intro nb4 | (fail_if_success have := nb5); intro nb5 | (fail_if_success have := nb6); intro nb6 | (fail_if_success have := nb7); intro nb7 | (fail_if_success have := nb8); intro nb8 | intro nbz) | (apply Yfr; refine Yf FR fun hFRb FR => ?_) | refine Two.mk ?_ ?_ | (apply Yxc; exact Yx) | refine Cs.mk fun hcs => Sm.out ?_ | go_step | omega | (simp only [maxLen_eq]; omega) | exact trivial
        refine WP.drawV (k := 11) mixed (by decide +kernel) (Sm.out ?_)
        first | (have FRx := FR; clear FRx) | have FR := fr0S
        have FA := Sm.mk (And.intro TFPtF (And.intro hnt hnx))
        repeat' first | (apply Sm.mk; refine YsPtF0 ?_) | refine WP.seq fun K hK => ?_ | (apply Ob.mk; exact Yo) | refine And.intro (Ob.out ?_) ?_ | refine Y1PtF ?_ | refine CallV.updM (cSn) (pmz _) (Sm.out ?_) | ((first | refine ExF.up ?_ (cSn) (Sm.out ?_) | refine ExG.up ?_ (fun _ => cSn) (Sm.out ?_) | refine ExG.upJ ?_ (fun _ => cSn) (Sm.out ?_) | refine ExG.upI ?_ (fun _ => cSn) (Ob.out ?_) (Sm.out ?_)); focus (exact ⟨_, (pmz _)⟩)) | (first | refine CallV.fn (cS1) (Sm.out ?_) | refine ExF.mk (cS1) (Sm.out ?_) | refine ExG.mk (fun _ => cS1) (Sm.out ?_) | refine ExG.mkJ (fun _ => cS1) (Sm.out ?_) | refine ExG.mkI (Ob.out ?_) (fun _ => cS1) (Sm.out ?_)) | (first | refine CallV.fn (cS2) (Sm.out ?_) | refine ExF.mk (cS2) (Sm.out ?_) | refine ExG.mk (fun _ => cS2) (Sm.out ?_) | refine ExG.mkJ (fun _ => cS2) (Sm.out ?_) | refine ExG.mkI (Ob.out ?_) (fun _ => cS2) (Sm.out ?_)) | refine YzPtF ?_ | (refine WP.cond rfl (fun hc => ?_) (fun hc => ?_) <;> (try simp only [ZC, reduceCtorEq, ZD] at hc) <;> (try exact absurd hc (by decide)) <;> (try (exfalso; omega))) | refine Rt.mk (And.intro (fun hg => Sm.out ?_) fun hg => Sm.out ?_) | (refine Nu.mk ?_; first | (fail_if_success have := nb1); intro nb1 | (fail_if_success have := nb2); intro nb2 | (fail_if_success have := nb3); intro nb3 | (fail_if_success have := nb4); intro nb4 | (fail_if_success have := nb5); intro nb5 | (fail_if_success have := nb6); intro nb6 | (fail_if_success have := nb7); intro nb7 | (fail_if_success have := nb8); intro nb8 | intro nbz) | (apply Yfr; refine Yf FR fun hFRb FR => ?_) | refine Two.mk ?_ ?_ | (apply Yxc; exact Yx) | refine Cs.mk fun hcs => Sm.out ?_ | go_step | omega | (simp only [maxLen_eq]; omega) | exact trivial
        (refine Yg ?_; try exact trivial)
    clear hK4
    by_cases hY0 : Y.2 = 0
    · have k0 : (Y.2 == 0) = true := by rw [hY0]; rfl
      have cS2 := same17_ct E2 p.1 (by omega) (by omega)
      have hss : sameB E2 p.1 = true := by rw [g4 hY0]; exact sameB_self _
      unfold snV at cS2
      rw [hss] at cS2
      refine WP.drawV (k := 13) mixed (by decide +kernel) (Sm.out ?_)
      first | (have FRx := FR; clear FRx) | have FR := fr0S
      have FA := Sm.mk (And.intro TFPtF (And.intro hnt (And.intro hnx (And.intro z1 (And.intro z2 k0)))))
      repeat' first | (apply Sm.mk; refine YsPtF0 ?_) | refine WP.seq fun K hK => ?_ | (apply Ob.mk; exact Yo) | refine And.intro (Ob.out ?_) ?_ | refine Y1PtF ?_ | refine CallV.updM (cSn) (pmz _) (Sm.out ?_) | ((first | refine ExF.up ?_ (cSn) (Sm.out ?_) | refine ExG.up ?_ (fun _ => cSn) (Sm.out ?_) | refine ExG.upJ ?_ (fun _ => cSn) (Sm.out ?_) | refine ExG.upI ?_ (fun _ => cSn) (Ob.out ?_) (Sm.out ?_)); focus (exact ⟨_, (pmz _)⟩)) | (first | refine CallV.fn (cS2) (Sm.out ?_) | refine ExF.mk (cS2) (Sm.out ?_) | refine ExG.mk (fun _ => cS2) (Sm.out ?_) | refine ExG.mkJ (fun _ => cS2) (Sm.out ?_) | refine ExG.mkI (Ob.out ?_) (fun _ => cS2) (Sm.out ?_)) | refine YzPtF ?_ | (refine WP.cond rfl (fun hc => ?_) (fun hc => ?_) <;> (try simp only [ZC, reduceCtorEq, ZD] at hc) <;> (try exact absurd hc (by decide)) <;> (try (exfalso; omega))) | refine Rt.mk (And.intro (fun hg => Sm.out ?_) fun hg => Sm.out ?_) | (refine Nu.mk ?_; first | (fail_if_success have := nb1); intro nb1 | (fail_if_success have := nb2); intro nb2 | (fail_if_success have := nb3); intro nb3 | (fail_if_success have := nb4); intro nb4 | (fail_if_success have := nb5); intro nb5 | (fail_if_success have := nb6); intro nb6 | (fail_if_success have := nb7); intro nb7 | (fail_if_success have := nb8); intro nb8 | intro nbz) | (apply Yfr; refine Yf FR fun hFRb FR => ?_) | refine Two.mk ?_ ?_ | (apply Yxc; exact Yx) | refine Cs.mk fun hcs => Sm.out ?_ | go_step | omega | (simp only [maxLen_eq]; omega) | exact trivial
      exact cont4.out _ (Sub.of_env [] (by exact pmz _) (by simp [look]))
    · have k0 : (Y.2 == 0) = false := beq_eq_false_iff_ne.2 hY0
      refine WP.drawV (k := 13) mixed (by decide +kernel) (Sm.out ?_)
      first | (have FRx := FR; clear FRx) | have FR := fr0S
      have FA := Sm.mk (And.intro TFPtF (And.intro hnt (And.intro hnx (And.intro z1 (And.intro z2 k0)))))
      repeat' first | (apply Sm.mk; refine YsPtF0 ?_) | refine WP.seq fun K hK => ?_ | (apply Ob.mk; exact Yo) | refine And.intro (Ob.out ?_) ?_ | refine Y1PtF ?_ | refine YzPtF ?_ | (refine WP.cond rfl (fun hc => ?_) (fun hc => ?_) <;> (try simp only [ZC, reduceCtorEq, ZD] at hc) <;> (try exact absurd hc (by decide)) <;> (try (exfalso; omega))) | refine Rt.mk (And.intro (fun hg => Sm.out ?_) fun hg => Sm.out ?_) | (refine Nu.mk ?_; first | (fail_if_success have := nb1); intro nb1 | (fail_if_success have := nb2); intro nb2 | (fail_if_success have := nb3); intro nb3 | (fail_if_success have := nb4); intro nb4 | (fail_if_success have := nb5); intro nb5 | (fail_if_success have := nb6); intro nb6 | (fail_if_success have := nb7); intro nb7 | (fail_if_success have := nb8); intro nb8 | intro nbz) | (apply Yfr; refine Yf FR fun hFRb FR => ?_) | refine Two.mk ?_ ?_ | (apply Yxc; exact Yx) | refine Cs.mk fun hcs => Sm.out ?_ | go_step | omega | (simp only [maxLen_eq]; omega) | exact trivial
      exact cont4.out _ (Sub.of_env [] (by exact pmz _) (by simp [look]))
  clear hK3 hYk
  have hf : ∀ e : Nat × List Int, (nu e.1 = nu e.1) := fun _ => rfl
  rcases hYc with ⟨k1, k2, k3⟩ | ⟨k1, k2, k3⟩ | ⟨k1, k2, k3⟩
  · rw [k1, k3, k2]
    have cSn := (snap18_ct y b 1 3 p.1 ov hRn (by omega)).lookU (H := (tb, snM p.1) :: (sb, snM E) :: (xb, crM x1 x2 x3 x4 x5 x6) :: (y, slO b 1 3 p.1 ov) :: dH b Y.1 l6) (R := (tb, snM p.1) :: (sb, snM E) :: (xb, crM x1 x2 x3 x4 x5 x6) :: dH b Y.1 l6) (by exact List.perm_append_comm_assoc [_, _, _] [_] _)
    have cS1 := same17_ct p.1 p.1 hRp hRp
    rw [sameB_self] at cS1
    unfold snV at cSn cS1
    rw [k1] at cont
    refine WP.drawV (k := 29) mixed (by decide +kernel) (Sm.out ?_)
    first | (have FRx := FR; clear FRx) | have FR := fr0S
    have FA := Sm.mk (And.intro TFPtF (And.intro hnt (And.intro hnx (And.intro hny (And.intro z1 z2)))))
    repeat' first | (apply Sm.mk; refine YsPtF0 ?_) | refine WP.seq fun K hK => ?_ | (apply Ob.mk; exact Yo) | refine And.intro (Ob.out ?_) ?_ | refine Y1PtF ?_ | refine CallV.updM (cSn) (pmz _) (Sm.out ?_) | ((first | refine ExF.up ?_ (cSn) (Sm.out ?_) | refine ExG.up ?_ (fun _ => cSn) (Sm.out ?_) | refine ExG.upJ ?_ (fun _ => cSn) (Sm.out ?_) | refine ExG.upI ?_ (fun _ => cSn) (Ob.out ?_) (Sm.out ?_)); focus (exact ⟨_, (pmz _)⟩)) | (first | refine CallV.fn (cS1) (Sm.out ?_) | refine ExF.mk (cS1) (Sm.out ?_) | refine ExG.mk (fun _ => cS1) (Sm.out ?_) | refine ExG.mkJ (fun _ => cS1) (Sm.out ?_) | refine ExG.mkI (Ob.out ?_) (fun _ => cS1) (Sm.out ?_)) | refine YzPtF ?_ | (refine WP.cond rfl (fun hc => ?_) (fun hc => ?_) <;> (try simp only [ZC, reduceCtorEq, ZD] at hc) <;> (try exact absurd hc (by decide)) <;> (try (exfalso; omega))) | refine Rt.mk (And.intro (fun hg => Sm.out ?_) fun hg => Sm.out ?_) | (refine Nu.mk ?_; first | (fail_if_success have := nb1); intro nb1 | (fail_if_success have := nb2); intro nb2 | (fail_if_success have := nb3); intro nb3 | (fail_if_success have := nb4); intro nb4 | (fail_if_success have := nb5); intro nb5 | (fail_if_success have := nb6); intro nb6 | (fail_if_success have := nb7); intro nb7 | (fail_if_success have := nb8); intro nb8 | intro nbz) | (apply Yfr; refine Yf FR fun hFRb FR => ?_) | refine Two.mk ?_ ?_ | (apply Yxc; exact Yx) | refine Cs.mk fun hcs => Sm.out ?_ | go_step | omega | (simp only [maxLen_eq]; omega) | exact trivial
    exact cont.out ⟨l6, hl6⟩ _ (Sub.of_env [_] (by exact List.Perm.cons _ (List.Perm.cons _ (List.Perm.cons _ (List.perm_append_comm (l₁ := [_]))))) (by simp [look]))
  · rw [← k1, k3]
    have cSn := (snap18_ct y b 1 3 E ov hE0 (by omega)).lookU (H := (tb, snM p.1) :: (sb, snM E) :: (xb, crM x1 x2 x3 x4 x5 x6) :: (y, slO b 1 3 E ov) :: dH b Y.1 l6) (R := (tb, snM p.1) :: (sb, snM E) :: (xb, crM x1 x2 x3 x4 x5 x6) :: dH b Y.1 l6) (by exact List.perm_append_comm_assoc [_, _, _] [_] _)
    have cS1 := same17_ct E E (by omega) (by omega)
    rw [sameB_self] at cS1
    unfold snV at cSn cS1
    have y1 : (Y.2 != Y.2) = false := by simp
    have y2 : (Y.2 != 0) = true := by rcases k2 with h | h <;> rw [h] <;> rfl
    have y3 : (Y.2 == 0) = false := by rcases k2 with h | h <;> rw [h] <;> rfl
    refine WP.drawV (k := 29) mixed (by decide +kernel) (Sm.out ?_)
    first | (have FRx := FR; clear FRx) | have FR := fr0S
    have FA := Sm.mk (And.intro TFPtF (And.intro hnt (And.intro hnx (And.intro hny (And.intro y1 (And.intro y2 y3))))))
    repeat' first | (apply Sm.mk; refine YsPtF0 ?_) | refine WP.seq fun K hK => ?_ | (apply Ob.mk; exact Yo) | refine And.intro (Ob.out ?_) ?_ | refine Y1PtF ?_ | refine CallV.updM (cSn) (pmz _) (Sm.out ?_) | ((first | refine ExF.up ?_ (cSn) (Sm.out ?_) | refine ExG.up ?_ (fun _ => cSn) (Sm.out ?_) | refine ExG.upJ ?_ (fun _ => cSn) (Sm.out ?_) | refine ExG.upI ?_ (fun _ => cSn) (Ob.out ?_) (Sm.out ?_)); focus (exact ⟨_, (pmz _)⟩)) | (first | refine CallV.fn (cS1) (Sm.out ?_) | refine ExF.mk (cS1) (Sm.out ?_) | refine ExG.mk (fun _ => cS1) (Sm.out ?_) | refine ExG.mkJ (fun _ => cS1) (Sm.out ?_) | refine ExG.mkI (Ob.out ?_) (fun _ => cS1) (Sm.out ?_)) | refine YzPtF ?_ | (refine WP.cond rfl (fun hc => ?_) (fun hc => ?_) <;> (try simp only [ZC, reduceCtorEq, ZD] at hc) <;> (try exact absurd hc (by decide)) <;> (try (exfalso; omega))) | refine Rt.mk (And.intro (fun hg => Sm.out ?_) fun hg => Sm.out ?_) | (refine Nu.mk ?_; first | (fail_if_success have := nb1); intro nb1 | (fail_if_success have := nb2); intro nb2 | (fail_if_success have := nb3); intro nb3 | (fail_if_success have := nb4); intro nb4 | (fail_if_success have := nb5); intro nb5 | (fail_if_success have := nb6); intro nb6 | (fail_if_success have := nb7); intro nb7 | (fail_if_success have := nb8); intro nb8 | intro nbz) | (apply Yfr; refine Yf FR fun hFRb FR => ?_) | refine Two.mk ?_ ?_ | (apply Yxc; exact Yx) | refine Cs.mk fun hcs => Sm.out ?_ | go_step | omega | (simp only [maxLen_eq]; omega) | exact trivial
    exact cont.out ⟨l6, hl6⟩ _ (Sub.of_env [_] (by exact List.Perm.cons _ (List.Perm.cons _ (List.Perm.cons _ (List.perm_append_comm (l₁ := [_]))))) (by simp [look]))
  · rw [k1, k3, k2]
    have cSn := (snap18_ct y b 1 3 E ov hE0 (by omega)).lookU (H := (tb, snM p.1) :: (sb, snM E) :: (xb, crM x1 x2 x3 x4 x5 x6) :: (y, slO b 1 3 E ov) :: dH b Y.1 l6) (R := (tb, snM p.1) :: (sb, snM E) :: (xb, crM x1 x2 x3 x4 x5 x6) :: dH b Y.1 l6) (by exact List.perm_append_comm_assoc [_, _, _] [_] _)
    have cS1 := same17_ct E E (by omega) (by omega)
    rw [sameB_self] at cS1
    unfold snV at cSn cS1
    rw [k1] at cont
    have y1 : ((12 : Int) != 0) = true := rfl
    have y2 : ((12 : Int) != 12) = false := rfl
    have y3 : ((12 : Int) == 0) = false := rfl
    refine WP.drawV (k := 29) mixed (by decide +kernel) (Sm.out ?_)
    first | (have FRx := FR; clear FRx) | have FR := fr0S
    have FA := Sm.mk (And.intro TFPtF (And.intro hnt (And.intro hnx (And.intro hny (And.intro y1 (And.intro y2 y3))))))
    repeat' first | (apply Sm.mk; refine YsPtF0 ?_) | refine WP.seq fun K hK => ?_ | (apply Ob.mk; exact Yo) | refine And.intro (Ob.out ?_) ?_ | refine Y1PtF ?_ | refine CallV.updM (cSn) (pmz _) (Sm.out ?_) | ((first | refine ExF.up ?_ (cSn) (Sm.out ?_) | refine ExG.up ?_ (fun _ => cSn) (Sm.out ?_) | refine ExG.upJ ?_ (fun _ => cSn) (Sm.out ?_) | refine ExG.upI ?_ (fun _ => cSn) (Ob.out ?_) (Sm.out ?_)); focus (exact ⟨_, (pmz _)⟩)) | (first | refine CallV.fn (cS1) (Sm.out ?_) | refine ExF.mk (cS1) (Sm.out ?_) | refine ExG.mk (fun _ => cS1) (Sm.out ?_) | refine ExG.mkJ (fun _ => cS1) (Sm.out ?_) | refine ExG.mkI (Ob.out ?_) (fun _ => cS1) (Sm.out ?_)) | refine YzPtF ?_ | (refine WP.cond rfl (fun hc => ?_) (fun hc => ?_) <;> (try simp only [ZC, reduceCtorEq, ZD] at hc) <;> (try exact absurd hc (by decide)) <;> (try (exfalso; omega))) | refine Rt.mk (And.intro (fun hg => Sm.out ?_) fun hg => Sm.out ?_) | (refine Nu.mk ?_; first | (fail_if_success have := nb1); intro nb1 | (fail_if_success have := nb2); intro nb2 | (fail_if_success have := nb3); intro nb3 | (fail_if_success have := nb4); intro nb4 | (fail_if_success have := nb5); intro nb5 | (fail_if_success have := nb6); intro nb6 | (fail_if_success have := nb7); intro nb7 | (fail_if_success have := nb8); intro nb8 | intro nbz) | (apply Yfr; refine Yf FR fun hFRb FR => ?_) | refine Two.mk ?_ ?_ | (apply Yxc; exact Yx) | refine Cs.mk fun hcs => Sm.out ?_ | go_step | omega | (simp only [maxLen_eq]; omega) | exact trivial
    exact cont.out ⟨l6, hl6⟩ _ (Sub.of_env [_] (by exact List.Perm.cons _ (List.Perm.cons _ (List.Perm.cons _ (List.perm_append_comm (l₁ := [_]))))) (by simp [look]))
open Go
abbrev crTy : Ty := .st [.int .i64, .int .i64, .int .i64, .int .i64, .int .i64, .int .i64]
theorem reads_law {Z : Int} {xs : List AV} (A B C : List UInt8) (hx : Shp crTy xs) : ACt Try.prog 5 [iv .i64 Z, .slz .u8 (ub A), .slz .u8 (ub B), .slz .u8 (ub C), .agg xs] [] (fun r _ => r = bv true) := by
  simp only [crTy, Shp, ShpL] at hx
  obtain ⟨_, _, rfl, ⟨x1, rfl, h1⟩, _, _, rfl, ⟨x2, rfl, h2⟩, _, _, rfl, ⟨x3, rfl, h3⟩, _, _, rfl, ⟨x4, rfl, h4⟩, _, _, rfl, ⟨x5, rfl, h5⟩, _, _, rfl, ⟨x6, rfl, h6⟩, rfl⟩ := hx
  exact (reads_ct Z x1 x2 x3 x4 x5 x6 A B C (by have := wf_i64 h1; omega)).mono fun r F h => h.1
end Go.Proofs.Yteoajodoejoccaa
