/-
  The walks and the laws that the statement leans on, part 22.
-/
import Derived.Test.YtfknbndmabogjaaDoorA9
import Derived.Test.YtfknbndmabogjaaDoorA21
namespace Go.Proofs.YtfknbndmabogjaaDoor
open Go
set_option linter.unusedVariables false
set_option linter.unusedSimpArgs false
set_option linter.defProp false
def TFOuK :=
  And.intro (And.intro (And.intro (And.intro (And.intro (And.intro tyc0 tyc2) (And.intro zmb2 tyc3)) (And.intro (And.intro zmb3 tyc4) (And.intro zmb4 (And.intro tyc23 foff23_0)))) (And.intro (And.intro (And.intro fpart23_0 foff23_1) (And.intro fpart23_1 (And.intro foff23_2 fpart23_2))) (And.intro (And.intro foff23_3 fpart23_3) (And.intro foff23_4 (And.intro fpart23_4 fe23))))) (And.intro (And.intro (And.intro (And.intro zmb23 bldT23) (And.intro tyc24 elt24)) (And.intro (And.intro mkz24 mkc24) (And.intro apT24 (And.intro elk24 zmb24)))) (And.intro (And.intro (And.intro tyc25 zmb25) (And.intro tyc27 (And.intro foff27_0 fpart27_0))) (And.intro (And.intro foff27_1 fpart27_1) (And.intro zmb27 (And.intro bldT27 tyc29)))))) (And.intro (And.intro (And.intro (And.intro (And.intro foff29_0 fpart29_0) (And.intro foff29_1 fpart29_1)) (And.intro (And.intro foff29_2 fpart29_2) (And.intro foff29_3 (And.intro fpart29_3 foff29_4)))) (And.intro (And.intro (And.intro fpart29_4 fe29) (And.intro zmb29 (And.intro bldT29 tyc34))) (And.intro (And.intro zmb34 tyc38) (And.intro foff38_0 (And.intro fpart38_0 foff38_1))))) (And.intro (And.intro (And.intro (And.intro fpart38_1 foff38_2) (And.intro fpart38_2 (And.intro foff38_3 fpart38_3))) (And.intro (And.intro foff38_4 fpart38_4) (And.intro zmb38 (And.intro bldT38 Tryd.underlying0)))) (And.intro (And.intro (And.intro Tryd.underlying2 Tryd.underlying3) (And.intro Tryd.underlying4 (And.intro Tryd.underlying23 Tryd.underlying24))) (And.intro (And.intro Tryd.underlying25 Tryd.underlying27) (And.intro Tryd.underlying29 (And.intro Tryd.underlying34 Tryd.underlying38))))))
theorem Y1OuK {G R : Prop} (r : R) (h : R → G := by intro r; first | (apply WP.region; exact rvc_sound _ _ (Sm.out r)) | exact WP.drawN (cs := [6,7]) (k := 8) (bs := [nb6]) mixed (by decide +kernel) (by decide +kernel) (by decide +kernel) (by decide +kernel) (Sm.out r) | exact WP.drawK rfl mixed (by decide +kernel) (Sm.out r) | (apply WP.block; exact r) | (apply WP.skip; exact Yq r) | (apply WP.exit; exact Yq r) | (apply WP.ret; exact Sm.out r) | exact WP.cond rfl (fun _ => r) (fun hg => absurd hg (by decide)) | exact WP.cond rfl (fun hg => absurd hg (by decide)) (fun _ => r) | exact Rt.mk (And.intro (fun _ => Sm.out r) fun hg => absurd hg (by decide)) | exact Rt.mk (And.intro (fun hg => absurd hg (by decide)) fun _ => Sm.out r)) : G := h r
theorem YzOuK {G R : Prop} (r : R) (h : R → G := by intro r; first | (apply ExG.no; exact Sm.out r) | (apply Or.inl; apply ExG.no; exact Sm.out r) | exact Or.inl (And.intro (fun hg => absurd hg (by decide)) (ExG.no (Sm.out r)))) : G := h r
theorem YsOuK0 {P Q : Prop} (q : Q) (h : P = Q := by (try (conv => lhs; simp -dsimp only [ZK, rvc, capA, appA, litL, mkfv, drawF, headN, pureH, stp, dvc, calleeOf, gcall, pev, eff, newB, okd, og, ogs, ogo, ogp, slv, bltv, opd, litv, strip, one, both, putE, St.put, look, gdOf, gdv, picka, pickv, pickw, binv, bini, bins, binb, binp, binq, isSlT, bina, shp, eqCells, unv, convv, nilv, faddv, addp, idxav, idxp, load1, load1m, loadn, loadnm, loadv, hget, hset, hrep, hdel, slicev, slice3v, bnd, shift1, lenv, capv, IntKind.bits, extractv, fieldv, indexv, min2v, max2v, mkiv, tasv, tasz, cellsA, fillA, buildv, stC, oneC, rowMB, intsA, plN, appE, appZ, appC, appS, srcB, appNZ, appNC, VwL, srcC, srcZ, srcM, isBoolT, isPtrT, isSliceT, uOk, Value.oneCell', Nat.reducePow, Int.reducePow, Nat.reduceAdd, Nat.reduceMul, Nat.reduceSub, Nat.reduceLT, Nat.reduceLeDiff, Nat.reduceEqDiff, Nat.reduceBEq, Nat.reduceDiv, Nat.reduceMod, ↓reduceIte, reduceCtorEq, Int.reduceToNat, Int.reduceLT, Int.reduceLE, drawNF, drawNF1, drawNTF, nvc, xst, chF, chS, splA, mkV, splitH, calleeV, putE, hdel, TFOuK, SeqQ, BlkQ, LoopQ, BodyQ, List.nil_append, Nat.zero_add, FA.out, FR.out])) <;> exact rfl) : P := h.mpr q
theorem with_l (C : List AV) (n m c : Nat) (a : Option Addr) (d : Int) : ACt Tryd.prog 47 [.agg [.sl n C, iv .u64 d], .lit (.slice a m c)] [] (Fn (.agg [.lit (.slice a m c), iv .u64 d])) := by
  refine ACt.intro Tryd.func47 rfl (by kernel_rfl) (by simp [Tryd.ntmps47]) (fun cx => ?_)
  simp only [argE, Tryd.ntmps47, Tryd.results47]
  first | (have FRx := FR; clear FRx) | have FR := fr0S
  have FA := Sm.mk (TFOuK)
  repeat' first | (apply Sm.mk; refine Ys ?_) | refine WP.seq fun K hK => ?_ | (apply Ob.mk; exact Yo) | refine And.intro (Ob.out ?_) ?_ | refine Y1OuK ?_ | refine YzOuK ?_ | (refine WP.cond rfl (fun hc => ?_) (fun hc => ?_) <;> (try simp only [ZC, reduceCtorEq, ZD] at hc) <;> (try exact absurd hc (by decide)) <;> (try (exfalso; omega))) | refine Rt.mk (And.intro (fun hg => Sm.out ?_) fun hg => Sm.out ?_) | (refine Nu.mk ?_; first | (fail_if_success have := nb1); intro nb1 | (fail_if_success have := nb2); intro nb2 | (fail_if_success have := nb3); intro nb3 | (fail_if_success have := nb4); intro nb4 | (fail_if_success have := nb5); intro nb5 | (fail_if_success have := nb6); intro nb6 | (fail_if_success have := nb7); intro nb7 | (fail_if_success have := nb8); intro nb8 | (fail_if_success have := nb9); intro nb9 | (fail_if_success have := nb10); intro nb10 | (fail_if_success have := nb11); intro nb11 | (fail_if_success have := nb12); intro nb12 | (fail_if_success have := nb13); intro nb13 | (fail_if_success have := nb14); intro nb14 | intro nbz) | (apply Yfr; refine Yf FR fun hFRb FR => ?_) | refine Two.mk ?_ ?_ | (apply Yxc; exact Yx) | refine Cs.mk fun hcs => Sm.out ?_ | go_step | omega | (simp only [maxLen_eq]; omega) | exact trivial
  (refine Yg ?_; try exact trivial)
theorem vw_eq {r R : AV} (h : R = r) : Vw [] r R := h ▸ .same _
set_option maxHeartbeats 4000000 in
theorem radm_row (nt : Nt) (b : Bx) (k : Ky) (now : Int) (n : Nat) (hn : b.l.length = n) (hl : n ≤ 100000) (hz : ∀ e ∈ b.l, Kz e.k) (hzk : Kz k) (hd0 : 0 ≤ b.d) :
    ACt Tryd.prog 14 [ntv nt, .agg [.sl n (ecs b.l), iv .u64 b.d], kv k, iv .i64 now] [] (fun r F' => Vw F' r (adR nt b k now)) := by
  have cN := rnotify_ct nt
  have cR := rbright_ct b n hn hl hz
  have cK := rkright_ct k hzk
  have cT := rtick_ct now
  have cF := rfind_ct b k n hn hl
  have cW := fun x c => with_l (ecs b.l) n (n + 1) c (some ⟨x, 0, none⟩) b.d
  have hCl := ecs_len b.l
  have ho := ecs_one b.l
  have hrm : ntB nt = true → _ := rm_eq (n := nt) (b := b) (k := k)
  have hbd := bx_d (b := b)
  have hA1 := ad_arg (n := nt) (b := b) (k := k) (now := now)
  have hA2 := ad_known (n := nt) (b := b) (k := k) (now := now)
  have hA3 := ad_full (n := nt) (b := b) (k := k) (now := now)
  have hA4 := ad_fine (n := nt) (b := b) (k := k) (now := now)
  obtain ⟨l, d⟩ := b
  simp only at hn hz hd0 cR cF cW hCl ho hrm hbd hA1 hA2 hA3 hA4 ⊢
  rw [hn] at hCl hrm hA1 hA2 hA3 hA4
  obtain ⟨R, hR⟩ : ∃ R, R = adR nt ⟨l, d⟩ k now := ⟨_, rfl⟩
  rw [← hR] at hA1 hA2 hA3 hA4 ⊢
  obtain ⟨C, hC'⟩ : ∃ C, C = ecs l := ⟨_, rfl⟩
  rw [← hC'] at cR cF cW hCl ho hA1 hA2 hA3 hA4 ⊢
  obtain ⟨p1, h1⟩ : ∃ p, ntB nt = p := ⟨_, rfl⟩
  obtain ⟨p2, h2⟩ : ∃ p, bxB ⟨l, d⟩ = p := ⟨_, rfl⟩
  obtain ⟨p3, h3⟩ : ∃ p, krB k = p := ⟨_, rfl⟩
  obtain ⟨p4, h4⟩ : ∃ p, tkB now = p := ⟨_, rfl⟩
  obtain ⟨x, hx⟩ : ∃ x : Int, ixE l k 0 = x := ⟨_, rfl⟩
  obtain ⟨m, hm⟩ : ∃ m, decide ((n : Int) < rmI nt k) = m := ⟨_, rfl⟩
  have hm2 : decide ((n : Int) ≥ rmI nt k) = !m := by rw [← hm, ← decide_not]; exact decide_eq_decide.2 (by omega)
  rw [h1] at cN hA1 hA2 hA3 hA4 hrm
  rw [h2] at cR hA1 hA2 hA3 hA4 hbd
  rw [h3] at cK hA1 hA2 hA3 hA4
  rw [h4] at cT hA1 hA2 hA3 hA4
  rw [hx] at cF hA2 hA3 hA4
  rw [hm] at hrm
  unfold rmI at hm2
  clear hR h1 h2 h3 h4 hx hm hC' hz
  have e5 : C.take (n * 9) = C := List.take_of_length_le (by omega)
  obtain ⟨ro, re, fi, ca, rp⟩ := nt
  obtain ⟨kg, kr, kp, ke, ks⟩ := k
  simp only at hm2
  obtain ⟨z, hz⟩ : ∃ z, decide (x ≥ 0) = z := ⟨_, rfl⟩
  have k9 : decide (d < 9223372036854775807) = decide (d < 9223372036854775807) := rfl
  refine ACt.intro Tryd.func14 rfl (by kernel_rfl) (by simp [Tryd.ntmps14]) (fun cx => ?_)
  simp only [argE, Tryd.ntmps14, Tryd.results14]
  first | (have FRx := FR; clear FRx) | have FR := fr0S
  have FA := Sm.mk (And.intro TFOuK hz)
  repeat' first | (apply Sm.mk; refine Ys ?_) | refine WP.seq fun K hK => ?_ | (apply Ob.mk; exact Yo) | refine And.intro (Ob.out ?_) ?_ | ((fail_if_success (show WP _ _ _ (.region 5 _ _) _ _)); refine Y1OuK ?_) | refine Yc (c := cN) (r := ?_) | refine Yc (c := cR) (r := ?_) | refine Yc (c := cK) (r := ?_) | refine Yc (c := cT) (r := ?_) | refine Yc (c := cF) (r := ?_) | refine YzOuK ?_ | (refine WP.cond rfl (fun hc => ?_) (fun hc => ?_) <;> (try simp only [ZC, reduceCtorEq, ZD] at hc) <;> (try exact absurd hc (by decide)) <;> (try (exfalso; omega))) | refine Rt.mk (And.intro (fun hg => Sm.out ?_) fun hg => Sm.out ?_) | (refine Nu.mk ?_; first | (fail_if_success have := nb1); intro nb1 | (fail_if_success have := nb2); intro nb2 | (fail_if_success have := nb3); intro nb3 | (fail_if_success have := nb4); intro nb4 | (fail_if_success have := nb5); intro nb5 | (fail_if_success have := nb6); intro nb6 | (fail_if_success have := nb7); intro nb7 | (fail_if_success have := nb8); intro nb8 | (fail_if_success have := nb9); intro nb9 | (fail_if_success have := nb10); intro nb10 | (fail_if_success have := nb11); intro nb11 | (fail_if_success have := nb12); intro nb12 | (fail_if_success have := nb13); intro nb13 | (fail_if_success have := nb14); intro nb14 | intro nbz) | (apply Yfr; refine Yf FR fun hFRb FR => ?_) | refine Two.mk ?_ ?_ | (apply Yxc; exact Yx) | refine Cs.mk fun hcs => Sm.out ?_ | go_step | omega | (simp only [maxLen_eq]; omega) | exact trivial
  · have hp : (p1 && p2 && p3 && p4) = false := by
      revert hc
      cases p1 <;> cases p2 <;> cases p3 <;> cases p4 <;> simp
    (refine OutQ.drop [] _ (List.Perm.refl _) (by simp only [resv, ZK, look, loadv, loadn, loadnm, load1, load1m, hget, ↓reduceIte, Nat.reduceEqDiff, Nat.reduceAdd, Nat.reduceMul, Nat.reduceLeDiff, Nat.reduceLT, reduceCtorEq, TFOuK, FR.out]) ?_; simp only [resv, resA, ZK, look, loadv, loadn, loadnm, load1, load1m, hget, ↓reduceIte, Nat.reduceEqDiff, Nat.reduceAdd, Nat.reduceMul, Nat.reduceLeDiff, Nat.reduceLT, reduceCtorEq, TFOuK, FR.out]; exact vw_eq (hA1 hp))
  · rename_i hcA
    have hp : (p1 && p2 && p3 && p4) = true := by
      revert hcA
      cases p1 <;> cases p2 <;> cases p3 <;> cases p4 <;> simp
    have hx0 : 0 ≤ x := by rw [hc] at hz; exact of_decide_eq_true hz
    (refine OutQ.drop [] _ (List.Perm.refl _) (by simp only [resv, ZK, look, loadv, loadn, loadnm, load1, load1m, hget, ↓reduceIte, Nat.reduceEqDiff, Nat.reduceAdd, Nat.reduceMul, Nat.reduceLeDiff, Nat.reduceLT, reduceCtorEq, TFOuK, FR.out]) ?_; simp only [resv, resA, ZK, look, loadv, loadn, loadnm, load1, load1m, hget, ↓reduceIte, Nat.reduceEqDiff, Nat.reduceAdd, Nat.reduceMul, Nat.reduceLeDiff, Nat.reduceLT, reduceCtorEq, TFOuK, FR.out]; exact vw_eq (hA2 hp hx0))
  · rename_i hcA
    have hp : (p1 && p2 && p3 && p4) = true := by
      revert hcA
      cases p1 <;> cases p2 <;> cases p3 <;> cases p4 <;> simp
    have hx0 : ¬ 0 ≤ x := by rw [hc] at hz; exact of_decide_eq_false hz
    have hdM := hbd (by revert hp; cases p2 <;> simp)
    have hB3 := fun (h : m = false) => hA3 hp hx0 ((hrm (by revert hp; cases p1 <;> simp)).symm.trans h)
    have hB4 := fun (h : m = true) => hA4 hp hx0 ((hrm (by revert hp; cases p1 <;> simp)).symm.trans h)
    have w1 : IntKind.u64.wrap (d + 1) = d + 1 := wrap_u64 (by omega) (by omega)
    clear hrm hA1 hA2 hA3 hA4 hbd hp hx0 hc hcA
    cases kp with
    | true =>
      rw [if_pos rfl] at hm2
      first | (have FRx := FR; clear FRx) | have FR := fr0S
      have FA := Sm.mk (And.intro TFOuK (And.intro hm2 (And.intro hCl (And.intro ho (And.intro e5 w1)))))
      repeat' first | (apply Sm.mk; refine YsOuK0 ?_) | refine WP.seq fun K hK => ?_ | (apply Ob.mk; exact Yo) | refine And.intro (Ob.out ?_) ?_ | refine Y1OuK ?_ | refine Yc (c := cW nb9 nb10) (r := ?_) | refine YzOuK ?_ | (refine WP.cond rfl (fun hc => ?_) (fun hc => ?_) <;> (try simp only [ZC, reduceCtorEq, ZD] at hc) <;> (try exact absurd hc (by decide)) <;> (try (exfalso; omega))) | refine Rt.mk (And.intro (fun hg => Sm.out ?_) fun hg => Sm.out ?_) | (refine Nu.mk ?_; first | (fail_if_success have := nb1); intro nb1 | (fail_if_success have := nb2); intro nb2 | (fail_if_success have := nb3); intro nb3 | (fail_if_success have := nb4); intro nb4 | (fail_if_success have := nb5); intro nb5 | (fail_if_success have := nb6); intro nb6 | (fail_if_success have := nb7); intro nb7 | (fail_if_success have := nb8); intro nb8 | (fail_if_success have := nb9); intro nb9 | (fail_if_success have := nb10); intro nb10 | (fail_if_success have := nb11); intro nb11 | (fail_if_success have := nb12); intro nb12 | (fail_if_success have := nb13); intro nb13 | (fail_if_success have := nb14); intro nb14 | intro nbz) | (apply Yfr; refine Yf FR fun hFRb FR => ?_) | refine Two.mk ?_ ?_ | (apply Yxc; exact Yx) | refine Cs.mk fun hcs => Sm.out ?_ | go_step | omega | (simp only [maxLen_eq]; omega) | exact trivial
      · rw [if_pos (by omega)] at hB3
        (refine OutQ.drop [] _ (List.Perm.refl _) (by simp only [resv, ZK, look, loadv, loadn, loadnm, load1, load1m, hget, ↓reduceIte, Nat.reduceEqDiff, Nat.reduceAdd, Nat.reduceMul, Nat.reduceLeDiff, Nat.reduceLT, reduceCtorEq, TFOuK, FR.out]) ?_; simp only [resv, resA, ZK, look, loadv, loadn, loadnm, load1, load1m, hget, ↓reduceIte, Nat.reduceEqDiff, Nat.reduceAdd, Nat.reduceMul, Nat.reduceLeDiff, Nat.reduceLT, reduceCtorEq, TFOuK, FR.out]; exact vw_eq (hB3 (by rename_i g1; simpa using g1)))
      · rw [if_neg (by omega)] at hB3
        (refine OutQ.drop [] _ (List.Perm.refl _) (by simp only [resv, ZK, look, loadv, loadn, loadnm, load1, load1m, hget, ↓reduceIte, Nat.reduceEqDiff, Nat.reduceAdd, Nat.reduceMul, Nat.reduceLeDiff, Nat.reduceLT, reduceCtorEq, TFOuK, FR.out]) ?_; simp only [resv, resA, ZK, look, loadv, loadn, loadnm, load1, load1m, hget, ↓reduceIte, Nat.reduceEqDiff, Nat.reduceAdd, Nat.reduceMul, Nat.reduceLeDiff, Nat.reduceLT, reduceCtorEq, TFOuK, FR.out]; exact vw_eq (hB3 (by rename_i g1; simpa using g1)))
      · (refine OutQ.drop _ _ (perm1 (b := nb9) (by simp only [hget, hdel, ↓reduceIte, if_true, if_false, FR.out]; first | done | rfl)) (by simp only [resv, ZK, look, loadv, loadn, loadnm, load1, load1m, hget, ↓reduceIte, Nat.reduceEqDiff, Nat.reduceAdd, Nat.reduceMul, Nat.reduceLeDiff, Nat.reduceLT, reduceCtorEq, TFOuK, FR.out]) ?_; simp only [resv, resA, ZK, look, loadv, loadn, loadnm, load1, load1m, hget, ↓reduceIte, Nat.reduceEqDiff, Nat.reduceAdd, Nat.reduceMul, Nat.reduceLeDiff, Nat.reduceLT, reduceCtorEq, TFOuK, FR.out]; exact vw_ad (hB4 (by simpa using hc)) hFRb.1 hFRb.2)
    | false =>
      rw [if_neg Bool.false_ne_true] at hm2
      first | (have FRx := FR; clear FRx) | have FR := fr0S
      have FA := Sm.mk (And.intro TFOuK (And.intro hm2 (And.intro hCl (And.intro ho (And.intro e5 w1)))))
      repeat' first | (apply Sm.mk; refine YsOuK0 ?_) | refine WP.seq fun K hK => ?_ | (apply Ob.mk; exact Yo) | refine And.intro (Ob.out ?_) ?_ | refine Y1OuK ?_ | refine Yc (c := cW nb9 nb10) (r := ?_) | refine YzOuK ?_ | (refine WP.cond rfl (fun hc => ?_) (fun hc => ?_) <;> (try simp only [ZC, reduceCtorEq, ZD] at hc) <;> (try exact absurd hc (by decide)) <;> (try (exfalso; omega))) | refine Rt.mk (And.intro (fun hg => Sm.out ?_) fun hg => Sm.out ?_) | (refine Nu.mk ?_; first | (fail_if_success have := nb1); intro nb1 | (fail_if_success have := nb2); intro nb2 | (fail_if_success have := nb3); intro nb3 | (fail_if_success have := nb4); intro nb4 | (fail_if_success have := nb5); intro nb5 | (fail_if_success have := nb6); intro nb6 | (fail_if_success have := nb7); intro nb7 | (fail_if_success have := nb8); intro nb8 | (fail_if_success have := nb9); intro nb9 | (fail_if_success have := nb10); intro nb10 | (fail_if_success have := nb11); intro nb11 | (fail_if_success have := nb12); intro nb12 | (fail_if_success have := nb13); intro nb13 | (fail_if_success have := nb14); intro nb14 | intro nbz) | (apply Yfr; refine Yf FR fun hFRb FR => ?_) | refine Two.mk ?_ ?_ | (apply Yxc; exact Yx) | refine Cs.mk fun hcs => Sm.out ?_ | go_step | omega | (simp only [maxLen_eq]; omega) | exact trivial
      · rw [if_pos (by omega)] at hB3
        (refine OutQ.drop [] _ (List.Perm.refl _) (by simp only [resv, ZK, look, loadv, loadn, loadnm, load1, load1m, hget, ↓reduceIte, Nat.reduceEqDiff, Nat.reduceAdd, Nat.reduceMul, Nat.reduceLeDiff, Nat.reduceLT, reduceCtorEq, TFOuK, FR.out]) ?_; simp only [resv, resA, ZK, look, loadv, loadn, loadnm, load1, load1m, hget, ↓reduceIte, Nat.reduceEqDiff, Nat.reduceAdd, Nat.reduceMul, Nat.reduceLeDiff, Nat.reduceLT, reduceCtorEq, TFOuK, FR.out]; exact vw_eq (hB3 (by rename_i g1; simpa using g1)))
      · rw [if_neg (by omega)] at hB3
        (refine OutQ.drop [] _ (List.Perm.refl _) (by simp only [resv, ZK, look, loadv, loadn, loadnm, load1, load1m, hget, ↓reduceIte, Nat.reduceEqDiff, Nat.reduceAdd, Nat.reduceMul, Nat.reduceLeDiff, Nat.reduceLT, reduceCtorEq, TFOuK, FR.out]) ?_; simp only [resv, resA, ZK, look, loadv, loadn, loadnm, load1, load1m, hget, ↓reduceIte, Nat.reduceEqDiff, Nat.reduceAdd, Nat.reduceMul, Nat.reduceLeDiff, Nat.reduceLT, reduceCtorEq, TFOuK, FR.out]; exact vw_eq (hB3 (by rename_i g1; simpa using g1)))
      · (refine OutQ.drop _ _ (perm1 (b := nb9) (by simp only [hget, hdel, ↓reduceIte, if_true, if_false, FR.out]; first | done | rfl)) (by simp only [resv, ZK, look, loadv, loadn, loadnm, load1, load1m, hget, ↓reduceIte, Nat.reduceEqDiff, Nat.reduceAdd, Nat.reduceMul, Nat.reduceLeDiff, Nat.reduceLT, reduceCtorEq, TFOuK, FR.out]) ?_; simp only [resv, resA, ZK, look, loadv, loadn, loadnm, load1, load1m, hget, ↓reduceIte, Nat.reduceEqDiff, Nat.reduceAdd, Nat.reduceMul, Nat.reduceLeDiff, Nat.reduceLT, reduceCtorEq, TFOuK, FR.out]; exact vw_ad (hB4 (by simpa using hc)) hFRb.1 hFRb.2)
theorem radmit_ct (nt : Nt) (b : Bx) (k : Ky) (now : Int) (n : Nat) (hn : b.l.length = n) (hl : n ≤ 100000) (hz : ∀ e ∈ b.l, Kz e.k) (hzk : Kz k) (hd0 : 0 ≤ b.d) : ACt Tryd.prog 14 [ntv nt, .agg [.sl n (ecs b.l), iv .u64 b.d], kv k, iv .i64 now] [] (Fn (adR nt b k now)) :=
  ACt.fzV (radm_row nt b k now n hn hl hz hzk hd0)
end Go.Proofs.YtfknbndmabogjaaDoor
