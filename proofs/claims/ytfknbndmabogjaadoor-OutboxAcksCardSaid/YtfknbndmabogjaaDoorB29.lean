/-
  The walks and the laws that the statement leans on, part 29.
-/
import Derived.Test.YtfknbndmabogjaaDoorB9
import Derived.Test.YtfknbndmabogjaaDoorB21
import Derived.Test.YtfknbndmabogjaaDoorB28
namespace Go.Proofs.YtfknbndmabogjaaDoor
open Go
set_option linter.unusedVariables false
set_option linter.unusedSimpArgs false
set_option linter.defProp false
def TFOuQ :=
  And.intro (And.intro (And.intro (And.intro (And.intro (And.intro tyc0 tyc2) (And.intro zmb2 tyc3)) (And.intro (And.intro zmb3 tyc4) (And.intro zmb4 (And.intro tyc23 foff23_0)))) (And.intro (And.intro (And.intro fpart23_0 foff23_1) (And.intro fpart23_1 foff23_2)) (And.intro (And.intro fpart23_2 foff23_3) (And.intro fpart23_3 (And.intro foff23_4 fpart23_4))))) (And.intro (And.intro (And.intro (And.intro fe23 zmb23) (And.intro bldT23 tyc24)) (And.intro (And.intro elt24 mkz24) (And.intro mkc24 (And.intro apT24 elk24)))) (And.intro (And.intro (And.intro zmb24 tyc27) (And.intro foff27_0 (And.intro fpart27_0 foff27_1))) (And.intro (And.intro fpart27_1 zmb27) (And.intro bldT27 (And.intro tyc29 foff29_0)))))) (And.intro (And.intro (And.intro (And.intro (And.intro fpart29_0 foff29_1) (And.intro fpart29_1 foff29_2)) (And.intro (And.intro fpart29_2 foff29_3) (And.intro fpart29_3 (And.intro foff29_4 fpart29_4)))) (And.intro (And.intro (And.intro fe29 zmb29) (And.intro bldT29 tyc34)) (And.intro (And.intro zmb34 tyc38) (And.intro foff38_0 (And.intro fpart38_0 foff38_1))))) (And.intro (And.intro (And.intro (And.intro fpart38_1 foff38_2) (And.intro fpart38_2 foff38_3)) (And.intro (And.intro fpart38_3 foff38_4) (And.intro fpart38_4 (And.intro zmb38 bldT38)))) (And.intro (And.intro (And.intro Tryd.underlying0 Tryd.underlying2) (And.intro Tryd.underlying3 (And.intro Tryd.underlying4 Tryd.underlying23))) (And.intro (And.intro Tryd.underlying24 Tryd.underlying27) (And.intro Tryd.underlying29 (And.intro Tryd.underlying34 Tryd.underlying38))))))
theorem Y1OuQ {G R : Prop} (r : R) (h : R → G := by intro r; first | (apply WP.region; exact rvc_sound _ _ (Sm.out r)) | exact WP.drawK rfl mixed (by decide +kernel) (Sm.out r) | (apply WP.block; exact r) | (apply WP.skip; exact Yq r) | (apply WP.exit; exact Yq r) | (apply WP.ret; exact Sm.out r) | exact WP.cond rfl (fun _ => r) (fun hg => absurd hg (by decide)) | exact WP.cond rfl (fun hg => absurd hg (by decide)) (fun _ => r) | exact Rt.mk (And.intro (fun _ => Sm.out r) fun hg => absurd hg (by decide)) | exact Rt.mk (And.intro (fun hg => absurd hg (by decide)) fun _ => Sm.out r)) : G := h r
theorem YzOuQ {G R : Prop} (r : R) (h : R → G := by intro r; first | (apply ExG.no; exact Sm.out r) | (apply Or.inl; apply ExG.no; exact Sm.out r) | exact Or.inl (And.intro (fun hg => absurd hg (by decide)) (ExG.no (Sm.out r)))) : G := h r
theorem YsOuQ0 {P Q : Prop} (q : Q) (h : P = Q := by (try (conv => lhs; simp -dsimp only [ZK, rvc, capA, appA, litL, mkfv, drawF, headN, pureH, stp, dvc, calleeOf, gcall, pev, eff, newB, okd, og, ogs, ogo, ogp, slv, bltv, opd, litv, strip, one, both, putE, St.put, look, gdOf, gdv, picka, pickv, pickw, binv, bini, bins, binb, binp, binq, isSlT, bina, shp, eqCells, unv, convv, nilv, faddv, addp, idxav, idxp, load1, load1m, loadn, loadnm, loadv, hget, hset, hrep, hdel, slicev, slice3v, bnd, shift1, lenv, capv, IntKind.bits, extractv, fieldv, indexv, min2v, max2v, mkiv, tasv, tasz, cellsA, fillA, buildv, stC, oneC, rowMB, intsA, plN, appE, appZ, appC, appS, srcB, appNZ, appNC, VwL, srcC, srcZ, srcM, isBoolT, isPtrT, isSliceT, uOk, Value.oneCell', Nat.reducePow, Int.reducePow, Nat.reduceAdd, Nat.reduceMul, Nat.reduceSub, Nat.reduceLT, Nat.reduceLeDiff, Nat.reduceEqDiff, Nat.reduceBEq, Nat.reduceDiv, Nat.reduceMod, ↓reduceIte, reduceCtorEq, Int.reduceToNat, Int.reduceLT, Int.reduceLE, TFOuQ, SeqQ, BlkQ, LoopQ, BodyQ, drawSR, dvm, xst, putE, hdel, List.mem_singleton, List.length_set, FA.out, FR.out])) <;> exact rfl) : P := h.mpr q
theorem drop_getD {C L : List AV} {a : Nat} (h : C.drop a = L) (i : Nat) : C.getD (a + i) .any = L.getD i .any := by
  rw [← h]; simp [List.getD_eq_getElem?_getD, List.getElem?_drop]
set_option maxRecDepth 8000 in
set_option maxHeartbeats 4000000 in
theorem ack_row {X : AV} (nt : Nt) (b : Bx) (k : Ky) (now : Int) (f : Bool) (n : Nat) (hn : b.l.length = n) (hl : n ≤ 100000) (hz : ∀ e ∈ b.l, Kz e.k) (hX : (∃ m D, X = .sl m D) ∨ (∃ ad cap, X = .lit (.slice (some ad) 0 cap)))
    (hC : ACt Tryd.prog 76 [X] [] (fun r F' => ∃ x c : Nat, (n ≤ c ∧ c ≤ 9223372036854775807) ∧ r = ms x 0 n c ∧ F' = (x, .cells (ecs b.l) (c * 9) 38) :: [])) :
    ACt Tryd.prog 21 [ntv nt, .agg [X, iv .u64 b.d], kv k, iv .i64 now, bv f] [] (fun r F' => Vw F' r (akR nt b k now f)) := by
  have cO := own_row b.d hX hC
  have cN := notify_ct nt
  have cR := bright_ct b n hn hl hz
  have cT := tick_ct now
  have cF := find_ct b k n hn hl
  have hCl := ecs_len b.l
  have hdr := ecs_drop b.l
  have ho := ecs_one b.l
  have hA1 := ak_arg (n := nt) (b := b) (k := k) (now := now) (f := f)
  have hA2 := ak_name (n := nt) (b := b) (k := k) (now := now) (f := f)
  have hA3 := fun (j : Nat) (e : En) => ak_known (n := nt) (b := b) (k := k) (now := now) (f := f) (j := j) (e := e)
  have hA4 := fun (j : Nat) (e : En) => ak_keep (n := nt) (b := b) (k := k) (now := now) (f := f) (j := j) (e := e)
  have hA5 := fun (j : Nat) (e : En) => ak_del (n := nt) (b := b) (k := k) (now := now) (f := f) (j := j) (e := e)
  have hix := ixE_lt b.l k 0 (Int.le_refl _)
  obtain ⟨l, d⟩ := b
  simp only at hn hz cO cR cF hCl hdr ho hA1 hA2 hA3 hA4 hA5 hix ⊢
  rw [hn] at hCl hA1 hA2 hix
  simp only [hn] at hA3 hA4 hA5
  obtain ⟨R, hR⟩ : ∃ R, R = akR nt ⟨l, d⟩ k now f := ⟨_, rfl⟩
  rw [← hR] at hA1 hA2 ⊢
  simp only [← hR] at hA3 hA4 hA5
  obtain ⟨C, hC'⟩ : ∃ C, C = ecs l := ⟨_, rfl⟩
  rw [← hC'] at cO cR cF hCl hdr ho hA1 hA2
  simp only [← hC'] at hA3 hA4 hA5
  obtain ⟨p1, h1⟩ : ∃ p, ntB nt = p := ⟨_, rfl⟩
  obtain ⟨p2, h2⟩ : ∃ p, bxB ⟨l, d⟩ = p := ⟨_, rfl⟩
  obtain ⟨p4, h4⟩ : ∃ p, tkB now = p := ⟨_, rfl⟩
  obtain ⟨x, hx⟩ : ∃ x : Int, ixE l k 0 = x := ⟨_, rfl⟩
  rw [h1] at cN hA1 hA2
  rw [h2] at cR hA1 hA2
  rw [h4] at cT hA1 hA2
  simp only [h1, h2, h4] at hA3 hA4 hA5
  rw [hx] at cF hA2 hix
  simp only [hx] at hA3 hA4 hA5
  clear hR h1 h2 h4 hx hC' hz
  obtain ⟨kg, kr, kp, ke, ks⟩ := k
  by_cases hx0 : x < 0
  · have k0 : decide (x < 0) = true := decide_eq_true hx0
    obtain ⟨ro, re, fi, ca, rp⟩ := nt
    refine ACt.intro Tryd.func21 rfl (by kernel_rfl) (by simp [Tryd.ntmps21]) (fun cx => ?_)
    simp only [argE, Tryd.ntmps21, Tryd.results21]
    first | (have FRx := FR; clear FRx) | have FR := fr0S
    have FA := Sm.mk (TFOuQ)
    repeat' first | (apply Sm.mk; refine Ys ?_) | refine WP.seq fun K hK => ?_ | (apply Ob.mk; exact Yo) | refine And.intro (Ob.out ?_) ?_ | ((fail_if_success (show WP _ _ _ (.region 2 _ _) _ _)); refine Y1OuQ ?_) | refine CallV.newC (cO) (List.Perm.refl _) (fun _ _ => rfl) (Sm.out ?_) | refine YzOuQ ?_ | (refine WP.cond rfl (fun hc => ?_) (fun hc => ?_) <;> (try simp only [ZC, reduceCtorEq, ZD] at hc) <;> (try exact absurd hc (by decide)) <;> (try (exfalso; omega))) | refine Rt.mk (And.intro (fun hg => Sm.out ?_) fun hg => Sm.out ?_) | (refine Nu.mk ?_; first | (fail_if_success have := nb1); intro nb1 | (fail_if_success have := nb2); intro nb2 | (fail_if_success have := nb3); intro nb3 | (fail_if_success have := nb4); intro nb4 | (fail_if_success have := nb5); intro nb5 | (fail_if_success have := nb6); intro nb6 | (fail_if_success have := nb7); intro nb7 | (fail_if_success have := nb8); intro nb8 | (fail_if_success have := nb9); intro nb9 | (fail_if_success have := nb10); intro nb10 | (fail_if_success have := nb11); intro nb11 | (fail_if_success have := nb12); intro nb12 | (fail_if_success have := nb13); intro nb13 | (fail_if_success have := nb14); intro nb14 | intro nbz) | (apply Yfr; refine Yf FR fun hFRb FR => ?_) | refine Two.mk ?_ ?_ | (apply Yxc; exact Yx) | refine Cs.mk fun hcs => Sm.out ?_ | go_step | omega | (simp only [maxLen_eq]; omega) | exact trivial
    have hb := FR.out.1.1
    have cR2 : ACt Tryd.prog 16 [.agg [ms nb5 0 n nb6, iv .u64 d]] [(nb5, .cells C (nb6 * 9) 38)] (fun r F' => r = bv p2 ∧ F' = [(nb5, .cells C (nb6 * 9) 38)]) := cR.view rfl ⟨vw_box hb.1 hb.2, trivial⟩
    have cF2 : ACt Tryd.prog 17 [.agg [ms nb5 0 n nb6, iv .u64 d], kv ⟨kg, kr, kp, ke, ks⟩] [(nb5, .cells C (nb6 * 9) 38)] (fun r F' => r = iv .i64 x ∧ F' = [(nb5, .cells C (nb6 * 9) 38)]) := cF.view rfl ⟨vw_box hb.1 hb.2, .same _, trivial⟩
    clear cO cR cF
    first | (have FRx := FR; clear FRx) | have FR := fr0S
    have FA := Sm.mk (And.intro TFOuQ (And.intro k0 (And.intro hCl (And.intro ho hb))))
    repeat' first | (apply Sm.mk; refine Ys ?_) | refine WP.seq fun K hK => ?_ | (apply Ob.mk; exact Yo) | refine And.intro (Ob.out ?_) ?_ | refine Y1OuQ ?_ | refine Yc (c := cN) (r := ?_) | refine Yl1 (c := cR2) (r := ?_) | refine Yc (c := cT) (r := ?_) | refine Yl1 (c := cF2) (r := ?_) | refine YzOuQ ?_ | (refine WP.cond rfl (fun hc => ?_) (fun hc => ?_) <;> (try simp only [ZC, reduceCtorEq, ZD] at hc) <;> (try exact absurd hc (by decide)) <;> (try (exfalso; omega))) | refine Rt.mk (And.intro (fun hg => Sm.out ?_) fun hg => Sm.out ?_) | (refine Nu.mk ?_; first | (fail_if_success have := nb1); intro nb1 | (fail_if_success have := nb2); intro nb2 | (fail_if_success have := nb3); intro nb3 | (fail_if_success have := nb4); intro nb4 | (fail_if_success have := nb5); intro nb5 | (fail_if_success have := nb6); intro nb6 | (fail_if_success have := nb7); intro nb7 | (fail_if_success have := nb8); intro nb8 | (fail_if_success have := nb9); intro nb9 | (fail_if_success have := nb10); intro nb10 | (fail_if_success have := nb11); intro nb11 | (fail_if_success have := nb12); intro nb12 | (fail_if_success have := nb13); intro nb13 | (fail_if_success have := nb14); intro nb14 | intro nbz) | (apply Yfr; refine Yf FR fun hFRb FR => ?_) | refine Two.mk ?_ ?_ | (apply Yxc; exact Yx) | refine Cs.mk fun hcs => Sm.out ?_ | go_step | omega | (simp only [maxLen_eq]; omega) | exact trivial
    · have hp : (p1 && p2 && p4) = false := by
        revert hc
        cases p1 <;> cases p2 <;> cases p4 <;> simp
      (refine OutQ.drop _ _ (perm1 (b := nb5) (by simp only [hget, hdel, ↓reduceIte, if_true, if_false, FR.out]; first | done | rfl)) (by simp only [resv, ZK, look, loadv, loadn, loadnm, load1, load1m, hget, ↓reduceIte, Nat.reduceEqDiff, Nat.reduceAdd, Nat.reduceMul, Nat.reduceLeDiff, Nat.reduceLT, reduceCtorEq, TFOuQ, FR.out]) ?_; simp only [resv, resA, ZK, look, loadv, loadn, loadnm, load1, load1m, hget, ↓reduceIte, Nat.reduceEqDiff, Nat.reduceAdd, Nat.reduceMul, Nat.reduceLeDiff, Nat.reduceLT, reduceCtorEq, TFOuQ, FR.out]; exact vw_ad (hA1 hp) hb.1 hb.2)
    · have hp : (p1 && p2 && p4) = true := by
        revert hc
        cases p1 <;> cases p2 <;> cases p4 <;> simp
      (refine OutQ.drop _ _ (perm1 (b := nb5) (by simp only [hget, hdel, ↓reduceIte, if_true, if_false, FR.out]; first | done | rfl)) (by simp only [resv, ZK, look, loadv, loadn, loadnm, load1, load1m, hget, ↓reduceIte, Nat.reduceEqDiff, Nat.reduceAdd, Nat.reduceMul, Nat.reduceLeDiff, Nat.reduceLT, reduceCtorEq, TFOuQ, FR.out]) ?_; simp only [resv, resA, ZK, look, loadv, loadn, loadnm, load1, load1m, hget, ↓reduceIte, Nat.reduceEqDiff, Nat.reduceAdd, Nat.reduceMul, Nat.reduceLeDiff, Nat.reduceLT, reduceCtorEq, TFOuQ, FR.out]; exact vw_ad (hA2 hp hx0) hb.1 hb.2)
  · obtain ⟨j, rfl⟩ := Int.eq_ofNat_of_zero_le (show 0 ≤ x by omega)
    have hj : j < n := by omega
    have k0 : decide ((j : Int) < 0) = false := decide_eq_false (by omega)
    have hd := hdr j (by omega)
    obtain ⟨v, hv⟩ : ∃ v, v = l[j]'(by omega) := ⟨_, rfl⟩
    have hv2 : l.getD j dEn = v := by rw [hv, List.getD_eq_getElem?_getD, List.getElem?_eq_getElem (by omega)]; rfl
    rw [← hv] at hd
    have hB3 := fun (h : (p1 && p2 && p4) = true) => hA3 j v h rfl hv2
    have hB4 := fun (h : (p1 && p2 && p4) = true) => hA4 j v h rfl hj hv2
    have hB5 := fun (h : (p1 && p2 && p4) = true) => hA5 j v h rfl hj hv2
    clear hv hv2 hdr hA2 hix hA3 hA4 hA5
    have q1 : (j + 1) * 9 ≤ C.length := by omega
    have s1 : IntKind.i64.wrap ((j : Int) + 1) = ((j + 1 : Nat) : Int) := by rw [wrap_i64 (by omega) (by omega)]; omega
    obtain ⟨y, hy⟩ : ∃ y, decide (0 < nt.rep) = y := ⟨_, rfl⟩
    have hy2 : decide (nt.rep > 0) = y := hy
    rw [hy] at hB4 hB5
    have hbm : (if now < v.b then v.b else now) = (if v.b > now then v.b else now) := rfl
    have hN : akN nt v now = IntKind.i64.wrap ((if now < v.b then v.b else now) + nt.rep) := rfl
    obtain ⟨N, hN'⟩ : ∃ N, N = akN nt v now := ⟨_, rfl⟩
    rw [← hN'] at hB4 hN
    obtain ⟨⟨vg, vr, vp, ve, vs⟩, eb, en, et, ea⟩ := v
    simp only at hd hB3 hB4 hB5 hN
    obtain ⟨ro, re, fi, ca, rp⟩ := nt
    simp only at hy2 hN
    refine ACt.intro Tryd.func21 rfl (by kernel_rfl) (by simp [Tryd.ntmps21]) (fun cx => ?_)
    simp only [argE, Tryd.ntmps21, Tryd.results21]
    first | (have FRx := FR; clear FRx) | have FR := fr0S
    have FA := Sm.mk (TFOuQ)
    repeat' first | (apply Sm.mk; refine Ys ?_) | refine WP.seq fun K hK => ?_ | (apply Ob.mk; exact Yo) | refine And.intro (Ob.out ?_) ?_ | ((fail_if_success (show WP _ _ _ (.region 2 _ _) _ _)); refine Y1OuQ ?_) | refine CallV.newC (cO) (List.Perm.refl _) (fun _ _ => rfl) (Sm.out ?_) | refine YzOuQ ?_ | (refine WP.cond rfl (fun hc => ?_) (fun hc => ?_) <;> (try simp only [ZC, reduceCtorEq, ZD] at hc) <;> (try exact absurd hc (by decide)) <;> (try (exfalso; omega))) | refine Rt.mk (And.intro (fun hg => Sm.out ?_) fun hg => Sm.out ?_) | (refine Nu.mk ?_; first | (fail_if_success have := nb1); intro nb1 | (fail_if_success have := nb2); intro nb2 | (fail_if_success have := nb3); intro nb3 | (fail_if_success have := nb4); intro nb4 | (fail_if_success have := nb5); intro nb5 | (fail_if_success have := nb6); intro nb6 | (fail_if_success have := nb7); intro nb7 | (fail_if_success have := nb8); intro nb8 | (fail_if_success have := nb9); intro nb9 | (fail_if_success have := nb10); intro nb10 | (fail_if_success have := nb11); intro nb11 | (fail_if_success have := nb12); intro nb12 | (fail_if_success have := nb13); intro nb13 | (fail_if_success have := nb14); intro nb14 | intro nbz) | (apply Yfr; refine Yf FR fun hFRb FR => ?_) | refine Two.mk ?_ ?_ | (apply Yxc; exact Yx) | refine Cs.mk fun hcs => Sm.out ?_ | go_step | omega | (simp only [maxLen_eq]; omega) | exact trivial
    have hb := FR.out.1.1
    have cR2 : ACt Tryd.prog 16 [.agg [ms nb5 0 n nb6, iv .u64 d]] [(nb5, .cells C (nb6 * 9) 38)] (fun r F' => r = bv p2 ∧ F' = [(nb5, .cells C (nb6 * 9) 38)]) := cR.view rfl ⟨vw_box hb.1 hb.2, trivial⟩
    have cF2 : ACt Tryd.prog 17 [.agg [ms nb5 0 n nb6, iv .u64 d], kv ⟨kg, kr, kp, ke, ks⟩] [(nb5, .cells C (nb6 * 9) 38)] (fun r F' => r = iv .i64 (j : Int) ∧ F' = [(nb5, .cells C (nb6 * 9) 38)]) := cF.view rfl ⟨vw_box hb.1 hb.2, .same _, trivial⟩
    clear cO cR cF
    have cD := dl_ct nb5 n nb6 j C hCl hj hb hl ho
    have g8 : C.getD (j * 9 + 8) .any = bv ea := drop_getD hd 8
    have g5 : C.getD (j * 9 + 5) .any = iv .i64 eb := drop_getD hd 5
    first | (have FRx := FR; clear FRx) | have FR := fr0S
    have FA := Sm.mk (And.intro TFOuQ (And.intro k0 (And.intro hd (And.intro q1 (And.intro hj (And.intro s1 (And.intro hy2 (And.intro hb (And.intro g8 g5)))))))))
    repeat' first | (apply Sm.mk; refine Ys ?_) | refine WP.seq fun K hK => ?_ | (apply Ob.mk; exact Yo) | refine And.intro (Ob.out ?_) ?_ | ((fail_if_success (show WP _ _ _ (.region 11 _ _) _ _)); refine Y1OuQ ?_) | refine Yc (c := cN) (r := ?_) | refine Yl1 (c := cR2) (r := ?_) | refine Yc (c := cT) (r := ?_) | refine Yl1 (c := cF2) (r := ?_) | refine Yu (c := cD) (r := ?_) | refine YzOuQ ?_ | (refine WP.cond rfl (fun hc => ?_) (fun hc => ?_) <;> (try simp only [ZC, reduceCtorEq, ZD] at hc) <;> (try exact absurd hc (by decide)) <;> (try (exfalso; omega))) | refine Rt.mk (And.intro (fun hg => Sm.out ?_) fun hg => Sm.out ?_) | (refine Nu.mk ?_; first | (fail_if_success have := nb1); intro nb1 | (fail_if_success have := nb2); intro nb2 | (fail_if_success have := nb3); intro nb3 | (fail_if_success have := nb4); intro nb4 | (fail_if_success have := nb5); intro nb5 | (fail_if_success have := nb6); intro nb6 | (fail_if_success have := nb7); intro nb7 | (fail_if_success have := nb8); intro nb8 | (fail_if_success have := nb9); intro nb9 | (fail_if_success have := nb10); intro nb10 | (fail_if_success have := nb11); intro nb11 | (fail_if_success have := nb12); intro nb12 | (fail_if_success have := nb13); intro nb13 | (fail_if_success have := nb14); intro nb14 | intro nbz) | (apply Yfr; refine Yf FR fun hFRb FR => ?_) | refine Two.mk ?_ ?_ | (apply Yxc; exact Yx) | refine Cs.mk fun hcs => Sm.out ?_ | go_step | omega | (simp only [maxLen_eq]; omega) | exact trivial
    · have hp : (p1 && p2 && p4) = false := by
        revert hc
        cases p1 <;> cases p2 <;> cases p4 <;> simp
      (refine OutQ.drop _ _ (perm1 (b := nb5) (by simp only [hget, hdel, ↓reduceIte, if_true, if_false, FR.out]; first | done | rfl)) (by simp only [resv, ZK, look, loadv, loadn, loadnm, load1, load1m, hget, ↓reduceIte, Nat.reduceEqDiff, Nat.reduceAdd, Nat.reduceMul, Nat.reduceLeDiff, Nat.reduceLT, reduceCtorEq, TFOuQ, FR.out]) ?_; simp only [resv, resA, ZK, look, loadv, loadn, loadnm, load1, load1m, hget, ↓reduceIte, Nat.reduceEqDiff, Nat.reduceAdd, Nat.reduceMul, Nat.reduceLeDiff, Nat.reduceLT, reduceCtorEq, TFOuQ, FR.out]; exact vw_ad (hA1 hp) hb.1 hb.2)
    · rename_i hcA
      have hp : (p1 && p2 && p4) = true := by rw [hcA.1.1, hcA.1.2, hcA.2]; rfl
      (refine OutQ.drop _ _ (perm1 (b := nb5) (by simp only [hget, hdel, ↓reduceIte, if_true, if_false, FR.out]; first | done | rfl)) (by simp only [resv, ZK, look, loadv, loadn, loadnm, load1, load1m, hget, ↓reduceIte, Nat.reduceEqDiff, Nat.reduceAdd, Nat.reduceMul, Nat.reduceLeDiff, Nat.reduceLT, reduceCtorEq, TFOuQ, FR.out]) ?_; simp only [resv, resA, ZK, look, loadv, loadn, loadnm, load1, load1m, hget, ↓reduceIte, Nat.reduceEqDiff, Nat.reduceAdd, Nat.reduceMul, Nat.reduceLeDiff, Nat.reduceLT, reduceCtorEq, TFOuQ, FR.out]; exact vw_ad (hB3 hp hc) hb.1 hb.2)
    · rename_i hcA hcB
      have hp : (p1 && p2 && p4) = true := by rw [hcA.1.1, hcA.1.2, hcA.2]; rfl
      have hA := hB4 hp hcB (by rw [hc.1.1, hc.1.2, hc.2]; rfl)
      refine WP.drawS3 (is := 19) (k := 20) nb5 (j * 9 + 8) [12] mixed (by decide +kernel) (by decide +kernel) (by decide +kernel) (Sm.out ?_)
      have hN2 := hN.symm
      first | (have FRx := FR; clear FRx) | have FR := fr0S
      have FA := Sm.mk (And.intro TFOuQ (And.intro hd (And.intro q1 (And.intro hj (And.intro hb (And.intro g5 (And.intro hCl hN2)))))))
      repeat' first | (apply Sm.mk; refine YsOuQ0 ?_) | refine WP.seq fun K hK => ?_ | (apply Ob.mk; exact Yo) | refine And.intro (Ob.out ?_) ?_ | refine Y1OuQ ?_ | refine YzOuQ ?_ | (refine WP.cond rfl (fun hc => ?_) (fun hc => ?_) <;> (try simp only [ZC, reduceCtorEq, ZD] at hc) <;> (try exact absurd hc (by decide)) <;> (try (exfalso; omega))) | refine Rt.mk (And.intro (fun hg => Sm.out ?_) fun hg => Sm.out ?_) | (refine Nu.mk ?_; first | (fail_if_success have := nb1); intro nb1 | (fail_if_success have := nb2); intro nb2 | (fail_if_success have := nb3); intro nb3 | (fail_if_success have := nb4); intro nb4 | (fail_if_success have := nb5); intro nb5 | (fail_if_success have := nb6); intro nb6 | (fail_if_success have := nb7); intro nb7 | (fail_if_success have := nb8); intro nb8 | (fail_if_success have := nb9); intro nb9 | (fail_if_success have := nb10); intro nb10 | (fail_if_success have := nb11); intro nb11 | (fail_if_success have := nb12); intro nb12 | (fail_if_success have := nb13); intro nb13 | (fail_if_success have := nb14); intro nb14 | intro nbz) | (apply Yfr; refine Yf FR fun hFRb FR => ?_) | refine Two.mk ?_ ?_ | (apply Yxc; exact Yx) | refine Cs.mk fun hcs => Sm.out ?_ | go_step | omega | (simp only [maxLen_eq]; omega) | exact trivial
      (refine OutQ.drop _ _ (perm1 (b := nb5) (by simp only [hget, hdel, ↓reduceIte, if_true, if_false, FR.out]; first | done | rfl)) (by simp only [resv, ZK, look, loadv, loadn, loadnm, load1, load1m, hget, ↓reduceIte, Nat.reduceEqDiff, Nat.reduceAdd, Nat.reduceMul, Nat.reduceLeDiff, Nat.reduceLT, reduceCtorEq, TFOuQ, FR.out]) ?_; simp only [resv, resA, ZK, look, loadv, loadn, loadnm, load1, load1m, hget, ↓reduceIte, Nat.reduceEqDiff, Nat.reduceAdd, Nat.reduceMul, Nat.reduceLeDiff, Nat.reduceLT, reduceCtorEq, TFOuQ, FR.out]; exact vw_ad hA hb.1 hb.2)
    · rename_i hcA hcB
      have hp : (p1 && p2 && p4) = true := by rw [hcA.1.1, hcA.1.2, hcA.2]; rfl
      have hA := hB5 hp hcB (by rcases hc with (h | h) | h <;> rw [h] <;> simp)
      (refine OutQ.drop _ _ (perm1 (b := nb5) (by simp only [hget, hdel, ↓reduceIte, if_true, if_false, FR.out]; first | done | rfl)) (by simp only [resv, ZK, look, loadv, loadn, loadnm, load1, load1m, hget, ↓reduceIte, Nat.reduceEqDiff, Nat.reduceAdd, Nat.reduceMul, Nat.reduceLeDiff, Nat.reduceLT, reduceCtorEq, TFOuQ, FR.out]) ?_; simp only [resv, resA, ZK, look, loadv, loadn, loadnm, load1, load1m, hget, ↓reduceIte, Nat.reduceEqDiff, Nat.reduceAdd, Nat.reduceMul, Nat.reduceLeDiff, Nat.reduceLT, reduceCtorEq, TFOuQ, FR.out]; exact vw_ad hA (by omega) hb.2)
set_option maxHeartbeats 4000000 in
theorem ack_nil (nt : Nt) (d : Int) (k : Ky) (now : Int) (f : Bool) (cap : Nat) :
    ACt Tryd.prog 21 [ntv nt, .agg [.lit (.slice none 0 cap), iv .u64 d], kv k, iv .i64 now, bv f] [] (fun r F' => Vw F' r (akR nt ⟨[], d⟩ k now f)) := by
  have cO := own_nil d cap
  have cN := notify_ct nt
  have cR := bright_ct ⟨[], d⟩ 0 rfl (by omega) (fun e he => by cases he)
  have cT := tick_ct now
  have cF := find_ct ⟨[], d⟩ k 0 rfl (by omega)
  have hA1 := ak_arg (n := nt) (b := ⟨[], d⟩) (k := k) (now := now) (f := f)
  have hA2 := ak_name (n := nt) (b := ⟨[], d⟩) (k := k) (now := now) (f := f)
  have he : ecs [] = [] := rfl
  simp only [List.length_nil, he] at cO cR cF hA1 hA2
  have hx : ixE [] k 0 = -1 := rfl
  rw [hx] at cF hA2
  obtain ⟨R, hR⟩ : ∃ R, R = akR nt ⟨[], d⟩ k now f := ⟨_, rfl⟩
  rw [← hR] at hA1 hA2 ⊢
  obtain ⟨p1, h1⟩ : ∃ p, ntB nt = p := ⟨_, rfl⟩
  obtain ⟨p2, h2⟩ : ∃ p, bxB ⟨[], d⟩ = p := ⟨_, rfl⟩
  obtain ⟨p4, h4⟩ : ∃ p, tkB now = p := ⟨_, rfl⟩
  rw [h1] at cN hA1 hA2
  rw [h2] at cR hA1 hA2
  rw [h4] at cT hA1 hA2
  clear hR h1 h2 h4
  have k0 : decide ((-1 : Int) < 0) = true := rfl
  obtain ⟨kg, kr, kp, ke, ks⟩ := k
  obtain ⟨ro, re, fi, ca, rp⟩ := nt
  have cR2 : ACt Tryd.prog 16 [.agg [nsl, iv .u64 d]] [] (fun r F' => r = bv p2 ∧ F' = []) := cR.view rfl ⟨vw_nil, trivial⟩
  have cF2 : ACt Tryd.prog 17 [.agg [nsl, iv .u64 d], kv ⟨kg, kr, kp, ke, ks⟩] [] (fun r F' => r = iv .i64 (-1) ∧ F' = []) := cF.view rfl ⟨vw_nil, .same _, trivial⟩
  clear cR cF
  refine ACt.intro Tryd.func21 rfl (by kernel_rfl) (by simp [Tryd.ntmps21]) (fun cx => ?_)
  simp only [argE, Tryd.ntmps21, Tryd.results21]
  first | (have FRx := FR; clear FRx) | have FR := fr0S
  have FA := Sm.mk (And.intro TFOuQ k0)
  repeat' first | (apply Sm.mk; refine Ys ?_) | refine WP.seq fun K hK => ?_ | (apply Ob.mk; exact Yo) | refine And.intro (Ob.out ?_) ?_ | refine Y1OuQ ?_ | refine Yc (c := cO) (r := ?_) | refine Yc (c := cN) (r := ?_) | refine Yc (c := cR2) (r := ?_) | refine Yc (c := cT) (r := ?_) | refine Yc (c := cF2) (r := ?_) | refine YzOuQ ?_ | (refine WP.cond rfl (fun hc => ?_) (fun hc => ?_) <;> (try simp only [ZC, reduceCtorEq, ZD] at hc) <;> (try exact absurd hc (by decide)) <;> (try (exfalso; omega))) | refine Rt.mk (And.intro (fun hg => Sm.out ?_) fun hg => Sm.out ?_) | (refine Nu.mk ?_; first | (fail_if_success have := nb1); intro nb1 | (fail_if_success have := nb2); intro nb2 | (fail_if_success have := nb3); intro nb3 | (fail_if_success have := nb4); intro nb4 | (fail_if_success have := nb5); intro nb5 | (fail_if_success have := nb6); intro nb6 | (fail_if_success have := nb7); intro nb7 | (fail_if_success have := nb8); intro nb8 | (fail_if_success have := nb9); intro nb9 | (fail_if_success have := nb10); intro nb10 | (fail_if_success have := nb11); intro nb11 | (fail_if_success have := nb12); intro nb12 | (fail_if_success have := nb13); intro nb13 | (fail_if_success have := nb14); intro nb14 | intro nbz) | (apply Yfr; refine Yf FR fun hFRb FR => ?_) | refine Two.mk ?_ ?_ | (apply Yxc; exact Yx) | refine Cs.mk fun hcs => Sm.out ?_ | go_step | omega | (simp only [maxLen_eq]; omega) | exact trivial
  · have hp : (p1 && p2 && p4) = false := by
      revert hc
      cases p1 <;> cases p2 <;> cases p4 <;> simp
    (refine OutQ.drop [] _ (List.Perm.refl _) (by simp only [resv, ZK, look, loadv, loadn, loadnm, load1, load1m, hget, ↓reduceIte, Nat.reduceEqDiff, Nat.reduceAdd, Nat.reduceMul, Nat.reduceLeDiff, Nat.reduceLT, reduceCtorEq, TFOuQ, FR.out]) ?_; simp only [resv, resA, ZK, look, loadv, loadn, loadnm, load1, load1m, hget, ↓reduceIte, Nat.reduceEqDiff, Nat.reduceAdd, Nat.reduceMul, Nat.reduceLeDiff, Nat.reduceLT, reduceCtorEq, TFOuQ, FR.out]; exact vw_adn (hA1 hp))
  · have hp : (p1 && p2 && p4) = true := by
      revert hc
      cases p1 <;> cases p2 <;> cases p4 <;> simp
    (refine OutQ.drop [] _ (List.Perm.refl _) (by simp only [resv, ZK, look, loadv, loadn, loadnm, load1, load1m, hget, ↓reduceIte, Nat.reduceEqDiff, Nat.reduceAdd, Nat.reduceMul, Nat.reduceLeDiff, Nat.reduceLT, reduceCtorEq, TFOuQ, FR.out]) ?_; simp only [resv, resA, ZK, look, loadv, loadn, loadnm, load1, load1m, hget, ↓reduceIte, Nat.reduceEqDiff, Nat.reduceAdd, Nat.reduceMul, Nat.reduceLeDiff, Nat.reduceLT, reduceCtorEq, TFOuQ, FR.out]; exact vw_adn (hA2 hp (by decide)))
theorem ack_ct (nt : Nt) (b : Bx) (k : Ky) (now : Int) (f : Bool) (n : Nat) (hn : b.l.length = n) (hl : n ≤ 100000) (hz : ∀ e ∈ b.l, Kz e.k) : ACt Tryd.prog 21 [ntv nt, .agg [.sl n (ecs b.l), iv .u64 b.d], kv k, iv .i64 now, bv f] [] (Fn (akR nt b k now f)) :=
  box_arg (pre := [ntv nt]) (post := [kv k, iv .i64 now, bv f]) hn hl (fun X hX hC => ack_row nt b k now f n hn hl hz hX hC) (fun h cap => by
    obtain ⟨l, d⟩ := b
    obtain rfl : l = [] := h
    exact ack_nil nt d k now f cap)
end Go.Proofs.YtfknbndmabogjaaDoor
