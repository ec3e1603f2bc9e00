/-
  The walks and the laws that the statement leans on, part 30.
-/
import Derived.Test.YtfknbndmabogjaaDoorB9
import Derived.Test.YtfknbndmabogjaaDoorB22
import Derived.Test.YtfknbndmabogjaaDoorB29
namespace Go.Proofs.YtfknbndmabogjaaDoor
open Go
set_option linter.unusedVariables false
set_option linter.unusedSimpArgs false
set_option linter.defProp false
def TFOuR :=
  And.intro (And.intro (And.intro (And.intro (And.intro (And.intro tyc0 tyc2) (And.intro zmb2 tyc3)) (And.intro (And.intro zmb3 tyc4) (And.intro zmb4 (And.intro tyc23 foff23_0)))) (And.intro (And.intro (And.intro fpart23_0 foff23_1) (And.intro fpart23_1 foff23_2)) (And.intro (And.intro fpart23_2 foff23_3) (And.intro fpart23_3 (And.intro foff23_4 fpart23_4))))) (And.intro (And.intro (And.intro (And.intro fe23 zmb23) (And.intro bldT23 tyc24)) (And.intro (And.intro elt24 mkz24) (And.intro mkc24 (And.intro apT24 elk24)))) (And.intro (And.intro (And.intro zmb24 tyc27) (And.intro foff27_0 (And.intro fpart27_0 foff27_1))) (And.intro (And.intro fpart27_1 zmb27) (And.intro bldT27 (And.intro tyc29 foff29_0)))))) (And.intro (And.intro (And.intro (And.intro (And.intro fpart29_0 foff29_1) (And.intro fpart29_1 foff29_2)) (And.intro (And.intro fpart29_2 foff29_3) (And.intro fpart29_3 (And.intro foff29_4 fpart29_4)))) (And.intro (And.intro (And.intro fe29 zmb29) (And.intro bldT29 tyc34)) (And.intro (And.intro zmb34 tyc38) (And.intro foff38_0 (And.intro fpart38_0 foff38_1))))) (And.intro (And.intro (And.intro (And.intro fpart38_1 foff38_2) (And.intro fpart38_2 foff38_3)) (And.intro (And.intro fpart38_3 foff38_4) (And.intro fpart38_4 (And.intro zmb38 bldT38)))) (And.intro (And.intro (And.intro Tryd.underlying0 Tryd.underlying2) (And.intro Tryd.underlying3 (And.intro Tryd.underlying4 Tryd.underlying23))) (And.intro (And.intro Tryd.underlying24 Tryd.underlying27) (And.intro Tryd.underlying29 (And.intro Tryd.underlying34 Tryd.underlying38))))))
theorem Y1OuR {G R : Prop} (r : R) (h : R → G := by intro r; first | (apply WP.region; exact rvc_sound _ _ (Sm.out r)) | exact WP.drawN (cs := [7]) (k := 8) (bs := [nb7]) mixed (by decide +kernel) (by decide +kernel) (by decide +kernel) (by decide +kernel) (Sm.out r) | exact WP.drawK rfl mixed (by decide +kernel) (Sm.out r) | (apply WP.block; exact r) | (apply WP.skip; exact Yq r) | (apply WP.exit; exact Yq r) | (apply WP.ret; exact Sm.out r) | exact WP.cond rfl (fun _ => r) (fun hg => absurd hg (by decide)) | exact WP.cond rfl (fun hg => absurd hg (by decide)) (fun _ => r) | exact Rt.mk (And.intro (fun _ => Sm.out r) fun hg => absurd hg (by decide)) | exact Rt.mk (And.intro (fun hg => absurd hg (by decide)) fun _ => Sm.out r)) : G := h r
theorem YzOuR {G R : Prop} (r : R) (h : R → G := by intro r; first | (apply ExG.no; exact Sm.out r) | (apply Or.inl; apply ExG.no; exact Sm.out r) | exact Or.inl (And.intro (fun hg => absurd hg (by decide)) (ExG.no (Sm.out r)))) : G := h r
theorem YsOuR0 {P Q : Prop} (q : Q) (h : P = Q := by (try (conv => lhs; simp -dsimp only [ZK, rvc, capA, appA, litL, mkfv, drawF, headN, pureH, stp, dvc, calleeOf, gcall, pev, eff, newB, okd, og, ogs, ogo, ogp, slv, bltv, opd, litv, strip, one, both, putE, St.put, look, gdOf, gdv, picka, pickv, pickw, binv, bini, bins, binb, binp, binq, isSlT, bina, shp, eqCells, unv, convv, nilv, faddv, addp, idxav, idxp, load1, load1m, loadn, loadnm, loadv, hget, hset, hrep, hdel, slicev, slice3v, bnd, shift1, lenv, capv, IntKind.bits, extractv, fieldv, indexv, min2v, max2v, mkiv, tasv, tasz, cellsA, fillA, buildv, stC, oneC, rowMB, intsA, plN, appE, appZ, appC, appS, srcB, appNZ, appNC, VwL, srcC, srcZ, srcM, isBoolT, isPtrT, isSliceT, uOk, Value.oneCell', Nat.reducePow, Int.reducePow, Nat.reduceAdd, Nat.reduceMul, Nat.reduceSub, Nat.reduceLT, Nat.reduceLeDiff, Nat.reduceEqDiff, Nat.reduceBEq, Nat.reduceDiv, Nat.reduceMod, ↓reduceIte, reduceCtorEq, Int.reduceToNat, Int.reduceLT, Int.reduceLE, drawNF, drawNF1, drawNTF, nvc, xst, chF, chS, splA, mkV, splitH, calleeV, putE, hdel, TFOuR, SeqQ, BlkQ, LoopQ, BodyQ, Nat.sub_zero, List.nil_append, Nat.zero_add, FA.out, FR.out])) <;> exact rfl) : P := h.mpr q
set_option maxRecDepth 8000 in
set_option maxHeartbeats 4000000 in
theorem rack_del (nt : Nt) (b : Bx) (k : Ky) (now : Int) (f : Bool) (n : Nat) (hn : b.l.length = n) (hl : n ≤ 100000) (hz : ∀ e ∈ b.l, Kz e.k) (h5 : (f && !k.s && decide (0 < nt.rep)) = false) :
    ACt Tryd.prog 22 [ntv nt, .agg [.sl n (ecs b.l), iv .u64 b.d], kv k, iv .i64 now, bv f] [] (fun r F' => Vw F' r (akR nt b k now f)) := by
  have cN := rnotify_ct nt
  have cR := rbright_ct b n hn hl hz
  have cT := rtick_ct now
  have cF := rfind_ct b k n hn hl
  have cW := fun m x c => with_l (ecs b.l) n m c (some ⟨x, 0, none⟩) b.d
  have hCl := ecs_len b.l
  have hdr := ecs_drop b.l
  have ho := ecs_one b.l
  have hA1 := ak_arg (n := nt) (b := b) (k := k) (now := now) (f := f)
  have hA2 := ak_name (n := nt) (b := b) (k := k) (now := now) (f := f)
  have hA3 := fun (j : Nat) (e : En) => ak_known (n := nt) (b := b) (k := k) (now := now) (f := f) (j := j) (e := e)
  have hA4 := fun (j : Nat) (e : En) => ak_del (n := nt) (b := b) (k := k) (now := now) (f := f) (j := j) (e := e)
  have hix := ixE_lt b.l k 0 (Int.le_refl _)
  obtain ⟨l, d⟩ := b
  simp only at hn hz cR cF cW hCl hdr ho hA1 hA2 hA3 hA4 hix ⊢
  rw [hn] at hCl hA1 hA2 hix
  simp only [hn] at hA3 hA4
  obtain ⟨R, hR⟩ : ∃ R, R = akR nt ⟨l, d⟩ k now f := ⟨_, rfl⟩
  rw [← hR] at hA1 hA2 ⊢
  simp only [← hR] at hA3 hA4
  obtain ⟨C, hC'⟩ : ∃ C, C = ecs l := ⟨_, rfl⟩
  rw [← hC'] at cR cF cW hCl hdr ho hA1 hA2 ⊢
  simp only [← hC'] at hA3 hA4
  obtain ⟨p1, h1⟩ : ∃ p, ntB nt = p := ⟨_, rfl⟩
  obtain ⟨p2, h2⟩ : ∃ p, bxB ⟨l, d⟩ = p := ⟨_, rfl⟩
  obtain ⟨p4, h4⟩ : ∃ p, tkB now = p := ⟨_, rfl⟩
  obtain ⟨x, hx⟩ : ∃ x : Int, ixE l k 0 = x := ⟨_, rfl⟩
  rw [h1] at cN hA1 hA2
  rw [h2] at cR hA1 hA2
  rw [h4] at cT hA1 hA2
  simp only [h1, h2, h4] at hA3 hA4
  rw [hx] at cF hA2 hix
  simp only [hx] at hA3 hA4
  clear hR h1 h2 h4 hx hC' hz
  obtain ⟨kg, kr, kp, ke, ks⟩ := k
  by_cases hx0 : x < 0
  · have k0 : decide (x < 0) = true := decide_eq_true hx0
    obtain ⟨ro, re, fi, ca, rp⟩ := nt
    refine ACt.intro Tryd.func22 rfl (by kernel_rfl) (by simp [Tryd.ntmps22]) (fun cx => ?_)
    simp only [argE, Tryd.ntmps22, Tryd.results22]
    first | (have FRx := FR; clear FRx) | have FR := fr0S
    have FA := Sm.mk (And.intro TFOuR (And.intro k0 (And.intro hCl ho)))
    repeat' first | (apply Sm.mk; refine Ys ?_) | refine WP.seq fun K hK => ?_ | (apply Ob.mk; exact Yo) | refine And.intro (Ob.out ?_) ?_ | refine Y1OuR ?_ | refine Yc (c := cN) (r := ?_) | refine Yc (c := cR) (r := ?_) | refine Yc (c := cT) (r := ?_) | refine Yc (c := cF) (r := ?_) | refine YzOuR ?_ | (refine WP.cond rfl (fun hc => ?_) (fun hc => ?_) <;> (try simp only [ZC, reduceCtorEq, ZD] at hc) <;> (try exact absurd hc (by decide)) <;> (try (exfalso; omega))) | refine Rt.mk (And.intro (fun hg => Sm.out ?_) fun hg => Sm.out ?_) | (refine Nu.mk ?_; first | (fail_if_success have := nb1); intro nb1 | (fail_if_success have := nb2); intro nb2 | (fail_if_success have := nb3); intro nb3 | (fail_if_success have := nb4); intro nb4 | (fail_if_success have := nb5); intro nb5 | (fail_if_success have := nb6); intro nb6 | (fail_if_success have := nb7); intro nb7 | (fail_if_success have := nb8); intro nb8 | (fail_if_success have := nb9); intro nb9 | (fail_if_success have := nb10); intro nb10 | (fail_if_success have := nb11); intro nb11 | (fail_if_success have := nb12); intro nb12 | (fail_if_success have := nb13); intro nb13 | (fail_if_success have := nb14); intro nb14 | (fail_if_success have := nb15); intro nb15 | (fail_if_success have := nb16); intro nb16 | (fail_if_success have := nb17); intro nb17 | (fail_if_success have := nb18); intro nb18 | intro nbz) | (apply Yfr; refine Yf FR fun hFRb FR => ?_) | refine Two.mk ?_ ?_ | (apply Yxc; exact Yx) | refine Cs.mk fun hcs => Sm.out ?_ | go_step | omega | (simp only [maxLen_eq]; omega) | exact trivial
    · have hp : (p1 && p2 && p4) = false := by
        revert hc
        cases p1 <;> cases p2 <;> cases p4 <;> simp
      (refine OutQ.drop [] _ (List.Perm.refl _) (by simp only [resv, ZK, look, loadv, loadn, loadnm, load1, load1m, hget, ↓reduceIte, Nat.reduceEqDiff, Nat.reduceAdd, Nat.reduceMul, Nat.reduceLeDiff, Nat.reduceLT, reduceCtorEq, TFOuR, FR.out]) ?_; simp only [resv, resA, ZK, look, loadv, loadn, loadnm, load1, load1m, hget, ↓reduceIte, Nat.reduceEqDiff, Nat.reduceAdd, Nat.reduceMul, Nat.reduceLeDiff, Nat.reduceLT, reduceCtorEq, TFOuR, FR.out]; exact vw_eq (hA1 hp))
    · have hp : (p1 && p2 && p4) = true := by
        revert hc
        cases p1 <;> cases p2 <;> cases p4 <;> simp
      (refine OutQ.drop [] _ (List.Perm.refl _) (by simp only [resv, ZK, look, loadv, loadn, loadnm, load1, load1m, hget, ↓reduceIte, Nat.reduceEqDiff, Nat.reduceAdd, Nat.reduceMul, Nat.reduceLeDiff, Nat.reduceLT, reduceCtorEq, TFOuR, FR.out]) ?_; simp only [resv, resA, ZK, look, loadv, loadn, loadnm, load1, load1m, hget, ↓reduceIte, Nat.reduceEqDiff, Nat.reduceAdd, Nat.reduceMul, Nat.reduceLeDiff, Nat.reduceLT, reduceCtorEq, TFOuR, FR.out]; exact vw_eq (hA2 hp hx0))
  · obtain ⟨j, rfl⟩ := Int.eq_ofNat_of_zero_le (show 0 ≤ x by omega)
    have hj : j < n := by omega
    have k0 : decide ((j : Int) < 0) = false := decide_eq_false (by omega)
    have hd := hdr j (by omega)
    obtain ⟨v, hv⟩ : ∃ v, v = l[j]'(by omega) := ⟨_, rfl⟩
    have hv2 : l.getD j dEn = v := by rw [hv, List.getD_eq_getElem?_getD, List.getElem?_eq_getElem (by omega)]; rfl
    rw [← hv] at hd
    have hB3 := fun (h : (p1 && p2 && p4) = true) => hA3 j v h rfl hv2
    have hB4 := fun (h : (p1 && p2 && p4) = true) (ha : v.a = false) => hA4 j v h rfl hj hv2 ha h5
    clear hv hv2 hdr hA2 hix hA3 hA4
    have q1 : (j + 1) * 9 ≤ C.length := by omega
    have s1 : IntKind.i64.wrap ((j : Int) + 1) = ((j + 1 : Nat) : Int) := by rw [wrap_i64 (by omega) (by omega)]; omega
    have t1 : ∀ q : Nat, ((q : Nat) : Int).toNat = q := fun q => by omega
    obtain ⟨y, hy⟩ : ∃ y, decide (0 < nt.rep) = y := ⟨_, rfl⟩
    have hy2 : decide (nt.rep > 0) = y := hy
    rw [hy] at h5
    have hN : akN nt v now = IntKind.i64.wrap ((if now < v.b then v.b else now) + nt.rep) := rfl
    obtain ⟨N, hN'⟩ : ∃ N, N = akN nt v now := ⟨_, rfl⟩
    try rw [← hN'] at hB4
    rw [← hN'] at hN
    obtain ⟨T, hT⟩ : ∃ T, T = C.take (j * 9) := ⟨_, rfl⟩
    have hTl : T.length = j * 9 := by rw [hT, List.length_take]; omega
    have hTo : T.all oneC = true := by
      rw [hT, List.all_eq_true]
      intro y hy
      exact List.all_eq_true.1 ho y (List.mem_of_mem_take hy)
    have hTt : T.take (j * 9) = T := List.take_of_length_le (by omega)
    obtain ⟨U, hU⟩ : ∃ U, U = C.drop ((j + 1) * 9) := ⟨_, rfl⟩
    obtain ⟨M, hM⟩ : ∃ M, M = n - (j + 1) := ⟨_, rfl⟩
    have hUl : U.length = M * 9 := by rw [hU, List.length_drop]; omega
    have hUo : U.all oneC = true := by
      rw [hU, List.all_eq_true]
      intro y hy
      exact List.all_eq_true.1 ho y (List.mem_of_mem_drop hy)
    have hUt : U.take (M * 9) = U := List.take_of_length_le (by omega)
    rw [← hT, ← hU] at hB4
    have hT' := hT.symm
    have hU' := hU.symm
    have hM' := hM.symm
    obtain ⟨⟨vg, vr, vp, ve, vs⟩, eb, en, et, ea⟩ := v
    simp only at hd hB3 hB4 hN
    obtain ⟨ro, re, fi, ca, rp⟩ := nt
    simp only at hy2 hN
    have hjn : j ≤ n := by omega
    have e5 : C.take (n * 9) = C := List.take_of_length_le (by omega)
    have hj1 : j + 1 ≤ n := by omega
    refine ACt.intro Tryd.func22 rfl (by kernel_rfl) (by simp [Tryd.ntmps22]) (fun cx => ?_)
    simp only [argE, Tryd.ntmps22, Tryd.results22]
    have cV := cW (n - 1)
    have e1 : j + M = n - 1 := by omega
    first | (have FRx := FR; clear FRx) | have FR := fr0S
    have FA := Sm.mk (And.intro TFOuR (And.intro k0 (And.intro hd (And.intro q1 (And.intro hj (And.intro hjn (And.intro hj1 (And.intro s1 (And.intro t1 (And.intro hy2 (And.intro h5 (And.intro hCl (And.intro hT' (And.intro hTl (And.intro hTo (And.intro hTt (And.intro hU' (And.intro hUl (And.intro hUo (And.intro hUt (And.intro hM' (And.intro e5 e1))))))))))))))))))))))
    repeat' first | (apply Sm.mk; refine YsOuR0 ?_) | refine WP.seq fun K hK => ?_ | (apply Ob.mk; exact Yo) | refine And.intro (Ob.out ?_) ?_ | refine Y1OuR ?_ | refine Yc (c := cN) (r := ?_) | refine Yc (c := cR) (r := ?_) | refine Yc (c := cT) (r := ?_) | refine Yc (c := cF) (r := ?_) | refine Yc (c := cV nb9 nb10) (r := ?_) | refine YzOuR ?_ | (refine WP.cond rfl (fun hc => ?_) (fun hc => ?_) <;> (try simp only [ZC, reduceCtorEq, ZD] at hc) <;> (try exact absurd hc (by decide)) <;> (try (exfalso; omega))) | refine Rt.mk (And.intro (fun hg => Sm.out ?_) fun hg => Sm.out ?_) | (refine Nu.mk ?_; first | (fail_if_success have := nb1); intro nb1 | (fail_if_success have := nb2); intro nb2 | (fail_if_success have := nb3); intro nb3 | (fail_if_success have := nb4); intro nb4 | (fail_if_success have := nb5); intro nb5 | (fail_if_success have := nb6); intro nb6 | (fail_if_success have := nb7); intro nb7 | (fail_if_success have := nb8); intro nb8 | (fail_if_success have := nb9); intro nb9 | (fail_if_success have := nb10); intro nb10 | (fail_if_success have := nb11); intro nb11 | (fail_if_success have := nb12); intro nb12 | (fail_if_success have := nb13); intro nb13 | (fail_if_success have := nb14); intro nb14 | (fail_if_success have := nb15); intro nb15 | (fail_if_success have := nb16); intro nb16 | (fail_if_success have := nb17); intro nb17 | (fail_if_success have := nb18); intro nb18 | intro nbz) | (apply Yfr; refine Yf FR fun hFRb FR => ?_) | refine Two.mk ?_ ?_ | (apply Yxc; exact Yx) | refine Cs.mk fun hcs => Sm.out ?_ | go_step | omega | (simp only [maxLen_eq]; omega) | exact trivial
    · have hp : (p1 && p2 && p4) = false := by
        revert hc
        cases p1 <;> cases p2 <;> cases p4 <;> simp
      (refine OutQ.drop [] _ (List.Perm.refl _) (by simp only [resv, ZK, look, loadv, loadn, loadnm, load1, load1m, hget, ↓reduceIte, Nat.reduceEqDiff, Nat.reduceAdd, Nat.reduceMul, Nat.reduceLeDiff, Nat.reduceLT, reduceCtorEq, TFOuR, FR.out]) ?_; simp only [resv, resA, ZK, look, loadv, loadn, loadnm, load1, load1m, hget, ↓reduceIte, Nat.reduceEqDiff, Nat.reduceAdd, Nat.reduceMul, Nat.reduceLeDiff, Nat.reduceLT, reduceCtorEq, TFOuR, FR.out]; exact vw_eq (hA1 hp))
    · have hcA : (p1 = true ∧ p2 = true) ∧ p4 = true := by assumption
      have hcB : ea = true := by assumption
      have hp : (p1 && p2 && p4) = true := by rw [hcA.1.1, hcA.1.2, hcA.2]; rfl
      (refine OutQ.drop [] _ (List.Perm.refl _) (by simp only [resv, ZK, look, loadv, loadn, loadnm, load1, load1m, hget, ↓reduceIte, Nat.reduceEqDiff, Nat.reduceAdd, Nat.reduceMul, Nat.reduceLeDiff, Nat.reduceLT, reduceCtorEq, TFOuR, FR.out]) ?_; simp only [resv, resA, ZK, look, loadv, loadn, loadnm, load1, load1m, hget, ↓reduceIte, Nat.reduceEqDiff, Nat.reduceAdd, Nat.reduceMul, Nat.reduceLeDiff, Nat.reduceLT, reduceCtorEq, TFOuR, FR.out]; exact vw_eq (hB3 hp hcB))
    · have hcA : (p1 = true ∧ p2 = true) ∧ p4 = true := by assumption
      have hcB : ea = false := by assumption
      have hp : (p1 && p2 && p4) = true := by rw [hcA.1.1, hcA.1.2, hcA.2]; rfl
      (refine OutQ.drop _ _ (perm1 (b := nb9) (by simp only [hget, hdel, ↓reduceIte, if_true, if_false, FR.out]; first | done | rfl)) (by simp only [resv, ZK, look, loadv, loadn, loadnm, load1, load1m, hget, ↓reduceIte, Nat.reduceEqDiff, Nat.reduceAdd, Nat.reduceMul, Nat.reduceLeDiff, Nat.reduceLT, reduceCtorEq, TFOuR, FR.out]) ?_; simp only [resv, resA, ZK, look, loadv, loadn, loadnm, load1, load1m, hget, ↓reduceIte, Nat.reduceEqDiff, Nat.reduceAdd, Nat.reduceMul, Nat.reduceLeDiff, Nat.reduceLT, reduceCtorEq, TFOuR, FR.out]; exact vw_ad (hB4 hp hcB) hFRb.1 hFRb.2)
end Go.Proofs.YtfknbndmabogjaaDoor
