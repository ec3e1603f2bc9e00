/-
  The walks and the laws that the statement leans on, part 37.
-/
import Derived.Test.YtaffbklkjjmmdaaDoorC9
import Derived.Test.YtaffbklkjjmmdaaDoorC33
namespace Go.Proofs.YtaffbklkjjmmdaaDoor
open Go
set_option linter.unusedVariables false
set_option linter.unusedSimpArgs false
set_option linter.defProp false
def TFHuV :=
  And.intro (And.intro (And.intro (And.intro (And.intro tyc0 tyc3) (And.intro zmb3 tyc4)) (And.intro (And.intro zmb4 tyc22) (And.intro elt22 (And.intro mkz22 mkc22)))) (And.intro (And.intro (And.intro apT22 elk22) (And.intro zmb22 tyc32)) (And.intro (And.intro foff32_0 fpart32_0) (And.intro foff32_1 (And.intro fpart32_1 foff32_2))))) (And.intro (And.intro (And.intro (And.intro fpart32_2 foff32_3) (And.intro fpart32_3 foff32_4)) (And.intro (And.intro fpart32_4 fe32) (And.intro zmb32 (And.intro bldT32 tyc62)))) (And.intro (And.intro (And.intro zmb62 tyc128) (And.intro zmb128 (And.intro Tryd.underlying0 Tryd.underlying3))) (And.intro (And.intro Tryd.underlying4 Tryd.underlying22) (And.intro Tryd.underlying32 (And.intro Tryd.underlying62 Tryd.underlying128)))))
theorem Y1HuV {G R : Prop} (r : R) (h : R → G := by intro r; first | (apply WP.region; exact rvc_sound _ _ (Sm.out r)) | exact WP.drawK rfl mixed (by decide +kernel) (Sm.out r) | (apply WP.block; exact r) | (apply WP.skip; exact Yq r) | (apply WP.exit; exact Yq r) | (apply WP.ret; exact Sm.out r) | exact WP.cond rfl (fun _ => r) (fun hg => absurd hg (by decide)) | exact WP.cond rfl (fun hg => absurd hg (by decide)) (fun _ => r) | exact Rt.mk (And.intro (fun _ => Sm.out r) fun hg => absurd hg (by decide)) | exact Rt.mk (And.intro (fun hg => absurd hg (by decide)) fun _ => Sm.out r)) : G := h r
theorem YzHuV {G R : Prop} (r : R) (h : R → G := by intro r; first | (apply ExG.no; exact Sm.out r) | (apply Or.inl; apply ExG.no; exact Sm.out r) | exact Or.inl (And.intro (fun hg => absurd hg (by decide)) (ExG.no (Sm.out r)))) : G := h r
theorem YsHuV0 {P Q : Prop} (q : Q) (h : P = Q := by (try (conv => lhs; simp -dsimp only [ZK, rvc, capA, appA, litL, mkfv, drawF, headN, pureH, stp, dvc, calleeOf, gcall, pev, eff, newB, okd, og, ogs, ogo, ogp, slv, bltv, opd, litv, strip, one, both, putE, St.put, look, gdOf, gdv, picka, pickv, pickw, binv, bini, bins, binb, binp, binq, isSlT, bina, shp, eqCells, unv, convv, nilv, faddv, addp, idxav, idxp, load1, load1m, loadn, loadnm, loadv, hget, hset, hrep, hdel, slicev, slice3v, bnd, shift1, lenv, capv, IntKind.bits, extractv, fieldv, indexv, min2v, max2v, mkiv, tasv, tasz, cellsA, fillA, buildv, stC, oneC, rowMB, intsA, plN, appE, appZ, appC, appS, srcB, appNZ, appNC, VwL, srcC, srcZ, srcM, isBoolT, isPtrT, isSliceT, uOk, Value.oneCell', Nat.reducePow, Int.reducePow, Nat.reduceAdd, Nat.reduceMul, Nat.reduceSub, Nat.reduceLT, Nat.reduceLeDiff, Nat.reduceEqDiff, Nat.reduceBEq, Nat.reduceDiv, Nat.reduceMod, ↓reduceIte, reduceCtorEq, Int.reduceToNat, Int.reduceLT, Int.reduceLE, TFHuV, SeqQ, BlkQ, LoopQ, BodyQ, dkn, kst, fvOf, FA.out, FR.out])) <;> exact rfl) : P := h.mpr q
structure O2 where
  a : Nat
  b : Nat
  s : Int
set_option maxHeartbeats 4000000 in
theorem ord_ct (D : List Sl) (x n k w a b lo hi : Nat) (s : Int) (hn : D.length = n) (hl : n ≤ 100000) (hk : n ≤ k ∧ k ≤ 9223372036854775807) (hf : ∀ e ∈ D, fb e) (hhi : hi ≤ n) (ha : lo ≤ a ∧ a < hi) (hb : lo ≤ b ∧ b < hi) (hs : 0 ≤ s ∧ s ≤ 1000) (hxw : x ≠ w ∧ w ≠ x) :
    ACt Tryd.prog 109 [ms x 0 n k, iv .i64 (a : Int), iv .i64 (b : Int), pt w 0, fCm] [(x, .cells (scs D) (k * 5) 32), (w, .cells [iv .i64 s] 1 3)]
      (fun r F' => ∃ g : O2, ((lo ≤ g.a ∧ g.a < hi) ∧ (lo ≤ g.b ∧ g.b < hi) ∧ 0 ≤ g.s ∧ g.s ≤ s + 1) ∧ r = .tup [iv .i64 (g.a : Int), iv .i64 (g.b : Int)] ∧ F' = [(x, .cells (scs D) (k * 5) 32), (w, .cells [iv .i64 g.s] 1 3)]) := by
  have hCl := scs_len D
  rw [hn] at hCl
  have hd1 := scs_at D b (by omega)
  have hd2 := scs_at D a (by omega)
  have cF := cmp_ct (at_ D b) (at_ D a) (fb_at hf (List.Perm.refl _) (by omega)) (fb_at hf (List.Perm.refl _) (by omega))
  obtain ⟨C, hC⟩ : ∃ C, C = scs D := ⟨_, rfl⟩
  rw [← hC] at hCl hd1 hd2 ⊢
  obtain ⟨u, hu⟩ : ∃ u, at_ D b = u := ⟨_, rfl⟩
  obtain ⟨v, hv⟩ : ∃ v, at_ D a = v := ⟨_, rfl⟩
  rw [hu] at hd1 cF
  rw [hv] at hd2 cF
  obtain ⟨z, hz⟩ : ∃ z : Int, cmpI u v = z := ⟨_, rfl⟩
  rw [hz] at cF
  obtain ⟨q, hq⟩ : ∃ q, decide (z < 0) = q := ⟨_, rfl⟩
  obtain ⟨un, ug, uw, uf, ut⟩ := u
  obtain ⟨vn, vg, vw, vf, vt⟩ := v
  clear hu hv hz hC hf
  try simp only at hd1 hd2 cF
  have q1 : (b + 1) * 5 ≤ C.length := by omega
  have q2 : (a + 1) * 5 ≤ C.length := by omega
  have q3 : a < n := by omega
  have q4 : b < n := by omega
  have s1 : IntKind.i64.wrap (s + 1) = s + 1 := wrap_i64 (by omega) (by omega)
  refine ACt.intro Tryd.func109 rfl (by kernel_rfl) (by simp [Tryd.ntmps109]) (fun cx => ?_)
  simp only [argE, Tryd.ntmps109, Tryd.results109]
  first | (have FRx := FR; clear FRx) | have FR := fr0S
  have FA := Sm.mk (And.intro TFHuV hxw)
  repeat' first | (apply Sm.mk; refine Ys ?_) | refine WP.seq fun K hK => ?_ | (apply Ob.mk; exact Yo) | refine And.intro (Ob.out ?_) ?_ | ((fail_if_success (show WP _ _ _ (.region 1 _ _) _ _)); refine Y1HuV ?_) | refine YzHuV ?_ | (refine WP.cond rfl (fun hc => ?_) (fun hc => ?_) <;> (try simp only [ZC, reduceCtorEq, ZD] at hc) <;> (try exact absurd hc (by decide)) <;> (try (exfalso; omega))) | refine Rt.mk (And.intro (fun hg => Sm.out ?_) fun hg => Sm.out ?_) | (refine Nu.mk ?_; first | (fail_if_success have := nb1); intro nb1 | (fail_if_success have := nb2); intro nb2 | (fail_if_success have := nb3); intro nb3 | (fail_if_success have := nb4); intro nb4 | intro nbz) | (apply Yfr; refine Yf FR fun hFRb FR => ?_) | refine Two.mk ?_ ?_ | (apply Yxc; exact Yx) | refine Cs.mk fun hcs => Sm.out ?_ | go_step | omega | (simp only [maxLen_eq]; omega) | exact trivial
  refine WP.drawV (k := 11) mixed (by decide +kernel) (Sm.out ?_)
  cases q with
  | true =>
    first | (have FRx := FR; clear FRx) | have FR := fr0S
    have FA := Sm.mk (And.intro TFHuV (And.intro hxw (And.intro hd1 (And.intro hd2 (And.intro q1 (And.intro q2 (And.intro q3 (And.intro q4 (And.intro hq (And.intro s1 hCl))))))))))
    repeat' first | (apply Sm.mk; refine YsHuV0 ?_) | refine WP.seq fun K hK => ?_ | (apply Ob.mk; exact Yo) | refine And.intro (Ob.out ?_) ?_ | refine Y1HuV ?_ | refine Yc (c := cF) (r := ?_) | refine YzHuV ?_ | (refine WP.cond rfl (fun hc => ?_) (fun hc => ?_) <;> (try simp only [ZC, reduceCtorEq, ZD] at hc) <;> (try exact absurd hc (by decide)) <;> (try (exfalso; omega))) | refine Rt.mk (And.intro (fun hg => Sm.out ?_) fun hg => Sm.out ?_) | (refine Nu.mk ?_; first | (fail_if_success have := nb1); intro nb1 | (fail_if_success have := nb2); intro nb2 | (fail_if_success have := nb3); intro nb3 | (fail_if_success have := nb4); intro nb4 | intro nbz) | (apply Yfr; refine Yf FR fun hFRb FR => ?_) | refine Two.mk ?_ ?_ | (apply Yxc; exact Yx) | refine Cs.mk fun hcs => Sm.out ?_ | go_step | omega | (simp only [maxLen_eq]; omega) | exact trivial
    (refine OutQ.drop _ _ (perm2 (by simp only [hget, hdel, ↓reduceIte, if_true, if_false, FR.out, hxw]; first | done | rfl) (by simp only [hget, hdel, ↓reduceIte, if_true, if_false, FR.out, hxw]; first | done | rfl)) (by simp only [resv, ZK, look, loadv, loadn, loadnm, load1, load1m, hget, ↓reduceIte, Nat.reduceEqDiff, Nat.reduceAdd, Nat.reduceMul, Nat.reduceLeDiff, Nat.reduceLT, reduceCtorEq, TFHuV, FR.out, hxw]) ⟨⟨b, a, s + 1⟩, ⟨hb, ha, by simp only; omega, by simp only; omega⟩, (by simp only [resv, resA, ZK, look, loadv, loadn, loadnm, load1, load1m, hget, ↓reduceIte, Nat.reduceEqDiff, Nat.reduceAdd, Nat.reduceMul, Nat.reduceLeDiff, Nat.reduceLT, reduceCtorEq, TFHuV, FR.out, hxw]; first | done | rfl), rfl⟩)
  | false =>
    first | (have FRx := FR; clear FRx) | have FR := fr0S
    have FA := Sm.mk (And.intro TFHuV (And.intro hxw (And.intro hd1 (And.intro hd2 (And.intro q1 (And.intro q2 (And.intro q3 (And.intro q4 (And.intro hq (And.intro s1 hCl))))))))))
    repeat' first | (apply Sm.mk; refine YsHuV0 ?_) | refine WP.seq fun K hK => ?_ | (apply Ob.mk; exact Yo) | refine And.intro (Ob.out ?_) ?_ | refine Y1HuV ?_ | refine Yc (c := cF) (r := ?_) | refine YzHuV ?_ | (refine WP.cond rfl (fun hc => ?_) (fun hc => ?_) <;> (try simp only [ZC, reduceCtorEq, ZD] at hc) <;> (try exact absurd hc (by decide)) <;> (try (exfalso; omega))) | refine Rt.mk (And.intro (fun hg => Sm.out ?_) fun hg => Sm.out ?_) | (refine Nu.mk ?_; first | (fail_if_success have := nb1); intro nb1 | (fail_if_success have := nb2); intro nb2 | (fail_if_success have := nb3); intro nb3 | (fail_if_success have := nb4); intro nb4 | intro nbz) | (apply Yfr; refine Yf FR fun hFRb FR => ?_) | refine Two.mk ?_ ?_ | (apply Yxc; exact Yx) | refine Cs.mk fun hcs => Sm.out ?_ | go_step | omega | (simp only [maxLen_eq]; omega) | exact trivial
    (refine OutQ.drop _ _ (perm2 (by simp only [hget, hdel, ↓reduceIte, if_true, if_false, FR.out, hxw]; first | done | rfl) (by simp only [hget, hdel, ↓reduceIte, if_true, if_false, FR.out, hxw]; first | done | rfl)) (by simp only [resv, ZK, look, loadv, loadn, loadnm, load1, load1m, hget, ↓reduceIte, Nat.reduceEqDiff, Nat.reduceAdd, Nat.reduceMul, Nat.reduceLeDiff, Nat.reduceLT, reduceCtorEq, TFHuV, FR.out, hxw]) ⟨⟨a, b, s⟩, ⟨ha, hb, by simp only; omega, by simp only; omega⟩, (by simp only [resv, resA, ZK, look, loadv, loadn, loadnm, load1, load1m, hget, ↓reduceIte, Nat.reduceEqDiff, Nat.reduceAdd, Nat.reduceMul, Nat.reduceLeDiff, Nat.reduceLT, reduceCtorEq, TFHuV, FR.out, hxw]; first | done | rfl), rfl⟩)
end Go.Proofs.YtaffbklkjjmmdaaDoor
