/-
  The walks and the laws that the statement leans on, part 35.
-/
import Derived.Test.YtaffbklkjjmmdaaDoorC9
import Derived.Test.YtaffbklkjjmmdaaDoorC34
namespace Go.Proofs.YtaffbklkjjmmdaaDoor
open Go
set_option linter.unusedVariables false
set_option linter.unusedSimpArgs false
set_option linter.defProp false
def TFHuP :=
  And.intro (And.intro (And.intro (And.intro (And.intro tyc0 tyc2) (And.intro zmb2 (And.intro tyc4 zmb4))) (And.intro (And.intro tyc22 (And.intro elt22 mkz22)) (And.intro mkc22 (And.intro apT22 elk22)))) (And.intro (And.intro (And.intro zmb22 (And.intro tyc25 foff25_0)) (And.intro fpart25_0 (And.intro foff25_1 fpart25_1))) (And.intro (And.intro foff25_2 (And.intro fpart25_2 foff25_3)) (And.intro fpart25_3 (And.intro foff25_4 fpart25_4))))) (And.intro (And.intro (And.intro (And.intro fe25 zmb25) (And.intro bldT25 (And.intro tyc32 foff32_0))) (And.intro (And.intro fpart32_0 (And.intro foff32_1 fpart32_1)) (And.intro foff32_2 (And.intro fpart32_2 foff32_3)))) (And.intro (And.intro (And.intro fpart32_3 (And.intro foff32_4 fpart32_4)) (And.intro fe32 (And.intro zmb32 bldT32))) (And.intro (And.intro Tryd.underlying0 (And.intro Tryd.underlying2 Tryd.underlying4)) (And.intro Tryd.underlying22 (And.intro Tryd.underlying25 Tryd.underlying32)))))
theorem Y1HuP {G R : Prop} (r : R) (h : R → G := by intro r; first | (apply WP.region; exact rvc_sound _ _ (Sm.out r)) | exact WP.drawK rfl mixed (by decide +kernel) (Sm.out r) | (apply WP.block; exact r) | (apply WP.skip; exact Yq r) | (apply WP.exit; exact Yq r) | (apply WP.ret; exact Sm.out r) | exact WP.cond rfl (fun _ => r) (fun hg => absurd hg (by decide)) | exact WP.cond rfl (fun hg => absurd hg (by decide)) (fun _ => r) | exact Rt.mk (And.intro (fun _ => Sm.out r) fun hg => absurd hg (by decide)) | exact Rt.mk (And.intro (fun hg => absurd hg (by decide)) fun _ => Sm.out r)) : G := h r
theorem YzHuP {G R : Prop} (r : R) (h : R → G := by intro r; first | (apply ExG.no; exact Sm.out r) | (apply Or.inl; apply ExG.no; exact Sm.out r) | exact Or.inl (And.intro (fun hg => absurd hg (by decide)) (ExG.no (Sm.out r)))) : G := h r
def a0 : Sl := ⟨⟨#[97]⟩, ⟨#[42]⟩, 0, 10, 20⟩
def b0 : Sl := ⟨⟨#[98]⟩, ⟨#[120]⟩, 0, 15, 30⟩
def k0 : Ky := ⟨⟨#[120]⟩, ⟨#[114]⟩, false, 1, false⟩
theorem gr_of {l : List Int} (h : ∀ r ∈ l, 0 ≤ r ∧ r < 55296) : ∀ r ∈ l, Gr r := fun r hr => by have := h r hr; unfold Gr; omega
theorem rt_encs {l : List Int} (h : ∀ r ∈ l, Gr r) (h0 : l ≠ []) (h1 : l.length ≤ 40) : rtB (l.flatMap enc8) = true := by
  unfold rtB
  have e := rn_encs0 h
  have hg : gdB (l.flatMap enc8) = true := gdB_iff.2 (gd_encs h)
  rw [hg, e, decide_eq_true (show (l.length : Int) ≤ 40 by omega)]
  have : l.flatMap enc8 ≠ [] := fun hz => by rw [hz] at e; exact h0 e.symm
  simp [this]
theorem mt_encs {l t : List Int} (h : ∀ r ∈ l, 0 ≤ r ∧ r < 55296) (h0 : l ≠ []) (h1 : l.length ≤ 40) (ht : ∀ r ∈ t, 0 ≤ r ∧ r < 55296) : mtB (l.flatMap enc8) (t.flatMap enc8) = true ↔ Mt l t := by
  unfold mtB
  rw [rt_encs (gr_of h) h0 h1, Bool.true_and, rn_encs0 (gr_of h), rn_encs0 (gr_of ht)]
  exact ⟨fun h => @of_decide_eq_true _ (Classical.propDecidable _) h, fun h => @decide_eq_true _ (Classical.propDecidable _) h⟩
theorem aw1 : mtB [42] [120] = true := (mt_encs (l := [42]) (t := [120]) (by decide) (by decide) (by decide) (by decide)).2 (Mt_all _)
theorem aw2 : mtB [120] [120] = true := (mt_encs (l := [120]) (t := [120]) (by decide) (by decide) (by decide) (by decide)).2 (by
    rw [Mt_one (by decide)]
    exact ⟨_, _, rfl, .inr rfl, by first | exact Mt.nil | exact (Mt_nil).2 rfl | (unfold Mt; trivial) | simp [Mt]⟩)
theorem gl1 (s : ByteArray) (l : List Int) (e : bs s = l.flatMap enc8) (hs : s.size ≠ 0) (h : ∀ r ∈ l, 0 ≤ r ∧ r < 55296) (h1 : l.length ≤ 40) : glB s = true := by
  unfold glB
  rw [e, rn_encs0 (gr_of h), gdB_iff.2 (gd_encs (gr_of h)), decide_eq_true hs, decide_eq_true (show (l.length : Int) ≤ 40 by omega)]
  rfl
theorem nm_one (c : Int) (h : 97 ≤ c ∧ c ≤ 122) (hn : NameP [c]) (s : ByteArray) (e : bs s = [c].flatMap enc8) : nmS s = true := by
  unfold nmS
  show nmB (rn (bs s)) = true
  rw [e, rn_encs0 (gr_of (l := [c]) (by intro r hr; obtain rfl := List.mem_singleton.1 hr; omega))]
  exact nmB_true hn
theorem np1 : NameP [97] := ⟨by decide, by decide, by decide, fun i hi => by
  obtain rfl : i = 0 := by simpa using hi
  unfold okN; decide⟩
theorem np2 : NameP [98] := ⟨by decide, by decide, by decide, fun i hi => by
  obtain rfl : i = 0 := by simpa using hi
  unfold okN; decide⟩
theorem nm1 : nmS ⟨#[97]⟩ = true := nm_one 97 (by decide) np1 _ rfl
theorem nm2 : nmS ⟨#[98]⟩ = true := nm_one 98 (by decide) np2 _ rfl
theorem ab1 : abB a0 k0 = true := by
  unfold abB srB
  have h1 : nmS a0.nm = true := nm1
  have h2 : glB a0.gl = true := gl1 _ [42] rfl (by decide) (by decide) (by decide)
  have h3 : mtB (bs a0.gl) (bs k0.g) = true := aw1
  rw [h1, h2, h3]
  decide +kernel
theorem ab2 : abB b0 k0 = true := by
  unfold abB srB
  have h1 : nmS b0.nm = true := nm2
  have h2 : glB b0.gl = true := gl1 _ [120] rfl (by decide) (by decide) (by decide)
  have h3 : mtB (bs b0.gl) (bs k0.g) = true := aw2
  rw [h1, h2, h3]
  decide +kernel
theorem un0 : untV [a0, b0] k0 12 = 30 := by
  have h : ([a0, b0] : List Sl).filter (fun s => abB s k0) = [a0, b0] := by simp [ab1, ab2]
  rw [untV_eq (g := [a0, b0]) (n := 2) rfl (by rw [h]) (fun p q h1 h2 h3 => by
    obtain rfl : p = 0 := by omega
    obtain rfl : q = 1 := by omega
    decide)]
  decide
theorem qt29 : qtB [a0, b0] k0 29 = true := by
  unfold qtB cvB
  simp only [List.any_cons, List.any_nil, ab1, ab2]
  decide
theorem qt30 : qtB [a0, b0] k0 30 = false := by
  unfold qtB cvB
  simp only [List.any_cons, List.any_nil, ab1, ab2]
  decide
set_option maxRecDepth 8000 in
theorem awake_ct (n0 n1 : Nat) : ACt Tryd.prog 6 [] [(0, .ro .u8 fsZ 256 n0), (1, .ro .u8 acZ 32 n1)] (fun x F => x = bv true ∧ F = [(0, .ro .u8 fsZ 256 n0), (1, .ro .u8 acZ 32 n1)]) := by
  have hz : ∀ e ∈ [a0, b0], Sz e := fun e he => by
    rcases List.mem_cons.1 he with rfl | he
    · exact ⟨by decide, by decide⟩
    · obtain rfl := List.mem_singleton.1 he
      exact ⟨by decide, by decide⟩
  have c1 := until_ct 12 (by omega) sort12 [a0, b0] k0 12 2 rfl (by omega) hz (by decide) n0 n1
  have c2 := quiet_ct [a0, b0] k0 29 2 rfl (by omega) hz (by decide) n0 n1
  have c3 := quiet_ct [a0, b0] k0 30 2 rfl (by omega) hz (by decide) n0 n1
  rw [un0] at c1
  rw [qt29] at c2
  rw [qt30] at c3
  obtain ⟨D, hD⟩ : ∃ D, scs [a0, b0] = D := ⟨_, rfl⟩
  have hD2 : [AV.lit (.string ⟨#[97]⟩), .lit (.string ⟨#[42]⟩), .lit (.int .i64 0), .lit (.int .i64 10), .lit (.int .i64 20), .lit (.string ⟨#[98]⟩), .lit (.string ⟨#[120]⟩), .lit (.int .i64 0), .lit (.int .i64 15), .lit (.int .i64 30)] = D := hD
  rw [hD] at c1 c2 c3
  have hDl : D.length = 10 := by rw [← hD]; rfl
  unfold k0 kv at c1 c2 c3
  simp only at c1 c2 c3
  clear hD
  obtain ⟨FZ, hFZ⟩ : ∃ FZ, FZ = fsZ := ⟨_, rfl⟩
  obtain ⟨AZ, hAZ⟩ : ∃ AZ, AZ = acZ := ⟨_, rfl⟩
  rw [← hFZ, ← hAZ] at c1 c2 c3 ⊢
  refine ACt.intro Tryd.func6 rfl (by kernel_rfl) (by simp [Tryd.ntmps6]) (fun cx => ?_)
  simp only [argE, Tryd.ntmps6, Tryd.results6]
  have tk : D.take (2 * 5) = D := List.take_of_length_le (by omega)
  first | (have FRx := FR; clear FRx) | have FR := fr0S
  have FA := Sm.mk (And.intro TFHuP hD2)
  repeat' first | (apply Sm.mk; refine Ys ?_) | refine WP.seq fun K hK => ?_ | (apply Ob.mk; exact Yo) | refine And.intro (Ob.out ?_) ?_ | ((fail_if_success (show WP _ _ _ (.region 3 _ _) _ _)); refine Y1HuP ?_) | refine YzHuP ?_ | (refine WP.cond rfl (fun hc => ?_) (fun hc => ?_) <;> (try simp only [ZC, reduceCtorEq, ZD] at hc) <;> (try exact absurd hc (by decide)) <;> (try (exfalso; omega))) | refine Rt.mk (And.intro (fun hg => Sm.out ?_) fun hg => Sm.out ?_) | (refine Nu.mk ?_; first | (fail_if_success have := nb1); intro nb1 | (fail_if_success have := nb2); intro nb2 | (fail_if_success have := nb3); intro nb3 | (fail_if_success have := nb4); intro nb4 | (fail_if_success have := nb5); intro nb5 | (fail_if_success have := nb6); intro nb6 | intro nbz) | (apply Yfr; refine Yf FR fun hFRb FR => ?_) | refine Two.mk ?_ ?_ | (apply Yxc; exact Yx) | refine Cs.mk fun hcs => Sm.out ?_ | go_step | omega | (simp only [maxLen_eq]; omega) | exact trivial
  (refine WP.wk (Wk.freezeC (nb1) (5) (by simp only [ZK, rvc, capA, appA, litL, mkfv, drawF, headN, pureH, stp, dvc, calleeOf, gcall, pev, eff, newB, okd, og, ogs, ogo, ogp, slv, bltv, opd, litv, strip, one, both, putE, St.put, look, gdOf, gdv, picka, pickv, pickw, binv, bini, bins, binb, binp, binq, isSlT, bina, shp, eqCells, unv, convv, nilv, faddv, addp, idxav, idxp, load1, load1m, loadn, loadnm, loadv, hget, hset, hrep, hdel, slicev, slice3v, bnd, shift1, lenv, capv, IntKind.bits, extractv, fieldv, indexv, min2v, max2v, mkiv, tasv, tasz, cellsA, fillA, buildv, stC, oneC, rowMB, intsA, plN, appE, appZ, appC, appS, srcB, appNZ, appNC, VwL, srcC, srcZ, srcM, isBoolT, isPtrT, isSliceT, uOk, Value.oneCell', Nat.reducePow, Int.reducePow, Nat.reduceAdd, Nat.reduceMul, Nat.reduceSub, Nat.reduceLT, Nat.reduceLeDiff, Nat.reduceEqDiff, Nat.reduceBEq, Nat.reduceDiv, Nat.reduceMod, ↓reduceIte, reduceCtorEq, Int.reduceToNat, Int.reduceLT, Int.reduceLE, TFHuP, SeqQ, BlkQ, LoopQ, BodyQ, tk, hDl, List.drop_zero, FR.out]; first | done | rfl)) ?_; simp only [frzCE, frzC, ZK, rvc, capA, appA, litL, mkfv, drawF, headN, pureH, stp, dvc, calleeOf, gcall, pev, eff, newB, okd, og, ogs, ogo, ogp, slv, bltv, opd, litv, strip, one, both, putE, St.put, look, gdOf, gdv, picka, pickv, pickw, binv, bini, bins, binb, binp, binq, isSlT, bina, shp, eqCells, unv, convv, nilv, faddv, addp, idxav, idxp, load1, load1m, loadn, loadnm, loadv, hget, hset, hrep, hdel, slicev, slice3v, bnd, shift1, lenv, capv, IntKind.bits, extractv, fieldv, indexv, min2v, max2v, mkiv, tasv, tasz, cellsA, fillA, buildv, stC, oneC, rowMB, intsA, plN, appE, appZ, appC, appS, srcB, appNZ, appNC, VwL, srcC, srcZ, srcM, isBoolT, isPtrT, isSliceT, uOk, Value.oneCell', Nat.reducePow, Int.reducePow, Nat.reduceAdd, Nat.reduceMul, Nat.reduceSub, Nat.reduceLT, Nat.reduceLeDiff, Nat.reduceEqDiff, Nat.reduceBEq, Nat.reduceDiv, Nat.reduceMod, ↓reduceIte, reduceCtorEq, Int.reduceToNat, Int.reduceLT, Int.reduceLE, TFHuP, SeqQ, BlkQ, LoopQ, BodyQ, tk, hDl, List.drop_zero, FR.out])
  first | (have FRx := FR; clear FRx) | have FR := fr0S
  have FA := Sm.mk (TFHuP)
  repeat' first | (apply Sm.mk; refine Ys ?_) | refine WP.seq fun K hK => ?_ | (apply Ob.mk; exact Yo) | refine And.intro (Ob.out ?_) ?_ | refine Y1HuP ?_ | refine Yl2 (c := c1) (r := ?_) | refine Yl2 (c := c2) (r := ?_) | refine Yl2 (c := c3) (r := ?_) | refine YzHuP ?_ | (refine WP.cond rfl (fun hc => ?_) (fun hc => ?_) <;> (try simp only [ZC, reduceCtorEq, ZD] at hc) <;> (try exact absurd hc (by decide)) <;> (try (exfalso; omega))) | refine Rt.mk (And.intro (fun hg => Sm.out ?_) fun hg => Sm.out ?_) | (refine Nu.mk ?_; first | (fail_if_success have := nb1); intro nb1 | (fail_if_success have := nb2); intro nb2 | (fail_if_success have := nb3); intro nb3 | (fail_if_success have := nb4); intro nb4 | (fail_if_success have := nb5); intro nb5 | (fail_if_success have := nb6); intro nb6 | intro nbz) | (apply Yfr; refine Yf FR fun hFRb FR => ?_) | refine Two.mk ?_ ?_ | (apply Yxc; exact Yx) | refine Cs.mk fun hcs => Sm.out ?_ | go_step | omega | (simp only [maxLen_eq]; omega) | exact trivial
  (refine OutQ.drop _ _ (perm2 (by simp only [hget, hdel, ↓reduceIte, if_true, if_false, FR.out]; first | done | rfl) (by simp only [hget, hdel, ↓reduceIte, if_true, if_false, FR.out]; first | done | rfl)) (by simp only [resv, ZK, look, loadv, loadn, loadnm, load1, load1m, hget, ↓reduceIte, Nat.reduceEqDiff, Nat.reduceAdd, Nat.reduceMul, Nat.reduceLeDiff, Nat.reduceLT, reduceCtorEq, TFHuP, FR.out]) ⟨(by simp only [resv, resA, ZK, look, loadv, loadn, loadnm, load1, load1m, hget, ↓reduceIte, Nat.reduceEqDiff, Nat.reduceAdd, Nat.reduceMul, Nat.reduceLeDiff, Nat.reduceLT, reduceCtorEq, TFHuP, FR.out]; first | done | rfl), rfl⟩)
end Go.Proofs.YtaffbklkjjmmdaaDoor
