/-
  The walks and the laws that the statement leans on, part 30.
-/
import Derived.Test.YtpjnhcjfkgjbnaaDoorL10
import Derived.Test.YtpjnhcjfkgjbnaaDoorL29
namespace Go.Proofs.YtpjnhcjfkgjbnaaDoor
open Go
set_option linter.unusedVariables false
set_option linter.unusedSimpArgs false
set_option linter.defProp false
def TFWlL :=
  And.intro (And.intro (And.intro (And.intro (And.intro tyc0 tyc3) (And.intro zmb3 (And.intro tyc4 zmb4))) (And.intro (And.intro tyc5 zmb5) (And.intro tyc28 (And.intro zmb28 tyc32)))) (And.intro (And.intro (And.intro elt32 mkz32) (And.intro mkc32 (And.intro apT32 elk32))) (And.intro (And.intro zmb32 tyc35) (And.intro zmb35 (And.intro tyc37 foff37_0))))) (And.intro (And.intro (And.intro (And.intro fpart37_0 foff37_1) (And.intro fpart37_1 (And.intro zmb37 bldT37))) (And.intro (And.intro tyc38 elt38) (And.intro mkz38 (And.intro apT38 elk38)))) (And.intro (And.intro (And.intro zmb38 Tryd.underlying0) (And.intro Tryd.underlying3 (And.intro Tryd.underlying4 Tryd.underlying5))) (And.intro (And.intro Tryd.underlying28 Tryd.underlying32) (And.intro Tryd.underlying35 (And.intro Tryd.underlying37 Tryd.underlying38)))))
theorem Y1WlL {G R : Prop} (r : R) (h : R → G := by intro r; first | (apply WP.region; exact rvc_sound _ _ (Sm.out r)) | exact WP.drawN (cs := [5,7,8,9]) (k := 10) (bs := [b]) mixed (by decide +kernel) (by decide +kernel) (by decide +kernel) (by decide +kernel) (Sm.out r) | exact WP.drawN (cs := [5,7,8,9]) (k := 10) (bs := []) mixed (by decide +kernel) (by decide +kernel) (by decide +kernel) (by decide +kernel) (Sm.out r) | exact WP.drawMk (ia := 5) (k := 7) mixed (by decide +kernel) (by decide +kernel) (by decide +kernel) (by decide +kernel) (Sm.out r) | exact WP.drawK rfl mixed (by decide +kernel) (Sm.out r) | (apply WP.block; exact r) | (apply WP.skip; exact Yq r) | (apply WP.exit; exact Yq r) | (apply WP.ret; exact Sm.out r) | exact WP.cond rfl (fun _ => r) (fun hg => absurd hg (by decide)) | exact WP.cond rfl (fun hg => absurd hg (by decide)) (fun _ => r) | exact Rt.mk (And.intro (fun _ => Sm.out r) fun hg => absurd hg (by decide)) | exact Rt.mk (And.intro (fun hg => absurd hg (by decide)) fun _ => Sm.out r)) : G := h r
theorem YzWlL {G R : Prop} (r : R) (h : R → G := by intro r; first | (apply ExG.no; exact Sm.out r) | (apply Or.inl; apply ExG.no; exact Sm.out r) | exact Or.inl (And.intro (fun hg => absurd hg (by decide)) (ExG.no (Sm.out r)))) : G := h r
theorem rapp_fullN (mb A : Nat) (z : Bs) (hz : z.length ≤ 1000000) (hA : A ≤ 1000000) (h : A < z.length ∨ A < usd [] + z.length + 10) : ACt Tryd.prog 14 [pt mb 0, .slz .u8 (ub z)] [(mb, .cells [nl, iv .i64 (A : Int)] 2 37)] (fun r F' => r = iv .i64 11 ∧ F' = [(mb, .cells [nl, iv .i64 (A : Int)] 2 37)]) := by
  have cU := rusedN_ct mb A
  have zl := ub_len z
  obtain ⟨V, hV⟩ : ∃ V, V = ub z := ⟨_, rfl⟩
  rw [← hV] at zl ⊢
  obtain ⟨u, hu⟩ : ∃ u, u = usd [] := ⟨_, rfl⟩
  have hu0 : u = 0 := by rw [hu]; rfl
  rw [← hu] at cU h
  have w1 : IntKind.i64.wrap ((u : Int) + (z.length : Int)) = ((u + z.length : Nat) : Int) := by rw [wrap_i64 (by omega) (by omega)]; omega
  have w2 : IntKind.i64.wrap (((u + z.length : Nat) : Int) + 10) = ((u + z.length + 10 : Nat) : Int) := by rw [wrap_i64 (by omega) (by omega)]; omega
  obtain ⟨x, hx⟩ : ∃ x, decide ((z.length : Int) > (A : Int)) = x := ⟨_, rfl⟩
  cases x with
  | true =>
    refine ACt.intro Tryd.func14 rfl (by kernel_rfl) (by simp [Tryd.ntmps14]) (fun cx => ?_)
    simp only [argE, Tryd.ntmps14, Tryd.results14]
    first | (have FRx := FR; clear FRx) | have FR := fr0S
    have FA := Sm.mk (And.intro TFWlL (And.intro zl (And.intro hx (And.intro w1 w2))))
    repeat' first | (apply Sm.mk; refine Ys ?_) | refine WP.seq fun K hK => ?_ | (apply Ob.mk; exact Yo) | refine And.intro (Ob.out ?_) ?_ | refine Y1WlL ?_ | refine Yl1 (c := cU) (r := ?_) | refine YzWlL ?_ | (refine WP.cond rfl (fun hc => ?_) (fun hc => ?_) <;> (try simp only [ZC, reduceCtorEq, ZD] at hc) <;> (try exact absurd hc (by decide)) <;> (try (exfalso; omega))) | refine Rt.mk (And.intro (fun hg => Sm.out ?_) fun hg => Sm.out ?_) | (refine Nu.mk ?_; first | (fail_if_success have := nb1); intro nb1 | (fail_if_success have := nb2); intro nb2 | (fail_if_success have := nb3); intro nb3 | (fail_if_success have := nb4); intro nb4 | (fail_if_success have := nb5); intro nb5 | (fail_if_success have := nb6); intro nb6 | (fail_if_success have := nb7); intro nb7 | (fail_if_success have := nb8); intro nb8 | (fail_if_success have := nb9); intro nb9 | (fail_if_success have := nb10); intro nb10 | intro nbz) | (apply Yfr; refine Yf FR fun hFRb FR => ?_) | refine Two.mk ?_ ?_ | (apply Yxc; exact Yx) | refine Cs.mk fun hcs => Sm.out ?_ | go_step | omega | (simp only [maxLen_eq]; omega) | exact trivial
    (refine OutQ.drop _ _ (perm1 (by simp only [hget, hdel, ↓reduceIte, if_true, if_false, FR.out]; first | done | rfl)) (by simp only [resv, ZK, look, loadv, loadn, loadnm, load1, load1m, hget, ↓reduceIte, Nat.reduceEqDiff, Nat.reduceAdd, Nat.reduceMul, Nat.reduceLeDiff, Nat.reduceLT, reduceCtorEq, TFWlL, FR.out]) ⟨(by simp only [resv, resA, ZK, look, loadv, loadn, loadnm, load1, load1m, hget, ↓reduceIte, Nat.reduceEqDiff, Nat.reduceAdd, Nat.reduceMul, Nat.reduceLeDiff, Nat.reduceLT, reduceCtorEq, TFWlL, FR.out]; first | done | rfl), rfl⟩)
  | false =>
    have hx2 := of_decide_eq_false hx
    have k2 : decide (((u + z.length + 10 : Nat) : Int) > (A : Int)) = true := decide_eq_true (by omega)
    refine ACt.intro Tryd.func14 rfl (by kernel_rfl) (by simp [Tryd.ntmps14]) (fun cx => ?_)
    simp only [argE, Tryd.ntmps14, Tryd.results14]
    first | (have FRx := FR; clear FRx) | have FR := fr0S
    have FA := Sm.mk (And.intro TFWlL (And.intro zl (And.intro hx (And.intro w1 (And.intro w2 k2)))))
    repeat' first | (apply Sm.mk; refine Ys ?_) | refine WP.seq fun K hK => ?_ | (apply Ob.mk; exact Yo) | refine And.intro (Ob.out ?_) ?_ | refine Y1WlL ?_ | refine Yl1 (c := cU) (r := ?_) | refine YzWlL ?_ | (refine WP.cond rfl (fun hc => ?_) (fun hc => ?_) <;> (try simp only [ZC, reduceCtorEq, ZD] at hc) <;> (try exact absurd hc (by decide)) <;> (try (exfalso; omega))) | refine Rt.mk (And.intro (fun hg => Sm.out ?_) fun hg => Sm.out ?_) | (refine Nu.mk ?_; first | (fail_if_success have := nb1); intro nb1 | (fail_if_success have := nb2); intro nb2 | (fail_if_success have := nb3); intro nb3 | (fail_if_success have := nb4); intro nb4 | (fail_if_success have := nb5); intro nb5 | (fail_if_success have := nb6); intro nb6 | (fail_if_success have := nb7); intro nb7 | (fail_if_success have := nb8); intro nb8 | (fail_if_success have := nb9); intro nb9 | (fail_if_success have := nb10); intro nb10 | intro nbz) | (apply Yfr; refine Yf FR fun hFRb FR => ?_) | refine Two.mk ?_ ?_ | (apply Yxc; exact Yx) | refine Cs.mk fun hcs => Sm.out ?_ | go_step | omega | (simp only [maxLen_eq]; omega) | exact trivial
    (refine OutQ.drop _ _ (perm1 (by simp only [hget, hdel, ↓reduceIte, if_true, if_false, FR.out]; first | done | rfl)) (by simp only [resv, ZK, look, loadv, loadn, loadnm, load1, load1m, hget, ↓reduceIte, Nat.reduceEqDiff, Nat.reduceAdd, Nat.reduceMul, Nat.reduceLeDiff, Nat.reduceLT, reduceCtorEq, TFWlL, FR.out]) ⟨(by simp only [resv, resA, ZK, look, loadv, loadn, loadnm, load1, load1m, hget, ↓reduceIte, Nat.reduceEqDiff, Nat.reduceAdd, Nat.reduceMul, Nat.reduceLeDiff, Nat.reduceLT, reduceCtorEq, TFWlL, FR.out]; first | done | rfl), rfl⟩)
theorem rapp_fullO (L : List Bs) (mb A b cap : Nat) (hne : mb ≠ b ∧ b ≠ mb) (hcap : L.length ≤ cap) (hu1 : usd L ≤ 1000000) (z : Bs) (hz : z.length ≤ 1000000) (hA : A ≤ 1000000) (h : A < z.length ∨ A < usd L + z.length + 10) :
    ACt Tryd.prog 14 [pt mb 0, .slz .u8 (ub z)] [(mb, .cells [ms b 0 L.length cap, iv .i64 (A : Int)] 2 37), (b, .cells (rowsA L) cap 38)] (fun r F' => r = iv .i64 11 ∧ F' = [(mb, .cells [ms b 0 L.length cap, iv .i64 (A : Int)] 2 37), (b, .cells (rowsA L) cap 38)]) := by
  have cU := rusedO_ct L mb A b cap hne hcap hu1
  have zl := ub_len z
  obtain ⟨V, hV⟩ : ∃ V, V = ub z := ⟨_, rfl⟩
  rw [← hV] at zl ⊢
  obtain ⟨u, hu⟩ : ∃ u, u = usd L := ⟨_, rfl⟩
  rw [← hu] at cU h hu1
  have w1 : IntKind.i64.wrap ((u : Int) + (z.length : Int)) = ((u + z.length : Nat) : Int) := by rw [wrap_i64 (by omega) (by omega)]; omega
  have w2 : IntKind.i64.wrap (((u + z.length : Nat) : Int) + 10) = ((u + z.length + 10 : Nat) : Int) := by rw [wrap_i64 (by omega) (by omega)]; omega
  obtain ⟨x, hx⟩ : ∃ x, decide ((z.length : Int) > (A : Int)) = x := ⟨_, rfl⟩
  cases x with
  | true =>
    refine ACt.intro Tryd.func14 rfl (by kernel_rfl) (by simp [Tryd.ntmps14]) (fun cx => ?_)
    simp only [argE, Tryd.ntmps14, Tryd.results14]
    first | (have FRx := FR; clear FRx) | have FR := fr0S
    have FA := Sm.mk (And.intro TFWlL (And.intro zl (And.intro hx (And.intro w1 (And.intro w2 hne)))))
    repeat' first | (apply Sm.mk; refine Ys ?_) | refine WP.seq fun K hK => ?_ | (apply Ob.mk; exact Yo) | refine And.intro (Ob.out ?_) ?_ | refine Y1WlL ?_ | refine Yl2 (c := cU) (r := ?_) | refine YzWlL ?_ | (refine WP.cond rfl (fun hc => ?_) (fun hc => ?_) <;> (try simp only [ZC, reduceCtorEq, ZD] at hc) <;> (try exact absurd hc (by decide)) <;> (try (exfalso; omega))) | refine Rt.mk (And.intro (fun hg => Sm.out ?_) fun hg => Sm.out ?_) | (refine Nu.mk ?_; first | (fail_if_success have := nb1); intro nb1 | (fail_if_success have := nb2); intro nb2 | (fail_if_success have := nb3); intro nb3 | (fail_if_success have := nb4); intro nb4 | (fail_if_success have := nb5); intro nb5 | (fail_if_success have := nb6); intro nb6 | (fail_if_success have := nb7); intro nb7 | (fail_if_success have := nb8); intro nb8 | (fail_if_success have := nb9); intro nb9 | (fail_if_success have := nb10); intro nb10 | intro nbz) | (apply Yfr; refine Yf FR fun hFRb FR => ?_) | refine Two.mk ?_ ?_ | (apply Yxc; exact Yx) | refine Cs.mk fun hcs => Sm.out ?_ | go_step | omega | (simp only [maxLen_eq]; omega) | exact trivial
    (refine OutQ.drop _ _ (perm2 (by simp only [hget, hdel, ↓reduceIte, if_true, if_false, FR.out, hne]; first | done | rfl) (by simp only [hget, hdel, ↓reduceIte, if_true, if_false, FR.out, hne]; first | done | rfl)) (by simp only [resv, ZK, look, loadv, loadn, loadnm, load1, load1m, hget, ↓reduceIte, Nat.reduceEqDiff, Nat.reduceAdd, Nat.reduceMul, Nat.reduceLeDiff, Nat.reduceLT, reduceCtorEq, TFWlL, FR.out, hne]) ⟨(by simp only [resv, resA, ZK, look, loadv, loadn, loadnm, load1, load1m, hget, ↓reduceIte, Nat.reduceEqDiff, Nat.reduceAdd, Nat.reduceMul, Nat.reduceLeDiff, Nat.reduceLT, reduceCtorEq, TFWlL, FR.out, hne]; first | done | rfl), rfl⟩)
  | false =>
    have hx2 := of_decide_eq_false hx
    have k2 : decide (((u + z.length + 10 : Nat) : Int) > (A : Int)) = true := decide_eq_true (by omega)
    refine ACt.intro Tryd.func14 rfl (by kernel_rfl) (by simp [Tryd.ntmps14]) (fun cx => ?_)
    simp only [argE, Tryd.ntmps14, Tryd.results14]
    first | (have FRx := FR; clear FRx) | have FR := fr0S
    have FA := Sm.mk (And.intro TFWlL (And.intro zl (And.intro hx (And.intro w1 (And.intro w2 (And.intro k2 hne))))))
    repeat' first | (apply Sm.mk; refine Ys ?_) | refine WP.seq fun K hK => ?_ | (apply Ob.mk; exact Yo) | refine And.intro (Ob.out ?_) ?_ | refine Y1WlL ?_ | refine Yl2 (c := cU) (r := ?_) | refine YzWlL ?_ | (refine WP.cond rfl (fun hc => ?_) (fun hc => ?_) <;> (try simp only [ZC, reduceCtorEq, ZD] at hc) <;> (try exact absurd hc (by decide)) <;> (try (exfalso; omega))) | refine Rt.mk (And.intro (fun hg => Sm.out ?_) fun hg => Sm.out ?_) | (refine Nu.mk ?_; first | (fail_if_success have := nb1); intro nb1 | (fail_if_success have := nb2); intro nb2 | (fail_if_success have := nb3); intro nb3 | (fail_if_success have := nb4); intro nb4 | (fail_if_success have := nb5); intro nb5 | (fail_if_success have := nb6); intro nb6 | (fail_if_success have := nb7); intro nb7 | (fail_if_success have := nb8); intro nb8 | (fail_if_success have := nb9); intro nb9 | (fail_if_success have := nb10); intro nb10 | intro nbz) | (apply Yfr; refine Yf FR fun hFRb FR => ?_) | refine Two.mk ?_ ?_ | (apply Yxc; exact Yx) | refine Cs.mk fun hcs => Sm.out ?_ | go_step | omega | (simp only [maxLen_eq]; omega) | exact trivial
    (refine OutQ.drop _ _ (perm2 (by simp only [hget, hdel, ↓reduceIte, if_true, if_false, FR.out, hne]; first | done | rfl) (by simp only [hget, hdel, ↓reduceIte, if_true, if_false, FR.out, hne]; first | done | rfl)) (by simp only [resv, ZK, look, loadv, loadn, loadnm, load1, load1m, hget, ↓reduceIte, Nat.reduceEqDiff, Nat.reduceAdd, Nat.reduceMul, Nat.reduceLeDiff, Nat.reduceLT, reduceCtorEq, TFWlL, FR.out, hne]) ⟨(by simp only [resv, resA, ZK, look, loadv, loadn, loadnm, load1, load1m, hget, ↓reduceIte, Nat.reduceEqDiff, Nat.reduceAdd, Nat.reduceMul, Nat.reduceLeDiff, Nat.reduceLT, reduceCtorEq, TFWlL, FR.out, hne]; first | done | rfl), rfl⟩)
theorem rapp_okN (mb A : Nat) (z : Bs) (hA : A ≤ 1000000) (h : usd [] + z.length + 10 ≤ A) : ACt Tryd.prog 14 [pt mb 0, .slz .u8 (ub z)] [(mb, .cells [nl, iv .i64 (A : Int)] 2 37)]
    (fun r F' => ∃ b c : Nat, (1 ≤ c ∧ c ≤ 9223372036854775807) ∧ r = iv .i64 0 ∧ F' = [(b, .cells (rowsA [z]) c 38), (mb, .cells [ms b 0 1 c, iv .i64 (A : Int)] 2 37)]) := by
  have cU := rusedN_ct mb A
  have zl := ub_len z
  have htk : (ub z).take z.length = ub z := List.take_of_length_le (by rw [ub_len]; omega)
  have eC : rowsA [z] = [AV.slz .u8 (ub z)] := rfl
  rw [eC]
  obtain ⟨V, hV⟩ : ∃ V, V = ub z := ⟨_, rfl⟩
  rw [← hV] at zl htk ⊢
  obtain ⟨u, hu⟩ : ∃ u, u = usd [] := ⟨_, rfl⟩
  rw [← hu] at cU h
  have w1 : IntKind.i64.wrap ((u : Int) + (z.length : Int)) = ((u + z.length : Nat) : Int) := by rw [wrap_i64 (by omega) (by omega)]; omega
  have w2 : IntKind.i64.wrap (((u + z.length : Nat) : Int) + 10) = ((u + z.length + 10 : Nat) : Int) := by rw [wrap_i64 (by omega) (by omega)]; omega
  have k1 : decide ((z.length : Int) > (A : Int)) = false := decide_eq_false (by omega)
  have k2 : decide (((u + z.length + 10 : Nat) : Int) > (A : Int)) = false := decide_eq_false (by omega)
  refine ACt.intro Tryd.func14 rfl (by kernel_rfl) (by simp [Tryd.ntmps14]) (fun cx => ?_)
  simp only [argE, Tryd.ntmps14, Tryd.results14]
  first | (have FRx := FR; clear FRx) | have FR := fr0S
  have FA := Sm.mk (And.intro TFWlL (And.intro zl (And.intro k1 (And.intro w1 (And.intro w2 k2)))))
  repeat' first | (apply Sm.mk; refine Ys ?_) | refine WP.seq fun K hK => ?_ | (apply Ob.mk; exact Yo) | refine And.intro (Ob.out ?_) ?_ | ((fail_if_success (show WP _ _ _ (.region 4 _ _) _ _)); refine Y1WlL ?_) | refine Yl1 (c := cU) (r := ?_) | refine YzWlL ?_ | (refine WP.cond rfl (fun hc => ?_) (fun hc => ?_) <;> (try simp only [ZC, reduceCtorEq, ZD] at hc) <;> (try exact absurd hc (by decide)) <;> (try (exfalso; omega))) | refine Rt.mk (And.intro (fun hg => Sm.out ?_) fun hg => Sm.out ?_) | (refine Nu.mk ?_; first | (fail_if_success have := nb1); intro nb1 | (fail_if_success have := nb2); intro nb2 | (fail_if_success have := nb3); intro nb3 | (fail_if_success have := nb4); intro nb4 | (fail_if_success have := nb5); intro nb5 | (fail_if_success have := nb6); intro nb6 | (fail_if_success have := nb7); intro nb7 | (fail_if_success have := nb8); intro nb8 | (fail_if_success have := nb9); intro nb9 | (fail_if_success have := nb10); intro nb10 | intro nbz) | (apply Yfr; refine Yf FR fun hFRb FR => ?_) | refine Two.mk ?_ ?_ | (apply Yxc; exact Yx) | refine Cs.mk fun hcs => Sm.out ?_ | go_step | omega | (simp only [maxLen_eq]; omega) | exact trivial
  (refine WP.wk (Wk.freezeH (nb2) (by simp only [ZK, rvc, capA, appA, litL, mkfv, drawF, headN, pureH, stp, dvc, calleeOf, gcall, pev, eff, newB, okd, og, ogs, ogo, ogp, slv, bltv, opd, litv, strip, one, both, putE, St.put, look, gdOf, gdv, picka, pickv, pickw, binv, bini, bins, binb, binp, binq, isSlT, bina, shp, eqCells, unv, convv, nilv, faddv, addp, idxav, idxp, load1, load1m, loadn, loadnm, loadv, hget, hset, hrep, hdel, slicev, slice3v, bnd, shift1, lenv, capv, IntKind.bits, extractv, fieldv, indexv, min2v, max2v, mkiv, tasv, tasz, cellsA, fillA, buildv, stC, oneC, rowMB, intsA, plN, appE, appZ, appC, appS, srcB, appNZ, appNC, VwL, srcC, srcZ, srcM, isBoolT, isPtrT, isSliceT, uOk, Value.oneCell', Nat.reducePow, Int.reducePow, Nat.reduceAdd, Nat.reduceMul, Nat.reduceSub, Nat.reduceLT, Nat.reduceLeDiff, Nat.reduceEqDiff, Nat.reduceBEq, Nat.reduceDiv, Nat.reduceMod, ↓reduceIte, reduceCtorEq, Int.reduceToNat, Int.reduceLT, Int.reduceLE, drawMF, mkS, drawNF, drawNF1, drawNTF, nvc, xst, chF, chS, splA, mkV, splitH, calleeV, putE, hdel, TFWlL, SeqQ, BlkQ, LoopQ, BodyQ, zl, htk, FR.out]; first | done | rfl)) ?_; simp only [frzE, frzH, frzM, frzL, frz, hdel, List.map_cons, List.map_nil, List.map_append, ZK, rvc, capA, appA, litL, mkfv, drawF, headN, pureH, stp, dvc, calleeOf, gcall, pev, eff, newB, okd, og, ogs, ogo, ogp, slv, bltv, opd, litv, strip, one, both, putE, St.put, look, gdOf, gdv, picka, pickv, pickw, binv, bini, bins, binb, binp, binq, isSlT, bina, shp, eqCells, unv, convv, nilv, faddv, addp, idxav, idxp, load1, load1m, loadn, loadnm, loadv, hget, hset, hrep, hdel, slicev, slice3v, bnd, shift1, lenv, capv, IntKind.bits, extractv, fieldv, indexv, min2v, max2v, mkiv, tasv, tasz, cellsA, fillA, buildv, stC, oneC, rowMB, intsA, plN, appE, appZ, appC, appS, srcB, appNZ, appNC, VwL, srcC, srcZ, srcM, isBoolT, isPtrT, isSliceT, uOk, Value.oneCell', Nat.reducePow, Int.reducePow, Nat.reduceAdd, Nat.reduceMul, Nat.reduceSub, Nat.reduceLT, Nat.reduceLeDiff, Nat.reduceEqDiff, Nat.reduceBEq, Nat.reduceDiv, Nat.reduceMod, ↓reduceIte, reduceCtorEq, Int.reduceToNat, Int.reduceLT, Int.reduceLE, drawMF, mkS, drawNF, drawNF1, drawNTF, nvc, xst, chF, chS, splA, mkV, splitH, calleeV, putE, hdel, TFWlL, SeqQ, BlkQ, LoopQ, BodyQ, zl, htk, FR.out])
  first | (have FRx := FR; clear FRx) | have FR := fr0S
  have FA := Sm.mk (TFWlL)
  repeat' first | (apply Sm.mk; refine Ys ?_) | refine WP.seq fun K hK => ?_ | (apply Ob.mk; exact Yo) | refine And.intro (Ob.out ?_) ?_ | refine Y1WlL ?_ | refine YzWlL ?_ | (refine WP.cond rfl (fun hc => ?_) (fun hc => ?_) <;> (try simp only [ZC, reduceCtorEq, ZD] at hc) <;> (try exact absurd hc (by decide)) <;> (try (exfalso; omega))) | refine Rt.mk (And.intro (fun hg => Sm.out ?_) fun hg => Sm.out ?_) | (refine Nu.mk ?_; first | (fail_if_success have := nb1); intro nb1 | (fail_if_success have := nb2); intro nb2 | (fail_if_success have := nb3); intro nb3 | (fail_if_success have := nb4); intro nb4 | (fail_if_success have := nb5); intro nb5 | (fail_if_success have := nb6); intro nb6 | (fail_if_success have := nb7); intro nb7 | (fail_if_success have := nb8); intro nb8 | (fail_if_success have := nb9); intro nb9 | (fail_if_success have := nb10); intro nb10 | intro nbz) | (apply Yfr; refine Yf FR fun hFRb FR => ?_) | refine Two.mk ?_ ?_ | (apply Yxc; exact Yx) | refine Cs.mk fun hcs => Sm.out ?_ | go_step | omega | (simp only [maxLen_eq]; omega) | exact trivial
  (refine OutQ.drop _ _ (perm2 (by simp only [hget, hdel, ↓reduceIte, if_true, if_false, FR.out]; first | done | rfl) (by simp only [hget, hdel, ↓reduceIte, if_true, if_false, FR.out]; first | done | rfl)) (by simp only [resv, ZK, look, loadv, loadn, loadnm, load1, load1m, hget, ↓reduceIte, Nat.reduceEqDiff, Nat.reduceAdd, Nat.reduceMul, Nat.reduceLeDiff, Nat.reduceLT, reduceCtorEq, TFWlL, FR.out]) ⟨nb5, nb6, ⟨FR.out.1.1, FR.out.1.2.1⟩, (by simp only [resv, resA, ZK, look, loadv, loadn, loadnm, load1, load1m, hget, ↓reduceIte, Nat.reduceEqDiff, Nat.reduceAdd, Nat.reduceMul, Nat.reduceLeDiff, Nat.reduceLT, reduceCtorEq, TFWlL, FR.out]; first | done | rfl), rfl⟩)
theorem rowsA_frz (L : List Bs) (b : Nat) (zs : List Int) : (rowsA L).map (frz b .u8 zs) = rowsA L := by
  unfold rowsA
  rw [List.map_map]
  rfl
theorem rapp_okO (L : List Bs) (mb A b cap : Nat) (hne : mb ≠ b ∧ b ≠ mb) (hcap : L.length ≤ cap) (hcp2 : cap ≤ 9223372036854775807) (hu1 : usd L ≤ 1000000) (z : Bs) (hA : A ≤ 1000000) (h : usd L + z.length + 10 ≤ A) :
    ACt Tryd.prog 14 [pt mb 0, .slz .u8 (ub z)] [(mb, .cells [ms b 0 L.length cap, iv .i64 (A : Int)] 2 37), (b, .cells (rowsA L) cap 38)]
    (fun r F' => ∃ b2 c : Nat, (L.length + 1 ≤ c ∧ c ≤ 9223372036854775807) ∧ r = iv .i64 0 ∧ F' = [(b2, .cells (rowsA (L ++ [z])) c 38), (mb, .cells [ms b2 0 (L.length + 1) c, iv .i64 (A : Int)] 2 37)]) := by
  have cU := rusedO_ct L mb A b cap hne hcap hu1
  have zl := ub_len z
  have htk : (ub z).take z.length = ub z := List.take_of_length_le (by rw [ub_len]; omega)
  have eC := (rowsA_snoc L z).symm
  rw [eC]
  have hf := fun x => rowsA_frz L x (ub z)
  have ho := rowsA_one L
  have hRl := rowsA_len L
  have hll := len_le L
  obtain ⟨V, hV⟩ : ∃ V, V = ub z := ⟨_, rfl⟩
  rw [← hV] at zl htk ⊢
  simp only [← hV] at hf
  obtain ⟨u, hu⟩ : ∃ u, u = usd L := ⟨_, rfl⟩
  rw [← hu] at cU h hu1 hll
  have w1 : IntKind.i64.wrap ((u : Int) + (z.length : Int)) = ((u + z.length : Nat) : Int) := by rw [wrap_i64 (by omega) (by omega)]; omega
  have w2 : IntKind.i64.wrap (((u + z.length : Nat) : Int) + 10) = ((u + z.length + 10 : Nat) : Int) := by rw [wrap_i64 (by omega) (by omega)]; omega
  have k1 : decide ((z.length : Int) > (A : Int)) = false := decide_eq_false (by omega)
  have k2 : decide (((u + z.length + 10 : Nat) : Int) > (A : Int)) = false := decide_eq_false (by omega)
  obtain ⟨C, hC⟩ : ∃ C, C = rowsA L := ⟨_, rfl⟩
  rw [← hC] at cU hRl ho ⊢
  simp only [← hC] at hf
  obtain ⟨n, hn⟩ : ∃ n, n = L.length := ⟨_, rfl⟩
  rw [← hn] at cU hRl hcap hll ⊢
  clear hV hC hn
  refine ACt.intro Tryd.func14 rfl (by kernel_rfl) (by simp [Tryd.ntmps14]) (fun cx => ?_)
  simp only [argE, Tryd.ntmps14, Tryd.results14]
  first | (have FRx := FR; clear FRx) | have FR := fr0S
  have FA := Sm.mk (And.intro TFWlL (And.intro zl (And.intro k1 (And.intro w1 (And.intro w2 (And.intro k2 (And.intro hne (And.intro ho (And.intro hRl (And.intro hcap hcp2))))))))))
  repeat' first | (apply Sm.mk; refine Ys ?_) | refine WP.seq fun K hK => ?_ | (apply Ob.mk; exact Yo) | refine And.intro (Ob.out ?_) ?_ | ((fail_if_success (show WP _ _ _ (.region 4 _ _) _ _)); refine Y1WlL ?_) | refine Yl2 (c := cU) (r := ?_) | refine YzWlL ?_ | (refine WP.cond rfl (fun hc => ?_) (fun hc => ?_) <;> (try simp only [ZC, reduceCtorEq, ZD] at hc) <;> (try exact absurd hc (by decide)) <;> (try (exfalso; omega))) | refine Rt.mk (And.intro (fun hg => Sm.out ?_) fun hg => Sm.out ?_) | (refine Nu.mk ?_; first | (fail_if_success have := nb1); intro nb1 | (fail_if_success have := nb2); intro nb2 | (fail_if_success have := nb3); intro nb3 | (fail_if_success have := nb4); intro nb4 | (fail_if_success have := nb5); intro nb5 | (fail_if_success have := nb6); intro nb6 | (fail_if_success have := nb7); intro nb7 | (fail_if_success have := nb8); intro nb8 | (fail_if_success have := nb9); intro nb9 | (fail_if_success have := nb10); intro nb10 | intro nbz) | (apply Yfr; refine Yf FR fun hFRb FR => ?_) | refine Two.mk ?_ ?_ | (apply Yxc; exact Yx) | refine Cs.mk fun hcs => Sm.out ?_ | go_step | omega | (simp only [maxLen_eq]; omega) | exact trivial
  have hf2 := hf nb2
  (refine WP.wk (Wk.freezeH (nb2) (by simp only [ZK, rvc, capA, appA, litL, mkfv, drawF, headN, pureH, stp, dvc, calleeOf, gcall, pev, eff, newB, okd, og, ogs, ogo, ogp, slv, bltv, opd, litv, strip, one, both, putE, St.put, look, gdOf, gdv, picka, pickv, pickw, binv, bini, bins, binb, binp, binq, isSlT, bina, shp, eqCells, unv, convv, nilv, faddv, addp, idxav, idxp, load1, load1m, loadn, loadnm, loadv, hget, hset, hrep, hdel, slicev, slice3v, bnd, shift1, lenv, capv, IntKind.bits, extractv, fieldv, indexv, min2v, max2v, mkiv, tasv, tasz, cellsA, fillA, buildv, stC, oneC, rowMB, intsA, plN, appE, appZ, appC, appS, srcB, appNZ, appNC, VwL, srcC, srcZ, srcM, isBoolT, isPtrT, isSliceT, uOk, Value.oneCell', Nat.reducePow, Int.reducePow, Nat.reduceAdd, Nat.reduceMul, Nat.reduceSub, Nat.reduceLT, Nat.reduceLeDiff, Nat.reduceEqDiff, Nat.reduceBEq, Nat.reduceDiv, Nat.reduceMod, ↓reduceIte, reduceCtorEq, Int.reduceToNat, Int.reduceLT, Int.reduceLE, drawMF, mkS, drawNF, drawNF1, drawNTF, nvc, xst, chF, chS, splA, mkV, splitH, calleeV, putE, hdel, TFWlL, SeqQ, BlkQ, LoopQ, BodyQ, zl, htk, hf2, FR.out]; first | done | rfl)) ?_; simp only [frzE, frzH, frzM, frzL, frz, hdel, List.map_cons, List.map_nil, List.map_append, ZK, rvc, capA, appA, litL, mkfv, drawF, headN, pureH, stp, dvc, calleeOf, gcall, pev, eff, newB, okd, og, ogs, ogo, ogp, slv, bltv, opd, litv, strip, one, both, putE, St.put, look, gdOf, gdv, picka, pickv, pickw, binv, bini, bins, binb, binp, binq, isSlT, bina, shp, eqCells, unv, convv, nilv, faddv, addp, idxav, idxp, load1, load1m, loadn, loadnm, loadv, hget, hset, hrep, hdel, slicev, slice3v, bnd, shift1, lenv, capv, IntKind.bits, extractv, fieldv, indexv, min2v, max2v, mkiv, tasv, tasz, cellsA, fillA, buildv, stC, oneC, rowMB, intsA, plN, appE, appZ, appC, appS, srcB, appNZ, appNC, VwL, srcC, srcZ, srcM, isBoolT, isPtrT, isSliceT, uOk, Value.oneCell', Nat.reducePow, Int.reducePow, Nat.reduceAdd, Nat.reduceMul, Nat.reduceSub, Nat.reduceLT, Nat.reduceLeDiff, Nat.reduceEqDiff, Nat.reduceBEq, Nat.reduceDiv, Nat.reduceMod, ↓reduceIte, reduceCtorEq, Int.reduceToNat, Int.reduceLT, Int.reduceLE, drawMF, mkS, drawNF, drawNF1, drawNTF, nvc, xst, chF, chS, splA, mkV, splitH, calleeV, putE, hdel, TFWlL, SeqQ, BlkQ, LoopQ, BodyQ, zl, htk, hf2, FR.out])
  first | (have FRx := FR; clear FRx) | have FR := fr0S
  have FA := Sm.mk (TFWlL)
  repeat' first | (apply Sm.mk; refine Ys ?_) | refine WP.seq fun K hK => ?_ | (apply Ob.mk; exact Yo) | refine And.intro (Ob.out ?_) ?_ | refine Y1WlL ?_ | refine YzWlL ?_ | (refine WP.cond rfl (fun hc => ?_) (fun hc => ?_) <;> (try simp only [ZC, reduceCtorEq, ZD] at hc) <;> (try exact absurd hc (by decide)) <;> (try (exfalso; omega))) | refine Rt.mk (And.intro (fun hg => Sm.out ?_) fun hg => Sm.out ?_) | (refine Nu.mk ?_; first | (fail_if_success have := nb1); intro nb1 | (fail_if_success have := nb2); intro nb2 | (fail_if_success have := nb3); intro nb3 | (fail_if_success have := nb4); intro nb4 | (fail_if_success have := nb5); intro nb5 | (fail_if_success have := nb6); intro nb6 | (fail_if_success have := nb7); intro nb7 | (fail_if_success have := nb8); intro nb8 | (fail_if_success have := nb9); intro nb9 | (fail_if_success have := nb10); intro nb10 | intro nbz) | (apply Yfr; refine Yf FR fun hFRb FR => ?_) | refine Two.mk ?_ ?_ | (apply Yxc; exact Yx) | refine Cs.mk fun hcs => Sm.out ?_ | go_step | omega | (simp only [maxLen_eq]; omega) | exact trivial
  (refine OutQ.drop _ _ (perm2 (by simp only [hget, hdel, ↓reduceIte, if_true, if_false, FR.out]; first | done | rfl) (by simp only [hget, hdel, ↓reduceIte, if_true, if_false, FR.out]; first | done | rfl)) (by simp only [resv, ZK, look, loadv, loadn, loadnm, load1, load1m, hget, ↓reduceIte, Nat.reduceEqDiff, Nat.reduceAdd, Nat.reduceMul, Nat.reduceLeDiff, Nat.reduceLT, reduceCtorEq, TFWlL, FR.out]) ⟨nb5, nb6, ⟨FR.out.1.1, FR.out.1.2.1⟩, (by simp only [resv, resA, ZK, look, loadv, loadn, loadnm, load1, load1m, hget, ↓reduceIte, Nat.reduceEqDiff, Nat.reduceAdd, Nat.reduceMul, Nat.reduceLeDiff, Nat.reduceLT, reduceCtorEq, TFWlL, FR.out]; first | done | rfl), rfl⟩)
end Go.Proofs.YtpjnhcjfkgjbnaaDoor
