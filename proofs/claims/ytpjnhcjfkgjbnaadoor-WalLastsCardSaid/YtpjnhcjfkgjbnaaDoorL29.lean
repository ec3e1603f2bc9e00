/-
  The walks and the laws that the statement leans on, part 29.
-/
import Derived.Test.YtpjnhcjfkgjbnaaDoorL10
import Derived.Test.YtpjnhcjfkgjbnaaDoorL28
namespace Go.Proofs.YtpjnhcjfkgjbnaaDoor
open Go
set_option linter.unusedVariables false
set_option linter.unusedSimpArgs false
set_option linter.defProp false
def TFWlK :=
  And.intro (And.intro (And.intro (And.intro (And.intro tyc0 tyc3) (And.intro zmb3 (And.intro tyc4 zmb4))) (And.intro (And.intro tyc5 zmb5) (And.intro tyc9 (And.intro zmb9 tyc32)))) (And.intro (And.intro (And.intro elt32 mkz32) (And.intro mkc32 (And.intro apT32 elk32))) (And.intro (And.intro zmb32 tyc35) (And.intro zmb35 (And.intro tyc37 foff37_0))))) (And.intro (And.intro (And.intro (And.intro fpart37_0 foff37_1) (And.intro fpart37_1 (And.intro zmb37 bldT37))) (And.intro (And.intro tyc38 elt38) (And.intro mkz38 (And.intro apT38 elk38)))) (And.intro (And.intro (And.intro zmb38 Tryd.underlying0) (And.intro Tryd.underlying3 (And.intro Tryd.underlying4 Tryd.underlying5))) (And.intro (And.intro Tryd.underlying9 Tryd.underlying32) (And.intro Tryd.underlying35 (And.intro Tryd.underlying37 Tryd.underlying38)))))
theorem Y1WlK {G R : Prop} (r : R) (h : R → G := by intro r; first | (apply WP.region; exact rvc_sound _ _ (Sm.out r)) | exact WP.drawK rfl mixed (by decide +kernel) (Sm.out r) | (apply WP.block; exact r) | (apply WP.skip; exact Yq r) | (apply WP.exit; exact Yq r) | (apply WP.ret; exact Sm.out r) | exact WP.cond rfl (fun _ => r) (fun hg => absurd hg (by decide)) | exact WP.cond rfl (fun hg => absurd hg (by decide)) (fun _ => r) | exact Rt.mk (And.intro (fun _ => Sm.out r) fun hg => absurd hg (by decide)) | exact Rt.mk (And.intro (fun hg => absurd hg (by decide)) fun _ => Sm.out r)) : G := h r
theorem YzWlK {G R : Prop} (r : R) (h : R → G := by intro r; first | (apply ExG.no; exact Sm.out r) | (apply Or.inl; apply ExG.no; exact Sm.out r) | exact Or.inl (And.intro (fun hg => absurd hg (by decide)) (ExG.no (Sm.out r)))) : G := h r
theorem YsWlK0 {P Q : Prop} (q : Q) (h : P = Q := by (try (conv => lhs; simp -dsimp only [ZK, rvc, capA, appA, litL, mkfv, drawF, headN, pureH, stp, dvc, calleeOf, gcall, pev, eff, newB, okd, og, ogs, ogo, ogp, slv, bltv, opd, litv, strip, one, both, putE, St.put, look, gdOf, gdv, picka, pickv, pickw, binv, bini, bins, binb, binp, binq, isSlT, bina, shp, eqCells, unv, convv, nilv, faddv, addp, idxav, idxp, load1, load1m, loadn, loadnm, loadv, hget, hset, hrep, hdel, slicev, slice3v, bnd, shift1, lenv, capv, IntKind.bits, extractv, fieldv, indexv, min2v, max2v, mkiv, tasv, tasz, cellsA, fillA, buildv, stC, oneC, rowMB, intsA, plN, appE, appZ, appC, appS, srcB, appNZ, appNC, VwL, srcC, srcZ, srcM, isBoolT, isPtrT, isSliceT, uOk, Value.oneCell', Nat.reducePow, Int.reducePow, Nat.reduceAdd, Nat.reduceMul, Nat.reduceSub, Nat.reduceLT, Nat.reduceLeDiff, Nat.reduceEqDiff, Nat.reduceBEq, Nat.reduceDiv, Nat.reduceMod, ↓reduceIte, reduceCtorEq, Int.reduceToNat, Int.reduceLT, Int.reduceLE, TFWlK, SeqQ, BlkQ, LoopQ, BodyQ, hin, FA.out, FR.out])) <;> exact rfl) : P := h.mpr q
theorem YsWlK1 {P Q : Prop} (q : Q) (h : P = Q := by (try (conv => lhs; simp -dsimp only [ZK, rvc, capA, appA, litL, mkfv, drawF, headN, pureH, stp, dvc, calleeOf, gcall, pev, eff, newB, okd, og, ogs, ogo, ogp, slv, bltv, opd, litv, strip, one, both, putE, St.put, look, gdOf, gdv, picka, pickv, pickw, binv, bini, bins, binb, binp, binq, isSlT, bina, shp, eqCells, unv, convv, nilv, faddv, addp, idxav, idxp, load1, load1m, loadn, loadnm, loadv, hget, hset, hrep, hdel, slicev, slice3v, bnd, shift1, lenv, capv, IntKind.bits, extractv, fieldv, indexv, min2v, max2v, mkiv, tasv, tasz, cellsA, fillA, buildv, stC, oneC, rowMB, intsA, plN, appE, appZ, appC, appS, srcB, appNZ, appNC, VwL, srcC, srcZ, srcM, isBoolT, isPtrT, isSliceT, uOk, Value.oneCell', Nat.reducePow, Int.reducePow, Nat.reduceAdd, Nat.reduceMul, Nat.reduceSub, Nat.reduceLT, Nat.reduceLeDiff, Nat.reduceEqDiff, Nat.reduceBEq, Nat.reduceDiv, Nat.reduceMod, ↓reduceIte, reduceCtorEq, Int.reduceToNat, Int.reduceLT, Int.reduceLE, TFWlK, SeqQ, BlkQ, LoopQ, BodyQ, Int.natCast_zero, List.length_replicate, FA.out, FR.out])) <;> exact rfl) : P := h.mpr q
theorem YsWlK2 {P Q : Prop} (q : Q) (h : P = Q := by (try (conv => lhs; simp -dsimp only [ZK, rvc, capA, appA, litL, mkfv, drawF, headN, pureH, stp, dvc, calleeOf, gcall, pev, eff, newB, okd, og, ogs, ogo, ogp, slv, bltv, opd, litv, strip, one, both, putE, St.put, look, gdOf, gdv, picka, pickv, pickw, binv, bini, bins, binb, binp, binq, isSlT, bina, shp, eqCells, unv, convv, nilv, faddv, addp, idxav, idxp, load1, load1m, loadn, loadnm, loadv, hget, hset, hrep, hdel, slicev, slice3v, bnd, shift1, lenv, capv, IntKind.bits, extractv, fieldv, indexv, min2v, max2v, mkiv, tasv, tasz, cellsA, fillA, buildv, stC, oneC, rowMB, intsA, plN, appE, appZ, appC, appS, srcB, appNZ, appNC, VwL, srcC, srcZ, srcM, isBoolT, isPtrT, isSliceT, uOk, Value.oneCell', Nat.reducePow, Int.reducePow, Nat.reduceAdd, Nat.reduceMul, Nat.reduceSub, Nat.reduceLT, Nat.reduceLeDiff, Nat.reduceEqDiff, Nat.reduceBEq, Nat.reduceDiv, Nat.reduceMod, ↓reduceIte, reduceCtorEq, Int.reduceToNat, Int.reduceLT, Int.reduceLE, TFWlK, SeqQ, BlkQ, LoopQ, BodyQ, List.length_replicate, FA.out, FR.out])) <;> exact rfl) : P := h.mpr q
theorem usd_take (L : List Bs) (i : Nat) (h : i < L.length) : usd (L.take (i + 1)) = usd (L.take i) + (L.getD i []).length + 10 := by
  have e : L.take (i + 1) = L.take i ++ [L.getD i []] := by
    rw [List.take_add_one, List.getElem?_eq_getElem h, List.getD_eq_getElem?_getD, List.getElem?_eq_getElem h]; rfl
  rw [e, usd_snoc]; omega
theorem frs_take (L : List Bs) (i : Nat) (h : i < L.length) : frs (L.take (i + 1)) = frs (L.take i) ++ frameB (L.getD i []) := by
  have e : L.take (i + 1) = L.take i ++ [L.getD i []] := by
    rw [List.take_add_one, List.getElem?_eq_getElem h, List.getD_eq_getElem?_getD, List.getElem?_eq_getElem h]; rfl
  rw [e, frs_snoc]
theorem usd_le (L : List Bs) (i : Nat) : usd (L.take i) ≤ usd L := by
  have := List.take_append_drop i L
  have h2 : usd L = usd (L.take i) + usd (L.drop i) := by
    unfold usd
    rw [← List.length_append, ← frs_app, this]
  omega
theorem row_le (L : List Bs) (i : Nat) (h : i < L.length) : (L.getD i []).length ≤ usd L := by
  have h1 := usd_take L i h
  have h2 := usd_le L (i + 1)
  omega
theorem len_le (L : List Bs) : L.length ≤ usd L := by
  induction L with
  | nil => exact Nat.zero_le _
  | cons x r ih => rw [usd_cons, List.length_cons]; omega
theorem rusedN_ct (mb A : Nat) : ACt Tryd.prog 18 [pt mb 0] [(mb, .cells [nl, iv .i64 (A : Int)] 2 37)] (fun r F' => r = iv .i64 ((usd [] : Nat) : Int) ∧ F' = [(mb, .cells [nl, iv .i64 (A : Int)] 2 37)]) := by
  refine ACt.intro Tryd.func18 rfl (by kernel_rfl) (by simp [Tryd.ntmps18]) (fun cx => ?_)
  simp only [argE, Tryd.ntmps18, Tryd.results18]
  have e0 : ((usd [] : Nat) : Int) = 0 := rfl
  first | (have FRx := FR; clear FRx) | have FR := fr0S
  have FA := Sm.mk (TFWlK)
  repeat' first | (apply Sm.mk; refine Ys ?_) | refine WP.seq fun K hK => ?_ | (apply Ob.mk; exact Yo) | refine And.intro (Ob.out ?_) ?_ | refine Y1WlK ?_ | refine YzWlK ?_ | (refine WP.cond rfl (fun hc => ?_) (fun hc => ?_) <;> (try simp only [ZC, reduceCtorEq, ZD] at hc) <;> (try exact absurd hc (by decide)) <;> (try (exfalso; omega))) | refine Rt.mk (And.intro (fun hg => Sm.out ?_) fun hg => Sm.out ?_) | (refine Nu.mk ?_; first | (fail_if_success have := nb1); intro nb1 | (fail_if_success have := nb2); intro nb2 | (fail_if_success have := nb3); intro nb3 | (fail_if_success have := nb4); intro nb4 | (fail_if_success have := nb5); intro nb5 | (fail_if_success have := nb6); intro nb6 | (fail_if_success have := nb7); intro nb7 | (fail_if_success have := nb8); intro nb8 | intro nbz) | (apply Yfr; refine Yf FR fun hFRb FR => ?_) | refine Two.mk ?_ ?_ | (apply Yxc; exact Yx) | refine Cs.mk fun hcs => Sm.out ?_ | go_step | omega | (simp only [maxLen_eq]; omega) | exact trivial
  refine WP.loop (Γ := Unit) (fun _ => ⟨[(4, iv .i64 0), (3, iv .i64 0), (0, pt mb 0)], [(mb, .cells [nl, iv .i64 (A : Int)] 2 37)]⟩) (fun _ => True) (fun _ => 0) () trivial (Sub.pick (by simp [pickB, hget, hdel, FR.out]) (by simp [look])) ?_
  intro _ _
  have FR : Sm (¬ ((1 : Nat) = 0)) := Sm.mk Nat.one_ne_zero
  have k0 : decide ((0 : Int) < 0) = false := by decide
  first | (have FRx := FR; clear FRx) | have FR := fr0S
  have FA := Sm.mk (And.intro TFWlK k0)
  repeat' first | (apply Sm.mk; refine Ys ?_) | refine WP.seq fun K hK => ?_ | (apply Ob.mk; exact Yo) | refine And.intro (Ob.out ?_) ?_ | refine Y1WlK ?_ | refine YzWlK ?_ | (refine WP.cond rfl (fun hc => ?_) (fun hc => ?_) <;> (try simp only [ZC, reduceCtorEq, ZD] at hc) <;> (try exact absurd hc (by decide)) <;> (try (exfalso; omega))) | refine Rt.mk (And.intro (fun hg => Sm.out ?_) fun hg => Sm.out ?_) | (refine Nu.mk ?_; first | (fail_if_success have := nb1); intro nb1 | (fail_if_success have := nb2); intro nb2 | (fail_if_success have := nb3); intro nb3 | (fail_if_success have := nb4); intro nb4 | (fail_if_success have := nb5); intro nb5 | (fail_if_success have := nb6); intro nb6 | (fail_if_success have := nb7); intro nb7 | (fail_if_success have := nb8); intro nb8 | intro nbz) | (apply Yfr; refine Yf FR fun hFRb FR => ?_) | refine Two.mk ?_ ?_ | (apply Yxc; exact Yx) | refine Cs.mk fun hcs => Sm.out ?_ | go_step | omega | (simp only [maxLen_eq]; omega) | exact trivial
  (refine OutQ.drop _ _ (perm1 (by simp only [hget, hdel, ↓reduceIte, if_true, if_false, FR.out, e0]; first | done | rfl)) (by simp only [resv, ZK, look, loadv, loadn, loadnm, load1, load1m, hget, ↓reduceIte, Nat.reduceEqDiff, Nat.reduceAdd, Nat.reduceMul, Nat.reduceLeDiff, Nat.reduceLT, reduceCtorEq, TFWlK, FR.out, e0]) ⟨(by simp only [resv, resA, ZK, look, loadv, loadn, loadnm, load1, load1m, hget, ↓reduceIte, Nat.reduceEqDiff, Nat.reduceAdd, Nat.reduceMul, Nat.reduceLeDiff, Nat.reduceLT, reduceCtorEq, TFWlK, FR.out, e0]; first | done | rfl), rfl⟩)
theorem rusedO_ct (L : List Bs) (mb A : Nat) (b cap : Nat) (hne : mb ≠ b ∧ b ≠ mb) (hcap : L.length ≤ cap) (hu : usd L ≤ 1000000) : ACt Tryd.prog 18 [pt mb 0] [(mb, .cells [ms b 0 L.length cap, iv .i64 (A : Int)] 2 37), (b, .cells (rowsA L) cap 38)] (fun r F' => r = iv .i64 ((usd L : Nat) : Int) ∧ F' = [(mb, .cells [ms b 0 L.length cap, iv .i64 (A : Int)] 2 37), (b, .cells (rowsA L) cap 38)]) := by
  have hll := len_le L
  have hg := rowsA_get L
  have hut := usd_take L
  have hul := usd_le L
  have hrl := row_le L
  obtain ⟨u, hu0⟩ : ∃ u : Nat → Nat, u = fun i => usd (L.take i) := ⟨_, rfl⟩
  have ha : ∀ i, usd (L.take i) = u i := fun i => by rw [hu0]
  have hb : usd L = u L.length := by rw [hu0]; simp
  have hz : u 0 = 0 := by rw [hu0]; rfl
  simp only [ha] at hut hul
  rw [hb] at hu hul hrl hll ⊢
  have hRl := rowsA_len L
  obtain ⟨n, hn⟩ : ∃ n, L.length = n := ⟨_, rfl⟩
  obtain ⟨C, hC⟩ : ∃ C, C = rowsA L := ⟨_, rfl⟩
  rw [← hC] at hRl ⊢
  simp only [← hC] at hg
  simp only [hn] at hu hul hrl hll hRl ⊢
  rw [hn] at hcap
  clear hC hu0 ha hb
  refine ACt.intro Tryd.func18 rfl (by kernel_rfl) (by simp [Tryd.ntmps18]) (fun cx => ?_)
  simp only [argE, Tryd.ntmps18, Tryd.results18]
  first | (have FRx := FR; clear FRx) | have FR := fr0S
  have FA := Sm.mk (And.intro TFWlK hne)
  repeat' first | (apply Sm.mk; refine Ys ?_) | refine WP.seq fun K hK => ?_ | (apply Ob.mk; exact Yo) | refine And.intro (Ob.out ?_) ?_ | refine Y1WlK ?_ | refine YzWlK ?_ | (refine WP.cond rfl (fun hc => ?_) (fun hc => ?_) <;> (try simp only [ZC, reduceCtorEq, ZD] at hc) <;> (try exact absurd hc (by decide)) <;> (try (exfalso; omega))) | refine Rt.mk (And.intro (fun hg => Sm.out ?_) fun hg => Sm.out ?_) | (refine Nu.mk ?_; first | (fail_if_success have := nb1); intro nb1 | (fail_if_success have := nb2); intro nb2 | (fail_if_success have := nb3); intro nb3 | (fail_if_success have := nb4); intro nb4 | (fail_if_success have := nb5); intro nb5 | (fail_if_success have := nb6); intro nb6 | (fail_if_success have := nb7); intro nb7 | (fail_if_success have := nb8); intro nb8 | intro nbz) | (apply Yfr; refine Yf FR fun hFRb FR => ?_) | refine Two.mk ?_ ?_ | (apply Yxc; exact Yx) | refine Cs.mk fun hcs => Sm.out ?_ | go_step | omega | (simp only [maxLen_eq]; omega) | exact trivial
  refine WP.loop (Γ := Nat) (fun i => ⟨[(4, iv .i64 (i : Int)), (3, iv .i64 ((u i : Nat) : Int)), (0, pt mb 0)], [(mb, .cells [ms b 0 n cap, iv .i64 (A : Int)] 2 37), (b, .cells C cap 38)]⟩) (fun i => i ≤ n) (fun i => n - i) 0 (Nat.zero_le _) (Sub.pick (by simp [pickB, hget, hdel, FR.out, hz]) (by simp [look, hz])) ?_
  intro i hi
  have FR : Sm (¬ ((1 : Nat) = 0)) := Sm.mk Nat.one_ne_zero
  by_cases hin : i < n
  · have ki : decide ((i : Int) < (n : Int)) = true := decide_eq_true (by omega)
    have hu1 := hut i (by omega)
    have hu2 := hul i
    have hu3 := hul (i + 1)
    have hr := hrl i (by omega)
    have g2 := hg i (by omega)
    obtain ⟨y, hy⟩ : ∃ y, y = L.getD i [] := ⟨_, rfl⟩
    rw [← hy] at hu1 hr g2
    have yl := ub_len y
    obtain ⟨Y, hY⟩ : ∃ Y, Y = ub y := ⟨_, rfl⟩
    rw [← hY] at yl g2
    have w1 : IntKind.i64.wrap (((u i : Nat) : Int) + (y.length : Int)) = ((u i + y.length : Nat) : Int) := by rw [wrap_i64 (by omega) (by omega)]; omega
    have w2 : IntKind.i64.wrap (((u i + y.length : Nat) : Int) + 10) = ((u (i + 1) : Nat) : Int) := by rw [wrap_i64 (by omega) (by omega)]; omega
    have w3 : IntKind.i64.wrap ((i : Int) + 1) = ((i + 1 : Nat) : Int) := by rw [wrap_i64 (by omega) (by omega)]; omega
    first | (have FRx := FR; clear FRx) | have FR := fr0S
    have FA := Sm.mk (And.intro TFWlK (And.intro ki (And.intro hRl (And.intro g2 (And.intro yl (And.intro w1 (And.intro w2 (And.intro w3 (And.intro hne hcap)))))))))
    repeat' first | (apply Sm.mk; refine YsWlK0 ?_) | refine WP.seq fun K hK => ?_ | (apply Ob.mk; exact Yo) | refine And.intro (Ob.out ?_) ?_ | refine Y1WlK ?_ | refine YzWlK ?_ | (refine WP.cond rfl (fun hc => ?_) (fun hc => ?_) <;> (try simp only [ZC, reduceCtorEq, ZD] at hc) <;> (try exact absurd hc (by decide)) <;> (try (exfalso; omega))) | refine Rt.mk (And.intro (fun hg => Sm.out ?_) fun hg => Sm.out ?_) | (refine Nu.mk ?_; first | (fail_if_success have := nb1); intro nb1 | (fail_if_success have := nb2); intro nb2 | (fail_if_success have := nb3); intro nb3 | (fail_if_success have := nb4); intro nb4 | (fail_if_success have := nb5); intro nb5 | (fail_if_success have := nb6); intro nb6 | (fail_if_success have := nb7); intro nb7 | (fail_if_success have := nb8); intro nb8 | intro nbz) | (apply Yfr; refine Yf FR fun hFRb FR => ?_) | refine Two.mk ?_ ?_ | (apply Yxc; exact Yx) | refine Cs.mk fun hcs => Sm.out ?_ | go_step | omega | (simp only [maxLen_eq]; omega) | exact trivial
    exact ⟨i + 1, by omega, by omega, (Sub.pick (by simp [pickB, hget, hdel, FR.out, hne]) (by simp [look, hne]))⟩
  · obtain rfl : i = n := by omega
    have ki : decide ((i : Int) < (i : Int)) = false := by simp
    first | (have FRx := FR; clear FRx) | have FR := fr0S
    have FA := Sm.mk (And.intro TFWlK (And.intro ki hne))
    repeat' first | (apply Sm.mk; refine Ys ?_) | refine WP.seq fun K hK => ?_ | (apply Ob.mk; exact Yo) | refine And.intro (Ob.out ?_) ?_ | refine Y1WlK ?_ | refine YzWlK ?_ | (refine WP.cond rfl (fun hc => ?_) (fun hc => ?_) <;> (try simp only [ZC, reduceCtorEq, ZD] at hc) <;> (try exact absurd hc (by decide)) <;> (try (exfalso; omega))) | refine Rt.mk (And.intro (fun hg => Sm.out ?_) fun hg => Sm.out ?_) | (refine Nu.mk ?_; first | (fail_if_success have := nb1); intro nb1 | (fail_if_success have := nb2); intro nb2 | (fail_if_success have := nb3); intro nb3 | (fail_if_success have := nb4); intro nb4 | (fail_if_success have := nb5); intro nb5 | (fail_if_success have := nb6); intro nb6 | (fail_if_success have := nb7); intro nb7 | (fail_if_success have := nb8); intro nb8 | intro nbz) | (apply Yfr; refine Yf FR fun hFRb FR => ?_) | refine Two.mk ?_ ?_ | (apply Yxc; exact Yx) | refine Cs.mk fun hcs => Sm.out ?_ | go_step | omega | (simp only [maxLen_eq]; omega) | exact trivial
    (refine OutQ.drop _ _ (perm2 (by simp only [hget, hdel, ↓reduceIte, if_true, if_false, FR.out, hne]; first | done | rfl) (by simp only [hget, hdel, ↓reduceIte, if_true, if_false, FR.out, hne]; first | done | rfl)) (by simp only [resv, ZK, look, loadv, loadn, loadnm, load1, load1m, hget, ↓reduceIte, Nat.reduceEqDiff, Nat.reduceAdd, Nat.reduceMul, Nat.reduceLeDiff, Nat.reduceLT, reduceCtorEq, TFWlK, FR.out, hne]) ⟨(by simp only [resv, resA, ZK, look, loadv, loadn, loadnm, load1, load1m, hget, ↓reduceIte, Nat.reduceEqDiff, Nat.reduceAdd, Nat.reduceMul, Nat.reduceLeDiff, Nat.reduceLT, reduceCtorEq, TFWlK, FR.out, hne]; first | done | rfl), rfl⟩)
theorem rtextN_ct (mb A : Nat) (hA : A ≤ 1000000) : ACt Tryd.prog 21 [pt mb 0] [(mb, .cells [nl, iv .i64 (A : Int)] 2 37)] (fun r F' => r = .lit (.string (bstr (ub (frs [] ++ zrs (A - usd []))))) ∧ F' = [(mb, .cells [nl, iv .i64 (A : Int)] 2 37)]) := by
  have eR : bstr (List.replicate A (0 : Int)) = bstr (ub (frs [] ++ zrs (A - usd []))) := by rw [frs_nil, List.nil_append, ub_zrs]; rfl
  obtain ⟨R, hR⟩ : ∃ R, R = bstr (ub (frs [] ++ zrs (A - usd []))) := ⟨_, rfl⟩
  rw [← hR] at eR ⊢
  have e0 : bstr [] = (⟨#[]⟩ : ByteArray) := rfl
  have es : (⟨#[]⟩ : ByteArray).size = 0 := rfl
  have ea : (⟨#[]⟩ : ByteArray) ++ R = R := by rw [← e0, ← eR, bstr_app]; simp
  have rs : R.size = A := by rw [← eR, bstr_size]; simp
  have w1 : IntKind.i64.wrap ((A : Int) - 0) = (A : Int) := by rw [wrap_i64 (by omega) (by omega)]; omega
  have tz : (List.replicate A (0 : Int)).take A = List.replicate A 0 := by simp
  have q1 : A ≤ 9223372036854775807 := by omega
  refine ACt.intro Tryd.func21 rfl (by kernel_rfl) (by simp [Tryd.ntmps21]) (fun cx => ?_)
  simp only [argE, Tryd.ntmps21, Tryd.results21]
  first | (have FRx := FR; clear FRx) | have FR := fr0S
  have FA := Sm.mk (TFWlK)
  repeat' first | (apply Sm.mk; refine Ys ?_) | refine WP.seq fun K hK => ?_ | (apply Ob.mk; exact Yo) | refine And.intro (Ob.out ?_) ?_ | refine Y1WlK ?_ | refine YzWlK ?_ | (refine WP.cond rfl (fun hc => ?_) (fun hc => ?_) <;> (try simp only [ZC, reduceCtorEq, ZD] at hc) <;> (try exact absurd hc (by decide)) <;> (try (exfalso; omega))) | refine Rt.mk (And.intro (fun hg => Sm.out ?_) fun hg => Sm.out ?_) | (refine Nu.mk ?_; first | (fail_if_success have := nb1); intro nb1 | (fail_if_success have := nb2); intro nb2 | (fail_if_success have := nb3); intro nb3 | (fail_if_success have := nb4); intro nb4 | (fail_if_success have := nb5); intro nb5 | (fail_if_success have := nb6); intro nb6 | (fail_if_success have := nb7); intro nb7 | (fail_if_success have := nb8); intro nb8 | intro nbz) | (apply Yfr; refine Yf FR fun hFRb FR => ?_) | refine Two.mk ?_ ?_ | (apply Yxc; exact Yx) | refine Cs.mk fun hcs => Sm.out ?_ | go_step | omega | (simp only [maxLen_eq]; omega) | exact trivial
  refine WP.loop (Γ := Unit) (fun _ => ⟨[(4, iv .i64 0), (3, .lit (.string ⟨#[]⟩)), (0, pt mb 0)], [(mb, .cells [nl, iv .i64 (A : Int)] 2 37)]⟩) (fun _ => True) (fun _ => 0) () trivial (Sub.pick (by simp [pickB, hget, hdel, FR.out]) (by simp [look])) ?_
  intro _ _
  have FR : Sm (¬ ((1 : Nat) = 0)) := Sm.mk Nat.one_ne_zero
  have k0 : decide ((0 : Int) < 0) = false := by decide
  have q2 : 0 + A ≤ 9223372036854775807 := by omega
  first | (have FRx := FR; clear FRx) | have FR := fr0S
  have FA := Sm.mk (And.intro TFWlK (And.intro k0 (And.intro es (And.intro w1 (And.intro tz (And.intro q1 (And.intro eR (And.intro ea (And.intro rs q2)))))))))
  repeat' first | (apply Sm.mk; refine YsWlK1 ?_) | refine WP.seq fun K hK => ?_ | (apply Ob.mk; exact Yo) | refine And.intro (Ob.out ?_) ?_ | refine Y1WlK ?_ | refine YzWlK ?_ | (refine WP.cond rfl (fun hc => ?_) (fun hc => ?_) <;> (try simp only [ZC, reduceCtorEq, ZD] at hc) <;> (try exact absurd hc (by decide)) <;> (try (exfalso; omega))) | refine Rt.mk (And.intro (fun hg => Sm.out ?_) fun hg => Sm.out ?_) | (refine Nu.mk ?_; first | (fail_if_success have := nb1); intro nb1 | (fail_if_success have := nb2); intro nb2 | (fail_if_success have := nb3); intro nb3 | (fail_if_success have := nb4); intro nb4 | (fail_if_success have := nb5); intro nb5 | (fail_if_success have := nb6); intro nb6 | (fail_if_success have := nb7); intro nb7 | (fail_if_success have := nb8); intro nb8 | intro nbz) | (apply Yfr; refine Yf FR fun hFRb FR => ?_) | refine Two.mk ?_ ?_ | (apply Yxc; exact Yx) | refine Cs.mk fun hcs => Sm.out ?_ | go_step | omega | (simp only [maxLen_eq]; omega) | exact trivial
  (refine OutQ.drop _ _ (perm1 (by simp only [hget, hdel, ↓reduceIte, if_true, if_false, FR.out, FR.out]; first | done | rfl)) (by simp only [resv, ZK, look, loadv, loadn, loadnm, load1, load1m, hget, ↓reduceIte, Nat.reduceEqDiff, Nat.reduceAdd, Nat.reduceMul, Nat.reduceLeDiff, Nat.reduceLT, reduceCtorEq, TFWlK, FR.out, FR.out]) ⟨(by simp only [resv, resA, ZK, look, loadv, loadn, loadnm, load1, load1m, hget, ↓reduceIte, Nat.reduceEqDiff, Nat.reduceAdd, Nat.reduceMul, Nat.reduceLeDiff, Nat.reduceLT, reduceCtorEq, TFWlK, FR.out, FR.out]; first | done | rfl), rfl⟩)
theorem rtextO_ct (L : List Bs) (mb A : Nat) (b cap : Nat) (hne : mb ≠ b ∧ b ≠ mb) (hcap : L.length ≤ cap) (hu : usd L ≤ A) (hA : A ≤ 1000000) : ACt Tryd.prog 21 [pt mb 0] [(mb, .cells [ms b 0 L.length cap, iv .i64 (A : Int)] 2 37), (b, .cells (rowsA L) cap 38)] (fun r F' => r = .lit (.string (bstr (ub (frs L ++ zrs (A - usd L))))) ∧ F' = [(mb, .cells [ms b 0 L.length cap, iv .i64 (A : Int)] 2 37), (b, .cells (rowsA L) cap 38)]) := by
  have hll := len_le L
  have hg := rowsA_get L
  have hft := frs_take L
  have hut := usd_take L
  have hul := usd_le L
  have hrl := row_le L
  have cFr := fun y (h : y.length ≤ 1000000) => refFrame_ct y h
  have hfz : frs (L.take 0) = [] := rfl
  have hfn : L.take L.length = L := List.take_length
  obtain ⟨R, hR⟩ : ∃ R, R = bstr (ub (frs L ++ zrs (A - usd L))) := ⟨_, rfl⟩
  rw [← hR]
  have hRl := rowsA_len L
  obtain ⟨n, hn⟩ : ∃ n, L.length = n := ⟨_, rfl⟩
  obtain ⟨C, hC⟩ : ∃ C, C = rowsA L := ⟨_, rfl⟩
  rw [← hC] at hRl ⊢
  simp only [← hC] at hg
  simp only [hn] at hRl hfn ⊢
  rw [hn] at hcap
  clear hC
  have e0 : bstr (ub (frs [])) = (⟨#[]⟩ : ByteArray) := rfl
  refine ACt.intro Tryd.func21 rfl (by kernel_rfl) (by simp [Tryd.ntmps21]) (fun cx => ?_)
  simp only [argE, Tryd.ntmps21, Tryd.results21]
  first | (have FRx := FR; clear FRx) | have FR := fr0S
  have FA := Sm.mk (And.intro TFWlK hne)
  repeat' first | (apply Sm.mk; refine Ys ?_) | refine WP.seq fun K hK => ?_ | (apply Ob.mk; exact Yo) | refine And.intro (Ob.out ?_) ?_ | refine Y1WlK ?_ | refine YzWlK ?_ | (refine WP.cond rfl (fun hc => ?_) (fun hc => ?_) <;> (try simp only [ZC, reduceCtorEq, ZD] at hc) <;> (try exact absurd hc (by decide)) <;> (try (exfalso; omega))) | refine Rt.mk (And.intro (fun hg => Sm.out ?_) fun hg => Sm.out ?_) | (refine Nu.mk ?_; first | (fail_if_success have := nb1); intro nb1 | (fail_if_success have := nb2); intro nb2 | (fail_if_success have := nb3); intro nb3 | (fail_if_success have := nb4); intro nb4 | (fail_if_success have := nb5); intro nb5 | (fail_if_success have := nb6); intro nb6 | (fail_if_success have := nb7); intro nb7 | (fail_if_success have := nb8); intro nb8 | intro nbz) | (apply Yfr; refine Yf FR fun hFRb FR => ?_) | refine Two.mk ?_ ?_ | (apply Yxc; exact Yx) | refine Cs.mk fun hcs => Sm.out ?_ | go_step | omega | (simp only [maxLen_eq]; omega) | exact trivial
  refine WP.loop (Γ := Nat) (fun i => ⟨[(4, iv .i64 (i : Int)), (3, .lit (.string (bstr (ub (frs (L.take i)))))), (0, pt mb 0)], [(mb, .cells [ms b 0 n cap, iv .i64 (A : Int)] 2 37), (b, .cells C cap 38)]⟩) (fun i => i ≤ n) (fun i => n - i) 0 (Nat.zero_le _) (Sub.pick (by simp [pickB, hget, hdel, FR.out, e0]) (by simp [look, e0])) ?_
  intro i hi
  have FR : Sm (¬ ((1 : Nat) = 0)) := Sm.mk Nat.one_ne_zero
  by_cases hin : i < n
  · have ki : decide ((i : Int) < (n : Int)) = true := decide_eq_true (by omega)
    have hf1 := hft i (by omega)
    have hu1 := hut i (by omega)
    have hu3 := hul (i + 1)
    have hr := hrl i (by omega)
    have g2 := hg i (by omega)
    have cF := cFr (L.getD i []) (by omega)
    have fl := frame_len (L.getD i [])
    have fs : (frs (L.take i)).length = usd (L.take i) := rfl
    obtain ⟨y, hy⟩ : ∃ y, y = L.getD i [] := ⟨_, rfl⟩
    rw [← hy] at hf1 hu1 hr g2 cF fl
    obtain ⟨B, hB⟩ : ∃ B, B = bstr (ub (frs (L.take i))) := ⟨_, rfl⟩
    have bz : B.size = usd (L.take i) := by rw [hB, bstr_size, ub_len]; exact fs
    have gz : (bstr (ub (frameB y))).size = y.length + 10 := by rw [bstr_size, ub_len, fl]
    have eB : B ++ bstr (ub (frameB y)) = bstr (ub (frs (L.take (i + 1)))) := by rw [hB, bstr_app, ← ub_append, hf1]
    rw [← hB]
    clear hB
    obtain ⟨G, hG⟩ : ∃ G, G = ub (frameB y) := ⟨_, rfl⟩
    rw [← hG] at cF eB gz
    have q1 : usd (L.take i) + (y.length + 10) ≤ 9223372036854775807 := by omega
    have w3 : IntKind.i64.wrap ((i : Int) + 1) = ((i + 1 : Nat) : Int) := by rw [wrap_i64 (by omega) (by omega)]; omega
    first | (have FRx := FR; clear FRx) | have FR := fr0S
    have FA := Sm.mk (And.intro TFWlK (And.intro ki (And.intro hRl (And.intro g2 (And.intro w3 (And.intro bz (And.intro gz (And.intro eB (And.intro q1 (And.intro hne hcap))))))))))
    repeat' first | (apply Sm.mk; refine YsWlK0 ?_) | refine WP.seq fun K hK => ?_ | (apply Ob.mk; exact Yo) | refine And.intro (Ob.out ?_) ?_ | refine Y1WlK ?_ | refine Yc (c := cF) (r := ?_) | refine YzWlK ?_ | (refine WP.cond rfl (fun hc => ?_) (fun hc => ?_) <;> (try simp only [ZC, reduceCtorEq, ZD] at hc) <;> (try exact absurd hc (by decide)) <;> (try (exfalso; omega))) | refine Rt.mk (And.intro (fun hg => Sm.out ?_) fun hg => Sm.out ?_) | (refine Nu.mk ?_; first | (fail_if_success have := nb1); intro nb1 | (fail_if_success have := nb2); intro nb2 | (fail_if_success have := nb3); intro nb3 | (fail_if_success have := nb4); intro nb4 | (fail_if_success have := nb5); intro nb5 | (fail_if_success have := nb6); intro nb6 | (fail_if_success have := nb7); intro nb7 | (fail_if_success have := nb8); intro nb8 | intro nbz) | (apply Yfr; refine Yf FR fun hFRb FR => ?_) | refine Two.mk ?_ ?_ | (apply Yxc; exact Yx) | refine Cs.mk fun hcs => Sm.out ?_ | go_step | omega | (simp only [maxLen_eq]; omega) | exact trivial
    exact ⟨i + 1, by omega, by omega, (Sub.pick (by simp [pickB, hget, hdel, FR.out, hne]) (by simp [look, hne]))⟩
  · obtain rfl : i = n := by omega
    have ki : decide ((i : Int) < (i : Int)) = false := by simp
    rw [hfn]
    obtain ⟨Z, hZ⟩ : ∃ Z, Z = A - usd L := ⟨_, rfl⟩
    obtain ⟨B, hB⟩ : ∃ B, B = bstr (ub (frs L)) := ⟨_, rfl⟩
    have bz : B.size = usd L := by rw [hB, bstr_size, ub_len]; rfl
    have eB : B ++ bstr (List.replicate Z 0) = R := by rw [hB, hR, ← ub_zrs, bstr_app, ← ub_append, hZ]
    have zz : (bstr (List.replicate Z (0 : Int))).size = Z := by rw [bstr_size]; simp
    have w1 : IntKind.i64.wrap ((A : Int) - ((usd L : Nat) : Int)) = (Z : Int) := by rw [wrap_i64 (by omega) (by omega)]; omega
    have tz : (List.replicate Z (0 : Int)).take Z = List.replicate Z 0 := by simp
    rw [← hB]
    obtain ⟨u, hu0⟩ : ∃ u, u = usd L := ⟨_, rfl⟩
    rw [← hu0] at bz w1 hZ hu
    have q1 : Z ≤ 9223372036854775807 := by omega
    have q2 : u + Z ≤ 9223372036854775807 := by omega
    clear hB hR hul hut hll hrl hft hg cFr hfn hfz
    first | (have FRx := FR; clear FRx) | have FR := fr0S
    have FA := Sm.mk (And.intro TFWlK (And.intro ki (And.intro bz (And.intro w1 (And.intro tz (And.intro q1 (And.intro q2 (And.intro eB (And.intro zz hne)))))))))
    repeat' first | (apply Sm.mk; refine YsWlK2 ?_) | refine WP.seq fun K hK => ?_ | (apply Ob.mk; exact Yo) | refine And.intro (Ob.out ?_) ?_ | refine Y1WlK ?_ | refine YzWlK ?_ | (refine WP.cond rfl (fun hc => ?_) (fun hc => ?_) <;> (try simp only [ZC, reduceCtorEq, ZD] at hc) <;> (try exact absurd hc (by decide)) <;> (try (exfalso; omega))) | refine Rt.mk (And.intro (fun hg => Sm.out ?_) fun hg => Sm.out ?_) | (refine Nu.mk ?_; first | (fail_if_success have := nb1); intro nb1 | (fail_if_success have := nb2); intro nb2 | (fail_if_success have := nb3); intro nb3 | (fail_if_success have := nb4); intro nb4 | (fail_if_success have := nb5); intro nb5 | (fail_if_success have := nb6); intro nb6 | (fail_if_success have := nb7); intro nb7 | (fail_if_success have := nb8); intro nb8 | intro nbz) | (apply Yfr; refine Yf FR fun hFRb FR => ?_) | refine Two.mk ?_ ?_ | (apply Yxc; exact Yx) | refine Cs.mk fun hcs => Sm.out ?_ | go_step | omega | (simp only [maxLen_eq]; omega) | exact trivial
    (refine OutQ.drop _ _ (perm2 (by simp only [hget, hdel, ↓reduceIte, if_true, if_false, FR.out, FR.out, hne]; first | done | rfl) (by simp only [hget, hdel, ↓reduceIte, if_true, if_false, FR.out, FR.out, hne]; first | done | rfl)) (by simp only [resv, ZK, look, loadv, loadn, loadnm, load1, load1m, hget, ↓reduceIte, Nat.reduceEqDiff, Nat.reduceAdd, Nat.reduceMul, Nat.reduceLeDiff, Nat.reduceLT, reduceCtorEq, TFWlK, FR.out, FR.out, hne]) ⟨(by simp only [resv, resA, ZK, look, loadv, loadn, loadnm, load1, load1m, hget, ↓reduceIte, Nat.reduceEqDiff, Nat.reduceAdd, Nat.reduceMul, Nat.reduceLeDiff, Nat.reduceLT, reduceCtorEq, TFWlK, FR.out, FR.out, hne]; first | done | rfl), rfl⟩)
theorem same_any (L M : List Bs) (hl : L.length ≤ 1000000) (hm : M.length ≤ 1000000) : ACt Tryd.prog 16 [.sl L.length (rowsA L), .sl M.length (rowsA M)] [] (Fn (bv (decide (L = M)))) := by
  have hg := rowsA_get L
  have hh := rowsA_get M
  by_cases hn : L.length = M.length
  · have hRl := rowsA_len L
    have hRm := rowsA_len M
    have hx : (∀ i, i < L.length → L.getD i [] = M.getD i []) → L = M := fun h => by
      refine List.ext_getElem hn fun i h1 h2 => ?_
      have := h i h1
      rwa [List.getD_eq_getElem?_getD, List.getD_eq_getElem?_getD, List.getElem?_eq_getElem h1, List.getElem?_eq_getElem h2] at this
    rw [← hn] at hh hRm hm ⊢
    obtain ⟨n, hn0⟩ : ∃ n, L.length = n := ⟨_, rfl⟩
    simp only [hn0] at hg hh hl hm hRl hRm hx ⊢
    obtain ⟨t, ht⟩ : ∃ t, decide (L = M) = t := ⟨_, rfl⟩
    rw [ht]
    obtain ⟨C, hC⟩ : ∃ C, C = rowsA L := ⟨_, rfl⟩
    obtain ⟨E, hE⟩ : ∃ E, E = rowsA M := ⟨_, rfl⟩
    rw [← hC] at hRl ⊢
    rw [← hE] at hRm ⊢
    simp only [← hC] at hg
    simp only [← hE] at hh
    have k0 : ((n : Int) != (n : Int)) = false := by simp
    clear hC hE
    refine ACt.intro Tryd.func16 rfl (by kernel_rfl) (by simp [Tryd.ntmps16]) (fun cx => ?_)
    simp only [argE, Tryd.ntmps16, Tryd.results16]
    first | (have FRx := FR; clear FRx) | have FR := fr0S
    have FA := Sm.mk (And.intro TFWlK k0)
    repeat' first | (apply Sm.mk; refine Ys ?_) | refine WP.seq fun K hK => ?_ | (apply Ob.mk; exact Yo) | refine And.intro (Ob.out ?_) ?_ | refine Y1WlK ?_ | refine YzWlK ?_ | (refine WP.cond rfl (fun hc => ?_) (fun hc => ?_) <;> (try simp only [ZC, reduceCtorEq, ZD] at hc) <;> (try exact absurd hc (by decide)) <;> (try (exfalso; omega))) | refine Rt.mk (And.intro (fun hg => Sm.out ?_) fun hg => Sm.out ?_) | (refine Nu.mk ?_; first | (fail_if_success have := nb1); intro nb1 | (fail_if_success have := nb2); intro nb2 | (fail_if_success have := nb3); intro nb3 | (fail_if_success have := nb4); intro nb4 | (fail_if_success have := nb5); intro nb5 | (fail_if_success have := nb6); intro nb6 | (fail_if_success have := nb7); intro nb7 | (fail_if_success have := nb8); intro nb8 | intro nbz) | (apply Yfr; refine Yf FR fun hFRb FR => ?_) | refine Two.mk ?_ ?_ | (apply Yxc; exact Yx) | refine Cs.mk fun hcs => Sm.out ?_ | go_step | omega | (simp only [maxLen_eq]; omega) | exact trivial
    refine WP.loop (Γ := Nat) (fun i => ⟨[(5, iv .i64 (i : Int)), (0, .sl n C), (1, .sl n E)], []⟩) (fun i => i ≤ n ∧ ∀ j, j < i → L.getD j [] = M.getD j []) (fun i => n - i) 0 ⟨Nat.zero_le _, fun j h => absurd h (Nat.not_lt_zero _)⟩ (Sub.pick (by simp [pickB, hget, hdel, FR.out]) (by simp [look])) ?_
    intro i ⟨hi, hq⟩
    have FR : Sm (¬ ((1 : Nat) = 0)) := Sm.mk Nat.one_ne_zero
    by_cases hin : i < n
    · have ki : decide ((i : Int) < (n : Int)) = true := decide_eq_true (by omega)
      have w3 : IntKind.i64.wrap ((i : Int) + 1) = ((i + 1 : Nat) : Int) := by rw [wrap_i64 (by omega) (by omega)]; omega
      have g1 := hg i (by omega)
      have g2 := hh i (by omega)
      obtain ⟨x, hx1⟩ : ∃ x, x = L.getD i [] := ⟨_, rfl⟩
      obtain ⟨y, hy1⟩ : ∃ y, y = M.getD i [] := ⟨_, rfl⟩
      rw [← hx1] at g1
      rw [← hy1] at g2
      have kb : ((bstr (ub x)).toList == (bstr (ub y)).toList) = decide (x = y) := by
        rw [bstr_list, bstr_list, Bool.eq_iff_iff, beq_iff_eq, decide_eq_true_eq]
      obtain ⟨z, hz⟩ : ∃ z, decide (x = y) = z := ⟨_, rfl⟩
      rw [hz] at kb
      obtain ⟨X, hX⟩ : ∃ X, X = ub x := ⟨_, rfl⟩
      obtain ⟨Y, hY⟩ : ∃ Y, Y = ub y := ⟨_, rfl⟩
      rw [← hX] at g1 kb
      rw [← hY] at g2 kb
      cases z with
      | true =>
        have he := of_decide_eq_true hz
        first | (have FRx := FR; clear FRx) | have FR := fr0S
        have FA := Sm.mk (And.intro TFWlK (And.intro ki (And.intro hRl (And.intro hRm (And.intro g1 (And.intro g2 (And.intro kb w3)))))))
        repeat' first | (apply Sm.mk; refine YsWlK0 ?_) | refine WP.seq fun K hK => ?_ | (apply Ob.mk; exact Yo) | refine And.intro (Ob.out ?_) ?_ | refine Y1WlK ?_ | refine YzWlK ?_ | (refine WP.cond rfl (fun hc => ?_) (fun hc => ?_) <;> (try simp only [ZC, reduceCtorEq, ZD] at hc) <;> (try exact absurd hc (by decide)) <;> (try (exfalso; omega))) | refine Rt.mk (And.intro (fun hg => Sm.out ?_) fun hg => Sm.out ?_) | (refine Nu.mk ?_; first | (fail_if_success have := nb1); intro nb1 | (fail_if_success have := nb2); intro nb2 | (fail_if_success have := nb3); intro nb3 | (fail_if_success have := nb4); intro nb4 | (fail_if_success have := nb5); intro nb5 | (fail_if_success have := nb6); intro nb6 | (fail_if_success have := nb7); intro nb7 | (fail_if_success have := nb8); intro nb8 | intro nbz) | (apply Yfr; refine Yf FR fun hFRb FR => ?_) | refine Two.mk ?_ ?_ | (apply Yxc; exact Yx) | refine Cs.mk fun hcs => Sm.out ?_ | go_step | omega | (simp only [maxLen_eq]; omega) | exact trivial
        exact ⟨i + 1, ⟨by omega, fun j hj => by
          by_cases e : j = i
          · rw [e, ← hx1, ← hy1, he]
          · exact hq j (by omega)⟩, by omega, (Sub.pick (by simp [pickB, hget, hdel, FR.out]) (by simp [look]))⟩
      | false =>
        have he := of_decide_eq_false hz
        have ht2 : t = false := by
          rw [← ht]
          refine decide_eq_false fun h => he ?_
          rw [hx1, hy1, h]
        first | (have FRx := FR; clear FRx) | have FR := fr0S
        have FA := Sm.mk (And.intro TFWlK (And.intro ki (And.intro hRl (And.intro hRm (And.intro g1 (And.intro g2 kb))))))
        repeat' first | (apply Sm.mk; refine YsWlK0 ?_) | refine WP.seq fun K hK => ?_ | (apply Ob.mk; exact Yo) | refine And.intro (Ob.out ?_) ?_ | refine Y1WlK ?_ | refine YzWlK ?_ | (refine WP.cond rfl (fun hc => ?_) (fun hc => ?_) <;> (try simp only [ZC, reduceCtorEq, ZD] at hc) <;> (try exact absurd hc (by decide)) <;> (try (exfalso; omega))) | refine Rt.mk (And.intro (fun hg => Sm.out ?_) fun hg => Sm.out ?_) | (refine Nu.mk ?_; first | (fail_if_success have := nb1); intro nb1 | (fail_if_success have := nb2); intro nb2 | (fail_if_success have := nb3); intro nb3 | (fail_if_success have := nb4); intro nb4 | (fail_if_success have := nb5); intro nb5 | (fail_if_success have := nb6); intro nb6 | (fail_if_success have := nb7); intro nb7 | (fail_if_success have := nb8); intro nb8 | intro nbz) | (apply Yfr; refine Yf FR fun hFRb FR => ?_) | refine Two.mk ?_ ?_ | (apply Yxc; exact Yx) | refine Cs.mk fun hcs => Sm.out ?_ | go_step | omega | (simp only [maxLen_eq]; omega) | exact trivial
        (have FA := Sm.mk (And.intro ht2 FA.out); refine Yg ?_; try exact trivial)
    · obtain rfl : i = n := by omega
      have ki : decide ((i : Int) < (i : Int)) = false := by simp
      have ht2 : t = true := by rw [← ht]; exact decide_eq_true (hx hq)
      first | (have FRx := FR; clear FRx) | have FR := fr0S
      have FA := Sm.mk (And.intro TFWlK ki)
      repeat' first | (apply Sm.mk; refine Ys ?_) | refine WP.seq fun K hK => ?_ | (apply Ob.mk; exact Yo) | refine And.intro (Ob.out ?_) ?_ | refine Y1WlK ?_ | refine YzWlK ?_ | (refine WP.cond rfl (fun hc => ?_) (fun hc => ?_) <;> (try simp only [ZC, reduceCtorEq, ZD] at hc) <;> (try exact absurd hc (by decide)) <;> (try (exfalso; omega))) | refine Rt.mk (And.intro (fun hg => Sm.out ?_) fun hg => Sm.out ?_) | (refine Nu.mk ?_; first | (fail_if_success have := nb1); intro nb1 | (fail_if_success have := nb2); intro nb2 | (fail_if_success have := nb3); intro nb3 | (fail_if_success have := nb4); intro nb4 | (fail_if_success have := nb5); intro nb5 | (fail_if_success have := nb6); intro nb6 | (fail_if_success have := nb7); intro nb7 | (fail_if_success have := nb8); intro nb8 | intro nbz) | (apply Yfr; refine Yf FR fun hFRb FR => ?_) | refine Two.mk ?_ ?_ | (apply Yxc; exact Yx) | refine Cs.mk fun hcs => Sm.out ?_ | go_step | omega | (simp only [maxLen_eq]; omega) | exact trivial
      (have FA := Sm.mk (And.intro ht2 FA.out); refine Yg ?_; try exact trivial)
  · have k0 : ((L.length : Int) != (M.length : Int)) = true := by simpa using (show (L.length : Int) ≠ (M.length : Int) by omega)
    have e : decide (L = M) = false := decide_eq_false fun h => hn (by rw [h])
    rw [e]
    refine ACt.intro Tryd.func16 rfl (by kernel_rfl) (by simp [Tryd.ntmps16]) (fun cx => ?_)
    simp only [argE, Tryd.ntmps16, Tryd.results16]
    first | (have FRx := FR; clear FRx) | have FR := fr0S
    have FA := Sm.mk (And.intro TFWlK k0)
    repeat' first | (apply Sm.mk; refine Ys ?_) | refine WP.seq fun K hK => ?_ | (apply Ob.mk; exact Yo) | refine And.intro (Ob.out ?_) ?_ | refine Y1WlK ?_ | refine YzWlK ?_ | (refine WP.cond rfl (fun hc => ?_) (fun hc => ?_) <;> (try simp only [ZC, reduceCtorEq, ZD] at hc) <;> (try exact absurd hc (by decide)) <;> (try (exfalso; omega))) | refine Rt.mk (And.intro (fun hg => Sm.out ?_) fun hg => Sm.out ?_) | (refine Nu.mk ?_; first | (fail_if_success have := nb1); intro nb1 | (fail_if_success have := nb2); intro nb2 | (fail_if_success have := nb3); intro nb3 | (fail_if_success have := nb4); intro nb4 | (fail_if_success have := nb5); intro nb5 | (fail_if_success have := nb6); intro nb6 | (fail_if_success have := nb7); intro nb7 | (fail_if_success have := nb8); intro nb8 | intro nbz) | (apply Yfr; refine Yf FR fun hFRb FR => ?_) | refine Two.mk ?_ ?_ | (apply Yxc; exact Yx) | refine Cs.mk fun hcs => Sm.out ?_ | go_step | omega | (simp only [maxLen_eq]; omega) | exact trivial
    (refine Yg ?_; try exact trivial)
end Go.Proofs.YtpjnhcjfkgjbnaaDoor
