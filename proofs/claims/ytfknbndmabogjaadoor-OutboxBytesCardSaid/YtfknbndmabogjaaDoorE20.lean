/-
  The walks and the laws that the statement leans on, part 20.
-/
import Derived.Test.YtfknbndmabogjaaDoorE10
import Derived.Test.YtfknbndmabogjaaDoorE19
namespace Go.Proofs.YtfknbndmabogjaaDoor
open Go
set_option linter.unusedVariables false
set_option linter.unusedSimpArgs false
set_option linter.defProp false
def TFOuG :=
  And.intro (And.intro (And.intro (And.intro (And.intro (And.intro tyc0 tyc2) (And.intro zmb2 tyc3)) (And.intro (And.intro zmb3 tyc4) (And.intro zmb4 (And.intro tyc23 foff23_0)))) (And.intro (And.intro (And.intro fpart23_0 foff23_1) (And.intro fpart23_1 (And.intro foff23_2 fpart23_2))) (And.intro (And.intro foff23_3 fpart23_3) (And.intro foff23_4 (And.intro fpart23_4 fe23))))) (And.intro (And.intro (And.intro (And.intro zmb23 bldT23) (And.intro tyc24 elt24)) (And.intro (And.intro mkz24 mkc24) (And.intro apT24 (And.intro elk24 zmb24)))) (And.intro (And.intro (And.intro tyc25 zmb25) (And.intro tyc27 (And.intro foff27_0 fpart27_0))) (And.intro (And.intro foff27_1 fpart27_1) (And.intro zmb27 (And.intro bldT27 tyc29)))))) (And.intro (And.intro (And.intro (And.intro (And.intro foff29_0 fpart29_0) (And.intro foff29_1 fpart29_1)) (And.intro (And.intro foff29_2 fpart29_2) (And.intro foff29_3 (And.intro fpart29_3 foff29_4)))) (And.intro (And.intro (And.intro fpart29_4 fe29) (And.intro zmb29 (And.intro bldT29 tyc34))) (And.intro (And.intro zmb34 tyc38) (And.intro foff38_0 (And.intro fpart38_0 foff38_1))))) (And.intro (And.intro (And.intro (And.intro fpart38_1 foff38_2) (And.intro fpart38_2 (And.intro foff38_3 fpart38_3))) (And.intro (And.intro foff38_4 fpart38_4) (And.intro zmb38 (And.intro bldT38 Tryd.underlying0)))) (And.intro (And.intro (And.intro Tryd.underlying2 Tryd.underlying3) (And.intro Tryd.underlying4 (And.intro Tryd.underlying23 Tryd.underlying24))) (And.intro (And.intro Tryd.underlying25 Tryd.underlying27) (And.intro Tryd.underlying29 (And.intro Tryd.underlying34 Tryd.underlying38))))))
theorem Y1OuG {G R : Prop} (r : R) (h : R → G := by intro r; first | (apply WP.region; exact rvc_sound _ _ (Sm.out r)) | exact WP.drawK rfl mixed (by decide +kernel) (Sm.out r) | (apply WP.block; exact r) | (apply WP.skip; exact Yq r) | (apply WP.exit; exact Yq r) | (apply WP.ret; exact Sm.out r) | exact WP.cond rfl (fun _ => r) (fun hg => absurd hg (by decide)) | exact WP.cond rfl (fun hg => absurd hg (by decide)) (fun _ => r) | exact Rt.mk (And.intro (fun _ => Sm.out r) fun hg => absurd hg (by decide)) | exact Rt.mk (And.intro (fun hg => absurd hg (by decide)) fun _ => Sm.out r)) : G := h r
theorem YzOuG {G R : Prop} (r : R) (h : R → G := by intro r; first | (apply ExG.no; exact Sm.out r) | (apply Or.inl; apply ExG.no; exact Sm.out r) | exact Or.inl (And.intro (fun hg => absurd hg (by decide)) (ExG.no (Sm.out r)))) : G := h r
theorem YsOuG0 {P Q : Prop} (q : Q) (h : P = Q := by (try (conv => lhs; simp -dsimp only [ZK, rvc, capA, appA, litL, mkfv, drawF, headN, pureH, stp, dvc, calleeOf, gcall, pev, eff, newB, okd, og, ogs, ogo, ogp, slv, bltv, opd, litv, strip, one, both, putE, St.put, look, gdOf, gdv, picka, pickv, pickw, binv, bini, bins, binb, binp, binq, isSlT, bina, shp, eqCells, unv, convv, nilv, faddv, addp, idxav, idxp, load1, load1m, loadn, loadnm, loadv, hget, hset, hrep, hdel, slicev, slice3v, bnd, shift1, lenv, capv, IntKind.bits, extractv, fieldv, indexv, min2v, max2v, mkiv, tasv, tasz, cellsA, fillA, buildv, stC, oneC, rowMB, intsA, plN, appE, appZ, appC, appS, srcB, appNZ, appNC, VwL, srcC, srcZ, srcM, isBoolT, isPtrT, isSliceT, uOk, Value.oneCell', Nat.reducePow, Int.reducePow, Nat.reduceAdd, Nat.reduceMul, Nat.reduceSub, Nat.reduceLT, Nat.reduceLeDiff, Nat.reduceEqDiff, Nat.reduceBEq, Nat.reduceDiv, Nat.reduceMod, ↓reduceIte, reduceCtorEq, Int.reduceToNat, Int.reduceLT, Int.reduceLE, TFOuG, SeqQ, BlkQ, LoopQ, BodyQ, List.nil_append, Nat.zero_add, FA.out, FR.out])) <;> exact rfl) : P := h.mpr q
theorem YsOuG1 {P Q : Prop} (q : Q) (h : P = Q := by (try (conv => lhs; simp -dsimp only [ZK, rvc, capA, appA, litL, mkfv, drawF, headN, pureH, stp, dvc, calleeOf, gcall, pev, eff, newB, okd, og, ogs, ogo, ogp, slv, bltv, opd, litv, strip, one, both, putE, St.put, look, gdOf, gdv, picka, pickv, pickw, binv, bini, bins, binb, binp, binq, isSlT, bina, shp, eqCells, unv, convv, nilv, faddv, addp, idxav, idxp, load1, load1m, loadn, loadnm, loadv, hget, hset, hrep, hdel, slicev, slice3v, bnd, shift1, lenv, capv, IntKind.bits, extractv, fieldv, indexv, min2v, max2v, mkiv, tasv, tasz, cellsA, fillA, buildv, stC, oneC, rowMB, intsA, plN, appE, appZ, appC, appS, srcB, appNZ, appNC, VwL, srcC, srcZ, srcM, isBoolT, isPtrT, isSliceT, uOk, Value.oneCell', Nat.reducePow, Int.reducePow, Nat.reduceAdd, Nat.reduceMul, Nat.reduceSub, Nat.reduceLT, Nat.reduceLeDiff, Nat.reduceEqDiff, Nat.reduceBEq, Nat.reduceDiv, Nat.reduceMod, ↓reduceIte, reduceCtorEq, Int.reduceToNat, Int.reduceLT, Int.reduceLE, TFOuG, SeqQ, BlkQ, LoopQ, BodyQ, Nat.zero_mul, List.length_nil, FA.out, FR.out])) <;> exact rfl) : P := h.mpr q
theorem vw_nil {d : Int} : Vw [] (.agg [nsl, iv .u64 d]) (.agg [.sl 0 [], iv .u64 d]) :=
  .agg rfl fun i hi => by
    match i, hi with
    | 0, _ => exact .nils
    | 1, _ => exact .same _
theorem clone_rowS (l : List En) (n : Nat) (hn : l.length = n) (h1 : 1 ≤ n) (hl : n ≤ 100000) : ACt Tryd.prog 76 [.sl n (ecs l)] [] (fun r F' => ∃ x c : Nat, (n ≤ c ∧ c ≤ 9223372036854775807) ∧ r = ms x 0 n c ∧ F' = (x, .cells (ecs l) (c * 9) 38) :: []) := by
  have hCl := ecs_len l
  have ho := ecs_one l
  rw [hn] at hCl
  obtain ⟨C, hC⟩ : ∃ C, C = ecs l := ⟨_, rfl⟩
  rw [← hC] at hCl ho ⊢
  have q1 : 0 < n * 9 := by omega
  have e5 : C.take (n * 9) = C := List.take_of_length_le (by omega)
  have z1 : n ≠ 0 := by omega
  refine ACt.intro Tryd.func76 rfl (by kernel_rfl) (by simp [Tryd.ntmps76]) (fun cx => ?_)
  simp only [argE, Tryd.ntmps76, Tryd.results76]
  first | (have FRx := FR; clear FRx) | have FR := fr0S
  have FA := Sm.mk (And.intro TFOuG (And.intro q1 (And.intro hCl (And.intro ho z1))))
  repeat' first | (apply Sm.mk; refine YsOuG0 ?_) | refine WP.seq fun K hK => ?_ | (apply Ob.mk; exact Yo) | refine And.intro (Ob.out ?_) ?_ | refine Y1OuG ?_ | refine YzOuG ?_ | (refine WP.cond rfl (fun hc => ?_) (fun hc => ?_) <;> (try simp only [ZC, reduceCtorEq, ZD] at hc) <;> (try exact absurd hc (by decide)) <;> (try (exfalso; omega))) | refine Rt.mk (And.intro (fun hg => Sm.out ?_) fun hg => Sm.out ?_) | (refine Nu.mk ?_; first | (fail_if_success have := nb1); intro nb1 | (fail_if_success have := nb2); intro nb2 | (fail_if_success have := nb3); intro nb3 | (fail_if_success have := nb4); intro nb4 | (fail_if_success have := nb5); intro nb5 | (fail_if_success have := nb6); intro nb6 | (fail_if_success have := nb7); intro nb7 | (fail_if_success have := nb8); intro nb8 | (fail_if_success have := nb9); intro nb9 | (fail_if_success have := nb10); intro nb10 | (fail_if_success have := nb11); intro nb11 | (fail_if_success have := nb12); intro nb12 | intro nbz) | (apply Yfr; refine Yf FR fun hFRb FR => ?_) | refine Two.mk ?_ ?_ | (apply Yxc; exact Yx) | refine Cs.mk fun hcs => Sm.out ?_ | go_step | omega | (simp only [maxLen_eq]; omega) | exact trivial
  (refine OutQ.drop _ _ (perm1 (by simp only [hget, hdel, ↓reduceIte, if_true, if_false, FR.out, hCl, Nat.zero_add, List.nil_append]; first | done | rfl)) (by simp only [resv, ZK, look, loadv, loadn, loadnm, load1, load1m, hget, ↓reduceIte, Nat.reduceEqDiff, Nat.reduceAdd, Nat.reduceMul, Nat.reduceLeDiff, Nat.reduceLT, reduceCtorEq, TFOuG, FR.out, hCl, Nat.zero_add, List.nil_append]) ⟨nb2, nb3, FR.out.1, (by simp only [resv, resA, ZK, look, loadv, loadn, loadnm, load1, load1m, hget, ↓reduceIte, Nat.reduceEqDiff, Nat.reduceAdd, Nat.reduceMul, Nat.reduceLeDiff, Nat.reduceLT, reduceCtorEq, TFOuG, FR.out, hCl, Nat.zero_add, List.nil_append]; first | done | rfl), rfl⟩)
theorem clone_rowZ (ad : Addr) (cap : Nat) (hm : cap ≤ maxLen) : ACt Tryd.prog 76 [.lit (.slice (some ad) 0 cap)] [] (fun r F' => ∃ x c : Nat, (0 ≤ c ∧ c ≤ 9223372036854775807) ∧ r = ms x 0 0 c ∧ F' = (x, .cells (ecs []) (c * 9) 38) :: []) := by
  have k : (some ad).isNone = false := rfl
  have he : ecs [] = [] := rfl
  rw [he]
  refine ACt.intro Tryd.func76 rfl (by kernel_rfl) (by simp [Tryd.ntmps76]) (fun cx => ?_)
  simp only [argE, Tryd.ntmps76, Tryd.results76]
  first | (have FRx := FR; clear FRx) | have FR := fr0S
  have FA := Sm.mk (And.intro TFOuG k)
  repeat' first | (apply Sm.mk; refine Ys ?_) | refine WP.seq fun K hK => ?_ | (apply Ob.mk; exact Yo) | refine And.intro (Ob.out ?_) ?_ | ((fail_if_success (show WP _ _ _ (.region 3 _ _) _ _)); refine Y1OuG ?_) | refine YzOuG ?_ | (refine WP.cond rfl (fun hc => ?_) (fun hc => ?_) <;> (try simp only [ZC, reduceCtorEq, ZD] at hc) <;> (try exact absurd hc (by decide)) <;> (try (exfalso; omega))) | refine Rt.mk (And.intro (fun hg => Sm.out ?_) fun hg => Sm.out ?_) | (refine Nu.mk ?_; first | (fail_if_success have := nb1); intro nb1 | (fail_if_success have := nb2); intro nb2 | (fail_if_success have := nb3); intro nb3 | (fail_if_success have := nb4); intro nb4 | (fail_if_success have := nb5); intro nb5 | (fail_if_success have := nb6); intro nb6 | (fail_if_success have := nb7); intro nb7 | (fail_if_success have := nb8); intro nb8 | (fail_if_success have := nb9); intro nb9 | (fail_if_success have := nb10); intro nb10 | (fail_if_success have := nb11); intro nb11 | (fail_if_success have := nb12); intro nb12 | intro nbz) | (apply Yfr; refine Yf FR fun hFRb FR => ?_) | refine Two.mk ?_ ?_ | (apply Yxc; exact Yx) | refine Cs.mk fun hcs => Sm.out ?_ | go_step | omega | (simp only [maxLen_eq]; omega) | exact trivial
  refine WP.wk (Wk.cons (i := 0) (by simp only [look, ↓reduceIte, Nat.reduceEqDiff]; rfl) (fun w I v h => rep_sl0 hm h)) ?_
  first | (have FRx := FR; clear FRx) | have FR := fr0S
  have FA := Sm.mk (TFOuG)
  repeat' first | (apply Sm.mk; refine YsOuG1 ?_) | refine WP.seq fun K hK => ?_ | (apply Ob.mk; exact Yo) | refine And.intro (Ob.out ?_) ?_ | refine Y1OuG ?_ | refine YzOuG ?_ | (refine WP.cond rfl (fun hc => ?_) (fun hc => ?_) <;> (try simp only [ZC, reduceCtorEq, ZD] at hc) <;> (try exact absurd hc (by decide)) <;> (try (exfalso; omega))) | refine Rt.mk (And.intro (fun hg => Sm.out ?_) fun hg => Sm.out ?_) | (refine Nu.mk ?_; first | (fail_if_success have := nb1); intro nb1 | (fail_if_success have := nb2); intro nb2 | (fail_if_success have := nb3); intro nb3 | (fail_if_success have := nb4); intro nb4 | (fail_if_success have := nb5); intro nb5 | (fail_if_success have := nb6); intro nb6 | (fail_if_success have := nb7); intro nb7 | (fail_if_success have := nb8); intro nb8 | (fail_if_success have := nb9); intro nb9 | (fail_if_success have := nb10); intro nb10 | (fail_if_success have := nb11); intro nb11 | (fail_if_success have := nb12); intro nb12 | intro nbz) | (apply Yfr; refine Yf FR fun hFRb FR => ?_) | refine Two.mk ?_ ?_ | (apply Yxc; exact Yx) | refine Cs.mk fun hcs => Sm.out ?_ | go_step | omega | (simp only [maxLen_eq]; omega) | exact trivial
  (refine OutQ.drop _ _ (perm1 (by simp only [hget, hdel, ↓reduceIte, if_true, if_false, FR.out]; first | done | rfl)) (by simp only [resv, ZK, look, loadv, loadn, loadnm, load1, load1m, hget, ↓reduceIte, Nat.reduceEqDiff, Nat.reduceAdd, Nat.reduceMul, Nat.reduceLeDiff, Nat.reduceLT, reduceCtorEq, TFOuG, FR.out]) ⟨nb2, nb3, FR.out.1, (by simp only [resv, resA, ZK, look, loadv, loadn, loadnm, load1, load1m, hget, ↓reduceIte, Nat.reduceEqDiff, Nat.reduceAdd, Nat.reduceMul, Nat.reduceLeDiff, Nat.reduceLT, reduceCtorEq, TFOuG, FR.out]; first | done | rfl), rfl⟩)
theorem own_row {X : AV} {l : List En} {n : Nat} (d : Int) (hX : (∃ m D, X = .sl m D) ∨ (∃ ad cap, X = .lit (.slice (some ad) 0 cap))) (hC : ACt Tryd.prog 76 [X] [] (fun r F' => ∃ x c : Nat, (n ≤ c ∧ c ≤ 9223372036854775807) ∧ r = ms x 0 n c ∧ F' = (x, .cells (ecs l) (c * 9) 38) :: [])) :
    ACt Tryd.prog 41 [.agg [X, iv .u64 d]] [] (fun r F' => ∃ x c : Nat, (n ≤ c ∧ c ≤ 9223372036854775807) ∧ r = .agg [ms x 0 n c, iv .u64 d] ∧ F' = (x, .cells (ecs l) (c * 9) 38) :: []) := by
  obtain ⟨C, hC'⟩ : ∃ C, C = ecs l := ⟨_, rfl⟩
  rw [← hC'] at hC ⊢
  rcases hX with ⟨m, D, rfl⟩ | ⟨ad, cap, rfl⟩
  · refine ACt.intro Tryd.func41 rfl (by kernel_rfl) (by simp [Tryd.ntmps41]) (fun cx => ?_)
    simp only [argE, Tryd.ntmps41, Tryd.results41]
    first | (have FRx := FR; clear FRx) | have FR := fr0S
    have FA := Sm.mk (TFOuG)
    repeat' first | (apply Sm.mk; refine Ys ?_) | refine WP.seq fun K hK => ?_ | (apply Ob.mk; exact Yo) | refine And.intro (Ob.out ?_) ?_ | refine Y1OuG ?_ | refine CallV.newC (hC) (List.Perm.refl _) (fun _ _ => rfl) (Sm.out ?_) | refine YzOuG ?_ | (refine WP.cond rfl (fun hc => ?_) (fun hc => ?_) <;> (try simp only [ZC, reduceCtorEq, ZD] at hc) <;> (try exact absurd hc (by decide)) <;> (try (exfalso; omega))) | refine Rt.mk (And.intro (fun hg => Sm.out ?_) fun hg => Sm.out ?_) | (refine Nu.mk ?_; first | (fail_if_success have := nb1); intro nb1 | (fail_if_success have := nb2); intro nb2 | (fail_if_success have := nb3); intro nb3 | (fail_if_success have := nb4); intro nb4 | (fail_if_success have := nb5); intro nb5 | (fail_if_success have := nb6); intro nb6 | (fail_if_success have := nb7); intro nb7 | (fail_if_success have := nb8); intro nb8 | (fail_if_success have := nb9); intro nb9 | (fail_if_success have := nb10); intro nb10 | (fail_if_success have := nb11); intro nb11 | (fail_if_success have := nb12); intro nb12 | intro nbz) | (apply Yfr; refine Yf FR fun hFRb FR => ?_) | refine Two.mk ?_ ?_ | (apply Yxc; exact Yx) | refine Cs.mk fun hcs => Sm.out ?_ | go_step | omega | (simp only [maxLen_eq]; omega) | exact trivial
    (refine OutQ.drop _ _ (perm1 (by simp only [hget, hdel, ↓reduceIte, if_true, if_false, FR.out]; first | done | rfl)) (by simp only [resv, ZK, look, loadv, loadn, loadnm, load1, load1m, hget, ↓reduceIte, Nat.reduceEqDiff, Nat.reduceAdd, Nat.reduceMul, Nat.reduceLeDiff, Nat.reduceLT, reduceCtorEq, TFOuG, FR.out]) ⟨nb3, nb4, FR.out.1.1, (by simp only [resv, resA, ZK, look, loadv, loadn, loadnm, load1, load1m, hget, ↓reduceIte, Nat.reduceEqDiff, Nat.reduceAdd, Nat.reduceMul, Nat.reduceLeDiff, Nat.reduceLT, reduceCtorEq, TFOuG, FR.out]; first | done | rfl), rfl⟩)
  · refine ACt.intro Tryd.func41 rfl (by kernel_rfl) (by simp [Tryd.ntmps41]) (fun cx => ?_)
    simp only [argE, Tryd.ntmps41, Tryd.results41]
    first | (have FRx := FR; clear FRx) | have FR := fr0S
    have FA := Sm.mk (TFOuG)
    repeat' first | (apply Sm.mk; refine Ys ?_) | refine WP.seq fun K hK => ?_ | (apply Ob.mk; exact Yo) | refine And.intro (Ob.out ?_) ?_ | refine Y1OuG ?_ | refine CallV.newC (hC) (List.Perm.refl _) (fun _ _ => rfl) (Sm.out ?_) | refine YzOuG ?_ | (refine WP.cond rfl (fun hc => ?_) (fun hc => ?_) <;> (try simp only [ZC, reduceCtorEq, ZD] at hc) <;> (try exact absurd hc (by decide)) <;> (try (exfalso; omega))) | refine Rt.mk (And.intro (fun hg => Sm.out ?_) fun hg => Sm.out ?_) | (refine Nu.mk ?_; first | (fail_if_success have := nb1); intro nb1 | (fail_if_success have := nb2); intro nb2 | (fail_if_success have := nb3); intro nb3 | (fail_if_success have := nb4); intro nb4 | (fail_if_success have := nb5); intro nb5 | (fail_if_success have := nb6); intro nb6 | (fail_if_success have := nb7); intro nb7 | (fail_if_success have := nb8); intro nb8 | (fail_if_success have := nb9); intro nb9 | (fail_if_success have := nb10); intro nb10 | (fail_if_success have := nb11); intro nb11 | (fail_if_success have := nb12); intro nb12 | intro nbz) | (apply Yfr; refine Yf FR fun hFRb FR => ?_) | refine Two.mk ?_ ?_ | (apply Yxc; exact Yx) | refine Cs.mk fun hcs => Sm.out ?_ | go_step | omega | (simp only [maxLen_eq]; omega) | exact trivial
    (refine OutQ.drop _ _ (perm1 (by simp only [hget, hdel, ↓reduceIte, if_true, if_false, FR.out]; first | done | rfl)) (by simp only [resv, ZK, look, loadv, loadn, loadnm, load1, load1m, hget, ↓reduceIte, Nat.reduceEqDiff, Nat.reduceAdd, Nat.reduceMul, Nat.reduceLeDiff, Nat.reduceLT, reduceCtorEq, TFOuG, FR.out]) ⟨nb3, nb4, FR.out.1.1, (by simp only [resv, resA, ZK, look, loadv, loadn, loadnm, load1, load1m, hget, ↓reduceIte, Nat.reduceEqDiff, Nat.reduceAdd, Nat.reduceMul, Nat.reduceLeDiff, Nat.reduceLT, reduceCtorEq, TFOuG, FR.out]; first | done | rfl), rfl⟩)
theorem own_nil (d : Int) (cap : Nat) : ACt Tryd.prog 41 [.agg [.lit (.slice none 0 cap), iv .u64 d]] [] (Fn (.agg [nsl, iv .u64 d])) := by
  have cC : ACt Tryd.prog 76 [.lit (.slice none 0 cap)] [] (Fn nsl) := by
    have k : (none : Option Addr).isNone = true := rfl
    refine ACt.intro Tryd.func76 rfl (by kernel_rfl) (by simp [Tryd.ntmps76]) (fun cx => ?_)
    simp only [argE, Tryd.ntmps76, Tryd.results76]
    first | (have FRx := FR; clear FRx) | have FR := fr0S
    have FA := Sm.mk (And.intro TFOuG k)
    repeat' first | (apply Sm.mk; refine Ys ?_) | refine WP.seq fun K hK => ?_ | (apply Ob.mk; exact Yo) | refine And.intro (Ob.out ?_) ?_ | refine Y1OuG ?_ | refine YzOuG ?_ | (refine WP.cond rfl (fun hc => ?_) (fun hc => ?_) <;> (try simp only [ZC, reduceCtorEq, ZD] at hc) <;> (try exact absurd hc (by decide)) <;> (try (exfalso; omega))) | refine Rt.mk (And.intro (fun hg => Sm.out ?_) fun hg => Sm.out ?_) | (refine Nu.mk ?_; first | (fail_if_success have := nb1); intro nb1 | (fail_if_success have := nb2); intro nb2 | (fail_if_success have := nb3); intro nb3 | (fail_if_success have := nb4); intro nb4 | (fail_if_success have := nb5); intro nb5 | (fail_if_success have := nb6); intro nb6 | (fail_if_success have := nb7); intro nb7 | (fail_if_success have := nb8); intro nb8 | (fail_if_success have := nb9); intro nb9 | (fail_if_success have := nb10); intro nb10 | (fail_if_success have := nb11); intro nb11 | (fail_if_success have := nb12); intro nb12 | intro nbz) | (apply Yfr; refine Yf FR fun hFRb FR => ?_) | refine Two.mk ?_ ?_ | (apply Yxc; exact Yx) | refine Cs.mk fun hcs => Sm.out ?_ | go_step | omega | (simp only [maxLen_eq]; omega) | exact trivial
    (refine Yg ?_; try exact trivial)
  refine ACt.intro Tryd.func41 rfl (by kernel_rfl) (by simp [Tryd.ntmps41]) (fun cx => ?_)
  simp only [argE, Tryd.ntmps41, Tryd.results41]
  first | (have FRx := FR; clear FRx) | have FR := fr0S
  have FA := Sm.mk (TFOuG)
  repeat' first | (apply Sm.mk; refine Ys ?_) | refine WP.seq fun K hK => ?_ | (apply Ob.mk; exact Yo) | refine And.intro (Ob.out ?_) ?_ | refine Y1OuG ?_ | refine Yc (c := cC) (r := ?_) | refine YzOuG ?_ | (refine WP.cond rfl (fun hc => ?_) (fun hc => ?_) <;> (try simp only [ZC, reduceCtorEq, ZD] at hc) <;> (try exact absurd hc (by decide)) <;> (try (exfalso; omega))) | refine Rt.mk (And.intro (fun hg => Sm.out ?_) fun hg => Sm.out ?_) | (refine Nu.mk ?_; first | (fail_if_success have := nb1); intro nb1 | (fail_if_success have := nb2); intro nb2 | (fail_if_success have := nb3); intro nb3 | (fail_if_success have := nb4); intro nb4 | (fail_if_success have := nb5); intro nb5 | (fail_if_success have := nb6); intro nb6 | (fail_if_success have := nb7); intro nb7 | (fail_if_success have := nb8); intro nb8 | (fail_if_success have := nb9); intro nb9 | (fail_if_success have := nb10); intro nb10 | (fail_if_success have := nb11); intro nb11 | (fail_if_success have := nb12); intro nb12 | intro nbz) | (apply Yfr; refine Yf FR fun hFRb FR => ?_) | refine Two.mk ?_ ?_ | (apply Yxc; exact Yx) | refine Cs.mk fun hcs => Sm.out ?_ | go_step | omega | (simp only [maxLen_eq]; omega) | exact trivial
  (refine Yg ?_; try exact trivial)
def TFOuH :=
  And.intro (And.intro (And.intro (And.intro (And.intro (And.intro tyc0 tyc2) (And.intro zmb2 tyc3)) (And.intro (And.intro zmb3 tyc4) (And.intro zmb4 (And.intro tyc23 foff23_0)))) (And.intro (And.intro (And.intro fpart23_0 foff23_1) (And.intro fpart23_1 (And.intro foff23_2 fpart23_2))) (And.intro (And.intro foff23_3 fpart23_3) (And.intro foff23_4 (And.intro fpart23_4 fe23))))) (And.intro (And.intro (And.intro (And.intro zmb23 bldT23) (And.intro tyc24 elt24)) (And.intro (And.intro mkz24 mkc24) (And.intro apT24 (And.intro elk24 zmb24)))) (And.intro (And.intro (And.intro tyc25 zmb25) (And.intro tyc27 (And.intro foff27_0 fpart27_0))) (And.intro (And.intro foff27_1 fpart27_1) (And.intro zmb27 (And.intro bldT27 tyc29)))))) (And.intro (And.intro (And.intro (And.intro (And.intro foff29_0 fpart29_0) (And.intro foff29_1 fpart29_1)) (And.intro (And.intro foff29_2 fpart29_2) (And.intro foff29_3 (And.intro fpart29_3 foff29_4)))) (And.intro (And.intro (And.intro fpart29_4 fe29) (And.intro zmb29 (And.intro bldT29 tyc34))) (And.intro (And.intro zmb34 tyc38) (And.intro foff38_0 (And.intro fpart38_0 foff38_1))))) (And.intro (And.intro (And.intro (And.intro fpart38_1 foff38_2) (And.intro fpart38_2 (And.intro foff38_3 fpart38_3))) (And.intro (And.intro foff38_4 fpart38_4) (And.intro zmb38 (And.intro bldT38 Tryd.underlying0)))) (And.intro (And.intro (And.intro Tryd.underlying2 Tryd.underlying3) (And.intro Tryd.underlying4 (And.intro Tryd.underlying23 Tryd.underlying24))) (And.intro (And.intro Tryd.underlying25 Tryd.underlying27) (And.intro Tryd.underlying29 (And.intro Tryd.underlying34 Tryd.underlying38))))))
theorem Y1OuH {G R : Prop} (r : R) (h : R → G := by intro r; first | (apply WP.region; exact rvc_sound _ _ (Sm.out r)) | exact WP.drawK rfl mixed (by decide +kernel) (Sm.out r) | (apply WP.block; exact r) | (apply WP.skip; exact Yq r) | (apply WP.exit; exact Yq r) | (apply WP.ret; exact Sm.out r) | exact WP.cond rfl (fun _ => r) (fun hg => absurd hg (by decide)) | exact WP.cond rfl (fun hg => absurd hg (by decide)) (fun _ => r) | exact Rt.mk (And.intro (fun _ => Sm.out r) fun hg => absurd hg (by decide)) | exact Rt.mk (And.intro (fun hg => absurd hg (by decide)) fun _ => Sm.out r)) : G := h r
theorem YzOuH {G R : Prop} (r : R) (h : R → G := by intro r; first | (apply ExG.no; exact Sm.out r) | (apply Or.inl; apply ExG.no; exact Sm.out r) | exact Or.inl (And.intro (fun hg => absurd hg (by decide)) (ExG.no (Sm.out r)))) : G := h r
noncomputable def adR (n : Nt) (b : Bx) (k : Ky) (now : Int) : AV := .tup [bxv (adB n b k now), iv .i64 (adC n b k now)]
theorem ad_arg {n : Nt} {b : Bx} {k : Ky} {now : Int} (h : (ntB n && bxB b && krB k && tkB now) = false) : adR n b k now = .tup [.agg [.sl b.l.length (ecs b.l), iv .u64 b.d], iv .i64 2] := by
  unfold adR adB adC; rw [h]; rfl
theorem ad_known {n : Nt} {b : Bx} {k : Ky} {now : Int} (h : (ntB n && bxB b && krB k && tkB now) = true) (h2 : 0 ≤ ixE b.l k 0) : adR n b k now = .tup [.agg [.sl b.l.length (ecs b.l), iv .u64 b.d], iv .i64 18] := by
  unfold adR adB adC; rw [h, if_pos h2, if_pos h2]; rfl
theorem ad_full {n : Nt} {b : Bx} {k : Ky} {now : Int} (h : (ntB n && bxB b && krB k && tkB now) = true) (h2 : ¬ 0 ≤ ixE b.l k 0) (h3 : rmB n b k = false) : adR n b k now = .tup [.agg [.sl b.l.length (ecs b.l), iv .u64 (if b.d < 9223372036854775807 then b.d + 1 else b.d)], iv .i64 11] := by
  unfold adR adB adC; rw [h, if_neg h2, if_neg h2, h3]; rfl
theorem ad_fine {n : Nt} {b : Bx} {k : Ky} {now : Int} (h : (ntB n && bxB b && krB k && tkB now) = true) (h2 : ¬ 0 ≤ ixE b.l k 0) (h3 : rmB n b k = true) : adR n b k now = .tup [.agg [.sl (b.l.length + 1) (ecs b.l ++ [.lit (.string k.g), .lit (.string k.r), bv k.p, iv .u64 k.e, bv k.s, iv .i64 now, iv .i64 now, iv .i64 0, bv false]), iv .u64 b.d], iv .i64 0] := by
  unfold adR adB adC; rw [h, if_neg h2, if_neg h2, h3]
  show AV.tup [.agg [.sl (b.l ++ _).length (ecs (b.l ++ _)), _], _] = _
  rw [ecs_app, List.length_append]; rfl
theorem rm_eq {n : Nt} {b : Bx} {k : Ky} (h : ntB n = true) : decide ((b.l.length : Int) < rmI n k) = rmB n b k := by
  unfold ntB at h
  have h := of_decide_eq_true h
  unfold rmI rmB
  split
  · rfl
  · rw [wrap_i64 (by omega) (by omega)]
theorem bx_d {b : Bx} (h : bxB b = true) : b.d ≤ 9223372036854775807 := by
  unfold bxB at h
  simp only [Bool.and_eq_true, decide_eq_true_eq] at h
  exact h.1.2
theorem vw_ad {x n c s ty : Nat} {C : List AV} {d e : Int} {R : AV} (hR : R = .tup [.agg [.sl n C, iv .u64 d], iv .i64 e]) (h2 : n ≤ c) (h3 : c ≤ 9223372036854775807) : Vw [(x, .cells C s ty)] (.tup [.agg [ms x 0 n c, iv .u64 d], iv .i64 e]) R := by
  subst hR
  exact .tup rfl fun i hi => by
    match i, hi with
    | 0, _ => exact vw_box h2 h3
    | 1, _ => exact .same _
set_option maxHeartbeats 4000000 in
theorem adm_row {X : AV} (nt : Nt) (b : Bx) (k : Ky) (now : Int) (n : Nat) (hn : b.l.length = n) (hl : n ≤ 100000) (hz : ∀ e ∈ b.l, Kz e.k) (hzk : Kz k) (hd0 : 0 ≤ b.d) (hX : (∃ m D, X = .sl m D) ∨ (∃ ad cap, X = .lit (.slice (some ad) 0 cap)))
    (hC : ACt Tryd.prog 76 [X] [] (fun r F' => ∃ x c : Nat, (n ≤ c ∧ c ≤ 9223372036854775807) ∧ r = ms x 0 n c ∧ F' = (x, .cells (ecs b.l) (c * 9) 38) :: [])) :
    ACt Tryd.prog 13 [ntv nt, .agg [X, iv .u64 b.d], kv k, iv .i64 now] [] (fun r F' => Vw F' r (adR nt b k now)) := by
  have cO := own_row b.d hX hC
  have cN := notify_ct nt
  have cR := bright_ct b n hn hl hz
  have cK := kright_ct k hzk
  have cT := tick_ct now
  have cF := find_ct b k n hn hl
  have cM := room_ct nt b k n
  have hCl := ecs_len b.l
  have ho := ecs_one b.l
  have hrm := rm_eq (n := nt) (b := b) (k := k)
  have hbd := bx_d (b := b)
  have hA1 := ad_arg (n := nt) (b := b) (k := k) (now := now)
  have hA2 := ad_known (n := nt) (b := b) (k := k) (now := now)
  have hA3 := ad_full (n := nt) (b := b) (k := k) (now := now)
  have hA4 := ad_fine (n := nt) (b := b) (k := k) (now := now)
  obtain ⟨l, d⟩ := b
  simp only at hn hz hd0 cO cR cF cM hCl ho hrm hbd hA1 hA2 hA3 hA4 ⊢
  rw [hn] at hCl hrm hA1 hA2 hA3 hA4
  obtain ⟨R, hR⟩ : ∃ R, R = adR nt ⟨l, d⟩ k now := ⟨_, rfl⟩
  rw [← hR] at hA1 hA2 hA3 hA4 ⊢
  obtain ⟨C, hC'⟩ : ∃ C, C = ecs l := ⟨_, rfl⟩
  rw [← hC'] at cO cR cF cM hCl ho hA1 hA2 hA3 hA4
  obtain ⟨p1, h1⟩ : ∃ p, ntB nt = p := ⟨_, rfl⟩
  obtain ⟨p2, h2⟩ : ∃ p, bxB ⟨l, d⟩ = p := ⟨_, rfl⟩
  obtain ⟨p3, h3⟩ : ∃ p, krB k = p := ⟨_, rfl⟩
  obtain ⟨p4, h4⟩ : ∃ p, tkB now = p := ⟨_, rfl⟩
  obtain ⟨x, hx⟩ : ∃ x : Int, ixE l k 0 = x := ⟨_, rfl⟩
  obtain ⟨m, hm⟩ : ∃ m, decide ((n : Int) < rmI nt k) = m := ⟨_, rfl⟩
  rw [h1] at cN hA1 hA2 hA3 hA4 hrm
  rw [h2] at cR hA1 hA2 hA3 hA4 hbd
  rw [h3] at cK hA1 hA2 hA3 hA4
  rw [h4] at cT hA1 hA2 hA3 hA4
  rw [hx] at cF hA2 hA3 hA4
  rw [hm] at cM hrm
  clear hR h1 h2 h3 h4 hx hm hC' hz
  have e5 : C.take (n * 9) = C := List.take_of_length_le (by omega)
  obtain ⟨ro, re, fi, ca, rp⟩ := nt
  obtain ⟨kg, kr, kp, ke, ks⟩ := k
  refine ACt.intro Tryd.func13 rfl (by kernel_rfl) (by simp [Tryd.ntmps13]) (fun cx => ?_)
  simp only [argE, Tryd.ntmps13, Tryd.results13]
  first | (have FRx := FR; clear FRx) | have FR := fr0S
  have FA := Sm.mk (TFOuH)
  repeat' first | (apply Sm.mk; refine Ys ?_) | refine WP.seq fun K hK => ?_ | (apply Ob.mk; exact Yo) | refine And.intro (Ob.out ?_) ?_ | ((fail_if_success (show WP _ _ _ (.region 2 _ _) _ _)); refine Y1OuH ?_) | refine CallV.newC (cO) (List.Perm.refl _) (fun _ _ => rfl) (Sm.out ?_) | refine YzOuH ?_ | (refine WP.cond rfl (fun hc => ?_) (fun hc => ?_) <;> (try simp only [ZC, reduceCtorEq, ZD] at hc) <;> (try exact absurd hc (by decide)) <;> (try (exfalso; omega))) | refine Rt.mk (And.intro (fun hg => Sm.out ?_) fun hg => Sm.out ?_) | (refine Nu.mk ?_; first | (fail_if_success have := nb1); intro nb1 | (fail_if_success have := nb2); intro nb2 | (fail_if_success have := nb3); intro nb3 | (fail_if_success have := nb4); intro nb4 | (fail_if_success have := nb5); intro nb5 | (fail_if_success have := nb6); intro nb6 | (fail_if_success have := nb7); intro nb7 | (fail_if_success have := nb8); intro nb8 | (fail_if_success have := nb9); intro nb9 | (fail_if_success have := nb10); intro nb10 | (fail_if_success have := nb11); intro nb11 | (fail_if_success have := nb12); intro nb12 | (fail_if_success have := nb13); intro nb13 | (fail_if_success have := nb14); intro nb14 | intro nbz) | (apply Yfr; refine Yf FR fun hFRb FR => ?_) | refine Two.mk ?_ ?_ | (apply Yxc; exact Yx) | refine Cs.mk fun hcs => Sm.out ?_ | go_step | omega | (simp only [maxLen_eq]; omega) | exact trivial
  have hb := FR.out.1.1
  have cR2 : ACt Tryd.prog 16 [.agg [ms nb5 0 n nb6, iv .u64 d]] [(nb5, .cells C (nb6 * 9) 38)] (fun r F' => r = bv p2 ∧ F' = [(nb5, .cells C (nb6 * 9) 38)]) := cR.view rfl ⟨vw_box hb.1 hb.2, trivial⟩
  have cF2 : ACt Tryd.prog 17 [.agg [ms nb5 0 n nb6, iv .u64 d], kv ⟨kg, kr, kp, ke, ks⟩] [(nb5, .cells C (nb6 * 9) 38)] (fun r F' => r = iv .i64 x ∧ F' = [(nb5, .cells C (nb6 * 9) 38)]) := cF.view rfl ⟨vw_box hb.1 hb.2, .same _, trivial⟩
  have cM2 : ACt Tryd.prog 45 [ntv ⟨ro, re, fi, ca, rp⟩, .agg [ms nb5 0 n nb6, iv .u64 d], kv ⟨kg, kr, kp, ke, ks⟩] [(nb5, .cells C (nb6 * 9) 38)] (fun r F' => r = bv m ∧ F' = [(nb5, .cells C (nb6 * 9) 38)]) := cM.view rfl ⟨.same _, vw_box hb.1 hb.2, .same _, trivial⟩
  clear cO cR cF cM
  obtain ⟨z, hz⟩ : ∃ z, decide (x ≥ 0) = z := ⟨_, rfl⟩
  first | (have FRx := FR; clear FRx) | have FR := fr0S
  have FA := Sm.mk (And.intro TFOuH (And.intro hz (And.intro hCl (And.intro ho hb))))
  repeat' first | (apply Sm.mk; refine Ys ?_) | refine WP.seq fun K hK => ?_ | (apply Ob.mk; exact Yo) | refine And.intro (Ob.out ?_) ?_ | refine Y1OuH ?_ | refine Yc (c := cN) (r := ?_) | refine Yl1 (c := cR2) (r := ?_) | refine Yc (c := cK) (r := ?_) | refine Yc (c := cT) (r := ?_) | refine Yl1 (c := cF2) (r := ?_) | refine Yl1 (c := cM2) (r := ?_) | refine YzOuH ?_ | (refine WP.cond rfl (fun hc => ?_) (fun hc => ?_) <;> (try simp only [ZC, reduceCtorEq, ZD] at hc) <;> (try exact absurd hc (by decide)) <;> (try (exfalso; omega))) | refine Rt.mk (And.intro (fun hg => Sm.out ?_) fun hg => Sm.out ?_) | (refine Nu.mk ?_; first | (fail_if_success have := nb1); intro nb1 | (fail_if_success have := nb2); intro nb2 | (fail_if_success have := nb3); intro nb3 | (fail_if_success have := nb4); intro nb4 | (fail_if_success have := nb5); intro nb5 | (fail_if_success have := nb6); intro nb6 | (fail_if_success have := nb7); intro nb7 | (fail_if_success have := nb8); intro nb8 | (fail_if_success have := nb9); intro nb9 | (fail_if_success have := nb10); intro nb10 | (fail_if_success have := nb11); intro nb11 | (fail_if_success have := nb12); intro nb12 | (fail_if_success have := nb13); intro nb13 | (fail_if_success have := nb14); intro nb14 | intro nbz) | (apply Yfr; refine Yf FR fun hFRb FR => ?_) | refine Two.mk ?_ ?_ | (apply Yxc; exact Yx) | refine Cs.mk fun hcs => Sm.out ?_ | go_step | omega | (simp only [maxLen_eq]; omega) | exact trivial
  · have hp : (p1 && p2 && p3 && p4) = false := by
      revert hc
      cases p1 <;> cases p2 <;> cases p3 <;> cases p4 <;> simp
    (refine OutQ.drop _ _ (perm1 (b := nb5) (by simp only [hget, hdel, ↓reduceIte, if_true, if_false, FR.out]; first | done | rfl)) (by simp only [resv, ZK, look, loadv, loadn, loadnm, load1, load1m, hget, ↓reduceIte, Nat.reduceEqDiff, Nat.reduceAdd, Nat.reduceMul, Nat.reduceLeDiff, Nat.reduceLT, reduceCtorEq, TFOuH, FR.out]) ?_; simp only [resv, resA, ZK, look, loadv, loadn, loadnm, load1, load1m, hget, ↓reduceIte, Nat.reduceEqDiff, Nat.reduceAdd, Nat.reduceMul, Nat.reduceLeDiff, Nat.reduceLT, reduceCtorEq, TFOuH, FR.out]; exact vw_ad (hA1 hp) hb.1 hb.2)
  · rename_i hcA
    have hp : (p1 && p2 && p3 && p4) = true := by rw [hcA.1.1.1, hcA.1.1.2, hcA.1.2, hcA.2]; rfl
    have hx0 : 0 ≤ x := by rw [hc] at hz; exact of_decide_eq_true hz
    (refine OutQ.drop _ _ (perm1 (b := nb5) (by simp only [hget, hdel, ↓reduceIte, if_true, if_false, FR.out]; first | done | rfl)) (by simp only [resv, ZK, look, loadv, loadn, loadnm, load1, load1m, hget, ↓reduceIte, Nat.reduceEqDiff, Nat.reduceAdd, Nat.reduceMul, Nat.reduceLeDiff, Nat.reduceLT, reduceCtorEq, TFOuH, FR.out]) ?_; simp only [resv, resA, ZK, look, loadv, loadn, loadnm, load1, load1m, hget, ↓reduceIte, Nat.reduceEqDiff, Nat.reduceAdd, Nat.reduceMul, Nat.reduceLeDiff, Nat.reduceLT, reduceCtorEq, TFOuH, FR.out]; exact vw_ad (hA2 hp hx0) hb.1 hb.2)
  · rename_i hcA hcB
    have hp : (p1 && p2 && p3 && p4) = true := by rw [hcA.1.1.1, hcA.1.1.2, hcA.1.2, hcA.2]; rfl
    have hx0 : ¬ 0 ≤ x := by rw [hcB] at hz; exact of_decide_eq_false hz
    have hdM := hbd hcA.1.1.2
    have hA := hA3 hp hx0 (by rw [← hrm hcA.1.1.1]; exact hc)
    have w1 : IntKind.u64.wrap (d + 1) = d + 1 := wrap_u64 (by omega) (by omega)
    have w2 : (if 9223372036854775807 < IntKind.u64.wrap (d + 1) then 9223372036854775807 else IntKind.u64.wrap (d + 1)) = (if d < 9223372036854775807 then d + 1 else d) := by
      rw [w1]
      split <;> split <;> omega
    (refine OutQ.drop _ _ (perm1 (b := nb5) (by simp only [hget, hdel, ↓reduceIte, if_true, if_false, FR.out]; first | done | rfl)) (by simp only [resv, ZK, look, loadv, loadn, loadnm, load1, load1m, hget, ↓reduceIte, Nat.reduceEqDiff, Nat.reduceAdd, Nat.reduceMul, Nat.reduceLeDiff, Nat.reduceLT, reduceCtorEq, TFOuH, FR.out]) ?_; simp only [resv, resA, ZK, look, loadv, loadn, loadnm, load1, load1m, hget, ↓reduceIte, Nat.reduceEqDiff, Nat.reduceAdd, Nat.reduceMul, Nat.reduceLeDiff, Nat.reduceLT, reduceCtorEq, TFOuH, FR.out]; exact vw_ad (hA.trans (by rw [w2])) hb.1 hb.2)
  · rename_i hcA hcB g1 g2
    have hp : (p1 && p2 && p3 && p4) = true := by rw [hcA.1.1.1, hcA.1.1.2, hcA.1.2, hcA.2]; rfl
    have hx0 : ¬ 0 ≤ x := by rw [hcB] at hz; exact of_decide_eq_false hz
    have hA := hA4 hp hx0 (by rw [← hrm hcA.1.1.1]; exact hc)
    (refine OutQ.drop _ _ (perm1 (b := nb8) (by simp only [hget, hdel, ↓reduceIte, if_true, if_false, FR.out]; first | done | rfl)) (by simp only [resv, ZK, look, loadv, loadn, loadnm, load1, load1m, hget, ↓reduceIte, Nat.reduceEqDiff, Nat.reduceAdd, Nat.reduceMul, Nat.reduceLeDiff, Nat.reduceLT, reduceCtorEq, TFOuH, FR.out]) ?_; simp only [resv, resA, ZK, look, loadv, loadn, loadnm, load1, load1m, hget, ↓reduceIte, Nat.reduceEqDiff, Nat.reduceAdd, Nat.reduceMul, Nat.reduceLeDiff, Nat.reduceLT, reduceCtorEq, TFOuH, FR.out]; exact vw_ad hA hFRb.1 hFRb.2)
end Go.Proofs.YtfknbndmabogjaaDoor
