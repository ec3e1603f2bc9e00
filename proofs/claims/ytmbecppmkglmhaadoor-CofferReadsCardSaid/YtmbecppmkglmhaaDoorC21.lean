/-
  The walks and the laws that the statement leans on, part 21.
-/
import Derived.Test.YtmbecppmkglmhaaDoorC11
import Derived.Test.YtmbecppmkglmhaaDoorC19
import Derived.Test.YtmbecppmkglmhaaDoorC20
namespace Go.Proofs.YtmbecppmkglmhaaDoor
open Go
set_option linter.unusedVariables false
set_option linter.unusedSimpArgs false
set_option linter.defProp false
def TFCrcO2 :=
  And.intro (And.intro (And.intro (And.intro (And.intro tyc0 tyc3) (And.intro zmb3 tyc4)) (And.intro (And.intro zmb4 tyc5) (And.intro zmb5 (And.intro tyc9 zmb9)))) (And.intro (And.intro (And.intro tyc22 elt22) (And.intro mkz22 apT22)) (And.intro (And.intro elk22 zmb22) (And.intro tyc29 (And.intro zmb29 tyc37))))) (And.intro (And.intro (And.intro (And.intro elt37 mkz37) (And.intro mkc37 apT37)) (And.intro (And.intro elk37 zmb37) (And.intro tyc63 (And.intro tyc112 Tryd.underlying0)))) (And.intro (And.intro (And.intro Tryd.underlying3 Tryd.underlying4) (And.intro Tryd.underlying5 Tryd.underlying9)) (And.intro (And.intro Tryd.underlying22 Tryd.underlying29) (And.intro Tryd.underlying37 (And.intro Tryd.underlying63 Tryd.underlying112)))))
theorem Y1CrcO2 {G R : Prop} (r : R) (h : R → G := by intro r; first | (apply WP.region; exact rvc_sound _ _ (Sm.out r)) | exact WP.drawK rfl mixed (by decide +kernel) (Sm.out r) | (apply WP.block; exact r) | (apply WP.skip; exact Yq r) | (apply WP.exit; exact Yq r) | (apply WP.ret; exact Sm.out r) | exact WP.cond rfl (fun _ => r) (fun hg => absurd hg (by decide)) | exact WP.cond rfl (fun hg => absurd hg (by decide)) (fun _ => r) | exact Rt.mk (And.intro (fun _ => Sm.out r) fun hg => absurd hg (by decide)) | exact Rt.mk (And.intro (fun hg => absurd hg (by decide)) fun _ => Sm.out r)) : G := h r
theorem YzCrcO2 {G R : Prop} (r : R) (h : R → G := by intro r; first | (apply ExG.no; exact Sm.out r) | (apply Or.inl; apply ExG.no; exact Sm.out r) | exact Or.inl (And.intro (fun hg => absurd hg (by decide)) (ExG.no (Sm.out r)))) : G := h r
theorem YsCrcO20 {P Q : Prop} (q : Q) (h : P = Q := by (try (conv => lhs; simp -dsimp only [ZK, rvc, capA, appA, litL, mkfv, drawF, headN, pureH, stp, dvc, calleeOf, gcall, pev, eff, newB, okd, og, ogs, ogo, ogp, slv, bltv, opd, litv, strip, one, both, putE, St.put, look, gdOf, gdv, picka, pickv, pickw, binv, bini, bins, binb, binp, binq, isSlT, bina, shp, eqCells, unv, convv, nilv, faddv, addp, idxav, idxp, load1, load1m, loadn, loadnm, loadv, hget, hset, hrep, hdel, slicev, slice3v, bnd, shift1, lenv, capv, IntKind.bits, extractv, fieldv, indexv, min2v, max2v, mkiv, tasv, tasz, cellsA, fillA, buildv, stC, oneC, rowMB, intsA, plN, appE, appZ, appC, appS, srcB, appNZ, appNC, VwL, srcC, srcZ, srcM, isBoolT, isPtrT, isSliceT, uOk, Value.oneCell', Nat.reducePow, Int.reducePow, Nat.reduceAdd, Nat.reduceMul, Nat.reduceSub, Nat.reduceLT, Nat.reduceLeDiff, Nat.reduceEqDiff, Nat.reduceBEq, Nat.reduceDiv, Nat.reduceMod, ↓reduceIte, reduceCtorEq, Int.reduceToNat, Int.reduceLT, Int.reduceLE, TFCrcO2, SeqQ, BlkQ, LoopQ, BodyQ, ub_len, ub_drop, ub_take, rowsA_len, rowsA_one, rowsA_snoc, FA.out, FR.out])) <;> exact rfl) : P := h.mpr q
theorem YsCrcO21 {P Q : Prop} (q : Q) (h : P = Q := by (try (conv => lhs; simp -dsimp only [ZK, rvc, capA, appA, litL, mkfv, drawF, headN, pureH, stp, dvc, calleeOf, gcall, pev, eff, newB, okd, og, ogs, ogo, ogp, slv, bltv, opd, litv, strip, one, both, putE, St.put, look, gdOf, gdv, picka, pickv, pickw, binv, bini, bins, binb, binp, binq, isSlT, bina, shp, eqCells, unv, convv, nilv, faddv, addp, idxav, idxp, load1, load1m, loadn, loadnm, loadv, hget, hset, hrep, hdel, slicev, slice3v, bnd, shift1, lenv, capv, IntKind.bits, extractv, fieldv, indexv, min2v, max2v, mkiv, tasv, tasz, cellsA, fillA, buildv, stC, oneC, rowMB, intsA, plN, appE, appZ, appC, appS, srcB, appNZ, appNC, VwL, srcC, srcZ, srcM, isBoolT, isPtrT, isSliceT, uOk, Value.oneCell', Nat.reducePow, Int.reducePow, Nat.reduceAdd, Nat.reduceMul, Nat.reduceSub, Nat.reduceLT, Nat.reduceLeDiff, Nat.reduceEqDiff, Nat.reduceBEq, Nat.reduceDiv, Nat.reduceMod, ↓reduceIte, reduceCtorEq, Int.reduceToNat, Int.reduceLT, Int.reduceLE, TFCrcO2, SeqQ, BlkQ, LoopQ, BodyQ, bne_self_eq_false, FA.out, FR.out])) <;> exact rfl) : P := h.mpr q
theorem YsCrcO22 {P Q : Prop} (q : Q) (h : P = Q := by (try (conv => lhs; simp -dsimp only [ZK, rvc, capA, appA, litL, mkfv, drawF, headN, pureH, stp, dvc, calleeOf, gcall, pev, eff, newB, okd, og, ogs, ogo, ogp, slv, bltv, opd, litv, strip, one, both, putE, St.put, look, gdOf, gdv, picka, pickv, pickw, binv, bini, bins, binb, binp, binq, isSlT, bina, shp, eqCells, unv, convv, nilv, faddv, addp, idxav, idxp, load1, load1m, loadn, loadnm, loadv, hget, hset, hrep, hdel, slicev, slice3v, bnd, shift1, lenv, capv, IntKind.bits, extractv, fieldv, indexv, min2v, max2v, mkiv, tasv, tasz, cellsA, fillA, buildv, stC, oneC, rowMB, intsA, plN, appE, appZ, appC, appS, srcB, appNZ, appNC, VwL, srcC, srcZ, srcM, isBoolT, isPtrT, isSliceT, uOk, Value.oneCell', Nat.reducePow, Int.reducePow, Nat.reduceAdd, Nat.reduceMul, Nat.reduceSub, Nat.reduceLT, Nat.reduceLeDiff, Nat.reduceEqDiff, Nat.reduceBEq, Nat.reduceDiv, Nat.reduceMod, ↓reduceIte, reduceCtorEq, Int.reduceToNat, Int.reduceLT, Int.reduceLE, TFCrcO2, SeqQ, BlkQ, LoopQ, BodyQ, rowsA_len, bstr_list, FA.out, FR.out])) <;> exact rfl) : P := h.mpr q
theorem YsCrcO23 {P Q : Prop} (q : Q) (h : P = Q := by (try (conv => lhs; simp -dsimp only [ZK, rvc, capA, appA, litL, mkfv, drawF, headN, pureH, stp, dvc, calleeOf, gcall, pev, eff, newB, okd, og, ogs, ogo, ogp, slv, bltv, opd, litv, strip, one, both, putE, St.put, look, gdOf, gdv, picka, pickv, pickw, binv, bini, bins, binb, binp, binq, isSlT, bina, shp, eqCells, unv, convv, nilv, faddv, addp, idxav, idxp, load1, load1m, loadn, loadnm, loadv, hget, hset, hrep, hdel, slicev, slice3v, bnd, shift1, lenv, capv, IntKind.bits, extractv, fieldv, indexv, min2v, max2v, mkiv, tasv, tasz, cellsA, fillA, buildv, stC, oneC, rowMB, intsA, plN, appE, appZ, appC, appS, srcB, appNZ, appNC, VwL, srcC, srcZ, srcM, isBoolT, isPtrT, isSliceT, uOk, Value.oneCell', Nat.reducePow, Int.reducePow, Nat.reduceAdd, Nat.reduceMul, Nat.reduceSub, Nat.reduceLT, Nat.reduceLeDiff, Nat.reduceEqDiff, Nat.reduceBEq, Nat.reduceDiv, Nat.reduceMod, ↓reduceIte, reduceCtorEq, Int.reduceToNat, Int.reduceLT, Int.reduceLE, TFCrcO2, SeqQ, BlkQ, LoopQ, BodyQ, rowsA_len, FA.out, FR.out])) <;> exact rfl) : P := h.mpr q
structure AG where
  l : List (List UInt8)
  at_ : Nat
  b : Nat
  cap : Nat
set_option maxRecDepth 20000 in
theorem refAll_ct (bs : List UInt8) (hb : bs.length ≤ 1000000) : ACt Tryd.prog 33 [.slz .u8 (ub bs)] [] (Fn (.tup [.sl (allF bs.length bs).1.length (rowsA (allF bs.length bs).1), iv .i64 (allF bs.length bs).2])) := by
  refine ACt.intro Tryd.func33 rfl (by kernel_rfl) (by simp [Tryd.ntmps33]) (fun cx => ?_)
  simp only [argE, Tryd.ntmps33, Tryd.results33]
  have e0 : bs.take bs.length = bs := List.take_length
  first | (have FRx := FR; clear FRx) | have FR := fr0S
  have FA := Sm.mk (TFCrcO2)
  repeat' first | (apply Sm.mk; refine Ys ?_) | refine WP.seq fun K hK => ?_ | (apply Ob.mk; exact Yo) | refine And.intro (Ob.out ?_) ?_ | refine Y1CrcO2 ?_ | refine YzCrcO2 ?_ | (refine WP.cond rfl (fun hc => ?_) (fun hc => ?_) <;> (try simp only [ZC, reduceCtorEq, ZD] at hc) <;> (try exact absurd hc (by decide)) <;> (try (exfalso; omega))) | refine Rt.mk (And.intro (fun hg => Sm.out ?_) fun hg => Sm.out ?_) | (refine Nu.mk ?_; first | (fail_if_success have := nb1); intro nb1 | (fail_if_success have := nb2); intro nb2 | (fail_if_success have := nb3); intro nb3 | (fail_if_success have := nb4); intro nb4 | (fail_if_success have := nb5); intro nb5 | (fail_if_success have := nb6); intro nb6 | intro nbz) | (apply Yfr; refine Yf FR fun hFRb FR => ?_) | refine Two.mk ?_ ?_ | (apply Yxc; exact Yx) | refine Cs.mk fun hcs => Sm.out ?_ | go_step | omega | (simp only [maxLen_eq]; omega) | exact trivial
  refine WP.loop (Γ := AG) (fun g => ⟨[(4, ms g.b 0 g.l.length g.cap), (5, iv .i64 g.at_), (0, .slz .u8 (ub bs))], [(g.b, .cells (rowsA g.l) g.cap 22)]⟩)
    (fun g => (∃ k, AllI bs g.l g.at_ k) ∧ g.l.length ≤ g.cap ∧ g.cap ≤ 9223372036854775807) (fun g => bs.length - g.at_) ⟨[], 0, nb1, 0⟩ ⟨⟨_, AllI.init bs⟩, by simp, by simp⟩ (Sub.pick (by simp [pickB, hget, hdel, FR.out, rowsA]) (by simp [look, rowsA])) ?_
  intro ⟨l, at_, b, cap⟩ ⟨⟨k, hI⟩, hc1, hc2⟩
  simp only at hI hc1 hc2 ⊢
  have hle := hI.le
  have hfew := hI.few
  by_cases hf : IsF (bs.drop at_)
  · obtain ⟨k', hS, hS1⟩ := hI.step hf
    have g1 : IntKind.i64.wrap ((at_ : Int) + ((lenW (bs.drop at_) + 10 : Nat) : Int)) = ((at_ + (lenW (bs.drop at_) + 10) : Nat) : Int) := by rw [wrap_i64 (by omega) (by omega)]; omega
    have hct := refOpen_ct (bs.drop at_) (by simp; omega)
    rw [if_pos hf] at hct
    first | (have FRx := FR; clear FRx) | have FR := fr0S
    have FA := Sm.mk (And.intro TFCrcO2 (And.intro e0 g1))
    repeat' first | (apply Sm.mk; refine YsCrcO20 ?_) | refine WP.seq fun K hK => ?_ | (apply Ob.mk; exact Yo) | refine And.intro (Ob.out ?_) ?_ | refine Y1CrcO2 ?_ | refine Yc (c := hct) (r := ?_) | refine YzCrcO2 ?_ | (refine WP.cond rfl (fun hc => ?_) (fun hc => ?_) <;> (try simp only [ZC, reduceCtorEq, ZD] at hc) <;> (try exact absurd hc (by decide)) <;> (try (exfalso; omega))) | refine Rt.mk (And.intro (fun hg => Sm.out ?_) fun hg => Sm.out ?_) | (refine Nu.mk ?_; first | (fail_if_success have := nb1); intro nb1 | (fail_if_success have := nb2); intro nb2 | (fail_if_success have := nb3); intro nb3 | (fail_if_success have := nb4); intro nb4 | (fail_if_success have := nb5); intro nb5 | (fail_if_success have := nb6); intro nb6 | intro nbz) | (apply Yfr; refine Yf FR fun hFRb FR => ?_) | refine Two.mk ?_ ?_ | (apply Yxc; exact Yx) | refine Cs.mk fun hcs => Sm.out ?_ | go_step | omega | (simp only [maxLen_eq]; omega) | exact trivial
    exact ⟨⟨_, _, nb3, nb4⟩, ⟨⟨k', hS⟩, by simp; omega, by simp only; omega⟩, by simp only; omega, (Sub.pick (by simp [pickB, hget, hdel, FR.out]) (by simp [look]))⟩
  · obtain ⟨h1, h2⟩ := hI.stop hf
    have hct := refOpen_ct (bs.drop at_) (by simp; omega)
    rw [if_neg hf] at hct
    first | (have FRx := FR; clear FRx) | have FR := fr0S
    have FA := Sm.mk (And.intro TFCrcO2 e0)
    repeat' first | (apply Sm.mk; refine YsCrcO20 ?_) | refine WP.seq fun K hK => ?_ | (apply Ob.mk; exact Yo) | refine And.intro (Ob.out ?_) ?_ | refine Y1CrcO2 ?_ | refine Yc (c := hct) (r := ?_) | refine YzCrcO2 ?_ | (refine WP.cond rfl (fun hc => ?_) (fun hc => ?_) <;> (try simp only [ZC, reduceCtorEq, ZD] at hc) <;> (try exact absurd hc (by decide)) <;> (try (exfalso; omega))) | refine Rt.mk (And.intro (fun hg => Sm.out ?_) fun hg => Sm.out ?_) | (refine Nu.mk ?_; first | (fail_if_success have := nb1); intro nb1 | (fail_if_success have := nb2); intro nb2 | (fail_if_success have := nb3); intro nb3 | (fail_if_success have := nb4); intro nb4 | (fail_if_success have := nb5); intro nb5 | (fail_if_success have := nb6); intro nb6 | intro nbz) | (apply Yfr; refine Yf FR fun hFRb FR => ?_) | refine Two.mk ?_ ?_ | (apply Yxc; exact Yx) | refine Cs.mk fun hcs => Sm.out ?_ | go_step | omega | (simp only [maxLen_eq]; omega) | exact trivial
    subst h1 h2
    have e9 : (rowsA (allF bs.length bs).1).take (allF bs.length bs).1.length = rowsA (allF bs.length bs).1 := List.take_of_length_le (by rw [rowsA_len]; omega)
    (refine OutQ.wk (Wk.freezeC (b) (1) (by simp only [ZK, rvc, capA, appA, litL, mkfv, drawF, headN, pureH, stp, dvc, calleeOf, gcall, pev, eff, newB, okd, og, ogs, ogo, ogp, slv, bltv, opd, litv, strip, one, both, putE, St.put, look, gdOf, gdv, picka, pickv, pickw, binv, bini, bins, binb, binp, binq, isSlT, bina, shp, eqCells, unv, convv, nilv, faddv, addp, idxav, idxp, load1, load1m, loadn, loadnm, loadv, hget, hset, hrep, hdel, slicev, slice3v, bnd, shift1, lenv, capv, IntKind.bits, extractv, fieldv, indexv, min2v, max2v, mkiv, tasv, tasz, cellsA, fillA, buildv, stC, oneC, rowMB, intsA, plN, appE, appZ, appC, appS, srcB, appNZ, appNC, VwL, srcC, srcZ, srcM, isBoolT, isPtrT, isSliceT, uOk, Value.oneCell', Nat.reducePow, Int.reducePow, Nat.reduceAdd, Nat.reduceMul, Nat.reduceSub, Nat.reduceLT, Nat.reduceLeDiff, Nat.reduceEqDiff, Nat.reduceBEq, Nat.reduceDiv, Nat.reduceMod, ↓reduceIte, reduceCtorEq, Int.reduceToNat, Int.reduceLT, Int.reduceLE, TFCrcO2, SeqQ, BlkQ, LoopQ, BodyQ, rowsA_len, hc1, hc2, e9, FR.out]; first | done | rfl)) ?_; simp only [frzCE, frzC, ZK, rvc, capA, appA, litL, mkfv, drawF, headN, pureH, stp, dvc, calleeOf, gcall, pev, eff, newB, okd, og, ogs, ogo, ogp, slv, bltv, opd, litv, strip, one, both, putE, St.put, look, gdOf, gdv, picka, pickv, pickw, binv, bini, bins, binb, binp, binq, isSlT, bina, shp, eqCells, unv, convv, nilv, faddv, addp, idxav, idxp, load1, load1m, loadn, loadnm, loadv, hget, hset, hrep, hdel, slicev, slice3v, bnd, shift1, lenv, capv, IntKind.bits, extractv, fieldv, indexv, min2v, max2v, mkiv, tasv, tasz, cellsA, fillA, buildv, stC, oneC, rowMB, intsA, plN, appE, appZ, appC, appS, srcB, appNZ, appNC, VwL, srcC, srcZ, srcM, isBoolT, isPtrT, isSliceT, uOk, Value.oneCell', Nat.reducePow, Int.reducePow, Nat.reduceAdd, Nat.reduceMul, Nat.reduceSub, Nat.reduceLT, Nat.reduceLeDiff, Nat.reduceEqDiff, Nat.reduceBEq, Nat.reduceDiv, Nat.reduceMod, ↓reduceIte, reduceCtorEq, Int.reduceToNat, Int.reduceLT, Int.reduceLE, TFCrcO2, SeqQ, BlkQ, LoopQ, BodyQ, rowsA_len, hc1, hc2, e9, FR.out])
    (refine OutQ.all ?_ ?_; (focus (simp only [resv, ZK, look, loadv, loadn, loadnm, load1, load1m, hget, ↓reduceIte, Nat.reduceEqDiff, Nat.reduceAdd, Nat.reduceMul, Nat.reduceLeDiff, Nat.reduceLT, reduceCtorEq, TFCrcO2, rowsA_len, hc1, hc2, e9])); (try simp only [resv, resA, Fn, ZK, look, loadv, loadn, loadnm, load1, load1m, hget, ↓reduceIte, Nat.reduceEqDiff, Nat.reduceAdd, Nat.reduceMul, Nat.reduceLeDiff, Nat.reduceLT, reduceCtorEq, TFCrcO2, rowsA_len, hc1, hc2, e9]); (try simp [resA, Fn, look, rowsA_len, hc1, hc2, e9]))
def accA (l : List (List UInt8)) (b cap : Nat) : AV := match l with
  | [] => .lit (.slice none 0 0)
  | _ :: _ => ms b 0 l.length cap
def accH (l : List (List UInt8)) (b cap : Nat) : Hp := match l with
  | [] => []
  | _ :: _ => [(b, .cells (rowsA l) cap 22)]
theorem accA_snoc (l : List (List UInt8)) (y : List UInt8) (b cap : Nat) : accA (l ++ [y]) b cap = ms b 0 (l.length + 1) cap := by cases l <;> simp [accA]
theorem accH_snoc (l : List (List UInt8)) (y : List UInt8) (b cap : Nat) : accH (l ++ [y]) b cap = [(b, .cells (rowsA (l ++ [y])) cap 22)] := by cases l <;> simp [accH]
set_option maxRecDepth 20000 in
theorem crcAll_ct (bs : List UInt8) (hb : bs.length ≤ 1000000) : ACt Tryd.prog 59 [.slz .u8 (ub bs)] [] (Fn (.tup [.sl (allF bs.length bs).1.length (rowsA (allF bs.length bs).1), iv .i64 (allF bs.length bs).2])) := by
  refine ACt.intro Tryd.func59 rfl (by kernel_rfl) (by simp [Tryd.ntmps59]) (fun cx => ?_)
  simp only [argE, Tryd.ntmps59, Tryd.results59]
  have e0 : bs.take bs.length = bs := List.take_length
  first | (have FRx := FR; clear FRx) | have FR := fr0S
  have FA := Sm.mk (TFCrcO2)
  repeat' first | (apply Sm.mk; refine Ys ?_) | refine WP.seq fun K hK => ?_ | (apply Ob.mk; exact Yo) | refine And.intro (Ob.out ?_) ?_ | refine Y1CrcO2 ?_ | refine YzCrcO2 ?_ | (refine WP.cond rfl (fun hc => ?_) (fun hc => ?_) <;> (try simp only [ZC, reduceCtorEq, ZD] at hc) <;> (try exact absurd hc (by decide)) <;> (try (exfalso; omega))) | refine Rt.mk (And.intro (fun hg => Sm.out ?_) fun hg => Sm.out ?_) | (refine Nu.mk ?_; first | (fail_if_success have := nb1); intro nb1 | (fail_if_success have := nb2); intro nb2 | (fail_if_success have := nb3); intro nb3 | (fail_if_success have := nb4); intro nb4 | (fail_if_success have := nb5); intro nb5 | (fail_if_success have := nb6); intro nb6 | intro nbz) | (apply Yfr; refine Yf FR fun hFRb FR => ?_) | refine Two.mk ?_ ?_ | (apply Yxc; exact Yx) | refine Cs.mk fun hcs => Sm.out ?_ | go_step | omega | (simp only [maxLen_eq]; omega) | exact trivial
  refine WP.loop (Γ := AG) (fun g => ⟨[(4, accA g.l g.b g.cap), (5, iv .i64 g.at_), (0, .slz .u8 (ub bs))], accH g.l g.b g.cap⟩)
    (fun g => (∃ k, AllI bs g.l g.at_ k) ∧ g.l.length ≤ g.cap ∧ g.cap ≤ 9223372036854775807) (fun g => bs.length - g.at_) ⟨[], 0, 0, 0⟩ ⟨⟨_, AllI.init bs⟩, by simp, by simp⟩ (Sub.pick (by simp [pickB, hget, hdel, FR.out, accA, accH]) (by simp [look, accA, accH])) ?_
  intro ⟨l, at_, b, cap⟩ ⟨⟨k, hI⟩, hc1, hc2⟩
  simp only at hI hc1 hc2 ⊢
  have hle := hI.le
  have hfew := hI.few
  by_cases hf : IsF (bs.drop at_)
  · obtain ⟨k', hS, hS1⟩ := hI.step hf
    have g1 : IntKind.i64.wrap ((at_ : Int) + ((lenW (bs.drop at_) + 10 : Nat) : Int)) = ((at_ + (lenW (bs.drop at_) + 10) : Nat) : Int) := by rw [wrap_i64 (by omega) (by omega)]; omega
    have hct := open_yes (bs.drop at_) (by simp; omega) hf
    cases l with
    | nil =>
      simp only [accA, accH]
      first | (have FRx := FR; clear FRx) | have FR := fr0S
      have FA := Sm.mk (And.intro TFCrcO2 (And.intro e0 g1))
      repeat' first | (apply Sm.mk; refine YsCrcO20 ?_) | refine WP.seq fun K hK => ?_ | (apply Ob.mk; exact Yo) | refine And.intro (Ob.out ?_) ?_ | refine Y1CrcO2 ?_ | refine Yc (c := hct) (r := ?_) | refine YzCrcO2 ?_ | (refine WP.cond rfl (fun hc => ?_) (fun hc => ?_) <;> (try simp only [ZC, reduceCtorEq, ZD] at hc) <;> (try exact absurd hc (by decide)) <;> (try (exfalso; omega))) | refine Rt.mk (And.intro (fun hg => Sm.out ?_) fun hg => Sm.out ?_) | (refine Nu.mk ?_; first | (fail_if_success have := nb1); intro nb1 | (fail_if_success have := nb2); intro nb2 | (fail_if_success have := nb3); intro nb3 | (fail_if_success have := nb4); intro nb4 | (fail_if_success have := nb5); intro nb5 | (fail_if_success have := nb6); intro nb6 | intro nbz) | (apply Yfr; refine Yf FR fun hFRb FR => ?_) | refine Two.mk ?_ ?_ | (apply Yxc; exact Yx) | refine Cs.mk fun hcs => Sm.out ?_ | go_step | omega | (simp only [maxLen_eq]; omega) | exact trivial
      exact ⟨⟨_, _, nb2, nb3⟩, ⟨⟨k', hS⟩, by simp; omega, by simp only; omega⟩, by simp only; omega, (Sub.pick (by simp [pickB, hget, hdel, FR.out, accA, accH, rowsA]) (by simp [look, accA, accH, rowsA]))⟩
    | cons x r =>
      rw [show accA (x :: r) b cap = ms b 0 (x :: r).length cap from rfl, show accH (x :: r) b cap = [(b, .cells (rowsA (x :: r)) cap 22)] from rfl]
      obtain ⟨l, hl⟩ : ∃ l, l = x :: r := ⟨_, rfl⟩
      rw [← hl] at hS hc1 hfew ⊢
      first | (have FRx := FR; clear FRx) | have FR := fr0S
      have FA := Sm.mk (And.intro TFCrcO2 (And.intro e0 g1))
      repeat' first | (apply Sm.mk; refine YsCrcO20 ?_) | refine WP.seq fun K hK => ?_ | (apply Ob.mk; exact Yo) | refine And.intro (Ob.out ?_) ?_ | refine Y1CrcO2 ?_ | refine Yc (c := hct) (r := ?_) | refine YzCrcO2 ?_ | (refine WP.cond rfl (fun hc => ?_) (fun hc => ?_) <;> (try simp only [ZC, reduceCtorEq, ZD] at hc) <;> (try exact absurd hc (by decide)) <;> (try (exfalso; omega))) | refine Rt.mk (And.intro (fun hg => Sm.out ?_) fun hg => Sm.out ?_) | (refine Nu.mk ?_; first | (fail_if_success have := nb1); intro nb1 | (fail_if_success have := nb2); intro nb2 | (fail_if_success have := nb3); intro nb3 | (fail_if_success have := nb4); intro nb4 | (fail_if_success have := nb5); intro nb5 | (fail_if_success have := nb6); intro nb6 | intro nbz) | (apply Yfr; refine Yf FR fun hFRb FR => ?_) | refine Two.mk ?_ ?_ | (apply Yxc; exact Yx) | refine Cs.mk fun hcs => Sm.out ?_ | go_step | omega | (simp only [maxLen_eq]; omega) | exact trivial
      exact ⟨⟨_, _, nb2, nb3⟩, ⟨⟨k', hS⟩, by simp; omega, by simp only; omega⟩, by simp only; omega, (Sub.pick (by simp [pickB, hget, hdel, FR.out, accA_snoc, accH_snoc]) (by simp [look, accA_snoc, accH_snoc]))⟩
  · obtain ⟨h1, h2⟩ := hI.stop hf
    have hct := open_no (bs.drop at_) (by simp; omega) hf
    cases l with
    | nil =>
      simp only [accA, accH]
      first | (have FRx := FR; clear FRx) | have FR := fr0S
      have FA := Sm.mk (And.intro TFCrcO2 e0)
      repeat' first | (apply Sm.mk; refine YsCrcO20 ?_) | refine WP.seq fun K hK => ?_ | (apply Ob.mk; exact Yo) | refine And.intro (Ob.out ?_) ?_ | refine Y1CrcO2 ?_ | refine Yc (c := hct) (r := ?_) | refine YzCrcO2 ?_ | (refine WP.cond rfl (fun hc => ?_) (fun hc => ?_) <;> (try simp only [ZC, reduceCtorEq, ZD] at hc) <;> (try exact absurd hc (by decide)) <;> (try (exfalso; omega))) | refine Rt.mk (And.intro (fun hg => Sm.out ?_) fun hg => Sm.out ?_) | (refine Nu.mk ?_; first | (fail_if_success have := nb1); intro nb1 | (fail_if_success have := nb2); intro nb2 | (fail_if_success have := nb3); intro nb3 | (fail_if_success have := nb4); intro nb4 | (fail_if_success have := nb5); intro nb5 | (fail_if_success have := nb6); intro nb6 | intro nbz) | (apply Yfr; refine Yf FR fun hFRb FR => ?_) | refine Two.mk ?_ ?_ | (apply Yxc; exact Yx) | refine Cs.mk fun hcs => Sm.out ?_ | go_step | omega | (simp only [maxLen_eq]; omega) | exact trivial
      rw [← h1, ← h2]
      (refine OutQ.wk (Wk.cons (i := 2) (by simp only [look, ↓reduceIte, Nat.reduceEqDiff]; first | done | rfl) (fun w I v h => Rep.nils h)) ?_)
      (refine OutQ.all ?_ ?_; (focus (simp only [resv, ZK, look, loadv, loadn, loadnm, load1, load1m, hget, ↓reduceIte, Nat.reduceEqDiff, Nat.reduceAdd, Nat.reduceMul, Nat.reduceLeDiff, Nat.reduceLT, reduceCtorEq, TFCrcO2, rowsA])); (try simp only [resv, resA, Fn, ZK, look, loadv, loadn, loadnm, load1, load1m, hget, ↓reduceIte, Nat.reduceEqDiff, Nat.reduceAdd, Nat.reduceMul, Nat.reduceLeDiff, Nat.reduceLT, reduceCtorEq, TFCrcO2, rowsA]); (try simp [resA, Fn, look, rowsA]))
    | cons x r =>
      rw [show accA (x :: r) b cap = ms b 0 (x :: r).length cap from rfl, show accH (x :: r) b cap = [(b, .cells (rowsA (x :: r)) cap 22)] from rfl]
      obtain ⟨l, hl⟩ : ∃ l, l = x :: r := ⟨_, rfl⟩
      rw [← hl] at h1 hc1 ⊢
      first | (have FRx := FR; clear FRx) | have FR := fr0S
      have FA := Sm.mk (And.intro TFCrcO2 e0)
      repeat' first | (apply Sm.mk; refine YsCrcO20 ?_) | refine WP.seq fun K hK => ?_ | (apply Ob.mk; exact Yo) | refine And.intro (Ob.out ?_) ?_ | refine Y1CrcO2 ?_ | refine Yc (c := hct) (r := ?_) | refine YzCrcO2 ?_ | (refine WP.cond rfl (fun hc => ?_) (fun hc => ?_) <;> (try simp only [ZC, reduceCtorEq, ZD] at hc) <;> (try exact absurd hc (by decide)) <;> (try (exfalso; omega))) | refine Rt.mk (And.intro (fun hg => Sm.out ?_) fun hg => Sm.out ?_) | (refine Nu.mk ?_; first | (fail_if_success have := nb1); intro nb1 | (fail_if_success have := nb2); intro nb2 | (fail_if_success have := nb3); intro nb3 | (fail_if_success have := nb4); intro nb4 | (fail_if_success have := nb5); intro nb5 | (fail_if_success have := nb6); intro nb6 | intro nbz) | (apply Yfr; refine Yf FR fun hFRb FR => ?_) | refine Two.mk ?_ ?_ | (apply Yxc; exact Yx) | refine Cs.mk fun hcs => Sm.out ?_ | go_step | omega | (simp only [maxLen_eq]; omega) | exact trivial
      clear hl
      subst h1 h2
      have e9 : (rowsA (allF bs.length bs).1).take (allF bs.length bs).1.length = rowsA (allF bs.length bs).1 := List.take_of_length_le (by rw [rowsA_len]; omega)
      (refine OutQ.wk (Wk.freezeC (b) (1) (by simp only [ZK, rvc, capA, appA, litL, mkfv, drawF, headN, pureH, stp, dvc, calleeOf, gcall, pev, eff, newB, okd, og, ogs, ogo, ogp, slv, bltv, opd, litv, strip, one, both, putE, St.put, look, gdOf, gdv, picka, pickv, pickw, binv, bini, bins, binb, binp, binq, isSlT, bina, shp, eqCells, unv, convv, nilv, faddv, addp, idxav, idxp, load1, load1m, loadn, loadnm, loadv, hget, hset, hrep, hdel, slicev, slice3v, bnd, shift1, lenv, capv, IntKind.bits, extractv, fieldv, indexv, min2v, max2v, mkiv, tasv, tasz, cellsA, fillA, buildv, stC, oneC, rowMB, intsA, plN, appE, appZ, appC, appS, srcB, appNZ, appNC, VwL, srcC, srcZ, srcM, isBoolT, isPtrT, isSliceT, uOk, Value.oneCell', Nat.reducePow, Int.reducePow, Nat.reduceAdd, Nat.reduceMul, Nat.reduceSub, Nat.reduceLT, Nat.reduceLeDiff, Nat.reduceEqDiff, Nat.reduceBEq, Nat.reduceDiv, Nat.reduceMod, ↓reduceIte, reduceCtorEq, Int.reduceToNat, Int.reduceLT, Int.reduceLE, TFCrcO2, SeqQ, BlkQ, LoopQ, BodyQ, rowsA_len, hc1, hc2, e9, FR.out]; first | done | rfl)) ?_; simp only [frzCE, frzC, ZK, rvc, capA, appA, litL, mkfv, drawF, headN, pureH, stp, dvc, calleeOf, gcall, pev, eff, newB, okd, og, ogs, ogo, ogp, slv, bltv, opd, litv, strip, one, both, putE, St.put, look, gdOf, gdv, picka, pickv, pickw, binv, bini, bins, binb, binp, binq, isSlT, bina, shp, eqCells, unv, convv, nilv, faddv, addp, idxav, idxp, load1, load1m, loadn, loadnm, loadv, hget, hset, hrep, hdel, slicev, slice3v, bnd, shift1, lenv, capv, IntKind.bits, extractv, fieldv, indexv, min2v, max2v, mkiv, tasv, tasz, cellsA, fillA, buildv, stC, oneC, rowMB, intsA, plN, appE, appZ, appC, appS, srcB, appNZ, appNC, VwL, srcC, srcZ, srcM, isBoolT, isPtrT, isSliceT, uOk, Value.oneCell', Nat.reducePow, Int.reducePow, Nat.reduceAdd, Nat.reduceMul, Nat.reduceSub, Nat.reduceLT, Nat.reduceLeDiff, Nat.reduceEqDiff, Nat.reduceBEq, Nat.reduceDiv, Nat.reduceMod, ↓reduceIte, reduceCtorEq, Int.reduceToNat, Int.reduceLT, Int.reduceLE, TFCrcO2, SeqQ, BlkQ, LoopQ, BodyQ, rowsA_len, hc1, hc2, e9, FR.out])
      (refine OutQ.all ?_ ?_; (focus (simp only [resv, ZK, look, loadv, loadn, loadnm, load1, load1m, hget, ↓reduceIte, Nat.reduceEqDiff, Nat.reduceAdd, Nat.reduceMul, Nat.reduceLeDiff, Nat.reduceLT, reduceCtorEq, TFCrcO2, rowsA_len, hc1, hc2, e9])); (try simp only [resv, resA, Fn, ZK, look, loadv, loadn, loadnm, load1, load1m, hget, ↓reduceIte, Nat.reduceEqDiff, Nat.reduceAdd, Nat.reduceMul, Nat.reduceLeDiff, Nat.reduceLT, reduceCtorEq, TFCrcO2, rowsA_len, hc1, hc2, e9]); (try simp [resA, Fn, look, rowsA_len, hc1, hc2, e9]))
set_option maxRecDepth 20000 in
theorem csame_ct (l : List (List UInt8)) (hl : l.length ≤ 1000000) : ACt Tryd.prog 40 [.sl l.length (rowsA l), .sl l.length (rowsA l)] [] (Fn (bv true)) := by
  refine ACt.intro Tryd.func40 rfl (by kernel_rfl) (by simp [Tryd.ntmps40]) (fun cx => ?_)
  simp only [argE, Tryd.ntmps40, Tryd.results40]
  first | (have FRx := FR; clear FRx) | have FR := fr0S
  have FA := Sm.mk (TFCrcO2)
  repeat' first | (apply Sm.mk; refine YsCrcO21 ?_) | refine WP.seq fun K hK => ?_ | (apply Ob.mk; exact Yo) | refine And.intro (Ob.out ?_) ?_ | refine Y1CrcO2 ?_ | refine YzCrcO2 ?_ | (refine WP.cond rfl (fun hc => ?_) (fun hc => ?_) <;> (try simp only [ZC, reduceCtorEq, ZD] at hc) <;> (try exact absurd hc (by decide)) <;> (try (exfalso; omega))) | refine Rt.mk (And.intro (fun hg => Sm.out ?_) fun hg => Sm.out ?_) | (refine Nu.mk ?_; first | (fail_if_success have := nb1); intro nb1 | (fail_if_success have := nb2); intro nb2 | (fail_if_success have := nb3); intro nb3 | (fail_if_success have := nb4); intro nb4 | (fail_if_success have := nb5); intro nb5 | (fail_if_success have := nb6); intro nb6 | intro nbz) | (apply Yfr; refine Yf FR fun hFRb FR => ?_) | refine Two.mk ?_ ?_ | (apply Yxc; exact Yx) | refine Cs.mk fun hcs => Sm.out ?_ | go_step | omega | (simp only [maxLen_eq]; omega) | exact trivial
  refine WP.loop (Γ := Nat) (fun i => ⟨[(5, iv .i64 i), (0, .sl l.length (rowsA l)), (1, .sl l.length (rowsA l))], []⟩)
    (fun i => i ≤ l.length) (fun i => l.length - i) 0 (by omega) (Sub.pick (by simp [pickB, hget, hdel, FR.out]) (by simp [look])) ?_
  intro i hi
  have g1 : IntKind.i64.wrap ((i : Int) + 1) = ((i + 1 : Nat) : Int) := by rw [wrap_i64 (by omega) (by omega)]; omega
  by_cases h : i < l.length
  · have g2 := rowsA_get l i h
    first | (have FRx := FR; clear FRx) | have FR := fr0S
    have FA := Sm.mk (And.intro TFCrcO2 (And.intro g1 g2))
    repeat' first | (apply Sm.mk; refine YsCrcO22 ?_) | refine WP.seq fun K hK => ?_ | (apply Ob.mk; exact Yo) | refine And.intro (Ob.out ?_) ?_ | refine Y1CrcO2 ?_ | refine YzCrcO2 ?_ | (refine WP.cond rfl (fun hc => ?_) (fun hc => ?_) <;> (try simp only [ZC, reduceCtorEq, ZD] at hc) <;> (try exact absurd hc (by decide)) <;> (try (exfalso; omega))) | refine Rt.mk (And.intro (fun hg => Sm.out ?_) fun hg => Sm.out ?_) | (refine Nu.mk ?_; first | (fail_if_success have := nb1); intro nb1 | (fail_if_success have := nb2); intro nb2 | (fail_if_success have := nb3); intro nb3 | (fail_if_success have := nb4); intro nb4 | (fail_if_success have := nb5); intro nb5 | (fail_if_success have := nb6); intro nb6 | intro nbz) | (apply Yfr; refine Yf FR fun hFRb FR => ?_) | refine Two.mk ?_ ?_ | (apply Yxc; exact Yx) | refine Cs.mk fun hcs => Sm.out ?_ | go_step | omega | (simp only [maxLen_eq]; omega) | exact trivial
    exact ⟨i + 1, by omega, by omega, (Sub.pick (by simp [pickB, hget, hdel, FR.out]) (by simp [look]))⟩
  · obtain rfl : i = l.length := by omega
    first | (have FRx := FR; clear FRx) | have FR := fr0S
    have FA := Sm.mk (And.intro TFCrcO2 g1)
    repeat' first | (apply Sm.mk; refine YsCrcO23 ?_) | refine WP.seq fun K hK => ?_ | (apply Ob.mk; exact Yo) | refine And.intro (Ob.out ?_) ?_ | refine Y1CrcO2 ?_ | refine YzCrcO2 ?_ | (refine WP.cond rfl (fun hc => ?_) (fun hc => ?_) <;> (try simp only [ZC, reduceCtorEq, ZD] at hc) <;> (try exact absurd hc (by decide)) <;> (try (exfalso; omega))) | refine Rt.mk (And.intro (fun hg => Sm.out ?_) fun hg => Sm.out ?_) | (refine Nu.mk ?_; first | (fail_if_success have := nb1); intro nb1 | (fail_if_success have := nb2); intro nb2 | (fail_if_success have := nb3); intro nb3 | (fail_if_success have := nb4); intro nb4 | (fail_if_success have := nb5); intro nb5 | (fail_if_success have := nb6); intro nb6 | intro nbz) | (apply Yfr; refine Yf FR fun hFRb FR => ?_) | refine Two.mk ?_ ?_ | (apply Yxc; exact Yx) | refine Cs.mk fun hcs => Sm.out ?_ | (apply Yog; refine Yg ?_; exact trivial) | go_step | omega | (simp only [maxLen_eq]; omega) | exact trivial
abbrev Bs := List UInt8
def all (bs : Bs) : List Bs × Nat := allF bs.length bs
def frs (L : List Bs) : Bs := L.flatMap frameB
def usd (L : List Bs) : Nat := (frs L).length
abbrev zrs (n : Nat) : Bs := List.replicate n 0
abbrev Sml (L : List Bs) : Prop := ∀ x ∈ L, x.length < 4294967296
theorem frs_nil : frs [] = [] := rfl
theorem frs_cons (x : Bs) (L : List Bs) : frs (x :: L) = frameB x ++ frs L := rfl
theorem frs_snoc (L : List Bs) (x : Bs) : frs (L ++ [x]) = frs L ++ frameB x := by simp [frs]
theorem usd_cons (x : Bs) (L : List Bs) : usd (x :: L) = x.length + 10 + usd L := by simp [usd, frs_cons, frame_len]
theorem usd_snoc (L : List Bs) (x : Bs) : usd (L ++ [x]) = usd L + (x.length + 10) := by simp [usd, frs_snoc, frame_len]
theorem allF_fuel : ∀ (k : Nat) (bs : Bs), bs.length ≤ k → allF k bs = allF bs.length bs := by
  intro k
  induction k with
  | zero => intro bs h; have : bs = [] := List.eq_nil_of_length_eq_zero (by omega); subst this; rfl
  | succ k ih =>
    intro bs h
    by_cases hf : IsF bs
    · have h10 := hf.1
      obtain ⟨m, hm⟩ : ∃ m, bs.length = m + 1 := ⟨bs.length - 1, by omega⟩
      rw [hm]
      simp only [allF, if_pos hf]
      have e1 := ih (bs.drop (lenW bs + 10)) (by simp only [List.length_drop]; omega)
      have e2 : allF m (bs.drop (lenW bs + 10)) = allF (bs.drop (lenW bs + 10)).length (bs.drop (lenW bs + 10)) := by
        by_cases hk : m = k
        · rw [hk]; exact e1
        · -- fewer steps than k
          have : ∀ (j : Nat) (cs : Bs), j ≤ k → cs.length ≤ j → allF j cs = allF cs.length cs := by
            intro j
            induction j using Nat.strongRecOn with
            | _ j ihj =>
              intro cs hj hc
              by_cases hfc : IsF cs
              · have hc10 := hfc.1
                obtain ⟨p, hp⟩ : ∃ p, j = p + 1 := ⟨j - 1, by omega⟩
                obtain ⟨q, hq⟩ : ∃ q, cs.length = q + 1 := ⟨cs.length - 1, by omega⟩
                rw [hp, hq]
                simp only [allF, if_pos hfc]
                have a1 := ihj p (by omega) (cs.drop (lenW cs + 10)) (by omega) (by simp only [List.length_drop]; omega)
                by_cases hpq : q = p
                · rw [hpq]
                · have a2 := ihj q (by omega) (cs.drop (lenW cs + 10)) (by omega) (by simp only [List.length_drop]; omega)
                  rw [a1, a2]
              · rw [allF_no _ _ hfc, allF_no _ _ hfc]
          exact this m _ (by omega) (by simp only [List.length_drop]; omega)
      rw [e1, e2]
    · rw [allF_no _ _ hf, allF_no _ _ hf]
theorem all_no {bs : Bs} (h : ¬ IsF bs) : all bs = ([], 0) := allF_no _ _ h
theorem all_yes {bs : Bs} (h : IsF bs) : all bs = (bodyB bs :: (all (bs.drop (lenW bs + 10))).1, lenW bs + 10 + (all (bs.drop (lenW bs + 10))).2) := by
  have h10 := h.1
  unfold all
  obtain ⟨m, hm⟩ : ∃ m, bs.length = m + 1 := ⟨bs.length - 1, by omega⟩
  rw [hm]
  simp only [allF, if_pos h]
  rw [allF_fuel m (bs.drop (lenW bs + 10)) (by simp only [List.length_drop]; omega)]
theorem all_frame (x r : Bs) (hx : x.length < 4294967296) : all (frameB x ++ r) = (x :: (all r).1, x.length + 10 + (all r).2) := by
  obtain ⟨h1, h2, h3⟩ := frame_front x r hx
  rw [all_yes h3, h1, h2, List.drop_append_of_le_length (by rw [frame_len]; omega), List.drop_of_length_le (by rw [frame_len]; omega), List.nil_append]
theorem all_frs : ∀ (L : List Bs) (r : Bs), Sml L → all (frs L ++ r) = (L ++ (all r).1, usd L + (all r).2)
  | [], r, _ => by simp [frs_nil, usd]
  | x :: L, r, h => by
    rw [frs_cons, List.append_assoc, all_frame x _ (h x (List.mem_cons_self ..)), all_frs L r fun y hy => h y (List.mem_cons_of_mem _ hy), usd_cons]
    simp [Nat.add_assoc]
theorem all_split : ∀ (n : Nat) (bs : Bs), bs.length ≤ n → bs = frs (all bs).1 ++ bs.drop (all bs).2 ∧ (all bs).2 = usd (all bs).1 ∧ ¬ IsF (bs.drop (all bs).2) ∧ Sml (all bs).1 ∧ (all bs).2 ≤ bs.length := by
  intro n
  induction n with
  | zero =>
    intro bs h
    have : bs = [] := List.eq_nil_of_length_eq_zero (by omega)
    subst this
    have hn : ¬ IsF ([] : Bs) := fun h => by have := h.1; simp at this
    rw [all_no hn]
    exact ⟨rfl, rfl, hn, fun x hx => (by cases hx), Nat.le_refl _⟩
  | succ n ih =>
    intro bs h
    by_cases hf : IsF bs
    · have hl := hf.2.2.1
      have h10 := hf.1
      have hi := (isF_iff bs h10 hl).2 hf
      obtain ⟨a1, a2, a3, a4, a5⟩ := ih (bs.drop (lenW bs + 10)) (by simp only [List.length_drop]; omega)
      rw [all_yes hf]
      simp only
      have hb := body_len bs hl
      have hw : lenW bs < 4294967296 := (wordB 0 ((bs.drop 1).take 4)).isLt
      refine ⟨?_, ?_, ?_, ?_, ?_⟩
      · have e : bs.drop (lenW bs + 10 + (all (bs.drop (lenW bs + 10))).2) = (bs.drop (lenW bs + 10)).drop (all (bs.drop (lenW bs + 10))).2 := by rw [List.drop_drop]
        rw [frs_cons, hi, e, List.append_assoc, ← a1, List.take_append_drop]
      · rw [usd_cons, hb, a2]
      · have e : bs.drop (lenW bs + 10 + (all (bs.drop (lenW bs + 10))).2) = (bs.drop (lenW bs + 10)).drop (all (bs.drop (lenW bs + 10))).2 := by rw [List.drop_drop]
        rw [e]; exact a3
      · intro x hx
        rcases List.mem_cons.1 hx with rfl | hx
        · rw [hb]; exact hw
        · exact a4 x hx
      · simp only [List.length_drop] at a5; omega
    · rw [all_no hf]
      exact ⟨rfl, rfl, hf, fun x hx => (by cases hx), Nat.zero_le _⟩
theorem all_le (bs : Bs) : (all bs).2 ≤ bs.length := (all_split _ bs (Nat.le_refl _)).2.2.2.2
theorem isF_head {bs : Bs} (h : IsF bs) : (bs.getD 0 0).toNat = 245 := h.2.1
theorem zrs_noF (n : Nat) : ¬ IsF (zrs n) := fun h => by
  have := isF_head h
  cases n <;> simp [zrs, List.replicate] at this
theorem zero_noF (r : Bs) : ¬ IsF (0 :: r) := fun h => by
  have := isF_head h
  simp at this
def mix {α : Type} (N T : List α) (p : Nat) : List α := N.take p ++ T.drop p
theorem mix_len {α : Type} {N T : List α} (h : N.length = T.length) (p : Nat) : (mix N T p).length = T.length := by
  simp only [mix, List.length_append, List.length_take, List.length_drop]; omega
theorem mix_low {α : Type} {A X Y : List α} {p : Nat} (h : p ≤ A.length) : mix (A ++ X) (A ++ Y) p = A ++ Y := by
  unfold mix
  rw [List.take_append_of_le_length h, List.drop_append_of_le_length h, ← List.append_assoc, List.take_append_drop]
theorem mix_high {α : Type} {A X Y : List α} {p : Nat} (h : A.length ≤ p) : mix (A ++ X) (A ++ Y) p = A ++ mix X Y (p - A.length) := by
  unfold mix
  rw [List.take_append, List.drop_append, List.take_of_length_le h, List.drop_of_length_le h, List.nil_append, List.append_assoc]
theorem mix_clean (X : Bs) (p : Nat) : all (mix (X.take (all X).2 ++ zrs (X.length - (all X).2)) X p) = all X := by
  obtain ⟨h1, h2, h3, h4, h5⟩ := all_split _ X (Nat.le_refl _)
  obtain ⟨L, u, e⟩ : ∃ L u, all X = (L, u) := ⟨_, _, rfl⟩
  rw [e] at h1 h2 h3 h4 h5 ⊢
  simp only at h1 h2 h3 h4 h5 ⊢
  have ht : X.take u = frs L := by
    conv => lhs; rw [h1]
    rw [List.take_append_of_le_length (by unfold usd at h2; omega), List.take_of_length_le (by unfold usd at h2; omega)]
  have hX : X = frs L ++ X.drop u := h1
  obtain ⟨R, hR⟩ : ∃ R, R = X.drop u := ⟨_, rfl⟩
  rw [← hR] at hX h3
  rw [ht]
  have hul : u = (frs L).length := h2
  by_cases hp : p ≤ (frs L).length
  · rw [hX, mix_low hp, ← hX, ← e]
  · rw [hX, mix_high (by omega), all_frs L _ h4]
    have hn : ¬ IsF (mix (zrs ((frs L ++ R).length - u)) R (p - (frs L).length)) := by
      cases hRR : R with
      | nil =>
        have e : mix (zrs ((frs L ++ []).length - u)) ([] : Bs) (p - (frs L).length) = zrs (min (p - (frs L).length) ((frs L ++ []).length - u)) := by unfold mix; simp [zrs]
        rw [e]; exact zrs_noF _
      | cons x r =>
        obtain ⟨j, hj⟩ : ∃ j, p - (frs L).length = j + 1 := ⟨p - (frs L).length - 1, by omega⟩
        obtain ⟨k, hk⟩ : ∃ k, (frs L ++ x :: r).length - u = k + 1 := ⟨r.length, by simp only [List.length_append, List.length_cons]; omega⟩
        rw [hj, hk]
        unfold mix
        simp only [zrs, List.replicate_succ, List.take_succ_cons, List.cons_append]
        exact zero_noF _
    rw [all_no hn]
    simp [hul, usd]
end Go.Proofs.YtmbecppmkglmhaaDoor
