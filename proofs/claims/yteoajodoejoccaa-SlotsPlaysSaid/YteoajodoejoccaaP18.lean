/-
  The walks and the laws that the statement leans on, part 18.
-/
import Derived.Test.YteoajodoejoccaaP10
import Derived.Test.YteoajodoejoccaaP17
namespace Go.Proofs.Yteoajodoejoccaa
open Go
set_option linter.unusedVariables false
set_option linter.unusedSimpArgs false
set_option linter.defProp false
def TFCrcO1 :=
  And.intro (And.intro (And.intro (And.intro tyc0 (And.intro tyc3 zmb3)) (And.intro (And.intro tyc4 zmb4) (And.intro tyc5 zmb5))) (And.intro (And.intro (And.intro tyc9 zmb9) (And.intro tyc28 zmb28)) (And.intro (And.intro tyc35 zmb35) (And.intro tyc36 elt36)))) (And.intro (And.intro (And.intro mkz36 (And.intro apT36 elk36)) (And.intro (And.intro zmb36 tyc95) (And.intro zmb95 Try.underlying0))) (And.intro (And.intro (And.intro Try.underlying3 Try.underlying4) (And.intro Try.underlying5 Try.underlying9)) (And.intro (And.intro Try.underlying28 Try.underlying35) (And.intro Try.underlying36 Try.underlying95))))
theorem Y1CrcO1 {G R : Prop} (r : R) (h : R → G := by intro r; first | (apply WP.region; exact rvc_sound _ _ (Sm.out r)) | exact WP.drawK rfl mixed (by decide +kernel) (Sm.out r) | (apply WP.block; exact r) | (apply WP.skip; exact Yq r) | (apply WP.exit; exact Yq r) | (apply WP.ret; exact Sm.out r) | exact WP.cond rfl (fun _ => r) (fun hg => absurd hg (by decide)) | exact WP.cond rfl (fun hg => absurd hg (by decide)) (fun _ => r) | exact Rt.mk (And.intro (fun _ => Sm.out r) fun hg => absurd hg (by decide)) | exact Rt.mk (And.intro (fun hg => absurd hg (by decide)) fun _ => Sm.out r)) : G := h r
theorem YzCrcO1 {G R : Prop} (r : R) (h : R → G := by intro r; first | (apply ExG.no; exact Sm.out r) | (apply Or.inl; apply ExG.no; exact Sm.out r) | exact Or.inl (And.intro (fun hg => absurd hg (by decide)) (ExG.no (Sm.out r)))) : G := h r
theorem YsCrcO10 {P Q : Prop} (q : Q) (h : P = Q := by (try (conv => lhs; simp -dsimp only [ZK, rvc, capA, appA, litL, mkfv, drawF, headN, pureH, stp, dvc, calleeOf, gcall, pev, eff, newB, okd, og, ogs, ogo, ogp, slv, bltv, opd, litv, strip, one, both, putE, St.put, look, gdOf, gdv, picka, pickv, pickw, binv, bini, bins, binb, binp, binq, isSlT, bina, shp, eqCells, unv, convv, nilv, faddv, addp, idxav, idxp, load1, load1m, loadn, loadnm, loadv, hget, hset, hrep, hdel, slicev, slice3v, bnd, shift1, lenv, capv, IntKind.bits, extractv, fieldv, indexv, min2v, max2v, mkiv, tasv, tasz, cellsA, fillA, buildv, stC, oneC, rowMB, intsA, plN, appE, appZ, appC, appS, srcB, appNZ, appNC, VwL, srcC, srcZ, srcM, isBoolT, isPtrT, isSliceT, uOk, Value.oneCell', Nat.reducePow, Int.reducePow, Nat.reduceAdd, Nat.reduceMul, Nat.reduceSub, Nat.reduceLT, Nat.reduceLeDiff, Nat.reduceEqDiff, Nat.reduceBEq, Nat.reduceDiv, Nat.reduceMod, ↓reduceIte, reduceCtorEq, Int.reduceToNat, Int.reduceLT, Int.reduceLE, TFCrcO1, SeqQ, BlkQ, LoopQ, BodyQ, ub_len, FA.out, FR.out])) <;> exact rfl) : P := h.mpr q
theorem YsCrcO11 {P Q : Prop} (q : Q) (h : P = Q := by (try (conv => lhs; simp -dsimp only [ZK, rvc, capA, appA, litL, mkfv, drawF, headN, pureH, stp, dvc, calleeOf, gcall, pev, eff, newB, okd, og, ogs, ogo, ogp, slv, bltv, opd, litv, strip, one, both, putE, St.put, look, gdOf, gdv, picka, pickv, pickw, binv, bini, bins, binb, binp, binq, isSlT, bina, shp, eqCells, unv, convv, nilv, faddv, addp, idxav, idxp, load1, load1m, loadn, loadnm, loadv, hget, hset, hrep, hdel, slicev, slice3v, bnd, shift1, lenv, capv, IntKind.bits, extractv, fieldv, indexv, min2v, max2v, mkiv, tasv, tasz, cellsA, fillA, buildv, stC, oneC, rowMB, intsA, plN, appE, appZ, appC, appS, srcB, appNZ, appNC, VwL, srcC, srcZ, srcM, isBoolT, isPtrT, isSliceT, uOk, Value.oneCell', Nat.reducePow, Int.reducePow, Nat.reduceAdd, Nat.reduceMul, Nat.reduceSub, Nat.reduceLT, Nat.reduceLeDiff, Nat.reduceEqDiff, Nat.reduceBEq, Nat.reduceDiv, Nat.reduceMod, ↓reduceIte, reduceCtorEq, Int.reduceToNat, Int.reduceLT, Int.reduceLE, TFCrcO1, SeqQ, BlkQ, LoopQ, BodyQ, ub_len, ub_take, ub_drop, ub_getD, FA.out, FR.out])) <;> exact rfl) : P := h.mpr q
theorem wrap64_sub (L : Nat) (h : 10 ≤ L) (h2 : L ≤ 1000000000) : IntKind.u64.wrap (IntKind.i64.wrap ((L : Int) - 10)) = (L : Int) - 10 := by
  rw [wrap_i64 (by omega) (by omega), wrap_u64 (by omega) (by omega)]
set_option maxRecDepth 20000 in
theorem open_no (bs : List UInt8) (hb : bs.length ≤ 1000000000) (h : ¬ IsF bs) : ACt Try.prog 49 [.slz .u8 (ub bs)] [] (Fn (.tup [.lit (.slice none 0 0), iv .i64 0, iv .i64 10])) := by
  by_cases hN : NoF bs
  · exact open_none bs hb hN
  · unfold NoF at hN
    obtain ⟨n1, n2, n3, n4⟩ : ¬ bs.length < 10 ∧ (bs.getD 0 0).toNat = 245 ∧ ¬ bs.length < lenW bs + 10 ∧ (bs.getD (9 + lenW bs) 0).toNat = 95 := by
      refine ⟨fun g => hN (.inl g), ?_, fun g => hN (.inr (.inr (.inl g))), ?_⟩
      · exact Classical.byContradiction fun g => hN (.inr (.inl g))
      · exact Classical.byContradiction fun g => hN (.inr (.inr (.inr g)))
    have hne : U (wordB 0 ((bs.drop 5).take 4)) ≠ U (ofS (bodyB bs)) := fun g => h ⟨by omega, n2, by omega, n4, U_inj g⟩
    have hlw : lenW bs < 4294967296 := (wordB 0 ((bs.drop 1).take 4)).isLt
    have hU : U (wordB 0 ((bs.drop 1).take 4)) = (lenW bs : Int) := rfl
    have e1 : IntKind.u64.wrap (lenW bs : Int) = (lenW bs : Int) := wrap_u64 (by omega) (by omega)
    have e2 : IntKind.i64.wrap (lenW bs : Int) = (lenW bs : Int) := wrap_i64 (by omega) (by omega)
    have e3 : IntKind.i64.wrap (9 + (lenW bs : Int)) = ((9 + lenW bs : Nat) : Int) := by rw [wrap_i64 (by omega) (by omega)]; omega
    have e0 : bs.take bs.length = bs := List.take_length
    have e5 := wrap64_sub bs.length (by omega) hb
    have e6 : (bs.take (9 + lenW bs)).drop 9 = bodyB bs := by unfold bodyB; rw [List.drop_take]; congr 1; omega
    have e8 := body_len bs (by omega)
    have e7 : (U (wordB 0 ((bs.drop 5).take 4)) != U (ofS (bodyB bs))) = true := by simpa using hne
    refine ACt.intro Try.func49 rfl (by kernel_rfl) (by simp [Try.ntmps49]) (fun cx => ?_)
    simp only [argE, Try.ntmps49, Try.results49]
    first | (have FRx := FR; clear FRx) | have FR := fr0S
    have FA := Sm.mk (And.intro TFCrcO1 (And.intro ub_take (And.intro ub_drop (And.intro ub_getD (And.intro e0 (And.intro hU (And.intro e1 (And.intro e2 (And.intro e3 (And.intro e5 (And.intro e6 (And.intro e7 (And.intro n2 n4)))))))))))))
    repeat' first | (apply Sm.mk; refine YsCrcO10 ?_) | refine WP.seq fun K hK => ?_ | (apply Ob.mk; exact Yo) | refine And.intro (Ob.out ?_) ?_ | refine Y1CrcO1 ?_ | refine Yc (c := word_ct _ (by first | omega | (simp; done) | (simp; omega)) (by first | omega | (simp; done) | (simp; omega) | (simp at *; omega))) (r := ?_) | refine Yc (c := of_ct _ (by first | omega | (simp; done) | (simp; omega) | (simp at *; omega))) (r := ?_) | refine YzCrcO1 ?_ | (refine WP.cond rfl (fun hc => ?_) (fun hc => ?_) <;> (try simp only [ZC, reduceCtorEq, ZD] at hc) <;> (try exact absurd hc (by decide)) <;> (try (exfalso; omega))) | refine Rt.mk (And.intro (fun hg => Sm.out ?_) fun hg => Sm.out ?_) | (refine Nu.mk ?_; first | (fail_if_success have := nb1); intro nb1 | (fail_if_success have := nb2); intro nb2 | (fail_if_success have := nb3); intro nb3 | (fail_if_success have := nb4); intro nb4 | (fail_if_success have := nb5); intro nb5 | (fail_if_success have := nb6); intro nb6 | intro nbz) | (apply Yfr; refine Yf FR fun hFRb FR => ?_) | refine Two.mk ?_ ?_ | (apply Yxc; exact Yx) | refine Cs.mk fun hcs => Sm.out ?_ | (apply Yog; refine Yg ?_; exact trivial) | go_step | omega | (simp only [maxLen_eq]; omega) | exact trivial | refine Or.inr (Rt.mk (And.intro (fun hg => Sm.out ?_) fun hg => Sm.out ?_))
set_option maxRecDepth 20000 in
theorem open_yes (bs : List UInt8) (hb : bs.length ≤ 1000000000) (h : IsF bs) : ACt Try.prog 49 [.slz .u8 (ub bs)] [] (Fn (.tup [.slz .u8 (ub (bodyB bs)), iv .i64 (lenW bs + 10 : Nat), iv .i64 0])) := by
  obtain ⟨n1, n2, n3, n4, n5⟩ := h
  have hlw : lenW bs < 4294967296 := (wordB 0 ((bs.drop 1).take 4)).isLt
  have hU : U (wordB 0 ((bs.drop 1).take 4)) = (lenW bs : Int) := rfl
  have e1 : IntKind.u64.wrap (lenW bs : Int) = (lenW bs : Int) := wrap_u64 (by omega) (by omega)
  have e2 : IntKind.i64.wrap (lenW bs : Int) = (lenW bs : Int) := wrap_i64 (by omega) (by omega)
  have e3 : IntKind.i64.wrap (9 + (lenW bs : Int)) = ((9 + lenW bs : Nat) : Int) := by rw [wrap_i64 (by omega) (by omega)]; omega
  have e4 : IntKind.i64.wrap (((9 + lenW bs : Nat) : Int) + 1) = ((lenW bs + 10 : Nat) : Int) := by rw [wrap_i64 (by omega) (by omega)]; omega
  have e0 : bs.take bs.length = bs := List.take_length
  have e5 := wrap64_sub bs.length (by omega) hb
  have e6 : (bs.take (9 + lenW bs)).drop 9 = bodyB bs := by unfold bodyB; rw [List.drop_take]; congr 1; omega
  have e8 := body_len bs n3
  refine ACt.intro Try.func49 rfl (by kernel_rfl) (by simp [Try.ntmps49]) (fun cx => ?_)
  simp only [argE, Try.ntmps49, Try.results49]
  first | (have FRx := FR; clear FRx) | have FR := fr0S
  have FA := Sm.mk (And.intro TFCrcO1 (And.intro e0 (And.intro hU (And.intro e1 (And.intro e2 (And.intro e3 (And.intro e4 (And.intro e5 (And.intro e6 (And.intro e8 (And.intro n2 (And.intro n4 n5))))))))))))
  repeat' first | (apply Sm.mk; refine YsCrcO11 ?_) | refine WP.seq fun K hK => ?_ | (apply Ob.mk; exact Yo) | refine And.intro (Ob.out ?_) ?_ | refine Y1CrcO1 ?_ | refine Yc (c := word_ct _ (by first | omega | (simp; done) | (simp; omega)) (by first | omega | (simp; done) | (simp; omega) | (simp at *; omega))) (r := ?_) | refine Yc (c := of_ct _ (by first | omega | (simp; done) | (simp; omega) | (simp at *; omega))) (r := ?_) | refine YzCrcO1 ?_ | (refine WP.cond rfl (fun hc => ?_) (fun hc => ?_) <;> (try simp only [ZC, reduceCtorEq, ZD] at hc) <;> (try exact absurd hc (by decide)) <;> (try (exfalso; omega))) | refine Rt.mk (And.intro (fun hg => Sm.out ?_) fun hg => Sm.out ?_) | (refine Nu.mk ?_; first | (fail_if_success have := nb1); intro nb1 | (fail_if_success have := nb2); intro nb2 | (fail_if_success have := nb3); intro nb3 | (fail_if_success have := nb4); intro nb4 | (fail_if_success have := nb5); intro nb5 | (fail_if_success have := nb6); intro nb6 | intro nbz) | (apply Yfr; refine Yf FR fun hFRb FR => ?_) | refine Two.mk ?_ ?_ | (apply Yxc; exact Yx) | refine Cs.mk fun hcs => Sm.out ?_ | go_step | omega | (simp only [maxLen_eq]; omega) | exact trivial | refine Or.inr (Rt.mk (And.intro (fun hg => Sm.out ?_) fun hg => Sm.out ?_))
  · have e9 : ub (bodyB bs) = [] := List.eq_nil_of_length_eq_zero (by rw [ub_len, e8]; exact hcs)
    (refine OutQ.wk (Wk.cons (i := 2) (by simp only [look, ↓reduceIte, Nat.reduceEqDiff]; first | done | rfl) (fun w I v h => Rep.nilz (k := .u8) h)) ?_)
    (have FA := Sm.mk (And.intro e9 FA.out); refine Yg ?_; try exact trivial)
  · have e9 : (ub (bodyB bs)).take (lenW bs) = ub (bodyB bs) := List.take_of_length_le (by rw [ub_len, e8]; omega)
    (refine OutQ.wk (Wk.freeze (nb1) (by simp only [ZK, rvc, capA, appA, litL, mkfv, drawF, headN, pureH, stp, dvc, calleeOf, gcall, pev, eff, newB, okd, og, ogs, ogo, ogp, slv, bltv, opd, litv, strip, one, both, putE, St.put, look, gdOf, gdv, picka, pickv, pickw, binv, bini, bins, binb, binp, binq, isSlT, bina, shp, eqCells, unv, convv, nilv, faddv, addp, idxav, idxp, load1, load1m, loadn, loadnm, loadv, hget, hset, hrep, hdel, slicev, slice3v, bnd, shift1, lenv, capv, IntKind.bits, extractv, fieldv, indexv, min2v, max2v, mkiv, tasv, tasz, cellsA, fillA, buildv, stC, oneC, rowMB, intsA, plN, appE, appZ, appC, appS, srcB, appNZ, appNC, VwL, srcC, srcZ, srcM, isBoolT, isPtrT, isSliceT, uOk, Value.oneCell', Nat.reducePow, Int.reducePow, Nat.reduceAdd, Nat.reduceMul, Nat.reduceSub, Nat.reduceLT, Nat.reduceLeDiff, Nat.reduceEqDiff, Nat.reduceBEq, Nat.reduceDiv, Nat.reduceMod, ↓reduceIte, reduceCtorEq, Int.reduceToNat, Int.reduceLT, Int.reduceLE, TFCrcO1, SeqQ, BlkQ, LoopQ, BodyQ, ub_len, e8, e9, FR.out]; first | done | rfl)) ?_; simp only [frzE, frz, ZK, rvc, capA, appA, litL, mkfv, drawF, headN, pureH, stp, dvc, calleeOf, gcall, pev, eff, newB, okd, og, ogs, ogo, ogp, slv, bltv, opd, litv, strip, one, both, putE, St.put, look, gdOf, gdv, picka, pickv, pickw, binv, bini, bins, binb, binp, binq, isSlT, bina, shp, eqCells, unv, convv, nilv, faddv, addp, idxav, idxp, load1, load1m, loadn, loadnm, loadv, hget, hset, hrep, hdel, slicev, slice3v, bnd, shift1, lenv, capv, IntKind.bits, extractv, fieldv, indexv, min2v, max2v, mkiv, tasv, tasz, cellsA, fillA, buildv, stC, oneC, rowMB, intsA, plN, appE, appZ, appC, appS, srcB, appNZ, appNC, VwL, srcC, srcZ, srcM, isBoolT, isPtrT, isSliceT, uOk, Value.oneCell', Nat.reducePow, Int.reducePow, Nat.reduceAdd, Nat.reduceMul, Nat.reduceSub, Nat.reduceLT, Nat.reduceLeDiff, Nat.reduceEqDiff, Nat.reduceBEq, Nat.reduceDiv, Nat.reduceMod, ↓reduceIte, reduceCtorEq, Int.reduceToNat, Int.reduceLT, Int.reduceLE, TFCrcO1, SeqQ, BlkQ, LoopQ, BodyQ, ub_len, e8, e9, FR.out])
    (have FA := Sm.mk (And.intro e9 FA.out); refine Yg ?_; try exact trivial)
abbrev Bs := List UInt8
def all (bs : Bs) : List Bs × Nat := allF bs.length bs
def frs (L : List Bs) : Bs := L.flatMap frameB
def usd (L : List Bs) : Nat := (frs L).length
abbrev zrs (n : Nat) : Bs := List.replicate n 0
abbrev Sml (L : List Bs) : Prop := ∀ x ∈ L, x.length < 4294967296
theorem frs_nil : frs [] = [] := rfl
theorem frs_snoc (L : List Bs) (x : Bs) : frs (L ++ [x]) = frs L ++ frameB x := by simp [frs]
theorem usd_snoc (L : List Bs) (x : Bs) : usd (L ++ [x]) = usd L + (x.length + 10) := by simp [usd, frs_snoc, frame_len]
theorem isF_head {bs : Bs} (h : IsF bs) : (bs.getD 0 0).toNat = 245 := h.2.1
theorem zrs_noF (n : Nat) : ¬ IsF (zrs n) := fun h => by
  have := isF_head h
  cases n <;> simp [zrs, List.replicate] at this
theorem zero_noF (r : Bs) : ¬ IsF (0 :: r) := fun h => by
  have := isF_head h
  simp at this
theorem getD_zrs (n i : Nat) : (zrs n).getD i 0 = 0 := by
  simp only [zrs, List.getD_eq_getElem?_getD, List.getElem?_replicate]
  split <;> rfl
theorem torn_noF (b : Bs) (q m : Nat) (hb : b.length < 4294967296) (hq : q < b.length + 10) : ¬ IsF ((frameB b).take q ++ zrs m) := by
  intro h
  obtain ⟨h1, h2, h3, h4, -⟩ := h
  have hl : ((frameB b).take q).length = q := by rw [List.length_take, frame_len]; omega
  have hz : ∀ i, q ≤ i → ((frameB b).take q ++ zrs m).getD i 0 = 0 := fun i hi => by
    rw [List.getD_eq_getElem?_getD, List.getElem?_append_right (by omega), ← List.getD_eq_getElem?_getD]
    exact getD_zrs _ _
  by_cases h0 : q = 0
  · rw [hz 0 (by omega)] at h2; simp at h2
  · by_cases h9 : q ≤ 9
    · rw [hz _ (by omega)] at h4; simp at h4
    · have e : (((frameB b).take q ++ zrs m).drop 1).take 4 = be4 b.length := by
        rw [← frame_word, List.drop_append_of_le_length (by omega), List.take_append_of_le_length (by simp only [List.length_drop]; omega), List.drop_take, List.take_take]
        congr 1; omega
      have ew : lenW ((frameB b).take q ++ zrs m) = b.length := by unfold lenW; rw [e, word_be4 _ hb]
      rw [ew, hz _ (by omega)] at h4
      simp at h4
def mix {α : Type} (N T : List α) (p : Nat) : List α := N.take p ++ T.drop p
theorem mix_len {α : Type} {N T : List α} (h : N.length = T.length) (p : Nat) : (mix N T p).length = T.length := by
  simp only [mix, List.length_append, List.length_take, List.length_drop]; omega
theorem mix_high {α : Type} {A X Y : List α} {p : Nat} (h : A.length ≤ p) : mix (A ++ X) (A ++ Y) p = A ++ mix X Y (p - A.length) := by
  unfold mix
  rw [List.take_append, List.drop_append, List.take_of_length_le h, List.drop_of_length_le h, List.nil_append, List.append_assoc]
end Go.Proofs.Yteoajodoejoccaa
