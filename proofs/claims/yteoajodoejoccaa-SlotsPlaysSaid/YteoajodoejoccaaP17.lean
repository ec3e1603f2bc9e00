/-
  The walks and the laws that the statement leans on, part 17.
-/
import Derived.Test.YteoajodoejoccaaP10
import Derived.Test.YteoajodoejoccaaP16
namespace Go.Proofs.Yteoajodoejoccaa
open Go
set_option linter.unusedVariables false
set_option linter.unusedSimpArgs false
set_option linter.defProp false
def TFCrcT1 :=
  And.intro (And.intro (And.intro (And.intro tyc0 (And.intro tyc3 zmb3)) (And.intro (And.intro tyc4 zmb4) (And.intro tyc5 zmb5))) (And.intro (And.intro (And.intro tyc28 zmb28) (And.intro tyc35 zmb35)) (And.intro (And.intro tyc36 elt36) (And.intro mkz36 apT36)))) (And.intro (And.intro (And.intro elk36 (And.intro zmb36 tyc95)) (And.intro (And.intro zmb95 tyc104) (And.intro zmb104 Try.underlying0))) (And.intro (And.intro (And.intro Try.underlying3 Try.underlying4) (And.intro Try.underlying5 Try.underlying28)) (And.intro (And.intro Try.underlying35 Try.underlying36) (And.intro Try.underlying95 Try.underlying104))))
theorem Y1CrcT1 {G R : Prop} (r : R) (h : R → G := by intro r; first | (apply WP.region; exact rvc_sound _ _ (Sm.out r)) | exact WP.drawK rfl mixed (by decide +kernel) (Sm.out r) | (apply WP.block; exact r) | (apply WP.skip; exact Yq r) | (apply WP.exit; exact Yq r) | (apply WP.ret; exact Sm.out r) | exact WP.cond rfl (fun _ => r) (fun hg => absurd hg (by decide)) | exact WP.cond rfl (fun hg => absurd hg (by decide)) (fun _ => r) | exact Rt.mk (And.intro (fun _ => Sm.out r) fun hg => absurd hg (by decide)) | exact Rt.mk (And.intro (fun hg => absurd hg (by decide)) fun _ => Sm.out r)) : G := h r
theorem YzCrcT1 {G R : Prop} (r : R) (h : R → G := by intro r; first | (apply ExG.no; exact Sm.out r) | (apply Or.inl; apply ExG.no; exact Sm.out r) | exact Or.inl (And.intro (fun hg => absurd hg (by decide)) (ExG.no (Sm.out r)))) : G := h r
theorem YsCrcT10 {P Q : Prop} (q : Q) (h : P = Q := by (try (conv => lhs; simp -dsimp only [ZK, rvc, capA, appA, litL, mkfv, drawF, headN, pureH, stp, dvc, calleeOf, gcall, pev, eff, newB, okd, og, ogs, ogo, ogp, slv, bltv, opd, litv, strip, one, both, putE, St.put, look, gdOf, gdv, picka, pickv, pickw, binv, bini, bins, binb, binp, binq, isSlT, bina, shp, eqCells, unv, convv, nilv, faddv, addp, idxav, idxp, load1, load1m, loadn, loadnm, loadv, hget, hset, hrep, hdel, slicev, slice3v, bnd, shift1, lenv, capv, IntKind.bits, extractv, fieldv, indexv, min2v, max2v, mkiv, tasv, tasz, cellsA, fillA, buildv, stC, oneC, rowMB, intsA, plN, appE, appZ, appC, appS, srcB, appNZ, appNC, VwL, srcC, srcZ, srcM, isBoolT, isPtrT, isSliceT, uOk, Value.oneCell', Nat.reducePow, Int.reducePow, Nat.reduceAdd, Nat.reduceMul, Nat.reduceSub, Nat.reduceLT, Nat.reduceLeDiff, Nat.reduceEqDiff, Nat.reduceBEq, Nat.reduceDiv, Nat.reduceMod, ↓reduceIte, reduceCtorEq, Int.reduceToNat, Int.reduceLT, Int.reduceLE, TFCrcT1, SeqQ, BlkQ, LoopQ, BodyQ, ub_len, ub_take, ub_drop, FA.out, FR.out])) <;> exact rfl) : P := h.mpr q
theorem YsCrcT11 {P Q : Prop} (q : Q) (h : P = Q := by (try (conv => lhs; simp -dsimp only [ZK, rvc, capA, appA, litL, mkfv, drawF, headN, pureH, stp, dvc, calleeOf, gcall, pev, eff, newB, okd, og, ogs, ogo, ogp, slv, bltv, opd, litv, strip, one, both, putE, St.put, look, gdOf, gdv, picka, pickv, pickw, binv, bini, bins, binb, binp, binq, isSlT, bina, shp, eqCells, unv, convv, nilv, faddv, addp, idxav, idxp, load1, load1m, loadn, loadnm, loadv, hget, hset, hrep, hdel, slicev, slice3v, bnd, shift1, lenv, capv, IntKind.bits, extractv, fieldv, indexv, min2v, max2v, mkiv, tasv, tasz, cellsA, fillA, buildv, stC, oneC, rowMB, intsA, plN, appE, appZ, appC, appS, srcB, appNZ, appNC, VwL, srcC, srcZ, srcM, isBoolT, isPtrT, isSliceT, uOk, Value.oneCell', Nat.reducePow, Int.reducePow, Nat.reduceAdd, Nat.reduceMul, Nat.reduceSub, Nat.reduceLT, Nat.reduceLeDiff, Nat.reduceEqDiff, Nat.reduceBEq, Nat.reduceDiv, Nat.reduceMod, ↓reduceIte, reduceCtorEq, Int.reduceToNat, Int.reduceLT, Int.reduceLE, TFCrcT1, SeqQ, BlkQ, LoopQ, BodyQ, ub_len, ub_getD, shl8, wrap_X, ibit_or_U, FA.out, FR.out])) <;> exact rfl) : P := h.mpr q
def wordB (c : BitVec 32) (bs : List UInt8) : BitVec 32 := bs.foldl (fun c b => (c <<< 8) ||| X b) c
theorem shl8 (c : BitVec 32) : IntKind.u32.wrap (U c * 256) = U (c <<< 8) := by
  rw [wrap_u32_mod]
  unfold U
  rw [BitVec.toNat_shiftLeft, Nat.shiftLeft_eq]
  omega
theorem take_foldW (bs : List UInt8) (k : Nat) (h : k < bs.length) (c : BitVec 32) : wordB c (bs.take (k + 1)) = (wordB c (bs.take k) <<< 8) ||| X (bs.getD k 0) := by
  unfold wordB
  rw [List.take_succ_eq_append_getElem h, List.foldl_append]
  simp [List.getD, h]
set_option maxRecDepth 20000 in
theorem word_ct (bs : List UInt8) (h4 : 4 ≤ bs.length) (hb : bs.length ≤ 1000000000) : ACt Try.prog 60 [.slz .u8 (ub bs)] [] (Fn (iv .u32 (U (wordB 0 (bs.take 4))))) := by
  refine ACt.intro Try.func60 rfl (by kernel_rfl) (by simp [Try.ntmps60]) (fun cx => ?_)
  simp only [argE, Try.ntmps60, Try.results60]
  have e4 : (if 4 ≤ bs.length then 4 else bs.length) = 4 := if_pos h4
  first | (have FRx := FR; clear FRx) | have FR := fr0S
  have FA := Sm.mk (And.intro TFCrcT1 e4)
  repeat' first | (apply Sm.mk; refine YsCrcT10 ?_) | refine WP.seq fun K hK => ?_ | (apply Ob.mk; exact Yo) | refine And.intro (Ob.out ?_) ?_ | refine Y1CrcT1 ?_ | refine YzCrcT1 ?_ | (refine WP.cond rfl (fun hc => ?_) (fun hc => ?_) <;> (try simp only [ZC, reduceCtorEq, ZD] at hc) <;> (try exact absurd hc (by decide)) <;> (try (exfalso; omega))) | refine Rt.mk (And.intro (fun hg => Sm.out ?_) fun hg => Sm.out ?_) | (refine Nu.mk ?_; first | (fail_if_success have := nb1); intro nb1 | (fail_if_success have := nb2); intro nb2 | (fail_if_success have := nb3); intro nb3 | (fail_if_success have := nb4); intro nb4 | (fail_if_success have := nb5); intro nb5 | (fail_if_success have := nb6); intro nb6 | intro nbz) | (apply Yfr; refine Yf FR fun hFRb FR => ?_) | refine Two.mk ?_ ?_ | (apply Yxc; exact Yx) | refine Cs.mk fun hcs => Sm.out ?_ | go_step | omega | (simp only [maxLen_eq]; omega) | exact trivial
  refine WP.loop (Γ := Nat) (fun i => ⟨[(9, iv .i64 i), (8, iv .i64 4), (7, .slz .u8 (ub (bs.take 4))), (3, iv .u32 (U (wordB 0 ((bs.take 4).take i))))], []⟩)
    (fun i => i ≤ 4) (fun i => 4 - i) 0 (by omega) (Sub.of_env [] (by simp) ?_) ?_
  · simp [look, wordB, e4]; decide
  intro i hi
  have hl : (bs.take 4).length = 4 := by simp; omega
  first | (have FRx := FR; clear FRx) | have FR := fr0S
  have FA := Sm.mk (And.intro TFCrcT1 hl)
  repeat' first | (apply Sm.mk; refine YsCrcT11 ?_) | refine WP.seq fun K hK => ?_ | (apply Ob.mk; exact Yo) | refine And.intro (Ob.out ?_) ?_ | refine Y1CrcT1 ?_ | refine YzCrcT1 ?_ | (refine WP.cond rfl (fun hc => ?_) (fun hc => ?_) <;> (try simp only [ZC, reduceCtorEq, ZD] at hc) <;> (try exact absurd hc (by decide)) <;> (try (exfalso; omega))) | refine Rt.mk (And.intro (fun hg => Sm.out ?_) fun hg => Sm.out ?_) | (refine Nu.mk ?_; first | (fail_if_success have := nb1); intro nb1 | (fail_if_success have := nb2); intro nb2 | (fail_if_success have := nb3); intro nb3 | (fail_if_success have := nb4); intro nb4 | (fail_if_success have := nb5); intro nb5 | (fail_if_success have := nb6); intro nb6 | intro nbz) | (apply Yfr; refine Yf FR fun hFRb FR => ?_) | refine Two.mk ?_ ?_ | (apply Yxc; exact Yx) | refine Cs.mk fun hcs => Sm.out ?_ | go_step | omega | (simp only [maxLen_eq]; omega) | exact trivial
  · have e1 : IntKind.i64.wrap ((i : Int) + 1) = ((i + 1 : Nat) : Int) := by rw [wrap_i64 (by omega) (by omega)]; omega
    refine ⟨i + 1, by omega, by omega, Sub.of_env [] (by simp) ?_⟩
    have e2 := take_foldW (bs.take 4) i (by omega) 0
    simp only [List.mem_cons, List.not_mem_nil, or_false, forall_eq_or_imp, forall_eq, look, ↓reduceIte, Nat.reduceEqDiff, e1, e2, and_self]
  · obtain rfl : i = 4 := by omega
    have e3 : (bs.take 4).take 4 = bs.take 4 := List.take_of_length_le (by omega)
    rw [e3]
    (refine Yg ?_; try exact trivial)
def lenW (bs : List UInt8) : Nat := (wordB 0 ((bs.drop 1).take 4)).toNat
def NoF (bs : List UInt8) : Prop := bs.length < 10 ∨ (bs.getD 0 0).toNat ≠ 245 ∨ bs.length < lenW bs + 10 ∨ (bs.getD (9 + lenW bs) 0).toNat ≠ 95
set_option maxRecDepth 20000 in
theorem open_none (bs : List UInt8) (hb : bs.length ≤ 1000000000) (h : NoF bs) : ACt Try.prog 49 [.slz .u8 (ub bs)] [] (Fn (.tup [.lit (.slice none 0 0), iv .i64 0, iv .i64 10])) := by
  have hlw : lenW bs < 4294967296 := (wordB 0 ((bs.drop 1).take 4)).isLt
  have hU : U (wordB 0 ((bs.drop 1).take 4)) = (lenW bs : Int) := rfl
  have e1 : IntKind.u64.wrap (lenW bs : Int) = (lenW bs : Int) := wrap_u64 (by omega) (by omega)
  have e2 : IntKind.i64.wrap (lenW bs : Int) = (lenW bs : Int) := wrap_i64 (by omega) (by omega)
  have e3 : IntKind.i64.wrap (9 + (lenW bs : Int)) = ((9 + lenW bs : Nat) : Int) := by rw [wrap_i64 (by omega) (by omega)]; omega
  have e0 : (ub bs).take bs.length = ub bs := List.take_of_length_le (by rw [ub_len]; omega)
  have rl := ub_len bs
  have g0 : (ub bs).getD 0 0 = ((bs.getD 0 0).toNat : Int) := ub_getD bs 0
  have g9 : (ub bs).getD (9 + lenW bs) 0 = ((bs.getD (9 + lenW bs) 0).toNat : Int) := ub_getD bs _
  have hd1 : (ub bs).drop 1 = ub (bs.drop 1) := ub_drop bs 1
  by_cases h1 : bs.length < 10
  · have k1 : decide ((bs.length : Int) < 10) = true := decide_eq_true (by omega)
    refine ACt.intro Try.func49 rfl (by kernel_rfl) (by simp [Try.ntmps49]) (fun cx => ?_)
    simp only [argE, Try.ntmps49, Try.results49]
    first | (have FRx := FR; clear FRx) | have FR := fr0S
    have FA := Sm.mk (And.intro TFCrcT1 (And.intro rl k1))
    repeat' first | (apply Sm.mk; refine Ys ?_) | refine WP.seq fun K hK => ?_ | (apply Ob.mk; exact Yo) | refine And.intro (Ob.out ?_) ?_ | refine Y1CrcT1 ?_ | refine YzCrcT1 ?_ | (refine WP.cond rfl (fun hc => ?_) (fun hc => ?_) <;> (try simp only [ZC, reduceCtorEq, ZD] at hc) <;> (try exact absurd hc (by decide)) <;> (try (exfalso; omega))) | refine Rt.mk (And.intro (fun hg => Sm.out ?_) fun hg => Sm.out ?_) | (refine Nu.mk ?_; first | (fail_if_success have := nb1); intro nb1 | (fail_if_success have := nb2); intro nb2 | (fail_if_success have := nb3); intro nb3 | (fail_if_success have := nb4); intro nb4 | (fail_if_success have := nb5); intro nb5 | (fail_if_success have := nb6); intro nb6 | intro nbz) | (apply Yfr; refine Yf FR fun hFRb FR => ?_) | refine Two.mk ?_ ?_ | (apply Yxc; exact Yx) | refine Cs.mk fun hcs => Sm.out ?_ | go_step | omega | (simp only [maxLen_eq]; omega) | exact trivial
    (refine Yg ?_; try exact trivial)
  have k1 : decide ((bs.length : Int) < 10) = false := decide_eq_false (by omega)
  have q0 : 0 < bs.length := by omega
  by_cases h2 : (bs.getD 0 0).toNat ≠ 245
  · have k2 : (((bs.getD 0 0).toNat : Int) != 245) = true := by simpa using (show ((bs.getD 0 0).toNat : Int) ≠ 245 by omega)
    obtain ⟨x0, hx0⟩ : ∃ x, x = (bs.getD 0 0).toNat := ⟨_, rfl⟩
    rw [← hx0] at g0 k2
    refine ACt.intro Try.func49 rfl (by kernel_rfl) (by simp [Try.ntmps49]) (fun cx => ?_)
    simp only [argE, Try.ntmps49, Try.results49]
    first | (have FRx := FR; clear FRx) | have FR := fr0S
    have FA := Sm.mk (And.intro TFCrcT1 (And.intro rl (And.intro k1 (And.intro q0 (And.intro g0 k2)))))
    repeat' first | (apply Sm.mk; refine Ys ?_) | refine WP.seq fun K hK => ?_ | (apply Ob.mk; exact Yo) | refine And.intro (Ob.out ?_) ?_ | refine Y1CrcT1 ?_ | refine YzCrcT1 ?_ | (refine WP.cond rfl (fun hc => ?_) (fun hc => ?_) <;> (try simp only [ZC, reduceCtorEq, ZD] at hc) <;> (try exact absurd hc (by decide)) <;> (try (exfalso; omega))) | refine Rt.mk (And.intro (fun hg => Sm.out ?_) fun hg => Sm.out ?_) | (refine Nu.mk ?_; first | (fail_if_success have := nb1); intro nb1 | (fail_if_success have := nb2); intro nb2 | (fail_if_success have := nb3); intro nb3 | (fail_if_success have := nb4); intro nb4 | (fail_if_success have := nb5); intro nb5 | (fail_if_success have := nb6); intro nb6 | intro nbz) | (apply Yfr; refine Yf FR fun hFRb FR => ?_) | refine Two.mk ?_ ?_ | (apply Yxc; exact Yx) | refine Cs.mk fun hcs => Sm.out ?_ | go_step | omega | (simp only [maxLen_eq]; omega) | exact trivial
    (refine Yg ?_; try exact trivial)
  have k2 : (((bs.getD 0 0).toNat : Int) != 245) = false := by simpa using (show ((bs.getD 0 0).toNat : Int) = 245 by omega)
  obtain ⟨x0, hx0⟩ : ∃ x, x = (bs.getD 0 0).toNat := ⟨_, rfl⟩
  rw [← hx0] at g0 k2
  have e5 : IntKind.u64.wrap (IntKind.i64.wrap ((bs.length : Int) - 10)) = (bs.length : Int) - 10 := by rw [wrap_i64 (by omega) (by omega), wrap_u64 (by omega) (by omega)]
  have cW := word_ct (bs.drop 1) (by rw [List.length_drop]; omega) (by rw [List.length_drop]; omega)
  rw [hU] at cW
  have q1 : 1 ≤ bs.length := by omega
  have ht : (ub (bs.drop 1)).take (bs.length - 1) = ub (bs.drop 1) := List.take_of_length_le (by rw [ub_len, List.length_drop]; omega)
  by_cases h3 : bs.length < lenW bs + 10
  · have k3 : decide ((lenW bs : Int) > (bs.length : Int) - 10) = true := decide_eq_true (by omega)
    refine ACt.intro Try.func49 rfl (by kernel_rfl) (by simp [Try.ntmps49]) (fun cx => ?_)
    simp only [argE, Try.ntmps49, Try.results49]
    first | (have FRx := FR; clear FRx) | have FR := fr0S
    have FA := Sm.mk (And.intro TFCrcT1 (And.intro rl (And.intro k1 (And.intro q0 (And.intro q1 (And.intro g0 (And.intro k2 (And.intro e0 (And.intro hd1 (And.intro ht (And.intro e1 (And.intro e5 k3))))))))))))
    repeat' first | (apply Sm.mk; refine Ys ?_) | refine WP.seq fun K hK => ?_ | (apply Ob.mk; exact Yo) | refine And.intro (Ob.out ?_) ?_ | refine Y1CrcT1 ?_ | refine Yc (c := cW) (r := ?_) | refine YzCrcT1 ?_ | (refine WP.cond rfl (fun hc => ?_) (fun hc => ?_) <;> (try simp only [ZC, reduceCtorEq, ZD] at hc) <;> (try exact absurd hc (by decide)) <;> (try (exfalso; omega))) | refine Rt.mk (And.intro (fun hg => Sm.out ?_) fun hg => Sm.out ?_) | (refine Nu.mk ?_; first | (fail_if_success have := nb1); intro nb1 | (fail_if_success have := nb2); intro nb2 | (fail_if_success have := nb3); intro nb3 | (fail_if_success have := nb4); intro nb4 | (fail_if_success have := nb5); intro nb5 | (fail_if_success have := nb6); intro nb6 | intro nbz) | (apply Yfr; refine Yf FR fun hFRb FR => ?_) | refine Two.mk ?_ ?_ | (apply Yxc; exact Yx) | refine Cs.mk fun hcs => Sm.out ?_ | go_step | omega | (simp only [maxLen_eq]; omega) | exact trivial
    (refine Yg ?_; try exact trivial)
  have k3 : decide ((lenW bs : Int) > (bs.length : Int) - 10) = false := decide_eq_false (by omega)
  have h4 : (bs.getD (9 + lenW bs) 0).toNat ≠ 95 := by
    rcases h with h | h | h | h
    · exact absurd h h1
    · exact absurd h (by omega)
    · exact absurd h h3
    · exact h
  have k4 : (((bs.getD (9 + lenW bs) 0).toNat : Int) != 95) = true := by simpa using (show ((bs.getD (9 + lenW bs) 0).toNat : Int) ≠ 95 by omega)
  obtain ⟨x9, hx9⟩ : ∃ x, x = (bs.getD (9 + lenW bs) 0).toNat := ⟨_, rfl⟩
  rw [← hx9] at g9 k4
  have q9 : 9 + lenW bs < bs.length := by omega
  refine ACt.intro Try.func49 rfl (by kernel_rfl) (by simp [Try.ntmps49]) (fun cx => ?_)
  simp only [argE, Try.ntmps49, Try.results49]
  first | (have FRx := FR; clear FRx) | have FR := fr0S
  have FA := Sm.mk (And.intro TFCrcT1 (And.intro rl (And.intro k1 (And.intro q0 (And.intro q1 (And.intro g0 (And.intro k2 (And.intro e0 (And.intro hd1 (And.intro ht (And.intro e1 (And.intro e2 (And.intro e3 (And.intro e5 (And.intro k3 (And.intro g9 (And.intro k4 q9)))))))))))))))))
  repeat' first | (apply Sm.mk; refine Ys ?_) | refine WP.seq fun K hK => ?_ | (apply Ob.mk; exact Yo) | refine And.intro (Ob.out ?_) ?_ | refine Y1CrcT1 ?_ | refine Yc (c := cW) (r := ?_) | refine YzCrcT1 ?_ | (refine WP.cond rfl (fun hc => ?_) (fun hc => ?_) <;> (try simp only [ZC, reduceCtorEq, ZD] at hc) <;> (try exact absurd hc (by decide)) <;> (try (exfalso; omega))) | refine Rt.mk (And.intro (fun hg => Sm.out ?_) fun hg => Sm.out ?_) | (refine Nu.mk ?_; first | (fail_if_success have := nb1); intro nb1 | (fail_if_success have := nb2); intro nb2 | (fail_if_success have := nb3); intro nb3 | (fail_if_success have := nb4); intro nb4 | (fail_if_success have := nb5); intro nb5 | (fail_if_success have := nb6); intro nb6 | intro nbz) | (apply Yfr; refine Yf FR fun hFRb FR => ?_) | refine Two.mk ?_ ?_ | (apply Yxc; exact Yx) | refine Cs.mk fun hcs => Sm.out ?_ | go_step | omega | (simp only [maxLen_eq]; omega) | exact trivial
  (refine Yg ?_; try exact trivial)
def TFCrcT2 :=
  And.intro (And.intro (And.intro (And.intro tyc3 zmb3) (And.intro tyc5 zmb5)) (And.intro (And.intro tyc36 elt36) (And.intro mkz36 (And.intro apT36 elk36)))) (And.intro (And.intro (And.intro zmb36 tyc95) (And.intro zmb95 (And.intro tyc104 zmb104))) (And.intro (And.intro Try.underlying3 Try.underlying5) (And.intro Try.underlying36 (And.intro Try.underlying95 Try.underlying104))))
theorem Y1CrcT2 {G R : Prop} (r : R) (h : R → G := by intro r; first | (apply WP.region; exact rvc_sound _ _ (Sm.out r)) | exact WP.drawK rfl mixed (by decide +kernel) (Sm.out r) | (apply WP.block; exact r) | (apply WP.skip; exact Yq r) | (apply WP.exit; exact Yq r) | (apply WP.ret; exact Sm.out r) | exact WP.cond rfl (fun _ => r) (fun hg => absurd hg (by decide)) | exact WP.cond rfl (fun hg => absurd hg (by decide)) (fun _ => r) | exact Rt.mk (And.intro (fun _ => Sm.out r) fun hg => absurd hg (by decide)) | exact Rt.mk (And.intro (fun hg => absurd hg (by decide)) fun _ => Sm.out r)) : G := h r
theorem YzCrcT2 {G R : Prop} (r : R) (h : R → G := by intro r; first | (apply ExG.no; exact Sm.out r) | (apply Or.inl; apply ExG.no; exact Sm.out r) | exact Or.inl (And.intro (fun hg => absurd hg (by decide)) (ExG.no (Sm.out r)))) : G := h r
theorem YsCrcT20 {P Q : Prop} (q : Q) (h : P = Q := by (try (conv => lhs; simp -dsimp only [ZK, rvc, capA, appA, litL, mkfv, drawF, headN, pureH, stp, dvc, calleeOf, gcall, pev, eff, newB, okd, og, ogs, ogo, ogp, slv, bltv, opd, litv, strip, one, both, putE, St.put, look, gdOf, gdv, picka, pickv, pickw, binv, bini, bins, binb, binp, binq, isSlT, bina, shp, eqCells, unv, convv, nilv, faddv, addp, idxav, idxp, load1, load1m, loadn, loadnm, loadv, hget, hset, hrep, hdel, slicev, slice3v, bnd, shift1, lenv, capv, IntKind.bits, extractv, fieldv, indexv, min2v, max2v, mkiv, tasv, tasz, cellsA, fillA, buildv, stC, oneC, rowMB, intsA, plN, appE, appZ, appC, appS, srcB, appNZ, appNC, VwL, srcC, srcZ, srcM, isBoolT, isPtrT, isSliceT, uOk, Value.oneCell', Nat.reducePow, Int.reducePow, Nat.reduceAdd, Nat.reduceMul, Nat.reduceSub, Nat.reduceLT, Nat.reduceLeDiff, Nat.reduceEqDiff, Nat.reduceBEq, Nat.reduceDiv, Nat.reduceMod, ↓reduceIte, reduceCtorEq, Int.reduceToNat, Int.reduceLT, Int.reduceLE, TFCrcT2, SeqQ, BlkQ, LoopQ, BodyQ, ub_len, be4_len, FA.out, FR.out])) <;> exact rfl) : P := h.mpr q
def be4 (w : Int) : List UInt8 := [UInt8.ofNat (w.fdiv 16777216 % 256).toNat, UInt8.ofNat (w.fdiv 65536 % 256).toNat, UInt8.ofNat (w.fdiv 256 % 256).toNat, UInt8.ofNat (w % 256).toNat]
theorem wrap_ub (x : Int) : IntKind.u8.wrap x = ((UInt8.ofNat (x % 256).toNat).toNat : Int) := by
  rw [wrap_u8_mod]
  simp
  omega
theorem be4_ub (w : Int) : [IntKind.u8.wrap (w.fdiv 16777216), IntKind.u8.wrap (w.fdiv 65536), IntKind.u8.wrap (w.fdiv 256), IntKind.u8.wrap w] = ub (be4 w) := by
  simp only [wrap_ub]; rfl
theorem be4_len (w : Int) : (be4 w).length = 4 := rfl
set_option maxRecDepth 20000 in
theorem put_ct (b n cap : Nat) (w : Int) (zs : List Int) (hn : zs.length = n) (hb : n ≤ 1000000000) (hm : cap ≤ 9223372036854775807) :
    ACt Try.prog 55 [ms b 0 n cap, iv .u32 w] [(b, .zs .u8 zs cap 5)] (Row .u8 5 (zs ++ ub (be4 w))) := by
  refine ACt.intro Try.func55 rfl (by kernel_rfl) (by simp [Try.ntmps55]) (fun cx => ?_)
  simp only [argE, Try.ntmps55, Try.results55]
  first | (have FRx := FR; clear FRx) | have FR := fr0S
  have FA := Sm.mk (And.intro TFCrcT2 hn)
  repeat' first | (apply Sm.mk; refine Ys ?_) | refine WP.seq fun K hK => ?_ | (apply Ob.mk; exact Yo) | refine And.intro (Ob.out ?_) ?_ | refine Y1CrcT2 ?_ | refine YzCrcT2 ?_ | (refine WP.cond rfl (fun hc => ?_) (fun hc => ?_) <;> (try simp only [ZC, reduceCtorEq, ZD] at hc) <;> (try exact absurd hc (by decide)) <;> (try (exfalso; omega))) | refine Rt.mk (And.intro (fun hg => Sm.out ?_) fun hg => Sm.out ?_) | (refine Nu.mk ?_; first | (fail_if_success have := nb1); intro nb1 | (fail_if_success have := nb2); intro nb2 | (fail_if_success have := nb3); intro nb3 | (fail_if_success have := nb4); intro nb4 | (fail_if_success have := nb5); intro nb5 | (fail_if_success have := nb6); intro nb6 | intro nbz) | (apply Yfr; refine Yf FR fun hFRb FR => ?_) | refine Two.mk ?_ ?_ | (apply Yxc; exact Yx) | refine Cs.mk fun hcs => Sm.out ?_ | go_step | omega | (simp only [maxLen_eq]; omega) | exact trivial | refine Or.inr (Rt.mk (And.intro (fun hg => Sm.out ?_) fun hg => Sm.out ?_))
  (refine OutQ.row (by simp only [resv, ZK, look, loadv, loadn, loadnm, load1, load1m, hget, ↓reduceIte, Nat.reduceEqDiff, Nat.reduceAdd, Nat.reduceMul, Nat.reduceLeDiff, Nat.reduceLT, reduceCtorEq, TFCrcT2, FR.out, hn]) (by simp only [resv, resA, ZK, look, loadv, loadn, loadnm, load1, load1m, hget, ↓reduceIte, Nat.reduceEqDiff, Nat.reduceAdd, Nat.reduceMul, Nat.reduceLeDiff, Nat.reduceLT, reduceCtorEq, TFCrcT2, FR.out, hn]; first | done | rfl) (by simp only [hget, ↓reduceIte, if_true, if_false, FR.out, hn]; first | done | rfl) ?_ ?_ ?_ ?_ <;> first | omega | (simp only [maxLen_eq]; omega) | skip)
  · rw [be4_ub]
  · simp [be4_len, ub_len, hn]
def frameB (bs : List UInt8) : List UInt8 := 245 :: (be4 bs.length ++ be4 (U (ofS bs)) ++ bs ++ [95])
theorem frame_len (bs : List UInt8) : (frameB bs).length = bs.length + 10 := by simp [frameB, be4_len]; omega
set_option maxRecDepth 20000 in
theorem frame_ct (bs : List UInt8) (hb : bs.length ≤ 1000000) : ACt Try.prog 38 [.slz .u8 (ub bs)] [] (Fn (.slz .u8 (ub (frameB bs)))) := by
  refine ACt.intro Try.func38 rfl (by kernel_rfl) (by simp [Try.ntmps38]) (fun cx => ?_)
  simp only [argE, Try.ntmps38, Try.results38]
  have e1 : IntKind.i64.wrap ((bs.length : Int) + 10) = ((bs.length + 10 : Nat) : Int) := by rw [wrap_i64 (by omega) (by omega)]; omega
  have e2 : IntKind.u32.wrap (bs.length : Int) = (bs.length : Int) := wrap_u32 (by omega) (by omega)
  first | (have FRx := FR; clear FRx) | have FR := fr0S
  have FA := Sm.mk (And.intro TFCrcT2 (And.intro e1 e2))
  repeat' first | (apply Sm.mk; refine YsCrcT20 ?_) | refine WP.seq fun K hK => ?_ | (apply Ob.mk; exact Yo) | refine And.intro (Ob.out ?_) ?_ | refine Y1CrcT2 ?_ | (refine CallV.row (by simp only [hget, ↓reduceIte, FR.out, ub_len, be4_len, e1, e2]; first | done | rfl) (put_ct _ _ _ _ _ (by simp [ub_len, be4_len]) (by first | omega | (simp; done) | (simp; omega) | (simp at *; omega)) (by first | omega | (simp; done) | (simp; omega) | (simp at *; omega))) (Sm.out ?_)) | (refine CallV.mkrow (put_ct _ _ _ _ _ (by simp [ub_len, be4_len]) (by first | omega | (simp; done) | (simp; omega) | (simp at *; omega)) (by first | omega | (simp; done) | (simp; omega) | (simp at *; omega))) (Sm.out ?_)) | (refine CallV.upd (by simp only [hget, ↓reduceIte, FR.out, ub_len, be4_len, e1, e2]; first | done | rfl) (put_ct _ _ _ _ _ (by simp [ub_len, be4_len]) (by first | omega | (simp; done) | (simp; omega) | (simp at *; omega)) (by first | omega | (simp; done) | (simp; omega) | (simp at *; omega))) (Sm.out ?_)) | (refine CallV.mkobj (put_ct _ _ _ _ _ (by simp [ub_len, be4_len]) (by first | omega | (simp; done) | (simp; omega) | (simp at *; omega)) (by first | omega | (simp; done) | (simp; omega) | (simp at *; omega))) (Sm.out ?_)) | (first | refine CallV.fn (put_ct _ _ _ _ _ (by simp [ub_len, be4_len]) (by first | omega | (simp; done) | (simp; omega) | (simp at *; omega)) (by first | omega | (simp; done) | (simp; omega) | (simp at *; omega))) (Sm.out ?_) | refine ExF.mk (put_ct _ _ _ _ _ (by simp [ub_len, be4_len]) (by first | omega | (simp; done) | (simp; omega) | (simp at *; omega)) (by first | omega | (simp; done) | (simp; omega) | (simp at *; omega))) (Sm.out ?_) | refine ExG.mk (fun _ => put_ct _ _ _ _ _ (by simp [ub_len, be4_len]) (by first | omega | (simp; done) | (simp; omega) | (simp at *; omega)) (by first | omega | (simp; done) | (simp; omega) | (simp at *; omega))) (Sm.out ?_) | refine ExG.mkJ (fun _ => put_ct _ _ _ _ _ (by simp [ub_len, be4_len]) (by first | omega | (simp; done) | (simp; omega) | (simp at *; omega)) (by first | omega | (simp; done) | (simp; omega) | (simp at *; omega))) (Sm.out ?_) | refine ExG.mkI (Ob.out ?_) (fun _ => put_ct _ _ _ _ _ (by simp [ub_len, be4_len]) (by first | omega | (simp; done) | (simp; omega) | (simp at *; omega)) (by first | omega | (simp; done) | (simp; omega) | (simp at *; omega))) (Sm.out ?_)) | (first | refine CallV.fn (of_ct _ (by first | omega | (simp; done) | (simp; omega) | (simp at *; omega))) (Sm.out ?_) | refine ExF.mk (of_ct _ (by first | omega | (simp; done) | (simp; omega) | (simp at *; omega))) (Sm.out ?_) | refine ExG.mk (fun _ => of_ct _ (by first | omega | (simp; done) | (simp; omega) | (simp at *; omega))) (Sm.out ?_) | refine ExG.mkJ (fun _ => of_ct _ (by first | omega | (simp; done) | (simp; omega) | (simp at *; omega))) (Sm.out ?_) | refine ExG.mkI (Ob.out ?_) (fun _ => of_ct _ (by first | omega | (simp; done) | (simp; omega) | (simp at *; omega))) (Sm.out ?_)) | refine YzCrcT2 ?_ | (refine WP.cond rfl (fun hc => ?_) (fun hc => ?_) <;> (try simp only [ZC, reduceCtorEq, ZD] at hc) <;> (try exact absurd hc (by decide)) <;> (try (exfalso; omega))) | refine Rt.mk (And.intro (fun hg => Sm.out ?_) fun hg => Sm.out ?_) | (refine Nu.mk ?_; first | (fail_if_success have := nb1); intro nb1 | (fail_if_success have := nb2); intro nb2 | (fail_if_success have := nb3); intro nb3 | (fail_if_success have := nb4); intro nb4 | (fail_if_success have := nb5); intro nb5 | (fail_if_success have := nb6); intro nb6 | intro nbz) | (apply Yfr; refine Yf FR fun hFRb FR => ?_) | refine Two.mk ?_ ?_ | (apply Yxc; exact Yx) | refine Cs.mk fun hcs => Sm.out ?_ | go_step | omega | (simp only [maxLen_eq]; omega) | exact trivial | refine Or.inr (Rt.mk (And.intro (fun hg => Sm.out ?_) fun hg => Sm.out ?_))
  (refine OutQ.fz (by simp only [ZK, rvc, capA, appA, litL, mkfv, drawF, headN, pureH, stp, dvc, calleeOf, gcall, pev, eff, newB, okd, og, ogs, ogo, ogp, slv, bltv, opd, litv, strip, one, both, putE, St.put, look, gdOf, gdv, picka, pickv, pickw, binv, bini, bins, binb, binp, binq, isSlT, bina, shp, eqCells, unv, convv, nilv, faddv, addp, idxav, idxp, load1, load1m, loadn, loadnm, loadv, hget, hset, hrep, hdel, slicev, slice3v, bnd, shift1, lenv, capv, IntKind.bits, extractv, fieldv, indexv, min2v, max2v, mkiv, tasv, tasz, cellsA, fillA, buildv, stC, oneC, rowMB, intsA, plN, appE, appZ, appC, appS, srcB, appNZ, appNC, VwL, srcC, srcZ, srcM, isBoolT, isPtrT, isSliceT, uOk, Value.oneCell', Nat.reducePow, Int.reducePow, Nat.reduceAdd, Nat.reduceMul, Nat.reduceSub, Nat.reduceLT, Nat.reduceLeDiff, Nat.reduceEqDiff, Nat.reduceBEq, Nat.reduceDiv, Nat.reduceMod, ↓reduceIte, reduceCtorEq, Int.reduceToNat, Int.reduceLT, Int.reduceLE, TFCrcT2, SeqQ, BlkQ, LoopQ, BodyQ, FR.out, FR.out]; first | done | rfl) (by simp only [ZK, rvc, capA, appA, litL, mkfv, drawF, headN, pureH, stp, dvc, calleeOf, gcall, pev, eff, newB, okd, og, ogs, ogo, ogp, slv, bltv, opd, litv, strip, one, both, putE, St.put, look, gdOf, gdv, picka, pickv, pickw, binv, bini, bins, binb, binp, binq, isSlT, bina, shp, eqCells, unv, convv, nilv, faddv, addp, idxav, idxp, load1, load1m, loadn, loadnm, loadv, hget, hset, hrep, hdel, slicev, slice3v, bnd, shift1, lenv, capv, IntKind.bits, extractv, fieldv, indexv, min2v, max2v, mkiv, tasv, tasz, cellsA, fillA, buildv, stC, oneC, rowMB, intsA, plN, appE, appZ, appC, appS, srcB, appNZ, appNC, VwL, srcC, srcZ, srcM, isBoolT, isPtrT, isSliceT, uOk, Value.oneCell', Nat.reducePow, Int.reducePow, Nat.reduceAdd, Nat.reduceMul, Nat.reduceSub, Nat.reduceLT, Nat.reduceLeDiff, Nat.reduceEqDiff, Nat.reduceBEq, Nat.reduceDiv, Nat.reduceMod, ↓reduceIte, reduceCtorEq, Int.reduceToNat, Int.reduceLT, Int.reduceLE, TFCrcT2, SeqQ, BlkQ, LoopQ, BodyQ, FR.out, FR.out]; first | done | rfl) ?_ ?_ ?_ ?_ <;> first | omega | (simp only [maxLen_eq]; omega) | skip)
  · simp [frameB, ub, List.append_assoc]
  · rw [ub_len, frame_len]; omega
theorem X_toNat (b : UInt8) : (X b).toNat = b.toNat := by
  unfold X
  have := b.toNat_lt
  simp
theorem wstep (c : BitVec 32) (b : UInt8) (h : c.toNat < 16777216) : ((c <<< 8) ||| X b).toNat = c.toNat * 256 + b.toNat := by
  have hb := b.toNat_lt
  rw [BitVec.toNat_or, BitVec.toNat_shiftLeft, X_toNat, Nat.shiftLeft_eq, Nat.mod_eq_of_lt (by omega)]
  have := Nat.shiftLeft_add_eq_or_of_lt (show b.toNat < 2 ^ 8 by omega) c.toNat
  rw [Nat.shiftLeft_eq] at this
  rw [← this]
theorem word4 (a b c d : UInt8) : (wordB 0 [a, b, c, d]).toNat = ((a.toNat * 256 + b.toNat) * 256 + c.toNat) * 256 + d.toNat := by
  have ha := a.toNat_lt
  have hb := b.toNat_lt
  have hc := c.toNat_lt
  simp only [wordB, List.foldl_cons, List.foldl_nil]
  have e1 : (((0 : BitVec 32) <<< 8) ||| X a).toNat = a.toNat := by rw [wstep _ _ (by decide)]; simp
  have e2 := wstep ((((0 : BitVec 32) <<< 8) ||| X a)) b (by omega)
  rw [e1] at e2
  have e3 := wstep ((((((0 : BitVec 32) <<< 8) ||| X a)) <<< 8) ||| X b) c (by omega)
  rw [e2] at e3
  rw [wstep _ d (by omega), e3]
theorem word_be4 (n : Nat) (h : n < 4294967296) : (wordB 0 (be4 n)).toNat = n := by
  unfold be4
  rw [word4]
  simp only [Int.fdiv_eq_ediv_of_nonneg _ (show (0 : Int) ≤ 16777216 by decide), Int.fdiv_eq_ediv_of_nonneg _ (show (0 : Int) ≤ 65536 by decide), Int.fdiv_eq_ediv_of_nonneg _ (show (0 : Int) ≤ 256 by decide)]
  simp
  omega
theorem frame_word (bs : List UInt8) : ((frameB bs).drop 1).take 4 = be4 bs.length := by
  simp [frameB, be4]
def bodyB (bs : List UInt8) : List UInt8 := (bs.drop 9).take (lenW bs)
def IsF (bs : List UInt8) : Prop := 10 ≤ bs.length ∧ (bs.getD 0 0).toNat = 245 ∧ lenW bs + 10 ≤ bs.length ∧ (bs.getD (9 + lenW bs) 0).toNat = 95 ∧ wordB 0 ((bs.drop 5).take 4) = ofS (bodyB bs)
instance (bs : List UInt8) : Decidable (IsF bs) := by unfold IsF; infer_instance
theorem list4 {l : List UInt8} (h : l.length = 4) : ∃ a b c d, l = [a, b, c, d] := by
  match l, h with
  | [a, b, c, d], _ => exact ⟨a, b, c, d, rfl⟩
theorem be4_w {l : List UInt8} (h : l.length = 4) : be4 ((wordB 0 l).toNat : Int) = l := by
  obtain ⟨a, b, c, d, rfl⟩ := list4 h
  rw [word4]
  have ha := a.toNat_lt
  have hb := b.toNat_lt
  have hc := c.toNat_lt
  have hd := d.toNat_lt
  unfold be4
  simp only [Int.fdiv_eq_ediv_of_nonneg _ (show (0 : Int) ≤ 16777216 by decide), Int.fdiv_eq_ediv_of_nonneg _ (show (0 : Int) ≤ 65536 by decide), Int.fdiv_eq_ediv_of_nonneg _ (show (0 : Int) ≤ 256 by decide)]
  have e1 : ((((((a.toNat * 256 + b.toNat) * 256 + c.toNat) * 256 + d.toNat : Nat) : Int) / 16777216) % 256).toNat = a.toNat := by omega
  have e2 : ((((((a.toNat * 256 + b.toNat) * 256 + c.toNat) * 256 + d.toNat : Nat) : Int) / 65536) % 256).toNat = b.toNat := by omega
  have e3 : ((((((a.toNat * 256 + b.toNat) * 256 + c.toNat) * 256 + d.toNat : Nat) : Int) / 256) % 256).toNat = c.toNat := by omega
  have e4 : (((((a.toNat * 256 + b.toNat) * 256 + c.toNat) * 256 + d.toNat : Nat) : Int) % 256).toNat = d.toNat := by omega
  rw [e1, e2, e3, e4]
  simp
theorem word_be4U (s : BitVec 32) : wordB 0 (be4 (U s)) = s := by
  apply BitVec.eq_of_toNat_eq
  exact word_be4 s.toNat s.isLt
theorem body_len (bs : List UInt8) (h : lenW bs + 10 ≤ bs.length) : (bodyB bs).length = lenW bs := by simp [bodyB]; omega
theorem take_one (l : List UInt8) (h : 0 < l.length) : l.take 1 = [l.getD 0 0] := by
  cases l with
  | nil => simp at h
  | cons x r => simp
theorem take_frame (bs : List UInt8) (n : Nat) (h : n + 10 ≤ bs.length) : bs.take (n + 10) = bs.getD 0 0 :: ((bs.drop 1).take 4 ++ (bs.drop 5).take 4 ++ (bs.drop 9).take n ++ [bs.getD (9 + n) 0]) := by
  have e1 : bs.take (1 + 4 + 4 + n + 1) = bs.take 1 ++ (bs.drop 1).take 4 ++ (bs.drop (1 + 4)).take 4 ++ (bs.drop (1 + 4 + 4)).take n ++ (bs.drop (1 + 4 + 4 + n)).take 1 := by
    rw [List.take_add, List.take_add, List.take_add, List.take_add]
  rw [show n + 10 = 1 + 4 + 4 + n + 1 by omega, e1, take_one _ (by omega), take_one _ (by simp; omega)]
  have e2 : (bs.drop (1 + 4 + 4 + n)).getD 0 0 = bs.getD (9 + n) 0 := by simp [List.getD]
  rw [e2]
  simp
theorem isF_iff (bs : List UInt8) (h10 : 10 ≤ bs.length) (hn : lenW bs + 10 ≤ bs.length) : frameB (bodyB bs) = bs.take (lenW bs + 10) ↔ IsF bs := by
  rw [take_frame bs _ hn]
  unfold frameB
  have hw1 : be4 ((bodyB bs).length : Int) = (bs.drop 1).take 4 := by
    rw [body_len bs hn]
    exact be4_w (by simp; omega)
  rw [hw1]
  have hw2 : ((bs.drop 5).take 4).length = 4 := by simp; omega
  constructor
  · intro h
    simp only [List.cons.injEq] at h
    obtain ⟨h0, h1⟩ := h
    obtain ⟨h2, h3⟩ := List.append_inj' h1 rfl
    obtain ⟨h4, h5⟩ := List.append_inj' h2 rfl
    have h6 := List.append_cancel_left h4
    refine ⟨h10, ?_, hn, ?_, ?_⟩
    · rw [← h0]; rfl
    · simp at h3; rw [show bs.getD (9 + lenW bs) 0 = 95 by simpa using h3.symm]; rfl
    · rw [← h6, word_be4U]
  · rintro ⟨_, h0, _, h1, h2⟩
    have g0 : bs.getD 0 0 = 245 := UInt8.toNat_inj.1 h0
    have g1 : bs.getD (9 + lenW bs) 0 = 95 := UInt8.toNat_inj.1 h1
    have g2 : be4 (U (ofS (bodyB bs))) = (bs.drop 5).take 4 := by rw [← h2]; exact be4_w hw2
    rw [g0, g1, g2]
    rfl
theorem frame_front (b tail : List UInt8) (hb : b.length < 4294967296) : lenW (frameB b ++ tail) = b.length ∧ bodyB (frameB b ++ tail) = b ∧ IsF (frameB b ++ tail) := by
  have h1 : ((frameB b ++ tail).drop 1).take 4 = be4 b.length := by simp [frameB, be4]
  have h2 : lenW (frameB b ++ tail) = b.length := by unfold lenW; rw [h1, word_be4 _ hb]
  have h3 : bodyB (frameB b ++ tail) = b := by unfold bodyB; rw [h2]; simp [frameB, be4]
  have hl : (frameB b ++ tail).length = b.length + 10 + tail.length := by simp [frame_len]
  refine ⟨h2, h3, (isF_iff _ (by omega) (by omega)).1 ?_⟩
  rw [h2, h3, List.take_append_of_le_length (by rw [frame_len]; omega), List.take_of_length_le (by rw [frame_len]; omega)]
def allF : Nat → List UInt8 → List (List UInt8) × Nat
  | 0, _ => ([], 0)
  | k + 1, bs => if IsF bs then (bodyB bs :: (allF k (bs.drop (lenW bs + 10))).1, lenW bs + 10 + (allF k (bs.drop (lenW bs + 10))).2) else ([], 0)
structure AllI (bs : List UInt8) (l : List (List UInt8)) (at_ k : Nat) : Prop where
  eq : allF bs.length bs = (l ++ (allF k (bs.drop at_)).1, at_ + (allF k (bs.drop at_)).2)
  fuel : (bs.drop at_).length ≤ k
  le : at_ ≤ bs.length
  few : l.length * 10 ≤ at_
theorem AllI.step {bs : List UInt8} {l : List (List UInt8)} {at_ k : Nat} (h : AllI bs l at_ k) (hf : IsF (bs.drop at_)) :
    ∃ k', AllI bs (l ++ [bodyB (bs.drop at_)]) (at_ + (lenW (bs.drop at_) + 10)) k' ∧ at_ + (lenW (bs.drop at_) + 10) ≤ bs.length := by
  have h1 := hf.1
  have h2 := hf.2.2.1
  simp only [List.length_drop] at h1 h2
  have hfu := h.fuel
  simp only [List.length_drop] at hfu
  obtain ⟨k', rfl⟩ : ∃ k', k = k' + 1 := ⟨k - 1, by omega⟩
  have he := h.eq
  have hw := h.few
  simp only [allF, if_pos hf, List.drop_drop] at he
  refine ⟨k', ⟨?_, by simp only [List.length_drop]; omega, by omega, by simp; omega⟩, by omega⟩
  rw [he]
  simp [Nat.add_assoc]
end Go.Proofs.Yteoajodoejoccaa
