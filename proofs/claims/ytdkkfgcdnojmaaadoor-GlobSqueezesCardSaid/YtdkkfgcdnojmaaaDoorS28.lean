/-
  The walks and the laws that the statement leans on, part 28.
-/
import Derived.Test.YtdkkfgcdnojmaaaDoorS13
import Derived.Test.YtdkkfgcdnojmaaaDoorS22
namespace Go.Proofs.YtdkkfgcdnojmaaaDoor
open Go
set_option linter.unusedVariables false
set_option linter.unusedSimpArgs false
set_option linter.defProp false
def TFGbA :=
  And.intro (And.intro (And.intro (And.intro (And.intro tyc0 tyc3) (And.intro zmb3 (And.intro tyc4 zmb4))) (And.intro (And.intro tyc5 (And.intro zmb5 tyc9)) (And.intro zmb9 (And.intro tyc21 zmb21)))) (And.intro (And.intro (And.intro tyc34 (And.intro zmb34 tyc35)) (And.intro elt35 (And.intro mkz35 apT35))) (And.intro (And.intro elk35 (And.intro zmb35 tyc37)) (And.intro foff37_0 (And.intro fpart37_0 foff37_1))))) (And.intro (And.intro (And.intro (And.intro fpart37_1 (And.intro zmb37 bldT37)) (And.intro tyc39 (And.intro zmb39 tyc59))) (And.intro (And.intro zmb59 (And.intro tyc69 zmb69)) (And.intro tyc71 (And.intro zmb71 Tryd.underlying0)))) (And.intro (And.intro (And.intro Tryd.underlying3 (And.intro Tryd.underlying4 Tryd.underlying5)) (And.intro Tryd.underlying9 (And.intro Tryd.underlying21 Tryd.underlying34))) (And.intro (And.intro Tryd.underlying35 (And.intro Tryd.underlying37 Tryd.underlying39)) (And.intro Tryd.underlying59 (And.intro Tryd.underlying69 Tryd.underlying71)))))
theorem Y1GbA {G R : Prop} (r : R) (h : R → G := by intro r; first | (apply WP.region; exact rvc_sound _ _ (Sm.out r)) | exact WP.drawK rfl mixed (by decide +kernel) (Sm.out r) | (apply WP.block; exact r) | (apply WP.skip; exact Yq r) | (apply WP.exit; exact Yq r) | (apply WP.ret; exact Sm.out r) | exact WP.cond rfl (fun _ => r) (fun hg => absurd hg (by decide)) | exact WP.cond rfl (fun hg => absurd hg (by decide)) (fun _ => r) | exact Rt.mk (And.intro (fun _ => Sm.out r) fun hg => absurd hg (by decide)) | exact Rt.mk (And.intro (fun hg => absurd hg (by decide)) fun _ => Sm.out r)) : G := h r
theorem YzGbA {G R : Prop} (r : R) (h : R → G := by intro r; first | (apply ExG.no; exact Sm.out r) | (apply Or.inl; apply ExG.no; exact Sm.out r) | exact Or.inl (And.intro (fun hg => absurd hg (by decide)) (ExG.no (Sm.out r)))) : G := h r
theorem YsGbA0 {P Q : Prop} (q : Q) (h : P = Q := by (try (conv => lhs; simp -dsimp only [ZK, rvc, capA, appA, litL, mkfv, drawF, headN, pureH, stp, dvc, calleeOf, gcall, pev, eff, newB, okd, og, ogs, ogo, ogp, slv, bltv, opd, litv, strip, one, both, putE, St.put, look, gdOf, gdv, picka, pickv, pickw, binv, bini, bins, binb, binp, binq, isSlT, bina, shp, eqCells, unv, convv, nilv, faddv, addp, idxav, idxp, load1, load1m, loadn, loadnm, loadv, hget, hset, hrep, hdel, slicev, slice3v, bnd, shift1, lenv, capv, IntKind.bits, extractv, fieldv, indexv, min2v, max2v, mkiv, tasv, tasz, cellsA, fillA, buildv, stC, oneC, rowMB, intsA, plN, appE, appZ, appC, appS, srcB, appNZ, appNC, VwL, srcC, srcZ, srcM, isBoolT, isPtrT, isSliceT, uOk, Value.oneCell', Nat.reducePow, Int.reducePow, Nat.reduceAdd, Nat.reduceMul, Nat.reduceSub, Nat.reduceLT, Nat.reduceLeDiff, Nat.reduceEqDiff, Nat.reduceBEq, Nat.reduceDiv, Nat.reduceMod, ↓reduceIte, reduceCtorEq, Int.reduceToNat, Int.reduceLT, Int.reduceLE, TFGbA, SeqQ, BlkQ, LoopQ, BodyQ, hdel, FA.out, FR.out])) <;> exact rfl) : P := h.mpr q
abbrev nps : AV := .lit (.pointer none)
abbrev nif : AV := .lit .nilIface
theorem noesc_ct (b : Nat) : ACt Tryd.prog 49 [pt b 0] [] (Fn (pt b 0)) :=
  ACt.outer (ls := [.pointer (some ⟨b, 0, none⟩)]) rfl (by decide +kernel) rfl (by decide +kernel) rfl fun w => ⟨_, rfl, fun I => .lit _⟩
theorem cc_nil (b : Nat) (S : AV) : ACt Tryd.prog 38 [pt b 0] [(b, .cells [nps, S] 2 37)] (fun r F' => r = .tup [] ∧ F' = [(b, .cells [pt b 0, S] 2 37)]) := by
  have cE := noesc_ct b
  have e1 : ptB Tryd.prog 34 = true := by kernel_rfl
  have e2 : toUB Tryd.prog 34 = true := by kernel_rfl
  have e3 : frUB Tryd.prog 69 37 2 37 0 = true := by kernel_rfl
  refine ACt.intro Tryd.func38 rfl (by kernel_rfl) (by simp [Tryd.ntmps38]) (fun cx => ?_)
  simp only [argE, Tryd.ntmps38, Tryd.results38]
  first | (have FRx := FR; clear FRx) | have FR := fr0S
  have FA := Sm.mk (And.intro TFGbA (And.intro e1 (And.intro e2 e3)))
  repeat' first | (apply Sm.mk; refine Ys ?_) | refine WP.seq fun K hK => ?_ | (apply Ob.mk; exact Yo) | refine And.intro (Ob.out ?_) ?_ | refine Y1GbA ?_ | refine Yc (c := cE) (r := ?_) | refine YzGbA ?_ | (refine WP.cond rfl (fun hc => ?_) (fun hc => ?_) <;> (try simp only [ZC, reduceCtorEq, ZD] at hc) <;> (try exact absurd hc (by decide)) <;> (try (exfalso; omega))) | refine Rt.mk (And.intro (fun hg => Sm.out ?_) fun hg => Sm.out ?_) | (refine Nu.mk ?_; first | (fail_if_success have := nb1); intro nb1 | (fail_if_success have := nb2); intro nb2 | (fail_if_success have := nb3); intro nb3 | (fail_if_success have := nb4); intro nb4 | (fail_if_success have := nb5); intro nb5 | (fail_if_success have := nb6); intro nb6 | intro nbz) | (apply Yfr; refine Yf FR fun hFRb FR => ?_) | refine Two.mk ?_ ?_ | (apply Yxc; exact Yx) | refine Cs.mk fun hcs => Sm.out ?_ | go_step | omega | (simp only [maxLen_eq]; omega) | exact trivial
  (refine OutQ.upd (by simp only [resv, ZK, look, loadv, loadn, loadnm, load1, load1m, hget, ↓reduceIte, Nat.reduceEqDiff, Nat.reduceAdd, Nat.reduceMul, Nat.reduceLeDiff, Nat.reduceLT, reduceCtorEq, TFGbA, FR.out]) (by simp only [resv, resA, ZK, look, loadv, loadn, loadnm, load1, load1m, hget, ↓reduceIte, Nat.reduceEqDiff, Nat.reduceAdd, Nat.reduceMul, Nat.reduceLeDiff, Nat.reduceLT, reduceCtorEq, TFGbA, FR.out]; first | done | rfl) (by simp only [hget, ↓reduceIte, if_true, if_false, FR.out]; first | done | rfl) ?_ <;> first | exact rfl | (simp only [ZK, look, loadv, loadn, loadnm, load1, load1m, hget, ↓reduceIte, Nat.reduceEqDiff, Nat.reduceAdd, Nat.reduceMul, Nat.reduceLeDiff, Nat.reduceLT, reduceCtorEq, TFGbA, FR.out]; done) | skip)
theorem cc_used (b : Nat) (S : AV) : ACt Tryd.prog 38 [pt b 0] [(b, .cells [pt b 0, S] 2 37)] (fun r F' => r = .tup [] ∧ F' = [(b, .cells [pt b 0, S] 2 37)]) := by
  have e1 : ptB Tryd.prog 34 = true := by kernel_rfl
  refine ACt.intro Tryd.func38 rfl (by kernel_rfl) (by simp [Tryd.ntmps38]) (fun cx => ?_)
  simp only [argE, Tryd.ntmps38, Tryd.results38]
  first | (have FRx := FR; clear FRx) | have FR := fr0S
  have FA := Sm.mk (And.intro TFGbA e1)
  repeat' first | (apply Sm.mk; refine Ys ?_) | refine WP.seq fun K hK => ?_ | (apply Ob.mk; exact Yo) | refine And.intro (Ob.out ?_) ?_ | refine Y1GbA ?_ | refine YzGbA ?_ | (refine WP.cond rfl (fun hc => ?_) (fun hc => ?_) <;> (try simp only [ZC, reduceCtorEq, ZD] at hc) <;> (try exact absurd hc (by decide)) <;> (try (exfalso; omega))) | refine Rt.mk (And.intro (fun hg => Sm.out ?_) fun hg => Sm.out ?_) | (refine Nu.mk ?_; first | (fail_if_success have := nb1); intro nb1 | (fail_if_success have := nb2); intro nb2 | (fail_if_success have := nb3); intro nb3 | (fail_if_success have := nb4); intro nb4 | (fail_if_success have := nb5); intro nb5 | (fail_if_success have := nb6); intro nb6 | intro nbz) | (apply Yfr; refine Yf FR fun hFRb FR => ?_) | refine Two.mk ?_ ?_ | (apply Yxc; exact Yx) | refine Cs.mk fun hcs => Sm.out ?_ | go_step | omega | (simp only [maxLen_eq]; omega) | exact trivial
  (refine OutQ.upd (by simp only [resv, ZK, look, loadv, loadn, loadnm, load1, load1m, hget, ↓reduceIte, Nat.reduceEqDiff, Nat.reduceAdd, Nat.reduceMul, Nat.reduceLeDiff, Nat.reduceLT, reduceCtorEq, TFGbA, FR.out]) (by simp only [resv, resA, ZK, look, loadv, loadn, loadnm, load1, load1m, hget, ↓reduceIte, Nat.reduceEqDiff, Nat.reduceAdd, Nat.reduceMul, Nat.reduceLeDiff, Nat.reduceLT, reduceCtorEq, TFGbA, FR.out]; first | done | rfl) (by simp only [hget, ↓reduceIte, if_true, if_false, FR.out]; first | done | rfl) ?_ <;> first | exact rfl | (simp only [ZK, look, loadv, loadn, loadnm, load1, load1m, hget, ↓reduceIte, Nat.reduceEqDiff, Nat.reduceAdd, Nat.reduceMul, Nat.reduceLeDiff, Nat.reduceLT, reduceCtorEq, TFGbA, FR.out]; done) | skip)
abbrev bdM (b x n k : Nat) : MB := .cells [pt b 0, ms x 0 n k] 2 37
abbrev bd0 : MB := .cells [nps, nsl] 2 37
theorem ubx (xs : List Int) (hb : By xs) : ub (bstr xs).data.toList = xs := by
  apply List.ext_getElem
  · simp [ub, bstr]
  · intro i h1 h2
    have := hb i h2
    rw [List.getD_eq_getElem?_getD, List.getElem?_eq_getElem h2, Option.getD_some] at this
    simp only [ub, bstr, List.getElem_map]
    rw [UInt8.toNat_ofNat', Nat.mod_eq_of_lt (by omega)]
    omega
theorem ws_nil (b : Nat) (xs : List Int) (hb : By xs) (h0 : 0 < xs.length) (hl : xs.length ≤ 1000) :
    ACt Tryd.prog 24 [pt b 0, stz xs] [(b, bd0)] (fun r F' => ∃ x k : Nat, (xs.length ≤ k ∧ k ≤ 9223372036854775807) ∧ r = .tup [iv .i64 (xs.length : Int), nif] ∧ F' = [(x, .zs .u8 xs k 5), (b, bdM b x xs.length k)]) := by
  have c1 := cc_nil b nsl
  have hs := bstr_size xs
  have hu : ((bstr xs).data.toList.map fun b => (b.toNat : Int)) = xs := ubx xs hb
  obtain ⟨B, hB⟩ : ∃ B, B = bstr xs := ⟨_, rfl⟩
  unfold stz
  rw [← hB] at hs hu ⊢
  refine ACt.intro Tryd.func24 rfl (by kernel_rfl) (by simp [Tryd.ntmps24]) (fun cx => ?_)
  simp only [argE, Tryd.ntmps24, Tryd.results24]
  have l1 : xs.length ≤ 9223372036854775807 ∧ xs.length * 1 ≤ 140737488355328 := by omega
  first | (have FRx := FR; clear FRx) | have FR := fr0S
  have FA := Sm.mk (And.intro TFGbA (And.intro hs (And.intro hu (And.intro h0 l1))))
  repeat' first | (apply Sm.mk; refine Ys ?_) | refine WP.seq fun K hK => ?_ | (apply Ob.mk; exact Yo) | refine And.intro (Ob.out ?_) ?_ | refine Y1GbA ?_ | refine Yu (c := c1) (r := ?_) | refine YzGbA ?_ | (refine WP.cond rfl (fun hc => ?_) (fun hc => ?_) <;> (try simp only [ZC, reduceCtorEq, ZD] at hc) <;> (try exact absurd hc (by decide)) <;> (try (exfalso; omega))) | refine Rt.mk (And.intro (fun hg => Sm.out ?_) fun hg => Sm.out ?_) | (refine Nu.mk ?_; first | (fail_if_success have := nb1); intro nb1 | (fail_if_success have := nb2); intro nb2 | (fail_if_success have := nb3); intro nb3 | (fail_if_success have := nb4); intro nb4 | (fail_if_success have := nb5); intro nb5 | (fail_if_success have := nb6); intro nb6 | intro nbz) | (apply Yfr; refine Yf FR fun hFRb FR => ?_) | refine Two.mk ?_ ?_ | (apply Yxc; exact Yx) | refine Cs.mk fun hcs => Sm.out ?_ | go_step | omega | (simp only [maxLen_eq]; omega) | exact trivial
  (refine OutQ.drop _ _ (perm2 (by simp only [hget, hdel, ↓reduceIte, if_true, if_false, FR.out, hs]; first | done | rfl) (by simp only [hget, hdel, ↓reduceIte, if_true, if_false, FR.out, hs]; first | done | rfl)) (by simp only [resv, ZK, look, loadv, loadn, loadnm, load1, load1m, hget, ↓reduceIte, Nat.reduceEqDiff, Nat.reduceAdd, Nat.reduceMul, Nat.reduceLeDiff, Nat.reduceLT, reduceCtorEq, TFGbA, FR.out, hs]) ⟨nb1, nb2, hFRb, (by simp only [resv, resA, ZK, look, loadv, loadn, loadnm, load1, load1m, hget, ↓reduceIte, Nat.reduceEqDiff, Nat.reduceAdd, Nat.reduceMul, Nat.reduceLeDiff, Nat.reduceLT, reduceCtorEq, TFGbA, FR.out, hs]; first | done | rfl), rfl⟩)
theorem ws_used (b x n k : Nat) (zs xs : List Int) (hd : b ≠ x ∧ x ≠ b) (hn : zs.length = n) (hnk : n ≤ k ∧ k ≤ 9223372036854775807) (hb : By xs) (hl : xs.length ≤ 1000) (hln : n ≤ 100000) :
    ACt Tryd.prog 24 [pt b 0, stz xs] [(x, .zs .u8 zs k 5), (b, bdM b x n k)] (fun r F' => ∃ x k : Nat, (n + xs.length ≤ k ∧ k ≤ 9223372036854775807) ∧ r = .tup [iv .i64 (xs.length : Int), nif] ∧ F' = [(x, .zs .u8 (zs ++ xs) k 5), (b, bdM b x (n + xs.length) k)]) := by
  have c1 := cc_used b (ms x 0 n k)
  have hs := bstr_size xs
  have hu : ((bstr xs).data.toList.map fun b => (b.toNat : Int)) = xs := ubx xs hb
  obtain ⟨B, hB⟩ : ∃ B, B = bstr xs := ⟨_, rfl⟩
  unfold stz
  rw [← hB] at hs hu ⊢
  refine ACt.intro Tryd.func24 rfl (by kernel_rfl) (by simp [Tryd.ntmps24]) (fun cx => ?_)
  simp only [argE, Tryd.ntmps24, Tryd.results24]
  have l1 : n + xs.length ≤ 9223372036854775807 ∧ (n + xs.length) * 1 ≤ 140737488355328 := by omega
  have l2 : k ≤ 9223372036854775807 := hnk.2
  first | (have FRx := FR; clear FRx) | have FR := fr0S
  have FA := Sm.mk (And.intro TFGbA (And.intro hs (And.intro hu (And.intro l1 (And.intro l2 (And.intro hn hd))))))
  repeat' first | (apply Sm.mk; refine Ys ?_) | refine WP.seq fun K hK => ?_ | (apply Ob.mk; exact Yo) | refine And.intro (Ob.out ?_) ?_ | refine Y1GbA ?_ | refine Yu (c := c1) (r := ?_) | refine YzGbA ?_ | (refine WP.cond rfl (fun hc => ?_) (fun hc => ?_) <;> (try simp only [ZC, reduceCtorEq, ZD] at hc) <;> (try exact absurd hc (by decide)) <;> (try (exfalso; omega))) | refine Rt.mk (And.intro (fun hg => Sm.out ?_) fun hg => Sm.out ?_) | (refine Nu.mk ?_; first | (fail_if_success have := nb1); intro nb1 | (fail_if_success have := nb2); intro nb2 | (fail_if_success have := nb3); intro nb3 | (fail_if_success have := nb4); intro nb4 | (fail_if_success have := nb5); intro nb5 | (fail_if_success have := nb6); intro nb6 | intro nbz) | (apply Yfr; refine Yf FR fun hFRb FR => ?_) | refine Two.mk ?_ ?_ | (apply Yxc; exact Yx) | refine Cs.mk fun hcs => Sm.out ?_ | go_step | omega | (simp only [maxLen_eq]; omega) | exact trivial
  (refine OutQ.drop _ _ (perm2 (by simp only [hget, hdel, ↓reduceIte, if_true, if_false, FR.out, hs, hd]; first | done | rfl) (by simp only [hget, hdel, ↓reduceIte, if_true, if_false, FR.out, hs, hd]; first | done | rfl)) (by simp only [resv, ZK, look, loadv, loadn, loadnm, load1, load1m, hget, ↓reduceIte, Nat.reduceEqDiff, Nat.reduceAdd, Nat.reduceMul, Nat.reduceLeDiff, Nat.reduceLT, reduceCtorEq, TFGbA, FR.out, hs, hd]) ⟨nb1, nb2, hFRb, (by simp only [resv, resA, ZK, look, loadv, loadn, loadnm, load1, load1m, hget, ↓reduceIte, Nat.reduceEqDiff, Nat.reduceAdd, Nat.reduceMul, Nat.reduceLeDiff, Nat.reduceLT, reduceCtorEq, TFGbA, FR.out, hs, hd]; first | done | rfl), rfl⟩)
theorem ar_nil (c : Int) (hc : 0 ≤ c ∧ c < 128) : ACt Tryd.prog 42 [nsl, iv .i32 c] [] (fun r F' => ∃ x k : Nat, (1 ≤ k ∧ k ≤ 9223372036854775807) ∧ r = ms x 0 1 k ∧ F' = [(x, .zs .u8 [c] k 5)]) := by
  refine ACt.intro Tryd.func42 rfl (by kernel_rfl) (by simp [Tryd.ntmps42]) (fun cx => ?_)
  simp only [argE, Tryd.ntmps42, Tryd.results42]
  have w1 : IntKind.u32.wrap c = c := wrap_u32 (by omega) (by omega)
  have w2 : IntKind.u8.wrap c = c := wrap_u8 (by omega) (by omega)
  have k1 : decide (c ≤ 127) = true := decide_eq_true (by omega)
  first | (have FRx := FR; clear FRx) | have FR := fr0S
  have FA := Sm.mk (And.intro TFGbA (And.intro w1 (And.intro w2 k1)))
  repeat' first | (apply Sm.mk; refine Ys ?_) | refine WP.seq fun K hK => ?_ | (apply Ob.mk; exact Yo) | refine And.intro (Ob.out ?_) ?_ | refine Y1GbA ?_ | refine YzGbA ?_ | (refine WP.cond rfl (fun hc => ?_) (fun hc => ?_) <;> (try simp only [ZC, reduceCtorEq, ZD] at hc) <;> (try exact absurd hc (by decide)) <;> (try (exfalso; omega))) | refine Rt.mk (And.intro (fun hg => Sm.out ?_) fun hg => Sm.out ?_) | (refine Nu.mk ?_; first | (fail_if_success have := nb1); intro nb1 | (fail_if_success have := nb2); intro nb2 | (fail_if_success have := nb3); intro nb3 | (fail_if_success have := nb4); intro nb4 | (fail_if_success have := nb5); intro nb5 | (fail_if_success have := nb6); intro nb6 | intro nbz) | (apply Yfr; refine Yf FR fun hFRb FR => ?_) | refine Two.mk ?_ ?_ | (apply Yxc; exact Yx) | refine Cs.mk fun hcs => Sm.out ?_ | go_step | omega | (simp only [maxLen_eq]; omega) | exact trivial
  (refine OutQ.drop _ _ (perm1 (by simp only [hget, hdel, ↓reduceIte, if_true, if_false, FR.out]; first | done | rfl)) (by simp only [resv, ZK, look, loadv, loadn, loadnm, load1, load1m, hget, ↓reduceIte, Nat.reduceEqDiff, Nat.reduceAdd, Nat.reduceMul, Nat.reduceLeDiff, Nat.reduceLT, reduceCtorEq, TFGbA, FR.out]) ⟨nb2, nb3, hFRb, (by simp only [resv, resA, ZK, look, loadv, loadn, loadnm, load1, load1m, hget, ↓reduceIte, Nat.reduceEqDiff, Nat.reduceAdd, Nat.reduceMul, Nat.reduceLeDiff, Nat.reduceLT, reduceCtorEq, TFGbA, FR.out]; first | done | rfl), rfl⟩)
theorem ar_used (x n k : Nat) (zs : List Int) (hn : zs.length = n) (hnk : n ≤ k ∧ k ≤ 9223372036854775807) (hln : n ≤ 100000) (c : Int) (hc : 0 ≤ c ∧ c < 128) :
    ACt Tryd.prog 42 [ms x 0 n k, iv .i32 c] [(x, .zs .u8 zs k 5)] (fun r F' => ∃ x k : Nat, (n + 1 ≤ k ∧ k ≤ 9223372036854775807) ∧ r = ms x 0 (n + 1) k ∧ F' = [(x, .zs .u8 (zs ++ [c]) k 5)]) := by
  refine ACt.intro Tryd.func42 rfl (by kernel_rfl) (by simp [Tryd.ntmps42]) (fun cx => ?_)
  simp only [argE, Tryd.ntmps42, Tryd.results42]
  have w1 : IntKind.u32.wrap c = c := wrap_u32 (by omega) (by omega)
  have w2 : IntKind.u8.wrap c = c := wrap_u8 (by omega) (by omega)
  have k1 : decide (c ≤ 127) = true := decide_eq_true (by omega)
  have l1 : n + 1 ≤ 9223372036854775807 ∧ (n + 1) * 1 ≤ 140737488355328 := by omega
  have l2 : k ≤ 9223372036854775807 := hnk.2
  first | (have FRx := FR; clear FRx) | have FR := fr0S
  have FA := Sm.mk (And.intro TFGbA (And.intro w1 (And.intro w2 (And.intro k1 (And.intro l1 (And.intro l2 hn))))))
  repeat' first | (apply Sm.mk; refine Ys ?_) | refine WP.seq fun K hK => ?_ | (apply Ob.mk; exact Yo) | refine And.intro (Ob.out ?_) ?_ | refine Y1GbA ?_ | refine YzGbA ?_ | (refine WP.cond rfl (fun hc => ?_) (fun hc => ?_) <;> (try simp only [ZC, reduceCtorEq, ZD] at hc) <;> (try exact absurd hc (by decide)) <;> (try (exfalso; omega))) | refine Rt.mk (And.intro (fun hg => Sm.out ?_) fun hg => Sm.out ?_) | (refine Nu.mk ?_; first | (fail_if_success have := nb1); intro nb1 | (fail_if_success have := nb2); intro nb2 | (fail_if_success have := nb3); intro nb3 | (fail_if_success have := nb4); intro nb4 | (fail_if_success have := nb5); intro nb5 | (fail_if_success have := nb6); intro nb6 | intro nbz) | (apply Yfr; refine Yf FR fun hFRb FR => ?_) | refine Two.mk ?_ ?_ | (apply Yxc; exact Yx) | refine Cs.mk fun hcs => Sm.out ?_ | go_step | omega | (simp only [maxLen_eq]; omega) | exact trivial
  (refine OutQ.drop _ _ (perm1 (by simp only [hget, hdel, ↓reduceIte, if_true, if_false, FR.out]; first | done | rfl)) (by simp only [resv, ZK, look, loadv, loadn, loadnm, load1, load1m, hget, ↓reduceIte, Nat.reduceEqDiff, Nat.reduceAdd, Nat.reduceMul, Nat.reduceLeDiff, Nat.reduceLT, reduceCtorEq, TFGbA, FR.out]) ⟨nb2, nb3, hFRb, (by simp only [resv, resA, ZK, look, loadv, loadn, loadnm, load1, load1m, hget, ↓reduceIte, Nat.reduceEqDiff, Nat.reduceAdd, Nat.reduceMul, Nat.reduceLeDiff, Nat.reduceLT, reduceCtorEq, TFGbA, FR.out]; first | done | rfl), rfl⟩)
theorem str_ct (b x n k : Nat) (zs : List Int) (hd : b ≠ x ∧ x ≠ b) (hn : zs.length = n) (h0 : 0 < n) (hk : n ≤ k) (hln : n ≤ 100000) :
    ACt Tryd.prog 27 [pt b 0] [(x, .zs .u8 zs k 5), (b, bdM b x n k)] (Fn (stz zs)) := by
  have e1 : usB Tryd.prog 59 5 = true := by kernel_rfl
  have tk : zs.take n = zs := by rw [← hn, List.take_length]
  have t1 : ((n : Nat) : Int).toNat = n := by omega
  have i1 : (0 : Int) < (n : Int) ∧ (n : Int) ≤ 9223372036854775807 := by omega
  have kk : k ≠ 0 := by omega
  refine ACt.intro Tryd.func27 rfl (by kernel_rfl) (by simp [Tryd.ntmps27]) (fun cx => ?_)
  simp only [argE, Tryd.ntmps27, Tryd.results27]
  first | (have FRx := FR; clear FRx) | have FR := fr0S
  have FA := Sm.mk (And.intro TFGbA (And.intro e1 (And.intro tk (And.intro t1 (And.intro i1 (And.intro kk (And.intro hn (And.intro hd h0))))))))
  repeat' first | (apply Sm.mk; refine YsGbA0 ?_) | refine WP.seq fun K hK => ?_ | (apply Ob.mk; exact Yo) | refine And.intro (Ob.out ?_) ?_ | refine Y1GbA ?_ | refine YzGbA ?_ | (refine WP.cond rfl (fun hc => ?_) (fun hc => ?_) <;> (try simp only [ZC, reduceCtorEq, ZD] at hc) <;> (try exact absurd hc (by decide)) <;> (try (exfalso; omega))) | refine Rt.mk (And.intro (fun hg => Sm.out ?_) fun hg => Sm.out ?_) | (refine Nu.mk ?_; first | (fail_if_success have := nb1); intro nb1 | (fail_if_success have := nb2); intro nb2 | (fail_if_success have := nb3); intro nb3 | (fail_if_success have := nb4); intro nb4 | (fail_if_success have := nb5); intro nb5 | (fail_if_success have := nb6); intro nb6 | intro nbz) | (apply Yfr; refine Yf FR fun hFRb FR => ?_) | refine Two.mk ?_ ?_ | (apply Yxc; exact Yx) | refine Cs.mk fun hcs => Sm.out ?_ | go_step | omega | (simp only [maxLen_eq]; omega) | exact trivial
  (refine OutQ.all ?_ ?_; (focus (simp only [resv, ZK, look, loadv, loadn, loadnm, load1, load1m, hget, ↓reduceIte, Nat.reduceEqDiff, Nat.reduceAdd, Nat.reduceMul, Nat.reduceLeDiff, Nat.reduceLT, reduceCtorEq, TFGbA, tk, FR.out])); (try simp only [resv, resA, Fn, ZK, look, loadv, loadn, loadnm, load1, load1m, hget, ↓reduceIte, Nat.reduceEqDiff, Nat.reduceAdd, Nat.reduceMul, Nat.reduceLeDiff, Nat.reduceLT, reduceCtorEq, TFGbA, tk, FR.out]); (try simp [resA, Fn, look, tk, FR.out]))
theorem CallV.newR {P : Program} {f : FuncId} {args : List AV} {H F R : Hp} {F0 : Nat → Nat → Hp} {post : AV → Hp → Prop} {φ : Nat → Nat → Prop} {x : Nat → Nat → AV} {m : Nat → Nat → MB}
    (h : ACt P f args F (fun r F' => ∃ b c, φ b c ∧ r = x b c ∧ F' = (b, m b c) :: F0 b c)) (hP : H.Perm (F ++ R))
    (hp : Nu fun b => Nu fun c => Fr (φ b c ∧ fresh (F0 b c ++ R) b) (post (x b c) ((b, m b c) :: (F0 b c ++ R)))) : CallV P f args H post :=
  ⟨F, R, _, hP, h, fun r F' hr hn => by
    obtain ⟨b, c, e0, e1, e2⟩ := hr
    subst e1 e2
    refine ((hp.out b).out c).out ⟨e0, fun p hp' => ?_⟩
    simp only [List.cons_append, List.map_cons, List.nodup_cons] at hn
    have hne : p.1 ≠ b := fun he => hn.1 (List.mem_map.2 ⟨p, hp', he⟩)
    exact ⟨hne, fun he => hne he.symm⟩⟩
theorem pmz {α : Type} (H : List α) : H.Perm (H ++ []) := by rw [List.append_nil]
structure BQ where
  x : Nat
  k : Nat
def bH (b : Nat) : List Int → BQ → Hp
  | [], _ => [(b, bd0)]
  | z :: r, q => [(q.x, .zs .u8 (z :: r) q.k 5), (b, bdM b q.x (z :: r).length q.k)]
def bOk (b : Nat) (zs : List Int) (q : BQ) : Prop := zs ≠ [] → (b ≠ q.x ∧ q.x ≠ b) ∧ zs.length ≤ q.k ∧ q.k ≤ 9223372036854775807
abbrev BS (b : Nat) (zs : List Int) : Type := {q : BQ // bOk b zs q}
theorem bH_ne {b : Nat} {zs : List Int} (q : BQ) (h : zs ≠ []) : bH b zs q = [(q.x, .zs .u8 zs q.k 5), (b, bdM b q.x zs.length q.k)] := by
  cases zs with
  | nil => exact absurd rfl h
  | cons z r => rfl
theorem bH_len {b n : Nat} {zs : List Int} (q : BQ) (h : zs ≠ []) (hl : zs.length = n) : bH b zs q = [(q.x, .zs .u8 zs q.k 5), (b, bdM b q.x n q.k)] := by
  subst hl; exact bH_ne q h
theorem bk_of {b x k n : Nat} {zs : List Int} (h : zs.length = n) (hk : n ≤ k ∧ k ≤ 9223372036854775807) (hn : (([(x, MB.zs .u8 zs k 5), (b, bdM b x n k)] ++ [] : Hp).map (·.1)).Nodup) : bOk b zs ⟨x, k⟩ := fun _ => by
  simp at hn
  exact ⟨⟨fun e => hn e.symm, hn⟩, by simp only; omega, hk.2⟩
theorem str_b {b : Nat} {zs : List Int} {q : BQ} (hq : bOk b zs q) (h : zs ≠ []) (hz : zs.length ≤ 50000) : ACt Tryd.prog 27 [pt b 0] (bH b zs q) (Fn (stz zs)) := by
  obtain ⟨hd, hk1, hk2⟩ := hq h
  rw [bH_ne q h]
  exact str_ct b q.x zs.length q.k zs hd rfl (List.length_pos_iff.2 h) hk1 (by omega)
def TFGbB :=
  And.intro (And.intro (And.intro (And.intro tyc4 zmb4) (And.intro tyc5 (And.intro zmb5 tyc21))) (And.intro (And.intro zmb21 (And.intro tyc35 elt35)) (And.intro mkz35 (And.intro apT35 elk35)))) (And.intro (And.intro (And.intro zmb35 tyc53) (And.intro zmb53 (And.intro tyc71 zmb71))) (And.intro (And.intro Tryd.underlying4 (And.intro Tryd.underlying5 Tryd.underlying21)) (And.intro Tryd.underlying35 (And.intro Tryd.underlying53 Tryd.underlying71))))
theorem Y1GbB {G R : Prop} (r : R) (h : R → G := by intro r; first | (apply WP.region; exact rvc_sound _ _ (Sm.out r)) | exact WP.drawK rfl mixed (by decide +kernel) (Sm.out r) | (apply WP.block; exact r) | (apply WP.skip; exact Yq r) | (apply WP.exit; exact Yq r) | (apply WP.ret; exact Sm.out r) | exact WP.cond rfl (fun _ => r) (fun hg => absurd hg (by decide)) | exact WP.cond rfl (fun hg => absurd hg (by decide)) (fun _ => r) | exact Rt.mk (And.intro (fun _ => Sm.out r) fun hg => absurd hg (by decide)) | exact Rt.mk (And.intro (fun hg => absurd hg (by decide)) fun _ => Sm.out r)) : G := h r
theorem YzGbB {G R : Prop} (r : R) (h : R → G := by intro r; first | (apply ExG.no; exact Sm.out r) | (apply Or.inl; apply ExG.no; exact Sm.out r) | exact Or.inl (And.intro (fun hg => absurd hg (by decide)) (ExG.no (Sm.out r)))) : G := h r
theorem or192 : ∀ x : Nat, x < 32 → ibit .or .u8 192 (x : Int) = 192 + (x : Int) := by decide +kernel
theorem or224 : ∀ x : Nat, x < 16 → ibit .or .u8 224 (x : Int) = 224 + (x : Int) := by decide +kernel
theorem or240 : ∀ x : Nat, x < 8 → ibit .or .u8 240 (x : Int) = 240 + (x : Int) := by decide +kernel
theorem or128 : ∀ x : Nat, x < 64 → ibit .or .u8 128 (x : Int) = 128 + (x : Int) := by decide +kernel
theorem and63 : ∀ x : Nat, x < 256 → ibit .and .u8 (x : Int) 63 = ((x % 64 : Nat) : Int) := by decide +kernel
theorem wrap8 (x : Int) (h : 0 ≤ x) : IntKind.u8.wrap x = ((x.toNat % 256 : Nat) : Int) := by
  simp only [IntKind.wrap, IntKind.bits, IntKind.signed]
  simp
  omega
theorem or192' {x : Int} (h : 0 ≤ x ∧ x < 32) : ibit .or .u8 192 (IntKind.u8.wrap x) = 192 + x := by
  rw [wrap8 x h.1, or192 _ (by omega)]; omega
theorem or224' {x : Int} (h : 0 ≤ x ∧ x < 16) : ibit .or .u8 224 (IntKind.u8.wrap x) = 224 + x := by
  rw [wrap8 x h.1, or224 _ (by omega)]; omega
theorem or240' {x : Int} (h : 0 ≤ x ∧ x < 8) : ibit .or .u8 240 (IntKind.u8.wrap x) = 240 + x := by
  rw [wrap8 x h.1, or240 _ (by omega)]; omega
theorem or128' {x : Int} (h : 0 ≤ x) : ibit .or .u8 128 (ibit .and .u8 (IntKind.u8.wrap x) 63) = 128 + x % 64 := by
  rw [wrap8 x h, and63 _ (by omega), or128 _ (by omega)]; omega
theorem fdv (x k : Int) (h : 0 ≤ x) (hk : 0 ≤ k) : x.fdiv k = x / k := Int.fdiv_eq_ediv_of_nonneg _ hk
set_option maxHeartbeats 2000000 in
theorem an_nil (r : Int) (hr : Gr r) (h128 : 128 ≤ r) : ACt Tryd.prog 53 [nsl, iv .i32 r] [] (fun a F' => ∃ x k : Nat, ((enc8 r).length ≤ k ∧ k ≤ 9223372036854775807) ∧ a = ms x 0 (enc8 r).length k ∧ F' = [(x, .zs .u8 (enc8 r) k 5)]) := by
  obtain ⟨h0, h1, h2⟩ := hr
  have w1 : IntKind.u32.wrap r = r := wrap_u32 (by omega) (by omega)
  have hcase : r < 2048 ∨ (2048 ≤ r ∧ r < 55296) ∨ (57344 ≤ r ∧ r < 65536) ∨ 65536 ≤ r := by omega
  have f6 : r.fdiv 64 = r / 64 := fdv r 64 h0 (by omega)
  have f12 : r.fdiv 4096 = r / 4096 := fdv r 4096 h0 (by omega)
  have f18 : r.fdiv 262144 = r / 262144 := fdv r 262144 h0 (by omega)
  have b0 := or128' h0
  have b6 := or128' (show 0 ≤ r / 64 by omega)
  have b12 := or128' (show 0 ≤ r / 4096 by omega)
  rcases hcase with hc1 | hc1 | hc1 | hc1
  · have e : enc8 r = [192 + r / 64, 128 + r % 64] := by unfold enc8; rw [if_neg (by omega), if_pos hc1]
    rw [e]
    have lead := or192' (show 0 ≤ r / 64 ∧ r / 64 < 32 by omega)
    have k1 : decide (r ≤ 2047) = true := decide_eq_true (by omega)
    refine ACt.intro Tryd.func53 rfl (by kernel_rfl) (by simp [Tryd.ntmps53]) (fun cx => ?_)
    simp only [argE, Tryd.ntmps53, Tryd.results53, List.length_cons, List.length_nil, Nat.reduceAdd]
    first | (have FRx := FR; clear FRx) | have FR := fr0S
    have FA := Sm.mk (And.intro TFGbB (And.intro w1 (And.intro f6 (And.intro f12 (And.intro f18 (And.intro b0 (And.intro b6 (And.intro b12 (And.intro lead k1)))))))))
    repeat' first | (apply Sm.mk; refine Ys ?_) | refine WP.seq fun K hK => ?_ | (apply Ob.mk; exact Yo) | refine And.intro (Ob.out ?_) ?_ | refine Y1GbB ?_ | refine YzGbB ?_ | (refine WP.cond rfl (fun hc => ?_) (fun hc => ?_) <;> (try simp only [ZC, reduceCtorEq, ZD] at hc) <;> (try exact absurd hc (by decide)) <;> (try (exfalso; omega))) | refine Rt.mk (And.intro (fun hg => Sm.out ?_) fun hg => Sm.out ?_) | (refine Nu.mk ?_; first | (fail_if_success have := nb1); intro nb1 | (fail_if_success have := nb2); intro nb2 | (fail_if_success have := nb3); intro nb3 | (fail_if_success have := nb4); intro nb4 | (fail_if_success have := nb5); intro nb5 | (fail_if_success have := nb6); intro nb6 | intro nbz) | (apply Yfr; refine Yf FR fun hFRb FR => ?_) | refine Two.mk ?_ ?_ | (apply Yxc; exact Yx) | refine Cs.mk fun hcs => Sm.out ?_ | go_step | omega | (simp only [maxLen_eq]; omega) | exact trivial
    (refine OutQ.drop _ _ (perm1 (by simp only [hget, hdel, ↓reduceIte, if_true, if_false, FR.out]; first | done | rfl)) (by simp only [resv, ZK, look, loadv, loadn, loadnm, load1, load1m, hget, ↓reduceIte, Nat.reduceEqDiff, Nat.reduceAdd, Nat.reduceMul, Nat.reduceLeDiff, Nat.reduceLT, reduceCtorEq, TFGbB, FR.out]) ⟨nb2, nb3, hFRb, (by simp only [resv, resA, ZK, look, loadv, loadn, loadnm, load1, load1m, hget, ↓reduceIte, Nat.reduceEqDiff, Nat.reduceAdd, Nat.reduceMul, Nat.reduceLeDiff, Nat.reduceLT, reduceCtorEq, TFGbB, FR.out]; first | done | rfl), rfl⟩)
  · have e : enc8 r = [224 + r / 4096, 128 + r / 64 % 64, 128 + r % 64] := by unfold enc8; rw [if_neg (by omega), if_neg (by omega), if_pos (by omega)]
    rw [e]
    have lead := or224' (show 0 ≤ r / 4096 ∧ r / 4096 < 16 by omega)
    have k1 : decide (r ≤ 2047) = false := decide_eq_false (by omega)
    have k2 : decide (r < 55296) = true := decide_eq_true (by omega)
    refine ACt.intro Tryd.func53 rfl (by kernel_rfl) (by simp [Tryd.ntmps53]) (fun cx => ?_)
    simp only [argE, Tryd.ntmps53, Tryd.results53, List.length_cons, List.length_nil, Nat.reduceAdd]
    first | (have FRx := FR; clear FRx) | have FR := fr0S
    have FA := Sm.mk (And.intro TFGbB (And.intro w1 (And.intro f6 (And.intro f12 (And.intro f18 (And.intro b0 (And.intro b6 (And.intro b12 (And.intro lead (And.intro k1 k2))))))))))
    repeat' first | (apply Sm.mk; refine Ys ?_) | refine WP.seq fun K hK => ?_ | (apply Ob.mk; exact Yo) | refine And.intro (Ob.out ?_) ?_ | refine Y1GbB ?_ | refine YzGbB ?_ | (refine WP.cond rfl (fun hc => ?_) (fun hc => ?_) <;> (try simp only [ZC, reduceCtorEq, ZD] at hc) <;> (try exact absurd hc (by decide)) <;> (try (exfalso; omega))) | refine Rt.mk (And.intro (fun hg => Sm.out ?_) fun hg => Sm.out ?_) | (refine Nu.mk ?_; first | (fail_if_success have := nb1); intro nb1 | (fail_if_success have := nb2); intro nb2 | (fail_if_success have := nb3); intro nb3 | (fail_if_success have := nb4); intro nb4 | (fail_if_success have := nb5); intro nb5 | (fail_if_success have := nb6); intro nb6 | intro nbz) | (apply Yfr; refine Yf FR fun hFRb FR => ?_) | refine Two.mk ?_ ?_ | (apply Yxc; exact Yx) | refine Cs.mk fun hcs => Sm.out ?_ | go_step | omega | (simp only [maxLen_eq]; omega) | exact trivial
    (refine OutQ.drop _ _ (perm1 (by simp only [hget, hdel, ↓reduceIte, if_true, if_false, FR.out]; first | done | rfl)) (by simp only [resv, ZK, look, loadv, loadn, loadnm, load1, load1m, hget, ↓reduceIte, Nat.reduceEqDiff, Nat.reduceAdd, Nat.reduceMul, Nat.reduceLeDiff, Nat.reduceLT, reduceCtorEq, TFGbB, FR.out]) ⟨nb2, nb3, hFRb, (by simp only [resv, resA, ZK, look, loadv, loadn, loadnm, load1, load1m, hget, ↓reduceIte, Nat.reduceEqDiff, Nat.reduceAdd, Nat.reduceMul, Nat.reduceLeDiff, Nat.reduceLT, reduceCtorEq, TFGbB, FR.out]; first | done | rfl), rfl⟩)
  · have e : enc8 r = [224 + r / 4096, 128 + r / 64 % 64, 128 + r % 64] := by unfold enc8; rw [if_neg (by omega), if_neg (by omega), if_pos (by omega)]
    rw [e]
    have lead := or224' (show 0 ≤ r / 4096 ∧ r / 4096 < 16 by omega)
    have k1 : decide (r ≤ 2047) = false := decide_eq_false (by omega)
    have k2 : decide (r < 55296) = false := decide_eq_false (by omega)
    have k3 : decide (57343 < r) = true := decide_eq_true (by omega)
    have k4 : decide (r ≤ 65535) = true := decide_eq_true (by omega)
    refine ACt.intro Tryd.func53 rfl (by kernel_rfl) (by simp [Tryd.ntmps53]) (fun cx => ?_)
    simp only [argE, Tryd.ntmps53, Tryd.results53, List.length_cons, List.length_nil, Nat.reduceAdd]
    first | (have FRx := FR; clear FRx) | have FR := fr0S
    have FA := Sm.mk (And.intro TFGbB (And.intro w1 (And.intro f6 (And.intro f12 (And.intro f18 (And.intro b0 (And.intro b6 (And.intro b12 (And.intro lead (And.intro k1 (And.intro k2 (And.intro k3 k4))))))))))))
    repeat' first | (apply Sm.mk; refine Ys ?_) | refine WP.seq fun K hK => ?_ | (apply Ob.mk; exact Yo) | refine And.intro (Ob.out ?_) ?_ | refine Y1GbB ?_ | refine YzGbB ?_ | (refine WP.cond rfl (fun hc => ?_) (fun hc => ?_) <;> (try simp only [ZC, reduceCtorEq, ZD] at hc) <;> (try exact absurd hc (by decide)) <;> (try (exfalso; omega))) | refine Rt.mk (And.intro (fun hg => Sm.out ?_) fun hg => Sm.out ?_) | (refine Nu.mk ?_; first | (fail_if_success have := nb1); intro nb1 | (fail_if_success have := nb2); intro nb2 | (fail_if_success have := nb3); intro nb3 | (fail_if_success have := nb4); intro nb4 | (fail_if_success have := nb5); intro nb5 | (fail_if_success have := nb6); intro nb6 | intro nbz) | (apply Yfr; refine Yf FR fun hFRb FR => ?_) | refine Two.mk ?_ ?_ | (apply Yxc; exact Yx) | refine Cs.mk fun hcs => Sm.out ?_ | go_step | omega | (simp only [maxLen_eq]; omega) | exact trivial
    (refine OutQ.drop _ _ (perm1 (by simp only [hget, hdel, ↓reduceIte, if_true, if_false, FR.out]; first | done | rfl)) (by simp only [resv, ZK, look, loadv, loadn, loadnm, load1, load1m, hget, ↓reduceIte, Nat.reduceEqDiff, Nat.reduceAdd, Nat.reduceMul, Nat.reduceLeDiff, Nat.reduceLT, reduceCtorEq, TFGbB, FR.out]) ⟨nb2, nb3, hFRb, (by simp only [resv, resA, ZK, look, loadv, loadn, loadnm, load1, load1m, hget, ↓reduceIte, Nat.reduceEqDiff, Nat.reduceAdd, Nat.reduceMul, Nat.reduceLeDiff, Nat.reduceLT, reduceCtorEq, TFGbB, FR.out]; first | done | rfl), rfl⟩)
  · have e : enc8 r = [240 + r / 262144, 128 + r / 4096 % 64, 128 + r / 64 % 64, 128 + r % 64] := by unfold enc8; rw [if_neg (by omega), if_neg (by omega), if_neg (by omega)]
    rw [e]
    have lead := or240' (show 0 ≤ r / 262144 ∧ r / 262144 < 8 by omega)
    have k1 : decide (r ≤ 2047) = false := decide_eq_false (by omega)
    have k2 : decide (r < 55296) = false := decide_eq_false (by omega)
    have k3 : decide (57343 < r) = true := decide_eq_true (by omega)
    have k4 : decide (r ≤ 65535) = false := decide_eq_false (by omega)
    have k5 : decide (r > 65535) = true := decide_eq_true (by omega)
    have k6 : decide (r ≤ 1114111) = true := decide_eq_true (by omega)
    refine ACt.intro Tryd.func53 rfl (by kernel_rfl) (by simp [Tryd.ntmps53]) (fun cx => ?_)
    simp only [argE, Tryd.ntmps53, Tryd.results53, List.length_cons, List.length_nil, Nat.reduceAdd]
    first | (have FRx := FR; clear FRx) | have FR := fr0S
    have FA := Sm.mk (And.intro TFGbB (And.intro w1 (And.intro f6 (And.intro f12 (And.intro f18 (And.intro b0 (And.intro b6 (And.intro b12 (And.intro lead (And.intro k1 (And.intro k2 (And.intro k3 (And.intro k4 (And.intro k5 k6))))))))))))))
    repeat' first | (apply Sm.mk; refine Ys ?_) | refine WP.seq fun K hK => ?_ | (apply Ob.mk; exact Yo) | refine And.intro (Ob.out ?_) ?_ | refine Y1GbB ?_ | refine YzGbB ?_ | (refine WP.cond rfl (fun hc => ?_) (fun hc => ?_) <;> (try simp only [ZC, reduceCtorEq, ZD] at hc) <;> (try exact absurd hc (by decide)) <;> (try (exfalso; omega))) | refine Rt.mk (And.intro (fun hg => Sm.out ?_) fun hg => Sm.out ?_) | (refine Nu.mk ?_; first | (fail_if_success have := nb1); intro nb1 | (fail_if_success have := nb2); intro nb2 | (fail_if_success have := nb3); intro nb3 | (fail_if_success have := nb4); intro nb4 | (fail_if_success have := nb5); intro nb5 | (fail_if_success have := nb6); intro nb6 | intro nbz) | (apply Yfr; refine Yf FR fun hFRb FR => ?_) | refine Two.mk ?_ ?_ | (apply Yxc; exact Yx) | refine Cs.mk fun hcs => Sm.out ?_ | go_step | omega | (simp only [maxLen_eq]; omega) | exact trivial
    (refine OutQ.drop _ _ (perm1 (by simp only [hget, hdel, ↓reduceIte, if_true, if_false, FR.out]; first | done | rfl)) (by simp only [resv, ZK, look, loadv, loadn, loadnm, load1, load1m, hget, ↓reduceIte, Nat.reduceEqDiff, Nat.reduceAdd, Nat.reduceMul, Nat.reduceLeDiff, Nat.reduceLT, reduceCtorEq, TFGbB, FR.out]) ⟨nb2, nb3, hFRb, (by simp only [resv, resA, ZK, look, loadv, loadn, loadnm, load1, load1m, hget, ↓reduceIte, Nat.reduceEqDiff, Nat.reduceAdd, Nat.reduceMul, Nat.reduceLeDiff, Nat.reduceLT, reduceCtorEq, TFGbB, FR.out]; first | done | rfl), rfl⟩)
set_option maxHeartbeats 2000000 in
theorem an_used (x n k : Nat) (zs : List Int) (hn : zs.length = n) (hnk : n ≤ k ∧ k ≤ 9223372036854775807) (hln : n ≤ 100000) (r : Int) (hr : Gr r) (h128 : 128 ≤ r) :
    ACt Tryd.prog 53 [ms x 0 n k, iv .i32 r] [(x, .zs .u8 zs k 5)] (fun a F' => ∃ x k : Nat, (n + (enc8 r).length ≤ k ∧ k ≤ 9223372036854775807) ∧ a = ms x 0 (n + (enc8 r).length) k ∧ F' = [(x, .zs .u8 (zs ++ enc8 r) k 5)]) := by
  have l2 : k ≤ 9223372036854775807 := hnk.2
  obtain ⟨h0, h1, h2⟩ := hr
  have w1 : IntKind.u32.wrap r = r := wrap_u32 (by omega) (by omega)
  have hcase : r < 2048 ∨ (2048 ≤ r ∧ r < 55296) ∨ (57344 ≤ r ∧ r < 65536) ∨ 65536 ≤ r := by omega
  have f6 : r.fdiv 64 = r / 64 := fdv r 64 h0 (by omega)
  have f12 : r.fdiv 4096 = r / 4096 := fdv r 4096 h0 (by omega)
  have f18 : r.fdiv 262144 = r / 262144 := fdv r 262144 h0 (by omega)
  have b0 := or128' h0
  have b6 := or128' (show 0 ≤ r / 64 by omega)
  have b12 := or128' (show 0 ≤ r / 4096 by omega)
  rcases hcase with hc1 | hc1 | hc1 | hc1
  · have e : enc8 r = [192 + r / 64, 128 + r % 64] := by unfold enc8; rw [if_neg (by omega), if_pos hc1]
    rw [e]
    have lead := or192' (show 0 ≤ r / 64 ∧ r / 64 < 32 by omega)
    have k1 : decide (r ≤ 2047) = true := decide_eq_true (by omega)
    refine ACt.intro Tryd.func53 rfl (by kernel_rfl) (by simp [Tryd.ntmps53]) (fun cx => ?_)
    simp only [argE, Tryd.ntmps53, Tryd.results53, List.length_cons, List.length_nil, Nat.reduceAdd]
    have l1 : n + 2 ≤ 9223372036854775807 ∧ (n + 2) * 1 ≤ 140737488355328 := by omega
    first | (have FRx := FR; clear FRx) | have FR := fr0S
    have FA := Sm.mk (And.intro TFGbB (And.intro w1 (And.intro f6 (And.intro f12 (And.intro f18 (And.intro b0 (And.intro b6 (And.intro b12 (And.intro lead (And.intro k1 (And.intro l1 (And.intro l2 hn))))))))))))
    repeat' first | (apply Sm.mk; refine Ys ?_) | refine WP.seq fun K hK => ?_ | (apply Ob.mk; exact Yo) | refine And.intro (Ob.out ?_) ?_ | refine Y1GbB ?_ | refine YzGbB ?_ | (refine WP.cond rfl (fun hc => ?_) (fun hc => ?_) <;> (try simp only [ZC, reduceCtorEq, ZD] at hc) <;> (try exact absurd hc (by decide)) <;> (try (exfalso; omega))) | refine Rt.mk (And.intro (fun hg => Sm.out ?_) fun hg => Sm.out ?_) | (refine Nu.mk ?_; first | (fail_if_success have := nb1); intro nb1 | (fail_if_success have := nb2); intro nb2 | (fail_if_success have := nb3); intro nb3 | (fail_if_success have := nb4); intro nb4 | (fail_if_success have := nb5); intro nb5 | (fail_if_success have := nb6); intro nb6 | intro nbz) | (apply Yfr; refine Yf FR fun hFRb FR => ?_) | refine Two.mk ?_ ?_ | (apply Yxc; exact Yx) | refine Cs.mk fun hcs => Sm.out ?_ | go_step | omega | (simp only [maxLen_eq]; omega) | exact trivial
    (refine OutQ.drop _ _ (perm1 (by simp only [hget, hdel, ↓reduceIte, if_true, if_false, FR.out]; first | done | rfl)) (by simp only [resv, ZK, look, loadv, loadn, loadnm, load1, load1m, hget, ↓reduceIte, Nat.reduceEqDiff, Nat.reduceAdd, Nat.reduceMul, Nat.reduceLeDiff, Nat.reduceLT, reduceCtorEq, TFGbB, FR.out]) ⟨nb2, nb3, hFRb, (by simp only [resv, resA, ZK, look, loadv, loadn, loadnm, load1, load1m, hget, ↓reduceIte, Nat.reduceEqDiff, Nat.reduceAdd, Nat.reduceMul, Nat.reduceLeDiff, Nat.reduceLT, reduceCtorEq, TFGbB, FR.out]; first | done | rfl), rfl⟩)
  · have e : enc8 r = [224 + r / 4096, 128 + r / 64 % 64, 128 + r % 64] := by unfold enc8; rw [if_neg (by omega), if_neg (by omega), if_pos (by omega)]
    rw [e]
    have lead := or224' (show 0 ≤ r / 4096 ∧ r / 4096 < 16 by omega)
    have k1 : decide (r ≤ 2047) = false := decide_eq_false (by omega)
    have k2 : decide (r < 55296) = true := decide_eq_true (by omega)
    refine ACt.intro Tryd.func53 rfl (by kernel_rfl) (by simp [Tryd.ntmps53]) (fun cx => ?_)
    simp only [argE, Tryd.ntmps53, Tryd.results53, List.length_cons, List.length_nil, Nat.reduceAdd]
    have l1 : n + 3 ≤ 9223372036854775807 ∧ (n + 3) * 1 ≤ 140737488355328 := by omega
    first | (have FRx := FR; clear FRx) | have FR := fr0S
    have FA := Sm.mk (And.intro TFGbB (And.intro w1 (And.intro f6 (And.intro f12 (And.intro f18 (And.intro b0 (And.intro b6 (And.intro b12 (And.intro lead (And.intro k1 (And.intro k2 (And.intro l1 (And.intro l2 hn)))))))))))))
    repeat' first | (apply Sm.mk; refine Ys ?_) | refine WP.seq fun K hK => ?_ | (apply Ob.mk; exact Yo) | refine And.intro (Ob.out ?_) ?_ | refine Y1GbB ?_ | refine YzGbB ?_ | (refine WP.cond rfl (fun hc => ?_) (fun hc => ?_) <;> (try simp only [ZC, reduceCtorEq, ZD] at hc) <;> (try exact absurd hc (by decide)) <;> (try (exfalso; omega))) | refine Rt.mk (And.intro (fun hg => Sm.out ?_) fun hg => Sm.out ?_) | (refine Nu.mk ?_; first | (fail_if_success have := nb1); intro nb1 | (fail_if_success have := nb2); intro nb2 | (fail_if_success have := nb3); intro nb3 | (fail_if_success have := nb4); intro nb4 | (fail_if_success have := nb5); intro nb5 | (fail_if_success have := nb6); intro nb6 | intro nbz) | (apply Yfr; refine Yf FR fun hFRb FR => ?_) | refine Two.mk ?_ ?_ | (apply Yxc; exact Yx) | refine Cs.mk fun hcs => Sm.out ?_ | go_step | omega | (simp only [maxLen_eq]; omega) | exact trivial
    (refine OutQ.drop _ _ (perm1 (by simp only [hget, hdel, ↓reduceIte, if_true, if_false, FR.out]; first | done | rfl)) (by simp only [resv, ZK, look, loadv, loadn, loadnm, load1, load1m, hget, ↓reduceIte, Nat.reduceEqDiff, Nat.reduceAdd, Nat.reduceMul, Nat.reduceLeDiff, Nat.reduceLT, reduceCtorEq, TFGbB, FR.out]) ⟨nb2, nb3, hFRb, (by simp only [resv, resA, ZK, look, loadv, loadn, loadnm, load1, load1m, hget, ↓reduceIte, Nat.reduceEqDiff, Nat.reduceAdd, Nat.reduceMul, Nat.reduceLeDiff, Nat.reduceLT, reduceCtorEq, TFGbB, FR.out]; first | done | rfl), rfl⟩)
  · have e : enc8 r = [224 + r / 4096, 128 + r / 64 % 64, 128 + r % 64] := by unfold enc8; rw [if_neg (by omega), if_neg (by omega), if_pos (by omega)]
    rw [e]
    have lead := or224' (show 0 ≤ r / 4096 ∧ r / 4096 < 16 by omega)
    have k1 : decide (r ≤ 2047) = false := decide_eq_false (by omega)
    have k2 : decide (r < 55296) = false := decide_eq_false (by omega)
    have k3 : decide (57343 < r) = true := decide_eq_true (by omega)
    have k4 : decide (r ≤ 65535) = true := decide_eq_true (by omega)
    refine ACt.intro Tryd.func53 rfl (by kernel_rfl) (by simp [Tryd.ntmps53]) (fun cx => ?_)
    simp only [argE, Tryd.ntmps53, Tryd.results53, List.length_cons, List.length_nil, Nat.reduceAdd]
    have l1 : n + 3 ≤ 9223372036854775807 ∧ (n + 3) * 1 ≤ 140737488355328 := by omega
    first | (have FRx := FR; clear FRx) | have FR := fr0S
    have FA := Sm.mk (And.intro TFGbB (And.intro w1 (And.intro f6 (And.intro f12 (And.intro f18 (And.intro b0 (And.intro b6 (And.intro b12 (And.intro lead (And.intro k1 (And.intro k2 (And.intro k3 (And.intro k4 (And.intro l1 (And.intro l2 hn)))))))))))))))
    repeat' first | (apply Sm.mk; refine Ys ?_) | refine WP.seq fun K hK => ?_ | (apply Ob.mk; exact Yo) | refine And.intro (Ob.out ?_) ?_ | refine Y1GbB ?_ | refine YzGbB ?_ | (refine WP.cond rfl (fun hc => ?_) (fun hc => ?_) <;> (try simp only [ZC, reduceCtorEq, ZD] at hc) <;> (try exact absurd hc (by decide)) <;> (try (exfalso; omega))) | refine Rt.mk (And.intro (fun hg => Sm.out ?_) fun hg => Sm.out ?_) | (refine Nu.mk ?_; first | (fail_if_success have := nb1); intro nb1 | (fail_if_success have := nb2); intro nb2 | (fail_if_success have := nb3); intro nb3 | (fail_if_success have := nb4); intro nb4 | (fail_if_success have := nb5); intro nb5 | (fail_if_success have := nb6); intro nb6 | intro nbz) | (apply Yfr; refine Yf FR fun hFRb FR => ?_) | refine Two.mk ?_ ?_ | (apply Yxc; exact Yx) | refine Cs.mk fun hcs => Sm.out ?_ | go_step | omega | (simp only [maxLen_eq]; omega) | exact trivial
    (refine OutQ.drop _ _ (perm1 (by simp only [hget, hdel, ↓reduceIte, if_true, if_false, FR.out]; first | done | rfl)) (by simp only [resv, ZK, look, loadv, loadn, loadnm, load1, load1m, hget, ↓reduceIte, Nat.reduceEqDiff, Nat.reduceAdd, Nat.reduceMul, Nat.reduceLeDiff, Nat.reduceLT, reduceCtorEq, TFGbB, FR.out]) ⟨nb2, nb3, hFRb, (by simp only [resv, resA, ZK, look, loadv, loadn, loadnm, load1, load1m, hget, ↓reduceIte, Nat.reduceEqDiff, Nat.reduceAdd, Nat.reduceMul, Nat.reduceLeDiff, Nat.reduceLT, reduceCtorEq, TFGbB, FR.out]; first | done | rfl), rfl⟩)
  · have e : enc8 r = [240 + r / 262144, 128 + r / 4096 % 64, 128 + r / 64 % 64, 128 + r % 64] := by unfold enc8; rw [if_neg (by omega), if_neg (by omega), if_neg (by omega)]
    rw [e]
    have lead := or240' (show 0 ≤ r / 262144 ∧ r / 262144 < 8 by omega)
    have k1 : decide (r ≤ 2047) = false := decide_eq_false (by omega)
    have k2 : decide (r < 55296) = false := decide_eq_false (by omega)
    have k3 : decide (57343 < r) = true := decide_eq_true (by omega)
    have k4 : decide (r ≤ 65535) = false := decide_eq_false (by omega)
    have k5 : decide (r > 65535) = true := decide_eq_true (by omega)
    have k6 : decide (r ≤ 1114111) = true := decide_eq_true (by omega)
    refine ACt.intro Tryd.func53 rfl (by kernel_rfl) (by simp [Tryd.ntmps53]) (fun cx => ?_)
    simp only [argE, Tryd.ntmps53, Tryd.results53, List.length_cons, List.length_nil, Nat.reduceAdd]
    have l1 : n + 4 ≤ 9223372036854775807 ∧ (n + 4) * 1 ≤ 140737488355328 := by omega
    first | (have FRx := FR; clear FRx) | have FR := fr0S
    have FA := Sm.mk (And.intro TFGbB (And.intro w1 (And.intro f6 (And.intro f12 (And.intro f18 (And.intro b0 (And.intro b6 (And.intro b12 (And.intro lead (And.intro k1 (And.intro k2 (And.intro k3 (And.intro k4 (And.intro k5 (And.intro k6 (And.intro l1 (And.intro l2 hn)))))))))))))))))
    repeat' first | (apply Sm.mk; refine Ys ?_) | refine WP.seq fun K hK => ?_ | (apply Ob.mk; exact Yo) | refine And.intro (Ob.out ?_) ?_ | refine Y1GbB ?_ | refine YzGbB ?_ | (refine WP.cond rfl (fun hc => ?_) (fun hc => ?_) <;> (try simp only [ZC, reduceCtorEq, ZD] at hc) <;> (try exact absurd hc (by decide)) <;> (try (exfalso; omega))) | refine Rt.mk (And.intro (fun hg => Sm.out ?_) fun hg => Sm.out ?_) | (refine Nu.mk ?_; first | (fail_if_success have := nb1); intro nb1 | (fail_if_success have := nb2); intro nb2 | (fail_if_success have := nb3); intro nb3 | (fail_if_success have := nb4); intro nb4 | (fail_if_success have := nb5); intro nb5 | (fail_if_success have := nb6); intro nb6 | intro nbz) | (apply Yfr; refine Yf FR fun hFRb FR => ?_) | refine Two.mk ?_ ?_ | (apply Yxc; exact Yx) | refine Cs.mk fun hcs => Sm.out ?_ | go_step | omega | (simp only [maxLen_eq]; omega) | exact trivial
    (refine OutQ.drop _ _ (perm1 (by simp only [hget, hdel, ↓reduceIte, if_true, if_false, FR.out]; first | done | rfl)) (by simp only [resv, ZK, look, loadv, loadn, loadnm, load1, load1m, hget, ↓reduceIte, Nat.reduceEqDiff, Nat.reduceAdd, Nat.reduceMul, Nat.reduceLeDiff, Nat.reduceLT, reduceCtorEq, TFGbB, FR.out]) ⟨nb2, nb3, hFRb, (by simp only [resv, resA, ZK, look, loadv, loadn, loadnm, load1, load1m, hget, ↓reduceIte, Nat.reduceEqDiff, Nat.reduceAdd, Nat.reduceMul, Nat.reduceLeDiff, Nat.reduceLT, reduceCtorEq, TFGbB, FR.out]; first | done | rfl), rfl⟩)
end Go.Proofs.YtdkkfgcdnojmaaaDoor
