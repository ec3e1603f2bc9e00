/-
  The walks and the laws that the statement leans on, part 36.
-/
import Derived.Test.YtpjnhcjfkgjbnaaDoorL10
import Derived.Test.YtpjnhcjfkgjbnaaDoorL35
namespace Go.Proofs.YtpjnhcjfkgjbnaaDoor
open Go
set_option linter.unusedVariables false
set_option linter.unusedSimpArgs false
set_option linter.defProp false
def TFWlW :=
  And.intro (And.intro (And.intro (And.intro (And.intro tyc3 (And.intro zmb3 tyc4)) (And.intro (And.intro zmb4 tyc5) (And.intro zmb5 tyc9))) (And.intro (And.intro (And.intro zmb9 tyc25) (And.intro mth25_46 mth25_45)) (And.intro (And.intro mth25_44 con25) (And.intro zmb25 tyc28)))) (And.intro (And.intro (And.intro (And.intro zmb28 tyc31) (And.intro zmb31 tyc32)) (And.intro (And.intro elt32 mkz32) (And.intro mkc32 apT32))) (And.intro (And.intro (And.intro elk32 zmb32) (And.intro tyc38 elt38)) (And.intro (And.intro mkz38 apT38) (And.intro elk38 zmb38))))) (And.intro (And.intro (And.intro (And.intro tyc58 (And.intro tyc62 tyc67)) (And.intro (And.intro foff67_0 fpart67_0) (And.intro foff67_1 fpart67_1))) (And.intro (And.intro (And.intro foff67_2 fpart67_2) (And.intro foff67_3 fpart67_3)) (And.intro (And.intro foff67_4 fpart67_4) (And.intro foff67_5 fpart67_5)))) (And.intro (And.intro (And.intro (And.intro zmb67 bldT67) (And.intro tyc78 Tryd.underlying3)) (And.intro (And.intro Tryd.underlying4 Tryd.underlying5) (And.intro Tryd.underlying9 Tryd.underlying25))) (And.intro (And.intro (And.intro Tryd.underlying28 Tryd.underlying31) (And.intro Tryd.underlying32 Tryd.underlying38)) (And.intro (And.intro Tryd.underlying58 Tryd.underlying62) (And.intro Tryd.underlying67 Tryd.underlying78)))))
theorem Y1WlW {G R : Prop} (r : R) (h : R → G := by intro r; first | (apply WP.region; exact rvc_sound _ _ (Sm.out r)) | exact WP.drawK rfl mixed (by decide +kernel) (Sm.out r) | (apply WP.block; exact r) | (apply WP.skip; exact Yq r) | (apply WP.exit; exact Yq r) | (apply WP.ret; exact Sm.out r) | exact WP.cond rfl (fun _ => r) (fun hg => absurd hg (by decide)) | exact WP.cond rfl (fun hg => absurd hg (by decide)) (fun _ => r) | exact Rt.mk (And.intro (fun _ => Sm.out r) fun hg => absurd hg (by decide)) | exact Rt.mk (And.intro (fun hg => absurd hg (by decide)) fun _ => Sm.out r)) : G := h r
theorem YzWlW {G R : Prop} (r : R) (h : R → G := by intro r; first | (apply ExG.no; exact Sm.out r) | (apply Or.inl; apply ExG.no; exact Sm.out r) | exact Or.inl (And.intro (fun hg => absurd hg (by decide)) (ExG.no (Sm.out r)))) : G := h r
theorem YsWlW0 {P Q : Prop} (q : Q) (h : P = Q := by (try (conv => lhs; simp -dsimp only [ZK, rvc, capA, appA, litL, mkfv, drawF, headN, pureH, stp, dvc, calleeOf, gcall, pev, eff, newB, okd, og, ogs, ogo, ogp, slv, bltv, opd, litv, strip, one, both, putE, St.put, look, gdOf, gdv, picka, pickv, pickw, binv, bini, bins, binb, binp, binq, isSlT, bina, shp, eqCells, unv, convv, nilv, faddv, addp, idxav, idxp, load1, load1m, loadn, loadnm, loadv, hget, hset, hrep, hdel, slicev, slice3v, bnd, shift1, lenv, capv, IntKind.bits, extractv, fieldv, indexv, min2v, max2v, mkiv, tasv, tasz, cellsA, fillA, buildv, stC, oneC, rowMB, intsA, plN, appE, appZ, appC, appS, srcB, appNZ, appNC, VwL, srcC, srcZ, srcM, isBoolT, isPtrT, isSliceT, uOk, Value.oneCell', Nat.reducePow, Int.reducePow, Nat.reduceAdd, Nat.reduceMul, Nat.reduceSub, Nat.reduceLT, Nat.reduceLeDiff, Nat.reduceEqDiff, Nat.reduceBEq, Nat.reduceDiv, Nat.reduceMod, ↓reduceIte, reduceCtorEq, Int.reduceToNat, Int.reduceLT, Int.reduceLE, TFWlW, SeqQ, BlkQ, LoopQ, BodyQ, ub_len, ub_drop, ub_take, rowsA_len, rowsA_one, rowsA_snoc, FA.out, FR.out])) <;> exact rfl) : P := h.mpr q
abbrev MC (L : List Bs) : Type := {p : Nat × Nat // L.length ≤ p.2 ∧ p.2 ≤ 9223372036854775807}
theorem crcAllM_ct (bs : List UInt8) (hb : bs.length ≤ 1000000) : ACt Tryd.prog 35 [.slz .u8 (ub bs)] [] (fun r F' => ∃ g : MC (allF bs.length bs).1, r = .tup [mV (allF bs.length bs).1 g.1.1 g.1.2, iv .i64 (allF bs.length bs).2] ∧ F' = mR (allF bs.length bs).1 g.1.1 g.1.2) := by
  refine ACt.intro Tryd.func35 rfl (by kernel_rfl) (by simp [Tryd.ntmps35]) (fun cx => ?_)
  simp only [argE, Tryd.ntmps35, Tryd.results35]
  have e0 : bs.take bs.length = bs := List.take_length
  first | (have FRx := FR; clear FRx) | have FR := fr0S
  have FA := Sm.mk (TFWlW)
  repeat' first | (apply Sm.mk; refine Ys ?_) | refine WP.seq fun K hK => ?_ | (apply Ob.mk; exact Yo) | refine And.intro (Ob.out ?_) ?_ | refine Y1WlW ?_ | refine YzWlW ?_ | (refine WP.cond rfl (fun hc => ?_) (fun hc => ?_) <;> (try simp only [ZC, reduceCtorEq, ZD] at hc) <;> (try exact absurd hc (by decide)) <;> (try (exfalso; omega))) | refine Rt.mk (And.intro (fun hg => Sm.out ?_) fun hg => Sm.out ?_) | (refine Nu.mk ?_; first | (fail_if_success have := nb1); intro nb1 | (fail_if_success have := nb2); intro nb2 | (fail_if_success have := nb3); intro nb3 | (fail_if_success have := nb4); intro nb4 | (fail_if_success have := nb5); intro nb5 | (fail_if_success have := nb6); intro nb6 | (fail_if_success have := nb7); intro nb7 | (fail_if_success have := nb8); intro nb8 | intro nbz) | (apply Yfr; refine Yf FR fun hFRb FR => ?_) | refine Two.mk ?_ ?_ | (apply Yxc; exact Yx) | refine Cs.mk fun hcs => Sm.out ?_ | go_step | omega | (simp only [maxLen_eq]; omega) | exact trivial
  refine WP.loop (Γ := AG) (fun g => ⟨[(4, accA g.l g.b g.cap), (5, iv .i64 g.at_), (0, .slz .u8 (ub bs))], accH g.l g.b g.cap⟩)
    (fun g => (∃ k, AllI bs g.l g.at_ k) ∧ g.l.length ≤ g.cap ∧ g.cap ≤ 9223372036854775807) (fun g => bs.length - g.at_) ⟨[], 0, 0, 0⟩ ⟨⟨_, AllI.init bs⟩, by simp, by simp⟩ (Sub.pick (by simp [pickB, hget, hdel, FR.out, accA, accH]) (by simp [look, accA, accH])) ?_
  intro ⟨l, at_, b, cap⟩ ⟨⟨k, hI⟩, hc1, hc2⟩
  simp only at hI hc1 hc2 ⊢
  have hle := hI.le
  have hfew := hI.few
  by_cases hf : IsF (bs.drop at_)
  · obtain ⟨k', hS, hS1⟩ := hI.step hf
    have g1 : IntKind.i64.wrap ((at_ : Int) + ((lenW (bs.drop at_) + 10 : Nat) : Int)) = ((at_ + (lenW (bs.drop at_) + 10) : Nat) : Int) := by rw [wrap_i64 (by omega) (by omega)]; omega
    have hct := open_yes (bs.drop at_) (by simp; omega) hf
    cases l with
    | nil =>
      simp only [accA, accH]
      first | (have FRx := FR; clear FRx) | have FR := fr0S
      have FA := Sm.mk (And.intro TFWlW (And.intro e0 g1))
      repeat' first | (apply Sm.mk; refine YsWlW0 ?_) | refine WP.seq fun K hK => ?_ | (apply Ob.mk; exact Yo) | refine And.intro (Ob.out ?_) ?_ | refine Y1WlW ?_ | refine Yc (c := hct) (r := ?_) | refine YzWlW ?_ | (refine WP.cond rfl (fun hc => ?_) (fun hc => ?_) <;> (try simp only [ZC, reduceCtorEq, ZD] at hc) <;> (try exact absurd hc (by decide)) <;> (try (exfalso; omega))) | refine Rt.mk (And.intro (fun hg => Sm.out ?_) fun hg => Sm.out ?_) | (refine Nu.mk ?_; first | (fail_if_success have := nb1); intro nb1 | (fail_if_success have := nb2); intro nb2 | (fail_if_success have := nb3); intro nb3 | (fail_if_success have := nb4); intro nb4 | (fail_if_success have := nb5); intro nb5 | (fail_if_success have := nb6); intro nb6 | (fail_if_success have := nb7); intro nb7 | (fail_if_success have := nb8); intro nb8 | intro nbz) | (apply Yfr; refine Yf FR fun hFRb FR => ?_) | refine Two.mk ?_ ?_ | (apply Yxc; exact Yx) | refine Cs.mk fun hcs => Sm.out ?_ | go_step | omega | (simp only [maxLen_eq]; omega) | exact trivial
      exact ⟨⟨_, _, nb2, nb3⟩, ⟨⟨k', hS⟩, by simp; omega, by simp only; omega⟩, by simp only; omega, (Sub.pick (by simp [pickB, hget, hdel, FR.out, accA, accH, rowsA]) (by simp [look, accA, accH, rowsA]))⟩
    | cons x r =>
      rw [show accA (x :: r) b cap = ms b 0 (x :: r).length cap from rfl, show accH (x :: r) b cap = [(b, .cells (rowsA (x :: r)) cap 38)] from rfl]
      obtain ⟨l, hl⟩ : ∃ l, l = x :: r := ⟨_, rfl⟩
      rw [← hl] at hS hc1 hfew ⊢
      first | (have FRx := FR; clear FRx) | have FR := fr0S
      have FA := Sm.mk (And.intro TFWlW (And.intro e0 g1))
      repeat' first | (apply Sm.mk; refine YsWlW0 ?_) | refine WP.seq fun K hK => ?_ | (apply Ob.mk; exact Yo) | refine And.intro (Ob.out ?_) ?_ | refine Y1WlW ?_ | refine Yc (c := hct) (r := ?_) | refine YzWlW ?_ | (refine WP.cond rfl (fun hc => ?_) (fun hc => ?_) <;> (try simp only [ZC, reduceCtorEq, ZD] at hc) <;> (try exact absurd hc (by decide)) <;> (try (exfalso; omega))) | refine Rt.mk (And.intro (fun hg => Sm.out ?_) fun hg => Sm.out ?_) | (refine Nu.mk ?_; first | (fail_if_success have := nb1); intro nb1 | (fail_if_success have := nb2); intro nb2 | (fail_if_success have := nb3); intro nb3 | (fail_if_success have := nb4); intro nb4 | (fail_if_success have := nb5); intro nb5 | (fail_if_success have := nb6); intro nb6 | (fail_if_success have := nb7); intro nb7 | (fail_if_success have := nb8); intro nb8 | intro nbz) | (apply Yfr; refine Yf FR fun hFRb FR => ?_) | refine Two.mk ?_ ?_ | (apply Yxc; exact Yx) | refine Cs.mk fun hcs => Sm.out ?_ | go_step | omega | (simp only [maxLen_eq]; omega) | exact trivial
      exact ⟨⟨_, _, nb2, nb3⟩, ⟨⟨k', hS⟩, by simp; omega, by simp only; omega⟩, by simp only; omega, (Sub.pick (by simp [pickB, hget, hdel, FR.out, accA_snoc, accH_snoc]) (by simp [look, accA_snoc, accH_snoc]))⟩
  · obtain ⟨h1, h2⟩ := hI.stop hf
    have hct := open_no (bs.drop at_) (by simp; omega) hf
    cases l with
    | nil =>
      simp only [accA, accH]
      first | (have FRx := FR; clear FRx) | have FR := fr0S
      have FA := Sm.mk (And.intro TFWlW e0)
      repeat' first | (apply Sm.mk; refine YsWlW0 ?_) | refine WP.seq fun K hK => ?_ | (apply Ob.mk; exact Yo) | refine And.intro (Ob.out ?_) ?_ | refine Y1WlW ?_ | refine Yc (c := hct) (r := ?_) | refine YzWlW ?_ | (refine WP.cond rfl (fun hc => ?_) (fun hc => ?_) <;> (try simp only [ZC, reduceCtorEq, ZD] at hc) <;> (try exact absurd hc (by decide)) <;> (try (exfalso; omega))) | refine Rt.mk (And.intro (fun hg => Sm.out ?_) fun hg => Sm.out ?_) | (refine Nu.mk ?_; first | (fail_if_success have := nb1); intro nb1 | (fail_if_success have := nb2); intro nb2 | (fail_if_success have := nb3); intro nb3 | (fail_if_success have := nb4); intro nb4 | (fail_if_success have := nb5); intro nb5 | (fail_if_success have := nb6); intro nb6 | (fail_if_success have := nb7); intro nb7 | (fail_if_success have := nb8); intro nb8 | intro nbz) | (apply Yfr; refine Yf FR fun hFRb FR => ?_) | refine Two.mk ?_ ?_ | (apply Yxc; exact Yx) | refine Cs.mk fun hcs => Sm.out ?_ | go_step | omega | (simp only [maxLen_eq]; omega) | exact trivial
      rw [← h1, ← h2]
      (refine OutQ.drop _ _ (List.Perm.refl _) (by simp only [resv, ZK, look, loadv, loadn, loadnm, load1, load1m, hget, ↓reduceIte, Nat.reduceEqDiff, Nat.reduceAdd, Nat.reduceMul, Nat.reduceLeDiff, Nat.reduceLT, reduceCtorEq, TFWlW, FR.out, mV, mR]) ⟨⟨(0, 0), by simp, by simp⟩, (by simp only [resv, resA, ZK, look, loadv, loadn, loadnm, load1, load1m, hget, ↓reduceIte, Nat.reduceEqDiff, Nat.reduceAdd, Nat.reduceMul, Nat.reduceLeDiff, Nat.reduceLT, reduceCtorEq, TFWlW, FR.out, mV, mR]; first | done | rfl), rfl⟩)
    | cons x r =>
      rw [show accA (x :: r) b cap = ms b 0 (x :: r).length cap from rfl, show accH (x :: r) b cap = [(b, .cells (rowsA (x :: r)) cap 38)] from rfl]
      obtain ⟨l, hl⟩ : ∃ l, l = x :: r := ⟨_, rfl⟩
      rw [← hl] at h1 hc1 ⊢
      first | (have FRx := FR; clear FRx) | have FR := fr0S
      have FA := Sm.mk (And.intro TFWlW e0)
      repeat' first | (apply Sm.mk; refine YsWlW0 ?_) | refine WP.seq fun K hK => ?_ | (apply Ob.mk; exact Yo) | refine And.intro (Ob.out ?_) ?_ | refine Y1WlW ?_ | refine Yc (c := hct) (r := ?_) | refine YzWlW ?_ | (refine WP.cond rfl (fun hc => ?_) (fun hc => ?_) <;> (try simp only [ZC, reduceCtorEq, ZD] at hc) <;> (try exact absurd hc (by decide)) <;> (try (exfalso; omega))) | refine Rt.mk (And.intro (fun hg => Sm.out ?_) fun hg => Sm.out ?_) | (refine Nu.mk ?_; first | (fail_if_success have := nb1); intro nb1 | (fail_if_success have := nb2); intro nb2 | (fail_if_success have := nb3); intro nb3 | (fail_if_success have := nb4); intro nb4 | (fail_if_success have := nb5); intro nb5 | (fail_if_success have := nb6); intro nb6 | (fail_if_success have := nb7); intro nb7 | (fail_if_success have := nb8); intro nb8 | intro nbz) | (apply Yfr; refine Yf FR fun hFRb FR => ?_) | refine Two.mk ?_ ?_ | (apply Yxc; exact Yx) | refine Cs.mk fun hcs => Sm.out ?_ | go_step | omega | (simp only [maxLen_eq]; omega) | exact trivial
      subst hl
      rw [← h1, ← h2]
      (refine OutQ.drop _ _ (pmz _) (by simp only [resv, ZK, look, loadv, loadn, loadnm, load1, load1m, hget, ↓reduceIte, Nat.reduceEqDiff, Nat.reduceAdd, Nat.reduceMul, Nat.reduceLeDiff, Nat.reduceLT, reduceCtorEq, TFWlW, FR.out]) ⟨⟨(b, cap), hc1, hc2⟩, (by simp only [resv, resA, ZK, look, loadv, loadn, loadnm, load1, load1m, hget, ↓reduceIte, Nat.reduceEqDiff, Nat.reduceAdd, Nat.reduceMul, Nat.reduceLeDiff, Nat.reduceLT, reduceCtorEq, TFWlW, FR.out]; first | done | rfl), rfl⟩)
end Go.Proofs.YtpjnhcjfkgjbnaaDoor
