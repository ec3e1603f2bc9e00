/-
  The walks and the laws that the statement leans on, part 41.
-/
import Derived.Test.YtaffbklkjjmmdaaDoorC9
import Derived.Test.YtaffbklkjjmmdaaDoorC39
namespace Go.Proofs.YtaffbklkjjmmdaaDoor
open Go Wi
set_option linter.unusedVariables false
set_option linter.unusedSimpArgs false
set_option linter.defProp false
def TFHuVF :=
  And.intro (And.intro (And.intro (And.intro tyc0 tyc3) (And.intro zmb3 tyc23)) (And.intro (And.intro zmb23 tyc92) (And.intro zmb92 tyc125))) (And.intro (And.intro (And.intro zmb125 tyc134) (And.intro zmb134 Tryd.underlying0)) (And.intro (And.intro Tryd.underlying3 Tryd.underlying23) (And.intro Tryd.underlying92 (And.intro Tryd.underlying125 Tryd.underlying134))))
theorem Y1HuVF {G R : Prop} (r : R) (h : R → G := by intro r; first | (apply WP.region; exact rvc_sound _ _ (Sm.out r)) | exact WP.drawK rfl mixed (by decide +kernel) (Sm.out r) | (apply WP.block; exact r) | (apply WP.skip; exact Yq r) | (apply WP.exit; exact Yq r) | (apply WP.ret; exact Sm.out r) | exact WP.cond rfl (fun _ => r) (fun hg => absurd hg (by decide)) | exact WP.cond rfl (fun hg => absurd hg (by decide)) (fun _ => r) | exact Rt.mk (And.intro (fun _ => Sm.out r) fun hg => absurd hg (by decide)) | exact Rt.mk (And.intro (fun hg => absurd hg (by decide)) fun _ => Sm.out r)) : G := h r
theorem YzHuVF {G R : Prop} (r : R) (h : R → G := by intro r; first | (apply ExG.no; exact Sm.out r) | (apply Or.inl; apply ExG.no; exact Sm.out r) | exact Or.inl (And.intro (fun hg => absurd hg (by decide)) (ExG.no (Sm.out r)))) : G := h r
theorem YsHuVF0 {P Q : Prop} (q : Q) (h : P = Q := by (try (conv => lhs; simp -dsimp only [ZK, rvc, capA, appA, litL, mkfv, drawF, headN, pureH, stp, dvc, calleeOf, gcall, pev, eff, newB, okd, og, ogs, ogo, ogp, slv, bltv, opd, litv, strip, one, both, putE, St.put, look, gdOf, gdv, picka, pickv, pickw, binv, bini, bins, binb, binp, binq, isSlT, bina, shp, eqCells, unv, convv, nilv, faddv, addp, idxav, idxp, load1, load1m, loadn, loadnm, loadv, hget, hset, hrep, hdel, slicev, slice3v, bnd, shift1, lenv, capv, IntKind.bits, extractv, fieldv, indexv, min2v, max2v, mkiv, tasv, tasz, cellsA, fillA, buildv, stC, oneC, rowMB, intsA, plN, appE, appZ, appC, appS, srcB, appNZ, appNC, VwL, srcC, srcZ, srcM, isBoolT, isPtrT, isSliceT, uOk, Value.oneCell', Nat.reducePow, Int.reducePow, Nat.reduceAdd, Nat.reduceMul, Nat.reduceSub, Nat.reduceLT, Nat.reduceLeDiff, Nat.reduceEqDiff, Nat.reduceBEq, Nat.reduceDiv, Nat.reduceMod, ↓reduceIte, reduceCtorEq, Int.reduceToNat, Int.reduceLT, Int.reduceLE, TFHuVF, SeqQ, BlkQ, LoopQ, BodyQ, Int.toNat_natCast, Int.one_mul, FA.out, FR.out])) <;> exact rfl) : P := h.mpr q
def pw2 (m : Nat) : Nat := if m < 16 then 16 else if m < 32 then 32 else 64
theorem pw2_len : ∀ m : Nat, m < 41 → 8 ≤ m → 2 ^ lenN m = pw2 m ∧ lenN m ≤ 6 := by decide +kernel
theorem npw_ct (m : Nat) (h1 : 8 ≤ m) (h2 : m ≤ 40) : ACt Tryd.prog 100 [iv .i64 (m : Int)] [] (Fn (iv .u64 (pw2 m : Int))) := by
  obtain ⟨h3, h4⟩ := pw2_len m (by omega) h1
  have c := len_ct m (by omega)
  unfold nu at c
  obtain ⟨L, hL⟩ : ∃ L, lenN m = L := ⟨_, rfl⟩
  rw [hL] at c h3 h4
  have w1 : IntKind.u64.wrap (m : Int) = (m : Int) := wrap_u64 (by omega) (by omega)
  have hp : pw2 m ≤ 64 := by unfold pw2; repeat' split
                             all_goals omega
  obtain ⟨M, hM⟩ : ∃ M, pw2 m = M := ⟨_, rfl⟩
  rw [hM] at h3 hp ⊢
  have w2 : IntKind.u64.wrap (2 ^ (if L ≤ 64 then L else 64)) = (M : Int) := by
    rw [if_pos (by omega), show (2 : Int) ^ L = ((2 ^ L : Nat) : Int) by simp, h3]; exact wrap_u64 (by omega) (by omega)
  refine ACt.intro Tryd.func100 rfl (by kernel_rfl) (by simp [Tryd.ntmps100]) (fun cx => ?_)
  simp only [argE, Tryd.ntmps100, Tryd.results100]
  first | (have FRx := FR; clear FRx) | have FR := fr0S
  have FA := Sm.mk (And.intro TFHuVF (And.intro w1 w2))
  repeat' first | (apply Sm.mk; refine YsHuVF0 ?_) | refine WP.seq fun K hK => ?_ | (apply Ob.mk; exact Yo) | refine And.intro (Ob.out ?_) ?_ | refine Y1HuVF ?_ | refine Yc (c := c) (r := ?_) | refine YzHuVF ?_ | (refine WP.cond rfl (fun hc => ?_) (fun hc => ?_) <;> (try simp only [ZC, reduceCtorEq, ZD] at hc) <;> (try exact absurd hc (by decide)) <;> (try (exfalso; omega))) | refine Rt.mk (And.intro (fun hg => Sm.out ?_) fun hg => Sm.out ?_) | (refine Nu.mk ?_; first | (fail_if_success have := nb1); intro nb1 | (fail_if_success have := nb2); intro nb2 | (fail_if_success have := nb3); intro nb3 | (fail_if_success have := nb4); intro nb4 | intro nbz) | (apply Yfr; refine Yf FR fun hFRb FR => ?_) | refine Two.mk ?_ ?_ | (apply Yxc; exact Yx) | refine Cs.mk fun hcs => Sm.out ?_ | go_step | omega | (simp only [maxLen_eq]; omega) | exact trivial
  (refine Yg ?_; try exact trivial)
theorem wrap_u64_rg (z : Int) : 0 ≤ IntKind.u64.wrap z ∧ IntKind.u64.wrap z < 18446744073709551616 := by
  constructor
  · exact Int.emod_nonneg _ (by decide)
  · exact Int.emod_lt_of_pos _ (by decide)
theorem xor_rg (a b : Int) : 0 ≤ ibit .xor .u64 a b ∧ ibit .xor .u64 a b < 18446744073709551616 := wrap_u64_rg _
set_option maxHeartbeats 4000000 in
theorem next_ct (w : Nat) (z : Int) : ACt Tryd.prog 101 [pt w 0] [(w, .cells [iv .u64 z] 1 125)] (fun r F' => ∃ g : Int, (0 ≤ g ∧ g < 18446744073709551616) ∧ r = iv .u64 g ∧ F' = [(w, .cells [iv .u64 g] 1 125)]) := by
  have hx := fun a b => xor_rg a b
  refine ACt.intro Tryd.func101 rfl (by kernel_rfl) (by simp [Tryd.ntmps101]) (fun cx => ?_)
  simp only [argE, Tryd.ntmps101, Tryd.results101]
  first | (have FRx := FR; clear FRx) | have FR := fr0S
  have FA := Sm.mk (TFHuVF)
  repeat' first | (apply Sm.mk; refine Ys ?_) | refine WP.seq fun K hK => ?_ | (apply Ob.mk; exact Yo) | refine And.intro (Ob.out ?_) ?_ | refine Y1HuVF ?_ | refine YzHuVF ?_ | (refine WP.cond rfl (fun hc => ?_) (fun hc => ?_) <;> (try simp only [ZC, reduceCtorEq, ZD] at hc) <;> (try exact absurd hc (by decide)) <;> (try (exfalso; omega))) | refine Rt.mk (And.intro (fun hg => Sm.out ?_) fun hg => Sm.out ?_) | (refine Nu.mk ?_; first | (fail_if_success have := nb1); intro nb1 | (fail_if_success have := nb2); intro nb2 | (fail_if_success have := nb3); intro nb3 | (fail_if_success have := nb4); intro nb4 | intro nbz) | (apply Yfr; refine Yf FR fun hFRb FR => ?_) | refine Two.mk ?_ ?_ | (apply Yxc; exact Yx) | refine Cs.mk fun hcs => Sm.out ?_ | go_step | omega | (simp only [maxLen_eq]; omega) | exact trivial
  (refine OutQ.drop _ _ (perm1 (by simp only [hget, hdel, ↓reduceIte, if_true, if_false, FR.out]; first | done | rfl)) (by simp only [resv, ZK, look, loadv, loadn, loadnm, load1, load1m, hget, ↓reduceIte, Nat.reduceEqDiff, Nat.reduceAdd, Nat.reduceMul, Nat.reduceLeDiff, Nat.reduceLT, reduceCtorEq, TFHuVF, FR.out]) ⟨_, hx _ _, (by simp only [resv, resA, ZK, look, loadv, loadn, loadnm, load1, load1m, hget, ↓reduceIte, Nat.reduceEqDiff, Nat.reduceAdd, Nat.reduceMul, Nat.reduceLeDiff, Nat.reduceLT, reduceCtorEq, TFHuVF, FR.out]; first | done | rfl), rfl⟩)
end Go.Proofs.YtaffbklkjjmmdaaDoor
