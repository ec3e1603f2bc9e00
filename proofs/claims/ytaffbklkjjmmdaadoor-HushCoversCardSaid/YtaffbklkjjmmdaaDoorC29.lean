/-
  The walks and the laws that the statement leans on, part 29.
-/
import Derived.Test.YtaffbklkjjmmdaaDoorC9
import Derived.Test.YtaffbklkjjmmdaaDoorC28
namespace Go.Proofs.YtaffbklkjjmmdaaDoor
open Go
set_option linter.unusedVariables false
set_option linter.unusedSimpArgs false
set_option linter.defProp false
def TFHuJ :=
  And.intro (And.intro (And.intro (And.intro (And.intro tyc0 (And.intro tyc2 zmb2)) (And.intro tyc3 (And.intro zmb3 tyc4))) (And.intro (And.intro zmb4 (And.intro tyc22 elt22)) (And.intro (And.intro mkz22 mkc22) (And.intro apT22 elk22)))) (And.intro (And.intro (And.intro zmb22 (And.intro tyc25 foff25_0)) (And.intro fpart25_0 (And.intro foff25_1 fpart25_1))) (And.intro (And.intro foff25_2 (And.intro fpart25_2 foff25_3)) (And.intro (And.intro fpart25_3 foff25_4) (And.intro fpart25_4 fe25))))) (And.intro (And.intro (And.intro (And.intro zmb25 (And.intro bldT25 tyc30)) (And.intro zmb30 (And.intro tyc32 foff32_0))) (And.intro (And.intro fpart32_0 (And.intro foff32_1 fpart32_1)) (And.intro (And.intro foff32_2 fpart32_2) (And.intro foff32_3 fpart32_3)))) (And.intro (And.intro (And.intro foff32_4 (And.intro fpart32_4 fe32)) (And.intro zmb32 (And.intro bldT32 Tryd.underlying0))) (And.intro (And.intro Tryd.underlying2 (And.intro Tryd.underlying3 Tryd.underlying4)) (And.intro (And.intro Tryd.underlying22 Tryd.underlying25) (And.intro Tryd.underlying30 Tryd.underlying32)))))
theorem Y1HuJ {G R : Prop} (r : R) (h : R → G := by intro r; first | (apply WP.region; exact rvc_sound _ _ (Sm.out r)) | exact WP.drawK rfl mixed (by decide +kernel) (Sm.out r) | (apply WP.block; exact r) | (apply WP.skip; exact Yq r) | (apply WP.exit; exact Yq r) | (apply WP.ret; exact Sm.out r) | exact WP.cond rfl (fun _ => r) (fun hg => absurd hg (by decide)) | exact WP.cond rfl (fun hg => absurd hg (by decide)) (fun _ => r) | exact Rt.mk (And.intro (fun _ => Sm.out r) fun hg => absurd hg (by decide)) | exact Rt.mk (And.intro (fun hg => absurd hg (by decide)) fun _ => Sm.out r)) : G := h r
theorem YzHuJ {G R : Prop} (r : R) (h : R → G := by intro r; first | (apply ExG.no; exact Sm.out r) | (apply Or.inl; apply ExG.no; exact Sm.out r) | exact Or.inl (And.intro (fun hg => absurd hg (by decide)) (ExG.no (Sm.out r)))) : G := h r
theorem YsHuJ0 {P Q : Prop} (q : Q) (h : P = Q := by (try (conv => lhs; simp -dsimp only [ZK, rvc, capA, appA, litL, mkfv, drawF, headN, pureH, stp, dvc, calleeOf, gcall, pev, eff, newB, okd, og, ogs, ogo, ogp, slv, bltv, opd, litv, strip, one, both, putE, St.put, look, gdOf, gdv, picka, pickv, pickw, binv, bini, bins, binb, binp, binq, isSlT, bina, shp, eqCells, unv, convv, nilv, faddv, addp, idxav, idxp, load1, load1m, loadn, loadnm, loadv, hget, hset, hrep, hdel, slicev, slice3v, bnd, shift1, lenv, capv, IntKind.bits, extractv, fieldv, indexv, min2v, max2v, mkiv, tasv, tasz, cellsA, fillA, buildv, stC, oneC, rowMB, intsA, plN, appE, appZ, appC, appS, srcB, appNZ, appNC, VwL, srcC, srcZ, srcM, isBoolT, isPtrT, isSliceT, uOk, Value.oneCell', Nat.reducePow, Int.reducePow, Nat.reduceAdd, Nat.reduceMul, Nat.reduceSub, Nat.reduceLT, Nat.reduceLeDiff, Nat.reduceEqDiff, Nat.reduceBEq, Nat.reduceDiv, Nat.reduceMod, ↓reduceIte, reduceCtorEq, Int.reduceToNat, Int.reduceLT, Int.reduceLE, TFHuJ, SeqQ, BlkQ, LoopQ, BodyQ, hin, FA.out, FR.out])) <;> exact rfl) : P := h.mpr q
abbrev fQu (b c : Nat) : AV := .lit (.func (.func 41) #[] #[.pointer (some ⟨b, 0, none⟩), .pointer (some ⟨c, 0, none⟩)])
abbrev qH (k : Ky) (now : Int) (b c n0 n1 : Nat) : Hp := [(0, .ro .u8 fsZ 256 n0), (1, .ro .u8 acZ 32 n1), (b, .cells [.lit (.string k.g), .lit (.string k.r), bv k.p, iv .u64 k.e, bv k.s] 5 25), (c, .cells [iv .i64 now] 1 2)]
abbrev Apart (b c : Nat) : Prop := (b ≠ c ∧ c ≠ b) ∧ (b ≠ 0 ∧ 0 ≠ b) ∧ (b ≠ 1 ∧ 1 ≠ b) ∧ (c ≠ 0 ∧ 0 ≠ c) ∧ (c ≠ 1 ∧ 1 ≠ c)
theorem qu1_ct (s : Sl) (k : Ky) (now : Int) (hz : Sz s) (hk : k.g.size ≤ 5000) (b c n0 n1 : Nat) (hne : Apart b c) : ACt Tryd.prog 41 [siv s, pt b 0, pt c 0] (qH k now b c n0 n1) (fun r F' => r = bv (cvB k now s) ∧ F' = qH k now b c n0 n1) := by
  have c1 := covers_ct s k now hz hk n0 n1
  unfold qH
  obtain ⟨a, ha⟩ : ∃ a, cvB k now s = a := ⟨_, rfl⟩
  rw [ha] at c1 ⊢
  clear ha hz
  obtain ⟨sn, sg, w, f, t⟩ := s
  obtain ⟨kg, kr, kp, ke, ks⟩ := k
  simp only at c1 ⊢
  obtain ⟨FZ, hFZ⟩ : ∃ FZ, FZ = fsZ := ⟨_, rfl⟩
  obtain ⟨AZ, hAZ⟩ : ∃ AZ, AZ = acZ := ⟨_, rfl⟩
  rw [← hFZ, ← hAZ] at c1 ⊢
  refine ACt.intro Tryd.func41 rfl (by kernel_rfl) (by simp [Tryd.ntmps41]) (fun cx => ?_)
  simp only [argE, Tryd.ntmps41, Tryd.results41]
  first | (have FRx := FR; clear FRx) | have FR := fr0S
  have FA := Sm.mk (And.intro TFHuJ hne)
  repeat' first | (apply Sm.mk; refine Ys ?_) | refine WP.seq fun K hK => ?_ | (apply Ob.mk; exact Yo) | refine And.intro (Ob.out ?_) ?_ | refine Y1HuJ ?_ | refine Yl2 (c := c1) (r := ?_) | refine YzHuJ ?_ | (refine WP.cond rfl (fun hc => ?_) (fun hc => ?_) <;> (try simp only [ZC, reduceCtorEq, ZD] at hc) <;> (try exact absurd hc (by decide)) <;> (try (exfalso; omega))) | refine Rt.mk (And.intro (fun hg => Sm.out ?_) fun hg => Sm.out ?_) | (refine Nu.mk ?_; first | (fail_if_success have := nb1); intro nb1 | (fail_if_success have := nb2); intro nb2 | (fail_if_success have := nb3); intro nb3 | (fail_if_success have := nb4); intro nb4 | (fail_if_success have := nb5); intro nb5 | (fail_if_success have := nb6); intro nb6 | intro nbz) | (apply Yfr; refine Yf FR fun hFRb FR => ?_) | refine Two.mk ?_ ?_ | (apply Yxc; exact Yx) | refine Cs.mk fun hcs => Sm.out ?_ | go_step | omega | (simp only [maxLen_eq]; omega) | exact trivial
  (refine OutQ.drop _ _ (perm4 (by simp only [hget, hdel, ↓reduceIte, if_true, if_false, FR.out, hne]; first | done | rfl) (by simp only [hget, hdel, ↓reduceIte, if_true, if_false, FR.out, hne]; first | done | rfl) (by simp only [hget, hdel, ↓reduceIte, if_true, if_false, FR.out, hne]; first | done | rfl) (by simp only [hget, hdel, ↓reduceIte, if_true, if_false, FR.out, hne]; first | done | rfl)) (by simp only [resv, ZK, look, loadv, loadn, loadnm, load1, load1m, hget, ↓reduceIte, Nat.reduceEqDiff, Nat.reduceAdd, Nat.reduceMul, Nat.reduceLeDiff, Nat.reduceLT, reduceCtorEq, TFHuJ, FR.out, hne]) ⟨(by simp only [resv, resA, ZK, look, loadv, loadn, loadnm, load1, load1m, hget, ↓reduceIte, Nat.reduceEqDiff, Nat.reduceAdd, Nat.reduceMul, Nat.reduceLeDiff, Nat.reduceLT, reduceCtorEq, TFHuJ, FR.out, hne]; first | done | rfl), rfl⟩)
theorem ixq_ct (l : List Sl) (k : Ky) (now : Int) (n : Nat) (hn : l.length = n) (hl : n ≤ 100000) (hz : ∀ e ∈ l, Sz e) (hk : k.g.size ≤ 5000) (b c n0 n1 : Nat) (hne : Apart b c) :
    ACt Tryd.prog 67 [.sl n (scs l), fQu b c] (qH k now b c n0 n1) (fun r F' => r = iv .i64 (ixF (cvB k now) l 0) ∧ F' = qH k now b c n0 n1) := by
  have hCl := scs_len l
  have hdr := scs_drop l
  have hix := fun (i : Nat) (h : i < l.length) => ixF_drop (cvB k now) l h
  have cT := fun (i : Nat) (h : i < l.length) => qu1_ct l[i] k now (hz _ (List.getElem_mem h)) hk b c n0 n1 hne
  rw [hn] at hCl
  obtain ⟨R, hR⟩ : ∃ R, R = ixF (cvB k now) l 0 := ⟨_, rfl⟩
  rw [← hR]
  obtain ⟨C, hC⟩ : ∃ C, C = scs l := ⟨_, rfl⟩
  rw [← hC] at hCl hdr ⊢
  unfold qH at cT ⊢
  unfold fQu
  obtain ⟨FZ, hFZ⟩ : ∃ FZ, FZ = fsZ := ⟨_, rfl⟩
  obtain ⟨AZ, hAZ⟩ : ∃ AZ, AZ = acZ := ⟨_, rfl⟩
  rw [← hFZ, ← hAZ] at cT ⊢
  obtain ⟨P, hP⟩ : ∃ P, P = cvB k now := ⟨_, rfl⟩
  rw [← hP] at cT hix hR
  obtain ⟨kg, kr, kp, ke, ks⟩ := k
  simp only at cT ⊢
  clear hz hk hC hFZ hAZ hP
  refine ACt.intro Tryd.func67 rfl (by kernel_rfl) (by simp [Tryd.ntmps67]) (fun cx => ?_)
  simp only [argE, Tryd.ntmps67, Tryd.results67]
  first | (have FRx := FR; clear FRx) | have FR := fr0S
  have FA := Sm.mk (And.intro TFHuJ hne)
  repeat' first | (apply Sm.mk; refine Ys ?_) | refine WP.seq fun K hK => ?_ | (apply Ob.mk; exact Yo) | refine And.intro (Ob.out ?_) ?_ | refine Y1HuJ ?_ | refine YzHuJ ?_ | (refine WP.cond rfl (fun hc => ?_) (fun hc => ?_) <;> (try simp only [ZC, reduceCtorEq, ZD] at hc) <;> (try exact absurd hc (by decide)) <;> (try (exfalso; omega))) | refine Rt.mk (And.intro (fun hg => Sm.out ?_) fun hg => Sm.out ?_) | (refine Nu.mk ?_; first | (fail_if_success have := nb1); intro nb1 | (fail_if_success have := nb2); intro nb2 | (fail_if_success have := nb3); intro nb3 | (fail_if_success have := nb4); intro nb4 | (fail_if_success have := nb5); intro nb5 | (fail_if_success have := nb6); intro nb6 | intro nbz) | (apply Yfr; refine Yf FR fun hFRb FR => ?_) | refine Two.mk ?_ ?_ | (apply Yxc; exact Yx) | refine Cs.mk fun hcs => Sm.out ?_ | go_step | omega | (simp only [maxLen_eq]; omega) | exact trivial
  refine WP.loop (Γ := Nat) (fun i => ⟨[(8, iv .i64 (i : Int)), (7, iv .i64 (n : Int)), (0, .sl n C), (1, .lit (.func (.func 41) #[] #[.pointer (some ⟨b, 0, none⟩), .pointer (some ⟨c, 0, none⟩)]))], [(0, .ro .u8 FZ 256 n0), (1, .ro .u8 AZ 32 n1), (b, .cells [.lit (.string kg), .lit (.string kr), bv kp, iv .u64 ke, bv ks] 5 25), (c, .cells [iv .i64 now] 1 2)]⟩) (fun i => i ≤ n ∧ R = ixF P (l.drop i) (i : Int)) (fun i => n - i) 0 ⟨Nat.zero_le _, by rw [List.drop_zero]; exact hR⟩ (Sub.pick (by simp [pickB, hget, hdel, FR.out, hne]) (by simp [look, hne])) ?_
  intro i ⟨hi, hr⟩
  have FR : Sm (¬ ((1 : Nat) = 0)) := Sm.mk Nat.one_ne_zero
  by_cases hin : i < n
  · have ki : decide ((i : Int) < (n : Int)) = true := decide_eq_true (by omega)
    have s1 : IntKind.i64.wrap ((i : Int) + 1) = ((i + 1 : Nat) : Int) := by rw [wrap_i64 (by omega) (by omega)]; omega
    have hd := hdr i (by omega)
    have hix := hix i (by omega)
    have cF := cT i (by omega)
    obtain ⟨v, hv⟩ : ∃ x, x = l[i]'(by omega) := ⟨_, rfl⟩
    rw [← hv] at hd hix cF
    have q1 : (i + 1) * 5 ≤ C.length := by omega
    obtain ⟨q, hq⟩ : ∃ q, P v = q := ⟨_, rfl⟩
    rw [hq] at cF hix
    rw [hix] at hr
    first | (have FRx := FR; clear FRx) | have FR := fr0S
    have FA := Sm.mk (And.intro TFHuJ (And.intro ki (And.intro hd (And.intro q1 (And.intro s1 hne)))))
    repeat' first | (apply Sm.mk; refine YsHuJ0 ?_) | refine WP.seq fun K hK => ?_ | (apply Ob.mk; exact Yo) | refine And.intro (Ob.out ?_) ?_ | refine Y1HuJ ?_ | (refine CallV.updM (cF) (perm4 (by simp only [hget, hdel, ↓reduceIte, hne, FR.out]; first | done | rfl) (by simp only [hget, hdel, ↓reduceIte, hne, FR.out]; first | done | rfl) (by simp only [hget, hdel, ↓reduceIte, hne, FR.out]; first | done | rfl) (by simp only [hget, hdel, ↓reduceIte, hne, FR.out]; first | done | rfl)) (Sm.out ?_)) | refine YzHuJ ?_ | (refine WP.cond rfl (fun hc => ?_) (fun hc => ?_) <;> (try simp only [ZC, reduceCtorEq, ZD] at hc) <;> (try exact absurd hc (by decide)) <;> (try (exfalso; omega))) | refine Rt.mk (And.intro (fun hg => Sm.out ?_) fun hg => Sm.out ?_) | (refine Nu.mk ?_; first | (fail_if_success have := nb1); intro nb1 | (fail_if_success have := nb2); intro nb2 | (fail_if_success have := nb3); intro nb3 | (fail_if_success have := nb4); intro nb4 | (fail_if_success have := nb5); intro nb5 | (fail_if_success have := nb6); intro nb6 | intro nbz) | (apply Yfr; refine Yf FR fun hFRb FR => ?_) | refine Two.mk ?_ ?_ | (apply Yxc; exact Yx) | refine Cs.mk fun hcs => Sm.out ?_ | go_step | omega | (simp only [maxLen_eq]; omega) | exact trivial
    · rw [if_pos hc] at hr
      (refine OutQ.drop _ _ (perm4 (by simp only [hget, hdel, ↓reduceIte, if_true, if_false, FR.out, hr, hne]; first | done | rfl) (by simp only [hget, hdel, ↓reduceIte, if_true, if_false, FR.out, hr, hne]; first | done | rfl) (by simp only [hget, hdel, ↓reduceIte, if_true, if_false, FR.out, hr, hne]; first | done | rfl) (by simp only [hget, hdel, ↓reduceIte, if_true, if_false, FR.out, hr, hne]; first | done | rfl)) (by simp only [resv, ZK, look, loadv, loadn, loadnm, load1, load1m, hget, ↓reduceIte, Nat.reduceEqDiff, Nat.reduceAdd, Nat.reduceMul, Nat.reduceLeDiff, Nat.reduceLT, reduceCtorEq, TFHuJ, FR.out, hr, hne]) ⟨(by simp only [resv, resA, ZK, look, loadv, loadn, loadnm, load1, load1m, hget, ↓reduceIte, Nat.reduceEqDiff, Nat.reduceAdd, Nat.reduceMul, Nat.reduceLeDiff, Nat.reduceLT, reduceCtorEq, TFHuJ, FR.out, hr, hne]; first | done | rfl), rfl⟩)
    · rw [if_neg (by rw [hc]; simp)] at hr
      exact ⟨i + 1, ⟨by omega, hr⟩, by omega, (Sub.pick (by simp [pickB, hget, hdel, FR.out, hne]) (by simp [look, hne]))⟩
  · have ki : decide ((i : Int) < (n : Int)) = false := decide_eq_false (by omega)
    rw [List.drop_eq_nil_of_le (by omega)] at hr
    have hr : R = -1 := hr
    first | (have FRx := FR; clear FRx) | have FR := fr0S
    have FA := Sm.mk (And.intro TFHuJ (And.intro ki hne))
    repeat' first | (apply Sm.mk; refine Ys ?_) | refine WP.seq fun K hK => ?_ | (apply Ob.mk; exact Yo) | refine And.intro (Ob.out ?_) ?_ | refine Y1HuJ ?_ | refine YzHuJ ?_ | (refine WP.cond rfl (fun hc => ?_) (fun hc => ?_) <;> (try simp only [ZC, reduceCtorEq, ZD] at hc) <;> (try exact absurd hc (by decide)) <;> (try (exfalso; omega))) | refine Rt.mk (And.intro (fun hg => Sm.out ?_) fun hg => Sm.out ?_) | (refine Nu.mk ?_; first | (fail_if_success have := nb1); intro nb1 | (fail_if_success have := nb2); intro nb2 | (fail_if_success have := nb3); intro nb3 | (fail_if_success have := nb4); intro nb4 | (fail_if_success have := nb5); intro nb5 | (fail_if_success have := nb6); intro nb6 | intro nbz) | (apply Yfr; refine Yf FR fun hFRb FR => ?_) | refine Two.mk ?_ ?_ | (apply Yxc; exact Yx) | refine Cs.mk fun hcs => Sm.out ?_ | go_step | omega | (simp only [maxLen_eq]; omega) | exact trivial
    (refine OutQ.drop _ _ (perm4 (by simp only [hget, hdel, ↓reduceIte, if_true, if_false, FR.out, hr, hne]; first | done | rfl) (by simp only [hget, hdel, ↓reduceIte, if_true, if_false, FR.out, hr, hne]; first | done | rfl) (by simp only [hget, hdel, ↓reduceIte, if_true, if_false, FR.out, hr, hne]; first | done | rfl) (by simp only [hget, hdel, ↓reduceIte, if_true, if_false, FR.out, hr, hne]; first | done | rfl)) (by simp only [resv, ZK, look, loadv, loadn, loadnm, load1, load1m, hget, ↓reduceIte, Nat.reduceEqDiff, Nat.reduceAdd, Nat.reduceMul, Nat.reduceLeDiff, Nat.reduceLT, reduceCtorEq, TFHuJ, FR.out, hr, hne]) ⟨(by simp only [resv, resA, ZK, look, loadv, loadn, loadnm, load1, load1m, hget, ↓reduceIte, Nat.reduceEqDiff, Nat.reduceAdd, Nat.reduceMul, Nat.reduceLeDiff, Nat.reduceLT, reduceCtorEq, TFHuJ, FR.out, hr, hne]; first | done | rfl), rfl⟩)
end Go.Proofs.YtaffbklkjjmmdaaDoor
