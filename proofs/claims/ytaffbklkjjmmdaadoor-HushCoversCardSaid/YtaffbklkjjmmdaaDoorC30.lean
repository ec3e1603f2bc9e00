/-
  The walks and the laws that the statement leans on, part 30.
-/
import Derived.Test.YtaffbklkjjmmdaaDoorC8
import Derived.Test.YtaffbklkjjmmdaaDoorC9
import Derived.Test.YtaffbklkjjmmdaaDoorC29
namespace Go.Proofs.YtaffbklkjjmmdaaDoor
open Go
set_option linter.unusedVariables false
set_option linter.unusedSimpArgs false
set_option linter.defProp false
def TFHuK :=
  And.intro (And.intro (And.intro (And.intro (And.intro tyc0 (And.intro tyc2 zmb2)) (And.intro tyc3 (And.intro zmb3 tyc4))) (And.intro (And.intro zmb4 (And.intro tyc22 elt22)) (And.intro (And.intro mkz22 mkc22) (And.intro apT22 elk22)))) (And.intro (And.intro (And.intro zmb22 (And.intro tyc25 foff25_0)) (And.intro fpart25_0 (And.intro foff25_1 fpart25_1))) (And.intro (And.intro foff25_2 (And.intro fpart25_2 foff25_3)) (And.intro (And.intro fpart25_3 foff25_4) (And.intro fpart25_4 fe25))))) (And.intro (And.intro (And.intro (And.intro zmb25 (And.intro bldT25 tyc30)) (And.intro zmb30 (And.intro tyc32 foff32_0))) (And.intro (And.intro fpart32_0 (And.intro foff32_1 fpart32_1)) (And.intro (And.intro foff32_2 fpart32_2) (And.intro foff32_3 fpart32_3)))) (And.intro (And.intro (And.intro foff32_4 (And.intro fpart32_4 fe32)) (And.intro zmb32 (And.intro bldT32 Tryd.underlying0))) (And.intro (And.intro Tryd.underlying2 (And.intro Tryd.underlying3 Tryd.underlying4)) (And.intro (And.intro Tryd.underlying22 Tryd.underlying25) (And.intro Tryd.underlying30 Tryd.underlying32)))))
theorem Y1HuK {G R : Prop} (r : R) (h : R → G := by intro r; first | (apply WP.region; exact rvc_sound _ _ (Sm.out r)) | exact WP.drawK rfl mixed (by decide +kernel) (Sm.out r) | (apply WP.block; exact r) | (apply WP.skip; exact Yq r) | (apply WP.exit; exact Yq r) | (apply WP.ret; exact Sm.out r) | exact WP.cond rfl (fun _ => r) (fun hg => absurd hg (by decide)) | exact WP.cond rfl (fun hg => absurd hg (by decide)) (fun _ => r) | exact Rt.mk (And.intro (fun _ => Sm.out r) fun hg => absurd hg (by decide)) | exact Rt.mk (And.intro (fun hg => absurd hg (by decide)) fun _ => Sm.out r)) : G := h r
theorem YzHuK {G R : Prop} (r : R) (h : R → G := by intro r; first | (apply ExG.no; exact Sm.out r) | (apply Or.inl; apply ExG.no; exact Sm.out r) | exact Or.inl (And.intro (fun hg => absurd hg (by decide)) (ExG.no (Sm.out r)))) : G := h r
theorem YsHuK0 {P Q : Prop} (q : Q) (h : P = Q := by (try (conv => lhs; simp -dsimp only [ZK, rvc, capA, appA, litL, mkfv, drawF, headN, pureH, stp, dvc, calleeOf, gcall, pev, eff, newB, okd, og, ogs, ogo, ogp, slv, bltv, opd, litv, strip, one, both, putE, St.put, look, gdOf, gdv, picka, pickv, pickw, binv, bini, bins, binb, binp, binq, isSlT, bina, shp, eqCells, unv, convv, nilv, faddv, addp, idxav, idxp, load1, load1m, loadn, loadnm, loadv, hget, hset, hrep, hdel, slicev, slice3v, bnd, shift1, lenv, capv, IntKind.bits, extractv, fieldv, indexv, min2v, max2v, mkiv, tasv, tasz, cellsA, fillA, buildv, stC, oneC, rowMB, intsA, plN, appE, appZ, appC, appS, srcB, appNZ, appNC, VwL, srcC, srcZ, srcM, isBoolT, isPtrT, isSliceT, uOk, Value.oneCell', Nat.reducePow, Int.reducePow, Nat.reduceAdd, Nat.reduceMul, Nat.reduceSub, Nat.reduceLT, Nat.reduceLeDiff, Nat.reduceEqDiff, Nat.reduceBEq, Nat.reduceDiv, Nat.reduceMod, ↓reduceIte, reduceCtorEq, Int.reduceToNat, Int.reduceLT, Int.reduceLE, TFHuK, SeqQ, BlkQ, LoopQ, BodyQ, hin, FA.out, FR.out])) <;> exact rfl) : P := h.mpr q
noncomputable def qtB (l : List Sl) (k : Ky) (now : Int) : Bool := l.any (cvB k now)
theorem qt_ix (l : List Sl) (k : Ky) (now : Int) : decide (ixF (cvB k now) l 0 ≥ 0) = qtB l k now := by
  unfold qtB
  rcases ixF_spec (cvB k now) l 0 with ⟨h, -, h2⟩ | ⟨q, hq, h, -, -, h2⟩
  · rw [show ((0 : Nat) : Int) = 0 from rfl] at h
    rw [h, h2]; rfl
  · rw [show ((0 : Nat) : Int) = 0 from rfl] at h
    rw [h, h2]; exact decide_eq_true (by omega)
theorem cont_ct (l : List Sl) (k : Ky) (now : Int) (n : Nat) (hn : l.length = n) (hl : n ≤ 100000) (hz : ∀ e ∈ l, Sz e) (hk : k.g.size ≤ 5000) (b c n0 n1 : Nat) (hne : Apart b c) :
    ACt Tryd.prog 40 [.sl n (scs l), fQu b c] (qH k now b c n0 n1) (fun r F' => r = bv (qtB l k now) ∧ F' = qH k now b c n0 n1) := by
  have cI := ixq_ct l k now n hn hl hz hk b c n0 n1 hne
  have hq0 := qt_ix l k now
  obtain ⟨R, hR⟩ : ∃ R, ixF (cvB k now) l 0 = R := ⟨_, rfl⟩
  rw [hR] at cI hq0
  obtain ⟨q, hq⟩ : ∃ q, qtB l k now = q := ⟨_, rfl⟩
  rw [hq] at hq0 ⊢
  obtain ⟨C, hC⟩ : ∃ C, C = scs l := ⟨_, rfl⟩
  rw [← hC] at cI ⊢
  unfold qH fQu at cI
  unfold qH fQu
  obtain ⟨FZ, hFZ⟩ : ∃ FZ, FZ = fsZ := ⟨_, rfl⟩
  obtain ⟨AZ, hAZ⟩ : ∃ AZ, AZ = acZ := ⟨_, rfl⟩
  rw [← hFZ, ← hAZ] at cI ⊢
  obtain ⟨kg, kr, kp, ke, ks⟩ := k
  simp only at cI ⊢
  refine ACt.intro Tryd.func40 rfl (by kernel_rfl) (by simp [Tryd.ntmps40]) (fun cx => ?_)
  simp only [argE, Tryd.ntmps40, Tryd.results40]
  first | (have FRx := FR; clear FRx) | have FR := fr0S
  have FA := Sm.mk (And.intro TFHuK (And.intro hq0 hne))
  repeat' first | (apply Sm.mk; refine Ys ?_) | refine WP.seq fun K hK => ?_ | (apply Ob.mk; exact Yo) | refine And.intro (Ob.out ?_) ?_ | refine Y1HuK ?_ | (refine CallV.updM (cI) (perm4 (by simp only [hget, hdel, ↓reduceIte, hne, FR.out]; first | done | rfl) (by simp only [hget, hdel, ↓reduceIte, hne, FR.out]; first | done | rfl) (by simp only [hget, hdel, ↓reduceIte, hne, FR.out]; first | done | rfl) (by simp only [hget, hdel, ↓reduceIte, hne, FR.out]; first | done | rfl)) (Sm.out ?_)) | refine YzHuK ?_ | (refine WP.cond rfl (fun hc => ?_) (fun hc => ?_) <;> (try simp only [ZC, reduceCtorEq, ZD] at hc) <;> (try exact absurd hc (by decide)) <;> (try (exfalso; omega))) | refine Rt.mk (And.intro (fun hg => Sm.out ?_) fun hg => Sm.out ?_) | (refine Nu.mk ?_; first | (fail_if_success have := nb1); intro nb1 | (fail_if_success have := nb2); intro nb2 | (fail_if_success have := nb3); intro nb3 | (fail_if_success have := nb4); intro nb4 | (fail_if_success have := nb5); intro nb5 | (fail_if_success have := nb6); intro nb6 | intro nbz) | (apply Yfr; refine Yf FR fun hFRb FR => ?_) | refine Two.mk ?_ ?_ | (apply Yxc; exact Yx) | refine Cs.mk fun hcs => Sm.out ?_ | go_step | omega | (simp only [maxLen_eq]; omega) | exact trivial
  (refine OutQ.drop _ _ (perm4 (by simp only [hget, hdel, ↓reduceIte, if_true, if_false, FR.out, hne]; first | done | rfl) (by simp only [hget, hdel, ↓reduceIte, if_true, if_false, FR.out, hne]; first | done | rfl) (by simp only [hget, hdel, ↓reduceIte, if_true, if_false, FR.out, hne]; first | done | rfl) (by simp only [hget, hdel, ↓reduceIte, if_true, if_false, FR.out, hne]; first | done | rfl)) (by simp only [resv, ZK, look, loadv, loadn, loadnm, load1, load1m, hget, ↓reduceIte, Nat.reduceEqDiff, Nat.reduceAdd, Nat.reduceMul, Nat.reduceLeDiff, Nat.reduceLT, reduceCtorEq, TFHuK, FR.out, hne]) ⟨(by simp only [resv, resA, ZK, look, loadv, loadn, loadnm, load1, load1m, hget, ↓reduceIte, Nat.reduceEqDiff, Nat.reduceAdd, Nat.reduceMul, Nat.reduceLeDiff, Nat.reduceLT, reduceCtorEq, TFHuK, FR.out, hne]; first | done | rfl), rfl⟩)
theorem quiet_ct (l : List Sl) (k : Ky) (now : Int) (n : Nat) (hn : l.length = n) (hl : n ≤ 100000) (hz : ∀ e ∈ l, Sz e) (hk : k.g.size ≤ 5000) (n0 n1 : Nat) :
    ACt Tryd.prog 14 [.sl n (scs l), kv k, iv .i64 now] [(0, .ro .u8 fsZ 256 n0), (1, .ro .u8 acZ 32 n1)] (fun r F' => r = bv (qtB l k now) ∧ F' = [(0, .ro .u8 fsZ 256 n0), (1, .ro .u8 acZ 32 n1)]) := by
  have cI := cont_ct l k now n hn hl hz hk
  obtain ⟨q, hq⟩ : ∃ q, qtB l k now = q := ⟨_, rfl⟩
  rw [hq] at cI ⊢
  obtain ⟨C, hC⟩ : ∃ C, C = scs l := ⟨_, rfl⟩
  rw [← hC] at cI ⊢
  unfold qH fQu at cI
  obtain ⟨FZ, hFZ⟩ : ∃ FZ, FZ = fsZ := ⟨_, rfl⟩
  obtain ⟨AZ, hAZ⟩ : ∃ AZ, AZ = acZ := ⟨_, rfl⟩
  rw [← hFZ, ← hAZ] at cI ⊢
  obtain ⟨kg, kr, kp, ke, ks⟩ := k
  simp only at cI ⊢
  clear hz
  refine ACt.intro Tryd.func14 rfl (by kernel_rfl) (by simp [Tryd.ntmps14]) (fun cx => ?_)
  simp only [argE, Tryd.ntmps14, Tryd.results14]
  first | (have FRx := FR; clear FRx) | have FR := fr0S
  have FA := Sm.mk (TFHuK)
  repeat' first | (apply Sm.mk; refine Ys ?_) | refine WP.seq fun K hK => ?_ | (apply Ob.mk; exact Yo) | refine And.intro (Ob.out ?_) ?_ | ((fail_if_success (show WP _ _ _ (.region 1 _ _) _ _)); refine Y1HuK ?_) | refine YzHuK ?_ | (refine WP.cond rfl (fun hc => ?_) (fun hc => ?_) <;> (try simp only [ZC, reduceCtorEq, ZD] at hc) <;> (try exact absurd hc (by decide)) <;> (try (exfalso; omega))) | refine Rt.mk (And.intro (fun hg => Sm.out ?_) fun hg => Sm.out ?_) | (refine Nu.mk ?_; first | (fail_if_success have := nb1); intro nb1 | (fail_if_success have := nb2); intro nb2 | (fail_if_success have := nb3); intro nb3 | (fail_if_success have := nb4); intro nb4 | (fail_if_success have := nb5); intro nb5 | (fail_if_success have := nb6); intro nb6 | intro nbz) | (apply Yfr; refine Yf FR fun hFRb FR => ?_) | refine Two.mk ?_ ?_ | (apply Yxc; exact Yx) | refine Cs.mk fun hcs => Sm.out ?_ | go_step | omega | (simp only [maxLen_eq]; omega) | exact trivial
  have cJ := cI nb1 nb2 n0 n1 (by simp [Apart, FR.out])
  first | (have FRx := FR; clear FRx) | have FR := fr0S
  have FA := Sm.mk (TFHuK)
  repeat' first | (apply Sm.mk; refine Ys ?_) | refine WP.seq fun K hK => ?_ | (apply Ob.mk; exact Yo) | refine And.intro (Ob.out ?_) ?_ | refine Y1HuK ?_ | (refine CallV.updM (cJ) (perm4 (by simp only [hget, hdel, ↓reduceIte, FR.out]; first | done | rfl) (by simp only [hget, hdel, ↓reduceIte, FR.out]; first | done | rfl) (by simp only [hget, hdel, ↓reduceIte, FR.out]; first | done | rfl) (by simp only [hget, hdel, ↓reduceIte, FR.out]; first | done | rfl)) (Sm.out ?_)) | refine YzHuK ?_ | (refine WP.cond rfl (fun hc => ?_) (fun hc => ?_) <;> (try simp only [ZC, reduceCtorEq, ZD] at hc) <;> (try exact absurd hc (by decide)) <;> (try (exfalso; omega))) | refine Rt.mk (And.intro (fun hg => Sm.out ?_) fun hg => Sm.out ?_) | (refine Nu.mk ?_; first | (fail_if_success have := nb1); intro nb1 | (fail_if_success have := nb2); intro nb2 | (fail_if_success have := nb3); intro nb3 | (fail_if_success have := nb4); intro nb4 | (fail_if_success have := nb5); intro nb5 | (fail_if_success have := nb6); intro nb6 | intro nbz) | (apply Yfr; refine Yf FR fun hFRb FR => ?_) | refine Two.mk ?_ ?_ | (apply Yxc; exact Yx) | refine Cs.mk fun hcs => Sm.out ?_ | go_step | omega | (simp only [maxLen_eq]; omega) | exact trivial
  (refine OutQ.drop _ _ (perm2 (by simp only [hget, hdel, ↓reduceIte, if_true, if_false, FR.out]; first | done | rfl) (by simp only [hget, hdel, ↓reduceIte, if_true, if_false, FR.out]; first | done | rfl)) (by simp only [resv, ZK, look, loadv, loadn, loadnm, load1, load1m, hget, ↓reduceIte, Nat.reduceEqDiff, Nat.reduceAdd, Nat.reduceMul, Nat.reduceLeDiff, Nat.reduceLT, reduceCtorEq, TFHuK, FR.out]) ⟨(by simp only [resv, resA, ZK, look, loadv, loadn, loadnm, load1, load1m, hget, ↓reduceIte, Nat.reduceEqDiff, Nat.reduceAdd, Nat.reduceMul, Nat.reduceLeDiff, Nat.reduceLT, reduceCtorEq, TFHuK, FR.out]; first | done | rfl), rfl⟩)
theorem rquiet_ct (l : List Sl) (k : Ky) (now : Int) (n : Nat) (hn : l.length = n) (hl : n ≤ 100000) (hz : ∀ e ∈ l, Sz e) (hk : k.g.size ≤ 5000) :
    ACt Tryd.prog 15 [.sl n (scs l), kv k, iv .i64 now] [] (Fn (bv (qtB l k now))) := by
  have hCl := scs_len l
  have hdr := scs_drop l
  have cT := fun (i : Nat) (h : i < l.length) => rcovers_ct l[i] k now (hz _ (List.getElem_mem h)) hk
  have hst := fun (i : Nat) (h : i < l.length) => congrArg (fun z => z.any (cvB k now)) (List.drop_eq_getElem_cons h)
  simp only [List.any_cons] at hst
  rw [hn] at hCl
  unfold qtB
  obtain ⟨P, hP⟩ : ∃ P, P = cvB k now := ⟨_, rfl⟩
  rw [← hP] at cT hst ⊢
  obtain ⟨R, hR⟩ : ∃ R, R = l.any P := ⟨_, rfl⟩
  rw [← hR]
  obtain ⟨C, hC⟩ : ∃ C, C = scs l := ⟨_, rfl⟩
  rw [← hC] at hCl hdr ⊢
  obtain ⟨kg, kr, kp, ke, ks⟩ := k
  try simp only at cT ⊢
  clear hz hk hC hP
  refine ACt.intro Tryd.func15 rfl (by kernel_rfl) (by simp [Tryd.ntmps15]) (fun cx => ?_)
  simp only [argE, Tryd.ntmps15, Tryd.results15]
  first | (have FRx := FR; clear FRx) | have FR := fr0S
  have FA := Sm.mk (TFHuK)
  repeat' first | (apply Sm.mk; refine Ys ?_) | refine WP.seq fun K hK => ?_ | (apply Ob.mk; exact Yo) | refine And.intro (Ob.out ?_) ?_ | refine Y1HuK ?_ | refine YzHuK ?_ | (refine WP.cond rfl (fun hc => ?_) (fun hc => ?_) <;> (try simp only [ZC, reduceCtorEq, ZD] at hc) <;> (try exact absurd hc (by decide)) <;> (try (exfalso; omega))) | refine Rt.mk (And.intro (fun hg => Sm.out ?_) fun hg => Sm.out ?_) | (refine Nu.mk ?_; first | (fail_if_success have := nb1); intro nb1 | (fail_if_success have := nb2); intro nb2 | (fail_if_success have := nb3); intro nb3 | (fail_if_success have := nb4); intro nb4 | (fail_if_success have := nb5); intro nb5 | (fail_if_success have := nb6); intro nb6 | intro nbz) | (apply Yfr; refine Yf FR fun hFRb FR => ?_) | refine Two.mk ?_ ?_ | (apply Yxc; exact Yx) | refine Cs.mk fun hcs => Sm.out ?_ | go_step | omega | (simp only [maxLen_eq]; omega) | exact trivial
  refine WP.loop (Γ := Nat) (fun i => ⟨[(7, iv .i64 (i : Int)), (0, .sl n C), (4, pt nb1 0), (2, iv .i64 now)], [(nb1, .cells [.lit (.string kg), .lit (.string kr), bv kp, iv .u64 ke, bv ks] 5 25)]⟩) (fun i => i ≤ n ∧ R = (l.drop i).any P) (fun i => n - i) 0 ⟨Nat.zero_le _, by rw [List.drop_zero]; exact hR⟩ (Sub.pick (by simp [pickB, hget, hdel, FR.out]) (by simp [look])) ?_
  intro i ⟨hi, hr⟩
  have FR : Sm (¬ ((1 : Nat) = 0)) := Sm.mk Nat.one_ne_zero
  by_cases hin : i < n
  · have ki : decide ((i : Int) < (n : Int)) = true := decide_eq_true (by omega)
    have s1 : IntKind.i64.wrap ((i : Int) + 1) = ((i + 1 : Nat) : Int) := by rw [wrap_i64 (by omega) (by omega)]; omega
    have hd := hdr i (by omega)
    have cF := cT i (by omega)
    rw [hst i (by omega)] at hr
    obtain ⟨v, hv⟩ : ∃ x, x = l[i]'(by omega) := ⟨_, rfl⟩
    rw [← hv] at hd hr cF
    have q1 : (i + 1) * 5 ≤ C.length := by omega
    obtain ⟨q, hq⟩ : ∃ q, P v = q := ⟨_, rfl⟩
    rw [hq] at cF hr
    first | (have FRx := FR; clear FRx) | have FR := fr0S
    have FA := Sm.mk (And.intro TFHuK (And.intro ki (And.intro hd (And.intro q1 s1))))
    repeat' first | (apply Sm.mk; refine YsHuK0 ?_) | refine WP.seq fun K hK => ?_ | (apply Ob.mk; exact Yo) | refine And.intro (Ob.out ?_) ?_ | refine Y1HuK ?_ | refine Yc (c := cF) (r := ?_) | refine YzHuK ?_ | (refine WP.cond rfl (fun hc => ?_) (fun hc => ?_) <;> (try simp only [ZC, reduceCtorEq, ZD] at hc) <;> (try exact absurd hc (by decide)) <;> (try (exfalso; omega))) | refine Rt.mk (And.intro (fun hg => Sm.out ?_) fun hg => Sm.out ?_) | (refine Nu.mk ?_; first | (fail_if_success have := nb1); intro nb1 | (fail_if_success have := nb2); intro nb2 | (fail_if_success have := nb3); intro nb3 | (fail_if_success have := nb4); intro nb4 | (fail_if_success have := nb5); intro nb5 | (fail_if_success have := nb6); intro nb6 | intro nbz) | (apply Yfr; refine Yf FR fun hFRb FR => ?_) | refine Two.mk ?_ ?_ | (apply Yxc; exact Yx) | refine Cs.mk fun hcs => Sm.out ?_ | go_step | omega | (simp only [maxLen_eq]; omega) | exact trivial
    · rw [hc, Bool.true_or] at hr
      (have FA := Sm.mk (And.intro hr FA.out); refine Yg ?_; try exact trivial)
    · rw [hc, Bool.false_or] at hr
      exact ⟨i + 1, ⟨by omega, hr⟩, by omega, (Sub.pick (by simp [pickB, hget, hdel, FR.out]) (by simp [look]))⟩
  · have ki : decide ((i : Int) < (n : Int)) = false := decide_eq_false (by omega)
    rw [List.drop_eq_nil_of_le (by omega)] at hr
    have hr : R = false := hr
    first | (have FRx := FR; clear FRx) | have FR := fr0S
    have FA := Sm.mk (And.intro TFHuK ki)
    repeat' first | (apply Sm.mk; refine Ys ?_) | refine WP.seq fun K hK => ?_ | (apply Ob.mk; exact Yo) | refine And.intro (Ob.out ?_) ?_ | refine Y1HuK ?_ | refine YzHuK ?_ | (refine WP.cond rfl (fun hc => ?_) (fun hc => ?_) <;> (try simp only [ZC, reduceCtorEq, ZD] at hc) <;> (try exact absurd hc (by decide)) <;> (try (exfalso; omega))) | refine Rt.mk (And.intro (fun hg => Sm.out ?_) fun hg => Sm.out ?_) | (refine Nu.mk ?_; first | (fail_if_success have := nb1); intro nb1 | (fail_if_success have := nb2); intro nb2 | (fail_if_success have := nb3); intro nb3 | (fail_if_success have := nb4); intro nb4 | (fail_if_success have := nb5); intro nb5 | (fail_if_success have := nb6); intro nb6 | intro nbz) | (apply Yfr; refine Yf FR fun hFRb FR => ?_) | refine Two.mk ?_ ?_ | (apply Yxc; exact Yx) | refine Cs.mk fun hcs => Sm.out ?_ | go_step | omega | (simp only [maxLen_eq]; omega) | exact trivial
    (have FA := Sm.mk (And.intro hr FA.out); refine Yg ?_; try exact trivial)
end Go.Proofs.YtaffbklkjjmmdaaDoor
namespace Go.Proofs.YtaffbklkjjmmdaaDoor
open Go
set_option linter.unusedVariables false
set_option linter.unusedSimpArgs false
section
variable {P : Program} {cx : Cx} {n : Nat} {ops : Array Oper} {H : Hp}
def dvm (P : Program) (n : Nat) (ops : Array Oper) (rs : List Nat) (m : Nat × MB) (H : Hp) : Nat → List Oper → (List (Nat × AV) → Prop) → List (Nat × AV) → Prop
  | _, [], K, env => K env
  | i, o :: rest, K, env =>
    if i ∈ rs then okd n o.dst ∧ xst P ops (m :: H) o env fun x => dvm P n ops rs m H (i + 1) rest K (putE env o.dst x)
    else okd n o.dst ∧ xst P ops H o env fun x => dvm P n ops rs m H (i + 1) rest K (putE env o.dst x)
def CM (P : Program) (cx : Cx) (n : Nat) (ops : Array Oper) (rs : List Nat) (m : Nat × MB) (H : Hp) (i0 i : Nat) (o : Oper) (x : AV) (env : List (Nat × AV)) : Prop :=
  (i0 + i ∈ rs → Stdy P cx n ops o env (m :: H) x) ∧ (i0 + i ∉ rs → StdyE P cx n ops o env H x)
theorem dvm_seq {rs : List Nat} {m : Nat × MB} {K : List (Nat × AV) → Prop} : ∀ (l : List Oper) (i0 : Nat) (env : List (Nat × AV)), dvm P n ops rs m H i0 l K env →
    ∃ xs : List AV, xs.length = l.length ∧ SeqG (CM P cx n ops rs m H i0) (l.zip xs) env ∧ K (envL (fun _ => true) (l.zip xs) 0 env)
  | [], i0, env, h => ⟨[], rfl, fun i o x hi => by simp at hi, h⟩
  | o :: rest, i0, env, h => by
    unfold dvm at h
    have shift : ∀ (x : AV) (xs : List AV), SeqG (CM P cx n ops rs m H (i0 + 1)) (rest.zip xs) (putE env o.dst x) → CM P cx n ops rs m H i0 0 o x env → SeqG (CM P cx n ops rs m H i0) ((o :: rest).zip (x :: xs)) env := by
      intro x xs h1 h0
      rw [List.zip_cons_cons]
      refine SeqG.cons h0 fun i o' x' hi => ?_
      have h2 := h1 i o' x' hi
      have e : i0 + (i + 1) = i0 + 1 + i := by omega
      show CM P cx n ops rs m H i0 (i + 1) o' x' _
      unfold CM at h2 ⊢
      rw [e]
      exact h2
    have fin : ∀ (x : AV) (xs : List AV), K (envL (fun _ => true) (rest.zip xs) 0 (putE env o.dst x)) → K (envL (fun _ => true) ((o :: rest).zip (x :: xs)) 0 env) := by
      intro x xs hk
      rw [List.zip_cons_cons]
      simp only [envL, if_true]
      rw [show (0 + 1 : Nat) = 1 + 0 from rfl, envL_shiftk 1]
      exact hk
    split at h
    · rename_i hm
      obtain ⟨hd, h⟩ := h
      obtain ⟨x, hS, _, h⟩ := xst_stdy (cx := cx) hd h
      obtain ⟨xs, x1, x2, x3⟩ := dvm_seq rest (i0 + 1) _ h
      exact ⟨x :: xs, by simp [x1], shift _ _ x2 ⟨fun _ => hS, fun hn => absurd hm hn⟩, fin _ _ x3⟩
    · rename_i hm
      obtain ⟨hd, h⟩ := h
      obtain ⟨x, _, hSE, h⟩ := xst_stdy (cx := cx) hd h
      obtain ⟨xs, x1, x2, x3⟩ := dvm_seq rest (i0 + 1) _ h
      exact ⟨x :: xs, by simp [x1], shift _ _ x2 ⟨fun hn => absurd hn hm, fun _ => hSE⟩, fin _ _ x3⟩
def SeqS3 (P : Program) (cx : Cx) (n : Nat) (ops : Array Oper) (rs : List Nat) (H : Hp) (lx : List (Oper × AV)) (env : List (Nat × AV)) (q : QB) : Prop :=
  SeqG (fun i o x env => if i = q.is then o.guard = none ∧ x = .any ∧ o.dst = none ∧ ∃ T a y, o.op = .store T a y ∧ (og env a).1 ∧ (og env a).2 = pt q.b q.off ∧ (og env y).1 ∧
      (stC P T q.m0 q.off (og env y).2).1 ∧ (stC P T q.m0 q.off (og env y).2).2 = q.m1
    else CM P cx n ops rs (q.b, q.m0) H 0 i o x env) lx env
theorem dinvS3_step {lx : List (Oper × AV)} {env : List (Nat × AV)} {q : QB} {rs : List Nat} {listed : Array Bool} {a : Act} {w : World} {i : Nat} (hD : DrawOk ops lx.length) (hlx : ∀ (j : Nat) o x, lx[j]? = some (o, x) → ops[j]? = some o)
    (hrs : ∀ j ∈ rs, reach ops 12 q.is j = true) (hS : SeqS3 P cx n ops rs H lx env q) (hfr : fresh H q.b)
    (inv : DInvS cx n ops lx env H q listed a w) (hi : i ∈ Region.ready .any ops listed) (hik : i < lx.length) {R : Exit → Act → World → Prop} {X : Act → World → Prop}
    (hX : ∀ a' w', DInvS cx n ops lx env H q (listed.setIfInBounds i true) a' w' → X a' w') : wpOp P ops R i X a w := by
  obtain ⟨⟨o, x⟩, hp⟩ : ∃ p, lx[i] = p := ⟨_, rfl⟩
  have hli : lx[i]? = some (o, x) := by rw [List.getElem?_eq_getElem hik, hp]
  have hoi := hlx i o x hli
  have hSi := hS i o x hli
  have hilt : i < ops.size := (Array.getElem?_eq_some_iff.1 hoi).1
  have hset : ∀ j, (listed.setIfInBounds i true).getD j false = if j = i then true else listed.getD j false := by
    intro j
    by_cases hji : j = i
    · subst hji
      have : j < listed.size := by rw [inv.lsize]; exact hilt
      simp [this]
    · rw [if_neg hji, getD_set_ne false (Ne.symm hji)]
  have hls : (listed.setIfInBounds i true).size = ops.size := by simp [inv.lsize]
  have hinv := inv.inv
  by_cases his : i = q.is
  · try dsimp only at hSi
    rw [if_pos his] at hSi
    obtain ⟨hg, rfl, hdn, T, ad, y, hop, ha1, ha2, hy1, hy2, hy3⟩ := hSi
    have hun : listed.getD q.is false = false := by
      have := (mem_ready.1 hi).1
      rw [getD_bool (by rw [inv.lsize]; exact hilt), his] at this
      exact this
    rw [hun] at hinv
    simp only [Bool.false_eq_true, if_false] at hinv
    have hlook := dinv_look hD hlx hinv hi hli
    have hoeq : ∀ z ∈ o.op.operands, og (envL (fun j => listed.getD j false) lx 0 env) z = og (envL (fun j => decide (j < i)) lx 0 env) z := by
      intro z hz
      refine og_congr (opd_congr fun t ht => ?_)
      subst ht
      exact hlook t (by unfold Oper.looksAt; exact List.mem_append_left _ (List.mem_filterMap.2 ⟨Operand.tmp t, by simpa using hz, rfl⟩))
    have ea := hoeq ad (by rw [hop]; simp [Op.operands])
    have ey := hoeq y (by rw [hop]; simp [Op.operands])
    have hrep := hinv.ok.og (x := y) (by simp only; rw [ey]; exact hy1)
    simp only [ey] at hrep
    have hra := hinv.ok.og (x := ad) (by simp only; rw [ea]; exact ha1)
    simp only [ea, ha2] at hra
    have he := hra.lit_inv
    obtain ⟨w', r1, r2, r3⟩ := run_store_of (P := P) (H := (q.b, q.m0) :: H) hinv.ok.world (b := q.b) (off := q.off) (m := q.m0) (by simp [hget]) hrep hy2
    rw [hy3] at r2 r3
    simp only [hset, Proofs.YtaffbklkjjmmdaaDoor.hset, if_true] at r2 r3
    have hrun : (execOp a.eval o).run P w = .ok .skip w' := by
      simp only [execOp, hop, Sem.run_bind, he, r1, Result.andThen_ok, Sem.run_pure]
    unfold wpOp
    rw [hoi]
    simp only
    rw [if_pos (by simp [Region.wanted, hg])]
    refine .inl ?_
    unfold Oper.wp
    rw [hrun]
    have hd := dinv_put (v := undef) hD hlx hinv hi hli (by rw [hdn]; trivial) (.any _) r2 r3
    have hXX : X (a.put o.dst undef) w' := by
      refine hX _ _ ⟨hls, ?_⟩
      have hiss : (listed.setIfInBounds i true).getD q.is false = true := by rw [hset, if_pos his.symm]
      rw [hiss, if_pos rfl]
      exact hd
    exact hXX
  · try dsimp only at hSi
    rw [if_neg his] at hSi
    have e : (listed.setIfInBounds i true).getD q.is false = listed.getD q.is false := by rw [hset, if_neg (fun h => his h.symm)]
    unfold CM at hSi
    rw [Nat.zero_add] at hSi
    by_cases hir : i ∈ rs
    · have hun : listed.getD i false = false := by
        have := (mem_ready.1 hi).1
        rwa [getD_bool (by rw [inv.lsize]; exact hilt)] at this
      have hisf : listed.getD q.is false = false := by
        cases hb : listed.getD q.is false with
        | false => rfl
        | true =>
          have := reach_listed inv.inv.closed 12 q.is i (hrs i hir) (fun oi ho m hw => inv.inv.closed q.is oi ho hb m hw)
          rw [hun] at this; cases this
      rw [hisf] at hinv
      simp only [Bool.false_eq_true, if_false] at hinv
      refine dinv_stepS hD hlx hli (hSi.1 hir) hinv hi fun v w' hd => hX _ _ ⟨hls, ?_⟩
      rw [e, hisf]; exact hd
    · refine dinv_stepS hD hlx hli (hSi.2 hir _ (fresh_one hfr)) hinv hi fun v w' hd => hX _ _ ⟨hls, ?_⟩
      rw [e]; exact hd
def drawSR (P : Program) (n : Nat) (l : List Oper) (K : St → Prop) (is k b off : Nat) (rs : List Nat) (s : St) : Prop :=
  match l.drop is with
  | ⟨none, .store T a y, _, _, _, none⟩ :: q => match hget s.H b with
      | some m0 => dvm P n l.toArray rs (b, m0) (hdel s.H b) 0 (l.take is) (fun env2 => (og env2 a).1 ∧ (og env2 a).2 = pt b off ∧ (og env2 y).1 ∧ (stC P T m0 off (og env2 y).2).1 ∧
          dvc P n l.toArray (q.take (k - is - 1)) (fun s3 => rvc P n l.toArray (q.drop (k - is - 1)) K ⟨s3.env, (b, (stC P T m0 off (og env2 y).2).2) :: s3.H⟩) ⟨env2, hdel s.H b⟩) s.env
      | none => False
  | _ => False
theorem WP.drawS3 {id k is : Nat} (b off : Nat) (rs : List Nat) {l : List Oper} {Q : Exit → St → Prop} {s : St} (hm : P.follows .mixedOrders = true) (hB : drawB l.toArray k = true) (hA : (decide (is < k) && decide (k ≤ l.length)) = true) (hrs : (rs.all fun j => decide (j < is) && reach l.toArray 12 is j) = true)
    (h : drawSR P n l (Q .normal) is k b off rs s) : WP P cx n (.region id l.toArray true) Q s := by
  intro a w ok0
  have hD := drawB_spec hB
  simp only [Bool.and_eq_true, decide_eq_true_eq] at hA
  obtain ⟨hisk, hkl⟩ := hA
  unfold drawSR at h
  split at h
  case h_2 => exact h.elim
  rename_i T ad y ty2 p2 af2 q hq
  split at h
  case h_2 => exact h.elim
  rename_i m0 hg
  have ok : Ok cx n ⟨s.env, (b, m0) :: hdel s.H b⟩ a w := Ok.permH (hget_perm hg) ok0
  have hfr : fresh (hdel s.H b) b := fun p hp => ⟨(hdel_mem ok0.world.nodup p hp).2, Ne.symm (hdel_mem ok0.world.nodup p hp).2⟩
  generalize hH0 : hdel s.H b = H0 at h ok hfr
  obtain ⟨xs2, x2, S2, K2⟩ := dvm_seq (cx := cx) _ _ _ h
  try dsimp only at K2 S2
  obtain ⟨ha1, ha2, hy1, hy2, K2⟩ := K2
  obtain ⟨xs3, x3, S3, K3⟩ := dvc_seqvE (cx := cx) _ _ K2
  simp only at K3 S3
  obtain ⟨st, hst⟩ : ∃ st : Oper, st = ⟨none, .store T ad y, ty2, p2, af2, none⟩ := ⟨_, rfl⟩
  rw [← hst] at hq
  generalize hA2 : (l.take is).zip xs2 = A2 at S2 K2 K3 S3 hy1 hy2 ha1 ha2
  generalize hA3 : (q.take (k - is - 1)).zip xs3 = A3 at S3 K3
  have hlq : q.length = l.length - is - 1 := by have := congrArg List.length hq; simp at this; omega
  have l2 : A2.length = is := by rw [← hA2]; simp [x2]; omega
  have l3 : A3.length = k - is - 1 := by rw [← hA3]; simp [x3]; omega
  have f2 : A2.map (·.1) = l.take is := by rw [← hA2]; exact List.map_fst_zip (by omega)
  have f3 : A3.map (·.1) = q.take (k - is - 1) := by rw [← hA3]; exact List.map_fst_zip (by omega)
  obtain ⟨lx, hlxe⟩ : ∃ lx, lx = A2 ++ ([(st, AV.any)] ++ A3) := ⟨_, rfl⟩
  have hfst : lx.map (·.1) = l.take k := by
    have e1 : l.take k = l.take is ++ (l.drop is).take (k - is) := by rw [← List.take_add]; congr 1; omega
    have e4 : (st :: q).take (k - is) = st :: q.take (k - is - 1) := by rw [show k - is = (k - is - 1) + 1 by omega]; rfl
    rw [e1, hq, e4, hlxe]
    simp [f2, f3]
  have hlen : lx.length = k := by have := congrArg List.length hfst; simp at this; omega
  have hlx : ∀ (j : Nat) o x, lx[j]? = some (o, x) → l.toArray[j]? = some o := by
    intro j o x hj
    have h1 : (lx.map (·.1))[j]? = some o := by rw [List.getElem?_map, hj]; rfl
    rw [hfst, List.getElem?_take] at h1
    split at h1
    · simpa using h1
    · cases h1
  have hdrop : q.drop (k - is - 1) = l.drop k := by
    have e1 : l.drop k = (l.drop is).drop (k - is) := by rw [List.drop_drop]; congr 1; omega
    have e4 : (st :: q).drop (k - is) = q.drop (k - is - 1) := by rw [show k - is = (k - is - 1) + 1 by omega]; rfl
    rw [e1, hq, e4]
  have henvA : envL (fun _ => true) lx 0 s.env = envL (fun _ => true) A3 0 (envL (fun _ => true) A2 0 s.env) := by
    rw [hlxe, envL_append, envL_append, Nat.zero_add]
    simp only [envL, if_true, hst, putE]
    rw [show A2.length + [(({ dst := none, op := .store T ad y, type := ty2, pos := p2, after := af2, guard := none } : Oper), AV.any)].length = A2.length + 1 + 0 from rfl, envL_shiftk (A2.length + 1) A3 0]
  obtain ⟨pb, hpb⟩ : ∃ pb : QB, pb = ⟨is, b, off, m0, (stC P T m0 off (og (envL (fun _ => true) A2 0 s.env) y).2).2⟩ := ⟨_, rfl⟩
  have hSP : SeqS3 P cx n l.toArray rs H0 lx s.env pb := by
    unfold SeqS3
    rw [hlxe]
    refine SeqG.app (fun i o x hi => ?_) (SeqG.app (SeqG.one ?_) fun i o x hi => ?_)
    · have hlt := (List.getElem?_eq_some_iff.1 hi).1
      try dsimp only
      rw [if_neg (by rw [hpb]; simp only; omega)]
      have := S2 i o x hi
      rw [hpb]; exact this
    · try dsimp only
      rw [if_pos (by rw [hpb]; simp only; omega), hpb, hst]
      refine ⟨rfl, rfl, rfl, T, ad, y, rfl, ha1, ha2, hy1, hy2, ?_⟩
      first | rfl | trivial
    · have hlt := (List.getElem?_eq_some_iff.1 hi).1
      try dsimp only
      rw [if_neg (by rw [hpb]; simp; omega)]
      have := S3 i o x hi
      simp only [envL, if_true, hst, putE] at this ⊢
      unfold CM
      refine ⟨fun hm => ?_, fun _ => this⟩
      have h1 := List.all_eq_true.1 hrs _ hm
      rw [Bool.and_eq_true] at h1
      have h2 := of_decide_eq_true h1.1
      simp only [List.length_cons, List.length_nil] at h2
      omega
  rw [← hlen] at hD
  refine wp_region_any hm ?_
  have ok' : Ok cx n ⟨s.env, (b, m0) :: H0⟩ a { w with drawn := w.drawn + 1 } := by
    have hIw : ∀ c, imm cx w ((b, m0) :: H0) c → imm cx { w with drawn := w.drawn + 1 } ((b, m0) :: H0) c ∧ ({ w with drawn := w.drawn + 1 } : World).heap[c]? = w.heap[c]? := fun c hc => ⟨hc, rfl⟩
    refine ⟨ok.defers, ok.size, fun i => (ok.reps i).mono hIw, ⟨ok.world.nodup, ok.world.keys, fun x hx => (ok.world.mem x hx).mono hIw rfl, ⟨ok.world.ext.os, ok.world.ext.tape, ok.world.ext.output, ok.world.ext.size, ok.world.ext.blk⟩, ok.world.ro⟩⟩
  have henv0 : envL (fun j => (Array.replicate l.toArray.size false).getD j false) lx 0 s.env = s.env := envL_none _ _ _ fun j _ => getD_rep_false _ _
  have inv0 : DInvS cx n l.toArray lx s.env H0 pb (Array.replicate l.toArray.size false) a { w with drawn := w.drawn + 1 } := by
    refine ⟨by simp, ⟨by simp, fun j oj _ hl => ?_, fun t _ ht => ?_, ?_⟩⟩
    · rw [getD_rep_false] at hl; cases hl
    · have : t < l.length := by simpa using ht
      simp [this]
    · rw [henv0, getD_rep_false, hpb]; exact ok'
  have his : pb.is = is := by rw [hpb]
  have hbb : pb.b = b := by rw [hpb]
  have hfin : ∀ listed a w, DInvS cx n l.toArray lx s.env H0 pb listed a w → (∀ j, j < lx.length → listed.getD j false = true) →
      wpAny P .any l.toArray (fun e a' w' => ∃ s', Q e s' ∧ Ok cx n s' a' w') (l.drop k).length listed a w := by
    intro listed a w inv hall
    have hinv := inv.inv
    rw [his, hall is (by omega), if_pos rfl] at hinv
    have henv : ∀ t, look (envL (fun j => listed.getD j false) lx 0 s.env) t = look (envL (fun _ => true) A3 0 (envL (fun _ => true) A2 0 s.env)) t := by
      intro t
      have e1 : envL (fun j => listed.getD j false) lx 0 s.env = envL (fun _ => true) lx 0 s.env := envL_ext lx 0 _ fun j _ hj => hall j (by omega)
      rw [e1, henvA]
    have hok : Ok cx n ⟨envL (fun _ => true) A3 0 (envL (fun _ => true) A2 0 s.env), (b, pb.m1) :: H0⟩ a w := by
      refine ⟨hinv.ok.defers, hinv.ok.size, fun t => ?_, ?_⟩
      · have := hinv.ok.reps t
        simp only [henv t, hbb] at this
        exact this
      · have := hinv.ok.world
        simp only [hbb] at this
        exact this
    have hK := K3
    rw [hdrop] at hK
    have hm1 : pb.m1 = (stC P T m0 off (og (envL (fun _ => true) A2 0 s.env) y).2).2 := by rw [hpb]
    rw [hm1] at hok
    have hwl := rvc_sound (cx := cx) _ _ hK (fun e a' w' => ∃ s', Q e s' ∧ Ok cx n s' a' w') (fun s' a' w' hk ok' => ⟨s', hk, ok'⟩) a w hok
    refine tail_any (k0 := k) (by rw [hlen] at hD; exact hD) (l.drop k) k listed a w (Nat.le_refl _) (fun j => by simp [List.getElem?_drop]) (by simp; omega) inv.lsize (fun j hj => ?_) hwl
    by_cases hjk : j < k
    · rw [hall j (by omega)]; simp [hjk]
    · have := hinv.tail j (by omega) hj
      rw [getD_bool (by rw [inv.lsize]; exact hj)] at this
      rw [this]; simp; omega
  have hcount : ((List.range lx.length).filter fun i => !(Array.replicate l.toArray.size false).getD i false).length = k := by
    rw [hlen]
    have : ((List.range k).filter fun i => !(Array.replicate l.toArray.size false).getD i false) = List.range k := by
      rw [List.filter_eq_self]
      intro j _
      rw [getD_rep_false]
      rfl
    rw [this]; simp
  have := head_any' hD (fun _ _ _ inv => inv.inv.closed) (fun _ _ _ inv => inv.lsize) (fun listed a w i X inv hi hik hX => dinvS3_step hD hlx (by rw [hpb]; exact fun j hj => (Bool.and_eq_true _ _ ▸ List.all_eq_true.1 hrs j hj : _ ∧ _).2) hSP (by rw [hbb]; exact hfr) inv hi hik hX) hfin k _ a _ hcount inv0
  have hN : k + (l.drop k).length = l.toArray.size := by simp; omega
  rw [hN] at this
  exact this
end
end Go.Proofs.YtaffbklkjjmmdaaDoor
