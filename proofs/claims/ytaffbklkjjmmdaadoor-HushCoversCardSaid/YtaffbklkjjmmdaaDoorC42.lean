/-
  The walks and the laws that the statement leans on, part 42.
-/
import Derived.Test.YtaffbklkjjmmdaaDoorC9
import Derived.Test.YtaffbklkjjmmdaaDoorC14
import Derived.Test.YtaffbklkjjmmdaaDoorC39
import Derived.Test.YtaffbklkjjmmdaaDoorC41
namespace Go.Proofs.YtaffbklkjjmmdaaDoor
open Go Wi
set_option linter.unusedVariables false
set_option linter.unusedSimpArgs false
set_option linter.defProp false
def TFHuVG :=
  And.intro (And.intro (And.intro (And.intro (And.intro tyc0 tyc3) (And.intro zmb3 (And.intro tyc4 zmb4))) (And.intro (And.intro tyc22 elt22) (And.intro mkz22 (And.intro mkc22 apT22)))) (And.intro (And.intro (And.intro elk22 zmb22) (And.intro tyc23 (And.intro zmb23 tyc32))) (And.intro (And.intro foff32_0 fpart32_0) (And.intro foff32_1 (And.intro fpart32_1 foff32_2))))) (And.intro (And.intro (And.intro (And.intro fpart32_2 foff32_3) (And.intro fpart32_3 (And.intro foff32_4 fpart32_4))) (And.intro (And.intro fe32 zmb32) (And.intro bldT32 (And.intro tyc92 zmb92)))) (And.intro (And.intro (And.intro tyc125 zmb125) (And.intro Tryd.underlying0 (And.intro Tryd.underlying3 Tryd.underlying4))) (And.intro (And.intro Tryd.underlying22 Tryd.underlying23) (And.intro Tryd.underlying32 (And.intro Tryd.underlying92 Tryd.underlying125)))))
theorem Y1HuVG {G R : Prop} (r : R) (h : R → G := by intro r; first | (apply WP.region; exact rvc_sound _ _ (Sm.out r)) | exact WP.drawK rfl mixed (by decide +kernel) (Sm.out r) | (apply WP.block; exact r) | (apply WP.skip; exact Yq r) | (apply WP.exit; exact Yq r) | (apply WP.ret; exact Sm.out r) | exact WP.cond rfl (fun _ => r) (fun hg => absurd hg (by decide)) | exact WP.cond rfl (fun hg => absurd hg (by decide)) (fun _ => r) | exact Rt.mk (And.intro (fun _ => Sm.out r) fun hg => absurd hg (by decide)) | exact Rt.mk (And.intro (fun hg => absurd hg (by decide)) fun _ => Sm.out r)) : G := h r
theorem YzHuVG {G R : Prop} (r : R) (h : R → G := by intro r; first | (apply ExG.no; exact Sm.out r) | (apply Or.inl; apply ExG.no; exact Sm.out r) | exact Or.inl (And.intro (fun hg => absurd hg (by decide)) (ExG.no (Sm.out r)))) : G := h r
theorem YsHuVG0 {P Q : Prop} (q : Q) (h : P = Q := by (try (conv => lhs; simp -dsimp only [ZK, rvc, capA, appA, litL, mkfv, drawF, headN, pureH, stp, dvc, calleeOf, gcall, pev, eff, newB, okd, og, ogs, ogo, ogp, slv, bltv, opd, litv, strip, one, both, putE, St.put, look, gdOf, gdv, picka, pickv, pickw, binv, bini, bins, binb, binp, binq, isSlT, bina, shp, eqCells, unv, convv, nilv, faddv, addp, idxav, idxp, load1, load1m, loadn, loadnm, loadv, hget, hset, hrep, hdel, slicev, slice3v, bnd, shift1, lenv, capv, IntKind.bits, extractv, fieldv, indexv, min2v, max2v, mkiv, tasv, tasz, cellsA, fillA, buildv, stC, oneC, rowMB, intsA, plN, appE, appZ, appC, appS, srcB, appNZ, appNC, VwL, srcC, srcZ, srcM, isBoolT, isPtrT, isSliceT, uOk, Value.oneCell', Nat.reducePow, Int.reducePow, Nat.reduceAdd, Nat.reduceMul, Nat.reduceSub, Nat.reduceLT, Nat.reduceLeDiff, Nat.reduceEqDiff, Nat.reduceBEq, Nat.reduceDiv, Nat.reduceMod, ↓reduceIte, reduceCtorEq, Int.reduceToNat, Int.reduceLT, Int.reduceLE, TFHuVG, SeqQ, BlkQ, LoopQ, BodyQ, drawSR, dvm, xst, putE, hdel, List.mem_cons, List.mem_singleton, FA.out, FR.out])) <;> exact rfl) : P := h.mpr q
theorem pw2_bd {m : Nat} (h1 : 8 ≤ m) (h2 : m ≤ 40) : m < pw2 m ∧ pw2 m ≤ 2 * m ∧ pw2 m ≤ 64 := by
  unfold pw2; repeat' split
  all_goals omega
def anN (z : Int) (M : Nat) : Nat := z.toNat &&& (M - 1)
theorem anN_lt (z : Int) (M : Nat) (h : 1 ≤ M) : anN z M < M := by
  unfold anN
  have := @Nat.and_le_right z.toNat (M - 1)
  omega
theorem and_eq (M : Nat) (hM : 1 ≤ M ∧ M ≤ 64) (g : {g : Int // 0 ≤ g ∧ g < 18446744073709551616}) : ibit .and .u64 g.1 (((M - 1 : Nat)) : Int) = ((anN g.1 M : Nat) : Int) := by
  obtain ⟨z, hz⟩ := g
  obtain ⟨x, rfl⟩ : ∃ x : Nat, z = (x : Int) := ⟨z.toNat, by omega⟩
  exact ibit_and x (M - 1) (by omega) (by omega)
structure BkG where
  i : Nat
  D : List Sl
  z : Int
set_option maxHeartbeats 8000000 in
theorem brk_ct (l : List Sl) (x n k a b : Nat) (hn : l.length = n) (hl : n ≤ 40) (hk : n ≤ k ∧ k ≤ 9223372036854775807) (hb : b ≤ n) (hab : a + 8 ≤ b) :
    ACt Tryd.prog 81 [ms x 0 n k, iv .i64 (a : Int), iv .i64 (b : Int), fCm] [(x, .cells (scs l) (k * 5) 32)]
      (fun r F' => ∃ g, (g.Perm l ∧ Out l g a b) ∧ r = .tup [] ∧ F' = [(x, .cells (scs g) (k * 5) 32)]) := by
  obtain ⟨m, hm⟩ : ∃ m, m = b - a := ⟨_, rfl⟩
  obtain ⟨q, hq⟩ : ∃ q, q = m / 4 := ⟨_, rfl⟩
  obtain ⟨p1, p2, p3⟩ := pw2_bd (m := m) (by omega) (by omega)
  have cP := npw_ct m (by omega) (by omega)
  obtain ⟨M, hM⟩ : ∃ M, pw2 m = M := ⟨_, rfl⟩
  rw [hM] at cP p1 p2 p3
  have w1 : IntKind.i64.wrap ((b : Int) - (a : Int)) = (m : Int) := by rw [wrap_i64 (by omega) (by omega)]; omega
  have k8 : decide ((m : Int) ≥ 8) = true := decide_eq_true (by omega)
  have d1 : ((m : Int)).tdiv 4 = (q : Int) := by rw [Int.tdiv_eq_ediv_of_nonneg (by omega)]; omega
  have w2 : IntKind.u64.wrap (m : Int) = (m : Int) := wrap_u64 (by omega) (by omega)
  have w4 : IntKind.i64.wrap (q : Int) = (q : Int) := wrap_i64 (by omega) (by omega)
  have w5 : IntKind.i64.wrap ((q : Int) * 2) = (q : Int) * 2 := wrap_i64 (by omega) (by omega)
  have w6 : IntKind.i64.wrap ((a : Int) + (q : Int) * 2) = (a : Int) + (q : Int) * 2 := wrap_i64 (by omega) (by omega)
  have w7 : IntKind.i64.wrap ((a : Int) + (q : Int) * 2 - 1) = ((a + q * 2 - 1 : Nat) : Int) := by rw [wrap_i64 (by omega) (by omega)]; omega
  have w8 : IntKind.i64.wrap ((a : Int) + (q : Int) * 2 + 1) = ((a + q * 2 + 1 : Nat) : Int) := by rw [wrap_i64 (by omega) (by omega)]; omega
  have w9 : IntKind.u64.wrap ((M : Int) - 1) = ((M - 1 : Nat) : Int) := by rw [wrap_u64 (by omega) (by omega)]; omega
  obtain ⟨C, hC⟩ : ∃ C, C = scs l := ⟨_, rfl⟩
  rw [← hC]
  refine ACt.intro Tryd.func81 rfl (by kernel_rfl) (by simp [Tryd.ntmps81]) (fun cx => ?_)
  simp only [argE, Tryd.ntmps81, Tryd.results81]
  first | (have FRx := FR; clear FRx) | have FR := fr0S
  have FA := Sm.mk (And.intro TFHuVG (And.intro w1 (And.intro k8 (And.intro d1 (And.intro w2 (And.intro w4 (And.intro w5 (And.intro w6 w7))))))))
  repeat' first | (apply Sm.mk; refine Ys ?_) | refine WP.seq fun K hK => ?_ | (apply Ob.mk; exact Yo) | refine And.intro (Ob.out ?_) ?_ | refine Y1HuVG ?_ | refine Yc (c := cP) (r := ?_) | refine YzHuVG ?_ | (refine WP.cond rfl (fun hc => ?_) (fun hc => ?_) <;> (try simp only [ZC, reduceCtorEq, ZD] at hc) <;> (try exact absurd hc (by decide)) <;> (try (exfalso; omega))) | refine Rt.mk (And.intro (fun hg => Sm.out ?_) fun hg => Sm.out ?_) | (refine Nu.mk ?_; first | (fail_if_success have := nb1); intro nb1 | (fail_if_success have := nb2); intro nb2 | (fail_if_success have := nb3); intro nb3 | (fail_if_success have := nb4); intro nb4 | intro nbz) | (apply Yfr; refine Yf FR fun hFRb FR => ?_) | refine Two.mk ?_ ?_ | (apply Yxc; exact Yx) | refine Cs.mk fun hcs => Sm.out ?_ | go_step | omega | (simp only [maxLen_eq]; omega) | exact trivial
  refine WP.loop (Γ := BkG) (fun g => ⟨[(11, iv .i64 (g.i : Int)), (8, iv .i64 (m : Int)), (9, pt nb1 0), (10, iv .u64 (M : Int)), (0, ms x 0 n k), (1, iv .i64 (a : Int))], [(nb1, .cells [iv .u64 g.z] 1 125), (x, .cells (scs g.D) (k * 5) 32)]⟩)
    (fun g => a + q * 2 - 1 ≤ g.i ∧ g.i ≤ a + q * 2 + 2 ∧ g.D.length = n ∧ g.D.Perm l ∧ Out l g.D a b) (fun g => a + q * 2 + 2 - g.i) ⟨a + q * 2 - 1, l, m⟩
    ⟨Nat.le_refl _, by simp only; omega, hn, List.Perm.refl _, out_refl _ _ _⟩ (Sub.pick (by simp [pickB, hget, hdel, FR.out, hC]) (by simp [look, hC])) ?_
  intro ⟨i, D, z⟩ ⟨h1, h2, hD, hP, hO⟩
  simp only at h1 h2 hD hP hO ⊢
  have hxn : x ≠ nb1 ∧ nb1 ≠ x := by simp [FR.out]
  have FR : Sm (¬ ((1 : Nat) = 0)) := Sm.mk Nat.one_ne_zero
  by_cases hi : i ≤ a + q * 2 + 1
  · have ki : decide ((i : Int) ≤ ((a + q * 2 + 1 : Nat) : Int)) = true := decide_eq_true (by omega)
    have cN := ACt.sub (next_ct nb1 z)
    obtain ⟨C1, hC1⟩ : ∃ C, C = scs D := ⟨_, rfl⟩
    rw [← hC1]
    have s1 : IntKind.i64.wrap ((i : Int) + 1) = ((i + 1 : Nat) : Int) := by rw [wrap_i64 (by omega) (by omega)]; omega
    have hA := and_eq M ⟨by omega, p3⟩
    have hB : ∀ g : {g : Int // 0 ≤ g ∧ g < 18446744073709551616}, IntKind.i64.wrap ((anN g.1 M : Nat) : Int) = ((anN g.1 M : Nat) : Int) := fun g => wrap_i64 (by omega) (by have := anN_lt g.1 M (by omega); omega)
    first | (have FRx := FR; clear FRx) | have FR := fr0S
    have FA := Sm.mk (And.intro TFHuVG (And.intro d1 (And.intro w4 (And.intro w5 (And.intro w6 (And.intro w8 (And.intro w9 (And.intro ki (And.intro hA hB)))))))))
    repeat' first | (apply Sm.mk; refine Ys ?_) | refine WP.seq fun K hK => ?_ | (apply Ob.mk; exact Yo) | refine And.intro (Ob.out ?_) ?_ | ((fail_if_success (show WP _ _ _ (.region 8 _ _) _ _)); refine Y1HuVG ?_) | (refine CallV.ex (F := [_]) (perm1 (by simp only [hget, hdel, ↓reduceIte, FR.out, d1, w4, w5, w6, w8, w9, ki, hA, hB]; first | done | rfl)) (cN) (fun g => Sm.out ?_)) | refine YzHuVG ?_ | (refine WP.cond rfl (fun hc => ?_) (fun hc => ?_) <;> (try simp only [ZC, reduceCtorEq, ZD] at hc) <;> (try exact absurd hc (by decide)) <;> (try (exfalso; omega))) | refine Rt.mk (And.intro (fun hg => Sm.out ?_) fun hg => Sm.out ?_) | (refine Nu.mk ?_; first | (fail_if_success have := nb1); intro nb1 | (fail_if_success have := nb2); intro nb2 | (fail_if_success have := nb3); intro nb3 | (fail_if_success have := nb4); intro nb4 | intro nbz) | (apply Yfr; refine Yf FR fun hFRb FR => ?_) | refine Two.mk ?_ ?_ | (apply Yxc; exact Yx) | refine Cs.mk fun hcs => Sm.out ?_ | go_step | omega | (simp only [maxLen_eq]; omega) | exact trivial
    obtain ⟨z2, hz2⟩ := g
    simp only
    clear hA hB
    have hoM := anN_lt z2 M (by omega)
    obtain ⟨o, ho⟩ : ∃ o, anN z2 M = o := ⟨_, rfl⟩
    rw [ho] at hoM ⊢
    first | (have FRx := FR; clear FRx) | have FR := fr0S
    have FA := Sm.mk (TFHuVG)
    repeat' first | (apply Sm.mk; refine Ys ?_) | refine WP.seq fun K hK => ?_ | (apply Ob.mk; exact Yo) | refine And.intro (Ob.out ?_) ?_ | refine Y1HuVG ?_ | refine YzHuVG ?_ | ((fail_if_success (show WP _ _ _ (.cond _ _ _) _ _)); refine WP.cond rfl (fun hc => ?_) (fun hc => ?_) <;> (try simp only [ZC, reduceCtorEq, ZD] at hc) <;> (try exact absurd hc (by decide)) <;> (try (exfalso; omega))) | refine Rt.mk (And.intro (fun hg => Sm.out ?_) fun hg => Sm.out ?_) | (refine Nu.mk ?_; first | (fail_if_success have := nb1); intro nb1 | (fail_if_success have := nb2); intro nb2 | (fail_if_success have := nb3); intro nb3 | (fail_if_success have := nb4); intro nb4 | intro nbz) | (apply Yfr; refine Yf FR fun hFRb FR => ?_) | refine Two.mk ?_ ?_ | (apply Yxc; exact Yx) | refine Cs.mk fun hcs => Sm.out ?_ | go_step | omega | (simp only [maxLen_eq]; omega) | exact trivial
    have cC : Sm (∀ o : Nat, o < m → ∀ s', Sub s' ⟨[(12, iv .i64 (o : Int)), (11, iv .i64 (i : Int)), (8, iv .i64 (m : Int)), (9, pt nb1 0), (10, iv .u64 (M : Int)), (0, ms x 0 n k), (1, iv .i64 (a : Int))], [(nb1, .cells [iv .u64 z2] 1 125), (x, .cells C1 (k * 5) 32)]⟩ → K s') := Sm.mk fun o hom s' hs => by
      refine hK s' (WP.sub hs ?_)
      clear hK hs
      obtain ⟨un, ug, uw, uf, ut, vn, vg, vw, vf, vt, U, V, C3, hda, hdb, h5a, h5b, hC3, hCl, r1, r2⟩ := swp_cells D (i := i) (j := a + o) (n := n) hD (by omega) (by omega)
      have r3 : i < n := by omega
      have r4 : a + o < n := by omega
      have s2 : IntKind.i64.wrap ((a : Int) + (o : Int)) = ((a + o : Nat) : Int) := by rw [wrap_i64 (by omega) (by omega)]; omega
      obtain ⟨C2, hC2⟩ : ∃ C, C = scs (swp D i (a + o)) := ⟨_, rfl⟩
      rw [← hC1] at hda hdb h5a hCl
      rw [← hC2] at h5b
      first | (have FRx := FR; clear FRx) | have FR := fr0S
      have FA := Sm.mk (TFHuVG)
      repeat' first | (apply Sm.mk; refine Ys ?_) | refine WP.seq fun K hK => ?_ | (apply Ob.mk; exact Yo) | refine And.intro (Ob.out ?_) ?_ | ((fail_if_success (show WP _ _ _ (.region 10 _ _) _ _)); refine Y1HuVG ?_) | refine YzHuVG ?_ | (refine WP.cond rfl (fun hc => ?_) (fun hc => ?_) <;> (try simp only [ZC, reduceCtorEq, ZD] at hc) <;> (try exact absurd hc (by decide)) <;> (try (exfalso; omega))) | refine Rt.mk (And.intro (fun hg => Sm.out ?_) fun hg => Sm.out ?_) | (refine Nu.mk ?_; first | (fail_if_success have := nb1); intro nb1 | (fail_if_success have := nb2); intro nb2 | (fail_if_success have := nb3); intro nb3 | (fail_if_success have := nb4); intro nb4 | intro nbz) | (apply Yfr; refine Yf FR fun hFRb FR => ?_) | refine Two.mk ?_ ?_ | (apply Yxc; exact Yx) | refine Cs.mk fun hcs => Sm.out ?_ | go_step | omega | (simp only [maxLen_eq]; omega) | exact trivial
      refine WP.drawS3 (is := 17) (k := 18) x (i * 5) [11, 15] mixed (by decide +kernel) (by decide +kernel) (by decide +kernel) (Sm.out ?_)
      first | (have FRx := FR; clear FRx) | have FR := fr0S
      have FA := Sm.mk (And.intro TFHuVG (And.intro hda (And.intro hdb (And.intro h5a (And.intro h5b (And.intro hC3 (And.intro hCl (And.intro r1 (And.intro r2 (And.intro r3 (And.intro r4 (And.intro s1 (And.intro s2 hxn)))))))))))))
      repeat' first | (apply Sm.mk; refine YsHuVG0 ?_) | refine WP.seq fun K hK => ?_ | (apply Ob.mk; exact Yo) | refine And.intro (Ob.out ?_) ?_ | refine Y1HuVG ?_ | refine YzHuVG ?_ | (refine WP.cond rfl (fun hc => ?_) (fun hc => ?_) <;> (try simp only [ZC, reduceCtorEq, ZD] at hc) <;> (try exact absurd hc (by decide)) <;> (try (exfalso; omega))) | refine Rt.mk (And.intro (fun hg => Sm.out ?_) fun hg => Sm.out ?_) | (refine Nu.mk ?_; first | (fail_if_success have := nb1); intro nb1 | (fail_if_success have := nb2); intro nb2 | (fail_if_success have := nb3); intro nb3 | (fail_if_success have := nb4); intro nb4 | intro nbz) | (apply Yfr; refine Yf FR fun hFRb FR => ?_) | refine Two.mk ?_ ?_ | (apply Yxc; exact Yx) | refine Cs.mk fun hcs => Sm.out ?_ | go_step | omega | (simp only [maxLen_eq]; omega) | exact trivial
      exact ⟨⟨i + 1, swp D i (a + o), z2⟩, ⟨by simp only; omega, by simp only; omega, by rw [swp_len]; exact hD, (swp_count D (by omega) (by omega)).trans hP, hO.trans (swp_out (a := a) (b := b) (by omega) (by omega) (by omega)) (Nat.le_refl _) (Nat.le_refl _)⟩, by simp only; omega, (Sub.pick (by simp [pickB, hget, hdel, FR.out, hC2, hxn]) (by simp [look, hC2, hxn]))⟩
    clear hK
    by_cases hom : o < m
    · have ko : decide ((o : Int) ≥ (m : Int)) = false := decide_eq_false (by omega)
      first | (have FRx := FR; clear FRx) | have FR := fr0S
      have FA := Sm.mk (And.intro TFHuVG ko)
      repeat' first | (apply Sm.mk; refine Ys ?_) | refine WP.seq fun K hK => ?_ | (apply Ob.mk; exact Yo) | refine And.intro (Ob.out ?_) ?_ | refine Y1HuVG ?_ | refine YzHuVG ?_ | (refine WP.cond rfl (fun hc => ?_) (fun hc => ?_) <;> (try simp only [ZC, reduceCtorEq, ZD] at hc) <;> (try exact absurd hc (by decide)) <;> (try (exfalso; omega))) | refine Rt.mk (And.intro (fun hg => Sm.out ?_) fun hg => Sm.out ?_) | (refine Nu.mk ?_; first | (fail_if_success have := nb1); intro nb1 | (fail_if_success have := nb2); intro nb2 | (fail_if_success have := nb3); intro nb3 | (fail_if_success have := nb4); intro nb4 | intro nbz) | (apply Yfr; refine Yf FR fun hFRb FR => ?_) | refine Two.mk ?_ ?_ | (apply Yxc; exact Yx) | refine Cs.mk fun hcs => Sm.out ?_ | go_step | omega | (simp only [maxLen_eq]; omega) | exact trivial
      exact cC.out o hom _ (Sub.pick (by simp [pickB, hget, hdel, FR.out, hxn]) (by simp [look, hxn]))
    · have ko : decide ((o : Int) ≥ (m : Int)) = true := decide_eq_true (by omega)
      have s3 : IntKind.i64.wrap ((o : Int) - (m : Int)) = ((o - m : Nat) : Int) := by rw [wrap_i64 (by omega) (by omega)]; omega
      first | (have FRx := FR; clear FRx) | have FR := fr0S
      have FA := Sm.mk (And.intro TFHuVG (And.intro ko s3))
      repeat' first | (apply Sm.mk; refine Ys ?_) | refine WP.seq fun K hK => ?_ | (apply Ob.mk; exact Yo) | refine And.intro (Ob.out ?_) ?_ | refine Y1HuVG ?_ | refine YzHuVG ?_ | (refine WP.cond rfl (fun hc => ?_) (fun hc => ?_) <;> (try simp only [ZC, reduceCtorEq, ZD] at hc) <;> (try exact absurd hc (by decide)) <;> (try (exfalso; omega))) | refine Rt.mk (And.intro (fun hg => Sm.out ?_) fun hg => Sm.out ?_) | (refine Nu.mk ?_; first | (fail_if_success have := nb1); intro nb1 | (fail_if_success have := nb2); intro nb2 | (fail_if_success have := nb3); intro nb3 | (fail_if_success have := nb4); intro nb4 | intro nbz) | (apply Yfr; refine Yf FR fun hFRb FR => ?_) | refine Two.mk ?_ ?_ | (apply Yxc; exact Yx) | refine Cs.mk fun hcs => Sm.out ?_ | go_step | omega | (simp only [maxLen_eq]; omega) | exact trivial
      exact cC.out (o - m) (by omega) _ (Sub.pick (by simp [pickB, hget, hdel, FR.out, hxn]) (by simp [look, hxn]))
  · have ki : decide ((i : Int) ≤ ((a + q * 2 + 1 : Nat) : Int)) = false := decide_eq_false (by omega)
    obtain ⟨C1, hC1⟩ : ∃ C, C = scs D := ⟨_, rfl⟩
    rw [← hC1]
    first | (have FRx := FR; clear FRx) | have FR := fr0S
    have FA := Sm.mk (And.intro TFHuVG (And.intro d1 (And.intro w4 (And.intro w5 (And.intro w6 (And.intro w8 ki))))))
    repeat' first | (apply Sm.mk; refine Ys ?_) | refine WP.seq fun K hK => ?_ | (apply Ob.mk; exact Yo) | refine And.intro (Ob.out ?_) ?_ | refine Y1HuVG ?_ | refine YzHuVG ?_ | (refine WP.cond rfl (fun hc => ?_) (fun hc => ?_) <;> (try simp only [ZC, reduceCtorEq, ZD] at hc) <;> (try exact absurd hc (by decide)) <;> (try (exfalso; omega))) | refine Rt.mk (And.intro (fun hg => Sm.out ?_) fun hg => Sm.out ?_) | (refine Nu.mk ?_; first | (fail_if_success have := nb1); intro nb1 | (fail_if_success have := nb2); intro nb2 | (fail_if_success have := nb3); intro nb3 | (fail_if_success have := nb4); intro nb4 | intro nbz) | (apply Yfr; refine Yf FR fun hFRb FR => ?_) | refine Two.mk ?_ ?_ | (apply Yxc; exact Yx) | refine Cs.mk fun hcs => Sm.out ?_ | go_step | omega | (simp only [maxLen_eq]; omega) | exact trivial
    (refine OutQ.drop _ _ (perm1 (by simp only [hget, hdel, ↓reduceIte, if_true, if_false, FR.out, hC1, hxn]; first | done | rfl)) (by simp only [resv, ZK, look, loadv, loadn, loadnm, load1, load1m, hget, ↓reduceIte, Nat.reduceEqDiff, Nat.reduceAdd, Nat.reduceMul, Nat.reduceLeDiff, Nat.reduceLT, reduceCtorEq, TFHuVG, FR.out, hC1, hxn]) ⟨D, ⟨hP, hO⟩, (by simp only [resv, resA, ZK, look, loadv, loadn, loadnm, load1, load1m, hget, ↓reduceIte, Nat.reduceEqDiff, Nat.reduceAdd, Nat.reduceMul, Nat.reduceLeDiff, Nat.reduceLT, reduceCtorEq, TFHuVG, FR.out, hC1, hxn]; first | done | rfl), rfl⟩)
open Go
abbrev vA (D : List Sl) (s i : Nat) : Int := (at_ D (s + i)).f
def HpO (D : List Sl) (s lo hi : Nat) : Prop := ∀ p c, lo ≤ p → (c = 2 * p + 1 ∨ c = 2 * p + 2) → c < hi → vA D s c ≤ vA D s p
structure SiI (l D : List Sl) (s lo hi r n : Nat) : Prop where
  len : D.length = n
  perm : D.Perm l
  out : Out l D (s + lo) (s + hi)
  lr : lo ≤ r
  h1 : ∀ p c, lo ≤ p → p ≠ r → (c = 2 * p + 1 ∨ c = 2 * p + 2) → c < hi → vA D s c ≤ vA D s p
  h2 : ∀ p c, lo ≤ p → (r = 2 * p + 1 ∨ r = 2 * p + 2) → (c = 2 * r + 1 ∨ c = 2 * r + 2) → c < hi → vA D s c ≤ vA D s p
theorem SiI.start {l : List Sl} {s lo hi n : Nat} (hn : l.length = n) (h : HpO l s (lo + 1) hi) : SiI l l s lo hi lo n :=
  ⟨hn, .refl _, out_refl _ _ _, Nat.le_refl _, fun p c h1 h2 h3 h4 => h p c (by omega) h3 h4, fun p c h1 h2 h3 h4 => by omega⟩
theorem SiI.step {l D : List Sl} {s lo hi r n m : Nat} (h : SiI l D s lo hi r n) (hn : s + hi ≤ n) (hm : m = 2 * r + 1 ∨ m = 2 * r + 2) (hm2 : m < hi) (hx : vA D s r < vA D s m) (hy : ∀ c, (c = 2 * r + 1 ∨ c = 2 * r + 2) → c < hi → vA D s c ≤ vA D s m) : SiI l (swp D (s + r) (s + m)) s lo hi m n := by
  have hl := h.len
  have hlr := h.lr
  have e := swp_at D (i := s + r) (j := s + m) (by omega) (by omega)
  have ev : ∀ x, vA (swp D (s + r) (s + m)) s x = if x = m then vA D s r else if x = r then vA D s m else vA D s x := fun x => by
    unfold vA
    rw [e (s + x)]
    by_cases e1 : x = m
    · rw [if_pos (by omega), if_pos e1]
    · rw [if_neg (by omega), if_neg e1]
      by_cases e2 : x = r
      · rw [if_pos (by omega), if_pos e2]
      · rw [if_neg (by omega), if_neg e2]
  refine ⟨by rw [swp_len]; exact hl, (swp_count D (by omega) (by omega)).trans h.perm, h.out.trans (swp_out (by omega) (by omega) (by omega)) (Nat.le_refl _) (Nat.le_refl _), by omega, fun p c h1 h2 h3 h4 => ?_, fun p c h1 h2 h3 h4 => ?_⟩
  · rw [ev p, ev c, if_neg h2]
    by_cases e1 : p = r
    · rw [if_pos e1]
      subst e1
      by_cases e2 : c = m
      · rw [if_pos e2]; omega
      · rw [if_neg e2, if_neg (by omega)]; exact hy c h3 h4
    · rw [if_neg e1]
      by_cases e2 : c = m
      · omega
      · rw [if_neg e2]
        by_cases e3 : c = r
        · rw [if_pos e3]; subst e3; exact h.h2 p m h1 h3 hm hm2
        · rw [if_neg e3]; exact h.h1 p c h1 e1 h3 h4
  · obtain rfl : p = r := by omega
    rw [ev p, ev c, if_neg (by omega), if_neg (by omega), if_neg (by omega), if_pos rfl]
    exact h.h1 m c (by omega) (by omega) h3 h4
theorem SiI.done {l D : List Sl} {s lo hi r n : Nat} (h : SiI l D s lo hi r n) (hy : ∀ c, (c = 2 * r + 1 ∨ c = 2 * r + 2) → c < hi → vA D s c ≤ vA D s r) : HpO D s lo hi := by
  intro p c h1 h2 h3
  by_cases e : p = r
  · rw [e] at h2 ⊢; exact hy c h2 h3
  · exact h.h1 p c h1 e h2 h3
theorem HpO.top {D : List Sl} {s hi : Nat} (h : HpO D s 0 hi) : ∀ c, c < hi → vA D s c ≤ vA D s 0 := by
  intro c
  induction c using Nat.strongRecOn with
  | _ c ih =>
    intro hc
    by_cases e : c = 0
    · rw [e]; exact Int.le_refl _
    · exact Int.le_trans (h ((c - 1) / 2) c (by omega) (by omega) hc) (ih ((c - 1) / 2) (by omega) (by omega))
theorem HpO.far {D : List Sl} {s hi : Nat} : HpO D s ((hi - 1) / 2 + 1) hi := fun p c h1 h2 h3 => by omega
structure PoI (l D : List Sl) (s hi j n : Nat) : Prop where
  len : D.length = n
  perm : D.Perm l
  out : Out l D s (s + hi)
  jh : j ≤ hi
  hp : HpO D s 0 j
  so : ∀ p q, p < q → q < hi → j ≤ q → vA D s p ≤ vA D s q
theorem PoI.start {l D : List Sl} {s hi n : Nat} (hn : D.length = n) (hp : D.Perm l) (ho : Out l D s (s + hi)) (h : HpO D s 0 hi) : PoI l D s hi hi n :=
  ⟨hn, hp, ho, Nat.le_refl _, h, fun p q h1 h2 h3 => by omega⟩
theorem PoI.swap {l D : List Sl} {s hi j n : Nat} (h : PoI l D s hi (j + 1) n) (hn : s + hi ≤ n) : HpO (swp D s (s + j)) s 1 j := by
  have hl := h.len
  have hj := h.jh
  have e := swp_at D (i := s) (j := s + j) (by omega) (by omega)
  intro p c h1 h2 h3
  unfold vA
  rw [e (s + p), e (s + c), if_neg (by omega), if_neg (by omega), if_neg (by omega), if_neg (by omega)]
  exact h.hp p c (by omega) h2 (by omega)
theorem PoI.step {l D g : List Sl} {s hi j n : Nat} (h : PoI l D s hi (j + 1) n) (hn : s + hi ≤ n) (hp : g.Perm (swp D s (s + j))) (ho : Out (swp D s (s + j)) g (s + 0) (s + j)) (hg : HpO g s 0 j) : PoI l g s hi j n := by
  have hl := h.len
  have hj := h.jh
  have e := swp_at D (i := s) (j := s + j) (by omega) (by omega)
  have hl2 := swp_len D s (s + j)
  have htop := h.hp.top
  have e0 : ∀ x, j < x → vA g s x = vA D s x := fun x hx => by
    unfold vA
    rw [ho (s + x) (.inr (by omega)), e (s + x), if_neg (by omega), if_neg (by omega)]
  have ej : vA g s j = vA D s 0 := by
    unfold vA
    rw [ho (s + j) (.inr (by omega)), e (s + j), if_pos rfl, Nat.add_zero]
  -- whatever holds of all up to j holds of all ahead of j behind
  have hall : ∀ (y : Int), (∀ p, p ≤ j → vA D s p ≤ y) → ∀ p, p < j → vA g s p ≤ y := fun y hy p hpj => by
    refine seg_all (a := s + 0) (b := s + j) hp ho (by omega) (P := fun z => z.f ≤ y) (fun q q1 q2 => ?_) (s + p) (by omega) (by omega)
    obtain ⟨x, rfl⟩ : ∃ x, q = s + x := ⟨q - s, by omega⟩
    rw [e (s + x), if_neg (by omega)]
    by_cases ex : s + x = s
    · rw [if_pos ex]; exact hy j (Nat.le_refl _)
    · rw [if_neg ex]; exact hy x (by omega)
  refine ⟨by rw [hp.length_eq, hl2]; exact hl, hp.trans ((swp_count D (by omega) (by omega)).trans h.perm), (h.out.trans (swp_out (a := s) (b := s + hi) (by omega) (by omega) (by omega)) (Nat.le_refl _) (Nat.le_refl _)).trans ho (by omega) (by omega), by omega, hg, fun p q h1 h2 h3 => ?_⟩
  by_cases eq : q = j
  · rw [eq, ej]
    exact hall _ (fun p hp => htop p (by omega)) p (by omega)
  · rw [e0 q (by omega)]
    by_cases ep : p < j
    · exact hall _ (fun r hr => h.so r q (by omega) h2 (by omega)) p ep
    · by_cases e2 : p = j
      · rw [e2, ej]; exact h.so 0 q (by omega) h2 (by omega)
      · rw [e0 p (by omega)]; exact h.so p q h1 h2 (by omega)
theorem PoI.done {l D : List Sl} {s hi n : Nat} (h : PoI l D s hi 0 n) : SegS D s (s + hi) := by
  intro p q h1 h2 h3
  have := h.so (p - s) (q - s) (by omega) (by omega) (by omega)
  unfold vA at this
  rwa [show s + (p - s) = p by omega, show s + (q - s) = q by omega] at this
end Go.Proofs.YtaffbklkjjmmdaaDoor
