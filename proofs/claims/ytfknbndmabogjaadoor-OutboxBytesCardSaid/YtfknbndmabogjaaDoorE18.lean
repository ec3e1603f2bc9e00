/-
  The walks and the laws that the statement leans on, part 18.
-/
import Derived.Test.YtfknbndmabogjaaDoorE10
import Derived.Test.YtfknbndmabogjaaDoorE17
namespace Go.Proofs.YtfknbndmabogjaaDoor
open Go
set_option linter.unusedVariables false
set_option linter.unusedSimpArgs false
set_option linter.defProp false
def TFOuE :=
  And.intro (And.intro (And.intro (And.intro (And.intro (And.intro tyc0 tyc2) (And.intro zmb2 tyc3)) (And.intro (And.intro zmb3 tyc4) (And.intro zmb4 (And.intro tyc23 foff23_0)))) (And.intro (And.intro (And.intro fpart23_0 foff23_1) (And.intro fpart23_1 foff23_2)) (And.intro (And.intro fpart23_2 foff23_3) (And.intro fpart23_3 (And.intro foff23_4 fpart23_4))))) (And.intro (And.intro (And.intro (And.intro fe23 zmb23) (And.intro bldT23 tyc24)) (And.intro (And.intro elt24 mkz24) (And.intro mkc24 (And.intro apT24 elk24)))) (And.intro (And.intro (And.intro zmb24 tyc25) (And.intro zmb25 (And.intro tyc27 foff27_0))) (And.intro (And.intro fpart27_0 foff27_1) (And.intro fpart27_1 (And.intro zmb27 bldT27)))))) (And.intro (And.intro (And.intro (And.intro (And.intro tyc29 foff29_0) (And.intro fpart29_0 foff29_1)) (And.intro (And.intro fpart29_1 foff29_2) (And.intro fpart29_2 (And.intro foff29_3 fpart29_3)))) (And.intro (And.intro (And.intro foff29_4 fpart29_4) (And.intro fe29 zmb29)) (And.intro (And.intro bldT29 tyc38) (And.intro foff38_0 (And.intro fpart38_0 foff38_1))))) (And.intro (And.intro (And.intro (And.intro fpart38_1 foff38_2) (And.intro fpart38_2 foff38_3)) (And.intro (And.intro fpart38_3 foff38_4) (And.intro fpart38_4 (And.intro zmb38 bldT38)))) (And.intro (And.intro (And.intro Tryd.underlying0 Tryd.underlying2) (And.intro Tryd.underlying3 (And.intro Tryd.underlying4 Tryd.underlying23))) (And.intro (And.intro Tryd.underlying24 Tryd.underlying25) (And.intro Tryd.underlying27 (And.intro Tryd.underlying29 Tryd.underlying38))))))
theorem Y1OuE {G R : Prop} (r : R) (h : R → G := by intro r; first | (apply WP.region; exact rvc_sound _ _ (Sm.out r)) | exact WP.drawK rfl mixed (by decide +kernel) (Sm.out r) | (apply WP.block; exact r) | (apply WP.skip; exact Yq r) | (apply WP.exit; exact Yq r) | (apply WP.ret; exact Sm.out r) | exact WP.cond rfl (fun _ => r) (fun hg => absurd hg (by decide)) | exact WP.cond rfl (fun hg => absurd hg (by decide)) (fun _ => r) | exact Rt.mk (And.intro (fun _ => Sm.out r) fun hg => absurd hg (by decide)) | exact Rt.mk (And.intro (fun hg => absurd hg (by decide)) fun _ => Sm.out r)) : G := h r
theorem YzOuE {G R : Prop} (r : R) (h : R → G := by intro r; first | (apply ExG.no; exact Sm.out r) | (apply Or.inl; apply ExG.no; exact Sm.out r) | exact Or.inl (And.intro (fun hg => absurd hg (by decide)) (ExG.no (Sm.out r)))) : G := h r
theorem YsOuE0 {P Q : Prop} (q : Q) (h : P = Q := by (try (conv => lhs; simp -dsimp only [ZK, rvc, capA, appA, litL, mkfv, drawF, headN, pureH, stp, dvc, calleeOf, gcall, pev, eff, newB, okd, og, ogs, ogo, ogp, slv, bltv, opd, litv, strip, one, both, putE, St.put, look, gdOf, gdv, picka, pickv, pickw, binv, bini, bins, binb, binp, binq, isSlT, bina, shp, eqCells, unv, convv, nilv, faddv, addp, idxav, idxp, load1, load1m, loadn, loadnm, loadv, hget, hset, hrep, hdel, slicev, slice3v, bnd, shift1, lenv, capv, IntKind.bits, extractv, fieldv, indexv, min2v, max2v, mkiv, tasv, tasz, cellsA, fillA, buildv, stC, oneC, rowMB, intsA, plN, appE, appZ, appC, appS, srcB, appNZ, appNC, VwL, srcC, srcZ, srcM, isBoolT, isPtrT, isSliceT, uOk, Value.oneCell', Nat.reducePow, Int.reducePow, Nat.reduceAdd, Nat.reduceMul, Nat.reduceSub, Nat.reduceLT, Nat.reduceLeDiff, Nat.reduceEqDiff, Nat.reduceBEq, Nat.reduceDiv, Nat.reduceMod, ↓reduceIte, reduceCtorEq, Int.reduceToNat, Int.reduceLT, Int.reduceLE, TFOuE, SeqQ, BlkQ, LoopQ, BodyQ, hin, FA.out, FR.out])) <;> exact rfl) : P := h.mpr q
theorem right_ct (e : En) (hz : Kz e.k) : ACt Tryd.prog 48 [ev e] [] (Fn (bv (erB e))) := by
  have c1 := kright_ct e.k hz
  have c2 := tick_ct e.b
  unfold erB
  obtain ⟨⟨kg, kr, kp, ke, ks⟩, eb, en, et, ea⟩ := e
  simp only at c1 c2 ⊢
  obtain ⟨x1, h1⟩ : ∃ x, krB ⟨kg, kr, kp, ke, ks⟩ = x := ⟨_, rfl⟩
  obtain ⟨x2, h2⟩ : ∃ x, tkB eb = x := ⟨_, rfl⟩
  obtain ⟨x3, h3⟩ : ∃ x, decide (en ≥ eb) = x := ⟨_, rfl⟩
  obtain ⟨x4, h4⟩ : ∃ x, decide (en ≤ 253404892799) = x := ⟨_, rfl⟩
  obtain ⟨x5, h5⟩ : ∃ x, decide (et ≥ 0) = x := ⟨_, rfl⟩
  obtain ⟨x6, h6⟩ : ∃ x, decide (et ≤ 1000000) = x := ⟨_, rfl⟩
  rw [h1] at c1
  rw [h2] at c2
  rw [h1, h2, h3, h4, h5, h6]
  refine ACt.intro Tryd.func48 rfl (by kernel_rfl) (by simp [Tryd.ntmps48]) (fun cx => ?_)
  simp only [argE, Tryd.ntmps48, Tryd.results48]
  first | (have FRx := FR; clear FRx) | have FR := fr0S
  have FA := Sm.mk (And.intro TFOuE (And.intro h3 (And.intro h4 (And.intro h5 h6))))
  repeat' first | (apply Sm.mk; refine Ys ?_) | refine WP.seq fun K hK => ?_ | (apply Ob.mk; exact Yo) | refine And.intro (Ob.out ?_) ?_ | refine Y1OuE ?_ | refine Yc (c := c1) (r := ?_) | refine Yc (c := c2) (r := ?_) | refine YzOuE ?_ | (refine WP.cond rfl (fun hc => ?_) (fun hc => ?_) <;> (try simp only [ZC, reduceCtorEq, ZD] at hc) <;> (try exact absurd hc (by decide)) <;> (try (exfalso; omega))) | refine Rt.mk (And.intro (fun hg => Sm.out ?_) fun hg => Sm.out ?_) | (refine Nu.mk ?_; first | (fail_if_success have := nb1); intro nb1 | (fail_if_success have := nb2); intro nb2 | (fail_if_success have := nb3); intro nb3 | (fail_if_success have := nb4); intro nb4 | (fail_if_success have := nb5); intro nb5 | (fail_if_success have := nb6); intro nb6 | intro nbz) | (apply Yfr; refine Yf FR fun hFRb FR => ?_) | refine Two.mk ?_ ?_ | (apply Yxc; exact Yx) | refine Cs.mk fun hcs => Sm.out ?_ | go_step | omega | (simp only [maxLen_eq]; omega) | exact trivial
  (refine Yg ?_; try exact trivial)
theorem bright_ct (b : Bx) (n : Nat) (hn : b.l.length = n) (hl : n ≤ 100000) (hz : ∀ e ∈ b.l, Kz e.k) : ACt Tryd.prog 16 [.agg [.sl n (ecs b.l), iv .u64 b.d]] [] (Fn (bv (bxB b))) := by
  have hCl := ecs_len b.l
  have hdr := ecs_drop b.l
  have hrg := fun (i : Nat) (h : i < b.l.length) => rg_drop b.l h
  have hre := fun (i : Nat) (h : b.l.length ≤ i) => rg_end b.l h
  have cF := fun k => find_ct b k n hn hl
  have cR := fun (e : En) (h : e ∈ b.l) => right_ct e (hz e h)
  unfold bxB
  obtain ⟨l, d⟩ := b
  simp only at hn hz hCl hdr hrg hre cF cR ⊢
  rw [hn] at hCl ⊢
  obtain ⟨C, hC⟩ : ∃ C, C = ecs l := ⟨_, rfl⟩
  rw [← hC] at hCl hdr cF ⊢
  obtain ⟨R, hR⟩ : ∃ R, R = rgB l l 0 := ⟨_, rfl⟩
  rw [← hR]
  obtain ⟨x, hx⟩ : ∃ x, decide ((n : Int) > 64) = x := ⟨_, rfl⟩
  obtain ⟨y, hy⟩ : ∃ y, decide (d > 9223372036854775807) = y := ⟨_, rfl⟩
  have hx' : decide (n ≤ 64) = !x := by rw [← hx, ← decide_not]; exact decide_eq_decide.2 (by omega)
  have hy' : decide (d ≤ 9223372036854775807) = !y := by rw [← hy, ← decide_not]; exact decide_eq_decide.2 (by omega)
  rw [hx', hy']
  refine ACt.intro Tryd.func16 rfl (by kernel_rfl) (by simp [Tryd.ntmps16]) (fun cx => ?_)
  simp only [argE, Tryd.ntmps16, Tryd.results16]
  first | (have FRx := FR; clear FRx) | have FR := fr0S
  have FA := Sm.mk (And.intro TFOuE (And.intro hx hy))
  repeat' first | (apply Sm.mk; refine Ys ?_) | refine WP.seq fun K hK => ?_ | (apply Ob.mk; exact Yo) | refine And.intro (Ob.out ?_) ?_ | refine Y1OuE ?_ | refine YzOuE ?_ | (refine WP.cond rfl (fun hc => ?_) (fun hc => ?_) <;> (try simp only [ZC, reduceCtorEq, ZD] at hc) <;> (try exact absurd hc (by decide)) <;> (try (exfalso; omega))) | refine Rt.mk (And.intro (fun hg => Sm.out ?_) fun hg => Sm.out ?_) | (refine Nu.mk ?_; first | (fail_if_success have := nb1); intro nb1 | (fail_if_success have := nb2); intro nb2 | (fail_if_success have := nb3); intro nb3 | (fail_if_success have := nb4); intro nb4 | (fail_if_success have := nb5); intro nb5 | (fail_if_success have := nb6); intro nb6 | intro nbz) | (apply Yfr; refine Yf FR fun hFRb FR => ?_) | refine Two.mk ?_ ?_ | (apply Yxc; exact Yx) | refine Cs.mk fun hcs => Sm.out ?_ | go_step | omega | (simp only [maxLen_eq]; omega) | exact trivial
  · have e : (!x && !y && R) = false := by rcases hc with h | h <;> rw [h] <;> simp
    (have FA := Sm.mk (And.intro e FA.out); refine Yg ?_; try exact trivial)
  · have hx0 := hc.1
    have hy0 := hc.2
    refine WP.loop (Γ := Nat) (fun i => ⟨[(17, iv .i64 (i : Int)), (16, iv .i64 (n : Int)), (15, .sl n C), (1, pt nb1 0)], [(nb1, .cells [.sl n C, iv .u64 d] 2 27)]⟩) (fun i => i ≤ n ∧ R = rgB l (l.drop i) i) (fun i => n - i) 0 ⟨Nat.zero_le _, by rw [List.drop_zero]; exact hR⟩ (Sub.pick (by simp [pickB, hget, hdel, FR.out]) (by simp [look])) ?_
    intro i ⟨hi, hr⟩
    have FR : Sm (¬ ((1 : Nat) = 0)) := Sm.mk Nat.one_ne_zero
    by_cases hin : i < n
    · have ki : decide ((i : Int) < (n : Int)) = true := decide_eq_true (by omega)
      have s1 : IntKind.i64.wrap ((i : Int) + 1) = ((i + 1 : Nat) : Int) := by rw [wrap_i64 (by omega) (by omega)]; omega
      have hd := hdr i (by omega)
      rw [hrg i (by omega)] at hr
      have cR := cR (l[i]'(by omega)) (List.getElem_mem _)
      have cF := cF (l[i]'(by omega)).k
      obtain ⟨v, hv⟩ : ∃ v, v = l[i]'(by omega) := ⟨_, rfl⟩
      rw [← hv] at hd hr cR cF
      obtain ⟨p, hp⟩ : ∃ p, erB v = p := ⟨_, rfl⟩
      rw [hp] at hr cR
      obtain ⟨w, hw⟩ : ∃ w : Int, ixE l v.k 0 = w := ⟨_, rfl⟩
      rw [hw] at hr cF
      obtain ⟨q, hq⟩ : ∃ q, (w == (i : Int)) = q := ⟨_, rfl⟩
      rw [hq] at hr
      have q1 : (i + 1) * 9 ≤ C.length := by omega
      obtain ⟨⟨kg, kr, kp, ke, ks⟩, eb, en, et, ea⟩ := v
      simp only at hd cR cF
      first | (have FRx := FR; clear FRx) | have FR := fr0S
      have FA := Sm.mk (And.intro TFOuE (And.intro ki (And.intro hd (And.intro q1 (And.intro s1 hq)))))
      repeat' first | (apply Sm.mk; refine YsOuE0 ?_) | refine WP.seq fun K hK => ?_ | (apply Ob.mk; exact Yo) | refine And.intro (Ob.out ?_) ?_ | refine Y1OuE ?_ | refine Yc (c := cR) (r := ?_) | refine Yc (c := cF) (r := ?_) | refine YzOuE ?_ | (refine WP.cond rfl (fun hc => ?_) (fun hc => ?_) <;> (try simp only [ZC, reduceCtorEq, ZD] at hc) <;> (try exact absurd hc (by decide)) <;> (try (exfalso; omega))) | refine Rt.mk (And.intro (fun hg => Sm.out ?_) fun hg => Sm.out ?_) | (refine Nu.mk ?_; first | (fail_if_success have := nb1); intro nb1 | (fail_if_success have := nb2); intro nb2 | (fail_if_success have := nb3); intro nb3 | (fail_if_success have := nb4); intro nb4 | (fail_if_success have := nb5); intro nb5 | (fail_if_success have := nb6); intro nb6 | intro nbz) | (apply Yfr; refine Yf FR fun hFRb FR => ?_) | refine Two.mk ?_ ?_ | (apply Yxc; exact Yx) | refine Cs.mk fun hcs => Sm.out ?_ | go_step | omega | (simp only [maxLen_eq]; omega) | exact trivial
      · have e2 : R = false := by
          rw [hr]
          rcases hc with h | h
          · rw [h]; simp
          · have h3 : q = false := by rw [← hq]; simpa using h
            rw [h3]; simp
        (refine OutQ.all ?_ ?_; (focus (simp only [resv, ZK, look, loadv, loadn, loadnm, load1, load1m, hget, ↓reduceIte, Nat.reduceEqDiff, Nat.reduceAdd, Nat.reduceMul, Nat.reduceLeDiff, Nat.reduceLT, reduceCtorEq, TFOuE, e2, hx0, hy0, Bool.not_false, Bool.true_and])); (try simp only [resv, resA, Fn, ZK, look, loadv, loadn, loadnm, load1, load1m, hget, ↓reduceIte, Nat.reduceEqDiff, Nat.reduceAdd, Nat.reduceMul, Nat.reduceLeDiff, Nat.reduceLT, reduceCtorEq, TFOuE, e2, hx0, hy0, Bool.not_false, Bool.true_and]); (try simp [resA, Fn, look, e2, hx0, hy0, Bool.not_false, Bool.true_and]))
      · have h3 : q = true := by rw [← hq]; simpa using hc.2
        rw [hc.1, h3] at hr
        exact ⟨i + 1, ⟨by omega, hr⟩, by omega, (Sub.pick (by simp [pickB, hget, hdel, FR.out]) (by simp [look]))⟩
    · have ki : decide ((i : Int) < (n : Int)) = false := decide_eq_false (by omega)
      rw [hre i (by omega)] at hr
      first | (have FRx := FR; clear FRx) | have FR := fr0S
      have FA := Sm.mk (And.intro TFOuE ki)
      repeat' first | (apply Sm.mk; refine Ys ?_) | refine WP.seq fun K hK => ?_ | (apply Ob.mk; exact Yo) | refine And.intro (Ob.out ?_) ?_ | refine Y1OuE ?_ | refine YzOuE ?_ | (refine WP.cond rfl (fun hc => ?_) (fun hc => ?_) <;> (try simp only [ZC, reduceCtorEq, ZD] at hc) <;> (try exact absurd hc (by decide)) <;> (try (exfalso; omega))) | refine Rt.mk (And.intro (fun hg => Sm.out ?_) fun hg => Sm.out ?_) | (refine Nu.mk ?_; first | (fail_if_success have := nb1); intro nb1 | (fail_if_success have := nb2); intro nb2 | (fail_if_success have := nb3); intro nb3 | (fail_if_success have := nb4); intro nb4 | (fail_if_success have := nb5); intro nb5 | (fail_if_success have := nb6); intro nb6 | intro nbz) | (apply Yfr; refine Yf FR fun hFRb FR => ?_) | refine Two.mk ?_ ?_ | (apply Yxc; exact Yx) | refine Cs.mk fun hcs => Sm.out ?_ | go_step | omega | (simp only [maxLen_eq]; omega) | exact trivial
      (refine OutQ.all ?_ ?_; (focus (simp only [resv, ZK, look, loadv, loadn, loadnm, load1, load1m, hget, ↓reduceIte, Nat.reduceEqDiff, Nat.reduceAdd, Nat.reduceMul, Nat.reduceLeDiff, Nat.reduceLT, reduceCtorEq, TFOuE, hr, hx0, hy0, Bool.not_false, Bool.true_and])); (try simp only [resv, resA, Fn, ZK, look, loadv, loadn, loadnm, load1, load1m, hget, ↓reduceIte, Nat.reduceEqDiff, Nat.reduceAdd, Nat.reduceMul, Nat.reduceLeDiff, Nat.reduceLT, reduceCtorEq, TFOuE, hr, hx0, hy0, Bool.not_false, Bool.true_and]); (try simp [resA, Fn, look, hr, hx0, hy0, Bool.not_false, Bool.true_and]))
theorem rbright_ct (b : Bx) (n : Nat) (hn : b.l.length = n) (hl : n ≤ 100000) (hz : ∀ e ∈ b.l, Kz e.k) : ACt Tryd.prog 12 [.agg [.sl n (ecs b.l), iv .u64 b.d]] [] (Fn (bv (bxB b))) := by
  have hCl := ecs_len b.l
  have hdr := ecs_drop b.l
  have hrg := fun (i : Nat) (h : i < b.l.length) => rg_drop b.l h
  have hre := fun (i : Nat) (h : b.l.length ≤ i) => rg_end b.l h
  have cF := fun k => rfind_ct b k n hn hl
  have cR := fun (e : En) (h : e ∈ b.l) => rkright_ct e.k (hz e h)
  have cT := fun (e : En) => rtick_ct e.b
  unfold bxB
  obtain ⟨l, d⟩ := b
  simp only at hn hz hCl hdr hrg hre cF cR ⊢
  rw [hn] at hCl ⊢
  obtain ⟨C, hC⟩ : ∃ C, C = ecs l := ⟨_, rfl⟩
  rw [← hC] at hCl hdr cF ⊢
  obtain ⟨R, hR⟩ : ∃ R, R = rgB l l 0 := ⟨_, rfl⟩
  rw [← hR]
  obtain ⟨x, hx⟩ : ∃ x, decide ((n : Int) > 64) = x := ⟨_, rfl⟩
  obtain ⟨y, hy⟩ : ∃ y, decide (d > 9223372036854775807) = y := ⟨_, rfl⟩
  have hx' : decide (n ≤ 64) = !x := by rw [← hx, ← decide_not]; exact decide_eq_decide.2 (by omega)
  have hy' : decide (d ≤ 9223372036854775807) = !y := by rw [← hy, ← decide_not]; exact decide_eq_decide.2 (by omega)
  rw [hx', hy']
  refine ACt.intro Tryd.func12 rfl (by kernel_rfl) (by simp [Tryd.ntmps12]) (fun cx => ?_)
  simp only [argE, Tryd.ntmps12, Tryd.results12]
  first | (have FRx := FR; clear FRx) | have FR := fr0S
  have FA := Sm.mk (And.intro TFOuE (And.intro hx hy))
  repeat' first | (apply Sm.mk; refine Ys ?_) | refine WP.seq fun K hK => ?_ | (apply Ob.mk; exact Yo) | refine And.intro (Ob.out ?_) ?_ | refine Y1OuE ?_ | refine YzOuE ?_ | (refine WP.cond rfl (fun hc => ?_) (fun hc => ?_) <;> (try simp only [ZC, reduceCtorEq, ZD] at hc) <;> (try exact absurd hc (by decide)) <;> (try (exfalso; omega))) | refine Rt.mk (And.intro (fun hg => Sm.out ?_) fun hg => Sm.out ?_) | (refine Nu.mk ?_; first | (fail_if_success have := nb1); intro nb1 | (fail_if_success have := nb2); intro nb2 | (fail_if_success have := nb3); intro nb3 | (fail_if_success have := nb4); intro nb4 | (fail_if_success have := nb5); intro nb5 | (fail_if_success have := nb6); intro nb6 | intro nbz) | (apply Yfr; refine Yf FR fun hFRb FR => ?_) | refine Two.mk ?_ ?_ | (apply Yxc; exact Yx) | refine Cs.mk fun hcs => Sm.out ?_ | go_step | omega | (simp only [maxLen_eq]; omega) | exact trivial
  · have e : (!x && !y && R) = false := by rcases hc with h | h <;> rw [h] <;> simp
    (have FA := Sm.mk (And.intro e FA.out); refine Yg ?_; try exact trivial)
  · have hx0 := hc.1
    have hy0 := hc.2
    refine WP.loop (Γ := Nat) (fun i => ⟨[(3, iv .i64 (i : Int)), (1, pt nb1 0)], [(nb1, .cells [.sl n C, iv .u64 d] 2 27)]⟩) (fun i => i ≤ n ∧ R = rgB l (l.drop i) i) (fun i => n - i) 0 ⟨Nat.zero_le _, by rw [List.drop_zero]; exact hR⟩ (Sub.pick (by simp [pickB, hget, hdel, FR.out]) (by simp [look])) ?_
    intro i ⟨hi, hr⟩
    have FR : Sm (¬ ((1 : Nat) = 0)) := Sm.mk Nat.one_ne_zero
    by_cases hin : i < n
    · have ki : decide ((i : Int) < (n : Int)) = true := decide_eq_true (by omega)
      have s1 : IntKind.i64.wrap ((i : Int) + 1) = ((i + 1 : Nat) : Int) := by rw [wrap_i64 (by omega) (by omega)]; omega
      have hd := hdr i (by omega)
      rw [hrg i (by omega)] at hr
      have cR := cR (l[i]'(by omega)) (List.getElem_mem _)
      have cF := cF (l[i]'(by omega)).k
      have cT := cT (l[i]'(by omega))
      obtain ⟨v, hv⟩ : ∃ v, v = l[i]'(by omega) := ⟨_, rfl⟩
      rw [← hv] at hd hr cR cF cT
      obtain ⟨w, hw⟩ : ∃ w : Int, ixE l v.k 0 = w := ⟨_, rfl⟩
      rw [hw] at hr cF
      obtain ⟨q, hq⟩ : ∃ q, (w == (i : Int)) = q := ⟨_, rfl⟩
      rw [hq] at hr
      have q1 : (i + 1) * 9 ≤ C.length := by omega
      unfold erB at hr
      obtain ⟨⟨kg, kr, kp, ke, ks⟩, eb, en, et, ea⟩ := v
      simp only at hd cR cF cT hr
      obtain ⟨x1, h1⟩ : ∃ x, krB ⟨kg, kr, kp, ke, ks⟩ = x := ⟨_, rfl⟩
      obtain ⟨x2, h2⟩ : ∃ x, tkB eb = x := ⟨_, rfl⟩
      obtain ⟨x3, h3⟩ : ∃ x, decide (en < eb) = x := ⟨_, rfl⟩
      obtain ⟨x4, h4⟩ : ∃ x, decide (en > 253404892799) = x := ⟨_, rfl⟩
      obtain ⟨x5, h5⟩ : ∃ x, decide (et < 0) = x := ⟨_, rfl⟩
      obtain ⟨x6, h6⟩ : ∃ x, decide (et > 1000000) = x := ⟨_, rfl⟩
      have g3 : decide (en ≥ eb) = !x3 := by rw [← h3, ← decide_not]; exact decide_eq_decide.2 (by omega)
      have g4 : decide (en ≤ 253404892799) = !x4 := by rw [← h4, ← decide_not]; exact decide_eq_decide.2 (by omega)
      have g5 : decide (et ≥ 0) = !x5 := by rw [← h5, ← decide_not]; exact decide_eq_decide.2 (by omega)
      have g6 : decide (et ≤ 1000000) = !x6 := by rw [← h6, ← decide_not]; exact decide_eq_decide.2 (by omega)
      rw [h1, h2, g3, g4, g5, g6] at hr
      rw [h1] at cR
      rw [h2] at cT
      first | (have FRx := FR; clear FRx) | have FR := fr0S
      have FA := Sm.mk (And.intro TFOuE (And.intro ki (And.intro hd (And.intro q1 (And.intro s1 (And.intro hq (And.intro h3 (And.intro h4 (And.intro h5 h6)))))))))
      repeat' first | (apply Sm.mk; refine YsOuE0 ?_) | refine WP.seq fun K hK => ?_ | (apply Ob.mk; exact Yo) | refine And.intro (Ob.out ?_) ?_ | refine Y1OuE ?_ | refine Yc (c := cR) (r := ?_) | refine Yc (c := cT) (r := ?_) | refine Yc (c := cF) (r := ?_) | refine YzOuE ?_ | (refine WP.cond rfl (fun hc => ?_) (fun hc => ?_) <;> (try simp only [ZC, reduceCtorEq, ZD] at hc) <;> (try exact absurd hc (by decide)) <;> (try (exfalso; omega))) | refine Rt.mk (And.intro (fun hg => Sm.out ?_) fun hg => Sm.out ?_) | (refine Nu.mk ?_; first | (fail_if_success have := nb1); intro nb1 | (fail_if_success have := nb2); intro nb2 | (fail_if_success have := nb3); intro nb3 | (fail_if_success have := nb4); intro nb4 | (fail_if_success have := nb5); intro nb5 | (fail_if_success have := nb6); intro nb6 | intro nbz) | (apply Yfr; refine Yf FR fun hFRb FR => ?_) | refine Two.mk ?_ ?_ | (apply Yxc; exact Yx) | refine Cs.mk fun hcs => Sm.out ?_ | go_step | omega | (simp only [maxLen_eq]; omega) | exact trivial
      · have e2 : R = false := by
          rw [hr]
          revert hc
          rw [← hq]
          cases x1 <;> cases x2 <;> cases x3 <;> cases x4 <;> cases x5 <;> cases x6 <;> simp
          intro g1 g2; exact absurd g2 g1
        (refine OutQ.all ?_ ?_; (focus (simp only [resv, ZK, look, loadv, loadn, loadnm, load1, load1m, hget, ↓reduceIte, Nat.reduceEqDiff, Nat.reduceAdd, Nat.reduceMul, Nat.reduceLeDiff, Nat.reduceLT, reduceCtorEq, TFOuE, e2, hx0, hy0, Bool.not_false, Bool.true_and])); (try simp only [resv, resA, Fn, ZK, look, loadv, loadn, loadnm, load1, load1m, hget, ↓reduceIte, Nat.reduceEqDiff, Nat.reduceAdd, Nat.reduceMul, Nat.reduceLeDiff, Nat.reduceLT, reduceCtorEq, TFOuE, e2, hx0, hy0, Bool.not_false, Bool.true_and]); (try simp [resA, Fn, look, e2, hx0, hy0, Bool.not_false, Bool.true_and]))
      · have hr2 : R = rgB l (List.drop (i + 1) l) (i + 1) := by
          rw [hr]
          revert hc
          rw [← hq]
          cases x1 <;> cases x2 <;> cases x3 <;> cases x4 <;> cases x5 <;> cases x6 <;> simp
          try (intro h; simp [h])
        exact ⟨i + 1, ⟨by omega, hr2⟩, by omega, (Sub.pick (by simp [pickB, hget, hdel, FR.out]) (by simp [look]))⟩
    · have ki : decide ((i : Int) < (n : Int)) = false := decide_eq_false (by omega)
      rw [hre i (by omega)] at hr
      first | (have FRx := FR; clear FRx) | have FR := fr0S
      have FA := Sm.mk (And.intro TFOuE ki)
      repeat' first | (apply Sm.mk; refine Ys ?_) | refine WP.seq fun K hK => ?_ | (apply Ob.mk; exact Yo) | refine And.intro (Ob.out ?_) ?_ | refine Y1OuE ?_ | refine YzOuE ?_ | (refine WP.cond rfl (fun hc => ?_) (fun hc => ?_) <;> (try simp only [ZC, reduceCtorEq, ZD] at hc) <;> (try exact absurd hc (by decide)) <;> (try (exfalso; omega))) | refine Rt.mk (And.intro (fun hg => Sm.out ?_) fun hg => Sm.out ?_) | (refine Nu.mk ?_; first | (fail_if_success have := nb1); intro nb1 | (fail_if_success have := nb2); intro nb2 | (fail_if_success have := nb3); intro nb3 | (fail_if_success have := nb4); intro nb4 | (fail_if_success have := nb5); intro nb5 | (fail_if_success have := nb6); intro nb6 | intro nbz) | (apply Yfr; refine Yf FR fun hFRb FR => ?_) | refine Two.mk ?_ ?_ | (apply Yxc; exact Yx) | refine Cs.mk fun hcs => Sm.out ?_ | go_step | omega | (simp only [maxLen_eq]; omega) | exact trivial
      (refine OutQ.all ?_ ?_; (focus (simp only [resv, ZK, look, loadv, loadn, loadnm, load1, load1m, hget, ↓reduceIte, Nat.reduceEqDiff, Nat.reduceAdd, Nat.reduceMul, Nat.reduceLeDiff, Nat.reduceLT, reduceCtorEq, TFOuE, hr, hx0, hy0, Bool.not_false, Bool.true_and])); (try simp only [resv, resA, Fn, ZK, look, loadv, loadn, loadnm, load1, load1m, hget, ↓reduceIte, Nat.reduceEqDiff, Nat.reduceAdd, Nat.reduceMul, Nat.reduceLeDiff, Nat.reduceLT, reduceCtorEq, TFOuE, hr, hx0, hy0, Bool.not_false, Bool.true_and]); (try simp [resA, Fn, look, hr, hx0, hy0, Bool.not_false, Bool.true_and]))
end Go.Proofs.YtfknbndmabogjaaDoor
