/-
  The walks and the laws that the statement leans on, part 17.
-/
import Derived.Test.YtfknbndmabogjaaDoorE10
import Derived.Test.YtfknbndmabogjaaDoorE16
namespace Go.Proofs.YtfknbndmabogjaaDoor
open Go
set_option linter.unusedVariables false
set_option linter.unusedSimpArgs false
set_option linter.defProp false
def TFOuC :=
  And.intro (And.intro (And.intro (And.intro (And.intro (And.intro tyc0 tyc2) (And.intro zmb2 tyc3)) (And.intro (And.intro zmb3 tyc4) (And.intro zmb4 tyc9))) (And.intro (And.intro (And.intro zmb9 tyc23) (And.intro foff23_0 fpart23_0)) (And.intro (And.intro foff23_1 fpart23_1) (And.intro foff23_2 (And.intro fpart23_2 foff23_3))))) (And.intro (And.intro (And.intro (And.intro fpart23_3 foff23_4) (And.intro fpart23_4 fe23)) (And.intro (And.intro zmb23 bldT23) (And.intro tyc108 (And.intro elt108 mkz108)))) (And.intro (And.intro (And.intro mkc108 apT108) (And.intro elk108 zmb108)) (And.intro (And.intro tyc110 foff110_0) (And.intro fpart110_0 (And.intro foff110_1 fpart110_1)))))) (And.intro (And.intro (And.intro (And.intro (And.intro zmb110 bldT110) (And.intro tyc143 foff143_0)) (And.intro (And.intro fpart143_0 foff143_1) (And.intro fpart143_1 (And.intro foff143_2 fpart143_2)))) (And.intro (And.intro (And.intro foff143_3 fpart143_3) (And.intro foff143_4 fpart143_4)) (And.intro (And.intro foff143_5 fpart143_5) (And.intro foff143_6 (And.intro fpart143_6 foff143_7))))) (And.intro (And.intro (And.intro (And.intro fpart143_7 zmb143) (And.intro bldT143 tyc148)) (And.intro (And.intro zmb148 tyc154) (And.intro zmb154 (And.intro Tryd.underlying0 Tryd.underlying2)))) (And.intro (And.intro (And.intro Tryd.underlying3 Tryd.underlying4) (And.intro Tryd.underlying9 Tryd.underlying23)) (And.intro (And.intro Tryd.underlying108 Tryd.underlying110) (And.intro Tryd.underlying143 (And.intro Tryd.underlying148 Tryd.underlying154))))))
theorem Y1OuC {G R : Prop} (r : R) (h : R → G := by intro r; first | (apply WP.region; exact rvc_sound _ _ (Sm.out r)) | exact WP.drawK rfl mixed (by decide +kernel) (Sm.out r) | (apply WP.block; exact r) | (apply WP.skip; exact Yq r) | (apply WP.exit; exact Yq r) | (apply WP.ret; exact Sm.out r) | exact WP.cond rfl (fun _ => r) (fun hg => absurd hg (by decide)) | exact WP.cond rfl (fun hg => absurd hg (by decide)) (fun _ => r) | exact Rt.mk (And.intro (fun _ => Sm.out r) fun hg => absurd hg (by decide)) | exact Rt.mk (And.intro (fun hg => absurd hg (by decide)) fun _ => Sm.out r)) : G := h r
theorem YzOuC {G R : Prop} (r : R) (h : R → G := by intro r; first | (apply ExG.no; exact Sm.out r) | (apply Or.inl; apply ExG.no; exact Sm.out r) | exact Or.inl (And.intro (fun hg => absurd hg (by decide)) (ExG.no (Sm.out r)))) : G := h r
theorem YsOuC0 {P Q : Prop} (q : Q) (h : P = Q := by (try (conv => lhs; simp -dsimp only [ZK, rvc, capA, appA, litL, mkfv, drawF, headN, pureH, stp, dvc, calleeOf, gcall, pev, eff, newB, okd, og, ogs, ogo, ogp, slv, bltv, opd, litv, strip, one, both, putE, St.put, look, gdOf, gdv, picka, pickv, pickw, binv, bini, bins, binb, binp, binq, isSlT, bina, shp, eqCells, unv, convv, nilv, faddv, addp, idxav, idxp, load1, load1m, loadn, loadnm, loadv, hget, hset, hrep, hdel, slicev, slice3v, bnd, shift1, lenv, capv, IntKind.bits, extractv, fieldv, indexv, min2v, max2v, mkiv, tasv, tasz, cellsA, fillA, buildv, stC, oneC, rowMB, intsA, plN, appE, appZ, appC, appS, srcB, appNZ, appNC, VwL, srcC, srcZ, srcM, isBoolT, isPtrT, isSliceT, uOk, Value.oneCell', Nat.reducePow, Int.reducePow, Nat.reduceAdd, Nat.reduceMul, Nat.reduceSub, Nat.reduceLT, Nat.reduceLeDiff, Nat.reduceEqDiff, Nat.reduceBEq, Nat.reduceDiv, Nat.reduceMod, ↓reduceIte, reduceCtorEq, Int.reduceToNat, Int.reduceLT, Int.reduceLE, TFOuC, SeqQ, BlkQ, LoopQ, BodyQ, Int.natCast_zero, FA.out, FR.out])) <;> exact rfl) : P := h.mpr q
theorem tick_ct (n : Int) : ACt Tryd.prog 44 [iv .i64 n] [] (Fn (bv (tkB n))) := by
  have e : tkB n = (decide (n ≥ 0) && decide (n ≤ 253402300799)) := by unfold tkB; rw [Bool.eq_iff_iff]; simp
  rw [e]
  obtain ⟨x, hx⟩ : ∃ x, decide (n ≥ 0) = x := ⟨_, rfl⟩
  obtain ⟨y, hy⟩ : ∃ y, decide (n ≤ 253402300799) = y := ⟨_, rfl⟩
  rw [hx, hy]
  refine ACt.intro Tryd.func44 rfl (by kernel_rfl) (by simp [Tryd.ntmps44]) (fun cx => ?_)
  simp only [argE, Tryd.ntmps44, Tryd.results44]
  first | (have FRx := FR; clear FRx) | have FR := fr0S
  have FA := Sm.mk (And.intro TFOuC (And.intro hx hy))
  repeat' first | (apply Sm.mk; refine Ys ?_) | refine WP.seq fun K hK => ?_ | (apply Ob.mk; exact Yo) | refine And.intro (Ob.out ?_) ?_ | refine Y1OuC ?_ | refine YzOuC ?_ | (refine WP.cond rfl (fun hc => ?_) (fun hc => ?_) <;> (try simp only [ZC, reduceCtorEq, ZD] at hc) <;> (try exact absurd hc (by decide)) <;> (try (exfalso; omega))) | refine Rt.mk (And.intro (fun hg => Sm.out ?_) fun hg => Sm.out ?_) | (refine Nu.mk ?_; first | (fail_if_success have := nb1); intro nb1 | (fail_if_success have := nb2); intro nb2 | (fail_if_success have := nb3); intro nb3 | (fail_if_success have := nb4); intro nb4 | (fail_if_success have := nb5); intro nb5 | (fail_if_success have := nb6); intro nb6 | intro nbz) | (apply Yfr; refine Yf FR fun hFRb FR => ?_) | refine Two.mk ?_ ?_ | (apply Yxc; exact Yx) | refine Cs.mk fun hcs => Sm.out ?_ | go_step | omega | (simp only [maxLen_eq]; omega) | exact trivial
  (refine Yg ?_; try exact trivial)
theorem rtick_ct (n : Int) : ACt Tryd.prog 40 [iv .i64 n] [] (Fn (bv (tkB n))) := by
  have e : tkB n = (decide (n ≥ 0) && decide (n ≤ 253402300799)) := by unfold tkB; rw [Bool.eq_iff_iff]; simp
  rw [e]
  obtain ⟨x, hx⟩ : ∃ x, decide (n ≥ 0) = x := ⟨_, rfl⟩
  obtain ⟨y, hy⟩ : ∃ y, decide (n ≤ 253402300799) = y := ⟨_, rfl⟩
  rw [hx, hy]
  refine ACt.intro Tryd.func40 rfl (by kernel_rfl) (by simp [Tryd.ntmps40]) (fun cx => ?_)
  simp only [argE, Tryd.ntmps40, Tryd.results40]
  first | (have FRx := FR; clear FRx) | have FR := fr0S
  have FA := Sm.mk (And.intro TFOuC (And.intro hx hy))
  repeat' first | (apply Sm.mk; refine Ys ?_) | refine WP.seq fun K hK => ?_ | (apply Ob.mk; exact Yo) | refine And.intro (Ob.out ?_) ?_ | refine Y1OuC ?_ | refine YzOuC ?_ | (refine WP.cond rfl (fun hc => ?_) (fun hc => ?_) <;> (try simp only [ZC, reduceCtorEq, ZD] at hc) <;> (try exact absurd hc (by decide)) <;> (try (exfalso; omega))) | refine Rt.mk (And.intro (fun hg => Sm.out ?_) fun hg => Sm.out ?_) | (refine Nu.mk ?_; first | (fail_if_success have := nb1); intro nb1 | (fail_if_success have := nb2); intro nb2 | (fail_if_success have := nb3); intro nb3 | (fail_if_success have := nb4); intro nb4 | (fail_if_success have := nb5); intro nb5 | (fail_if_success have := nb6); intro nb6 | intro nbz) | (apply Yfr; refine Yf FR fun hFRb FR => ?_) | refine Two.mk ?_ ?_ | (apply Yxc; exact Yx) | refine Cs.mk fun hcs => Sm.out ?_ | go_step | omega | (simp only [maxLen_eq]; omega) | exact trivial
  (refine Yg ?_; try exact trivial)
def btB (n lo hi : Int) : Bool := decide (n ≥ lo) && decide (n ≤ hi)
theorem between_ct (n lo hi : Int) : ACt Tryd.prog 99 [iv .i64 n, iv .i64 lo, iv .i64 hi] [] (Fn (bv (btB n lo hi))) := by
  unfold btB
  obtain ⟨x, hx⟩ : ∃ x, decide (n ≥ lo) = x := ⟨_, rfl⟩
  obtain ⟨y, hy⟩ : ∃ y, decide (n ≤ hi) = y := ⟨_, rfl⟩
  rw [hx, hy]
  refine ACt.intro Tryd.func99 rfl (by kernel_rfl) (by simp [Tryd.ntmps99]) (fun cx => ?_)
  simp only [argE, Tryd.ntmps99, Tryd.results99]
  first | (have FRx := FR; clear FRx) | have FR := fr0S
  have FA := Sm.mk (And.intro TFOuC (And.intro hx hy))
  repeat' first | (apply Sm.mk; refine Ys ?_) | refine WP.seq fun K hK => ?_ | (apply Ob.mk; exact Yo) | refine And.intro (Ob.out ?_) ?_ | refine Y1OuC ?_ | refine YzOuC ?_ | (refine WP.cond rfl (fun hc => ?_) (fun hc => ?_) <;> (try simp only [ZC, reduceCtorEq, ZD] at hc) <;> (try exact absurd hc (by decide)) <;> (try (exfalso; omega))) | refine Rt.mk (And.intro (fun hg => Sm.out ?_) fun hg => Sm.out ?_) | (refine Nu.mk ?_; first | (fail_if_success have := nb1); intro nb1 | (fail_if_success have := nb2); intro nb2 | (fail_if_success have := nb3); intro nb3 | (fail_if_success have := nb4); intro nb4 | (fail_if_success have := nb5); intro nb5 | (fail_if_success have := nb6); intro nb6 | intro nbz) | (apply Yfr; refine Yf FR fun hFRb FR => ?_) | refine Two.mk ?_ ?_ | (apply Yxc; exact Yx) | refine Cs.mk fun hcs => Sm.out ?_ | go_step | omega | (simp only [maxLen_eq]; omega) | exact trivial
  (refine Yg ?_; try exact trivial)
theorem between64_ct (n lo hi : Int) : ACt Tryd.prog 100 [iv .i64 n, iv .i64 lo, iv .i64 hi] [] (Fn (bv (btB n lo hi))) := by
  unfold btB
  obtain ⟨x, hx⟩ : ∃ x, decide (n ≥ lo) = x := ⟨_, rfl⟩
  obtain ⟨y, hy⟩ : ∃ y, decide (n ≤ hi) = y := ⟨_, rfl⟩
  rw [hx, hy]
  refine ACt.intro Tryd.func100 rfl (by kernel_rfl) (by simp [Tryd.ntmps100]) (fun cx => ?_)
  simp only [argE, Tryd.ntmps100, Tryd.results100]
  first | (have FRx := FR; clear FRx) | have FR := fr0S
  have FA := Sm.mk (And.intro TFOuC (And.intro hx hy))
  repeat' first | (apply Sm.mk; refine Ys ?_) | refine WP.seq fun K hK => ?_ | (apply Ob.mk; exact Yo) | refine And.intro (Ob.out ?_) ?_ | refine Y1OuC ?_ | refine YzOuC ?_ | (refine WP.cond rfl (fun hc => ?_) (fun hc => ?_) <;> (try simp only [ZC, reduceCtorEq, ZD] at hc) <;> (try exact absurd hc (by decide)) <;> (try (exfalso; omega))) | refine Rt.mk (And.intro (fun hg => Sm.out ?_) fun hg => Sm.out ?_) | (refine Nu.mk ?_; first | (fail_if_success have := nb1); intro nb1 | (fail_if_success have := nb2); intro nb2 | (fail_if_success have := nb3); intro nb3 | (fail_if_success have := nb4); intro nb4 | (fail_if_success have := nb5); intro nb5 | (fail_if_success have := nb6); intro nb6 | intro nbz) | (apply Yfr; refine Yf FR fun hFRb FR => ?_) | refine Two.mk ?_ ?_ | (apply Yxc; exact Yx) | refine Cs.mk fun hcs => Sm.out ?_ | go_step | omega | (simp only [maxLen_eq]; omega) | exact trivial
  (refine Yg ?_; try exact trivial)
abbrev fNm : AV := .lit (.func (.func 102) #[] #[])
theorem unlike_ct : ACt Tryd.prog 101 [.lit (.slice none 0 0), fNm] [] (Fn (bv true)) := by
  unfold fNm
  refine ACt.intro Tryd.func101 rfl (by kernel_rfl) (by simp [Tryd.ntmps101]) (fun cx => ?_)
  simp only [argE, Tryd.ntmps101, Tryd.results101]
  first | (have FRx := FR; clear FRx) | have FR := fr0S
  have FA := Sm.mk (TFOuC)
  repeat' first | (apply Sm.mk; refine Ys ?_) | refine WP.seq fun K hK => ?_ | (apply Ob.mk; exact Yo) | refine And.intro (Ob.out ?_) ?_ | refine Y1OuC ?_ | refine YzOuC ?_ | (refine WP.cond rfl (fun hc => ?_) (fun hc => ?_) <;> (try simp only [ZC, reduceCtorEq, ZD] at hc) <;> (try exact absurd hc (by decide)) <;> (try (exfalso; omega))) | refine Rt.mk (And.intro (fun hg => Sm.out ?_) fun hg => Sm.out ?_) | (refine Nu.mk ?_; first | (fail_if_success have := nb1); intro nb1 | (fail_if_success have := nb2); intro nb2 | (fail_if_success have := nb3); intro nb3 | (fail_if_success have := nb4); intro nb4 | (fail_if_success have := nb5); intro nb5 | (fail_if_success have := nb6); intro nb6 | intro nbz) | (apply Yfr; refine Yf FR fun hFRb FR => ?_) | refine Two.mk ?_ ?_ | (apply Yxc; exact Yx) | refine Cs.mk fun hcs => Sm.out ?_ | go_step | omega | (simp only [maxLen_eq]; omega) | exact trivial
  refine WP.loop (Γ := Unit) (fun _ => ⟨[(11, iv .i64 0), (10, iv .i64 0), (5, .lit (.map (some nb1))), (0, .lit (.slice none 0 0))], [(nb1, .obj (.map #[] 0))]⟩) (fun _ => True) (fun _ => 0) () trivial (Sub.pick (by simp [pickB, hget, hdel, FR.out]) (by simp [look])) ?_
  intro _ _
  have FR : Sm (¬ ((1 : Nat) = 0)) := Sm.mk Nat.one_ne_zero
  have k0 : decide ((0 : Int) < 0) = false := by decide
  have hz : (#[] : Array MapEntry).size = 0 := rfl
  first | (have FRx := FR; clear FRx) | have FR := fr0S
  have FA := Sm.mk (And.intro TFOuC (And.intro k0 hz))
  repeat' first | (apply Sm.mk; refine YsOuC0 ?_) | refine WP.seq fun K hK => ?_ | (apply Ob.mk; exact Yo) | refine And.intro (Ob.out ?_) ?_ | refine Y1OuC ?_ | refine YzOuC ?_ | (refine WP.cond rfl (fun hc => ?_) (fun hc => ?_) <;> (try simp only [ZC, reduceCtorEq, ZD] at hc) <;> (try exact absurd hc (by decide)) <;> (try (exfalso; omega))) | refine Rt.mk (And.intro (fun hg => Sm.out ?_) fun hg => Sm.out ?_) | (refine Nu.mk ?_; first | (fail_if_success have := nb1); intro nb1 | (fail_if_success have := nb2); intro nb2 | (fail_if_success have := nb3); intro nb3 | (fail_if_success have := nb4); intro nb4 | (fail_if_success have := nb5); intro nb5 | (fail_if_success have := nb6); intro nb6 | intro nbz) | (apply Yfr; refine Yf FR fun hFRb FR => ?_) | refine Two.mk ?_ ?_ | (apply Yxc; exact Yx) | refine Cs.mk fun hcs => Sm.out ?_ | go_step | omega | (simp only [maxLen_eq]; omega) | exact trivial
  · exact Ob.mk ⟨_, _, rfl⟩
  (refine Yg ?_; try exact trivial)
theorem nt_eq (n : Nt) : ntB n = (btB n.room 1 64 && btB n.res 0 n.room && btB n.first 1 86400 && btB n.cap n.first 604800 && btB n.rep 0 2592000) := by
  unfold ntB btB
  rw [Bool.eq_iff_iff]
  simp
  omega
abbrev cfA (n : Nt) : AV := .agg [.lit (.slice none 0 0), iv .i64 n.room, iv .i64 n.res, iv .i64 n.first, iv .i64 n.cap, iv .i64 n.rep]
theorem show_ct (n : Nt) : ACt Tryd.prog 77 [cfA n] [] (Fn (bv (ntB n))) := by
  have c1 := between_ct n.room 1 64
  have c2 := between_ct n.res 0 n.room
  have c3 := between64_ct n.first 1 86400
  have c4 := between64_ct n.cap n.first 604800
  have c5 := between64_ct n.rep 0 2592000
  have cU := unlike_ct
  unfold fNm at cU
  rw [nt_eq]
  obtain ⟨x1, h1⟩ : ∃ x, btB n.room 1 64 = x := ⟨_, rfl⟩
  obtain ⟨x2, h2⟩ : ∃ x, btB n.res 0 n.room = x := ⟨_, rfl⟩
  obtain ⟨x3, h3⟩ : ∃ x, btB n.first 1 86400 = x := ⟨_, rfl⟩
  obtain ⟨x4, h4⟩ : ∃ x, btB n.cap n.first 604800 = x := ⟨_, rfl⟩
  obtain ⟨x5, h5⟩ : ∃ x, btB n.rep 0 2592000 = x := ⟨_, rfl⟩
  rw [h1] at c1 ⊢
  rw [h2] at c2 ⊢
  rw [h3] at c3 ⊢
  rw [h4] at c4 ⊢
  rw [h5] at c5 ⊢
  obtain ⟨ro, re, fi, ca, rp⟩ := n
  simp only at c1 c2 c3 c4 c5
  refine ACt.intro Tryd.func77 rfl (by kernel_rfl) (by simp [Tryd.ntmps77]) (fun cx => ?_)
  simp only [argE, Tryd.ntmps77, Tryd.results77]
  first | (have FRx := FR; clear FRx) | have FR := fr0S
  have FA := Sm.mk (TFOuC)
  repeat' first | (apply Sm.mk; refine Ys ?_) | refine WP.seq fun K hK => ?_ | (apply Ob.mk; exact Yo) | refine And.intro (Ob.out ?_) ?_ | refine Y1OuC ?_ | refine YzOuC ?_ | (refine WP.cond rfl (fun hc => ?_) (fun hc => ?_) <;> (try simp only [ZC, reduceCtorEq, ZD] at hc) <;> (try exact absurd hc (by decide)) <;> (try (exfalso; omega))) | refine Rt.mk (And.intro (fun hg => Sm.out ?_) fun hg => Sm.out ?_) | (refine Nu.mk ?_; first | (fail_if_success have := nb1); intro nb1 | (fail_if_success have := nb2); intro nb2 | (fail_if_success have := nb3); intro nb3 | (fail_if_success have := nb4); intro nb4 | (fail_if_success have := nb5); intro nb5 | (fail_if_success have := nb6); intro nb6 | intro nbz) | (apply Yfr; refine Yf FR fun hFRb FR => ?_) | refine Two.mk ?_ ?_ | (apply Yxc; exact Yx) | refine Cs.mk fun hcs => Sm.out ?_ | go_step | omega | (simp only [maxLen_eq]; omega) | exact trivial
  refine WP.loop (Γ := Unit) (fun _ => ⟨[(10, iv .i64 0), (9, iv .i64 0), (1, pt nb1 0)], [(nb1, .cells [.lit (.slice none 0 0), iv .i64 ro, iv .i64 re, iv .i64 fi, iv .i64 ca, iv .i64 rp] 6 110)]⟩) (fun _ => True) (fun _ => 0) () trivial (Sub.pick (by simp [pickB, hget, hdel, FR.out]) (by simp [look])) ?_
  intro _ _
  have FR : Sm (¬ ((1 : Nat) = 0)) := Sm.mk Nat.one_ne_zero
  have k0 : decide ((0 : Int) < 0) = false := by decide
  have k6 : decide ((0 : Int) ≤ 6) = true := by decide
  first | (have FRx := FR; clear FRx) | have FR := fr0S
  have FA := Sm.mk (And.intro TFOuC (And.intro k0 k6))
  repeat' first | (apply Sm.mk; refine Ys ?_) | refine WP.seq fun K hK => ?_ | (apply Ob.mk; exact Yo) | refine And.intro (Ob.out ?_) ?_ | refine Y1OuC ?_ | refine Yc (c := c1) (r := ?_) | refine Yc (c := c2) (r := ?_) | refine Yc (c := c3) (r := ?_) | refine Yc (c := c4) (r := ?_) | refine Yc (c := c5) (r := ?_) | refine Yc (c := cU) (r := ?_) | refine YzOuC ?_ | (refine WP.cond rfl (fun hc => ?_) (fun hc => ?_) <;> (try simp only [ZC, reduceCtorEq, ZD] at hc) <;> (try exact absurd hc (by decide)) <;> (try (exfalso; omega))) | refine Rt.mk (And.intro (fun hg => Sm.out ?_) fun hg => Sm.out ?_) | (refine Nu.mk ?_; first | (fail_if_success have := nb1); intro nb1 | (fail_if_success have := nb2); intro nb2 | (fail_if_success have := nb3); intro nb3 | (fail_if_success have := nb4); intro nb4 | (fail_if_success have := nb5); intro nb5 | (fail_if_success have := nb6); intro nb6 | intro nbz) | (apply Yfr; refine Yf FR fun hFRb FR => ?_) | refine Two.mk ?_ ?_ | (apply Yxc; exact Yx) | refine Cs.mk fun hcs => Sm.out ?_ | go_step | omega | (simp only [maxLen_eq]; omega) | exact trivial
  (refine OutQ.all ?_ ?_; (focus (simp only [resv, ZK, look, loadv, loadn, loadnm, load1, load1m, hget, ↓reduceIte, Nat.reduceEqDiff, Nat.reduceAdd, Nat.reduceMul, Nat.reduceLeDiff, Nat.reduceLT, reduceCtorEq, TFOuC, Bool.and_true])); (try simp only [resv, resA, Fn, ZK, look, loadv, loadn, loadnm, load1, load1m, hget, ↓reduceIte, Nat.reduceEqDiff, Nat.reduceAdd, Nat.reduceMul, Nat.reduceLeDiff, Nat.reduceLT, reduceCtorEq, TFOuC, Bool.and_true]); (try simp [resA, Fn, look, Bool.and_true]))
theorem notify_ct (n : Nt) : ACt Tryd.prog 42 [ntv n] [] (Fn (bv (ntB n))) := by
  have cS := show_ct n
  obtain ⟨x, h⟩ : ∃ x, ntB n = x := ⟨_, rfl⟩
  rw [h] at cS ⊢
  obtain ⟨ro, re, fi, ca, rp⟩ := n
  refine ACt.intro Tryd.func42 rfl (by kernel_rfl) (by simp [Tryd.ntmps42]) (fun cx => ?_)
  simp only [argE, Tryd.ntmps42, Tryd.results42]
  first | (have FRx := FR; clear FRx) | have FR := fr0S
  have FA := Sm.mk (TFOuC)
  repeat' first | (apply Sm.mk; refine Ys ?_) | refine WP.seq fun K hK => ?_ | (apply Ob.mk; exact Yo) | refine And.intro (Ob.out ?_) ?_ | refine Y1OuC ?_ | refine Yc (c := cS) (r := ?_) | refine YzOuC ?_ | (refine WP.cond rfl (fun hc => ?_) (fun hc => ?_) <;> (try simp only [ZC, reduceCtorEq, ZD] at hc) <;> (try exact absurd hc (by decide)) <;> (try (exfalso; omega))) | refine Rt.mk (And.intro (fun hg => Sm.out ?_) fun hg => Sm.out ?_) | (refine Nu.mk ?_; first | (fail_if_success have := nb1); intro nb1 | (fail_if_success have := nb2); intro nb2 | (fail_if_success have := nb3); intro nb3 | (fail_if_success have := nb4); intro nb4 | (fail_if_success have := nb5); intro nb5 | (fail_if_success have := nb6); intro nb6 | intro nbz) | (apply Yfr; refine Yf FR fun hFRb FR => ?_) | refine Two.mk ?_ ?_ | (apply Yxc; exact Yx) | refine Cs.mk fun hcs => Sm.out ?_ | go_step | omega | (simp only [maxLen_eq]; omega) | exact trivial
  (refine Yg ?_; try exact trivial)
def TFOuD :=
  And.intro (And.intro (And.intro (And.intro (And.intro tyc0 (And.intro tyc2 zmb2)) (And.intro (And.intro tyc3 zmb3) (And.intro tyc4 zmb4))) (And.intro (And.intro tyc24 (And.intro elt24 mkz24)) (And.intro (And.intro mkc24 apT24) (And.intro elk24 zmb24)))) (And.intro (And.intro (And.intro tyc27 (And.intro foff27_0 fpart27_0)) (And.intro (And.intro foff27_1 fpart27_1) (And.intro zmb27 bldT27))) (And.intro (And.intro (And.intro tyc29 foff29_0) (And.intro fpart29_0 foff29_1)) (And.intro (And.intro fpart29_1 foff29_2) (And.intro fpart29_2 foff29_3))))) (And.intro (And.intro (And.intro (And.intro fpart29_3 (And.intro foff29_4 fpart29_4)) (And.intro (And.intro fe29 zmb29) (And.intro bldT29 tyc38))) (And.intro (And.intro (And.intro foff38_0 fpart38_0) (And.intro foff38_1 fpart38_1)) (And.intro (And.intro foff38_2 fpart38_2) (And.intro foff38_3 fpart38_3)))) (And.intro (And.intro (And.intro foff38_4 (And.intro fpart38_4 zmb38)) (And.intro (And.intro bldT38 tyc75) (And.intro zmb75 Tryd.underlying0))) (And.intro (And.intro (And.intro Tryd.underlying2 Tryd.underlying3) (And.intro Tryd.underlying4 Tryd.underlying24)) (And.intro (And.intro Tryd.underlying27 Tryd.underlying29) (And.intro Tryd.underlying38 Tryd.underlying75)))))
theorem Y1OuD {G R : Prop} (r : R) (h : R → G := by intro r; first | (apply WP.region; exact rvc_sound _ _ (Sm.out r)) | exact WP.drawK rfl mixed (by decide +kernel) (Sm.out r) | (apply WP.block; exact r) | (apply WP.skip; exact Yq r) | (apply WP.exit; exact Yq r) | (apply WP.ret; exact Sm.out r) | exact WP.cond rfl (fun _ => r) (fun hg => absurd hg (by decide)) | exact WP.cond rfl (fun hg => absurd hg (by decide)) (fun _ => r) | exact Rt.mk (And.intro (fun _ => Sm.out r) fun hg => absurd hg (by decide)) | exact Rt.mk (And.intro (fun hg => absurd hg (by decide)) fun _ => Sm.out r)) : G := h r
theorem YzOuD {G R : Prop} (r : R) (h : R → G := by intro r; first | (apply ExG.no; exact Sm.out r) | (apply Or.inl; apply ExG.no; exact Sm.out r) | exact Or.inl (And.intro (fun hg => absurd hg (by decide)) (ExG.no (Sm.out r)))) : G := h r
theorem YsOuD0 {P Q : Prop} (q : Q) (h : P = Q := by (try (conv => lhs; simp -dsimp only [ZK, rvc, capA, appA, litL, mkfv, drawF, headN, pureH, stp, dvc, calleeOf, gcall, pev, eff, newB, okd, og, ogs, ogo, ogp, slv, bltv, opd, litv, strip, one, both, putE, St.put, look, gdOf, gdv, picka, pickv, pickw, binv, bini, bins, binb, binp, binq, isSlT, bina, shp, eqCells, unv, convv, nilv, faddv, addp, idxav, idxp, load1, load1m, loadn, loadnm, loadv, hget, hset, hrep, hdel, slicev, slice3v, bnd, shift1, lenv, capv, IntKind.bits, extractv, fieldv, indexv, min2v, max2v, mkiv, tasv, tasz, cellsA, fillA, buildv, stC, oneC, rowMB, intsA, plN, appE, appZ, appC, appS, srcB, appNZ, appNC, VwL, srcC, srcZ, srcM, isBoolT, isPtrT, isSliceT, uOk, Value.oneCell', Nat.reducePow, Int.reducePow, Nat.reduceAdd, Nat.reduceMul, Nat.reduceSub, Nat.reduceLT, Nat.reduceLeDiff, Nat.reduceEqDiff, Nat.reduceBEq, Nat.reduceDiv, Nat.reduceMod, ↓reduceIte, reduceCtorEq, Int.reduceToNat, Int.reduceLT, Int.reduceLE, TFOuD, SeqQ, BlkQ, LoopQ, BodyQ, hin, FA.out, FR.out])) <;> exact rfl) : P := h.mpr q
theorem fn_ct (e : En) (k : Ky) (b : Nat) : ACt Tryd.prog 50 [ev e, pt b 0] [(b, kb k)] (fun r F' => r = bv (keqB e.k k) ∧ F' = [(b, kb k)]) := by
  obtain ⟨⟨kg, kr, kp, ke, ks⟩, eb, en, et, ea⟩ := e
  obtain ⟨g, r, p, i, s⟩ := k
  obtain ⟨q, hq⟩ : ∃ q, keqB ⟨kg, kr, kp, ke, ks⟩ ⟨g, r, p, i, s⟩ = q := ⟨_, rfl⟩
  simp only
  rw [hq]
  unfold keqB at hq
  simp only at hq
  have hf := fe29
  refine ACt.intro Tryd.func50 rfl (by kernel_rfl) (by simp [Tryd.ntmps50]) (fun cx => ?_)
  simp only [argE, Tryd.ntmps50, Tryd.results50]
  first | (have FRx := FR; clear FRx) | have FR := fr0S
  have FA := Sm.mk (And.intro TFOuD (And.intro hf hq))
  repeat' first | (apply Sm.mk; refine Ys ?_) | refine WP.seq fun K hK => ?_ | (apply Ob.mk; exact Yo) | refine And.intro (Ob.out ?_) ?_ | refine Y1OuD ?_ | refine YzOuD ?_ | (refine WP.cond rfl (fun hc => ?_) (fun hc => ?_) <;> (try simp only [ZC, reduceCtorEq, ZD] at hc) <;> (try exact absurd hc (by decide)) <;> (try (exfalso; omega))) | refine Rt.mk (And.intro (fun hg => Sm.out ?_) fun hg => Sm.out ?_) | (refine Nu.mk ?_; first | (fail_if_success have := nb1); intro nb1 | (fail_if_success have := nb2); intro nb2 | (fail_if_success have := nb3); intro nb3 | (fail_if_success have := nb4); intro nb4 | (fail_if_success have := nb5); intro nb5 | (fail_if_success have := nb6); intro nb6 | intro nbz) | (apply Yfr; refine Yf FR fun hFRb FR => ?_) | refine Two.mk ?_ ?_ | (apply Yxc; exact Yx) | refine Cs.mk fun hcs => Sm.out ?_ | go_step | omega | (simp only [maxLen_eq]; omega) | exact trivial
  (refine OutQ.upd (by simp only [resv, ZK, look, loadv, loadn, loadnm, load1, load1m, hget, ↓reduceIte, Nat.reduceEqDiff, Nat.reduceAdd, Nat.reduceMul, Nat.reduceLeDiff, Nat.reduceLT, reduceCtorEq, TFOuD, FR.out]) (by simp only [resv, resA, ZK, look, loadv, loadn, loadnm, load1, load1m, hget, ↓reduceIte, Nat.reduceEqDiff, Nat.reduceAdd, Nat.reduceMul, Nat.reduceLeDiff, Nat.reduceLT, reduceCtorEq, TFOuD, FR.out]; first | done | rfl) (by simp only [hget, ↓reduceIte, if_true, if_false, FR.out]; first | done | rfl) ?_ <;> first | exact rfl | (simp only [ZK, look, loadv, loadn, loadnm, load1, load1m, hget, ↓reduceIte, Nat.reduceEqDiff, Nat.reduceAdd, Nat.reduceMul, Nat.reduceLeDiff, Nat.reduceLT, reduceCtorEq, TFOuD, FR.out]; done) | skip)
abbrev fFd (b : Nat) : AV := .lit (.func (.func 50) #[] #[.pointer (some ⟨b, 0, none⟩)])
theorem ix_ct (l : List En) (k : Ky) (n b : Nat) (hn : l.length = n) (hl : n ≤ 100000) : ACt Tryd.prog 49 [.sl n (ecs l), fFd b] [(b, kb k)] (fun r F' => r = iv .i64 (ixE l k 0) ∧ F' = [(b, kb k)]) := by
  have hCl := ecs_len l
  have hdr := ecs_drop l
  have hix := fun (i : Nat) (h : i < l.length) => ixE_drop l k h
  rw [hn] at hCl
  obtain ⟨R, hR⟩ : ∃ R, R = ixE l k 0 := ⟨_, rfl⟩
  rw [← hR]
  obtain ⟨C, hC⟩ : ∃ C, C = ecs l := ⟨_, rfl⟩
  rw [← hC] at hCl hdr ⊢
  unfold fFd
  refine ACt.intro Tryd.func49 rfl (by kernel_rfl) (by simp [Tryd.ntmps49]) (fun cx => ?_)
  simp only [argE, Tryd.ntmps49, Tryd.results49]
  first | (have FRx := FR; clear FRx) | have FR := fr0S
  have FA := Sm.mk (TFOuD)
  repeat' first | (apply Sm.mk; refine Ys ?_) | refine WP.seq fun K hK => ?_ | (apply Ob.mk; exact Yo) | refine And.intro (Ob.out ?_) ?_ | refine Y1OuD ?_ | refine YzOuD ?_ | (refine WP.cond rfl (fun hc => ?_) (fun hc => ?_) <;> (try simp only [ZC, reduceCtorEq, ZD] at hc) <;> (try exact absurd hc (by decide)) <;> (try (exfalso; omega))) | refine Rt.mk (And.intro (fun hg => Sm.out ?_) fun hg => Sm.out ?_) | (refine Nu.mk ?_; first | (fail_if_success have := nb1); intro nb1 | (fail_if_success have := nb2); intro nb2 | (fail_if_success have := nb3); intro nb3 | (fail_if_success have := nb4); intro nb4 | (fail_if_success have := nb5); intro nb5 | (fail_if_success have := nb6); intro nb6 | intro nbz) | (apply Yfr; refine Yf FR fun hFRb FR => ?_) | refine Two.mk ?_ ?_ | (apply Yxc; exact Yx) | refine Cs.mk fun hcs => Sm.out ?_ | go_step | omega | (simp only [maxLen_eq]; omega) | exact trivial
  refine WP.loop (Γ := Nat) (fun i => ⟨[(8, iv .i64 (i : Int)), (7, iv .i64 (n : Int)), (0, .sl n C), (1, .lit (.func (.func 50) #[] #[.pointer (some ⟨b, 0, none⟩)]))], [(b, kb k)]⟩) (fun i => i ≤ n ∧ R = ixE (l.drop i) k (i : Int)) (fun i => n - i) 0 ⟨Nat.zero_le _, by rw [List.drop_zero]; exact hR⟩ (Sub.pick (by simp [pickB, hget, hdel, FR.out]) (by simp [look])) ?_
  intro i ⟨hi, hr⟩
  have FR : Sm (¬ ((1 : Nat) = 0)) := Sm.mk Nat.one_ne_zero
  by_cases hin : i < n
  · have ki : decide ((i : Int) < (n : Int)) = true := decide_eq_true (by omega)
    have s1 : IntKind.i64.wrap ((i : Int) + 1) = ((i + 1 : Nat) : Int) := by rw [wrap_i64 (by omega) (by omega)]; omega
    have hd := hdr i (by omega)
    have hix := hix i (by omega)
    obtain ⟨x, hx⟩ : ∃ x, x = l[i]'(by omega) := ⟨_, rfl⟩
    rw [← hx] at hd hix
    have q1 : (i + 1) * 9 ≤ C.length := by omega
    have cF := fn_ct x k b
    obtain ⟨q, hq⟩ : ∃ q, keqB x.k k = q := ⟨_, rfl⟩
    rw [hq] at cF hix
    rw [hix] at hr
    first | (have FRx := FR; clear FRx) | have FR := fr0S
    have FA := Sm.mk (And.intro TFOuD (And.intro ki (And.intro hd (And.intro q1 s1))))
    repeat' first | (apply Sm.mk; refine YsOuD0 ?_) | refine WP.seq fun K hK => ?_ | (apply Ob.mk; exact Yo) | refine And.intro (Ob.out ?_) ?_ | refine Y1OuD ?_ | (refine CallV.updM (cF) (perm1 (by simp only [hget, hdel, ↓reduceIte, FR.out, ki, hd, q1, hin, s1]; first | done | rfl)) (Sm.out ?_)) | refine YzOuD ?_ | (refine WP.cond rfl (fun hc => ?_) (fun hc => ?_) <;> (try simp only [ZC, reduceCtorEq, ZD] at hc) <;> (try exact absurd hc (by decide)) <;> (try (exfalso; omega))) | refine Rt.mk (And.intro (fun hg => Sm.out ?_) fun hg => Sm.out ?_) | (refine Nu.mk ?_; first | (fail_if_success have := nb1); intro nb1 | (fail_if_success have := nb2); intro nb2 | (fail_if_success have := nb3); intro nb3 | (fail_if_success have := nb4); intro nb4 | (fail_if_success have := nb5); intro nb5 | (fail_if_success have := nb6); intro nb6 | intro nbz) | (apply Yfr; refine Yf FR fun hFRb FR => ?_) | refine Two.mk ?_ ?_ | (apply Yxc; exact Yx) | refine Cs.mk fun hcs => Sm.out ?_ | go_step | omega | (simp only [maxLen_eq]; omega) | exact trivial
    · rw [if_pos hc] at hr
      (refine OutQ.upd (by simp only [resv, ZK, look, loadv, loadn, loadnm, load1, load1m, hget, ↓reduceIte, Nat.reduceEqDiff, Nat.reduceAdd, Nat.reduceMul, Nat.reduceLeDiff, Nat.reduceLT, reduceCtorEq, TFOuD, FR.out, hr]) (by simp only [resv, resA, ZK, look, loadv, loadn, loadnm, load1, load1m, hget, ↓reduceIte, Nat.reduceEqDiff, Nat.reduceAdd, Nat.reduceMul, Nat.reduceLeDiff, Nat.reduceLT, reduceCtorEq, TFOuD, FR.out, hr]; first | done | rfl) (by simp only [hget, ↓reduceIte, if_true, if_false, FR.out, hr]; first | done | rfl) ?_ <;> first | exact rfl | (simp only [ZK, look, loadv, loadn, loadnm, load1, load1m, hget, ↓reduceIte, Nat.reduceEqDiff, Nat.reduceAdd, Nat.reduceMul, Nat.reduceLeDiff, Nat.reduceLT, reduceCtorEq, TFOuD, FR.out, hr]; done) | skip)
    · rw [if_neg (by rw [hc]; simp)] at hr
      exact ⟨i + 1, ⟨by omega, hr⟩, by omega, (Sub.pick (by simp [pickB, hget, hdel, FR.out]) (by simp [look]))⟩
  · have ki : decide ((i : Int) < (n : Int)) = false := decide_eq_false (by omega)
    rw [List.drop_eq_nil_of_le (by omega)] at hr
    have hr : R = -1 := hr
    first | (have FRx := FR; clear FRx) | have FR := fr0S
    have FA := Sm.mk (And.intro TFOuD ki)
    repeat' first | (apply Sm.mk; refine Ys ?_) | refine WP.seq fun K hK => ?_ | (apply Ob.mk; exact Yo) | refine And.intro (Ob.out ?_) ?_ | refine Y1OuD ?_ | refine YzOuD ?_ | (refine WP.cond rfl (fun hc => ?_) (fun hc => ?_) <;> (try simp only [ZC, reduceCtorEq, ZD] at hc) <;> (try exact absurd hc (by decide)) <;> (try (exfalso; omega))) | refine Rt.mk (And.intro (fun hg => Sm.out ?_) fun hg => Sm.out ?_) | (refine Nu.mk ?_; first | (fail_if_success have := nb1); intro nb1 | (fail_if_success have := nb2); intro nb2 | (fail_if_success have := nb3); intro nb3 | (fail_if_success have := nb4); intro nb4 | (fail_if_success have := nb5); intro nb5 | (fail_if_success have := nb6); intro nb6 | intro nbz) | (apply Yfr; refine Yf FR fun hFRb FR => ?_) | refine Two.mk ?_ ?_ | (apply Yxc; exact Yx) | refine Cs.mk fun hcs => Sm.out ?_ | go_step | omega | (simp only [maxLen_eq]; omega) | exact trivial
    (refine OutQ.upd (by simp only [resv, ZK, look, loadv, loadn, loadnm, load1, load1m, hget, ↓reduceIte, Nat.reduceEqDiff, Nat.reduceAdd, Nat.reduceMul, Nat.reduceLeDiff, Nat.reduceLT, reduceCtorEq, TFOuD, FR.out, hr]) (by simp only [resv, resA, ZK, look, loadv, loadn, loadnm, load1, load1m, hget, ↓reduceIte, Nat.reduceEqDiff, Nat.reduceAdd, Nat.reduceMul, Nat.reduceLeDiff, Nat.reduceLT, reduceCtorEq, TFOuD, FR.out, hr]; first | done | rfl) (by simp only [hget, ↓reduceIte, if_true, if_false, FR.out, hr]; first | done | rfl) ?_ <;> first | exact rfl | (simp only [ZK, look, loadv, loadn, loadnm, load1, load1m, hget, ↓reduceIte, Nat.reduceEqDiff, Nat.reduceAdd, Nat.reduceMul, Nat.reduceLeDiff, Nat.reduceLT, reduceCtorEq, TFOuD, FR.out, hr]; done) | skip)
theorem find_ct (b : Bx) (k : Ky) (n : Nat) (hn : b.l.length = n) (hl : n ≤ 100000) : ACt Tryd.prog 17 [.agg [.sl n (ecs b.l), iv .u64 b.d], kv k] [] (Fn (iv .i64 (ixE b.l k 0))) := by
  have cI := fun c => ix_ct b.l k n c hn hl
  unfold fFd at cI
  obtain ⟨R, hR⟩ : ∃ R, R = ixE b.l k 0 := ⟨_, rfl⟩
  rw [← hR] at cI ⊢
  obtain ⟨C, hC⟩ : ∃ C, C = ecs b.l := ⟨_, rfl⟩
  rw [← hC] at cI ⊢
  obtain ⟨kg, kr, kp, ke, ks⟩ := k
  refine ACt.intro Tryd.func17 rfl (by kernel_rfl) (by simp [Tryd.ntmps17]) (fun cx => ?_)
  simp only [argE, Tryd.ntmps17, Tryd.results17]
  first | (have FRx := FR; clear FRx) | have FR := fr0S
  have FA := Sm.mk (TFOuD)
  repeat' first | (apply Sm.mk; refine Ys ?_) | refine WP.seq fun K hK => ?_ | (apply Ob.mk; exact Yo) | refine And.intro (Ob.out ?_) ?_ | refine Y1OuD ?_ | refine Yw1 (c := cI _) (r := ?_) | refine YzOuD ?_ | (refine WP.cond rfl (fun hc => ?_) (fun hc => ?_) <;> (try simp only [ZC, reduceCtorEq, ZD] at hc) <;> (try exact absurd hc (by decide)) <;> (try (exfalso; omega))) | refine Rt.mk (And.intro (fun hg => Sm.out ?_) fun hg => Sm.out ?_) | (refine Nu.mk ?_; first | (fail_if_success have := nb1); intro nb1 | (fail_if_success have := nb2); intro nb2 | (fail_if_success have := nb3); intro nb3 | (fail_if_success have := nb4); intro nb4 | (fail_if_success have := nb5); intro nb5 | (fail_if_success have := nb6); intro nb6 | intro nbz) | (apply Yfr; refine Yf FR fun hFRb FR => ?_) | refine Two.mk ?_ ?_ | (apply Yxc; exact Yx) | refine Cs.mk fun hcs => Sm.out ?_ | go_step | omega | (simp only [maxLen_eq]; omega) | exact trivial
  (refine Yg ?_; try exact trivial)
theorem rfind_ct (b : Bx) (k : Ky) (n : Nat) (hn : b.l.length = n) (hl : n ≤ 100000) : ACt Tryd.prog 18 [.agg [.sl n (ecs b.l), iv .u64 b.d], kv k] [] (Fn (iv .i64 (ixE b.l k 0))) := by
  obtain ⟨l, d⟩ := b
  simp only at hn ⊢
  have hCl := ecs_len l
  have hdr := ecs_drop l
  have hix := fun (i : Nat) (h : i < l.length) => ixE_drop l k h
  rw [hn] at hCl
  obtain ⟨R, hR⟩ : ∃ R, R = ixE l k 0 := ⟨_, rfl⟩
  rw [← hR]
  obtain ⟨C, hC⟩ : ∃ C, C = ecs l := ⟨_, rfl⟩
  rw [← hC] at hCl hdr ⊢
  have hf := fe29
  refine ACt.intro Tryd.func18 rfl (by kernel_rfl) (by simp [Tryd.ntmps18]) (fun cx => ?_)
  simp only [argE, Tryd.ntmps18, Tryd.results18]
  first | (have FRx := FR; clear FRx) | have FR := fr0S
  have FA := Sm.mk (TFOuD)
  repeat' first | (apply Sm.mk; refine Ys ?_) | refine WP.seq fun K hK => ?_ | (apply Ob.mk; exact Yo) | refine And.intro (Ob.out ?_) ?_ | refine Y1OuD ?_ | refine YzOuD ?_ | (refine WP.cond rfl (fun hc => ?_) (fun hc => ?_) <;> (try simp only [ZC, reduceCtorEq, ZD] at hc) <;> (try exact absurd hc (by decide)) <;> (try (exfalso; omega))) | refine Rt.mk (And.intro (fun hg => Sm.out ?_) fun hg => Sm.out ?_) | (refine Nu.mk ?_; first | (fail_if_success have := nb1); intro nb1 | (fail_if_success have := nb2); intro nb2 | (fail_if_success have := nb3); intro nb3 | (fail_if_success have := nb4); intro nb4 | (fail_if_success have := nb5); intro nb5 | (fail_if_success have := nb6); intro nb6 | intro nbz) | (apply Yfr; refine Yf FR fun hFRb FR => ?_) | refine Two.mk ?_ ?_ | (apply Yxc; exact Yx) | refine Cs.mk fun hcs => Sm.out ?_ | go_step | omega | (simp only [maxLen_eq]; omega) | exact trivial
  refine WP.loop (Γ := Nat) (fun i => ⟨[(5, iv .i64 (i : Int)), (3, pt nb2 0), (2, pt nb1 0)], [(nb2, kb k), (nb1, .cells [.sl n C, iv .u64 d] 2 27)]⟩) (fun i => i ≤ n ∧ R = ixE (l.drop i) k (i : Int)) (fun i => n - i) 0 ⟨Nat.zero_le _, by rw [List.drop_zero]; exact hR⟩ (Sub.pick (by simp [pickB, hget, hdel, FR.out]) (by simp [look])) ?_
  intro i ⟨hi, hr⟩
  have hne : nb2 ≠ nb1 ∧ nb1 ≠ nb2 := by simp [FR.out]
  have FR : Sm (¬ ((1 : Nat) = 0)) := Sm.mk Nat.one_ne_zero
  by_cases hin : i < n
  · have ki : decide ((i : Int) < (n : Int)) = true := decide_eq_true (by omega)
    have s1 : IntKind.i64.wrap ((i : Int) + 1) = ((i + 1 : Nat) : Int) := by rw [wrap_i64 (by omega) (by omega)]; omega
    have hd := hdr i (by omega)
    have hix := hix i (by omega)
    obtain ⟨x, hx⟩ : ∃ x, x = l[i]'(by omega) := ⟨_, rfl⟩
    rw [← hx] at hd hix
    have q1 : (i + 1) * 9 ≤ C.length := by omega
    obtain ⟨q, hq⟩ : ∃ q, keqB x.k k = q := ⟨_, rfl⟩
    rw [hq] at hix
    rw [hix] at hr
    unfold keqB at hq
    first | (have FRx := FR; clear FRx) | have FR := fr0S
    have FA := Sm.mk (And.intro TFOuD (And.intro ki (And.intro hd (And.intro q1 (And.intro s1 (And.intro hf (And.intro hq hne)))))))
    repeat' first | (apply Sm.mk; refine YsOuD0 ?_) | refine WP.seq fun K hK => ?_ | (apply Ob.mk; exact Yo) | refine And.intro (Ob.out ?_) ?_ | refine Y1OuD ?_ | refine YzOuD ?_ | (refine WP.cond rfl (fun hc => ?_) (fun hc => ?_) <;> (try simp only [ZC, reduceCtorEq, ZD] at hc) <;> (try exact absurd hc (by decide)) <;> (try (exfalso; omega))) | refine Rt.mk (And.intro (fun hg => Sm.out ?_) fun hg => Sm.out ?_) | (refine Nu.mk ?_; first | (fail_if_success have := nb1); intro nb1 | (fail_if_success have := nb2); intro nb2 | (fail_if_success have := nb3); intro nb3 | (fail_if_success have := nb4); intro nb4 | (fail_if_success have := nb5); intro nb5 | (fail_if_success have := nb6); intro nb6 | intro nbz) | (apply Yfr; refine Yf FR fun hFRb FR => ?_) | refine Two.mk ?_ ?_ | (apply Yxc; exact Yx) | refine Cs.mk fun hcs => Sm.out ?_ | go_step | omega | (simp only [maxLen_eq]; omega) | exact trivial
    · rw [if_pos hc] at hr
      (have FA := Sm.mk (And.intro hr FA.out); refine Yg ?_; try exact trivial)
    · rw [if_neg (by rw [hc]; simp)] at hr
      exact ⟨i + 1, ⟨by omega, hr⟩, by omega, (Sub.pick (by simp [pickB, hget, hdel, FR.out, hne]) (by simp [look, hne]))⟩
  · have ki : decide ((i : Int) < (n : Int)) = false := decide_eq_false (by omega)
    rw [List.drop_eq_nil_of_le (by omega)] at hr
    have hr : R = -1 := hr
    first | (have FRx := FR; clear FRx) | have FR := fr0S
    have FA := Sm.mk (And.intro TFOuD (And.intro ki hne))
    repeat' first | (apply Sm.mk; refine Ys ?_) | refine WP.seq fun K hK => ?_ | (apply Ob.mk; exact Yo) | refine And.intro (Ob.out ?_) ?_ | refine Y1OuD ?_ | refine YzOuD ?_ | (refine WP.cond rfl (fun hc => ?_) (fun hc => ?_) <;> (try simp only [ZC, reduceCtorEq, ZD] at hc) <;> (try exact absurd hc (by decide)) <;> (try (exfalso; omega))) | refine Rt.mk (And.intro (fun hg => Sm.out ?_) fun hg => Sm.out ?_) | (refine Nu.mk ?_; first | (fail_if_success have := nb1); intro nb1 | (fail_if_success have := nb2); intro nb2 | (fail_if_success have := nb3); intro nb3 | (fail_if_success have := nb4); intro nb4 | (fail_if_success have := nb5); intro nb5 | (fail_if_success have := nb6); intro nb6 | intro nbz) | (apply Yfr; refine Yf FR fun hFRb FR => ?_) | refine Two.mk ?_ ?_ | (apply Yxc; exact Yx) | refine Cs.mk fun hcs => Sm.out ?_ | go_step | omega | (simp only [maxLen_eq]; omega) | exact trivial
    (have FA := Sm.mk (And.intro hr FA.out); refine Yg ?_; try exact trivial)
end Go.Proofs.YtfknbndmabogjaaDoor
