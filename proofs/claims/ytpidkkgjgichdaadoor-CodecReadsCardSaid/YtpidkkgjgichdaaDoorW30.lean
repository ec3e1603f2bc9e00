/-
  The walks and the laws that the statement leans on, part 30.
-/
import Derived.Test.YtpidkkgjgichdaaDoorW10
import Derived.Test.YtpidkkgjgichdaaDoorW26
import Derived.Test.YtpidkkgjgichdaaDoorW29
namespace Go.Proofs.YtpidkkgjgichdaaDoor
open Go
set_option linter.unusedVariables false
set_option linter.unusedSimpArgs false
set_option linter.defProp false
def TFCoI :=
  And.intro (And.intro (And.intro (And.intro (And.intro tyc0 (And.intro tyc3 zmb3)) (And.intro (And.intro tyc4 zmb4) (And.intro tyc9 zmb9))) (And.intro (And.intro tyc26 (And.intro foff26_0 fpart26_0)) (And.intro (And.intro foff26_1 fpart26_1) (And.intro foff26_2 fpart26_2)))) (And.intro (And.intro (And.intro foff26_3 (And.intro fpart26_3 foff26_4)) (And.intro (And.intro fpart26_4 fe26) (And.intro zmb26 bldT26))) (And.intro (And.intro tyc28 (And.intro foff28_0 fpart28_0)) (And.intro (And.intro foff28_1 fpart28_1) (And.intro foff28_2 fpart28_2))))) (And.intro (And.intro (And.intro (And.intro foff28_3 (And.intro fpart28_3 foff28_4)) (And.intro (And.intro fpart28_4 fe28) (And.intro zmb28 bldT28))) (And.intro (And.intro tyc30 (And.intro foff30_0 fpart30_0)) (And.intro (And.intro foff30_1 fpart30_1) (And.intro foff30_2 fpart30_2)))) (And.intro (And.intro (And.intro foff30_3 (And.intro fpart30_3 foff30_4)) (And.intro (And.intro fpart30_4 foff30_5) (And.intro fpart30_5 zmb30))) (And.intro (And.intro (And.intro bldT30 Tryd.underlying0) (And.intro Tryd.underlying3 Tryd.underlying4)) (And.intro (And.intro Tryd.underlying9 Tryd.underlying26) (And.intro Tryd.underlying28 Tryd.underlying30)))))
theorem Y1CoI {G R : Prop} (r : R) (h : R → G := by intro r; first | (apply WP.region; exact rvc_sound _ _ (Sm.out r)) | exact WP.drawK rfl mixed (by decide +kernel) (Sm.out r) | (apply WP.block; exact r) | (apply WP.skip; exact Yq r) | (apply WP.exit; exact Yq r) | (apply WP.ret; exact Sm.out r) | exact WP.cond rfl (fun _ => r) (fun hg => absurd hg (by decide)) | exact WP.cond rfl (fun hg => absurd hg (by decide)) (fun _ => r) | exact Rt.mk (And.intro (fun _ => Sm.out r) fun hg => absurd hg (by decide)) | exact Rt.mk (And.intro (fun hg => absurd hg (by decide)) fun _ => Sm.out r)) : G := h r
theorem YzCoI {G R : Prop} (r : R) (h : R → G := by intro r; first | (apply ExG.no; exact Sm.out r) | (apply Or.inl; apply ExG.no; exact Sm.out r) | exact Or.inl (And.intro (fun hg => absurd hg (by decide)) (ExG.no (Sm.out r)))) : G := h r
noncomputable def gsB (o : Oq) : Bool := rtB o && (decide (o.tx.size ≤ 40000) && ((!(o.kd == 4) || krB o.k) && (!(o.kd == 5) || srB o.s)))
structure Oz (o : Oq) : Prop where
  k : Kz o.k
  s : Sz o.s
theorem goes_gen (o : Oq) (n0 n1 : Nat) (FZ AZ : List Int) (r k s : Bool) (c1 : ACt Tryd.prog 10 [ov o] [] (Fn (bv r))) (c2 : r = true → o.tx.size ≤ 40000 → o.kd = 4 → ACt Tryd.prog 27 [kv o.k] [] (Fn (bv k)))
    (c3 : r = true → o.tx.size ≤ 40000 → o.kd = 5 → ACt Tryd.prog 28 [siv o.s] [(0, .ro .u8 FZ 256 n0), (1, .ro .u8 AZ 32 n1)] (fun x F => x = bv s ∧ F = [(0, .ro .u8 FZ 256 n0), (1, .ro .u8 AZ 32 n1)])) :
    ACt Tryd.prog 12 [ov o] [(0, .ro .u8 FZ 256 n0), (1, .ro .u8 AZ 32 n1)] (fun x F => x = bv (r && (decide (o.tx.size ≤ 40000) && ((!(o.kd == 4) || k) && (!(o.kd == 5) || s)))) ∧ F = [(0, .ro .u8 FZ 256 n0), (1, .ro .u8 AZ 32 n1)]) := by
  obtain ⟨kd, tx, a, g, t, ⟨kg, kr, kp, ke, ks⟩, ⟨nm, gl, w, f, t2⟩⟩ := o
  simp only at c1 c2 c3 ⊢
  have h0 : decide ((tx.size : Int) > 40000) = !decide (tx.size ≤ 40000) := by rw [← decide_not]; exact decide_eq_decide.2 (by omega)
  have hb : r = false ∨ (r = true ∧ ¬ tx.size ≤ 40000) ∨ (r = true ∧ tx.size ≤ 40000) := by cases r <;> simp; omega
  rcases hb with rfl | ⟨rfl, hl⟩ | ⟨rfl, hl⟩
  · clear c2 c3
    rw [Bool.false_and]
    refine ACt.intro Tryd.func12 rfl (by kernel_rfl) (by simp [Tryd.ntmps12]) (fun cx => ?_)
    simp only [argE, Tryd.ntmps12, Tryd.results12]
    first | (have FRx := FR; clear FRx) | have FR := fr0S
    have FA := Sm.mk (TFCoI)
    repeat' first | (apply Sm.mk; refine Ys ?_) | refine WP.seq fun K hK => ?_ | (apply Ob.mk; exact Yo) | refine And.intro (Ob.out ?_) ?_ | refine Y1CoI ?_ | refine Yc (c := c1) (r := ?_) | refine YzCoI ?_ | (refine WP.cond rfl (fun hc => ?_) (fun hc => ?_) <;> (try simp only [ZC, reduceCtorEq, ZD] at hc) <;> (try exact absurd hc (by decide)) <;> (try (exfalso; omega))) | refine Rt.mk (And.intro (fun hg => Sm.out ?_) fun hg => Sm.out ?_) | (refine Nu.mk ?_; first | (fail_if_success have := nb1); intro nb1 | (fail_if_success have := nb2); intro nb2 | (fail_if_success have := nb3); intro nb3 | (fail_if_success have := nb4); intro nb4 | intro nbz) | (apply Yfr; refine Yf FR fun hFRb FR => ?_) | refine Two.mk ?_ ?_ | (apply Yxc; exact Yx) | refine Cs.mk fun hcs => Sm.out ?_ | go_step | omega | (simp only [maxLen_eq]; omega) | exact trivial
    (refine OutQ.drop _ _ (perm2 (by simp only [hget, hdel, ↓reduceIte, if_true, if_false, FR.out]; first | done | rfl) (by simp only [hget, hdel, ↓reduceIte, if_true, if_false, FR.out]; first | done | rfl)) (by simp only [resv, ZK, look, loadv, loadn, loadnm, load1, load1m, hget, ↓reduceIte, Nat.reduceEqDiff, Nat.reduceAdd, Nat.reduceMul, Nat.reduceLeDiff, Nat.reduceLT, reduceCtorEq, TFCoI, FR.out]) ⟨(by simp only [resv, resA, ZK, look, loadv, loadn, loadnm, load1, load1m, hget, ↓reduceIte, Nat.reduceEqDiff, Nat.reduceAdd, Nat.reduceMul, Nat.reduceLeDiff, Nat.reduceLT, reduceCtorEq, TFCoI, FR.out]; first | done | rfl), rfl⟩)
  · clear c2 c3
    rw [decide_eq_false hl] at h0 ⊢
    rw [Bool.false_and, Bool.and_false]
    refine ACt.intro Tryd.func12 rfl (by kernel_rfl) (by simp [Tryd.ntmps12]) (fun cx => ?_)
    simp only [argE, Tryd.ntmps12, Tryd.results12]
    first | (have FRx := FR; clear FRx) | have FR := fr0S
    have FA := Sm.mk (And.intro TFCoI h0)
    repeat' first | (apply Sm.mk; refine Ys ?_) | refine WP.seq fun K hK => ?_ | (apply Ob.mk; exact Yo) | refine And.intro (Ob.out ?_) ?_ | refine Y1CoI ?_ | refine Yc (c := c1) (r := ?_) | refine YzCoI ?_ | (refine WP.cond rfl (fun hc => ?_) (fun hc => ?_) <;> (try simp only [ZC, reduceCtorEq, ZD] at hc) <;> (try exact absurd hc (by decide)) <;> (try (exfalso; omega))) | refine Rt.mk (And.intro (fun hg => Sm.out ?_) fun hg => Sm.out ?_) | (refine Nu.mk ?_; first | (fail_if_success have := nb1); intro nb1 | (fail_if_success have := nb2); intro nb2 | (fail_if_success have := nb3); intro nb3 | (fail_if_success have := nb4); intro nb4 | intro nbz) | (apply Yfr; refine Yf FR fun hFRb FR => ?_) | refine Two.mk ?_ ?_ | (apply Yxc; exact Yx) | refine Cs.mk fun hcs => Sm.out ?_ | go_step | omega | (simp only [maxLen_eq]; omega) | exact trivial
    (refine OutQ.drop _ _ (perm2 (by simp only [hget, hdel, ↓reduceIte, if_true, if_false, FR.out]; first | done | rfl) (by simp only [hget, hdel, ↓reduceIte, if_true, if_false, FR.out]; first | done | rfl)) (by simp only [resv, ZK, look, loadv, loadn, loadnm, load1, load1m, hget, ↓reduceIte, Nat.reduceEqDiff, Nat.reduceAdd, Nat.reduceMul, Nat.reduceLeDiff, Nat.reduceLT, reduceCtorEq, TFCoI, FR.out]) ⟨(by simp only [resv, resA, ZK, look, loadv, loadn, loadnm, load1, load1m, hget, ↓reduceIte, Nat.reduceEqDiff, Nat.reduceAdd, Nat.reduceMul, Nat.reduceLeDiff, Nat.reduceLT, reduceCtorEq, TFCoI, FR.out]; first | done | rfl), rfl⟩)
  · rw [decide_eq_true hl] at h0 ⊢
    have c2 := c2 rfl hl
    have c3 := c3 rfl hl
    by_cases h4 : kd = 4
    · subst h4
      have c2 := c2 rfl
      have e : (true && (true && ((!((4 : Int) == 4) || k) && (!((4 : Int) == 5) || s)))) = k := by cases k <;> rfl
      rw [e]
      have z4 : ((4 : Int) == 4) = true := rfl
      refine ACt.intro Tryd.func12 rfl (by kernel_rfl) (by simp [Tryd.ntmps12]) (fun cx => ?_)
      simp only [argE, Tryd.ntmps12, Tryd.results12]
      first | (have FRx := FR; clear FRx) | have FR := fr0S
      have FA := Sm.mk (And.intro TFCoI (And.intro h0 z4))
      repeat' first | (apply Sm.mk; refine Ys ?_) | refine WP.seq fun K hK => ?_ | (apply Ob.mk; exact Yo) | refine And.intro (Ob.out ?_) ?_ | refine Y1CoI ?_ | refine Yc (c := c1) (r := ?_) | refine Yc (c := c2) (r := ?_) | refine YzCoI ?_ | (refine WP.cond rfl (fun hc => ?_) (fun hc => ?_) <;> (try simp only [ZC, reduceCtorEq, ZD] at hc) <;> (try exact absurd hc (by decide)) <;> (try (exfalso; omega))) | refine Rt.mk (And.intro (fun hg => Sm.out ?_) fun hg => Sm.out ?_) | (refine Nu.mk ?_; first | (fail_if_success have := nb1); intro nb1 | (fail_if_success have := nb2); intro nb2 | (fail_if_success have := nb3); intro nb3 | (fail_if_success have := nb4); intro nb4 | intro nbz) | (apply Yfr; refine Yf FR fun hFRb FR => ?_) | refine Two.mk ?_ ?_ | (apply Yxc; exact Yx) | refine Cs.mk fun hcs => Sm.out ?_ | go_step | omega | (simp only [maxLen_eq]; omega) | exact trivial
      (refine OutQ.drop _ _ (perm2 (by simp only [hget, hdel, ↓reduceIte, if_true, if_false, FR.out]; first | done | rfl) (by simp only [hget, hdel, ↓reduceIte, if_true, if_false, FR.out]; first | done | rfl)) (by simp only [resv, ZK, look, loadv, loadn, loadnm, load1, load1m, hget, ↓reduceIte, Nat.reduceEqDiff, Nat.reduceAdd, Nat.reduceMul, Nat.reduceLeDiff, Nat.reduceLT, reduceCtorEq, TFCoI, FR.out]) ⟨(by simp only [resv, resA, ZK, look, loadv, loadn, loadnm, load1, load1m, hget, ↓reduceIte, Nat.reduceEqDiff, Nat.reduceAdd, Nat.reduceMul, Nat.reduceLeDiff, Nat.reduceLT, reduceCtorEq, TFCoI, FR.out]; first | done | rfl), rfl⟩)
    · clear c2
      have z4 : (kd == 4) = false := beq_eq_false_iff_ne.2 h4
      by_cases h5 : kd = 5
      · subst h5
        have c3 := c3 rfl
        have e : (true && (true && ((!((5 : Int) == 4) || k) && (!((5 : Int) == 5) || s)))) = s := by cases s <;> cases k <;> rfl
        rw [e]
        have z5 : ((5 : Int) == 5) = true := rfl
        refine ACt.intro Tryd.func12 rfl (by kernel_rfl) (by simp [Tryd.ntmps12]) (fun cx => ?_)
        simp only [argE, Tryd.ntmps12, Tryd.results12]
        first | (have FRx := FR; clear FRx) | have FR := fr0S
        have FA := Sm.mk (And.intro TFCoI (And.intro h0 (And.intro z4 z5)))
        repeat' first | (apply Sm.mk; refine Ys ?_) | refine WP.seq fun K hK => ?_ | (apply Ob.mk; exact Yo) | refine And.intro (Ob.out ?_) ?_ | refine Y1CoI ?_ | refine Yc (c := c1) (r := ?_) | refine Yw2 (c := c3) (r := ?_) | refine YzCoI ?_ | (refine WP.cond rfl (fun hc => ?_) (fun hc => ?_) <;> (try simp only [ZC, reduceCtorEq, ZD] at hc) <;> (try exact absurd hc (by decide)) <;> (try (exfalso; omega))) | refine Rt.mk (And.intro (fun hg => Sm.out ?_) fun hg => Sm.out ?_) | (refine Nu.mk ?_; first | (fail_if_success have := nb1); intro nb1 | (fail_if_success have := nb2); intro nb2 | (fail_if_success have := nb3); intro nb3 | (fail_if_success have := nb4); intro nb4 | intro nbz) | (apply Yfr; refine Yf FR fun hFRb FR => ?_) | refine Two.mk ?_ ?_ | (apply Yxc; exact Yx) | refine Cs.mk fun hcs => Sm.out ?_ | go_step | omega | (simp only [maxLen_eq]; omega) | exact trivial
        (refine OutQ.drop _ _ (perm2 (by simp only [hget, hdel, ↓reduceIte, if_true, if_false, FR.out]; first | done | rfl) (by simp only [hget, hdel, ↓reduceIte, if_true, if_false, FR.out]; first | done | rfl)) (by simp only [resv, ZK, look, loadv, loadn, loadnm, load1, load1m, hget, ↓reduceIte, Nat.reduceEqDiff, Nat.reduceAdd, Nat.reduceMul, Nat.reduceLeDiff, Nat.reduceLT, reduceCtorEq, TFCoI, FR.out]) ⟨(by simp only [resv, resA, ZK, look, loadv, loadn, loadnm, load1, load1m, hget, ↓reduceIte, Nat.reduceEqDiff, Nat.reduceAdd, Nat.reduceMul, Nat.reduceLeDiff, Nat.reduceLT, reduceCtorEq, TFCoI, FR.out]; first | done | rfl), rfl⟩)
      · clear c3
        have z5 : (kd == 5) = false := beq_eq_false_iff_ne.2 h5
        have e : (true && (true && ((!(kd == 4) || k) && (!(kd == 5) || s)))) = true := by rw [z4, z5]; rfl
        rw [e]
        refine ACt.intro Tryd.func12 rfl (by kernel_rfl) (by simp [Tryd.ntmps12]) (fun cx => ?_)
        simp only [argE, Tryd.ntmps12, Tryd.results12]
        first | (have FRx := FR; clear FRx) | have FR := fr0S
        have FA := Sm.mk (And.intro TFCoI (And.intro h0 (And.intro z4 z5)))
        repeat' first | (apply Sm.mk; refine Ys ?_) | refine WP.seq fun K hK => ?_ | (apply Ob.mk; exact Yo) | refine And.intro (Ob.out ?_) ?_ | refine Y1CoI ?_ | refine Yc (c := c1) (r := ?_) | refine YzCoI ?_ | (refine WP.cond rfl (fun hc => ?_) (fun hc => ?_) <;> (try simp only [ZC, reduceCtorEq, ZD] at hc) <;> (try exact absurd hc (by decide)) <;> (try (exfalso; omega))) | refine Rt.mk (And.intro (fun hg => Sm.out ?_) fun hg => Sm.out ?_) | (refine Nu.mk ?_; first | (fail_if_success have := nb1); intro nb1 | (fail_if_success have := nb2); intro nb2 | (fail_if_success have := nb3); intro nb3 | (fail_if_success have := nb4); intro nb4 | intro nbz) | (apply Yfr; refine Yf FR fun hFRb FR => ?_) | refine Two.mk ?_ ?_ | (apply Yxc; exact Yx) | refine Cs.mk fun hcs => Sm.out ?_ | go_step | omega | (simp only [maxLen_eq]; omega) | exact trivial
        (refine OutQ.drop _ _ (perm2 (by simp only [hget, hdel, ↓reduceIte, if_true, if_false, FR.out]; first | done | rfl) (by simp only [hget, hdel, ↓reduceIte, if_true, if_false, FR.out]; first | done | rfl)) (by simp only [resv, ZK, look, loadv, loadn, loadnm, load1, load1m, hget, ↓reduceIte, Nat.reduceEqDiff, Nat.reduceAdd, Nat.reduceMul, Nat.reduceLeDiff, Nat.reduceLT, reduceCtorEq, TFCoI, FR.out]) ⟨(by simp only [resv, resA, ZK, look, loadv, loadn, loadnm, load1, load1m, hget, ↓reduceIte, Nat.reduceEqDiff, Nat.reduceAdd, Nat.reduceMul, Nat.reduceLeDiff, Nat.reduceLT, reduceCtorEq, TFCoI, FR.out]; first | done | rfl), rfl⟩)
theorem goes_ct (o : Oq) (n0 n1 : Nat) (hz : Oz o ∨ 40000 < o.tx.size) : ACt Tryd.prog 12 [ov o] [(0, .ro .u8 fsZ 256 n0), (1, .ro .u8 acZ 32 n1)] (fun x F => x = bv (gsB o) ∧ F = [(0, .ro .u8 fsZ 256 n0), (1, .ro .u8 acZ 32 n1)]) :=
  goes_gen o n0 n1 fsZ acZ (rtB o) (krB o.k) (srB o.s) (right_ct o)
    (fun _ hl _ => by
      rcases hz with hz | hz
      · exact kright_ct o.k hz.k
      · omega)
    (fun _ hl _ => by
      rcases hz with hz | hz
      · exact sright_ct o.s hz.s n0 n1
      · omega)
end Go.Proofs.YtpidkkgjgichdaaDoor
