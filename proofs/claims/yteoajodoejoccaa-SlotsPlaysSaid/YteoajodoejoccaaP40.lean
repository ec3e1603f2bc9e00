/-
  The walks and the laws that the statement leans on, part 40.
-/
import Derived.Test.YteoajodoejoccaaP10
import Derived.Test.YteoajodoejoccaaP39
namespace Go.Proofs.Yteoajodoejoccaa
open Go Wi
set_option linter.unusedVariables false
set_option linter.unusedSimpArgs false
set_option linter.defProp false
def TFPtJ :=
  And.intro (And.intro (And.intro (And.intro (And.intro (And.intro tyc0 tyc3) (And.intro zmb3 (And.intro tyc4 zmb4))) (And.intro (And.intro tyc5 (And.intro zmb5 tyc25)) (And.intro mth25_45 (And.intro mth25_44 mth25_43)))) (And.intro (And.intro (And.intro con25 zmb25) (And.intro tyc28 (And.intro zmb28 tyc30))) (And.intro (And.intro mth30_37 (And.intro con30 zmb30)) (And.intro tyc35 (And.intro zmb35 tyc36))))) (And.intro (And.intro (And.intro (And.intro elt36 mkz36) (And.intro apT36 (And.intro elk36 zmb36))) (And.intro (And.intro tyc65 (And.intro foff65_0 fpart65_0)) (And.intro foff65_1 (And.intro fpart65_1 foff65_2)))) (And.intro (And.intro (And.intro fpart65_2 foff65_3) (And.intro fpart65_3 (And.intro foff65_4 fpart65_4))) (And.intro (And.intro foff65_5 (And.intro fpart65_5 zmb65)) (And.intro bldT65 (And.intro tyc66 tyc71)))))) (And.intro (And.intro (And.intro (And.intro (And.intro elt71 mkz71) (And.intro mkc71 (And.intro apT71 elk71))) (And.intro (And.intro zmb71 (And.intro tyc73 foff73_0)) (And.intro fpart73_0 (And.intro foff73_1 fpart73_1)))) (And.intro (And.intro (And.intro foff73_2 fpart73_2) (And.intro foff73_3 (And.intro fpart73_3 foff73_4))) (And.intro (And.intro fpart73_4 (And.intro foff73_5 fpart73_5)) (And.intro foff73_6 (And.intro fpart73_6 zmb73))))) (And.intro (And.intro (And.intro (And.intro bldT73 tyc76) (And.intro foff76_0 (And.intro fpart76_0 foff76_1))) (And.intro (And.intro fpart76_1 (And.intro zmb76 bldT76)) (And.intro Try.underlying0 (And.intro Try.underlying3 Try.underlying4)))) (And.intro (And.intro (And.intro Try.underlying5 Try.underlying25) (And.intro Try.underlying28 (And.intro Try.underlying30 Try.underlying35))) (And.intro (And.intro Try.underlying36 (And.intro Try.underlying65 Try.underlying66)) (And.intro Try.underlying71 (And.intro Try.underlying73 Try.underlying76))))))
theorem Y1PtJ {G R : Prop} (r : R) (h : R → G := by intro r; first | (apply WP.region; exact rvc_sound _ _ (Sm.out r)) | exact WP.drawK rfl mixed (by decide +kernel) (Sm.out r) | (apply WP.block; exact r) | (apply WP.skip; exact Yq r) | (apply WP.exit; exact Yq r) | (apply WP.ret; exact Sm.out r) | exact WP.cond rfl (fun _ => r) (fun hg => absurd hg (by decide)) | exact WP.cond rfl (fun hg => absurd hg (by decide)) (fun _ => r) | exact Rt.mk (And.intro (fun _ => Sm.out r) fun hg => absurd hg (by decide)) | exact Rt.mk (And.intro (fun hg => absurd hg (by decide)) fun _ => Sm.out r)) : G := h r
theorem YzPtJ {G R : Prop} (r : R) (h : R → G := by intro r; first | (apply ExG.no; exact Sm.out r) | (apply Or.inl; apply ExG.no; exact Sm.out r) | exact Or.inl (And.intro (fun hg => absurd hg (by decide)) (ExG.no (Sm.out r)))) : G := h r
def onSl (B f m : Int) : Prop := 0 ≤ f ∧ 1 ≤ m ∧ f < B ∧ m ≤ B / 2 ∧ m ≤ B - f - m
theorem on12_ct (B f m : Int) (hB : 0 ≤ B ∧ B ≤ 1000) : ACt Try.prog 12 [iv .i64 B, iv .i64 f, iv .i64 m] [] (fun r F' => ∃ z : Bool, (z = true ↔ onSl B f m) ∧ r = bv z ∧ F' = []) := by
  unfold onSl
  obtain ⟨hB0, hB1⟩ := hB
  have d1 : Int.tdiv B 2 = B / 2 := Int.tdiv_eq_ediv_of_nonneg hB0
  have w2 : IntKind.i64.wrap (B / 2) = B / 2 := wrap_i64 (by omega) (by omega)
  by_cases h1 : 0 ≤ f
  rotate_left
  · have k1 : decide (f ≥ 0) = false := decide_eq_false h1
    refine ACt.intro Try.func12 rfl (by kernel_rfl) (by simp [Try.ntmps12]) (fun cx => ?_)
    simp only [argE, Try.ntmps12, Try.results12]
    first | (have FRx := FR; clear FRx) | have FR := fr0S
    have FA := Sm.mk (And.intro TFPtJ (And.intro k1 (And.intro d1 w2)))
    repeat' first | (apply Sm.mk; refine Ys ?_) | refine WP.seq fun K hK => ?_ | (apply Ob.mk; exact Yo) | refine And.intro (Ob.out ?_) ?_ | refine Y1PtJ ?_ | refine YzPtJ ?_ | (refine WP.cond rfl (fun hc => ?_) (fun hc => ?_) <;> (try simp only [ZC, reduceCtorEq, ZD] at hc) <;> (try exact absurd hc (by decide)) <;> (try (exfalso; omega))) | refine Rt.mk (And.intro (fun hg => Sm.out ?_) fun hg => Sm.out ?_) | (refine Nu.mk ?_; first | (fail_if_success have := nb1); intro nb1 | (fail_if_success have := nb2); intro nb2 | (fail_if_success have := nb3); intro nb3 | (fail_if_success have := nb4); intro nb4 | (fail_if_success have := nb5); intro nb5 | (fail_if_success have := nb6); intro nb6 | intro nbz) | (apply Yfr; refine Yf FR fun hFRb FR => ?_) | refine Two.mk ?_ ?_ | (apply Yxc; exact Yx) | refine Cs.mk fun hcs => Sm.out ?_ | go_step | omega | (simp only [maxLen_eq]; omega) | exact trivial
    (refine OutQ.drop _ _ (List.Perm.refl _) (by simp only [resv, ZK, look, loadv, loadn, loadnm, load1, load1m, hget, ↓reduceIte, Nat.reduceEqDiff, Nat.reduceAdd, Nat.reduceMul, Nat.reduceLeDiff, Nat.reduceLT, reduceCtorEq, TFPtJ, FR.out]) ⟨false, ⟨fun h => absurd h Bool.false_ne_true, fun h => absurd h.1 h1⟩, (by simp only [resv, resA, ZK, look, loadv, loadn, loadnm, load1, load1m, hget, ↓reduceIte, Nat.reduceEqDiff, Nat.reduceAdd, Nat.reduceMul, Nat.reduceLeDiff, Nat.reduceLT, reduceCtorEq, TFPtJ, FR.out]; first | done | rfl), rfl⟩)
  have k1 : decide (f ≥ 0) = true := decide_eq_true h1
  by_cases h2 : 1 ≤ m
  rotate_left
  · have k2 : decide (m ≥ 1) = false := decide_eq_false h2
    refine ACt.intro Try.func12 rfl (by kernel_rfl) (by simp [Try.ntmps12]) (fun cx => ?_)
    simp only [argE, Try.ntmps12, Try.results12]
    first | (have FRx := FR; clear FRx) | have FR := fr0S
    have FA := Sm.mk (And.intro TFPtJ (And.intro k1 (And.intro k2 (And.intro d1 w2))))
    repeat' first | (apply Sm.mk; refine Ys ?_) | refine WP.seq fun K hK => ?_ | (apply Ob.mk; exact Yo) | refine And.intro (Ob.out ?_) ?_ | refine Y1PtJ ?_ | refine YzPtJ ?_ | (refine WP.cond rfl (fun hc => ?_) (fun hc => ?_) <;> (try simp only [ZC, reduceCtorEq, ZD] at hc) <;> (try exact absurd hc (by decide)) <;> (try (exfalso; omega))) | refine Rt.mk (And.intro (fun hg => Sm.out ?_) fun hg => Sm.out ?_) | (refine Nu.mk ?_; first | (fail_if_success have := nb1); intro nb1 | (fail_if_success have := nb2); intro nb2 | (fail_if_success have := nb3); intro nb3 | (fail_if_success have := nb4); intro nb4 | (fail_if_success have := nb5); intro nb5 | (fail_if_success have := nb6); intro nb6 | intro nbz) | (apply Yfr; refine Yf FR fun hFRb FR => ?_) | refine Two.mk ?_ ?_ | (apply Yxc; exact Yx) | refine Cs.mk fun hcs => Sm.out ?_ | go_step | omega | (simp only [maxLen_eq]; omega) | exact trivial
    (refine OutQ.drop _ _ (List.Perm.refl _) (by simp only [resv, ZK, look, loadv, loadn, loadnm, load1, load1m, hget, ↓reduceIte, Nat.reduceEqDiff, Nat.reduceAdd, Nat.reduceMul, Nat.reduceLeDiff, Nat.reduceLT, reduceCtorEq, TFPtJ, FR.out]) ⟨false, ⟨fun h => absurd h Bool.false_ne_true, fun h => absurd h.2.1 h2⟩, (by simp only [resv, resA, ZK, look, loadv, loadn, loadnm, load1, load1m, hget, ↓reduceIte, Nat.reduceEqDiff, Nat.reduceAdd, Nat.reduceMul, Nat.reduceLeDiff, Nat.reduceLT, reduceCtorEq, TFPtJ, FR.out]; first | done | rfl), rfl⟩)
  have k2 : decide (m ≥ 1) = true := decide_eq_true h2
  by_cases h3 : f < B
  rotate_left
  · have k3 : decide (f < B) = false := decide_eq_false h3
    refine ACt.intro Try.func12 rfl (by kernel_rfl) (by simp [Try.ntmps12]) (fun cx => ?_)
    simp only [argE, Try.ntmps12, Try.results12]
    first | (have FRx := FR; clear FRx) | have FR := fr0S
    have FA := Sm.mk (And.intro TFPtJ (And.intro k1 (And.intro k2 (And.intro k3 (And.intro d1 w2)))))
    repeat' first | (apply Sm.mk; refine Ys ?_) | refine WP.seq fun K hK => ?_ | (apply Ob.mk; exact Yo) | refine And.intro (Ob.out ?_) ?_ | refine Y1PtJ ?_ | refine YzPtJ ?_ | (refine WP.cond rfl (fun hc => ?_) (fun hc => ?_) <;> (try simp only [ZC, reduceCtorEq, ZD] at hc) <;> (try exact absurd hc (by decide)) <;> (try (exfalso; omega))) | refine Rt.mk (And.intro (fun hg => Sm.out ?_) fun hg => Sm.out ?_) | (refine Nu.mk ?_; first | (fail_if_success have := nb1); intro nb1 | (fail_if_success have := nb2); intro nb2 | (fail_if_success have := nb3); intro nb3 | (fail_if_success have := nb4); intro nb4 | (fail_if_success have := nb5); intro nb5 | (fail_if_success have := nb6); intro nb6 | intro nbz) | (apply Yfr; refine Yf FR fun hFRb FR => ?_) | refine Two.mk ?_ ?_ | (apply Yxc; exact Yx) | refine Cs.mk fun hcs => Sm.out ?_ | go_step | omega | (simp only [maxLen_eq]; omega) | exact trivial
    (refine OutQ.drop _ _ (List.Perm.refl _) (by simp only [resv, ZK, look, loadv, loadn, loadnm, load1, load1m, hget, ↓reduceIte, Nat.reduceEqDiff, Nat.reduceAdd, Nat.reduceMul, Nat.reduceLeDiff, Nat.reduceLT, reduceCtorEq, TFPtJ, FR.out]) ⟨false, ⟨fun h => absurd h Bool.false_ne_true, fun h => absurd h.2.2.1 h3⟩, (by simp only [resv, resA, ZK, look, loadv, loadn, loadnm, load1, load1m, hget, ↓reduceIte, Nat.reduceEqDiff, Nat.reduceAdd, Nat.reduceMul, Nat.reduceLeDiff, Nat.reduceLT, reduceCtorEq, TFPtJ, FR.out]; first | done | rfl), rfl⟩)
  have k3 : decide (f < B) = true := decide_eq_true h3
  by_cases h4 : m ≤ B / 2
  rotate_left
  · have k4 : decide (m ≤ B / 2) = false := decide_eq_false h4
    refine ACt.intro Try.func12 rfl (by kernel_rfl) (by simp [Try.ntmps12]) (fun cx => ?_)
    simp only [argE, Try.ntmps12, Try.results12]
    first | (have FRx := FR; clear FRx) | have FR := fr0S
    have FA := Sm.mk (And.intro TFPtJ (And.intro k1 (And.intro k2 (And.intro k3 (And.intro k4 (And.intro d1 w2))))))
    repeat' first | (apply Sm.mk; refine Ys ?_) | refine WP.seq fun K hK => ?_ | (apply Ob.mk; exact Yo) | refine And.intro (Ob.out ?_) ?_ | refine Y1PtJ ?_ | refine YzPtJ ?_ | (refine WP.cond rfl (fun hc => ?_) (fun hc => ?_) <;> (try simp only [ZC, reduceCtorEq, ZD] at hc) <;> (try exact absurd hc (by decide)) <;> (try (exfalso; omega))) | refine Rt.mk (And.intro (fun hg => Sm.out ?_) fun hg => Sm.out ?_) | (refine Nu.mk ?_; first | (fail_if_success have := nb1); intro nb1 | (fail_if_success have := nb2); intro nb2 | (fail_if_success have := nb3); intro nb3 | (fail_if_success have := nb4); intro nb4 | (fail_if_success have := nb5); intro nb5 | (fail_if_success have := nb6); intro nb6 | intro nbz) | (apply Yfr; refine Yf FR fun hFRb FR => ?_) | refine Two.mk ?_ ?_ | (apply Yxc; exact Yx) | refine Cs.mk fun hcs => Sm.out ?_ | go_step | omega | (simp only [maxLen_eq]; omega) | exact trivial
    (refine OutQ.drop _ _ (List.Perm.refl _) (by simp only [resv, ZK, look, loadv, loadn, loadnm, load1, load1m, hget, ↓reduceIte, Nat.reduceEqDiff, Nat.reduceAdd, Nat.reduceMul, Nat.reduceLeDiff, Nat.reduceLT, reduceCtorEq, TFPtJ, FR.out]) ⟨false, ⟨fun h => absurd h Bool.false_ne_true, fun h => absurd h.2.2.2.1 h4⟩, (by simp only [resv, resA, ZK, look, loadv, loadn, loadnm, load1, load1m, hget, ↓reduceIte, Nat.reduceEqDiff, Nat.reduceAdd, Nat.reduceMul, Nat.reduceLeDiff, Nat.reduceLT, reduceCtorEq, TFPtJ, FR.out]; first | done | rfl), rfl⟩)
  have k4 : decide (m ≤ B / 2) = true := decide_eq_true h4
  have w3 : IntKind.i64.wrap (B - f) = B - f := wrap_i64 (by omega) (by omega)
  have w4 : IntKind.i64.wrap (B - f - m) = B - f - m := wrap_i64 (by omega) (by omega)
  obtain ⟨z, hz⟩ : ∃ z, decide (m ≤ B - f - m) = z := ⟨_, rfl⟩
  have hzz : z = true ↔ (0 ≤ f ∧ 1 ≤ m ∧ f < B ∧ m ≤ B / 2 ∧ m ≤ B - f - m) := by rw [← hz, decide_eq_true_eq]; exact ⟨fun h => ⟨h1, h2, h3, h4, h⟩, fun h => h.2.2.2.2⟩
  refine ACt.intro Try.func12 rfl (by kernel_rfl) (by simp [Try.ntmps12]) (fun cx => ?_)
  simp only [argE, Try.ntmps12, Try.results12]
  first | (have FRx := FR; clear FRx) | have FR := fr0S
  have FA := Sm.mk (And.intro TFPtJ (And.intro k1 (And.intro k2 (And.intro k3 (And.intro k4 (And.intro d1 (And.intro w2 (And.intro w3 (And.intro w4 hz)))))))))
  repeat' first | (apply Sm.mk; refine Ys ?_) | refine WP.seq fun K hK => ?_ | (apply Ob.mk; exact Yo) | refine And.intro (Ob.out ?_) ?_ | refine Y1PtJ ?_ | refine YzPtJ ?_ | (refine WP.cond rfl (fun hc => ?_) (fun hc => ?_) <;> (try simp only [ZC, reduceCtorEq, ZD] at hc) <;> (try exact absurd hc (by decide)) <;> (try (exfalso; omega))) | refine Rt.mk (And.intro (fun hg => Sm.out ?_) fun hg => Sm.out ?_) | (refine Nu.mk ?_; first | (fail_if_success have := nb1); intro nb1 | (fail_if_success have := nb2); intro nb2 | (fail_if_success have := nb3); intro nb3 | (fail_if_success have := nb4); intro nb4 | (fail_if_success have := nb5); intro nb5 | (fail_if_success have := nb6); intro nb6 | intro nbz) | (apply Yfr; refine Yf FR fun hFRb FR => ?_) | refine Two.mk ?_ ?_ | (apply Yxc; exact Yx) | refine Cs.mk fun hcs => Sm.out ?_ | go_step | omega | (simp only [maxLen_eq]; omega) | exact trivial
  (refine OutQ.drop _ _ (List.Perm.refl _) (by simp only [resv, ZK, look, loadv, loadn, loadnm, load1, load1m, hget, ↓reduceIte, Nat.reduceEqDiff, Nat.reduceAdd, Nat.reduceMul, Nat.reduceLeDiff, Nat.reduceLT, reduceCtorEq, TFPtJ, FR.out]) ⟨z, hzz, (by simp only [resv, resA, ZK, look, loadv, loadn, loadnm, load1, load1m, hget, ↓reduceIte, Nat.reduceEqDiff, Nat.reduceAdd, Nat.reduceMul, Nat.reduceLeDiff, Nat.reduceLT, reduceCtorEq, TFPtJ, FR.out]; first | done | rfl), rfl⟩)
theorem on12_b (B f m : Int) (hB : 0 ≤ B ∧ B ≤ 1000) (z : Bool) (h : z = true ↔ onSl B f m) : ACt Try.prog 12 [iv .i64 B, iv .i64 f, iv .i64 m] [] (Fn (bv z)) :=
  (on12_ct B f m hB).mono fun r F' ⟨z2, h1, h2, h3⟩ => by
    have e : z2 = z := by rw [Bool.eq_iff_iff, h1, h]
    rw [e] at h2; exact ⟨h2, h3⟩
theorem slmay_no (b : Nat) (a : DA) (l : DL) (f m : Int) (hn : a.n ≤ 400) (h : ¬ onSl a.n f m) : ACt Try.prog 32 [pt b 0, iv .i64 f, iv .i64 m] (dH b a l) (fun r F' => r = iv .i64 2 ∧ F' = dH b a l) := by
  have cB := blocks_d b a l
  unfold onSl at h
  by_cases h1 : f < 0
  · have k1 : decide (f < 0) = true := decide_eq_true h1
    refine ACt.intro Try.func32 rfl (by kernel_rfl) (by simp [Try.ntmps32]) (fun cx => ?_)
    simp only [argE, Try.ntmps32, Try.results32]
    first | (have FRx := FR; clear FRx) | have FR := fr0S
    have FA := Sm.mk (And.intro TFPtJ k1)
    repeat' first | (apply Sm.mk; refine Ys ?_) | refine WP.seq fun K hK => ?_ | (apply Ob.mk; exact Yo) | refine And.intro (Ob.out ?_) ?_ | refine Y1PtJ ?_ | refine CallV.updM (cB) (pmz _) (Sm.out ?_) | ((first | refine ExF.up ?_ (cB) (Sm.out ?_) | refine ExG.up ?_ (fun _ => cB) (Sm.out ?_) | refine ExG.upJ ?_ (fun _ => cB) (Sm.out ?_) | refine ExG.upI ?_ (fun _ => cB) (Ob.out ?_) (Sm.out ?_)); focus (exact ⟨_, (pmz _)⟩)) | refine YzPtJ ?_ | (refine WP.cond rfl (fun hc => ?_) (fun hc => ?_) <;> (try simp only [ZC, reduceCtorEq, ZD] at hc) <;> (try exact absurd hc (by decide)) <;> (try (exfalso; omega))) | refine Rt.mk (And.intro (fun hg => Sm.out ?_) fun hg => Sm.out ?_) | (refine Nu.mk ?_; first | (fail_if_success have := nb1); intro nb1 | (fail_if_success have := nb2); intro nb2 | (fail_if_success have := nb3); intro nb3 | (fail_if_success have := nb4); intro nb4 | (fail_if_success have := nb5); intro nb5 | (fail_if_success have := nb6); intro nb6 | intro nbz) | (apply Yfr; refine Yf FR fun hFRb FR => ?_) | refine Two.mk ?_ ?_ | (apply Yxc; exact Yx) | refine Cs.mk fun hcs => Sm.out ?_ | go_step | omega | (simp only [maxLen_eq]; omega) | exact trivial
    (refine OutQ.drop _ _ (pmz _) (by simp only [resv, ZK, look, loadv, loadn, loadnm, load1, load1m, hget, ↓reduceIte, Nat.reduceEqDiff, Nat.reduceAdd, Nat.reduceMul, Nat.reduceLeDiff, Nat.reduceLT, reduceCtorEq, TFPtJ, FR.out]) ⟨(by simp only [resv, resA, ZK, look, loadv, loadn, loadnm, load1, load1m, hget, ↓reduceIte, Nat.reduceEqDiff, Nat.reduceAdd, Nat.reduceMul, Nat.reduceLeDiff, Nat.reduceLT, reduceCtorEq, TFPtJ, FR.out]; first | done | rfl), rfl⟩)
  have k1 : decide (f < 0) = false := decide_eq_false h1
  by_cases h2 : m < 1
  · have k2 : decide (m < 1) = true := decide_eq_true h2
    refine ACt.intro Try.func32 rfl (by kernel_rfl) (by simp [Try.ntmps32]) (fun cx => ?_)
    simp only [argE, Try.ntmps32, Try.results32]
    first | (have FRx := FR; clear FRx) | have FR := fr0S
    have FA := Sm.mk (And.intro TFPtJ (And.intro k1 k2))
    repeat' first | (apply Sm.mk; refine Ys ?_) | refine WP.seq fun K hK => ?_ | (apply Ob.mk; exact Yo) | refine And.intro (Ob.out ?_) ?_ | refine Y1PtJ ?_ | refine CallV.updM (cB) (pmz _) (Sm.out ?_) | ((first | refine ExF.up ?_ (cB) (Sm.out ?_) | refine ExG.up ?_ (fun _ => cB) (Sm.out ?_) | refine ExG.upJ ?_ (fun _ => cB) (Sm.out ?_) | refine ExG.upI ?_ (fun _ => cB) (Ob.out ?_) (Sm.out ?_)); focus (exact ⟨_, (pmz _)⟩)) | refine YzPtJ ?_ | (refine WP.cond rfl (fun hc => ?_) (fun hc => ?_) <;> (try simp only [ZC, reduceCtorEq, ZD] at hc) <;> (try exact absurd hc (by decide)) <;> (try (exfalso; omega))) | refine Rt.mk (And.intro (fun hg => Sm.out ?_) fun hg => Sm.out ?_) | (refine Nu.mk ?_; first | (fail_if_success have := nb1); intro nb1 | (fail_if_success have := nb2); intro nb2 | (fail_if_success have := nb3); intro nb3 | (fail_if_success have := nb4); intro nb4 | (fail_if_success have := nb5); intro nb5 | (fail_if_success have := nb6); intro nb6 | intro nbz) | (apply Yfr; refine Yf FR fun hFRb FR => ?_) | refine Two.mk ?_ ?_ | (apply Yxc; exact Yx) | refine Cs.mk fun hcs => Sm.out ?_ | go_step | omega | (simp only [maxLen_eq]; omega) | exact trivial
    (refine OutQ.drop _ _ (pmz _) (by simp only [resv, ZK, look, loadv, loadn, loadnm, load1, load1m, hget, ↓reduceIte, Nat.reduceEqDiff, Nat.reduceAdd, Nat.reduceMul, Nat.reduceLeDiff, Nat.reduceLT, reduceCtorEq, TFPtJ, FR.out]) ⟨(by simp only [resv, resA, ZK, look, loadv, loadn, loadnm, load1, load1m, hget, ↓reduceIte, Nat.reduceEqDiff, Nat.reduceAdd, Nat.reduceMul, Nat.reduceLeDiff, Nat.reduceLT, reduceCtorEq, TFPtJ, FR.out]; first | done | rfl), rfl⟩)
  have k2 : decide (m < 1) = false := decide_eq_false h2
  by_cases h3 : f > (a.n : Int)
  · have k3 : decide (f > (a.n : Int)) = true := decide_eq_true h3
    refine ACt.intro Try.func32 rfl (by kernel_rfl) (by simp [Try.ntmps32]) (fun cx => ?_)
    simp only [argE, Try.ntmps32, Try.results32]
    first | (have FRx := FR; clear FRx) | have FR := fr0S
    have FA := Sm.mk (And.intro TFPtJ (And.intro k1 (And.intro k2 k3)))
    repeat' first | (apply Sm.mk; refine Ys ?_) | refine WP.seq fun K hK => ?_ | (apply Ob.mk; exact Yo) | refine And.intro (Ob.out ?_) ?_ | refine Y1PtJ ?_ | refine CallV.updM (cB) (pmz _) (Sm.out ?_) | ((first | refine ExF.up ?_ (cB) (Sm.out ?_) | refine ExG.up ?_ (fun _ => cB) (Sm.out ?_) | refine ExG.upJ ?_ (fun _ => cB) (Sm.out ?_) | refine ExG.upI ?_ (fun _ => cB) (Ob.out ?_) (Sm.out ?_)); focus (exact ⟨_, (pmz _)⟩)) | refine YzPtJ ?_ | (refine WP.cond rfl (fun hc => ?_) (fun hc => ?_) <;> (try simp only [ZC, reduceCtorEq, ZD] at hc) <;> (try exact absurd hc (by decide)) <;> (try (exfalso; omega))) | refine Rt.mk (And.intro (fun hg => Sm.out ?_) fun hg => Sm.out ?_) | (refine Nu.mk ?_; first | (fail_if_success have := nb1); intro nb1 | (fail_if_success have := nb2); intro nb2 | (fail_if_success have := nb3); intro nb3 | (fail_if_success have := nb4); intro nb4 | (fail_if_success have := nb5); intro nb5 | (fail_if_success have := nb6); intro nb6 | intro nbz) | (apply Yfr; refine Yf FR fun hFRb FR => ?_) | refine Two.mk ?_ ?_ | (apply Yxc; exact Yx) | refine Cs.mk fun hcs => Sm.out ?_ | go_step | omega | (simp only [maxLen_eq]; omega) | exact trivial
    (refine OutQ.drop _ _ (pmz _) (by simp only [resv, ZK, look, loadv, loadn, loadnm, load1, load1m, hget, ↓reduceIte, Nat.reduceEqDiff, Nat.reduceAdd, Nat.reduceMul, Nat.reduceLeDiff, Nat.reduceLT, reduceCtorEq, TFPtJ, FR.out]) ⟨(by simp only [resv, resA, ZK, look, loadv, loadn, loadnm, load1, load1m, hget, ↓reduceIte, Nat.reduceEqDiff, Nat.reduceAdd, Nat.reduceMul, Nat.reduceLeDiff, Nat.reduceLT, reduceCtorEq, TFPtJ, FR.out]; first | done | rfl), rfl⟩)
  have k3 : decide (f > (a.n : Int)) = false := decide_eq_false h3
  have w1 : IntKind.i64.wrap ((a.n : Int) - f) = (a.n : Int) - f := wrap_i64 (by omega) (by omega)
  have d1 : Int.tdiv ((a.n : Int) - f) 2 = ((a.n : Int) - f) / 2 := Int.tdiv_eq_ediv_of_nonneg (by omega)
  have w2 : IntKind.i64.wrap (((a.n : Int) - f) / 2) = ((a.n : Int) - f) / 2 := wrap_i64 (by omega) (by omega)
  have k4 : decide (m > ((a.n : Int) - f) / 2) = true := decide_eq_true (by omega)
  refine ACt.intro Try.func32 rfl (by kernel_rfl) (by simp [Try.ntmps32]) (fun cx => ?_)
  simp only [argE, Try.ntmps32, Try.results32]
  first | (have FRx := FR; clear FRx) | have FR := fr0S
  have FA := Sm.mk (And.intro TFPtJ (And.intro k1 (And.intro k2 (And.intro k3 (And.intro k4 (And.intro w1 (And.intro w2 d1)))))))
  repeat' first | (apply Sm.mk; refine Ys ?_) | refine WP.seq fun K hK => ?_ | (apply Ob.mk; exact Yo) | refine And.intro (Ob.out ?_) ?_ | refine Y1PtJ ?_ | refine CallV.updM (cB) (pmz _) (Sm.out ?_) | ((first | refine ExF.up ?_ (cB) (Sm.out ?_) | refine ExG.up ?_ (fun _ => cB) (Sm.out ?_) | refine ExG.upJ ?_ (fun _ => cB) (Sm.out ?_) | refine ExG.upI ?_ (fun _ => cB) (Ob.out ?_) (Sm.out ?_)); focus (exact ⟨_, (pmz _)⟩)) | refine YzPtJ ?_ | (refine WP.cond rfl (fun hc => ?_) (fun hc => ?_) <;> (try simp only [ZC, reduceCtorEq, ZD] at hc) <;> (try exact absurd hc (by decide)) <;> (try (exfalso; omega))) | refine Rt.mk (And.intro (fun hg => Sm.out ?_) fun hg => Sm.out ?_) | (refine Nu.mk ?_; first | (fail_if_success have := nb1); intro nb1 | (fail_if_success have := nb2); intro nb2 | (fail_if_success have := nb3); intro nb3 | (fail_if_success have := nb4); intro nb4 | (fail_if_success have := nb5); intro nb5 | (fail_if_success have := nb6); intro nb6 | intro nbz) | (apply Yfr; refine Yf FR fun hFRb FR => ?_) | refine Two.mk ?_ ?_ | (apply Yxc; exact Yx) | refine Cs.mk fun hcs => Sm.out ?_ | go_step | omega | (simp only [maxLen_eq]; omega) | exact trivial
  (refine OutQ.drop _ _ (pmz _) (by simp only [resv, ZK, look, loadv, loadn, loadnm, load1, load1m, hget, ↓reduceIte, Nat.reduceEqDiff, Nat.reduceAdd, Nat.reduceMul, Nat.reduceLeDiff, Nat.reduceLT, reduceCtorEq, TFPtJ, FR.out]) ⟨(by simp only [resv, resA, ZK, look, loadv, loadn, loadnm, load1, load1m, hget, ↓reduceIte, Nat.reduceEqDiff, Nat.reduceAdd, Nat.reduceMul, Nat.reduceLeDiff, Nat.reduceLT, reduceCtorEq, TFPtJ, FR.out]; first | done | rfl), rfl⟩)
theorem slfmt_no (b : Nat) (a : DA) (l : DL) (f m : Int) (hn : a.n ≤ 400) (h : ¬ onSl a.n f m) : ACt Try.prog 10 [pt b 0, iv .i64 f, iv .i64 m] (dH b a l) (fun r F' => r = iv .i64 2 ∧ F' = dH b a l) := by
  have cM := slmay_no b a l f m hn h
  have k : ((2 : Int) != 0) = true := rfl
  refine ACt.intro Try.func10 rfl (by kernel_rfl) (by simp [Try.ntmps10]) (fun cx => ?_)
  simp only [argE, Try.ntmps10, Try.results10]
  first | (have FRx := FR; clear FRx) | have FR := fr0S
  have FA := Sm.mk (And.intro TFPtJ k)
  repeat' first | (apply Sm.mk; refine Ys ?_) | refine WP.seq fun K hK => ?_ | (apply Ob.mk; exact Yo) | refine And.intro (Ob.out ?_) ?_ | refine Y1PtJ ?_ | refine CallV.updM (cM) (pmz _) (Sm.out ?_) | ((first | refine ExF.up ?_ (cM) (Sm.out ?_) | refine ExG.up ?_ (fun _ => cM) (Sm.out ?_) | refine ExG.upJ ?_ (fun _ => cM) (Sm.out ?_) | refine ExG.upI ?_ (fun _ => cM) (Ob.out ?_) (Sm.out ?_)); focus (exact ⟨_, (pmz _)⟩)) | refine YzPtJ ?_ | (refine WP.cond rfl (fun hc => ?_) (fun hc => ?_) <;> (try simp only [ZC, reduceCtorEq, ZD] at hc) <;> (try exact absurd hc (by decide)) <;> (try (exfalso; omega))) | refine Rt.mk (And.intro (fun hg => Sm.out ?_) fun hg => Sm.out ?_) | (refine Nu.mk ?_; first | (fail_if_success have := nb1); intro nb1 | (fail_if_success have := nb2); intro nb2 | (fail_if_success have := nb3); intro nb3 | (fail_if_success have := nb4); intro nb4 | (fail_if_success have := nb5); intro nb5 | (fail_if_success have := nb6); intro nb6 | intro nbz) | (apply Yfr; refine Yf FR fun hFRb FR => ?_) | refine Two.mk ?_ ?_ | (apply Yxc; exact Yx) | refine Cs.mk fun hcs => Sm.out ?_ | go_step | omega | (simp only [maxLen_eq]; omega) | exact trivial
  (refine OutQ.drop _ _ (pmz _) (by simp only [resv, ZK, look, loadv, loadn, loadnm, load1, load1m, hget, ↓reduceIte, Nat.reduceEqDiff, Nat.reduceAdd, Nat.reduceMul, Nat.reduceLeDiff, Nat.reduceLT, reduceCtorEq, TFPtJ, FR.out]) ⟨(by simp only [resv, resA, ZK, look, loadv, loadn, loadnm, load1, load1m, hget, ↓reduceIte, Nat.reduceEqDiff, Nat.reduceAdd, Nat.reduceMul, Nat.reduceLeDiff, Nat.reduceLT, reduceCtorEq, TFPtJ, FR.out]; first | done | rfl), rfl⟩)
theorem slopen_no (b : Nat) (a : DA) (l : DL) (f m : Int) (hn : a.n ≤ 400) (h : ¬ onSl a.n f m) : ACt Try.prog 11 [pt b 0, iv .i64 f, iv .i64 m] (dH b a l) (fun r F' => r = .tup [.lit (.pointer none), iv .i64 2] ∧ F' = dH b a l) := by
  have cM := slmay_no b a l f m hn h
  have k : ((2 : Int) != 0) = true := rfl
  refine ACt.intro Try.func11 rfl (by kernel_rfl) (by simp [Try.ntmps11]) (fun cx => ?_)
  simp only [argE, Try.ntmps11, Try.results11]
  first | (have FRx := FR; clear FRx) | have FR := fr0S
  have FA := Sm.mk (And.intro TFPtJ k)
  repeat' first | (apply Sm.mk; refine Ys ?_) | refine WP.seq fun K hK => ?_ | (apply Ob.mk; exact Yo) | refine And.intro (Ob.out ?_) ?_ | refine Y1PtJ ?_ | refine CallV.updM (cM) (pmz _) (Sm.out ?_) | ((first | refine ExF.up ?_ (cM) (Sm.out ?_) | refine ExG.up ?_ (fun _ => cM) (Sm.out ?_) | refine ExG.upJ ?_ (fun _ => cM) (Sm.out ?_) | refine ExG.upI ?_ (fun _ => cM) (Ob.out ?_) (Sm.out ?_)); focus (exact ⟨_, (pmz _)⟩)) | refine YzPtJ ?_ | (refine WP.cond rfl (fun hc => ?_) (fun hc => ?_) <;> (try simp only [ZC, reduceCtorEq, ZD] at hc) <;> (try exact absurd hc (by decide)) <;> (try (exfalso; omega))) | refine Rt.mk (And.intro (fun hg => Sm.out ?_) fun hg => Sm.out ?_) | (refine Nu.mk ?_; first | (fail_if_success have := nb1); intro nb1 | (fail_if_success have := nb2); intro nb2 | (fail_if_success have := nb3); intro nb3 | (fail_if_success have := nb4); intro nb4 | (fail_if_success have := nb5); intro nb5 | (fail_if_success have := nb6); intro nb6 | intro nbz) | (apply Yfr; refine Yf FR fun hFRb FR => ?_) | refine Two.mk ?_ ?_ | (apply Yxc; exact Yx) | refine Cs.mk fun hcs => Sm.out ?_ | go_step | omega | (simp only [maxLen_eq]; omega) | exact trivial
  (refine OutQ.drop _ _ (pmz _) (by simp only [resv, ZK, look, loadv, loadn, loadnm, load1, load1m, hget, ↓reduceIte, Nat.reduceEqDiff, Nat.reduceAdd, Nat.reduceMul, Nat.reduceLeDiff, Nat.reduceLT, reduceCtorEq, TFPtJ, FR.out]) ⟨(by simp only [resv, resA, ZK, look, loadv, loadn, loadnm, load1, load1m, hget, ↓reduceIte, Nat.reduceEqDiff, Nat.reduceAdd, Nat.reduceMul, Nat.reduceLeDiff, Nat.reduceLT, reduceCtorEq, TFPtJ, FR.out]; first | done | rfl), rfl⟩)
theorem deeds_ct (b size de : Nat) (L S W : AV) (f : Int) (dk : Bool) : ACt Try.prog 16 [pt b 0] [(b, dkM size L S W f dk de)] (fun r F' => r = iv .i64 (de : Int) ∧ F' = [(b, dkM size L S W f dk de)]) := by
  unfold dkM
  refine ACt.intro Try.func16 rfl (by kernel_rfl) (by simp [Try.ntmps16]) (fun cx => ?_)
  simp only [argE, Try.ntmps16, Try.results16]
  first | (have FRx := FR; clear FRx) | have FR := fr0S
  have FA := Sm.mk (TFPtJ)
  repeat' first | (apply Sm.mk; refine Ys ?_) | refine WP.seq fun K hK => ?_ | (apply Ob.mk; exact Yo) | refine And.intro (Ob.out ?_) ?_ | refine Y1PtJ ?_ | refine YzPtJ ?_ | (refine WP.cond rfl (fun hc => ?_) (fun hc => ?_) <;> (try simp only [ZC, reduceCtorEq, ZD] at hc) <;> (try exact absurd hc (by decide)) <;> (try (exfalso; omega))) | refine Rt.mk (And.intro (fun hg => Sm.out ?_) fun hg => Sm.out ?_) | (refine Nu.mk ?_; first | (fail_if_success have := nb1); intro nb1 | (fail_if_success have := nb2); intro nb2 | (fail_if_success have := nb3); intro nb3 | (fail_if_success have := nb4); intro nb4 | (fail_if_success have := nb5); intro nb5 | (fail_if_success have := nb6); intro nb6 | intro nbz) | (apply Yfr; refine Yf FR fun hFRb FR => ?_) | refine Two.mk ?_ ?_ | (apply Yxc; exact Yx) | refine Cs.mk fun hcs => Sm.out ?_ | go_step | omega | (simp only [maxLen_eq]; omega) | exact trivial
  (refine OutQ.upd (by simp only [resv, ZK, look, loadv, loadn, loadnm, load1, load1m, hget, ↓reduceIte, Nat.reduceEqDiff, Nat.reduceAdd, Nat.reduceMul, Nat.reduceLeDiff, Nat.reduceLT, reduceCtorEq, TFPtJ, FR.out]) (by simp only [resv, resA, ZK, look, loadv, loadn, loadnm, load1, load1m, hget, ↓reduceIte, Nat.reduceEqDiff, Nat.reduceAdd, Nat.reduceMul, Nat.reduceLeDiff, Nat.reduceLT, reduceCtorEq, TFPtJ, FR.out]; first | done | rfl) (by simp only [hget, ↓reduceIte, if_true, if_false, FR.out]; first | done | rfl) ?_ <;> first | exact rfl | (simp only [ZK, look, loadv, loadn, loadnm, load1, load1m, hget, ↓reduceIte, Nat.reduceEqDiff, Nat.reduceAdd, Nat.reduceMul, Nat.reduceLeDiff, Nat.reduceLT, reduceCtorEq, TFPtJ, FR.out]; done) | skip)
theorem waits_ct (b size de : Nat) (L S : AV) (f : Int) (dk : Bool) : ACt Try.prog 19 [pt b 0] [(b, dkM size L S nl f dk de)] (fun r F' => r = iv .i64 0 ∧ F' = [(b, dkM size L S nl f dk de)]) := by
  unfold dkM
  refine ACt.intro Try.func19 rfl (by kernel_rfl) (by simp [Try.ntmps19]) (fun cx => ?_)
  simp only [argE, Try.ntmps19, Try.results19]
  first | (have FRx := FR; clear FRx) | have FR := fr0S
  have FA := Sm.mk (TFPtJ)
  repeat' first | (apply Sm.mk; refine Ys ?_) | refine WP.seq fun K hK => ?_ | (apply Ob.mk; exact Yo) | refine And.intro (Ob.out ?_) ?_ | refine Y1PtJ ?_ | refine YzPtJ ?_ | (refine WP.cond rfl (fun hc => ?_) (fun hc => ?_) <;> (try simp only [ZC, reduceCtorEq, ZD] at hc) <;> (try exact absurd hc (by decide)) <;> (try (exfalso; omega))) | refine Rt.mk (And.intro (fun hg => Sm.out ?_) fun hg => Sm.out ?_) | (refine Nu.mk ?_; first | (fail_if_success have := nb1); intro nb1 | (fail_if_success have := nb2); intro nb2 | (fail_if_success have := nb3); intro nb3 | (fail_if_success have := nb4); intro nb4 | (fail_if_success have := nb5); intro nb5 | (fail_if_success have := nb6); intro nb6 | intro nbz) | (apply Yfr; refine Yf FR fun hFRb FR => ?_) | refine Two.mk ?_ ?_ | (apply Yxc; exact Yx) | refine Cs.mk fun hcs => Sm.out ?_ | go_step | omega | (simp only [maxLen_eq]; omega) | exact trivial
  (refine OutQ.upd (by simp only [resv, ZK, look, loadv, loadn, loadnm, load1, load1m, hget, ↓reduceIte, Nat.reduceEqDiff, Nat.reduceAdd, Nat.reduceMul, Nat.reduceLeDiff, Nat.reduceLT, reduceCtorEq, TFPtJ, FR.out]) (by simp only [resv, resA, ZK, look, loadv, loadn, loadnm, load1, load1m, hget, ↓reduceIte, Nat.reduceEqDiff, Nat.reduceAdd, Nat.reduceMul, Nat.reduceLeDiff, Nat.reduceLT, reduceCtorEq, TFPtJ, FR.out]; first | done | rfl) (by simp only [hget, ↓reduceIte, if_true, if_false, FR.out]; first | done | rfl) ?_ <;> first | exact rfl | (simp only [ZK, look, loadv, loadn, loadnm, load1, load1m, hget, ↓reduceIte, Nat.reduceEqDiff, Nat.reduceAdd, Nat.reduceMul, Nat.reduceLeDiff, Nat.reduceLT, reduceCtorEq, TFPtJ, FR.out]; done) | skip)
theorem deeds_d (b : Nat) (a : DA) (l : DL) : ACt Try.prog 16 [pt b 0] (dH b a l) (fun r F' => r = iv .i64 (a.de : Int) ∧ F' = dH b a l) := first_d _ (deeds_ct _ _ _ _ _ _ _ _)
theorem waits_d (b : Nat) (a : DA) (l : DL) (h : a.W = []) : ACt Try.prog 19 [pt b 0] (dH b a l) (fun r F' => r = iv .i64 0 ∧ F' = dH b a l) := by
  obtain ⟨s, n, L, S, W, f, dk, de⟩ := a
  simp only at h
  subst h
  exact first_d _ (waits_ct b s de _ _ f dk)
structure HP (s n f m : Nat) (P Q : Bs) (E : Nat × List Int) (a : DA) : Prop where
  up : a.f = -1
  h : ∃ W, Stl s n (ub W) a ∧ W.length = n * s ∧ slP W f m s = E ∧ W.take (f * s) = P ∧ W.drop ((f + 2 * m) * s) = Q
section
variable {c s n f m : Nat} {P Q : Bs} {E : Nat × List Int} {a : DA}
theorem HP.snp (h : HP s n f m P Q E a) : (E.1 = 0 → E.2 = []) ∧ E.2.length ≤ m * s ∧ E.1 < 18446744073709551616 := by
  obtain ⟨W, -, -, rfl, -, -⟩ := h.h
  exact ⟨slP_nil W f m s, slP_len W f m s, slP_bd W f m s⟩
theorem HP.dsk (h : HP s n f m P Q E a) : a.size = s ∧ a.n = n ∧ a.W = [] ∧ a.dk = false := by
  obtain ⟨W, h, -⟩ := h.h
  exact ⟨h.s, h.n, h.W, h.dk⟩
theorem HP.opn (b : Nat) (l : DL) (h : HP s n f m P Q E a) (hA : AOk c a) (hl : LOk b a l) (hfm : f + 2 * m ≤ n) (hm : 1 ≤ m) (hms5 : m * s ≤ 5000) :
    ACt Try.prog 11 [pt b 0, iv .i64 (f : Int), iv .i64 (m : Int)] (dH b a l) (fun r F' => ∃ x : Nat, r = .tup [pt x 0, iv .i64 0] ∧ F' = (x, slO b f m E false) :: dH b a l) := by
  obtain ⟨W, h1, -, rfl, -, -⟩ := h.h
  exact open11_ct b a l hA h1 hl f m hfm hm hms5
theorem HP.put (y b : Nat) (l : DL) (h : HP s n f m P Q E a) (hA : AOk c a) (hl : LOk b a l) (hfm : f + 2 * m ≤ n) (hm : 1 ≤ m) (hms : m * s ≤ 5000) (z : Bs) (hz : z.length ≤ 2000) (hc : c + 2 * m ≤ 900) :
    ∃ X : DA, ACt Try.prog 15 [pt y 0, .slz .u8 (ub z)] ((y, slO b f m E false) :: dH b a l) (fun r F' => ∃ q : LS b X, r = iv .i64 (rpE E (m * s) (ub z)).2 ∧ F' = (y, slO b f m (rpE E (m * s) (ub z)).1 false) :: dH b X q.1) ∧ AOk (c + 2 * m + 2) X ∧ HP s n f m P Q (rpE E (m * s) (ub z)).1 X := by
  obtain ⟨W, h1, h2, rfl, h4, h5⟩ := h.h
  obtain ⟨X, g1, g2, g3, W', k1, k2, k3, k4, k5⟩ := put_up y b a l hA h1 h2 hl hfm hm hms z hz hc h.up
  exact ⟨X, g1, g2, g3, W', k1, k2, k3, k4.trans h4, k5.trans h5⟩
theorem HP.fmt (b : Nat) (l : DL) (h : HP s n f m P Q E a) (hA : AOk c a) (hl : LOk b a l) (hfm : f + 2 * m ≤ n) (hm : 1 ≤ m) (hc : c + 2 * m ≤ 990) :
    ∃ X : DA, ACt Try.prog 10 [pt b 0, iv .i64 (f : Int), iv .i64 (m : Int)] (dH b a l) (fun r F' => ∃ q : LS b X, r = iv .i64 0 ∧ F' = dH b X q.1) ∧ AOk (c + 2 * m + 1) X ∧ HP s n f m P Q (0, []) X := by
  obtain ⟨W, h1, h2, -, h4, h5⟩ := h.h
  have hs1 : 1 ≤ s := by have := hA.s1; have := h1.s; omega
  have cF := slfmt_ct b a l hA hl f m (by rw [h1.n]; omega) hm h1.dk hc
  have hR := rg_of (f := f) (m := 2 * m) h1 h2 hfm
  obtain ⟨g1, g2, g3⟩ := (fmt_rg hA hR hfm).up h.up
  change (fmX f s (2 * m) a).2 = 0 at g1
  change Rg s n f (2 * m) _ _ _ (fmX f s (2 * m) a).1 at g2
  change (fmX f s (2 * m) a).1.f = -1 at g3
  have hA1 : AOk (c + 2 * m + 1) (fmX f s (2 * m) a).1 := by
    refine (lyR_ok _ a _ _ hA).le ?_
    have := cks_m (m := 2 * m) (s := s) hs1 (z := List.replicate (2 * m * s) (0 : Int)) (by simp)
    omega
  rw [h1.s, g1] at cF
  have m1 := Nat.mul_le_mul_right s hfm
  have e2 : (f + 2 * m) * s = f * s + m * s + m * s := by rw [Nat.add_mul, Nat.mul_assoc, Nat.two_mul]; omega
  have e1 : (f + m) * s = f * s + m * s := Nat.add_mul _ _ _
  have e3 : 2 * m * s = m * s + m * s := by rw [Nat.mul_assoc, Nat.two_mul]
  have lP := g2.lP
  rw [h4, h5] at g2
  rw [h4] at lP
  have lQ : Q.length = n * s - (f * s + m * s + m * s) := by rw [← h5, List.length_drop, h2, e2]
  rw [e2] at m1
  refine ⟨_, cF, hA1, g3, _, g2.st, ?_, ?_, ?_, ?_⟩
  · simp only [List.length_append, zrs, List.length_replicate]; omega
  · have d1 : (P ++ (zrs (2 * m * s) ++ Q)).drop (f * s) = zrs (m * s) ++ (zrs (m * s) ++ Q) := by
      rw [← lP, List.drop_left, e3]
      simp only [zrs, ← List.replicate_append_replicate, List.append_assoc]
    have t1 : ((P ++ (zrs (2 * m * s) ++ Q)).drop (f * s)).take (m * s) = zrs (m * s) := by
      rw [d1, List.take_append_of_le_length (by simp [zrs]), List.take_of_length_le (by simp [zrs])]
    have t2 : ((P ++ (zrs (2 * m * s) ++ Q)).drop ((f + m) * s)).take (m * s) = zrs (m * s) := by
      rw [e1, ← List.drop_drop, d1, List.drop_append_of_le_length (by simp [zrs]), List.drop_of_length_le (by simp [zrs]), List.nil_append, List.take_append_of_le_length (by simp [zrs]), List.take_of_length_le (by simp [zrs])]
    unfold slP
    rw [t1, t2, slF_zrs, slF_zrs]; rfl
  · rw [← lP, List.take_left]
  · rw [e2, Nat.add_assoc, ← List.drop_drop, ← lP, List.drop_left, List.drop_append_of_le_length (by simp [zrs]; omega), List.drop_of_length_le (by simp [zrs]; omega), List.nil_append]
end
end Go.Proofs.Yteoajodoejoccaa
