/-
  The walks and the laws that the statement leans on, part 35.
-/
import Derived.Test.YtdkkfgcdnojmaaaDoorS13
import Derived.Test.YtdkkfgcdnojmaaaDoorS33
import Derived.Test.YtdkkfgcdnojmaaaDoorS34
namespace Go.Proofs.YtdkkfgcdnojmaaaDoor
open Go
set_option linter.unusedVariables false
set_option linter.unusedSimpArgs false
set_option linter.defProp false
def TFGbH :=
  And.intro (And.intro (And.intro tyc3 zmb3) (And.intro tyc4 zmb4)) (And.intro (And.intro tyc9 zmb9) (And.intro Tryd.underlying3 (And.intro Tryd.underlying4 Tryd.underlying9)))
theorem Y1GbH {G R : Prop} (r : R) (h : R → G := by intro r; first | (apply WP.region; exact rvc_sound _ _ (Sm.out r)) | exact WP.drawK rfl mixed (by decide +kernel) (Sm.out r) | (apply WP.block; exact r) | (apply WP.skip; exact Yq r) | (apply WP.exit; exact Yq r) | (apply WP.ret; exact Sm.out r) | exact WP.cond rfl (fun _ => r) (fun hg => absurd hg (by decide)) | exact WP.cond rfl (fun hg => absurd hg (by decide)) (fun _ => r) | exact Rt.mk (And.intro (fun _ => Sm.out r) fun hg => absurd hg (by decide)) | exact Rt.mk (And.intro (fun hg => absurd hg (by decide)) fun _ => Sm.out r)) : G := h r
theorem YzGbH {G R : Prop} (r : R) (h : R → G := by intro r; first | (apply ExG.no; exact Sm.out r) | (apply Or.inl; apply ExG.no; exact Sm.out r) | exact Or.inl (And.intro (fun hg => absurd hg (by decide)) (ExG.no (Sm.out r)))) : G := h r
theorem squeezes0 (zs ss : List Int) (hb : By zs) (hbs : By ss) (n0 n1 : Nat) : ACt Tryd.prog 5 [stz zs, stz ss] [(0, .zs .u8 fsZ 256 n0), (1, .zs .u8 acZ 32 n1)] (fun r F' => r = bv true ∧ F' = [(0, .zs .u8 fsZ 256 n0), (1, .zs .u8 acZ 32 n1)]) := by
  have cA := awake_ct n0 n1
  have hs := bstr_size zs
  have hq := bstr_size ss
  by_cases hl : 1000 < zs.length ∨ 1000 < ss.length
  · have k1 : (decide ((zs.length : Int) > 1000) || decide ((ss.length : Int) > 1000)) = true := by
      rcases hl with h | h
      · rw [decide_eq_true (show (zs.length : Int) > 1000 by omega)]; rfl
      · rw [decide_eq_true (show (ss.length : Int) > 1000 by omega)]; simp
    obtain ⟨x, hx⟩ : ∃ x, decide ((zs.length : Int) > 1000) = x := ⟨_, rfl⟩
    obtain ⟨y, hy⟩ : ∃ y, decide ((ss.length : Int) > 1000) = y := ⟨_, rfl⟩
    rw [hx, hy] at k1
    obtain ⟨F, hF⟩ : ∃ F, F = fsZ := ⟨_, rfl⟩
    obtain ⟨A, hA⟩ : ∃ A, A = acZ := ⟨_, rfl⟩
    rw [← hF, ← hA] at cA ⊢
    unfold stz
    obtain ⟨B, hB⟩ : ∃ B, B = bstr zs := ⟨_, rfl⟩
    obtain ⟨C, hC⟩ : ∃ C, C = bstr ss := ⟨_, rfl⟩
    rw [← hB] at hs ⊢
    rw [← hC] at hq ⊢
    refine ACt.intro Tryd.func5 rfl (by kernel_rfl) (by simp [Tryd.ntmps5]) (fun cx => ?_)
    simp only [argE, Tryd.ntmps5, Tryd.results5]
    first | (have FRx := FR; clear FRx) | have FR := fr0S
    have FA := Sm.mk (And.intro TFGbH (And.intro hs (And.intro hq (And.intro hx (And.intro hy k1)))))
    repeat' first | (apply Sm.mk; refine Ys ?_) | refine WP.seq fun K hK => ?_ | (apply Ob.mk; exact Yo) | refine And.intro (Ob.out ?_) ?_ | refine Y1GbH ?_ | refine Yl2 (c := cA) (r := ?_) | refine YzGbH ?_ | (refine WP.cond rfl (fun hc => ?_) (fun hc => ?_) <;> (try simp only [ZC, reduceCtorEq, ZD] at hc) <;> (try exact absurd hc (by decide)) <;> (try (exfalso; omega))) | refine Rt.mk (And.intro (fun hg => Sm.out ?_) fun hg => Sm.out ?_) | (refine Nu.mk ?_; first | (fail_if_success have := nb1); intro nb1 | (fail_if_success have := nb2); intro nb2 | (fail_if_success have := nb3); intro nb3 | (fail_if_success have := nb4); intro nb4 | intro nbz) | (apply Yfr; refine Yf FR fun hFRb FR => ?_) | refine Two.mk ?_ ?_ | (apply Yxc; exact Yx) | refine Cs.mk fun hcs => Sm.out ?_ | go_step | omega | (simp only [maxLen_eq]; omega) | exact trivial
    (refine OutQ.drop _ _ (perm2 (by simp only [hget, hdel, ↓reduceIte, if_true, if_false, FR.out]; first | done | rfl) (by simp only [hget, hdel, ↓reduceIte, if_true, if_false, FR.out]; first | done | rfl)) (by simp only [resv, ZK, look, loadv, loadn, loadnm, load1, load1m, hget, ↓reduceIte, Nat.reduceEqDiff, Nat.reduceAdd, Nat.reduceMul, Nat.reduceLeDiff, Nat.reduceLT, reduceCtorEq, TFGbH, FR.out]) ⟨(by simp only [resv, resA, ZK, look, loadv, loadn, loadnm, load1, load1m, hget, ↓reduceIte, Nat.reduceEqDiff, Nat.reduceAdd, Nat.reduceMul, Nat.reduceLeDiff, Nat.reduceLT, reduceCtorEq, TFGbH, FR.out]; first | done | rfl), rfl⟩)
  have k1 : decide ((zs.length : Int) > 1000) = false := decide_eq_false (by omega)
  have k2 : decide ((ss.length : Int) > 1000) = false := decide_eq_false (by omega)
  have c8 := rright_ct zs hb (by omega)
  by_cases h : rtB zs = true
  · obtain ⟨hqb, hqr, hqq, -, -, -, hm⟩ := sq_facts hb h
    have hql : (sq 0 false zs).length ≤ 5000 := by
      have := sq_len zs 0 false
      simp at this
      omega
    have c15 := sqz_ct zs hb (by omega) h n0 n1
    have c16 := rsq_ct zs hb (by omega) h
    have c15' := sqz_ct (sq 0 false zs) hqb hql hqr n0 n1
    rw [hqq] at c15'
    have c7 := right_ct (sq 0 false zs) hqb hql n0 n1
    have c9 := match_ct zs ss hb hbs (by omega) (by omega) n0 n1
    have c9' := match_ct (sq 0 false zs) ss hqb hbs hql (by omega) n0 n1
    rw [hm ss] at c9'
    rw [h] at c8
    rw [hqr] at c7
    obtain ⟨y, hy⟩ : ∃ y, mtB zs ss = y := ⟨_, rfl⟩
    rw [hy] at c9 c9'
    have e1 : (y == y) = true := by cases y <;> rfl
    obtain ⟨F, hF⟩ : ∃ F, F = fsZ := ⟨_, rfl⟩
    obtain ⟨A, hA⟩ : ∃ A, A = acZ := ⟨_, rfl⟩
    rw [← hF, ← hA] at cA c7 c9 c9' c15 c15' ⊢
    clear hqq hqb hqr hm hy h
    unfold stz at *
    obtain ⟨B, hB⟩ : ∃ B, B = bstr zs := ⟨_, rfl⟩
    obtain ⟨C, hC⟩ : ∃ C, C = bstr ss := ⟨_, rfl⟩
    obtain ⟨D, hD⟩ : ∃ D, D = bstr (sq 0 false zs) := ⟨_, rfl⟩
    rw [← hB] at hs c8 c9 c15 c16 ⊢
    rw [← hC] at hq c9 c9' ⊢
    rw [← hD] at c7 c9' c15 c15' c16
    have kD : (D.toList == D.toList) = true := beq_self_eq_true _
    have kN : (D.toList != D.toList) = false := by simp
    refine ACt.intro Tryd.func5 rfl (by kernel_rfl) (by simp [Tryd.ntmps5]) (fun cx => ?_)
    simp only [argE, Tryd.ntmps5, Tryd.results5]
    first | (have FRx := FR; clear FRx) | have FR := fr0S
    have FA := Sm.mk (And.intro TFGbH (And.intro hs (And.intro hq (And.intro k1 (And.intro k2 (And.intro e1 (And.intro kD kN)))))))
    repeat' first | (apply Sm.mk; refine Ys ?_) | refine WP.seq fun K hK => ?_ | (apply Ob.mk; exact Yo) | refine And.intro (Ob.out ?_) ?_ | refine Y1GbH ?_ | refine Yl2 (c := cA) (r := ?_) | refine Yl2 (c := c15) (r := ?_) | refine Yc (c := c16) (r := ?_) | refine Yc (c := c8) (r := ?_) | refine Yl2 (c := c15') (r := ?_) | refine Yl2 (c := c9') (r := ?_) | refine Yl2 (c := c9) (r := ?_) | refine Yl2 (c := c7) (r := ?_) | refine YzGbH ?_ | (refine WP.cond rfl (fun hc => ?_) (fun hc => ?_) <;> (try simp only [ZC, reduceCtorEq, ZD] at hc) <;> (try exact absurd hc (by decide)) <;> (try (exfalso; omega))) | refine Rt.mk (And.intro (fun hg => Sm.out ?_) fun hg => Sm.out ?_) | (refine Nu.mk ?_; first | (fail_if_success have := nb1); intro nb1 | (fail_if_success have := nb2); intro nb2 | (fail_if_success have := nb3); intro nb3 | (fail_if_success have := nb4); intro nb4 | intro nbz) | (apply Yfr; refine Yf FR fun hFRb FR => ?_) | refine Two.mk ?_ ?_ | (apply Yxc; exact Yx) | refine Cs.mk fun hcs => Sm.out ?_ | go_step | omega | (simp only [maxLen_eq]; omega) | exact trivial
    (refine OutQ.drop _ _ (perm2 (by simp only [hget, hdel, ↓reduceIte, if_true, if_false, FR.out]; first | done | rfl) (by simp only [hget, hdel, ↓reduceIte, if_true, if_false, FR.out]; first | done | rfl)) (by simp only [resv, ZK, look, loadv, loadn, loadnm, load1, load1m, hget, ↓reduceIte, Nat.reduceEqDiff, Nat.reduceAdd, Nat.reduceMul, Nat.reduceLeDiff, Nat.reduceLT, reduceCtorEq, TFGbH, FR.out]) ⟨(by simp only [resv, resA, ZK, look, loadv, loadn, loadnm, load1, load1m, hget, ↓reduceIte, Nat.reduceEqDiff, Nat.reduceAdd, Nat.reduceMul, Nat.reduceLeDiff, Nat.reduceLT, reduceCtorEq, TFGbH, FR.out]; first | done | rfl), rfl⟩)
  · have h : rtB zs = false := by simpa using h
    have c15 := sqz_no zs hb (by omega) h n0 n1
    have c16 := rsq_no zs hb (by omega) h
    rw [h] at c8
    obtain ⟨F, hF⟩ : ∃ F, F = fsZ := ⟨_, rfl⟩
    obtain ⟨A, hA⟩ : ∃ A, A = acZ := ⟨_, rfl⟩
    rw [← hF, ← hA] at cA c15 ⊢
    unfold stz at *
    obtain ⟨B, hB⟩ : ∃ B, B = bstr zs := ⟨_, rfl⟩
    obtain ⟨C, hC⟩ : ∃ C, C = bstr ss := ⟨_, rfl⟩
    obtain ⟨D, hD⟩ : ∃ D, D = bstr [] := ⟨_, rfl⟩
    have eN : (⟨#[]⟩ : ByteArray) = D := by rw [hD]; rfl
    rw [← hB] at hs c8 c15 c16 ⊢
    rw [← hC] at hq ⊢
    rw [← hD] at c15 c16
    have kD : (D.toList == D.toList) = true := beq_self_eq_true _
    have kN : (D.toList != D.toList) = false := by simp
    refine ACt.intro Tryd.func5 rfl (by kernel_rfl) (by simp [Tryd.ntmps5]) (fun cx => ?_)
    simp only [argE, Tryd.ntmps5, Tryd.results5]
    first | (have FRx := FR; clear FRx) | have FR := fr0S
    have FA := Sm.mk (And.intro TFGbH (And.intro hs (And.intro hq (And.intro k1 (And.intro k2 (And.intro eN (And.intro kD kN)))))))
    repeat' first | (apply Sm.mk; refine Ys ?_) | refine WP.seq fun K hK => ?_ | (apply Ob.mk; exact Yo) | refine And.intro (Ob.out ?_) ?_ | refine Y1GbH ?_ | refine Yl2 (c := cA) (r := ?_) | refine Yl2 (c := c15) (r := ?_) | refine Yc (c := c16) (r := ?_) | refine Yc (c := c8) (r := ?_) | refine YzGbH ?_ | (refine WP.cond rfl (fun hc => ?_) (fun hc => ?_) <;> (try simp only [ZC, reduceCtorEq, ZD] at hc) <;> (try exact absurd hc (by decide)) <;> (try (exfalso; omega))) | refine Rt.mk (And.intro (fun hg => Sm.out ?_) fun hg => Sm.out ?_) | (refine Nu.mk ?_; first | (fail_if_success have := nb1); intro nb1 | (fail_if_success have := nb2); intro nb2 | (fail_if_success have := nb3); intro nb3 | (fail_if_success have := nb4); intro nb4 | intro nbz) | (apply Yfr; refine Yf FR fun hFRb FR => ?_) | refine Two.mk ?_ ?_ | (apply Yxc; exact Yx) | refine Cs.mk fun hcs => Sm.out ?_ | go_step | omega | (simp only [maxLen_eq]; omega) | exact trivial
    (refine OutQ.drop _ _ (perm2 (by simp only [hget, hdel, ↓reduceIte, if_true, if_false, FR.out]; first | done | rfl) (by simp only [hget, hdel, ↓reduceIte, if_true, if_false, FR.out]; first | done | rfl)) (by simp only [resv, ZK, look, loadv, loadn, loadnm, load1, load1m, hget, ↓reduceIte, Nat.reduceEqDiff, Nat.reduceAdd, Nat.reduceMul, Nat.reduceLeDiff, Nat.reduceLT, reduceCtorEq, TFGbH, FR.out]) ⟨(by simp only [resv, resA, ZK, look, loadv, loadn, loadnm, load1, load1m, hget, ↓reduceIte, Nat.reduceEqDiff, Nat.reduceAdd, Nat.reduceMul, Nat.reduceLeDiff, Nat.reduceLT, reduceCtorEq, TFGbH, FR.out]; first | done | rfl), rfl⟩)
theorem squeezes_law (p s : ByteArray) (n0 n1 : Nat) : ACt Tryd.prog 5 [.lit (.string p), .lit (.string s)] [(0, .zs .u8 fsZ 256 n0), (1, .zs .u8 acZ 32 n1)] (fun r F' => r = bv true ∧ F' = [(0, .zs .u8 fsZ 256 n0), (1, .zs .u8 acZ 32 n1)]) := by
  obtain ⟨e, hb⟩ := s_bstr p
  obtain ⟨e2, hb2⟩ := s_bstr s
  rw [e, e2]
  exact squeezes0 _ _ hb hb2 n0 n1
end Go.Proofs.YtdkkfgcdnojmaaaDoor
