/-
  The walks and the laws that the statement leans on, part 33.
-/
import Derived.Test.YtdkkfgcdnojmaaaDoorS13
import Derived.Test.YtdkkfgcdnojmaaaDoorS32
namespace Go.Proofs.YtdkkfgcdnojmaaaDoor
open Go
set_option linter.unusedVariables false
set_option linter.unusedSimpArgs false
set_option linter.defProp false
def TFGbF :=
  And.intro (And.intro (And.intro (And.intro tyc0 (And.intro tyc1 zmb1)) (And.intro tyc3 (And.intro zmb3 tyc4))) (And.intro (And.intro zmb4 (And.intro tyc9 zmb9)) (And.intro (And.intro tyc21 zmb21) (And.intro tyc37 foff37_0)))) (And.intro (And.intro (And.intro fpart37_0 (And.intro foff37_1 fpart37_1)) (And.intro (And.intro zmb37 bldT37) (And.intro tyc40 Tryd.underlying0))) (And.intro (And.intro Tryd.underlying1 (And.intro Tryd.underlying3 Tryd.underlying4)) (And.intro (And.intro Tryd.underlying9 Tryd.underlying21) (And.intro Tryd.underlying37 Tryd.underlying40))))
theorem Y1GbF {G R : Prop} (r : R) (h : R → G := by intro r; first | (apply WP.region; exact rvc_sound _ _ (Sm.out r)) | exact WP.drawK rfl mixed (by decide +kernel) (Sm.out r) | (apply WP.block; exact r) | (apply WP.skip; exact Yq r) | (apply WP.exit; exact Yq r) | (apply WP.ret; exact Sm.out r) | exact WP.cond rfl (fun _ => r) (fun hg => absurd hg (by decide)) | exact WP.cond rfl (fun hg => absurd hg (by decide)) (fun _ => r) | exact Rt.mk (And.intro (fun _ => Sm.out r) fun hg => absurd hg (by decide)) | exact Rt.mk (And.intro (fun hg => absurd hg (by decide)) fun _ => Sm.out r)) : G := h r
theorem YzGbF {G R : Prop} (r : R) (h : R → G := by intro r; first | (apply ExG.no; exact Sm.out r) | (apply Or.inl; apply ExG.no; exact Sm.out r) | exact Or.inl (And.intro (fun hg => absurd hg (by decide)) (ExG.no (Sm.out r)))) : G := h r
theorem pOut {α : Type} (x a b y z : α) (D : List α) : (x :: a :: b :: y :: z :: D).Perm ((a :: b :: D) ++ [x, y, z]) := by
  refine (List.perm_append_comm (l₁ := [x]) (l₂ := a :: b :: y :: z :: D)).trans ?_
  refine List.Perm.cons _ (List.Perm.cons _ ?_)
  show ([y, z] ++ D ++ [x]).Perm (D ++ [x, y, z])
  refine (List.Perm.append_right _ List.perm_append_comm).trans ?_
  rw [List.append_assoc]
  exact List.Perm.append_left _ (List.perm_append_comm (l₁ := [y, z]) (l₂ := [x]))
structure SqG where
  i : Nat
  k : Nat
  b : Bool
  O : List Int
  q : BQ
abbrev fE (b x1 x2 : Nat) : AV := .lit (.func (.func 23) #[] #[.pointer (some ⟨b, 0, none⟩), .pointer (some ⟨x1, 0, none⟩), .pointer (some ⟨x2, 0, none⟩)])
theorem sqz_no (zs : List Int) (hb : By zs) (hl : zs.length ≤ 5000) (h : rtB zs = false) (n0 n1 : Nat) : ACt Tryd.prog 15 [stz zs] [(0, .zs .u8 fsZ 256 n0), (1, .zs .u8 acZ 32 n1)] (fun r F' => r = stz [] ∧ F' = [(0, .zs .u8 fsZ 256 n0), (1, .zs .u8 acZ 32 n1)]) := by
  have cR := right_ct zs hb hl n0 n1
  rw [h] at cR
  have eN : (⟨#[]⟩ : ByteArray) = bstr [] := rfl
  obtain ⟨F, hF⟩ : ∃ F, F = fsZ := ⟨_, rfl⟩
  obtain ⟨A, hA⟩ : ∃ A, A = acZ := ⟨_, rfl⟩
  rw [← hF, ← hA] at cR ⊢
  unfold stz at *
  obtain ⟨B, hB⟩ : ∃ B, B = bstr zs := ⟨_, rfl⟩
  rw [← hB] at cR ⊢
  refine ACt.intro Tryd.func15 rfl (by kernel_rfl) (by simp [Tryd.ntmps15]) (fun cx => ?_)
  simp only [argE, Tryd.ntmps15, Tryd.results15]
  first | (have FRx := FR; clear FRx) | have FR := fr0S
  have FA := Sm.mk (TFGbF)
  repeat' first | (apply Sm.mk; refine Ys ?_) | refine WP.seq fun K hK => ?_ | (apply Ob.mk; exact Yo) | refine And.intro (Ob.out ?_) ?_ | refine Y1GbF ?_ | refine Yl2 (c := cR) (r := ?_) | refine YzGbF ?_ | (refine WP.cond rfl (fun hc => ?_) (fun hc => ?_) <;> (try simp only [ZC, reduceCtorEq, ZD] at hc) <;> (try exact absurd hc (by decide)) <;> (try (exfalso; omega))) | refine Rt.mk (And.intro (fun hg => Sm.out ?_) fun hg => Sm.out ?_) | (refine Nu.mk ?_; first | (fail_if_success have := nb1); intro nb1 | (fail_if_success have := nb2); intro nb2 | (fail_if_success have := nb3); intro nb3 | (fail_if_success have := nb4); intro nb4 | (fail_if_success have := nb5); intro nb5 | (fail_if_success have := nb6); intro nb6 | (fail_if_success have := nb7); intro nb7 | (fail_if_success have := nb8); intro nb8 | intro nbz) | (apply Yfr; refine Yf FR fun hFRb FR => ?_) | refine Two.mk ?_ ?_ | (apply Yxc; exact Yx) | refine Cs.mk fun hcs => Sm.out ?_ | go_step | omega | (simp only [maxLen_eq]; omega) | exact trivial
  (refine OutQ.drop _ _ (perm2 (by simp only [hget, hdel, ↓reduceIte, if_true, if_false, FR.out, eN]; first | done | rfl) (by simp only [hget, hdel, ↓reduceIte, if_true, if_false, FR.out, eN]; first | done | rfl)) (by simp only [resv, ZK, look, loadv, loadn, loadnm, load1, load1m, hget, ↓reduceIte, Nat.reduceEqDiff, Nat.reduceAdd, Nat.reduceMul, Nat.reduceLeDiff, Nat.reduceLT, reduceCtorEq, TFGbF, FR.out, eN]) ⟨(by simp only [resv, resA, ZK, look, loadv, loadn, loadnm, load1, load1m, hget, ↓reduceIte, Nat.reduceEqDiff, Nat.reduceAdd, Nat.reduceMul, Nat.reduceLeDiff, Nat.reduceLT, reduceCtorEq, TFGbF, FR.out, eN]; first | done | rfl), rfl⟩)
set_option maxHeartbeats 4000000 in
theorem sqz_ct (zs : List Int) (hb : By zs) (hl : zs.length ≤ 5000) (h : rtB zs = true) (n0 n1 : Nat) : ACt Tryd.prog 15 [stz zs] [(0, .zs .u8 fsZ 256 n0), (1, .zs .u8 acZ 32 n1)] (fun r F' => r = stz (sq 0 false zs) ∧ F' = [(0, .zs .u8 fsZ 256 n0), (1, .zs .u8 acZ 32 n1)]) := by
  have cR := right_ct zs hb hl n0 n1
  rw [h] at cR
  obtain ⟨h0, hg, hlen⟩ := rt_iff.1 h
  have hs := bstr_size zs
  have hdec := fun i (hi : i < zs.length) => el_dec hb hi
  obtain ⟨F, hF⟩ : ∃ F, F = fsZ := ⟨_, rfl⟩
  obtain ⟨A, hA⟩ : ∃ A, A = acZ := ⟨_, rfl⟩
  rw [← hF, ← hA] at cR ⊢
  unfold stz at cR ⊢
  obtain ⟨B, hB⟩ : ∃ B, B = bstr zs := ⟨_, rfl⟩
  rw [← hB] at hs cR ⊢
  simp only [← hB] at hdec
  obtain ⟨R, hR⟩ : ∃ R, R = sq 0 false zs := ⟨_, rfl⟩
  rw [← hR]
  refine ACt.intro Tryd.func15 rfl (by kernel_rfl) (by simp [Tryd.ntmps15]) (fun cx => ?_)
  simp only [argE, Tryd.ntmps15, Tryd.results15]
  first | (have FRx := FR; clear FRx) | have FR := fr0S
  have FA := Sm.mk (TFGbF)
  repeat' first | (apply Sm.mk; refine Ys ?_) | refine WP.seq fun K hK => ?_ | (apply Ob.mk; exact Yo) | refine And.intro (Ob.out ?_) ?_ | refine Y1GbF ?_ | refine Yl2 (c := cR) (r := ?_) | refine YzGbF ?_ | (refine WP.cond rfl (fun hc => ?_) (fun hc => ?_) <;> (try simp only [ZC, reduceCtorEq, ZD] at hc) <;> (try exact absurd hc (by decide)) <;> (try (exfalso; omega))) | refine Rt.mk (And.intro (fun hg => Sm.out ?_) fun hg => Sm.out ?_) | (refine Nu.mk ?_; first | (fail_if_success have := nb1); intro nb1 | (fail_if_success have := nb2); intro nb2 | (fail_if_success have := nb3); intro nb3 | (fail_if_success have := nb4); intro nb4 | (fail_if_success have := nb5); intro nb5 | (fail_if_success have := nb6); intro nb6 | (fail_if_success have := nb7); intro nb7 | (fail_if_success have := nb8); intro nb8 | intro nbz) | (apply Yfr; refine Yf FR fun hFRb FR => ?_) | refine Two.mk ?_ ?_ | (apply Yxc; exact Yx) | refine Cs.mk fun hcs => Sm.out ?_ | go_step | omega | (simp only [maxLen_eq]; omega) | exact trivial
  have hRl : R.length ≤ zs.length := by
    have := sq_len zs 0 false
    rw [← hR] at this
    simpa using this
  have hgr := gr_rn hb hg
  have hR2 : (sq 0 false (rn zs)).flatMap enc8 = R := by rw [hR, ← sq_enc _ hgr, enc_rn hb hg]
  have hRne : R ≠ [] := by
    rw [hR]
    exact sq_ne _ _ _ (.inl h0)
  have t1 : ∀ k : Nat, ((k : Nat) : Int).toNat = k := fun k => by omega
  rw [← rF_zero] at hR2 hlen
  refine WP.loop (Γ := SqG) (fun g => ⟨[(14, pt nb4 0), (6, fE nb1 nb2 nb3), (5, pt nb3 0), (4, pt nb2 0), (3, pt nb1 0)], (nb4, .obj (.stringIter B g.i)) :: (0, .zs .u8 F 256 n0) :: (1, .zs .u8 A 32 n1) :: (nb2, .cells [iv .i64 (g.k : Int)] 1 3) :: (nb3, .cells [bv g.b] 1 4) :: cH nb1 g.O g.q⟩)
    (fun g => g.i ≤ zs.length ∧ Gd zs g.i ∧ g.k + (rF zs g.i).length ≤ 40 ∧ bOk nb1 g.O g.q ∧ g.O ++ (sq g.k g.b (rF zs g.i)).flatMap enc8 = R) (fun g => zs.length - g.i) ⟨0, 0, false, [], ⟨0, 0⟩⟩
    ⟨Nat.zero_le _, hg, by simp only; omega, (fun h => absurd rfl h), hR2⟩ (Sub.of_env [] (by rw [List.append_nil]; exact ((List.Perm.cons _ (List.perm_append_comm (l₁ := [_, _, _]) (l₂ := [_, _]))).trans (List.Perm.cons _ (List.Perm.cons _ (List.Perm.cons _ (List.Perm.swap _ _ _)))))) (by simp [look])) ?_
  clear hR2 hg hlen
  intro ⟨i, k, b, O, q⟩ ⟨h1, hg, hk, hq, hr⟩
  simp only at h1 hg hk hq hr ⊢
  have FR : Sm (¬ ((1 : Nat) = 0)) := Sm.mk Nat.one_ne_zero
  have hOl : O.length ≤ R.length := by
    have := congrArg List.length hr
    rw [List.length_append] at this
    omega
  refine WP.nd fun hnd => ?_
  simp only [ndF, fresh_cons, and_true, ne_eq] at hnd
  by_cases hi : i < zs.length
  · obtain ⟨r, w, hd, hrb, ⟨e, w1, w2, w3⟩ | ⟨e, -, -⟩⟩ := hdec i hi
    rotate_left
    · exact absurd (by rw [e]) ((Gd_step hi).1 hg).1
    obtain ⟨gr, gd⟩ := gd_el hb hi hg
    have hst := rF_step (zs := zs) hi
    rw [e] at gr gd hst
    simp only at gr gd hst
    rw [hst] at hr hk
    simp only [List.length_cons] at hk
    by_cases a1 : (r : Int) = 42
    · have u1 : ((r : Int) == 42) = true := beq_iff_eq.2 a1
      first | (have FRx := FR; clear FRx) | have FR := fr0S
      have FA := Sm.mk (And.intro TFGbF (And.intro hd (And.intro hs (And.intro hi (And.intro t1 (And.intro hnd u1))))))
      repeat' first | (apply Sm.mk; refine Ys ?_) | refine WP.seq fun K hK => ?_ | (apply Ob.mk; exact Yo) | refine And.intro (Ob.out ?_) ?_ | refine Y1GbF ?_ | refine YzGbF ?_ | (refine WP.cond rfl (fun hc => ?_) (fun hc => ?_) <;> (try simp only [ZC, reduceCtorEq, ZD] at hc) <;> (try exact absurd hc (by decide)) <;> (try (exfalso; omega))) | refine Rt.mk (And.intro (fun hg => Sm.out ?_) fun hg => Sm.out ?_) | (refine Nu.mk ?_; first | (fail_if_success have := nb1); intro nb1 | (fail_if_success have := nb2); intro nb2 | (fail_if_success have := nb3); intro nb3 | (fail_if_success have := nb4); intro nb4 | (fail_if_success have := nb5); intro nb5 | (fail_if_success have := nb6); intro nb6 | (fail_if_success have := nb7); intro nb7 | (fail_if_success have := nb8); intro nb8 | intro nbz) | (apply Yfr; refine Yf FR fun hFRb FR => ?_) | refine Two.mk ?_ ?_ | (apply Yxc; exact Yx) | refine Cs.mk fun hcs => Sm.out ?_ | go_step | omega | (simp only [maxLen_eq]; omega) | exact trivial
      refine ⟨⟨i + w, k, true, O, q⟩, ⟨w3, gd, by simp only; omega, hq, ?_⟩, by simp only; omega, Sub.of_env [] (by exact pmz _) (by simp [look])⟩
      rw [a1, sq_star] at hr
      exact hr
    have u1 : ((r : Int) == 42) = false := beq_eq_false_iff_ne.2 a1
    by_cases a2 : (r : Int) = 63
    · have u2 : ((r : Int) == 63) = true := beq_iff_eq.2 a2
      have s1 : IntKind.i64.wrap ((k : Int) + 1) = ((k + 1 : Nat) : Int) := by rw [wrap_i64 (by omega) (by omega)]; omega
      first | (have FRx := FR; clear FRx) | have FR := fr0S
      have FA := Sm.mk (And.intro TFGbF (And.intro hd (And.intro hs (And.intro hi (And.intro t1 (And.intro hnd (And.intro u1 (And.intro u2 s1))))))))
      repeat' first | (apply Sm.mk; refine Ys ?_) | refine WP.seq fun K hK => ?_ | (apply Ob.mk; exact Yo) | refine And.intro (Ob.out ?_) ?_ | refine Y1GbF ?_ | refine YzGbF ?_ | (refine WP.cond rfl (fun hc => ?_) (fun hc => ?_) <;> (try simp only [ZC, reduceCtorEq, ZD] at hc) <;> (try exact absurd hc (by decide)) <;> (try (exfalso; omega))) | refine Rt.mk (And.intro (fun hg => Sm.out ?_) fun hg => Sm.out ?_) | (refine Nu.mk ?_; first | (fail_if_success have := nb1); intro nb1 | (fail_if_success have := nb2); intro nb2 | (fail_if_success have := nb3); intro nb3 | (fail_if_success have := nb4); intro nb4 | (fail_if_success have := nb5); intro nb5 | (fail_if_success have := nb6); intro nb6 | (fail_if_success have := nb7); intro nb7 | (fail_if_success have := nb8); intro nb8 | intro nbz) | (apply Yfr; refine Yf FR fun hFRb FR => ?_) | refine Two.mk ?_ ?_ | (apply Yxc; exact Yx) | refine Cs.mk fun hcs => Sm.out ?_ | go_step | omega | (simp only [maxLen_eq]; omega) | exact trivial
      refine ⟨⟨i + w, k + 1, b, O, q⟩, ⟨w3, gd, by simp only; omega, hq, ?_⟩, by simp only; omega, Sub.of_env [] (by exact pmz _) (by simp [look])⟩
      rw [a2, sq_one] at hr
      exact hr
    have u2 : ((r : Int) == 63) = false := beq_eq_false_iff_ne.2 a2
    rw [sq_else k b _ a1 a2, List.flatMap_append, List.flatMap_cons, mkE_enc, ← List.append_assoc, ← List.append_assoc] at hr
    have hO2 : (O ++ mkE k b).length ≤ R.length := by
      have := congrArg List.length hr
      rw [List.length_append, List.length_append] at this
      omega
    have cE := lift0' [(nb4, MB.obj (.stringIter B (i + w))), (0, MB.zs .u8 F 256 n0), (1, MB.zs .u8 A 32 n1)] (end_ct hq (by omega) nb2 nb3 k b (by omega))
    first | (have FRx := FR; clear FRx) | have FR := fr0S
    have FA := Sm.mk (And.intro TFGbF (And.intro hd (And.intro hs (And.intro hi (And.intro t1 (And.intro hnd (And.intro u1 u2)))))))
    repeat' first | (apply Sm.mk; refine Ys ?_) | refine WP.seq fun K hK => ?_ | (apply Ob.mk; exact Yo) | refine And.intro (Ob.out ?_) ?_ | ((fail_if_success (show WP _ _ _ (.region 11 _ _) _ _)); refine Y1GbF ?_) | (refine CallV.exM (cE) (pmz _) (fun g => Sm.out ?_)) | refine YzGbF ?_ | (refine WP.cond rfl (fun hc => ?_) (fun hc => ?_) <;> (try simp only [ZC, reduceCtorEq, ZD] at hc) <;> (try exact absurd hc (by decide)) <;> (try (exfalso; omega))) | refine Rt.mk (And.intro (fun hg => Sm.out ?_) fun hg => Sm.out ?_) | (refine Nu.mk ?_; first | (fail_if_success have := nb1); intro nb1 | (fail_if_success have := nb2); intro nb2 | (fail_if_success have := nb3); intro nb3 | (fail_if_success have := nb4); intro nb4 | (fail_if_success have := nb5); intro nb5 | (fail_if_success have := nb6); intro nb6 | (fail_if_success have := nb7); intro nb7 | (fail_if_success have := nb8); intro nb8 | intro nbz) | (apply Yfr; refine Yf FR fun hFRb FR => ?_) | refine Two.mk ?_ ?_ | (apply Yxc; exact Yx) | refine Cs.mk fun hcs => Sm.out ?_ | go_step | omega | (simp only [maxLen_eq]; omega) | exact trivial
    obtain ⟨q1, hq1⟩ := g
    try simp only [List.append_nil]
    have cU := lift0' ([(nb4, MB.obj (.stringIter B (i + w))), (0, MB.zs .u8 F 256 n0), (1, MB.zs .u8 A 32 n1)] ++ [(nb2, MB.cells [iv .i64 0] 1 3), (nb3, .cells [bv false] 1 4)]) (wr_c hq1 (by omega) r gr)
    first | (have FRx := FR; clear FRx) | have FR := fr0S
    have FA := Sm.mk (And.intro TFGbF hnd)
    repeat' first | (apply Sm.mk; refine Ys ?_) | refine WP.seq fun K hK => ?_ | (apply Ob.mk; exact Yo) | refine And.intro (Ob.out ?_) ?_ | refine Y1GbF ?_ | (refine CallV.exM (cU) (pmz _) (fun g => Sm.out ?_)) | refine YzGbF ?_ | (refine WP.cond rfl (fun hc => ?_) (fun hc => ?_) <;> (try simp only [ZC, reduceCtorEq, ZD] at hc) <;> (try exact absurd hc (by decide)) <;> (try (exfalso; omega))) | refine Rt.mk (And.intro (fun hg => Sm.out ?_) fun hg => Sm.out ?_) | (refine Nu.mk ?_; first | (fail_if_success have := nb1); intro nb1 | (fail_if_success have := nb2); intro nb2 | (fail_if_success have := nb3); intro nb3 | (fail_if_success have := nb4); intro nb4 | (fail_if_success have := nb5); intro nb5 | (fail_if_success have := nb6); intro nb6 | (fail_if_success have := nb7); intro nb7 | (fail_if_success have := nb8); intro nb8 | intro nbz) | (apply Yfr; refine Yf FR fun hFRb FR => ?_) | refine Two.mk ?_ ?_ | (apply Yxc; exact Yx) | refine Cs.mk fun hcs => Sm.out ?_ | go_step | omega | (simp only [maxLen_eq]; omega) | exact trivial
    obtain ⟨q2, hq2⟩ := g
    try simp only [List.append_nil]
    exact ⟨⟨i + w, 0, false, O ++ mkE k b ++ enc8 r, q2⟩, ⟨w3, gd, by simp only; omega, hq2, hr⟩, by simp only; omega, Sub.of_env [] (by exact pmz _) (by simp [look])⟩
  · obtain rfl : i = zs.length := by omega
    have e0 : rF zs zs.length = [] := rF_end (Nat.le_refl _)
    rw [e0] at hr
    change O ++ (mkE k b).flatMap enc8 = R at hr
    rw [mkE_enc] at hr
    have cE := lift0' [(nb4, MB.obj (.stringIter B zs.length)), (0, MB.zs .u8 F 256 n0), (1, MB.zs .u8 A 32 n1)] (end_ct hq (by omega) nb2 nb3 k b (by omega))
    first | (have FRx := FR; clear FRx) | have FR := fr0S
    have FA := Sm.mk (And.intro TFGbF (And.intro hs hnd))
    repeat' first | (apply Sm.mk; refine Ys ?_) | refine WP.seq fun K hK => ?_ | (apply Ob.mk; exact Yo) | refine And.intro (Ob.out ?_) ?_ | ((fail_if_success (show WP _ _ _ (.region 17 _ _) _ _)); refine Y1GbF ?_) | (refine CallV.exM (cE) (pmz _) (fun g => Sm.out ?_)) | refine YzGbF ?_ | (refine WP.cond rfl (fun hc => ?_) (fun hc => ?_) <;> (try simp only [ZC, reduceCtorEq, ZD] at hc) <;> (try exact absurd hc (by decide)) <;> (try (exfalso; omega))) | refine Rt.mk (And.intro (fun hg => Sm.out ?_) fun hg => Sm.out ?_) | (refine Nu.mk ?_; first | (fail_if_success have := nb1); intro nb1 | (fail_if_success have := nb2); intro nb2 | (fail_if_success have := nb3); intro nb3 | (fail_if_success have := nb4); intro nb4 | (fail_if_success have := nb5); intro nb5 | (fail_if_success have := nb6); intro nb6 | (fail_if_success have := nb7); intro nb7 | (fail_if_success have := nb8); intro nb8 | intro nbz) | (apply Yfr; refine Yf FR fun hFRb FR => ?_) | refine Two.mk ?_ ?_ | (apply Yxc; exact Yx) | refine Cs.mk fun hcs => Sm.out ?_ | go_step | omega | (simp only [maxLen_eq]; omega) | exact trivial
    obtain ⟨q1, hq1⟩ := g
    try simp only [List.append_nil]
    rw [hr] at hq1 ⊢
    have cS : ACt Tryd.prog 27 [pt nb1 0] ([(0, MB.zs .u8 F 256 n0), (1, MB.zs .u8 A 32 n1)] ++ cH nb1 R q1) (fun r F' => r = stz R ∧ F' = [(0, MB.zs .u8 F 256 n0), (1, MB.zs .u8 A 32 n1)]) :=
      ACt.frm (R := [(0, MB.zs .u8 F 256 n0), (1, MB.zs .u8 A 32 n1)]) (str_c hq1 hRne (by omega)) List.perm_append_comm fun r F' hr _ => by
        obtain ⟨e1, e2⟩ := hr
        subst e1 e2
        exact ⟨_, [], by simp, rfl, rfl⟩
    refine WP.sub (s' := ⟨[(3, pt nb1 0)], (0, .zs .u8 F 256 n0) :: (1, .zs .u8 A 32 n1) :: cH nb1 R q1⟩) (Sub.of_env [(nb4, MB.obj (.stringIter B zs.length)), (nb2, .cells [iv .i64 0] 1 3), (nb3, .cells [bv false] 1 4)] (by exact pOut _ _ _ _ _ _) (by simp [look])) ?_
    unfold stz at cS
    first | (have FRx := FR; clear FRx) | have FR := fr0S
    have FA := Sm.mk (TFGbF)
    repeat' first | (apply Sm.mk; refine Ys ?_) | refine WP.seq fun K hK => ?_ | (apply Ob.mk; exact Yo) | refine And.intro (Ob.out ?_) ?_ | refine Y1GbF ?_ | refine CallV.updM (cS) (pmz _) (Sm.out ?_) | refine YzGbF ?_ | (refine WP.cond rfl (fun hc => ?_) (fun hc => ?_) <;> (try simp only [ZC, reduceCtorEq, ZD] at hc) <;> (try exact absurd hc (by decide)) <;> (try (exfalso; omega))) | refine Rt.mk (And.intro (fun hg => Sm.out ?_) fun hg => Sm.out ?_) | (refine Nu.mk ?_; first | (fail_if_success have := nb1); intro nb1 | (fail_if_success have := nb2); intro nb2 | (fail_if_success have := nb3); intro nb3 | (fail_if_success have := nb4); intro nb4 | (fail_if_success have := nb5); intro nb5 | (fail_if_success have := nb6); intro nb6 | (fail_if_success have := nb7); intro nb7 | (fail_if_success have := nb8); intro nb8 | intro nbz) | (apply Yfr; refine Yf FR fun hFRb FR => ?_) | refine Two.mk ?_ ?_ | (apply Yxc; exact Yx) | refine Cs.mk fun hcs => Sm.out ?_ | go_step | omega | (simp only [maxLen_eq]; omega) | exact trivial
    (refine OutQ.drop _ _ (pmz _) (by simp only [resv, ZK, look, loadv, loadn, loadnm, load1, load1m, hget, ↓reduceIte, Nat.reduceEqDiff, Nat.reduceAdd, Nat.reduceMul, Nat.reduceLeDiff, Nat.reduceLT, reduceCtorEq, TFGbF, FR.out]) ⟨(by simp only [resv, resA, ZK, look, loadv, loadn, loadnm, load1, load1m, hget, ↓reduceIte, Nat.reduceEqDiff, Nat.reduceAdd, Nat.reduceMul, Nat.reduceLeDiff, Nat.reduceLT, reduceCtorEq, TFGbF, FR.out]; first | done | rfl), rfl⟩)
end Go.Proofs.YtdkkfgcdnojmaaaDoor
