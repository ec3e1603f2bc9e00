/-
  The walks and the laws that the statement leans on, part 30.
-/
import Derived.Test.YteoajodoejoccaaR11
import Derived.Test.YteoajodoejoccaaR21
namespace Go.Proofs.Yteoajodoejoccaa
open Go
set_option linter.unusedVariables false
set_option linter.unusedSimpArgs false
set_option linter.defProp false
def TFCfI :=
  And.intro (And.intro (And.intro (And.intro tyc3 (And.intro zmb3 tyc4)) (And.intro zmb4 (And.intro tyc5 zmb5))) (And.intro (And.intro tyc25 (And.intro mth25_45 mth25_44)) (And.intro (And.intro mth25_43 con25) (And.intro zmb25 tyc28)))) (And.intro (And.intro (And.intro zmb28 (And.intro tyc36 elt36)) (And.intro mkz36 (And.intro apT36 elk36))) (And.intro (And.intro zmb36 (And.intro Try.underlying3 Try.underlying4)) (And.intro (And.intro Try.underlying5 Try.underlying25) (And.intro Try.underlying28 Try.underlying36))))
theorem Y1CfI {G R : Prop} (r : R) (h : R → G := by intro r; first | (apply WP.region; exact rvc_sound _ _ (Sm.out r)) | exact WP.drawK rfl mixed (by decide +kernel) (Sm.out r) | (apply WP.block; exact r) | (apply WP.skip; exact Yq r) | (apply WP.exit; exact Yq r) | (apply WP.ret; exact Sm.out r) | exact WP.cond rfl (fun _ => r) (fun hg => absurd hg (by decide)) | exact WP.cond rfl (fun hg => absurd hg (by decide)) (fun _ => r) | exact Rt.mk (And.intro (fun _ => Sm.out r) fun hg => absurd hg (by decide)) | exact Rt.mk (And.intro (fun hg => absurd hg (by decide)) fun _ => Sm.out r)) : G := h r
theorem YzCfI {G R : Prop} (r : R) (h : R → G := by intro r; first | (apply ExG.no; exact Sm.out r) | (apply Or.inl; apply ExG.no; exact Sm.out r) | exact Or.inl (And.intro (fun hg => absurd hg (by decide)) (ExG.no (Sm.out r)))) : G := h r
structure LyQ (n s C b : Nat) where
  a : DA
  l : DL
  hM : MkI n s C a
  hl : LOk b a l
structure LyS where
  i : Nat
  l : DL
  a : DA
set_option maxRecDepth 20000 in
set_option maxHeartbeats 4000000 in
theorem lay6_ct {n s c : Nat} (b : Nat) (a : DA) (l : DL) (hM : MkI n s c a) (hl : LOk b a l) (f k : Nat) (hfk : f + k ≤ n) (Y : Bs) (hY : Y.length ≤ 5000) (hc : c + k ≤ 900) :
    ACt Try.prog 22 [pt b 0, iv .i64 (f : Int), iv .i64 (k : Int), .slz .u8 (ub Y)] (dH b a l) (fun r F' => ∃ g : LyQ n s (c + k) b, r = .tup [] ∧ F' = dH b g.a g.l) := by
  have yl := ub_len Y
  have yt : (ub Y).take Y.length = ub Y := List.take_of_length_le (by omega)
  have hs := hM.s
  have hn := hM.n
  have hn2 := hM.A.n2
  have hs1 := hM.A.s1
  have hs2 := hM.A.s2
  have cZ := size_d b a l
  rw [hs] at cZ hs1 hs2
  rw [hn] at hn2
  clear hs hn
  refine ACt.intro Try.func22 rfl (by kernel_rfl) (by simp [Try.ntmps22]) (fun cx => ?_)
  simp only [argE, Try.ntmps22, Try.results22]
  first | (have FRx := FR; clear FRx) | have FR := fr0S
  have FA := Sm.mk (TFCfI)
  repeat' first | (apply Sm.mk; refine Ys ?_) | refine WP.seq fun K hK => ?_ | (apply Ob.mk; exact Yo) | refine And.intro (Ob.out ?_) ?_ | refine Y1CfI ?_ | refine CallV.updM (cZ) (pmz _) (Sm.out ?_) | ((first | refine ExF.up ?_ (cZ) (Sm.out ?_) | refine ExG.up ?_ (fun _ => cZ) (Sm.out ?_) | refine ExG.upJ ?_ (fun _ => cZ) (Sm.out ?_) | refine ExG.upI ?_ (fun _ => cZ) (Ob.out ?_) (Sm.out ?_)); focus (exact ⟨_, (pmz _)⟩)) | refine YzCfI ?_ | (refine WP.cond rfl (fun hc => ?_) (fun hc => ?_) <;> (try simp only [ZC, reduceCtorEq, ZD] at hc) <;> (try exact absurd hc (by decide)) <;> (try (exfalso; omega))) | refine Rt.mk (And.intro (fun hg => Sm.out ?_) fun hg => Sm.out ?_) | (refine Nu.mk ?_; first | (fail_if_success have := nb1); intro nb1 | (fail_if_success have := nb2); intro nb2 | (fail_if_success have := nb3); intro nb3 | (fail_if_success have := nb4); intro nb4 | (fail_if_success have := nb5); intro nb5 | (fail_if_success have := nb6); intro nb6 | intro nbz) | (apply Yfr; refine Yf FR fun hFRb FR => ?_) | refine Two.mk ?_ ?_ | (apply Yxc; exact Yx) | refine Cs.mk fun hcs => Sm.out ?_ | go_step | omega | (simp only [maxLen_eq]; omega) | exact trivial
  refine WP.loop (Γ := LyS) (fun g => ⟨[(9, iv .i64 (g.i : Int)), (8, iv .i64 (s : Int)), (0, pt b 0), (1, iv .i64 (f : Int)), (2, iv .i64 (k : Int)), (3, .slz .u8 (ub Y))], dH b g.a g.l⟩)
    (fun g => g.i ≤ k ∧ MkI n s (c + g.i) g.a ∧ LOk b g.a g.l) (fun g => k - g.i) ⟨0, l, a⟩ ⟨Nat.zero_le _, hM, hl⟩ (Sub.of_env [] (pmz _) (by simp [look])) ?_
  clear hl hM cZ a l
  intro ⟨i, l, a⟩ ⟨hi, hM, hl⟩
  simp only at hi hM hl ⊢
  have FR : Sm (¬ ((1 : Nat) = 0)) := Sm.mk Nat.one_ne_zero
  by_cases hin : i < k
  · have ki : decide ((i : Int) < (k : Int)) = true := decide_eq_true (by omega)
    have s1 : IntKind.i64.wrap ((i : Int) + 1) = ((i + 1 : Nat) : Int) := by rw [wrap_i64 (by omega) (by omega)]; omega
    have sf : IntKind.i64.wrap ((f : Int) + (i : Int)) = ((f + i : Nat) : Int) := by rw [wrap_i64 (by omega) (by omega)]; omega
    have his : i * s ≤ 400 * 512 := Nat.mul_le_mul (by omega) (by omega)
    have ws : IntKind.i64.wrap ((i : Int) * (s : Int)) = ((i * s : Nat) : Int) := by rw [← Int.natCast_mul]; exact wrap_i64 (by omega) (by omega)
    by_cases c1 : i * s < Y.length
    · have j1 : decide (((i * s : Nat) : Int) < (Y.length : Int)) = true := decide_eq_true (by omega)
      first | (have FRx := FR; clear FRx) | have FR := fr0S
      have FA := Sm.mk (And.intro TFCfI (And.intro ki (And.intro s1 (And.intro ws (And.intro yl j1)))))
      repeat' first | (apply Sm.mk; refine Ys ?_) | refine WP.seq fun K hK => ?_ | (apply Ob.mk; exact Yo) | refine And.intro (Ob.out ?_) ?_ | ((fail_if_success (show WP _ _ _ (.region 7 _ _) _ _)); refine Y1CfI ?_) | refine YzCfI ?_ | (refine WP.cond rfl (fun hc => ?_) (fun hc => ?_) <;> (try simp only [ZC, reduceCtorEq, ZD] at hc) <;> (try exact absurd hc (by decide)) <;> (try (exfalso; omega))) | refine Rt.mk (And.intro (fun hg => Sm.out ?_) fun hg => Sm.out ?_) | (refine Nu.mk ?_; first | (fail_if_success have := nb1); intro nb1 | (fail_if_success have := nb2); intro nb2 | (fail_if_success have := nb3); intro nb3 | (fail_if_success have := nb4); intro nb4 | (fail_if_success have := nb5); intro nb5 | (fail_if_success have := nb6); intro nb6 | intro nbz) | (apply Yfr; refine Yf FR fun hFRb FR => ?_) | refine Two.mk ?_ ?_ | (apply Yxc; exact Yx) | refine Cs.mk fun hcs => Sm.out ?_ | go_step | omega | (simp only [maxLen_eq]; omega) | exact trivial
      refine WP.sub (s' := ⟨[(9, iv .i64 (i : Int)), (8, iv .i64 (s : Int)), (0, pt b 0), (1, iv .i64 (f : Int)), (2, iv .i64 (k : Int)), (3, .slz .u8 (ub Y)), (10, .slz .u8 ((ub Y).drop (i * s)))], dH b a l⟩) (Sub.of_env [_] (by exact List.perm_append_comm (l₁ := [_])) (by simp [look, yl, yt])) ?_
      have hdl : ((ub Y).drop (i * s)).length = Y.length - i * s := by rw [List.length_drop, yl]
      by_cases c2 : s < Y.length - i * s
      · have j2 : decide (((Y.length - i * s : Nat) : Int) > (s : Int)) = true := decide_eq_true (by omega)
        have eD : ((ub Y).drop (i * s)).take s = ub ((Y.drop (i * s)).take s) := by rw [ub_map, ub_map, List.map_take, List.map_drop]
        have cW := write_d hM.A hl (by omega) ((f + i : Nat) : Int) (ub ((Y.drop (i * s)).take s))
        have hM' := hM.write (i := f + i) (by omega) ((Y.drop (i * s)).take s) (by rw [List.length_take]; omega)
        rw [← eD] at cW hM'
        first | (have FRx := FR; clear FRx) | have FR := fr0S
        have FA := Sm.mk (And.intro TFCfI (And.intro ki (And.intro s1 (And.intro sf (And.intro ws (And.intro yl (And.intro yt (And.intro hdl j2))))))))
        repeat' first | (apply Sm.mk; refine Ys ?_) | refine WP.seq fun K hK => ?_ | (apply Ob.mk; exact Yo) | refine And.intro (Ob.out ?_) ?_ | ((fail_if_success (show WP _ _ _ (.region 3 _ _) _ _)); refine Y1CfI ?_) | (refine CallV.exM (cW) (pmz _) (fun g => Sm.out ?_)) | refine YzCfI ?_ | (refine WP.cond rfl (fun hc => ?_) (fun hc => ?_) <;> (try simp only [ZC, reduceCtorEq, ZD] at hc) <;> (try exact absurd hc (by decide)) <;> (try (exfalso; omega))) | refine Rt.mk (And.intro (fun hg => Sm.out ?_) fun hg => Sm.out ?_) | (refine Nu.mk ?_; first | (fail_if_success have := nb1); intro nb1 | (fail_if_success have := nb2); intro nb2 | (fail_if_success have := nb3); intro nb3 | (fail_if_success have := nb4); intro nb4 | (fail_if_success have := nb5); intro nb5 | (fail_if_success have := nb6); intro nb6 | intro nbz) | (apply Yfr; refine Yf FR fun hFRb FR => ?_) | refine Two.mk ?_ ?_ | (apply Yxc; exact Yx) | refine Cs.mk fun hcs => Sm.out ?_ | go_step | omega | (simp only [maxLen_eq]; omega) | exact trivial
        obtain ⟨l2, hl2⟩ := g
        try simp only [List.append_nil]
        first | (have FRx := FR; clear FRx) | have FR := fr0S
        have FA := Sm.mk (And.intro TFCfI s1)
        repeat' first | (apply Sm.mk; refine Ys ?_) | refine WP.seq fun K hK => ?_ | (apply Ob.mk; exact Yo) | refine And.intro (Ob.out ?_) ?_ | refine Y1CfI ?_ | refine YzCfI ?_ | (refine WP.cond rfl (fun hc => ?_) (fun hc => ?_) <;> (try simp only [ZC, reduceCtorEq, ZD] at hc) <;> (try exact absurd hc (by decide)) <;> (try (exfalso; omega))) | refine Rt.mk (And.intro (fun hg => Sm.out ?_) fun hg => Sm.out ?_) | (refine Nu.mk ?_; first | (fail_if_success have := nb1); intro nb1 | (fail_if_success have := nb2); intro nb2 | (fail_if_success have := nb3); intro nb3 | (fail_if_success have := nb4); intro nb4 | (fail_if_success have := nb5); intro nb5 | (fail_if_success have := nb6); intro nb6 | intro nbz) | (apply Yfr; refine Yf FR fun hFRb FR => ?_) | refine Two.mk ?_ ?_ | (apply Yxc; exact Yx) | refine Cs.mk fun hcs => Sm.out ?_ | go_step | omega | (simp only [maxLen_eq]; omega) | exact trivial
        exact ⟨⟨i + 1, l2, _⟩, ⟨by simp only; omega, hM', hl2⟩, by simp only; omega, Sub.of_env [] (pmz _) (by simp [look, s1])⟩
      · have j2 : decide (((Y.length - i * s : Nat) : Int) > (s : Int)) = false := decide_eq_false (by omega)
        have eD : (ub Y).drop (i * s) = ub (Y.drop (i * s)) := by rw [ub_map, ub_map, List.map_drop]
        have cW := write_d hM.A hl (by omega) ((f + i : Nat) : Int) (ub (Y.drop (i * s)))
        have hM' := hM.write (i := f + i) (by omega) (Y.drop (i * s)) (by rw [List.length_drop]; omega)
        rw [← eD] at cW hM'
        first | (have FRx := FR; clear FRx) | have FR := fr0S
        have FA := Sm.mk (And.intro TFCfI (And.intro ki (And.intro s1 (And.intro sf (And.intro ws (And.intro yl (And.intro yt (And.intro hdl j2))))))))
        repeat' first | (apply Sm.mk; refine Ys ?_) | refine WP.seq fun K hK => ?_ | (apply Ob.mk; exact Yo) | refine And.intro (Ob.out ?_) ?_ | ((fail_if_success (show WP _ _ _ (.region 3 _ _) _ _)); refine Y1CfI ?_) | (refine CallV.exM (cW) (pmz _) (fun g => Sm.out ?_)) | refine YzCfI ?_ | (refine WP.cond rfl (fun hc => ?_) (fun hc => ?_) <;> (try simp only [ZC, reduceCtorEq, ZD] at hc) <;> (try exact absurd hc (by decide)) <;> (try (exfalso; omega))) | refine Rt.mk (And.intro (fun hg => Sm.out ?_) fun hg => Sm.out ?_) | (refine Nu.mk ?_; first | (fail_if_success have := nb1); intro nb1 | (fail_if_success have := nb2); intro nb2 | (fail_if_success have := nb3); intro nb3 | (fail_if_success have := nb4); intro nb4 | (fail_if_success have := nb5); intro nb5 | (fail_if_success have := nb6); intro nb6 | intro nbz) | (apply Yfr; refine Yf FR fun hFRb FR => ?_) | refine Two.mk ?_ ?_ | (apply Yxc; exact Yx) | refine Cs.mk fun hcs => Sm.out ?_ | go_step | omega | (simp only [maxLen_eq]; omega) | exact trivial
        obtain ⟨l2, hl2⟩ := g
        try simp only [List.append_nil]
        first | (have FRx := FR; clear FRx) | have FR := fr0S
        have FA := Sm.mk (And.intro TFCfI s1)
        repeat' first | (apply Sm.mk; refine Ys ?_) | refine WP.seq fun K hK => ?_ | (apply Ob.mk; exact Yo) | refine And.intro (Ob.out ?_) ?_ | refine Y1CfI ?_ | refine YzCfI ?_ | (refine WP.cond rfl (fun hc => ?_) (fun hc => ?_) <;> (try simp only [ZC, reduceCtorEq, ZD] at hc) <;> (try exact absurd hc (by decide)) <;> (try (exfalso; omega))) | refine Rt.mk (And.intro (fun hg => Sm.out ?_) fun hg => Sm.out ?_) | (refine Nu.mk ?_; first | (fail_if_success have := nb1); intro nb1 | (fail_if_success have := nb2); intro nb2 | (fail_if_success have := nb3); intro nb3 | (fail_if_success have := nb4); intro nb4 | (fail_if_success have := nb5); intro nb5 | (fail_if_success have := nb6); intro nb6 | intro nbz) | (apply Yfr; refine Yf FR fun hFRb FR => ?_) | refine Two.mk ?_ ?_ | (apply Yxc; exact Yx) | refine Cs.mk fun hcs => Sm.out ?_ | go_step | omega | (simp only [maxLen_eq]; omega) | exact trivial
        exact ⟨⟨i + 1, l2, _⟩, ⟨by simp only; omega, hM', hl2⟩, by simp only; omega, Sub.of_env [] (pmz _) (by simp [look, s1])⟩
    · have j1 : decide (((i * s : Nat) : Int) < (Y.length : Int)) = false := decide_eq_false (by omega)
      have j2 : decide ((0 : Int) > (s : Int)) = false := decide_eq_false (by omega)
      have cW := write_d hM.A hl (by omega) ((f + i : Nat) : Int) (ub [])
      have cF := fun x => cW.frzG (b := x) (k := .u8) (zs := []) (s0 := 0) (ty := 5) (args := [pt b 0, iv .i64 ((f + i : Nat) : Int), ms x 0 0 0]) (by simp [frz, ub])
      first | (have FRx := FR; clear FRx) | have FR := fr0S
      have FA := Sm.mk (And.intro TFCfI (And.intro ki (And.intro s1 (And.intro sf (And.intro ws (And.intro yl (And.intro j1 j2)))))))
      repeat' first | (apply Sm.mk; refine Ys ?_) | refine WP.seq fun K hK => ?_ | (apply Ob.mk; exact Yo) | refine And.intro (Ob.out ?_) ?_ | ((fail_if_success (show WP _ _ _ (.region 3 _ _) _ _)); refine Y1CfI ?_) | (refine CallV.exM (cF _) (pmz _) (fun g => Sm.out ?_)) | refine YzCfI ?_ | (refine WP.cond rfl (fun hc => ?_) (fun hc => ?_) <;> (try simp only [ZC, reduceCtorEq, ZD] at hc) <;> (try exact absurd hc (by decide)) <;> (try (exfalso; omega))) | refine Rt.mk (And.intro (fun hg => Sm.out ?_) fun hg => Sm.out ?_) | (refine Nu.mk ?_; first | (fail_if_success have := nb1); intro nb1 | (fail_if_success have := nb2); intro nb2 | (fail_if_success have := nb3); intro nb3 | (fail_if_success have := nb4); intro nb4 | (fail_if_success have := nb5); intro nb5 | (fail_if_success have := nb6); intro nb6 | intro nbz) | (apply Yfr; refine Yf FR fun hFRb FR => ?_) | refine Two.mk ?_ ?_ | (apply Yxc; exact Yx) | refine Cs.mk fun hcs => Sm.out ?_ | go_step | omega | (simp only [maxLen_eq]; omega) | exact trivial
      obtain ⟨l2, hl2⟩ := g
      try simp only [List.append_nil]
      first | (have FRx := FR; clear FRx) | have FR := fr0S
      have FA := Sm.mk (And.intro TFCfI s1)
      repeat' first | (apply Sm.mk; refine Ys ?_) | refine WP.seq fun K hK => ?_ | (apply Ob.mk; exact Yo) | refine And.intro (Ob.out ?_) ?_ | refine Y1CfI ?_ | refine YzCfI ?_ | (refine WP.cond rfl (fun hc => ?_) (fun hc => ?_) <;> (try simp only [ZC, reduceCtorEq, ZD] at hc) <;> (try exact absurd hc (by decide)) <;> (try (exfalso; omega))) | refine Rt.mk (And.intro (fun hg => Sm.out ?_) fun hg => Sm.out ?_) | (refine Nu.mk ?_; first | (fail_if_success have := nb1); intro nb1 | (fail_if_success have := nb2); intro nb2 | (fail_if_success have := nb3); intro nb3 | (fail_if_success have := nb4); intro nb4 | (fail_if_success have := nb5); intro nb5 | (fail_if_success have := nb6); intro nb6 | intro nbz) | (apply Yfr; refine Yf FR fun hFRb FR => ?_) | refine Two.mk ?_ ?_ | (apply Yxc; exact Yx) | refine Cs.mk fun hcs => Sm.out ?_ | go_step | omega | (simp only [maxLen_eq]; omega) | exact trivial
      exact ⟨⟨i + 1, l2, _⟩, ⟨by simp only; omega, hM.write (i := f + i) (by omega) [] (by simp), hl2⟩, by simp only; omega, Sub.of_env [] (pmz _) (by simp [look, s1])⟩
  · obtain rfl : i = k := by omega
    have ki : decide ((i : Int) < (i : Int)) = false := by simp
    first | (have FRx := FR; clear FRx) | have FR := fr0S
    have FA := Sm.mk (And.intro TFCfI ki)
    repeat' first | (apply Sm.mk; refine Ys ?_) | refine WP.seq fun K hK => ?_ | (apply Ob.mk; exact Yo) | refine And.intro (Ob.out ?_) ?_ | refine Y1CfI ?_ | refine YzCfI ?_ | (refine WP.cond rfl (fun hc => ?_) (fun hc => ?_) <;> (try simp only [ZC, reduceCtorEq, ZD] at hc) <;> (try exact absurd hc (by decide)) <;> (try (exfalso; omega))) | refine Rt.mk (And.intro (fun hg => Sm.out ?_) fun hg => Sm.out ?_) | (refine Nu.mk ?_; first | (fail_if_success have := nb1); intro nb1 | (fail_if_success have := nb2); intro nb2 | (fail_if_success have := nb3); intro nb3 | (fail_if_success have := nb4); intro nb4 | (fail_if_success have := nb5); intro nb5 | (fail_if_success have := nb6); intro nb6 | intro nbz) | (apply Yfr; refine Yf FR fun hFRb FR => ?_) | refine Two.mk ?_ ?_ | (apply Yxc; exact Yx) | refine Cs.mk fun hcs => Sm.out ?_ | go_step | omega | (simp only [maxLen_eq]; omega) | exact trivial
    (refine OutQ.drop _ _ (pmz _) (by simp only [resv, ZK, look, loadv, loadn, loadnm, load1, load1m, hget, ↓reduceIte, Nat.reduceEqDiff, Nat.reduceAdd, Nat.reduceMul, Nat.reduceLeDiff, Nat.reduceLT, reduceCtorEq, TFCfI, FR.out]) ⟨⟨a, l, hM, hl⟩, (by simp only [resv, resA, ZK, look, loadv, loadn, loadnm, load1, load1m, hget, ↓reduceIte, Nat.reduceEqDiff, Nat.reduceAdd, Nat.reduceMul, Nat.reduceLeDiff, Nat.reduceLT, reduceCtorEq, TFCfI, FR.out]; first | done | rfl), rfl⟩)
end Go.Proofs.Yteoajodoejoccaa
