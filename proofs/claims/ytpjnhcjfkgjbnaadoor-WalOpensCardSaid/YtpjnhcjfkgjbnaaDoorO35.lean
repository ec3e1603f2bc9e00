/-
  The walks and the laws that the statement leans on, part 35.
-/
import Derived.Test.YtpjnhcjfkgjbnaaDoorO9
import Derived.Test.YtpjnhcjfkgjbnaaDoorO34
namespace Go.Proofs.YtpjnhcjfkgjbnaaDoor
open Go
set_option linter.unusedVariables false
set_option linter.unusedSimpArgs false
set_option linter.defProp false
def TFWlU :=
  And.intro (And.intro (And.intro (And.intro (And.intro tyc0 (And.intro tyc3 zmb3)) (And.intro tyc4 (And.intro zmb4 tyc5))) (And.intro (And.intro zmb5 (And.intro tyc9 zmb9)) (And.intro (And.intro tyc25 mth25_46) (And.intro mth25_45 mth25_44)))) (And.intro (And.intro (And.intro con25 (And.intro zmb25 tyc28)) (And.intro (And.intro zmb28 tyc31) (And.intro zmb31 tyc32))) (And.intro (And.intro elt32 (And.intro mkz32 mkc32)) (And.intro (And.intro apT32 elk32) (And.intro zmb32 tyc33))))) (And.intro (And.intro (And.intro (And.intro tyc35 (And.intro zmb35 tyc37)) (And.intro (And.intro foff37_0 fpart37_0) (And.intro foff37_1 fpart37_1))) (And.intro (And.intro zmb37 (And.intro bldT37 tyc38)) (And.intro (And.intro elt38 mkz38) (And.intro apT38 elk38)))) (And.intro (And.intro (And.intro zmb38 (And.intro Tryd.underlying0 Tryd.underlying3)) (And.intro (And.intro Tryd.underlying4 Tryd.underlying5) (And.intro Tryd.underlying9 Tryd.underlying25))) (And.intro (And.intro Tryd.underlying28 (And.intro Tryd.underlying31 Tryd.underlying32)) (And.intro (And.intro Tryd.underlying33 Tryd.underlying35) (And.intro Tryd.underlying37 Tryd.underlying38)))))
theorem Y1WlU {G R : Prop} (r : R) (h : R → G := by intro r; first | (apply WP.region; exact rvc_sound _ _ (Sm.out r)) | exact WP.drawK rfl mixed (by decide +kernel) (Sm.out r) | (apply WP.block; exact r) | (apply WP.skip; exact Yq r) | (apply WP.exit; exact Yq r) | (apply WP.ret; exact Sm.out r) | exact WP.cond rfl (fun _ => r) (fun hg => absurd hg (by decide)) | exact WP.cond rfl (fun hg => absurd hg (by decide)) (fun _ => r) | exact Rt.mk (And.intro (fun _ => Sm.out r) fun hg => absurd hg (by decide)) | exact Rt.mk (And.intro (fun hg => absurd hg (by decide)) fun _ => Sm.out r)) : G := h r
theorem YzWlU {G R : Prop} (r : R) (h : R → G := by intro r; first | (apply ExG.no; exact Sm.out r) | (apply Or.inl; apply ExG.no; exact Sm.out r) | exact Or.inl (And.intro (fun hg => absurd hg (by decide)) (ExG.no (Sm.out r)))) : G := h r
structure FG where
  i : Nat
  l : DL
  a : DA
set_option maxHeartbeats 8000000 in
theorem opens_ct (Z F kp tn : Int) (Y : Bs) (hF : F < 9223372036854775808) : ACt Tryd.prog 5 [iv .i64 Z, .slz .u8 (ub Y), iv .i64 F, iv .i64 kp, iv .i64 tn] [] (Fn (bv true)) := by
  have cA := awake_ct
  have yl := ub_len Y
  have yt : (ub Y).take Y.length = ub Y := List.take_of_length_le (by omega)
  by_cases h3 : Z < 32
  · have k3 : decide (Z < 32) = true := decide_eq_true h3
    refine ACt.intro Tryd.func5 rfl (by kernel_rfl) (by simp [Tryd.ntmps5]) (fun cx => ?_)
    simp only [argE, Tryd.ntmps5, Tryd.results5]
    first | (have FRx := FR; clear FRx) | have FR := fr0S
    have FA := Sm.mk (And.intro TFWlU k3)
    repeat' first | (apply Sm.mk; refine Ys ?_) | refine WP.seq fun K hK => ?_ | (apply Ob.mk; exact Yo) | refine And.intro (Ob.out ?_) ?_ | refine Y1WlU ?_ | refine Yc (c := cA) (r := ?_) | refine YzWlU ?_ | (refine WP.cond rfl (fun hc => ?_) (fun hc => ?_) <;> (try simp only [ZC, reduceCtorEq, ZD] at hc) <;> (try exact absurd hc (by decide)) <;> (try (exfalso; omega))) | refine Rt.mk (And.intro (fun hg => Sm.out ?_) fun hg => Sm.out ?_) | (refine Nu.mk ?_; first | (fail_if_success have := nb1); intro nb1 | (fail_if_success have := nb2); intro nb2 | (fail_if_success have := nb3); intro nb3 | (fail_if_success have := nb4); intro nb4 | (fail_if_success have := nb5); intro nb5 | (fail_if_success have := nb6); intro nb6 | (fail_if_success have := nb7); intro nb7 | (fail_if_success have := nb8); intro nb8 | intro nbz) | (apply Yfr; refine Yf FR fun hFRb FR => ?_) | refine Two.mk ?_ ?_ | (apply Yxc; exact Yx) | refine Cs.mk fun hcs => Sm.out ?_ | go_step | omega | (simp only [maxLen_eq]; omega) | exact trivial
    (refine Yg ?_; try exact trivial)
  have k3 : decide (Z < 32) = false := decide_eq_false h3
  by_cases h4 : Z > 512
  · have k4 : decide (Z > 512) = true := decide_eq_true h4
    refine ACt.intro Tryd.func5 rfl (by kernel_rfl) (by simp [Tryd.ntmps5]) (fun cx => ?_)
    simp only [argE, Tryd.ntmps5, Tryd.results5]
    first | (have FRx := FR; clear FRx) | have FR := fr0S
    have FA := Sm.mk (And.intro TFWlU (And.intro k3 k4))
    repeat' first | (apply Sm.mk; refine Ys ?_) | refine WP.seq fun K hK => ?_ | (apply Ob.mk; exact Yo) | refine And.intro (Ob.out ?_) ?_ | refine Y1WlU ?_ | refine Yc (c := cA) (r := ?_) | refine YzWlU ?_ | (refine WP.cond rfl (fun hc => ?_) (fun hc => ?_) <;> (try simp only [ZC, reduceCtorEq, ZD] at hc) <;> (try exact absurd hc (by decide)) <;> (try (exfalso; omega))) | refine Rt.mk (And.intro (fun hg => Sm.out ?_) fun hg => Sm.out ?_) | (refine Nu.mk ?_; first | (fail_if_success have := nb1); intro nb1 | (fail_if_success have := nb2); intro nb2 | (fail_if_success have := nb3); intro nb3 | (fail_if_success have := nb4); intro nb4 | (fail_if_success have := nb5); intro nb5 | (fail_if_success have := nb6); intro nb6 | (fail_if_success have := nb7); intro nb7 | (fail_if_success have := nb8); intro nb8 | intro nbz) | (apply Yfr; refine Yf FR fun hFRb FR => ?_) | refine Two.mk ?_ ?_ | (apply Yxc; exact Yx) | refine Cs.mk fun hcs => Sm.out ?_ | go_step | omega | (simp only [maxLen_eq]; omega) | exact trivial
    (refine Yg ?_; try exact trivial)
  have k4 : decide (Z > 512) = false := decide_eq_false h4
  by_cases h5 : 3000 < Y.length
  · have k5 : decide ((Y.length : Int) > 3000) = true := decide_eq_true (by omega)
    refine ACt.intro Tryd.func5 rfl (by kernel_rfl) (by simp [Tryd.ntmps5]) (fun cx => ?_)
    simp only [argE, Tryd.ntmps5, Tryd.results5]
    first | (have FRx := FR; clear FRx) | have FR := fr0S
    have FA := Sm.mk (And.intro TFWlU (And.intro k3 (And.intro k4 (And.intro yl k5))))
    repeat' first | (apply Sm.mk; refine Ys ?_) | refine WP.seq fun K hK => ?_ | (apply Ob.mk; exact Yo) | refine And.intro (Ob.out ?_) ?_ | refine Y1WlU ?_ | refine Yc (c := cA) (r := ?_) | refine YzWlU ?_ | (refine WP.cond rfl (fun hc => ?_) (fun hc => ?_) <;> (try simp only [ZC, reduceCtorEq, ZD] at hc) <;> (try exact absurd hc (by decide)) <;> (try (exfalso; omega))) | refine Rt.mk (And.intro (fun hg => Sm.out ?_) fun hg => Sm.out ?_) | (refine Nu.mk ?_; first | (fail_if_success have := nb1); intro nb1 | (fail_if_success have := nb2); intro nb2 | (fail_if_success have := nb3); intro nb3 | (fail_if_success have := nb4); intro nb4 | (fail_if_success have := nb5); intro nb5 | (fail_if_success have := nb6); intro nb6 | (fail_if_success have := nb7); intro nb7 | (fail_if_success have := nb8); intro nb8 | intro nbz) | (apply Yfr; refine Yf FR fun hFRb FR => ?_) | refine Two.mk ?_ ?_ | (apply Yxc; exact Yx) | refine Cs.mk fun hcs => Sm.out ?_ | go_step | omega | (simp only [maxLen_eq]; omega) | exact trivial
    (refine Yg ?_; try exact trivial)
  have k5 : decide ((Y.length : Int) > 3000) = false := decide_eq_false (by omega)
  obtain ⟨s, rfl⟩ : ∃ s : Nat, Z = (s : Int) := ⟨Z.toNat, by omega⟩
  have cM : ACt Tryd.prog 8 [iv .i64 9, iv .i64 (s : Int)] [] (fun r F' => ∃ g : MS 9 s, r = pt g.1.1 0 ∧ F' = dH g.1.1 (mkA 9 s) g.1.2) := marked_ct 9 s (by omega) (by omega) (by omega) (by omega)
  have hM0 := mkA_I 9 s (by omega) (by omega) (by omega) (by omega)
  obtain ⟨a0, ha0⟩ : ∃ a, a = mkA 9 s := ⟨_, rfl⟩
  refine ACt.intro Tryd.func5 rfl (by kernel_rfl) (by simp [Tryd.ntmps5]) (fun cx => ?_)
  simp only [argE, Tryd.ntmps5, Tryd.results5]
  first | (have FRx := FR; clear FRx) | have FR := fr0S
  have FA := Sm.mk (And.intro TFWlU (And.intro k3 (And.intro k4 (And.intro yl k5))))
  repeat' first | (apply Sm.mk; refine Ys ?_) | refine WP.seq fun K hK => ?_ | (apply Ob.mk; exact Yo) | refine And.intro (Ob.out ?_) ?_ | ((fail_if_success (show WP _ _ _ (.region 6 _ _) _ _)); refine Y1WlU ?_) | (first | refine CallV.fn (cA) (Sm.out ?_) | refine ExF.mk (cA) (Sm.out ?_) | refine ExG.mk (fun _ => cA) (Sm.out ?_) | refine ExG.mkJ (fun _ => cA) (Sm.out ?_) | refine ExG.mkI (Ob.out ?_) (fun _ => cA) (Sm.out ?_)) | (refine CallV.ex (F := []) (List.Perm.refl _) (cM) (fun g => Sm.out ?_)) | refine YzWlU ?_ | (refine WP.cond rfl (fun hc => ?_) (fun hc => ?_) <;> (try simp only [ZC, reduceCtorEq, ZD] at hc) <;> (try exact absurd hc (by decide)) <;> (try (exfalso; omega))) | refine Rt.mk (And.intro (fun hg => Sm.out ?_) fun hg => Sm.out ?_) | (refine Nu.mk ?_; first | (fail_if_success have := nb1); intro nb1 | (fail_if_success have := nb2); intro nb2 | (fail_if_success have := nb3); intro nb3 | (fail_if_success have := nb4); intro nb4 | (fail_if_success have := nb5); intro nb5 | (fail_if_success have := nb6); intro nb6 | (fail_if_success have := nb7); intro nb7 | (fail_if_success have := nb8); intro nb8 | intro nbz) | (apply Yfr; refine Yf FR fun hFRb FR => ?_) | refine Two.mk ?_ ?_ | (apply Yxc; exact Yx) | refine Cs.mk fun hcs => Sm.out ?_ | go_step | omega | (simp only [maxLen_eq]; omega) | exact trivial
  obtain ⟨⟨b, l⟩, hl⟩ := g
  simp only [List.append_nil] at hl ⊢
  rw [← ha0] at hl hM0 ⊢
  clear ha0 cM
  first | (have FRx := FR; clear FRx) | have FR := fr0S
  have FA := Sm.mk (TFWlU)
  repeat' first | (apply Sm.mk; refine Ys ?_) | refine WP.seq fun K hK => ?_ | (apply Ob.mk; exact Yo) | refine And.intro (Ob.out ?_) ?_ | refine Y1WlU ?_ | refine YzWlU ?_ | (refine WP.cond rfl (fun hc => ?_) (fun hc => ?_) <;> (try simp only [ZC, reduceCtorEq, ZD] at hc) <;> (try exact absurd hc (by decide)) <;> (try (exfalso; omega))) | refine Rt.mk (And.intro (fun hg => Sm.out ?_) fun hg => Sm.out ?_) | (refine Nu.mk ?_; first | (fail_if_success have := nb1); intro nb1 | (fail_if_success have := nb2); intro nb2 | (fail_if_success have := nb3); intro nb3 | (fail_if_success have := nb4); intro nb4 | (fail_if_success have := nb5); intro nb5 | (fail_if_success have := nb6); intro nb6 | (fail_if_success have := nb7); intro nb7 | (fail_if_success have := nb8); intro nb8 | intro nbz) | (apply Yfr; refine Yf FR fun hFRb FR => ?_) | refine Two.mk ?_ ?_ | (apply Yxc; exact Yx) | refine Cs.mk fun hcs => Sm.out ?_ | go_step | omega | (simp only [maxLen_eq]; omega) | exact trivial
  refine WP.loop (Γ := FG) (fun g => ⟨[(12, iv .i64 (g.i : Int)), (0, iv .i64 (s : Int)), (1, .slz .u8 (ub Y)), (2, iv .i64 F), (3, iv .i64 kp), (4, iv .i64 tn), (11, pt b 0)], dH b g.a g.l⟩)
    (fun g => g.i ≤ 7 ∧ MkI 9 s (10 + g.i) g.a ∧ LOk b g.a g.l) (fun g => 7 - g.i) ⟨0, l, a0⟩ ⟨Nat.zero_le _, hM0, hl⟩ (Sub.of_env [] (pmz _) (by simp [look])) ?_
  clear hl hM0 a0 l FR
  intro ⟨i, l, a⟩ ⟨hi, hM, hl⟩
  simp only at hi hM hl ⊢
  have FR : Sm (¬ ((1 : Nat) = 0)) := Sm.mk Nat.one_ne_zero
  by_cases hin : i < 7
  · have ki : decide ((i : Int) < 7) = true := decide_eq_true (by omega)
    have s1 : IntKind.i64.wrap ((i : Int) + 1) = ((i + 1 : Nat) : Int) := by rw [wrap_i64 (by omega) (by omega)]; omega
    have his : i * s ≤ 7 * 512 := Nat.mul_le_mul (by omega) (by omega)
    have ws : IntKind.i64.wrap ((i : Int) * (s : Int)) = ((i * s : Nat) : Int) := by rw [← Int.natCast_mul]; exact wrap_i64 (by omega) (by omega)
    by_cases c1 : i * s < Y.length
    · have j1 : decide (((i * s : Nat) : Int) < (Y.length : Int)) = true := decide_eq_true (by omega)
      first | (have FRx := FR; clear FRx) | have FR := fr0S
      have FA := Sm.mk (And.intro TFWlU (And.intro ki (And.intro s1 (And.intro ws (And.intro yl j1)))))
      repeat' first | (apply Sm.mk; refine Ys ?_) | refine WP.seq fun K hK => ?_ | (apply Ob.mk; exact Yo) | refine And.intro (Ob.out ?_) ?_ | ((fail_if_success (show WP _ _ _ (.region 11 _ _) _ _)); refine Y1WlU ?_) | refine YzWlU ?_ | (refine WP.cond rfl (fun hc => ?_) (fun hc => ?_) <;> (try simp only [ZC, reduceCtorEq, ZD] at hc) <;> (try exact absurd hc (by decide)) <;> (try (exfalso; omega))) | refine Rt.mk (And.intro (fun hg => Sm.out ?_) fun hg => Sm.out ?_) | (refine Nu.mk ?_; first | (fail_if_success have := nb1); intro nb1 | (fail_if_success have := nb2); intro nb2 | (fail_if_success have := nb3); intro nb3 | (fail_if_success have := nb4); intro nb4 | (fail_if_success have := nb5); intro nb5 | (fail_if_success have := nb6); intro nb6 | (fail_if_success have := nb7); intro nb7 | (fail_if_success have := nb8); intro nb8 | intro nbz) | (apply Yfr; refine Yf FR fun hFRb FR => ?_) | refine Two.mk ?_ ?_ | (apply Yxc; exact Yx) | refine Cs.mk fun hcs => Sm.out ?_ | go_step | omega | (simp only [maxLen_eq]; omega) | exact trivial
      refine WP.sub (s' := ⟨[(12, iv .i64 (i : Int)), (0, iv .i64 (s : Int)), (1, .slz .u8 (ub Y)), (2, iv .i64 F), (3, iv .i64 kp), (4, iv .i64 tn), (11, pt b 0)], dH b a l⟩) (Sub.of_env [_] (by exact List.perm_append_comm (l₁ := [_])) (by simp [look])) ?_
      have hdl : ((ub Y).drop (i * s)).length = Y.length - i * s := by rw [List.length_drop, yl]
      by_cases c2 : s < Y.length - i * s
      · have j2 : decide (((Y.length - i * s : Nat) : Int) > (s : Int)) = true := decide_eq_true (by omega)
        have eD : ((ub Y).drop (i * s)).take s = ub ((Y.drop (i * s)).take s) := by rw [ub_map, ub_map, List.map_take, List.map_drop]
        have cW := write_d hM.A hl (by omega) ((i + 1 : Nat) : Int) (ub ((Y.drop (i * s)).take s))
        have hM' := hM.write (i := i + 1) (by omega) ((Y.drop (i * s)).take s) (by rw [List.length_take]; omega)
        rw [← eD] at cW hM'
        first | (have FRx := FR; clear FRx) | have FR := fr0S
        have FA := Sm.mk (And.intro TFWlU (And.intro ki (And.intro s1 (And.intro ws (And.intro yl (And.intro yt (And.intro hdl j2)))))))
        repeat' first | (apply Sm.mk; refine Ys ?_) | refine WP.seq fun K hK => ?_ | (apply Ob.mk; exact Yo) | refine And.intro (Ob.out ?_) ?_ | ((fail_if_success (show WP _ _ _ (.region 8 _ _) _ _)); refine Y1WlU ?_) | (refine CallV.exM (cW) (pmz _) (fun g => Sm.out ?_)) | refine YzWlU ?_ | (refine WP.cond rfl (fun hc => ?_) (fun hc => ?_) <;> (try simp only [ZC, reduceCtorEq, ZD] at hc) <;> (try exact absurd hc (by decide)) <;> (try (exfalso; omega))) | refine Rt.mk (And.intro (fun hg => Sm.out ?_) fun hg => Sm.out ?_) | (refine Nu.mk ?_; first | (fail_if_success have := nb1); intro nb1 | (fail_if_success have := nb2); intro nb2 | (fail_if_success have := nb3); intro nb3 | (fail_if_success have := nb4); intro nb4 | (fail_if_success have := nb5); intro nb5 | (fail_if_success have := nb6); intro nb6 | (fail_if_success have := nb7); intro nb7 | (fail_if_success have := nb8); intro nb8 | intro nbz) | (apply Yfr; refine Yf FR fun hFRb FR => ?_) | refine Two.mk ?_ ?_ | (apply Yxc; exact Yx) | refine Cs.mk fun hcs => Sm.out ?_ | go_step | omega | (simp only [maxLen_eq]; omega) | exact trivial
        obtain ⟨l2, hl2⟩ := g
        try simp only [List.append_nil]
        first | (have FRx := FR; clear FRx) | have FR := fr0S
        have FA := Sm.mk (And.intro TFWlU s1)
        repeat' first | (apply Sm.mk; refine Ys ?_) | refine WP.seq fun K hK => ?_ | (apply Ob.mk; exact Yo) | refine And.intro (Ob.out ?_) ?_ | refine Y1WlU ?_ | refine YzWlU ?_ | (refine WP.cond rfl (fun hc => ?_) (fun hc => ?_) <;> (try simp only [ZC, reduceCtorEq, ZD] at hc) <;> (try exact absurd hc (by decide)) <;> (try (exfalso; omega))) | refine Rt.mk (And.intro (fun hg => Sm.out ?_) fun hg => Sm.out ?_) | (refine Nu.mk ?_; first | (fail_if_success have := nb1); intro nb1 | (fail_if_success have := nb2); intro nb2 | (fail_if_success have := nb3); intro nb3 | (fail_if_success have := nb4); intro nb4 | (fail_if_success have := nb5); intro nb5 | (fail_if_success have := nb6); intro nb6 | (fail_if_success have := nb7); intro nb7 | (fail_if_success have := nb8); intro nb8 | intro nbz) | (apply Yfr; refine Yf FR fun hFRb FR => ?_) | refine Two.mk ?_ ?_ | (apply Yxc; exact Yx) | refine Cs.mk fun hcs => Sm.out ?_ | go_step | omega | (simp only [maxLen_eq]; omega) | exact trivial
        exact ⟨⟨i + 1, l2, _⟩, ⟨by simp only; omega, hM', hl2⟩, by simp only; omega, Sub.of_env [] (pmz _) (by simp [look, s1])⟩
      · have j2 : decide (((Y.length - i * s : Nat) : Int) > (s : Int)) = false := decide_eq_false (by omega)
        have eD : (ub Y).drop (i * s) = ub (Y.drop (i * s)) := by rw [ub_map, ub_map, List.map_drop]
        have cW := write_d hM.A hl (by omega) ((i + 1 : Nat) : Int) (ub (Y.drop (i * s)))
        have hM' := hM.write (i := i + 1) (by omega) (Y.drop (i * s)) (by rw [List.length_drop]; omega)
        rw [← eD] at cW hM'
        first | (have FRx := FR; clear FRx) | have FR := fr0S
        have FA := Sm.mk (And.intro TFWlU (And.intro ki (And.intro s1 (And.intro ws (And.intro yl (And.intro yt (And.intro hdl j2)))))))
        repeat' first | (apply Sm.mk; refine Ys ?_) | refine WP.seq fun K hK => ?_ | (apply Ob.mk; exact Yo) | refine And.intro (Ob.out ?_) ?_ | ((fail_if_success (show WP _ _ _ (.region 8 _ _) _ _)); refine Y1WlU ?_) | (refine CallV.exM (cW) (pmz _) (fun g => Sm.out ?_)) | refine YzWlU ?_ | (refine WP.cond rfl (fun hc => ?_) (fun hc => ?_) <;> (try simp only [ZC, reduceCtorEq, ZD] at hc) <;> (try exact absurd hc (by decide)) <;> (try (exfalso; omega))) | refine Rt.mk (And.intro (fun hg => Sm.out ?_) fun hg => Sm.out ?_) | (refine Nu.mk ?_; first | (fail_if_success have := nb1); intro nb1 | (fail_if_success have := nb2); intro nb2 | (fail_if_success have := nb3); intro nb3 | (fail_if_success have := nb4); intro nb4 | (fail_if_success have := nb5); intro nb5 | (fail_if_success have := nb6); intro nb6 | (fail_if_success have := nb7); intro nb7 | (fail_if_success have := nb8); intro nb8 | intro nbz) | (apply Yfr; refine Yf FR fun hFRb FR => ?_) | refine Two.mk ?_ ?_ | (apply Yxc; exact Yx) | refine Cs.mk fun hcs => Sm.out ?_ | go_step | omega | (simp only [maxLen_eq]; omega) | exact trivial
        obtain ⟨l2, hl2⟩ := g
        try simp only [List.append_nil]
        first | (have FRx := FR; clear FRx) | have FR := fr0S
        have FA := Sm.mk (And.intro TFWlU s1)
        repeat' first | (apply Sm.mk; refine Ys ?_) | refine WP.seq fun K hK => ?_ | (apply Ob.mk; exact Yo) | refine And.intro (Ob.out ?_) ?_ | refine Y1WlU ?_ | refine YzWlU ?_ | (refine WP.cond rfl (fun hc => ?_) (fun hc => ?_) <;> (try simp only [ZC, reduceCtorEq, ZD] at hc) <;> (try exact absurd hc (by decide)) <;> (try (exfalso; omega))) | refine Rt.mk (And.intro (fun hg => Sm.out ?_) fun hg => Sm.out ?_) | (refine Nu.mk ?_; first | (fail_if_success have := nb1); intro nb1 | (fail_if_success have := nb2); intro nb2 | (fail_if_success have := nb3); intro nb3 | (fail_if_success have := nb4); intro nb4 | (fail_if_success have := nb5); intro nb5 | (fail_if_success have := nb6); intro nb6 | (fail_if_success have := nb7); intro nb7 | (fail_if_success have := nb8); intro nb8 | intro nbz) | (apply Yfr; refine Yf FR fun hFRb FR => ?_) | refine Two.mk ?_ ?_ | (apply Yxc; exact Yx) | refine Cs.mk fun hcs => Sm.out ?_ | go_step | omega | (simp only [maxLen_eq]; omega) | exact trivial
        exact ⟨⟨i + 1, l2, _⟩, ⟨by simp only; omega, hM', hl2⟩, by simp only; omega, Sub.of_env [] (pmz _) (by simp [look, s1])⟩
    · have j1 : decide (((i * s : Nat) : Int) < (Y.length : Int)) = false := decide_eq_false (by omega)
      have j2 : decide ((0 : Int) > (s : Int)) = false := decide_eq_false (by omega)
      have cW := write_d hM.A hl (by omega) ((i + 1 : Nat) : Int) (ub [])
      have cF := fun x => cW.frzG (b := x) (k := .u8) (zs := []) (s0 := 0) (ty := 5) (args := [pt b 0, iv .i64 ((i + 1 : Nat) : Int), ms x 0 0 0]) (by simp [frz, ub])
      first | (have FRx := FR; clear FRx) | have FR := fr0S
      have FA := Sm.mk (And.intro TFWlU (And.intro ki (And.intro s1 (And.intro ws (And.intro yl (And.intro j1 j2))))))
      repeat' first | (apply Sm.mk; refine Ys ?_) | refine WP.seq fun K hK => ?_ | (apply Ob.mk; exact Yo) | refine And.intro (Ob.out ?_) ?_ | ((fail_if_success (show WP _ _ _ (.region 8 _ _) _ _)); refine Y1WlU ?_) | (refine CallV.exM (cF _) (pmz _) (fun g => Sm.out ?_)) | refine YzWlU ?_ | (refine WP.cond rfl (fun hc => ?_) (fun hc => ?_) <;> (try simp only [ZC, reduceCtorEq, ZD] at hc) <;> (try exact absurd hc (by decide)) <;> (try (exfalso; omega))) | refine Rt.mk (And.intro (fun hg => Sm.out ?_) fun hg => Sm.out ?_) | (refine Nu.mk ?_; first | (fail_if_success have := nb1); intro nb1 | (fail_if_success have := nb2); intro nb2 | (fail_if_success have := nb3); intro nb3 | (fail_if_success have := nb4); intro nb4 | (fail_if_success have := nb5); intro nb5 | (fail_if_success have := nb6); intro nb6 | (fail_if_success have := nb7); intro nb7 | (fail_if_success have := nb8); intro nb8 | intro nbz) | (apply Yfr; refine Yf FR fun hFRb FR => ?_) | refine Two.mk ?_ ?_ | (apply Yxc; exact Yx) | refine Cs.mk fun hcs => Sm.out ?_ | go_step | omega | (simp only [maxLen_eq]; omega) | exact trivial
      obtain ⟨l2, hl2⟩ := g
      try simp only [List.append_nil]
      first | (have FRx := FR; clear FRx) | have FR := fr0S
      have FA := Sm.mk (And.intro TFWlU s1)
      repeat' first | (apply Sm.mk; refine Ys ?_) | refine WP.seq fun K hK => ?_ | (apply Ob.mk; exact Yo) | refine And.intro (Ob.out ?_) ?_ | refine Y1WlU ?_ | refine YzWlU ?_ | (refine WP.cond rfl (fun hc => ?_) (fun hc => ?_) <;> (try simp only [ZC, reduceCtorEq, ZD] at hc) <;> (try exact absurd hc (by decide)) <;> (try (exfalso; omega))) | refine Rt.mk (And.intro (fun hg => Sm.out ?_) fun hg => Sm.out ?_) | (refine Nu.mk ?_; first | (fail_if_success have := nb1); intro nb1 | (fail_if_success have := nb2); intro nb2 | (fail_if_success have := nb3); intro nb3 | (fail_if_success have := nb4); intro nb4 | (fail_if_success have := nb5); intro nb5 | (fail_if_success have := nb6); intro nb6 | (fail_if_success have := nb7); intro nb7 | (fail_if_success have := nb8); intro nb8 | intro nbz) | (apply Yfr; refine Yf FR fun hFRb FR => ?_) | refine Two.mk ?_ ?_ | (apply Yxc; exact Yx) | refine Cs.mk fun hcs => Sm.out ?_ | go_step | omega | (simp only [maxLen_eq]; omega) | exact trivial
      exact ⟨⟨i + 1, l2, _⟩, ⟨by simp only; omega, hM.write (i := i + 1) (by omega) [] (by simp), hl2⟩, by simp only; omega, Sub.of_env [] (pmz _) (by simp [look, s1])⟩
  · obtain rfl : i = 7 := by omega
    have ki : decide (((7 : Nat) : Int) < 7) = false := rfl
    have cY := sync_d hM.A hl (by omega)
    obtain ⟨hM2, W, hS⟩ := hM.sync
    obtain ⟨a2, ha2⟩ : ∃ a2, a2 = syA a := ⟨_, rfl⟩
    rw [← ha2] at cY hM2 hS
    first | (have FRx := FR; clear FRx) | have FR := fr0S
    have FA := Sm.mk (And.intro TFWlU ki)
    repeat' first | (apply Sm.mk; refine Ys ?_) | refine WP.seq fun K hK => ?_ | (apply Ob.mk; exact Yo) | refine And.intro (Ob.out ?_) ?_ | ((fail_if_success (show WP _ _ _ (.region 16 _ _) _ _)); refine Y1WlU ?_) | (refine CallV.exM (cY) (pmz _) (fun g => Sm.out ?_)) | refine YzWlU ?_ | (refine WP.cond rfl (fun hc => ?_) (fun hc => ?_) <;> (try simp only [ZC, reduceCtorEq, ZD] at hc) <;> (try exact absurd hc (by decide)) <;> (try (exfalso; omega))) | refine Rt.mk (And.intro (fun hg => Sm.out ?_) fun hg => Sm.out ?_) | (refine Nu.mk ?_; first | (fail_if_success have := nb1); intro nb1 | (fail_if_success have := nb2); intro nb2 | (fail_if_success have := nb3); intro nb3 | (fail_if_success have := nb4); intro nb4 | (fail_if_success have := nb5); intro nb5 | (fail_if_success have := nb6); intro nb6 | (fail_if_success have := nb7); intro nb7 | (fail_if_success have := nb8); intro nb8 | intro nbz) | (apply Yfr; refine Yf FR fun hFRb FR => ?_) | refine Two.mk ?_ ?_ | (apply Yxc; exact Yx) | refine Cs.mk fun hcs => Sm.out ?_ | go_step | omega | (simp only [maxLen_eq]; omega) | exact trivial
    obtain ⟨l2, hl2⟩ := g
    try simp only [List.append_nil]
    clear cY hM hl ha2
    have hA2 := hM2.A
    have hW : W.length = 9 * s := by
      have h1 := flat_len (size := a2.size) a2.S hA2.Sr
      rw [hS.T, ub_len, hA2.Sl, hS.n, hS.s] at h1
      exact h1
    have hR := rg_of (f := 1) (m := 7) hS hW (by omega)
    have cW := all_ct b a2 l2 hA2 hl2 hS.dk
    rw [hS.T] at cW
    obtain ⟨X, hX⟩ : ∃ X, X = bstr (ub W) := ⟨_, rfl⟩
    rw [← hX] at cW
    have hXs : X.size = 9 * s := by rw [hX, bstr_size, ub_len, hW]
    obtain ⟨R, hRe⟩ : ∃ R, R = (W.drop (1 * s)).take (7 * s) := ⟨_, rfl⟩
    rw [← hRe] at hR
    have hRl := hR.lR
    have w8 : IntKind.i64.wrap (8 * (s : Int)) = ((8 * s : Nat) : Int) := by rw [show (8 * (s : Int)) = ((8 * s : Nat) : Int) by simp]; exact wrap_i64 (by omega) (by omega)
    have eR : X.extract s (8 * s) = bstr (ub R) := by
      rw [hX, bstr_ext, hRe, ub_map, ub_map, List.map_take, List.map_drop, List.drop_take, Nat.one_mul, show 8 * s - s = 7 * s by omega]
    have cRd := read_ct R (by omega) (by omega)
    rw [← eR] at cRd
    have hFu : AOk 18 (fuA a2 F) := fuA_ok hA2 F hF
    have cFz := fuse_d b a2 l2 F
    unfold rdH at cRd
    have cS := csame_ct (all R).1 (by have := len_le (all R).1; have := all_le R; have := all_usd R; omega)
    obtain ⟨nL, hnL⟩ : ∃ n, n = (all R).1.length := ⟨_, rfl⟩
    obtain ⟨C, hC⟩ : ∃ C, C = rowsA (all R).1 := ⟨_, rfl⟩
    rw [← hnL, ← hC] at cRd cS
    have cRd2 := front0 (dH b a2 l2) cRd
    first | (have FRx := FR; clear FRx) | have FR := fr0S
    have FA := Sm.mk (And.intro TFWlU (And.intro w8 hXs))
    repeat' first | (apply Sm.mk; refine Ys ?_) | refine WP.seq fun K hK => ?_ | (apply Ob.mk; exact Yo) | refine And.intro (Ob.out ?_) ?_ | ((fail_if_success (show WP _ _ _ (.region 18 _ _) _ _)); refine Y1WlU ?_) | refine CallV.updM (cW) (pmz _) (Sm.out ?_) | ((first | refine ExF.up ?_ (cW) (Sm.out ?_) | refine ExG.up ?_ (fun _ => cW) (Sm.out ?_) | refine ExG.upJ ?_ (fun _ => cW) (Sm.out ?_) | refine ExG.upI ?_ (fun _ => cW) (Ob.out ?_) (Sm.out ?_)); focus (exact ⟨_, (pmz _)⟩)) | (refine CallV.exM (cRd2) (pmz _) (fun g => Sm.out ?_)) | refine YzWlU ?_ | (refine WP.cond rfl (fun hc => ?_) (fun hc => ?_) <;> (try simp only [ZC, reduceCtorEq, ZD] at hc) <;> (try exact absurd hc (by decide)) <;> (try (exfalso; omega))) | refine Rt.mk (And.intro (fun hg => Sm.out ?_) fun hg => Sm.out ?_) | (refine Nu.mk ?_; first | (fail_if_success have := nb1); intro nb1 | (fail_if_success have := nb2); intro nb2 | (fail_if_success have := nb3); intro nb3 | (fail_if_success have := nb4); intro nb4 | (fail_if_success have := nb5); intro nb5 | (fail_if_success have := nb6); intro nb6 | (fail_if_success have := nb7); intro nb7 | (fail_if_success have := nb8); intro nb8 | intro nbz) | (apply Yfr; refine Yf FR fun hFRb FR => ?_) | refine Two.mk ?_ ?_ | (apply Yxc; exact Yx) | refine Cs.mk fun hcs => Sm.out ?_ | go_step | omega | (simp only [maxLen_eq]; omega) | exact trivial
    try simp only [List.append_nil]
    obtain ⟨y, hy⟩ : ∃ y, y = g := ⟨_, rfl⟩
    rw [← hy]
    clear hy cW cRd cRd2
    have hRg := hR.fuse F
    have hCo := open_rg hFu hRg (by omega)
    have hA3 : AOk 26 (opR (fuA a2 F) 1 s R).1 := (opR_ok (m := 7) hFu hRg).le (by omega)
    have hCr := hCo.crash kp tn
    have cFy := upd0 [(y, MB.cells [.sl nL C, iv .i64 ((R.length : Nat) : Int)] 2 37)] cFz
    rcases (show (opR (fuA a2 F) 1 s R).2 = 0 ∨ (opR (fuA a2 F) 1 s R).2 = 12 from hCo.elim (fun h => .inl h.1) fun h => .inr h.1) with h0 | h0
    · have cO := lift0 [(y, MB.cells [.sl nL C, iv .i64 ((R.length : Nat) : Int)] 2 37)] (open_go b l2 hFu hRg (hl2.fuse F) (by omega) (by omega) (by omega) h0)
      rw [← hnL, ← hC] at cO
      obtain ⟨a3, ha3⟩ : ∃ a, a = (opR (fuA a2 F) 1 s R).1 := ⟨_, rfl⟩
      rw [← ha3] at cO hA3 hCr
      first | (have FRx := FR; clear FRx) | have FR := fr0S
      have FA := Sm.mk (TFWlU)
      repeat' first | (apply Sm.mk; refine Ys ?_) | refine WP.seq fun K hK => ?_ | (apply Ob.mk; exact Yo) | refine And.intro (Ob.out ?_) ?_ | ((fail_if_success (show WP _ _ _ (.region 22 _ _) _ _)); refine Y1WlU ?_) | refine CallV.updM (cFy) (pmz _) (Sm.out ?_) | (refine CallV.exM (cO) (pmz _) (fun g => Sm.out ?_)) | (first | refine CallV.fn (cS) (Sm.out ?_) | refine ExF.mk (cS) (Sm.out ?_) | refine ExG.mk (fun _ => cS) (Sm.out ?_) | refine ExG.mkJ (fun _ => cS) (Sm.out ?_) | refine ExG.mkI (Ob.out ?_) (fun _ => cS) (Sm.out ?_)) | refine YzWlU ?_ | (refine WP.cond rfl (fun hc => ?_) (fun hc => ?_) <;> (try simp only [ZC, reduceCtorEq, ZD] at hc) <;> (try exact absurd hc (by decide)) <;> (try (exfalso; omega))) | refine Rt.mk (And.intro (fun hg => Sm.out ?_) fun hg => Sm.out ?_) | (refine Nu.mk ?_; first | (fail_if_success have := nb1); intro nb1 | (fail_if_success have := nb2); intro nb2 | (fail_if_success have := nb3); intro nb3 | (fail_if_success have := nb4); intro nb4 | (fail_if_success have := nb5); intro nb5 | (fail_if_success have := nb6); intro nb6 | (fail_if_success have := nb7); intro nb7 | (fail_if_success have := nb8); intro nb8 | intro nbz) | (apply Yfr; refine Yf FR fun hFRb FR => ?_) | refine Two.mk ?_ ?_ | (apply Yxc; exact Yx) | refine Cs.mk fun hcs => Sm.out ?_ | go_step | omega | (simp only [maxLen_eq]; omega) | exact trivial
      obtain ⟨x, l3, hl3⟩ := g
      try simp only [List.append_nil]
      refine WP.sub (s' := ⟨[(0, iv .i64 (s : Int)), (3, iv .i64 kp), (4, iv .i64 tn), (11, pt b 0), (14, .lit (.string X)), (15, pt y 0)], (y, MB.cells [.sl nL C, iv .i64 ((R.length : Nat) : Int)] 2 37) :: dH b a3 l3⟩) (Sub.of_env [_] (by exact List.Perm.cons _ (List.perm_append_comm (l₁ := [_]))) (by simp [look])) ?_
      have cC := lift0 [(y, MB.cells [.sl nL C, iv .i64 ((R.length : Nat) : Int)] 2 37)] (crash_d hA3 hl3 (by omega) kp tn)
      have hA4 := crA_ok hA3 kp tn
      have hf4 : (crA a3 kp tn).f = -1 := rfl
      obtain ⟨R4, hR4, hRg4⟩ := hCr
      obtain ⟨a4, ha4⟩ : ∃ a, a = crA a3 kp tn := ⟨_, rfl⟩
      rw [← ha4] at cC hA4 hf4 hRg4
      first | (have FRx := FR; clear FRx) | have FR := fr0S
      have FA := Sm.mk (TFWlU)
      repeat' first | (apply Sm.mk; refine Ys ?_) | refine WP.seq fun K hK => ?_ | (apply Ob.mk; exact Yo) | refine And.intro (Ob.out ?_) ?_ | ((fail_if_success (show WP _ _ _ (.region 23 _ _) _ _)); refine Y1WlU ?_) | (refine CallV.exM (cC) (pmz _) (fun g => Sm.out ?_)) | refine YzWlU ?_ | (refine WP.cond rfl (fun hc => ?_) (fun hc => ?_) <;> (try simp only [ZC, reduceCtorEq, ZD] at hc) <;> (try exact absurd hc (by decide)) <;> (try (exfalso; omega))) | refine Rt.mk (And.intro (fun hg => Sm.out ?_) fun hg => Sm.out ?_) | (refine Nu.mk ?_; first | (fail_if_success have := nb1); intro nb1 | (fail_if_success have := nb2); intro nb2 | (fail_if_success have := nb3); intro nb3 | (fail_if_success have := nb4); intro nb4 | (fail_if_success have := nb5); intro nb5 | (fail_if_success have := nb6); intro nb6 | (fail_if_success have := nb7); intro nb7 | (fail_if_success have := nb8); intro nb8 | intro nbz) | (apply Yfr; refine Yf FR fun hFRb FR => ?_) | refine Two.mk ?_ ?_ | (apply Yxc; exact Yx) | refine Cs.mk fun hcs => Sm.out ?_ | go_step | omega | (simp only [maxLen_eq]; omega) | exact trivial
      obtain ⟨l4, hl4⟩ := g
      try simp only [List.append_nil]
      have eAll := all_open hR4
      have hl4R := hRg4.lR
      obtain ⟨h04, hRg5, hf5⟩ := (open_rg hA4 hRg4 (by omega)).up hf4
      rw [clR_same eAll (by omega)] at hRg5
      have hA5 : AOk 34 (opR a4 1 s R4).1 := (opR_ok (m := 7) hA4 hRg4).le (by omega)
      have cO2 := lift0 [(y, MB.cells [.sl nL C, iv .i64 ((R.length : Nat) : Int)] 2 37)] (open_go b l4 hA4 hRg4 hl4 (by omega) (by omega) (by omega) h04)
      rw [eAll, ← hnL, ← hC] at cO2
      obtain ⟨a5, ha5⟩ : ∃ a, a = (opR a4 1 s R4).1 := ⟨_, rfl⟩
      rw [← ha5] at cO2 hRg5 hf5 hA5
      first | (have FRx := FR; clear FRx) | have FR := fr0S
      have FA := Sm.mk (TFWlU)
      repeat' first | (apply Sm.mk; refine Ys ?_) | refine WP.seq fun K hK => ?_ | (apply Ob.mk; exact Yo) | refine And.intro (Ob.out ?_) ?_ | ((fail_if_success (show WP _ _ _ (.region 24 _ _) _ _)); refine Y1WlU ?_) | (refine CallV.exM (cO2) (pmz _) (fun g => Sm.out ?_)) | refine YzWlU ?_ | (refine WP.cond rfl (fun hc => ?_) (fun hc => ?_) <;> (try simp only [ZC, reduceCtorEq, ZD] at hc) <;> (try exact absurd hc (by decide)) <;> (try (exfalso; omega))) | refine Rt.mk (And.intro (fun hg => Sm.out ?_) fun hg => Sm.out ?_) | (refine Nu.mk ?_; first | (fail_if_success have := nb1); intro nb1 | (fail_if_success have := nb2); intro nb2 | (fail_if_success have := nb3); intro nb3 | (fail_if_success have := nb4); intro nb4 | (fail_if_success have := nb5); intro nb5 | (fail_if_success have := nb6); intro nb6 | (fail_if_success have := nb7); intro nb7 | (fail_if_success have := nb8); intro nb8 | intro nbz) | (apply Yfr; refine Yf FR fun hFRb FR => ?_) | refine Two.mk ?_ ?_ | (apply Yxc; exact Yx) | refine Cs.mk fun hcs => Sm.out ?_ | go_step | omega | (simp only [maxLen_eq]; omega) | exact trivial
      obtain ⟨x2, l5, hl5⟩ := g
      try simp only [List.append_nil]
      refine WP.sub (s' := ⟨[(17, .sl nL C), (18, iv .i64 0), (19, pt x2 0), (0, iv .i64 (s : Int)), (11, pt b 0), (14, .lit (.string X)), (15, pt y 0)], (y, MB.cells [.sl nL C, iv .i64 ((R.length : Nat) : Int)] 2 37) :: (x2, lgM b 1 7 (ub (tlB R4 (all R).2 s)) (all R).2 false) :: dH b a5 l5⟩) (Sub.of_env [] (by exact pmz _) (by simp [look])) ?_
      have hUl := all_usd R
      have hUle := all_le R
      have cW5 := look0 [(y, MB.cells [.sl nL C, iv .i64 ((R.length : Nat) : Int)] 2 37)] (all_ct b a5 l5 hA5 hl5 hRg5.st.dk)
      rw [hRg5.st.T] at cW5
      have cD5 := look0 [(y, MB.cells [.sl nL C, iv .i64 ((R.length : Nat) : Int)] 2 37)] (deeds_d b a5 l5)
      have cT0 := rtextR_ct (all R).1 y R.length (by omega) (by omega)
      rw [← hnL, ← hC, ← clR_frs] at cT0
      have cT := cT0.lookU (H := (y, MB.cells [.sl nL C, iv .i64 ((R.length : Nat) : Int)] 2 37) :: dH b a5 l5) (R := dH b a5 l5) (by exact .refl _)
      have cU := (used_ct x2 b 1 7 (all R).2 (ub (tlB R4 (all R).2 s)) false).lookU (H := (y, MB.cells [.sl nL C, iv .i64 ((R.length : Nat) : Int)] 2 37) :: (x2, lgM b 1 7 (ub (tlB R4 (all R).2 s)) (all R).2 false) :: dH b a5 l5) (R := (y, MB.cells [.sl nL C, iv .i64 ((R.length : Nat) : Int)] 2 37) :: dH b a5 l5) (by exact .swap _ _ _)
      have cV0 := rusedR_ct (all R).1 y R.length (by omega)
      rw [← hnL, ← hC, ← hUl] at cV0
      have cV := cV0.lookU (H := (y, MB.cells [.sl nL C, iv .i64 ((R.length : Nat) : Int)] 2 37) :: (x2, lgM b 1 7 (ub (tlB R4 (all R).2 s)) (all R).2 false) :: dH b a5 l5) (R := (x2, lgM b 1 7 (ub (tlB R4 (all R).2 s)) (all R).2 false) :: dH b a5 l5) (by exact .refl _)
      have cUe : ((((all R).2 : Nat) : Int) != (((all R).2 : Nat) : Int)) = false := by simp
      have cD := look0 [(y, MB.cells [.sl nL C, iv .i64 ((R.length : Nat) : Int)] 2 37), (x2, lgM b 1 7 (ub (tlB R4 (all R).2 s)) (all R).2 false)] (deeds_d b a5 l5)
      have cO3 := lift0 [(y, MB.cells [.sl nL C, iv .i64 ((R.length : Nat) : Int)] 2 37), (x2, lgM b 1 7 (ub (tlB R4 (all R).2 s)) (all R).2 false)] (open_up b l5 (LgI.of_open hA5 hRg5 (by omega) (by omega)) hl5)
      rw [← hnL, ← hC] at cO3
      first | (have FRx := FR; clear FRx) | have FR := fr0S
      have FA := Sm.mk (And.intro TFWlU cUe)
      repeat' first | (apply Sm.mk; refine Ys ?_) | refine WP.seq fun K hK => ?_ | (apply Ob.mk; exact Yo) | refine And.intro (Ob.out ?_) ?_ | ((fail_if_success (show WP _ _ _ (.region 28 _ _) _ _)); refine Y1WlU ?_) | (first | refine CallV.fn (cS) (Sm.out ?_) | refine ExF.mk (cS) (Sm.out ?_) | refine ExG.mk (fun _ => cS) (Sm.out ?_) | refine ExG.mkJ (fun _ => cS) (Sm.out ?_) | refine ExG.mkI (Ob.out ?_) (fun _ => cS) (Sm.out ?_)) | refine CallV.updM (cU) (pmz _) (Sm.out ?_) | ((first | refine ExF.up ?_ (cU) (Sm.out ?_) | refine ExG.up ?_ (fun _ => cU) (Sm.out ?_) | refine ExG.upJ ?_ (fun _ => cU) (Sm.out ?_) | refine ExG.upI ?_ (fun _ => cU) (Ob.out ?_) (Sm.out ?_)); focus (exact ⟨_, (pmz _)⟩)) | refine CallV.updM (cV) (pmz _) (Sm.out ?_) | ((first | refine ExF.up ?_ (cV) (Sm.out ?_) | refine ExG.up ?_ (fun _ => cV) (Sm.out ?_) | refine ExG.upJ ?_ (fun _ => cV) (Sm.out ?_) | refine ExG.upI ?_ (fun _ => cV) (Ob.out ?_) (Sm.out ?_)); focus (exact ⟨_, (pmz _)⟩)) | refine CallV.updM (cD) (pmz _) (Sm.out ?_) | ((first | refine ExF.up ?_ (cD) (Sm.out ?_) | refine ExG.up ?_ (fun _ => cD) (Sm.out ?_) | refine ExG.upJ ?_ (fun _ => cD) (Sm.out ?_) | refine ExG.upI ?_ (fun _ => cD) (Ob.out ?_) (Sm.out ?_)); focus (exact ⟨_, (pmz _)⟩)) | (refine CallV.exM (cO3) (pmz _) (fun g => Sm.out ?_)) | refine YzWlU ?_ | (refine WP.cond rfl (fun hc => ?_) (fun hc => ?_) <;> (try simp only [ZC, reduceCtorEq, ZD] at hc) <;> (try exact absurd hc (by decide)) <;> (try (exfalso; omega))) | refine Rt.mk (And.intro (fun hg => Sm.out ?_) fun hg => Sm.out ?_) | (refine Nu.mk ?_; first | (fail_if_success have := nb1); intro nb1 | (fail_if_success have := nb2); intro nb2 | (fail_if_success have := nb3); intro nb3 | (fail_if_success have := nb4); intro nb4 | (fail_if_success have := nb5); intro nb5 | (fail_if_success have := nb6); intro nb6 | (fail_if_success have := nb7); intro nb7 | (fail_if_success have := nb8); intro nb8 | intro nbz) | (apply Yfr; refine Yf FR fun hFRb FR => ?_) | refine Two.mk ?_ ?_ | (apply Yxc; exact Yx) | refine Cs.mk fun hcs => Sm.out ?_ | go_step | omega | (simp only [maxLen_eq]; omega) | exact trivial
      refine WP.sub (s' := ⟨[(18, iv .i64 0), (17, .sl nL C), (0, iv .i64 (s : Int)), (11, pt b 0), (14, .lit (.string X)), (15, pt y 0), (20, iv .i64 (a5.de : Int))], (y, MB.cells [.sl nL C, iv .i64 ((R.length : Nat) : Int)] 2 37) :: dH b a5 l5⟩) (Sub.of_env [_, _] (by exact List.Perm.cons _ (List.perm_append_comm (l₁ := [_, _]))) (by simp [look])) ?_
      have e3 : bstr (ub (W.take (1 * s) ++ (clR R ++ W.drop ((1 + 7) * s)))) = bstr (ub (W.take (1 * s))) ++ bstr (ub (clR R)) ++ bstr (ub (W.drop ((1 + 7) * s))) := by
        rw [bstr_app, bstr_app, ub_append, ub_append, List.append_assoc]
      rw [e3] at cW5
      obtain ⟨B1, hB1⟩ : ∃ B, B = bstr (ub (W.take (1 * s))) := ⟨_, rfl⟩
      obtain ⟨B2, hB2⟩ : ∃ B, B = bstr (ub (clR R)) := ⟨_, rfl⟩
      obtain ⟨B3, hB3⟩ : ∃ B, B = bstr (ub (W.drop ((1 + 7) * s))) := ⟨_, rfl⟩
      have z1 : B1.size = s := by rw [hB1, bstr_size, ub_len, List.length_take, hW]; omega
      have z2 : B2.size = 7 * s := by rw [hB2, bstr_size, ub_len, clR_len]; omega
      have z3 : B3.size = s := by rw [hB3, bstr_size, ub_len, List.length_drop, hW]; omega
      have e1 : X.extract 0 s = B1 := by rw [hX, bstr_ext, hB1, List.drop_zero, Nat.one_mul, ub_map, ub_map, List.map_take]
      have e2 : X.extract (8 * s) (9 * s) = B3 := by
        rw [hX, bstr_ext, hB3, List.take_of_length_le (by rw [ub_len]; omega), ub_map, ub_map, List.map_drop]
      rw [← hB1, ← hB2, ← hB3] at cW5
      rw [← hB2] at cT
      clear e3 hB1 hB2 hB3
      have z4 : (B1 ++ B2).size = s + 7 * s := by rw [ByteArray.size_append, z1, z2]
      have z5 : B1.size + B2.size ≤ 9223372036854775807 := by omega
      have z6 : (B1 ++ B2).size + B3.size ≤ 9223372036854775807 := by omega
      have kE : ((B1 ++ B2 ++ B3).toList == (B1 ++ B2 ++ B3).toList) = true := beq_self_eq_true _
      have kD : ((a5.de : Int) == (a5.de : Int)) = true := beq_self_eq_true _
      first | (have FRx := FR; clear FRx) | have FR := fr0S
      have FA := Sm.mk (And.intro TFWlU (And.intro w8 (And.intro hXs (And.intro e1 (And.intro e2 (And.intro kE kD))))))
      repeat' first | (apply Sm.mk; refine Ys ?_) | refine WP.seq fun K hK => ?_ | (apply Ob.mk; exact Yo) | refine And.intro (Ob.out ?_) ?_ | refine Y1WlU ?_ | (first | refine CallV.fn (cS) (Sm.out ?_) | refine ExF.mk (cS) (Sm.out ?_) | refine ExG.mk (fun _ => cS) (Sm.out ?_) | refine ExG.mkJ (fun _ => cS) (Sm.out ?_) | refine ExG.mkI (Ob.out ?_) (fun _ => cS) (Sm.out ?_)) | refine CallV.updM (cW5) (pmz _) (Sm.out ?_) | ((first | refine ExF.up ?_ (cW5) (Sm.out ?_) | refine ExG.up ?_ (fun _ => cW5) (Sm.out ?_) | refine ExG.upJ ?_ (fun _ => cW5) (Sm.out ?_) | refine ExG.upI ?_ (fun _ => cW5) (Ob.out ?_) (Sm.out ?_)); focus (exact ⟨_, (pmz _)⟩)) | refine CallV.updM (cD5) (pmz _) (Sm.out ?_) | ((first | refine ExF.up ?_ (cD5) (Sm.out ?_) | refine ExG.up ?_ (fun _ => cD5) (Sm.out ?_) | refine ExG.upJ ?_ (fun _ => cD5) (Sm.out ?_) | refine ExG.upI ?_ (fun _ => cD5) (Ob.out ?_) (Sm.out ?_)); focus (exact ⟨_, (pmz _)⟩)) | refine CallV.updM (cT) (pmz _) (Sm.out ?_) | ((first | refine ExF.up ?_ (cT) (Sm.out ?_) | refine ExG.up ?_ (fun _ => cT) (Sm.out ?_) | refine ExG.upJ ?_ (fun _ => cT) (Sm.out ?_) | refine ExG.upI ?_ (fun _ => cT) (Ob.out ?_) (Sm.out ?_)); focus (exact ⟨_, (pmz _)⟩)) | refine YzWlU ?_ | (refine WP.cond rfl (fun hc => ?_) (fun hc => ?_) <;> (try simp only [ZC, reduceCtorEq, ZD] at hc) <;> (try exact absurd hc (by decide)) <;> (try (exfalso; omega))) | refine Rt.mk (And.intro (fun hg => Sm.out ?_) fun hg => Sm.out ?_) | (refine Nu.mk ?_; first | (fail_if_success have := nb1); intro nb1 | (fail_if_success have := nb2); intro nb2 | (fail_if_success have := nb3); intro nb3 | (fail_if_success have := nb4); intro nb4 | (fail_if_success have := nb5); intro nb5 | (fail_if_success have := nb6); intro nb6 | (fail_if_success have := nb7); intro nb7 | (fail_if_success have := nb8); intro nb8 | intro nbz) | (apply Yfr; refine Yf FR fun hFRb FR => ?_) | refine Two.mk ?_ ?_ | (apply Yxc; exact Yx) | refine Cs.mk fun hcs => Sm.out ?_ | go_step | omega | (simp only [maxLen_eq]; omega) | exact trivial
      (refine Yg ?_; try exact trivial)
    · have cO := lift0 [(y, MB.cells [.sl nL C, iv .i64 ((R.length : Nat) : Int)] 2 37)] (open_dk b l2 hFu hRg (hl2.fuse F) (by omega) (by omega) (by omega) h0)
      obtain ⟨a3, ha3⟩ : ∃ a, a = (opR (fuA a2 F) 1 s R).1 := ⟨_, rfl⟩
      rw [← ha3] at cO hA3 hCr
      have y1 : ((12 : Int) == 0) = false := rfl
      have y2 : ((12 : Int) == 12) = true := rfl
      have y3 : ((12 : Int) != 0) = true := rfl
      have y4 : ((12 : Int) != 12) = false := rfl
      have y5 : decide ((0 : Int) > 0) = false := rfl
      first | (have FRx := FR; clear FRx) | have FR := fr0S
      have FA := Sm.mk (And.intro TFWlU (And.intro y1 (And.intro y2 (And.intro y3 (And.intro y4 y5)))))
      repeat' first | (apply Sm.mk; refine Ys ?_) | refine WP.seq fun K hK => ?_ | (apply Ob.mk; exact Yo) | refine And.intro (Ob.out ?_) ?_ | ((fail_if_success (show WP _ _ _ (.region 22 _ _) _ _)); refine Y1WlU ?_) | refine CallV.updM (cFy) (pmz _) (Sm.out ?_) | (refine CallV.exM (cO) (pmz _) (fun g => Sm.out ?_)) | refine YzWlU ?_ | (refine WP.cond rfl (fun hc => ?_) (fun hc => ?_) <;> (try simp only [ZC, reduceCtorEq, ZD] at hc) <;> (try exact absurd hc (by decide)) <;> (try (exfalso; omega))) | refine Rt.mk (And.intro (fun hg => Sm.out ?_) fun hg => Sm.out ?_) | (refine Nu.mk ?_; first | (fail_if_success have := nb1); intro nb1 | (fail_if_success have := nb2); intro nb2 | (fail_if_success have := nb3); intro nb3 | (fail_if_success have := nb4); intro nb4 | (fail_if_success have := nb5); intro nb5 | (fail_if_success have := nb6); intro nb6 | (fail_if_success have := nb7); intro nb7 | (fail_if_success have := nb8); intro nb8 | intro nbz) | (apply Yfr; refine Yf FR fun hFRb FR => ?_) | refine Two.mk ?_ ?_ | (apply Yxc; exact Yx) | refine Cs.mk fun hcs => Sm.out ?_ | go_step | omega | (simp only [maxLen_eq]; omega) | exact trivial
      obtain ⟨l3, hl3⟩ := g
      try simp only [List.append_nil]
      refine WP.sub (s' := ⟨[(0, iv .i64 (s : Int)), (3, iv .i64 kp), (4, iv .i64 tn), (11, pt b 0), (14, .lit (.string X)), (15, pt y 0)], (y, MB.cells [.sl nL C, iv .i64 ((R.length : Nat) : Int)] 2 37) :: dH b a3 l3⟩) (Sub.of_env [] (by exact pmz _) (by simp [look])) ?_
      have cC := lift0 [(y, MB.cells [.sl nL C, iv .i64 ((R.length : Nat) : Int)] 2 37)] (crash_d hA3 hl3 (by omega) kp tn)
      have hA4 := crA_ok hA3 kp tn
      have hf4 : (crA a3 kp tn).f = -1 := rfl
      obtain ⟨R4, hR4, hRg4⟩ := hCr
      obtain ⟨a4, ha4⟩ : ∃ a, a = crA a3 kp tn := ⟨_, rfl⟩
      rw [← ha4] at cC hA4 hf4 hRg4
      first | (have FRx := FR; clear FRx) | have FR := fr0S
      have FA := Sm.mk (TFWlU)
      repeat' first | (apply Sm.mk; refine Ys ?_) | refine WP.seq fun K hK => ?_ | (apply Ob.mk; exact Yo) | refine And.intro (Ob.out ?_) ?_ | ((fail_if_success (show WP _ _ _ (.region 23 _ _) _ _)); refine Y1WlU ?_) | (refine CallV.exM (cC) (pmz _) (fun g => Sm.out ?_)) | refine YzWlU ?_ | (refine WP.cond rfl (fun hc => ?_) (fun hc => ?_) <;> (try simp only [ZC, reduceCtorEq, ZD] at hc) <;> (try exact absurd hc (by decide)) <;> (try (exfalso; omega))) | refine Rt.mk (And.intro (fun hg => Sm.out ?_) fun hg => Sm.out ?_) | (refine Nu.mk ?_; first | (fail_if_success have := nb1); intro nb1 | (fail_if_success have := nb2); intro nb2 | (fail_if_success have := nb3); intro nb3 | (fail_if_success have := nb4); intro nb4 | (fail_if_success have := nb5); intro nb5 | (fail_if_success have := nb6); intro nb6 | (fail_if_success have := nb7); intro nb7 | (fail_if_success have := nb8); intro nb8 | intro nbz) | (apply Yfr; refine Yf FR fun hFRb FR => ?_) | refine Two.mk ?_ ?_ | (apply Yxc; exact Yx) | refine Cs.mk fun hcs => Sm.out ?_ | go_step | omega | (simp only [maxLen_eq]; omega) | exact trivial
      obtain ⟨l4, hl4⟩ := g
      try simp only [List.append_nil]
      have eAll := all_open hR4
      have hl4R := hRg4.lR
      obtain ⟨h04, hRg5, hf5⟩ := (open_rg hA4 hRg4 (by omega)).up hf4
      rw [clR_same eAll (by omega)] at hRg5
      have hA5 : AOk 34 (opR a4 1 s R4).1 := (opR_ok (m := 7) hA4 hRg4).le (by omega)
      have cO2 := lift0 [(y, MB.cells [.sl nL C, iv .i64 ((R.length : Nat) : Int)] 2 37)] (open_go b l4 hA4 hRg4 hl4 (by omega) (by omega) (by omega) h04)
      rw [eAll, ← hnL, ← hC] at cO2
      obtain ⟨a5, ha5⟩ : ∃ a, a = (opR a4 1 s R4).1 := ⟨_, rfl⟩
      rw [← ha5] at cO2 hRg5 hf5 hA5
      first | (have FRx := FR; clear FRx) | have FR := fr0S
      have FA := Sm.mk (TFWlU)
      repeat' first | (apply Sm.mk; refine Ys ?_) | refine WP.seq fun K hK => ?_ | (apply Ob.mk; exact Yo) | refine And.intro (Ob.out ?_) ?_ | ((fail_if_success (show WP _ _ _ (.region 24 _ _) _ _)); refine Y1WlU ?_) | (refine CallV.exM (cO2) (pmz _) (fun g => Sm.out ?_)) | refine YzWlU ?_ | (refine WP.cond rfl (fun hc => ?_) (fun hc => ?_) <;> (try simp only [ZC, reduceCtorEq, ZD] at hc) <;> (try exact absurd hc (by decide)) <;> (try (exfalso; omega))) | refine Rt.mk (And.intro (fun hg => Sm.out ?_) fun hg => Sm.out ?_) | (refine Nu.mk ?_; first | (fail_if_success have := nb1); intro nb1 | (fail_if_success have := nb2); intro nb2 | (fail_if_success have := nb3); intro nb3 | (fail_if_success have := nb4); intro nb4 | (fail_if_success have := nb5); intro nb5 | (fail_if_success have := nb6); intro nb6 | (fail_if_success have := nb7); intro nb7 | (fail_if_success have := nb8); intro nb8 | intro nbz) | (apply Yfr; refine Yf FR fun hFRb FR => ?_) | refine Two.mk ?_ ?_ | (apply Yxc; exact Yx) | refine Cs.mk fun hcs => Sm.out ?_ | go_step | omega | (simp only [maxLen_eq]; omega) | exact trivial
      obtain ⟨x2, l5, hl5⟩ := g
      try simp only [List.append_nil]
      refine WP.sub (s' := ⟨[(17, .sl nL C), (18, iv .i64 0), (19, pt x2 0), (0, iv .i64 (s : Int)), (11, pt b 0), (14, .lit (.string X)), (15, pt y 0)], (y, MB.cells [.sl nL C, iv .i64 ((R.length : Nat) : Int)] 2 37) :: (x2, lgM b 1 7 (ub (tlB R4 (all R).2 s)) (all R).2 false) :: dH b a5 l5⟩) (Sub.of_env [] (by exact pmz _) (by simp [look])) ?_
      have hUl := all_usd R
      have hUle := all_le R
      have cW5 := look0 [(y, MB.cells [.sl nL C, iv .i64 ((R.length : Nat) : Int)] 2 37)] (all_ct b a5 l5 hA5 hl5 hRg5.st.dk)
      rw [hRg5.st.T] at cW5
      have cD5 := look0 [(y, MB.cells [.sl nL C, iv .i64 ((R.length : Nat) : Int)] 2 37)] (deeds_d b a5 l5)
      have cT0 := rtextR_ct (all R).1 y R.length (by omega) (by omega)
      rw [← hnL, ← hC, ← clR_frs] at cT0
      have cT := cT0.lookU (H := (y, MB.cells [.sl nL C, iv .i64 ((R.length : Nat) : Int)] 2 37) :: dH b a5 l5) (R := dH b a5 l5) (by exact .refl _)
      have cU := (used_ct x2 b 1 7 (all R).2 (ub (tlB R4 (all R).2 s)) false).lookU (H := (y, MB.cells [.sl nL C, iv .i64 ((R.length : Nat) : Int)] 2 37) :: (x2, lgM b 1 7 (ub (tlB R4 (all R).2 s)) (all R).2 false) :: dH b a5 l5) (R := (y, MB.cells [.sl nL C, iv .i64 ((R.length : Nat) : Int)] 2 37) :: dH b a5 l5) (by exact .swap _ _ _)
      have cV0 := rusedR_ct (all R).1 y R.length (by omega)
      rw [← hnL, ← hC, ← hUl] at cV0
      have cV := cV0.lookU (H := (y, MB.cells [.sl nL C, iv .i64 ((R.length : Nat) : Int)] 2 37) :: (x2, lgM b 1 7 (ub (tlB R4 (all R).2 s)) (all R).2 false) :: dH b a5 l5) (R := (x2, lgM b 1 7 (ub (tlB R4 (all R).2 s)) (all R).2 false) :: dH b a5 l5) (by exact .refl _)
      have cUe : ((((all R).2 : Nat) : Int) != (((all R).2 : Nat) : Int)) = false := by simp
      have cD := look0 [(y, MB.cells [.sl nL C, iv .i64 ((R.length : Nat) : Int)] 2 37), (x2, lgM b 1 7 (ub (tlB R4 (all R).2 s)) (all R).2 false)] (deeds_d b a5 l5)
      have cO3 := lift0 [(y, MB.cells [.sl nL C, iv .i64 ((R.length : Nat) : Int)] 2 37), (x2, lgM b 1 7 (ub (tlB R4 (all R).2 s)) (all R).2 false)] (open_up b l5 (LgI.of_open hA5 hRg5 (by omega) (by omega)) hl5)
      rw [← hnL, ← hC] at cO3
      first | (have FRx := FR; clear FRx) | have FR := fr0S
      have FA := Sm.mk (And.intro TFWlU cUe)
      repeat' first | (apply Sm.mk; refine Ys ?_) | refine WP.seq fun K hK => ?_ | (apply Ob.mk; exact Yo) | refine And.intro (Ob.out ?_) ?_ | ((fail_if_success (show WP _ _ _ (.region 28 _ _) _ _)); refine Y1WlU ?_) | (first | refine CallV.fn (cS) (Sm.out ?_) | refine ExF.mk (cS) (Sm.out ?_) | refine ExG.mk (fun _ => cS) (Sm.out ?_) | refine ExG.mkJ (fun _ => cS) (Sm.out ?_) | refine ExG.mkI (Ob.out ?_) (fun _ => cS) (Sm.out ?_)) | refine CallV.updM (cU) (pmz _) (Sm.out ?_) | ((first | refine ExF.up ?_ (cU) (Sm.out ?_) | refine ExG.up ?_ (fun _ => cU) (Sm.out ?_) | refine ExG.upJ ?_ (fun _ => cU) (Sm.out ?_) | refine ExG.upI ?_ (fun _ => cU) (Ob.out ?_) (Sm.out ?_)); focus (exact ⟨_, (pmz _)⟩)) | refine CallV.updM (cV) (pmz _) (Sm.out ?_) | ((first | refine ExF.up ?_ (cV) (Sm.out ?_) | refine ExG.up ?_ (fun _ => cV) (Sm.out ?_) | refine ExG.upJ ?_ (fun _ => cV) (Sm.out ?_) | refine ExG.upI ?_ (fun _ => cV) (Ob.out ?_) (Sm.out ?_)); focus (exact ⟨_, (pmz _)⟩)) | refine CallV.updM (cD) (pmz _) (Sm.out ?_) | ((first | refine ExF.up ?_ (cD) (Sm.out ?_) | refine ExG.up ?_ (fun _ => cD) (Sm.out ?_) | refine ExG.upJ ?_ (fun _ => cD) (Sm.out ?_) | refine ExG.upI ?_ (fun _ => cD) (Ob.out ?_) (Sm.out ?_)); focus (exact ⟨_, (pmz _)⟩)) | (refine CallV.exM (cO3) (pmz _) (fun g => Sm.out ?_)) | refine YzWlU ?_ | (refine WP.cond rfl (fun hc => ?_) (fun hc => ?_) <;> (try simp only [ZC, reduceCtorEq, ZD] at hc) <;> (try exact absurd hc (by decide)) <;> (try (exfalso; omega))) | refine Rt.mk (And.intro (fun hg => Sm.out ?_) fun hg => Sm.out ?_) | (refine Nu.mk ?_; first | (fail_if_success have := nb1); intro nb1 | (fail_if_success have := nb2); intro nb2 | (fail_if_success have := nb3); intro nb3 | (fail_if_success have := nb4); intro nb4 | (fail_if_success have := nb5); intro nb5 | (fail_if_success have := nb6); intro nb6 | (fail_if_success have := nb7); intro nb7 | (fail_if_success have := nb8); intro nb8 | intro nbz) | (apply Yfr; refine Yf FR fun hFRb FR => ?_) | refine Two.mk ?_ ?_ | (apply Yxc; exact Yx) | refine Cs.mk fun hcs => Sm.out ?_ | go_step | omega | (simp only [maxLen_eq]; omega) | exact trivial
      refine WP.sub (s' := ⟨[(18, iv .i64 0), (17, .sl nL C), (0, iv .i64 (s : Int)), (11, pt b 0), (14, .lit (.string X)), (15, pt y 0), (20, iv .i64 (a5.de : Int))], (y, MB.cells [.sl nL C, iv .i64 ((R.length : Nat) : Int)] 2 37) :: dH b a5 l5⟩) (Sub.of_env [_, _] (by exact List.Perm.cons _ (List.perm_append_comm (l₁ := [_, _]))) (by simp [look])) ?_
      have e3 : bstr (ub (W.take (1 * s) ++ (clR R ++ W.drop ((1 + 7) * s)))) = bstr (ub (W.take (1 * s))) ++ bstr (ub (clR R)) ++ bstr (ub (W.drop ((1 + 7) * s))) := by
        rw [bstr_app, bstr_app, ub_append, ub_append, List.append_assoc]
      rw [e3] at cW5
      obtain ⟨B1, hB1⟩ : ∃ B, B = bstr (ub (W.take (1 * s))) := ⟨_, rfl⟩
      obtain ⟨B2, hB2⟩ : ∃ B, B = bstr (ub (clR R)) := ⟨_, rfl⟩
      obtain ⟨B3, hB3⟩ : ∃ B, B = bstr (ub (W.drop ((1 + 7) * s))) := ⟨_, rfl⟩
      have z1 : B1.size = s := by rw [hB1, bstr_size, ub_len, List.length_take, hW]; omega
      have z2 : B2.size = 7 * s := by rw [hB2, bstr_size, ub_len, clR_len]; omega
      have z3 : B3.size = s := by rw [hB3, bstr_size, ub_len, List.length_drop, hW]; omega
      have e1 : X.extract 0 s = B1 := by rw [hX, bstr_ext, hB1, List.drop_zero, Nat.one_mul, ub_map, ub_map, List.map_take]
      have e2 : X.extract (8 * s) (9 * s) = B3 := by
        rw [hX, bstr_ext, hB3, List.take_of_length_le (by rw [ub_len]; omega), ub_map, ub_map, List.map_drop]
      rw [← hB1, ← hB2, ← hB3] at cW5
      rw [← hB2] at cT
      clear e3 hB1 hB2 hB3
      have z4 : (B1 ++ B2).size = s + 7 * s := by rw [ByteArray.size_append, z1, z2]
      have z5 : B1.size + B2.size ≤ 9223372036854775807 := by omega
      have z6 : (B1 ++ B2).size + B3.size ≤ 9223372036854775807 := by omega
      have kE : ((B1 ++ B2 ++ B3).toList == (B1 ++ B2 ++ B3).toList) = true := beq_self_eq_true _
      have kD : ((a5.de : Int) == (a5.de : Int)) = true := beq_self_eq_true _
      first | (have FRx := FR; clear FRx) | have FR := fr0S
      have FA := Sm.mk (And.intro TFWlU (And.intro w8 (And.intro hXs (And.intro e1 (And.intro e2 (And.intro kE kD))))))
      repeat' first | (apply Sm.mk; refine Ys ?_) | refine WP.seq fun K hK => ?_ | (apply Ob.mk; exact Yo) | refine And.intro (Ob.out ?_) ?_ | refine Y1WlU ?_ | (first | refine CallV.fn (cS) (Sm.out ?_) | refine ExF.mk (cS) (Sm.out ?_) | refine ExG.mk (fun _ => cS) (Sm.out ?_) | refine ExG.mkJ (fun _ => cS) (Sm.out ?_) | refine ExG.mkI (Ob.out ?_) (fun _ => cS) (Sm.out ?_)) | refine CallV.updM (cW5) (pmz _) (Sm.out ?_) | ((first | refine ExF.up ?_ (cW5) (Sm.out ?_) | refine ExG.up ?_ (fun _ => cW5) (Sm.out ?_) | refine ExG.upJ ?_ (fun _ => cW5) (Sm.out ?_) | refine ExG.upI ?_ (fun _ => cW5) (Ob.out ?_) (Sm.out ?_)); focus (exact ⟨_, (pmz _)⟩)) | refine CallV.updM (cD5) (pmz _) (Sm.out ?_) | ((first | refine ExF.up ?_ (cD5) (Sm.out ?_) | refine ExG.up ?_ (fun _ => cD5) (Sm.out ?_) | refine ExG.upJ ?_ (fun _ => cD5) (Sm.out ?_) | refine ExG.upI ?_ (fun _ => cD5) (Ob.out ?_) (Sm.out ?_)); focus (exact ⟨_, (pmz _)⟩)) | refine CallV.updM (cT) (pmz _) (Sm.out ?_) | ((first | refine ExF.up ?_ (cT) (Sm.out ?_) | refine ExG.up ?_ (fun _ => cT) (Sm.out ?_) | refine ExG.upJ ?_ (fun _ => cT) (Sm.out ?_) | refine ExG.upI ?_ (fun _ => cT) (Ob.out ?_) (Sm.out ?_)); focus (exact ⟨_, (pmz _)⟩)) | refine YzWlU ?_ | (refine WP.cond rfl (fun hc => ?_) (fun hc => ?_) <;> (try simp only [ZC, reduceCtorEq, ZD] at hc) <;> (try exact absurd hc (by decide)) <;> (try (exfalso; omega))) | refine Rt.mk (And.intro (fun hg => Sm.out ?_) fun hg => Sm.out ?_) | (refine Nu.mk ?_; first | (fail_if_success have := nb1); intro nb1 | (fail_if_success have := nb2); intro nb2 | (fail_if_success have := nb3); intro nb3 | (fail_if_success have := nb4); intro nb4 | (fail_if_success have := nb5); intro nb5 | (fail_if_success have := nb6); intro nb6 | (fail_if_success have := nb7); intro nb7 | (fail_if_success have := nb8); intro nb8 | intro nbz) | (apply Yfr; refine Yf FR fun hFRb FR => ?_) | refine Two.mk ?_ ?_ | (apply Yxc; exact Yx) | refine Cs.mk fun hcs => Sm.out ?_ | go_step | omega | (simp only [maxLen_eq]; omega) | exact trivial
      (refine Yg ?_; try exact trivial)
theorem opens_law {Z F kp tn : Int} (bs : List UInt8) (hF : -9223372036854775808 ≤ F ∧ F ≤ 9223372036854775807) : ACt Tryd.prog 5 [iv .i64 Z, .slz .u8 (ub bs), iv .i64 F, iv .i64 kp, iv .i64 tn] [] (fun r _ => r = bv true) :=
  (opens_ct Z F kp tn bs (by omega)).mono fun r F' h => h.1
end Go.Proofs.YtpjnhcjfkgjbnaaDoor
