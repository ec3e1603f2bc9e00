/-
  The walks and the laws that the statement leans on, part 28.
-/
import Derived.Test.YtaffbklkjjmmdaaDoorC9
import Derived.Test.YtaffbklkjjmmdaaDoorC21
import Derived.Test.YtaffbklkjjmmdaaDoorC27
namespace Go.Proofs.YtaffbklkjjmmdaaDoor
open Go
set_option linter.unusedVariables false
set_option linter.unusedSimpArgs false
set_option linter.defProp false
def TFHuI :=
  And.intro (And.intro (And.intro (And.intro (And.intro tyc0 tyc2) (And.intro zmb2 (And.intro tyc3 zmb3))) (And.intro (And.intro tyc4 (And.intro zmb4 tyc9)) (And.intro zmb9 (And.intro tyc25 foff25_0)))) (And.intro (And.intro (And.intro fpart25_0 foff25_1) (And.intro fpart25_1 (And.intro foff25_2 fpart25_2))) (And.intro (And.intro foff25_3 (And.intro fpart25_3 foff25_4)) (And.intro fpart25_4 (And.intro fe25 zmb25))))) (And.intro (And.intro (And.intro (And.intro bldT25 tyc32) (And.intro foff32_0 (And.intro fpart32_0 foff32_1))) (And.intro (And.intro fpart32_1 (And.intro foff32_2 fpart32_2)) (And.intro foff32_3 (And.intro fpart32_3 foff32_4)))) (And.intro (And.intro (And.intro fpart32_4 fe32) (And.intro zmb32 (And.intro bldT32 Tryd.underlying0))) (And.intro (And.intro Tryd.underlying2 (And.intro Tryd.underlying3 Tryd.underlying4)) (And.intro Tryd.underlying9 (And.intro Tryd.underlying25 Tryd.underlying32)))))
theorem Y1HuI {G R : Prop} (r : R) (h : R → G := by intro r; first | (apply WP.region; exact rvc_sound _ _ (Sm.out r)) | exact WP.drawK rfl mixed (by decide +kernel) (Sm.out r) | (apply WP.block; exact r) | (apply WP.skip; exact Yq r) | (apply WP.exit; exact Yq r) | (apply WP.ret; exact Sm.out r) | exact WP.cond rfl (fun _ => r) (fun hg => absurd hg (by decide)) | exact WP.cond rfl (fun hg => absurd hg (by decide)) (fun _ => r) | exact Rt.mk (And.intro (fun _ => Sm.out r) fun hg => absurd hg (by decide)) | exact Rt.mk (And.intro (fun hg => absurd hg (by decide)) fun _ => Sm.out r)) : G := h r
theorem YzHuI {G R : Prop} (r : R) (h : R → G := by intro r; first | (apply ExG.no; exact Sm.out r) | (apply Or.inl; apply ExG.no; exact Sm.out r) | exact Or.inl (And.intro (fun hg => absurd hg (by decide)) (ExG.no (Sm.out r)))) : G := h r
theorem match_s (s t : ByteArray) (h : s.size ≤ 5000) (h2 : t.size ≤ 5000) (n0 n1 : Nat) : ACt Tryd.prog 64 [.lit (.string s), .lit (.string t)] [(0, .ro .u8 fsZ 256 n0), (1, .ro .u8 acZ 32 n1)] (fun r F' => r = bv (mtB (bs s) (bs t)) ∧ F' = [(0, .ro .u8 fsZ 256 n0), (1, .ro .u8 acZ 32 n1)]) := by
  obtain ⟨e, hb⟩ := s_bstr s
  obtain ⟨e', hb'⟩ := s_bstr t
  have hl : (bs s).length = s.size := by conv => rhs; rw [e, bstr_size]
  have hl' : (bs t).length = t.size := by conv => rhs; rw [e', bstr_size]
  have c := match_ct (bs s) (bs t) hb hb' (by omega) (by omega) n0 n1
  unfold stz at c
  rw [← e, ← e'] at c
  exact c
theorem rmatch_s (s t : ByteArray) (h : s.size ≤ 5000) (h2 : t.size ≤ 5000) : ACt Tryd.prog 37 [.lit (.string s), .lit (.string t)] [] (Fn (bv (mtB (bs s) (bs t)))) := by
  obtain ⟨e, hb⟩ := s_bstr s
  obtain ⟨e', hb'⟩ := s_bstr t
  have hl : (bs s).length = s.size := by conv => rhs; rw [e, bstr_size]
  have hl' : (bs t).length = t.size := by conv => rhs; rw [e', bstr_size]
  have c := rmatch_ct (bs s) (bs t) hb hb' (by omega) (by omega)
  unfold stz at c
  rw [← e, ← e'] at c
  exact c
def sevB (s : Sl) (k : Ky) : Bool := if s.w = 1 then k.p else if s.w = 2 then !k.p else true
theorem sev_ct (s : Sl) (k : Ky) : ACt Tryd.prog 63 [siv s, kv k] [] (Fn (bv (sevB s k))) := by
  obtain ⟨sn, sg, w, f, t⟩ := s
  obtain ⟨kg, kr, kp, ke, ks⟩ := k
  unfold sevB
  simp only
  by_cases h1 : w = 1
  · rw [if_pos h1]
    have k1 : (w == 1) = true := by rw [h1]; rfl
    refine ACt.intro Tryd.func63 rfl (by kernel_rfl) (by simp [Tryd.ntmps63]) (fun cx => ?_)
    simp only [argE, Tryd.ntmps63, Tryd.results63]
    first | (have FRx := FR; clear FRx) | have FR := fr0S
    have FA := Sm.mk (And.intro TFHuI k1)
    repeat' first | (apply Sm.mk; refine Ys ?_) | refine WP.seq fun K hK => ?_ | (apply Ob.mk; exact Yo) | refine And.intro (Ob.out ?_) ?_ | refine Y1HuI ?_ | refine YzHuI ?_ | (refine WP.cond rfl (fun hc => ?_) (fun hc => ?_) <;> (try simp only [ZC, reduceCtorEq, ZD] at hc) <;> (try exact absurd hc (by decide)) <;> (try (exfalso; omega))) | refine Rt.mk (And.intro (fun hg => Sm.out ?_) fun hg => Sm.out ?_) | (refine Nu.mk ?_; first | (fail_if_success have := nb1); intro nb1 | (fail_if_success have := nb2); intro nb2 | (fail_if_success have := nb3); intro nb3 | (fail_if_success have := nb4); intro nb4 | (fail_if_success have := nb5); intro nb5 | (fail_if_success have := nb6); intro nb6 | intro nbz) | (apply Yfr; refine Yf FR fun hFRb FR => ?_) | refine Two.mk ?_ ?_ | (apply Yxc; exact Yx) | refine Cs.mk fun hcs => Sm.out ?_ | go_step | omega | (simp only [maxLen_eq]; omega) | exact trivial
    (refine Yg ?_; try exact trivial)
  · rw [if_neg h1]
    have k1 : (w == 1) = false := beq_eq_false_iff_ne.2 h1
    by_cases h2 : w = 2
    · rw [if_pos h2]
      have k2 : (w == 2) = true := by rw [h2]; rfl
      refine ACt.intro Tryd.func63 rfl (by kernel_rfl) (by simp [Tryd.ntmps63]) (fun cx => ?_)
      simp only [argE, Tryd.ntmps63, Tryd.results63]
      first | (have FRx := FR; clear FRx) | have FR := fr0S
      have FA := Sm.mk (And.intro TFHuI (And.intro k1 k2))
      repeat' first | (apply Sm.mk; refine Ys ?_) | refine WP.seq fun K hK => ?_ | (apply Ob.mk; exact Yo) | refine And.intro (Ob.out ?_) ?_ | refine Y1HuI ?_ | refine YzHuI ?_ | (refine WP.cond rfl (fun hc => ?_) (fun hc => ?_) <;> (try simp only [ZC, reduceCtorEq, ZD] at hc) <;> (try exact absurd hc (by decide)) <;> (try (exfalso; omega))) | refine Rt.mk (And.intro (fun hg => Sm.out ?_) fun hg => Sm.out ?_) | (refine Nu.mk ?_; first | (fail_if_success have := nb1); intro nb1 | (fail_if_success have := nb2); intro nb2 | (fail_if_success have := nb3); intro nb3 | (fail_if_success have := nb4); intro nb4 | (fail_if_success have := nb5); intro nb5 | (fail_if_success have := nb6); intro nb6 | intro nbz) | (apply Yfr; refine Yf FR fun hFRb FR => ?_) | refine Two.mk ?_ ?_ | (apply Yxc; exact Yx) | refine Cs.mk fun hcs => Sm.out ?_ | go_step | omega | (simp only [maxLen_eq]; omega) | exact trivial
      (refine Yg ?_; try exact trivial)
    · rw [if_neg h2]
      have k2 : (w == 2) = false := beq_eq_false_iff_ne.2 h2
      refine ACt.intro Tryd.func63 rfl (by kernel_rfl) (by simp [Tryd.ntmps63]) (fun cx => ?_)
      simp only [argE, Tryd.ntmps63, Tryd.results63]
      first | (have FRx := FR; clear FRx) | have FR := fr0S
      have FA := Sm.mk (And.intro TFHuI (And.intro k1 k2))
      repeat' first | (apply Sm.mk; refine Ys ?_) | refine WP.seq fun K hK => ?_ | (apply Ob.mk; exact Yo) | refine And.intro (Ob.out ?_) ?_ | refine Y1HuI ?_ | refine YzHuI ?_ | (refine WP.cond rfl (fun hc => ?_) (fun hc => ?_) <;> (try simp only [ZC, reduceCtorEq, ZD] at hc) <;> (try exact absurd hc (by decide)) <;> (try (exfalso; omega))) | refine Rt.mk (And.intro (fun hg => Sm.out ?_) fun hg => Sm.out ?_) | (refine Nu.mk ?_; first | (fail_if_success have := nb1); intro nb1 | (fail_if_success have := nb2); intro nb2 | (fail_if_success have := nb3); intro nb3 | (fail_if_success have := nb4); intro nb4 | (fail_if_success have := nb5); intro nb5 | (fail_if_success have := nb6); intro nb6 | intro nbz) | (apply Yfr; refine Yf FR fun hFRb FR => ?_) | refine Two.mk ?_ ?_ | (apply Yxc; exact Yx) | refine Cs.mk fun hcs => Sm.out ?_ | go_step | omega | (simp only [maxLen_eq]; omega) | exact trivial
      (refine Yg ?_; try exact trivial)
noncomputable def abB (s : Sl) (k : Ky) : Bool := srB s && sevB s k && mtB (bs s.gl) (bs k.g)
theorem about_ct (s : Sl) (k : Ky) (hz : Sz s) (hk : k.g.size ≤ 5000) (n0 n1 : Nat) : ACt Tryd.prog 36 [siv s, kv k] [(0, .ro .u8 fsZ 256 n0), (1, .ro .u8 acZ 32 n1)] (fun r F' => r = bv (abB s k) ∧ F' = [(0, .ro .u8 fsZ 256 n0), (1, .ro .u8 acZ 32 n1)]) := by
  have c1 := sright_ct s hz n0 n1
  have c2 := sev_ct s k
  have c3 := match_s s.gl k.g (by have := hz.g; omega) hk n0 n1
  unfold abB
  obtain ⟨a, ha⟩ : ∃ a, srB s = a := ⟨_, rfl⟩
  obtain ⟨b, hb⟩ : ∃ b, sevB s k = b := ⟨_, rfl⟩
  obtain ⟨c, hc0⟩ : ∃ c, mtB (bs s.gl) (bs k.g) = c := ⟨_, rfl⟩
  rw [ha] at c1 ⊢
  rw [hb] at c2 ⊢
  rw [hc0] at c3 ⊢
  clear ha hb hc0 hz
  obtain ⟨sn, sg, w, f, t⟩ := s
  obtain ⟨kg, kr, kp, ke, ks⟩ := k
  simp only at c1 c2 c3 ⊢
  obtain ⟨FZ, hFZ⟩ : ∃ FZ, FZ = fsZ := ⟨_, rfl⟩
  obtain ⟨AZ, hAZ⟩ : ∃ AZ, AZ = acZ := ⟨_, rfl⟩
  rw [← hFZ, ← hAZ] at c1 c3 ⊢
  refine ACt.intro Tryd.func36 rfl (by kernel_rfl) (by simp [Tryd.ntmps36]) (fun cx => ?_)
  simp only [argE, Tryd.ntmps36, Tryd.results36]
  first | (have FRx := FR; clear FRx) | have FR := fr0S
  have FA := Sm.mk (TFHuI)
  repeat' first | (apply Sm.mk; refine Ys ?_) | refine WP.seq fun K hK => ?_ | (apply Ob.mk; exact Yo) | refine And.intro (Ob.out ?_) ?_ | refine Y1HuI ?_ | refine Yl2 (c := c1) (r := ?_) | refine Yc (c := c2) (r := ?_) | refine Yl2 (c := c3) (r := ?_) | refine YzHuI ?_ | (refine WP.cond rfl (fun hc => ?_) (fun hc => ?_) <;> (try simp only [ZC, reduceCtorEq, ZD] at hc) <;> (try exact absurd hc (by decide)) <;> (try (exfalso; omega))) | refine Rt.mk (And.intro (fun hg => Sm.out ?_) fun hg => Sm.out ?_) | (refine Nu.mk ?_; first | (fail_if_success have := nb1); intro nb1 | (fail_if_success have := nb2); intro nb2 | (fail_if_success have := nb3); intro nb3 | (fail_if_success have := nb4); intro nb4 | (fail_if_success have := nb5); intro nb5 | (fail_if_success have := nb6); intro nb6 | intro nbz) | (apply Yfr; refine Yf FR fun hFRb FR => ?_) | refine Two.mk ?_ ?_ | (apply Yxc; exact Yx) | refine Cs.mk fun hcs => Sm.out ?_ | go_step | omega | (simp only [maxLen_eq]; omega) | exact trivial
  (refine OutQ.drop _ _ (perm2 (by simp only [hget, hdel, ↓reduceIte, if_true, if_false, FR.out]; first | done | rfl) (by simp only [hget, hdel, ↓reduceIte, if_true, if_false, FR.out]; first | done | rfl)) (by simp only [resv, ZK, look, loadv, loadn, loadnm, load1, load1m, hget, ↓reduceIte, Nat.reduceEqDiff, Nat.reduceAdd, Nat.reduceMul, Nat.reduceLeDiff, Nat.reduceLT, reduceCtorEq, TFHuI, FR.out]) ⟨(by simp only [resv, resA, ZK, look, loadv, loadn, loadnm, load1, load1m, hget, ↓reduceIte, Nat.reduceEqDiff, Nat.reduceAdd, Nat.reduceMul, Nat.reduceLeDiff, Nat.reduceLT, reduceCtorEq, TFHuI, FR.out]; first | done | rfl), rfl⟩)
noncomputable def cvB (k : Ky) (now : Int) (s : Sl) : Bool := decide (s.f ≤ now) && decide (now < s.t) && abB s k
theorem covers_ct (s : Sl) (k : Ky) (now : Int) (hz : Sz s) (hk : k.g.size ≤ 5000) (n0 n1 : Nat) : ACt Tryd.prog 11 [siv s, kv k, iv .i64 now] [(0, .ro .u8 fsZ 256 n0), (1, .ro .u8 acZ 32 n1)] (fun r F' => r = bv (cvB k now s) ∧ F' = [(0, .ro .u8 fsZ 256 n0), (1, .ro .u8 acZ 32 n1)]) := by
  have c1 := about_ct s k hz hk n0 n1
  unfold cvB
  obtain ⟨a, ha⟩ : ∃ a, abB s k = a := ⟨_, rfl⟩
  rw [ha] at c1 ⊢
  clear ha hz
  obtain ⟨sn, sg, w, f, t⟩ := s
  obtain ⟨kg, kr, kp, ke, ks⟩ := k
  simp only at c1 ⊢
  obtain ⟨x, hx⟩ : ∃ x, decide (f ≤ now) = x := ⟨_, rfl⟩
  have hx2 : decide (now ≥ f) = x := hx
  obtain ⟨y, hy⟩ : ∃ y, decide (now < t) = y := ⟨_, rfl⟩
  rw [hx, hy]
  obtain ⟨FZ, hFZ⟩ : ∃ FZ, FZ = fsZ := ⟨_, rfl⟩
  obtain ⟨AZ, hAZ⟩ : ∃ AZ, AZ = acZ := ⟨_, rfl⟩
  rw [← hFZ, ← hAZ] at c1 ⊢
  refine ACt.intro Tryd.func11 rfl (by kernel_rfl) (by simp [Tryd.ntmps11]) (fun cx => ?_)
  simp only [argE, Tryd.ntmps11, Tryd.results11]
  first | (have FRx := FR; clear FRx) | have FR := fr0S
  have FA := Sm.mk (And.intro TFHuI (And.intro hx2 hy))
  repeat' first | (apply Sm.mk; refine Ys ?_) | refine WP.seq fun K hK => ?_ | (apply Ob.mk; exact Yo) | refine And.intro (Ob.out ?_) ?_ | refine Y1HuI ?_ | refine Yl2 (c := c1) (r := ?_) | refine YzHuI ?_ | (refine WP.cond rfl (fun hc => ?_) (fun hc => ?_) <;> (try simp only [ZC, reduceCtorEq, ZD] at hc) <;> (try exact absurd hc (by decide)) <;> (try (exfalso; omega))) | refine Rt.mk (And.intro (fun hg => Sm.out ?_) fun hg => Sm.out ?_) | (refine Nu.mk ?_; first | (fail_if_success have := nb1); intro nb1 | (fail_if_success have := nb2); intro nb2 | (fail_if_success have := nb3); intro nb3 | (fail_if_success have := nb4); intro nb4 | (fail_if_success have := nb5); intro nb5 | (fail_if_success have := nb6); intro nb6 | intro nbz) | (apply Yfr; refine Yf FR fun hFRb FR => ?_) | refine Two.mk ?_ ?_ | (apply Yxc; exact Yx) | refine Cs.mk fun hcs => Sm.out ?_ | go_step | omega | (simp only [maxLen_eq]; omega) | exact trivial
  (refine OutQ.drop _ _ (perm2 (by simp only [hget, hdel, ↓reduceIte, if_true, if_false, FR.out]; first | done | rfl) (by simp only [hget, hdel, ↓reduceIte, if_true, if_false, FR.out]; first | done | rfl)) (by simp only [resv, ZK, look, loadv, loadn, loadnm, load1, load1m, hget, ↓reduceIte, Nat.reduceEqDiff, Nat.reduceAdd, Nat.reduceMul, Nat.reduceLeDiff, Nat.reduceLT, reduceCtorEq, TFHuI, FR.out]) ⟨(by simp only [resv, resA, ZK, look, loadv, loadn, loadnm, load1, load1m, hget, ↓reduceIte, Nat.reduceEqDiff, Nat.reduceAdd, Nat.reduceMul, Nat.reduceLeDiff, Nat.reduceLT, reduceCtorEq, TFHuI, FR.out]; first | done | rfl), rfl⟩)
theorem rcovers_ct (s : Sl) (k : Ky) (now : Int) (hz : Sz s) (hk : k.g.size ≤ 5000) : ACt Tryd.prog 12 [siv s, kv k, iv .i64 now] [] (Fn (bv (cvB k now s))) := by
  have c1 := rsright_ct s hz
  have c3 := rmatch_s s.gl k.g (by have := hz.g; omega) hk
  have hS : sevB s k = !((s.w == 1 && !k.p) || (s.w == 2 && k.p)) := by
    unfold sevB
    by_cases h1 : s.w = 1
    · rw [if_pos h1, h1]; cases k.p <;> rfl
    · rw [if_neg h1]
      have k1 : (s.w == 1) = false := beq_eq_false_iff_ne.2 h1
      by_cases h2 : s.w = 2
      · rw [if_pos h2, h2]; cases k.p <;> rfl
      · rw [if_neg h2, k1, beq_eq_false_iff_ne.2 h2]; rfl
  unfold cvB abB
  rw [hS]
  obtain ⟨a, ha⟩ : ∃ a, srB s = a := ⟨_, rfl⟩
  obtain ⟨c, hc0⟩ : ∃ c, mtB (bs s.gl) (bs k.g) = c := ⟨_, rfl⟩
  rw [ha] at c1 ⊢
  rw [hc0] at c3 ⊢
  clear ha hc0 hz hS
  obtain ⟨sn, sg, w, f, t⟩ := s
  obtain ⟨kg, kr, kp, ke, ks⟩ := k
  simp only at c1 c3 ⊢
  obtain ⟨x, hx⟩ : ∃ x, decide (f ≤ now) = x := ⟨_, rfl⟩
  have hx2 : decide (now < f) = !x := by rw [← hx, Bool.eq_iff_iff]; simp
  obtain ⟨y, hy⟩ : ∃ y, decide (now < t) = y := ⟨_, rfl⟩
  have hy2 : decide (now ≥ t) = !y := by rw [← hy, Bool.eq_iff_iff]; simp
  obtain ⟨u, hu⟩ : ∃ u, (w == 1) = u := ⟨_, rfl⟩
  obtain ⟨v, hv⟩ : ∃ v, (w == 2) = v := ⟨_, rfl⟩
  rw [hx, hy, hu, hv]
  clear hx hy
  obtain ⟨R, hR⟩ : ∃ R, R = (x && y && (a && !(u && !kp || v && kp) && c)) := ⟨_, rfl⟩
  rw [← hR]
  obtain ⟨q, hq⟩ : ∃ q, (!a || !x || !y || u && !kp || v && kp) = q := ⟨_, rfl⟩
  have hA : q = true → R = false := fun h => by
    rw [hR]; subst hq; revert h
    cases x <;> cases y <;> cases a <;> cases u <;> cases kp <;> cases v <;> cases c <;> decide
  have hB : q = false → R = c := fun h => by
    rw [hR]; subst hq; revert h
    cases x <;> cases y <;> cases a <;> cases u <;> cases kp <;> cases v <;> cases c <;> decide
  clear hR
  refine ACt.intro Tryd.func12 rfl (by kernel_rfl) (by simp [Tryd.ntmps12]) (fun cx => ?_)
  simp only [argE, Tryd.ntmps12, Tryd.results12]
  cases q with
  | true =>
    have hA := hA rfl
    first | (have FRx := FR; clear FRx) | have FR := fr0S
    have FA := Sm.mk (And.intro TFHuI (And.intro hx2 (And.intro hy2 (And.intro hu (And.intro hv hq)))))
    repeat' first | (apply Sm.mk; refine Ys ?_) | refine WP.seq fun K hK => ?_ | (apply Ob.mk; exact Yo) | refine And.intro (Ob.out ?_) ?_ | refine Y1HuI ?_ | refine Yc (c := c1) (r := ?_) | refine Yc (c := c3) (r := ?_) | refine YzHuI ?_ | (refine WP.cond rfl (fun hc => ?_) (fun hc => ?_) <;> (try simp only [ZC, reduceCtorEq, ZD] at hc) <;> (try exact absurd hc (by decide)) <;> (try (exfalso; omega))) | refine Rt.mk (And.intro (fun hg => Sm.out ?_) fun hg => Sm.out ?_) | (refine Nu.mk ?_; first | (fail_if_success have := nb1); intro nb1 | (fail_if_success have := nb2); intro nb2 | (fail_if_success have := nb3); intro nb3 | (fail_if_success have := nb4); intro nb4 | (fail_if_success have := nb5); intro nb5 | (fail_if_success have := nb6); intro nb6 | intro nbz) | (apply Yfr; refine Yf FR fun hFRb FR => ?_) | refine Two.mk ?_ ?_ | (apply Yxc; exact Yx) | refine Cs.mk fun hcs => Sm.out ?_ | go_step | omega | (simp only [maxLen_eq]; omega) | exact trivial
    (have FA := Sm.mk (And.intro hA FA.out); refine Yg ?_; try exact trivial)
  | false =>
    have hB := hB rfl
    first | (have FRx := FR; clear FRx) | have FR := fr0S
    have FA := Sm.mk (And.intro TFHuI (And.intro hx2 (And.intro hy2 (And.intro hu (And.intro hv hq)))))
    repeat' first | (apply Sm.mk; refine Ys ?_) | refine WP.seq fun K hK => ?_ | (apply Ob.mk; exact Yo) | refine And.intro (Ob.out ?_) ?_ | refine Y1HuI ?_ | refine Yc (c := c1) (r := ?_) | refine Yc (c := c3) (r := ?_) | refine YzHuI ?_ | (refine WP.cond rfl (fun hc => ?_) (fun hc => ?_) <;> (try simp only [ZC, reduceCtorEq, ZD] at hc) <;> (try exact absurd hc (by decide)) <;> (try (exfalso; omega))) | refine Rt.mk (And.intro (fun hg => Sm.out ?_) fun hg => Sm.out ?_) | (refine Nu.mk ?_; first | (fail_if_success have := nb1); intro nb1 | (fail_if_success have := nb2); intro nb2 | (fail_if_success have := nb3); intro nb3 | (fail_if_success have := nb4); intro nb4 | (fail_if_success have := nb5); intro nb5 | (fail_if_success have := nb6); intro nb6 | intro nbz) | (apply Yfr; refine Yf FR fun hFRb FR => ?_) | refine Two.mk ?_ ?_ | (apply Yxc; exact Yx) | refine Cs.mk fun hcs => Sm.out ?_ | go_step | omega | (simp only [maxLen_eq]; omega) | exact trivial
    (have FA := Sm.mk (And.intro hB FA.out); refine Yg ?_; try exact trivial)
end Go.Proofs.YtaffbklkjjmmdaaDoor
