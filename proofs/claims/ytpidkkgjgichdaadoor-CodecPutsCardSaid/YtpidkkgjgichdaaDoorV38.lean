/-
  The walks and the laws that the statement leans on, part 38.
-/
import Derived.Test.YtpidkkgjgichdaaDoorV9
import Derived.Test.YtpidkkgjgichdaaDoorV37
namespace Go.Proofs.YtpidkkgjgichdaaDoor
open Go Wi
set_option linter.unusedVariables false
set_option linter.unusedSimpArgs false
set_option linter.defProp false
def TFCoX :=
  And.intro (And.intro (And.intro (And.intro (And.intro (And.intro tyc0 tyc3) (And.intro zmb3 tyc4)) (And.intro (And.intro zmb4 tyc5) (And.intro zmb5 (And.intro tyc9 zmb9)))) (And.intro (And.intro (And.intro tyc26 foff26_0) (And.intro fpart26_0 foff26_1)) (And.intro (And.intro fpart26_1 foff26_2) (And.intro fpart26_2 (And.intro foff26_3 fpart26_3))))) (And.intro (And.intro (And.intro (And.intro foff26_4 fpart26_4) (And.intro fe26 zmb26)) (And.intro (And.intro bldT26 tyc28) (And.intro foff28_0 (And.intro fpart28_0 foff28_1)))) (And.intro (And.intro (And.intro fpart28_1 foff28_2) (And.intro fpart28_2 foff28_3)) (And.intro (And.intro fpart28_3 foff28_4) (And.intro fpart28_4 (And.intro fe28 zmb28)))))) (And.intro (And.intro (And.intro (And.intro (And.intro bldT28 tyc30) (And.intro foff30_0 fpart30_0)) (And.intro (And.intro foff30_1 fpart30_1) (And.intro foff30_2 (And.intro fpart30_2 foff30_3)))) (And.intro (And.intro (And.intro fpart30_3 foff30_4) (And.intro fpart30_4 foff30_5)) (And.intro (And.intro fpart30_5 zmb30) (And.intro bldT30 (And.intro tyc33 elt33))))) (And.intro (And.intro (And.intro (And.intro mkz33 apT33) (And.intro elk33 zmb33)) (And.intro (And.intro tyc36 zmb36) (And.intro tyc37 (And.intro Tryd.underlying0 Tryd.underlying3)))) (And.intro (And.intro (And.intro Tryd.underlying4 Tryd.underlying5) (And.intro Tryd.underlying9 Tryd.underlying26)) (And.intro (And.intro Tryd.underlying28 Tryd.underlying30) (And.intro Tryd.underlying33 (And.intro Tryd.underlying36 Tryd.underlying37))))))
theorem Y1CoX {G R : Prop} (r : R) (h : R → G := by intro r; first | (apply WP.region; exact rvc_sound _ _ (Sm.out r)) | exact WP.drawK rfl mixed (by decide +kernel) (Sm.out r) | (apply WP.block; exact r) | (apply WP.skip; exact Yq r) | (apply WP.exit; exact Yq r) | (apply WP.ret; exact Sm.out r) | exact WP.cond rfl (fun _ => r) (fun hg => absurd hg (by decide)) | exact WP.cond rfl (fun hg => absurd hg (by decide)) (fun _ => r) | exact Rt.mk (And.intro (fun _ => Sm.out r) fun hg => absurd hg (by decide)) | exact Rt.mk (And.intro (fun hg => absurd hg (by decide)) fun _ => Sm.out r)) : G := h r
theorem YzCoX {G R : Prop} (r : R) (h : R → G := by intro r; first | (apply ExG.no; exact Sm.out r) | (apply Or.inl; apply ExG.no; exact Sm.out r) | exact Or.inl (And.intro (fun hg => absurd hg (by decide)) (ExG.no (Sm.out r)))) : G := h r
theorem oq_refl2 (o : Oq) : oqB o o = true := (oqB_iff o o).2 rfl
theorem rgoes_big (o : Oq) (h : 40000 < o.tx.size) : ACt Tryd.prog 8 [ov o] [] (Fn (bv false)) := by
  have c1 := rright_ct o
  obtain ⟨r, hr⟩ : ∃ r, rtB o = r := ⟨_, rfl⟩
  rw [hr] at c1
  clear hr
  obtain ⟨kd, tx, a, g, t, ⟨kg, kr, kp, ke, ks⟩, ⟨nm, gl, w, f, t2⟩⟩ := o
  simp only at c1 h ⊢
  have h0 : decide ((tx.size : Int) ≤ 40000) = false := decide_eq_false (by omega)
  obtain ⟨b4, h4⟩ : ∃ b, (kd != 4) = b := ⟨_, rfl⟩
  obtain ⟨b5, h5⟩ : ∃ b, (kd != 5) = b := ⟨_, rfl⟩
  cases r <;> cases b4 <;> cases b5
  all_goals
    refine ACt.intro Tryd.func8 rfl (by kernel_rfl) (by simp [Tryd.ntmps8]) (fun cx => ?_)
    simp only [argE, Tryd.ntmps8, Tryd.results8]
  all_goals (
      first | (have FRx := FR; clear FRx) | have FR := fr0S
      have FA := Sm.mk (And.intro TFCoX (And.intro h0 (And.intro h4 h5)))
      repeat' first | (apply Sm.mk; refine Ys ?_) | refine WP.seq fun K hK => ?_ | (apply Ob.mk; exact Yo) | refine And.intro (Ob.out ?_) ?_ | refine Y1CoX ?_ | refine Yc (c := c1) (r := ?_) | refine YzCoX ?_ | (refine WP.cond rfl (fun hc => ?_) (fun hc => ?_) <;> (try simp only [ZC, reduceCtorEq, ZD] at hc) <;> (try exact absurd hc (by decide)) <;> (try (exfalso; omega))) | refine Rt.mk (And.intro (fun hg => Sm.out ?_) fun hg => Sm.out ?_) | (refine Nu.mk ?_; first | (fail_if_success have := nb1); intro nb1 | (fail_if_success have := nb2); intro nb2 | (fail_if_success have := nb3); intro nb3 | (fail_if_success have := nb4); intro nb4 | (fail_if_success have := nb5); intro nb5 | (fail_if_success have := nb6); intro nb6 | intro nbz) | (apply Yfr; refine Yf FR fun hFRb FR => ?_) | refine Two.mk ?_ ?_ | (apply Yxc; exact Yx) | refine Cs.mk fun hcs => Sm.out ?_ | go_step | omega | (simp only [maxLen_eq]; omega) | exact trivial)
  all_goals (refine Yg ?_; try exact trivial)
set_option maxRecDepth 8000 in
set_option maxHeartbeats 4000000 in
theorem puts_bad (o : Oq) (n0 n1 : Nat) (FZ AZ : List Int) (hv R : Bool) (hl : hv = true → 40000 < o.tx.size)
    (cA : ACt Tryd.prog 6 [] [(0, .zs .u8 FZ 256 n0), (1, .zs .u8 AZ 32 n1)] (fun x F => x = bv true ∧ F = [(0, .zs .u8 FZ 256 n0), (1, .zs .u8 AZ 32 n1)]))
    (h1 : ACt Tryd.prog 7 [ov o] [] (Fn (bv hv))) (g1 : ACt Tryd.prog 8 [ov o] [] (Fn (bv false))) (r1 : ACt Tryd.prog 10 [ov o] [] (Fn (bv R))) (r2 : ACt Tryd.prog 11 [ov o] [] (Fn (bv R)))
    (cG : ACt Tryd.prog 12 [ov o] [(0, .zs .u8 FZ 256 n0), (1, .zs .u8 AZ 32 n1)] (fun x F => x = bv false ∧ F = [(0, .zs .u8 FZ 256 n0), (1, .zs .u8 AZ 32 n1)]))
    (cP : ∀ b, ACt Tryd.prog 9 [ms b 0 1 1, ov o] [(b, .zs .u8 [9] 1 5), (0, .zs .u8 FZ 256 n0), (1, .zs .u8 AZ 32 n1)] (fun r F' => ∃ x c, (1 ≤ c ∧ c ≤ 9223372036854775807) ∧ r = ms x 0 1 c ∧ F' = (x, .zs .u8 [9] c 5) :: [(0, .zs .u8 FZ 256 n0), (1, .zs .u8 AZ 32 n1)])) :
    ACt Tryd.prog 4 [ov o] [(0, .zs .u8 FZ 256 n0), (1, .zs .u8 AZ 32 n1)] (fun x F => x = bv true ∧ F = [(0, .zs .u8 FZ 256 n0), (1, .zs .u8 AZ 32 n1)]) := by
  obtain ⟨kd, tx, a, g, t, ⟨kg, kr, kp, ke, ks⟩, ⟨nm, gl, w, f, t2⟩⟩ := o
  simp only at hl
  have hR : (R != R) = false := by cases R <;> rfl
  have hF : (false != false) = false := rfl
  have hs : ((bstr [9]).toList == (⟨#[9]⟩ : ByteArray).toList) = true := by decide +kernel
  cases hv
  · refine ACt.intro Tryd.func4 rfl (by kernel_rfl) (by simp [Tryd.ntmps4]) (fun cx => ?_)
    simp only [argE, Tryd.ntmps4, Tryd.results4]
    have FR : Sm (¬ ((1 : Nat) = 0)) := Sm.mk Nat.one_ne_zero
    (refine WP.nd fun hnd => ?_; simp only [ndF, fresh_cons, fresh_nil, and_true, ne_eq] at hnd; replace FR := Sm.mk (And.intro hnd FR.out); clear hnd)
    first | (have FRx := FR; clear FRx) | have FR := fr0S
    have FA := Sm.mk (And.intro TFCoX (And.intro hR (And.intro hF hs)))
    repeat' first | (apply Sm.mk; refine Ys ?_) | refine WP.seq fun K hK => ?_ | (apply Ob.mk; exact Yo) | refine And.intro (Ob.out ?_) ?_ | refine Y1CoX ?_ | (refine CallV.updM (cA) (perm2 (by simp only [hget, hdel, ↓reduceIte, FR.out, hR, hF, hs]; first | done | rfl) (by simp only [hget, hdel, ↓reduceIte, FR.out, hR, hF, hs]; first | done | rfl)) (Sm.out ?_)) | ((first | refine ExF.up ?_ (cA) (Sm.out ?_) | refine ExG.up ?_ (fun _ => cA) (Sm.out ?_) | refine ExG.upJ ?_ (fun _ => cA) (Sm.out ?_) | refine ExG.upI ?_ (fun _ => cA) (Ob.out ?_) (Sm.out ?_)); focus (exact ⟨_, (perm2 (by simp only [hget, hdel, ↓reduceIte, FR.out, hR, hF, hs]; first | done | rfl) (by simp only [hget, hdel, ↓reduceIte, FR.out, hR, hF, hs]; first | done | rfl))⟩)) | (first | refine CallV.fn (h1) (Sm.out ?_) | refine ExF.mk (h1) (Sm.out ?_) | refine ExG.mk (fun _ => h1) (Sm.out ?_) | refine ExG.mkJ (fun _ => h1) (Sm.out ?_) | refine ExG.mkI (Ob.out ?_) (fun _ => h1) (Sm.out ?_)) | (first | refine CallV.fn (g1) (Sm.out ?_) | refine ExF.mk (g1) (Sm.out ?_) | refine ExG.mk (fun _ => g1) (Sm.out ?_) | refine ExG.mkJ (fun _ => g1) (Sm.out ?_) | refine ExG.mkI (Ob.out ?_) (fun _ => g1) (Sm.out ?_)) | (first | refine CallV.fn (r1) (Sm.out ?_) | refine ExF.mk (r1) (Sm.out ?_) | refine ExG.mk (fun _ => r1) (Sm.out ?_) | refine ExG.mkJ (fun _ => r1) (Sm.out ?_) | refine ExG.mkI (Ob.out ?_) (fun _ => r1) (Sm.out ?_)) | (first | refine CallV.fn (r2) (Sm.out ?_) | refine ExF.mk (r2) (Sm.out ?_) | refine ExG.mk (fun _ => r2) (Sm.out ?_) | refine ExG.mkJ (fun _ => r2) (Sm.out ?_) | refine ExG.mkI (Ob.out ?_) (fun _ => r2) (Sm.out ?_)) | (refine CallV.updM (cG) (perm2 (by simp only [hget, hdel, ↓reduceIte, FR.out, hR, hF, hs]; first | done | rfl) (by simp only [hget, hdel, ↓reduceIte, FR.out, hR, hF, hs]; first | done | rfl)) (Sm.out ?_)) | ((first | refine ExF.up ?_ (cG) (Sm.out ?_) | refine ExG.up ?_ (fun _ => cG) (Sm.out ?_) | refine ExG.upJ ?_ (fun _ => cG) (Sm.out ?_) | refine ExG.upI ?_ (fun _ => cG) (Ob.out ?_) (Sm.out ?_)); focus (exact ⟨_, (perm2 (by simp only [hget, hdel, ↓reduceIte, FR.out, hR, hF, hs]; first | done | rfl) (by simp only [hget, hdel, ↓reduceIte, FR.out, hR, hF, hs]; first | done | rfl))⟩)) | (refine CallV.newR (cP nb2) ((perm3 (by simp only [hget, hdel, ↓reduceIte, FR.out]; first | done | rfl) (by simp only [hget, hdel, ↓reduceIte, FR.out]; first | done | rfl) (by simp only [hget, hdel, ↓reduceIte, FR.out]; first | done | rfl))) (Sm.out ?_)) | refine YzCoX ?_ | (refine WP.cond rfl (fun hc => ?_) (fun hc => ?_) <;> (try simp only [ZC, reduceCtorEq, ZD] at hc) <;> (try exact absurd hc (by decide)) <;> (try (exfalso; omega))) | refine Rt.mk (And.intro (fun hg => Sm.out ?_) fun hg => Sm.out ?_) | (refine Nu.mk ?_; first | (fail_if_success have := nb1); intro nb1 | (fail_if_success have := nb2); intro nb2 | (fail_if_success have := nb3); intro nb3 | (fail_if_success have := nb4); intro nb4 | (fail_if_success have := nb5); intro nb5 | (fail_if_success have := nb6); intro nb6 | intro nbz) | (apply Yfr; refine Yf FR fun hFRb FR => ?_) | refine Two.mk ?_ ?_ | (apply Yxc; exact Yx) | refine Cs.mk fun hcs => Sm.out ?_ | go_step | omega | (simp only [maxLen_eq]; omega) | exact trivial
    (refine OutQ.drop _ _ (perm2 (by simp only [hget, hdel, ↓reduceIte, if_true, if_false, FR.out]; first | done | rfl) (by simp only [hget, hdel, ↓reduceIte, if_true, if_false, FR.out]; first | done | rfl)) (by simp only [resv, ZK, look, loadv, loadn, loadnm, load1, load1m, hget, ↓reduceIte, Nat.reduceEqDiff, Nat.reduceAdd, Nat.reduceMul, Nat.reduceLeDiff, Nat.reduceLT, reduceCtorEq, TFCoX, FR.out]) ⟨(by simp only [resv, resA, ZK, look, loadv, loadn, loadnm, load1, load1m, hget, ↓reduceIte, Nat.reduceEqDiff, Nat.reduceAdd, Nat.reduceMul, Nat.reduceLeDiff, Nat.reduceLT, reduceCtorEq, TFCoX, FR.out]; first | done | rfl), rfl⟩)
  · have k1 : decide ((tx.size : Int) ≤ 40000) = false := decide_eq_false (by have := hl rfl; omega)
    refine ACt.intro Tryd.func4 rfl (by kernel_rfl) (by simp [Tryd.ntmps4]) (fun cx => ?_)
    simp only [argE, Tryd.ntmps4, Tryd.results4]
    have FR : Sm (¬ ((1 : Nat) = 0)) := Sm.mk Nat.one_ne_zero
    (refine WP.nd fun hnd => ?_; simp only [ndF, fresh_cons, fresh_nil, and_true, ne_eq] at hnd; replace FR := Sm.mk (And.intro hnd FR.out); clear hnd)
    first | (have FRx := FR; clear FRx) | have FR := fr0S
    have FA := Sm.mk (And.intro TFCoX (And.intro k1 (And.intro hR (And.intro hF hs))))
    repeat' first | (apply Sm.mk; refine Ys ?_) | refine WP.seq fun K hK => ?_ | (apply Ob.mk; exact Yo) | refine And.intro (Ob.out ?_) ?_ | refine Y1CoX ?_ | (refine CallV.updM (cA) (perm2 (by simp only [hget, hdel, ↓reduceIte, FR.out, k1, hR, hF, hs]; first | done | rfl) (by simp only [hget, hdel, ↓reduceIte, FR.out, k1, hR, hF, hs]; first | done | rfl)) (Sm.out ?_)) | ((first | refine ExF.up ?_ (cA) (Sm.out ?_) | refine ExG.up ?_ (fun _ => cA) (Sm.out ?_) | refine ExG.upJ ?_ (fun _ => cA) (Sm.out ?_) | refine ExG.upI ?_ (fun _ => cA) (Ob.out ?_) (Sm.out ?_)); focus (exact ⟨_, (perm2 (by simp only [hget, hdel, ↓reduceIte, FR.out, k1, hR, hF, hs]; first | done | rfl) (by simp only [hget, hdel, ↓reduceIte, FR.out, k1, hR, hF, hs]; first | done | rfl))⟩)) | (first | refine CallV.fn (h1) (Sm.out ?_) | refine ExF.mk (h1) (Sm.out ?_) | refine ExG.mk (fun _ => h1) (Sm.out ?_) | refine ExG.mkJ (fun _ => h1) (Sm.out ?_) | refine ExG.mkI (Ob.out ?_) (fun _ => h1) (Sm.out ?_)) | (first | refine CallV.fn (g1) (Sm.out ?_) | refine ExF.mk (g1) (Sm.out ?_) | refine ExG.mk (fun _ => g1) (Sm.out ?_) | refine ExG.mkJ (fun _ => g1) (Sm.out ?_) | refine ExG.mkI (Ob.out ?_) (fun _ => g1) (Sm.out ?_)) | (first | refine CallV.fn (r1) (Sm.out ?_) | refine ExF.mk (r1) (Sm.out ?_) | refine ExG.mk (fun _ => r1) (Sm.out ?_) | refine ExG.mkJ (fun _ => r1) (Sm.out ?_) | refine ExG.mkI (Ob.out ?_) (fun _ => r1) (Sm.out ?_)) | (first | refine CallV.fn (r2) (Sm.out ?_) | refine ExF.mk (r2) (Sm.out ?_) | refine ExG.mk (fun _ => r2) (Sm.out ?_) | refine ExG.mkJ (fun _ => r2) (Sm.out ?_) | refine ExG.mkI (Ob.out ?_) (fun _ => r2) (Sm.out ?_)) | (refine CallV.updM (cG) (perm2 (by simp only [hget, hdel, ↓reduceIte, FR.out, k1, hR, hF, hs]; first | done | rfl) (by simp only [hget, hdel, ↓reduceIte, FR.out, k1, hR, hF, hs]; first | done | rfl)) (Sm.out ?_)) | ((first | refine ExF.up ?_ (cG) (Sm.out ?_) | refine ExG.up ?_ (fun _ => cG) (Sm.out ?_) | refine ExG.upJ ?_ (fun _ => cG) (Sm.out ?_) | refine ExG.upI ?_ (fun _ => cG) (Ob.out ?_) (Sm.out ?_)); focus (exact ⟨_, (perm2 (by simp only [hget, hdel, ↓reduceIte, FR.out, k1, hR, hF, hs]; first | done | rfl) (by simp only [hget, hdel, ↓reduceIte, FR.out, k1, hR, hF, hs]; first | done | rfl))⟩)) | (refine CallV.newR (cP nb2) ((perm3 (by simp only [hget, hdel, ↓reduceIte, FR.out]; first | done | rfl) (by simp only [hget, hdel, ↓reduceIte, FR.out]; first | done | rfl) (by simp only [hget, hdel, ↓reduceIte, FR.out]; first | done | rfl))) (Sm.out ?_)) | refine YzCoX ?_ | (refine WP.cond rfl (fun hc => ?_) (fun hc => ?_) <;> (try simp only [ZC, reduceCtorEq, ZD] at hc) <;> (try exact absurd hc (by decide)) <;> (try (exfalso; omega))) | refine Rt.mk (And.intro (fun hg => Sm.out ?_) fun hg => Sm.out ?_) | (refine Nu.mk ?_; first | (fail_if_success have := nb1); intro nb1 | (fail_if_success have := nb2); intro nb2 | (fail_if_success have := nb3); intro nb3 | (fail_if_success have := nb4); intro nb4 | (fail_if_success have := nb5); intro nb5 | (fail_if_success have := nb6); intro nb6 | intro nbz) | (apply Yfr; refine Yf FR fun hFRb FR => ?_) | refine Two.mk ?_ ?_ | (apply Yxc; exact Yx) | refine Cs.mk fun hcs => Sm.out ?_ | go_step | omega | (simp only [maxLen_eq]; omega) | exact trivial
    (refine OutQ.drop _ _ (perm2 (by simp only [hget, hdel, ↓reduceIte, if_true, if_false, FR.out]; first | done | rfl) (by simp only [hget, hdel, ↓reduceIte, if_true, if_false, FR.out]; first | done | rfl)) (by simp only [resv, ZK, look, loadv, loadn, loadnm, load1, load1m, hget, ↓reduceIte, Nat.reduceEqDiff, Nat.reduceAdd, Nat.reduceMul, Nat.reduceLeDiff, Nat.reduceLT, reduceCtorEq, TFCoX, FR.out]) ⟨(by simp only [resv, resA, ZK, look, loadv, loadn, loadnm, load1, load1m, hget, ↓reduceIte, Nat.reduceEqDiff, Nat.reduceAdd, Nat.reduceMul, Nat.reduceLeDiff, Nat.reduceLT, reduceCtorEq, TFCoX, FR.out]; first | done | rfl), rfl⟩)
set_option maxRecDepth 8000 in
set_option maxHeartbeats 4000000 in
theorem puts_good (o : Oq) (n0 n1 : Nat) (FZ AZ L M : List Int) (n m : Nat) (R : Bool) (hLM : L = 9 :: M) (hn : L.length = n) (hm : M.length = m)
    (cA : ACt Tryd.prog 6 [] [(0, .zs .u8 FZ 256 n0), (1, .zs .u8 AZ 32 n1)] (fun x F => x = bv true ∧ F = [(0, .zs .u8 FZ 256 n0), (1, .zs .u8 AZ 32 n1)]))
    (h1 : ACt Tryd.prog 7 [ov o] [] (Fn (bv false))) (g1 : ACt Tryd.prog 8 [ov o] [] (Fn (bv true))) (r1 : ACt Tryd.prog 10 [ov o] [] (Fn (bv R))) (r2 : ACt Tryd.prog 11 [ov o] [] (Fn (bv R)))
    (cG : ACt Tryd.prog 12 [ov o] [(0, .zs .u8 FZ 256 n0), (1, .zs .u8 AZ 32 n1)] (fun x F => x = bv true ∧ F = [(0, .zs .u8 FZ 256 n0), (1, .zs .u8 AZ 32 n1)]))
    (cP : ∀ b, ACt Tryd.prog 9 [ms b 0 1 1, ov o] [(b, .zs .u8 [9] 1 5), (0, .zs .u8 FZ 256 n0), (1, .zs .u8 AZ 32 n1)] (fun r F' => ∃ x c, (n ≤ c ∧ c ≤ 9223372036854775807) ∧ r = ms x 0 n c ∧ F' = (x, .zs .u8 L c 5) :: [(0, .zs .u8 FZ 256 n0), (1, .zs .u8 AZ 32 n1)]))
    (cR : ACt Tryd.prog 13 [.slz .u8 M] [(0, .zs .u8 FZ 256 n0), (1, .zs .u8 AZ 32 n1)] (fun x F => x = .tup [ov o, iv .i64 0] ∧ F = [(0, .zs .u8 FZ 256 n0), (1, .zs .u8 AZ 32 n1)]))
    (cW : ACt Tryd.prog 14 [ov o] [] (Fn (.slz .u8 M))) :
    ACt Tryd.prog 4 [ov o] [(0, .zs .u8 FZ 256 n0), (1, .zs .u8 AZ 32 n1)] (fun x F => x = bv true ∧ F = [(0, .zs .u8 FZ 256 n0), (1, .zs .u8 AZ 32 n1)]) := by
  have hy := oq_refl2 o
  obtain ⟨d1, d2, d3, d4, d5, ⟨e1, e2, e3, e4, e5⟩, ⟨f1, f2, f3, f4, f5⟩⟩ := o
  unfold oqB at hy
  simp only at hy
  have hq : ∀ x : ByteArray, (x == x) = true := fun x => (ba_iff _ _).2 rfl
  have hy2 : (d2 == d2 && (e1 == e1 && (e2 == e2 && (f1 == f1 && f2 == f2)))) = true := by rw [hq, hq, hq, hq, hq]; rfl
  have hf := fe30
  have hR : (R != R) = false := by cases R <;> rfl
  have hF : (true != true) = false := rfl
  have z0 : ((0 : Int) == 0) = true := rfl
  have hd1 : L.drop 1 = M := by rw [hLM]; rfl
  have hd0 : L.drop 0 = L := rfl
  have htk : L.take n = L := by rw [← hn]; exact List.take_length
  have hnm : n = m + 1 := by rw [← hn, hLM, ← hm]; rfl
  have htm : M.take m = M := by rw [← hm]; exact List.take_length
  have i1 : 1 ≤ n := by omega
  have hle : n ≤ n := Nat.le_refl n
  have az : ∀ q : Nat, 0 + q = q := fun q => Nat.zero_add q
  have hs : ((bstr M).toList == (bstr M).toList) = true := beq_self_eq_true _
  refine ACt.intro Tryd.func4 rfl (by kernel_rfl) (by simp [Tryd.ntmps4]) (fun cx => ?_)
  simp only [argE, Tryd.ntmps4, Tryd.results4]
  have FR : Sm (¬ ((1 : Nat) = 0)) := Sm.mk Nat.one_ne_zero
  (refine WP.nd fun hnd => ?_; simp only [ndF, fresh_cons, fresh_nil, and_true, ne_eq] at hnd; replace FR := Sm.mk (And.intro hnd FR.out); clear hnd)
  first | (have FRx := FR; clear FRx) | have FR := fr0S
  have FA := Sm.mk (And.intro TFCoX (And.intro hR hF))
  repeat' first | (apply Sm.mk; refine Ys ?_) | refine WP.seq fun K hK => ?_ | (apply Ob.mk; exact Yo) | refine And.intro (Ob.out ?_) ?_ | ((fail_if_success (show WP _ _ _ (.region 11 _ _) _ _)); refine Y1CoX ?_) | (refine CallV.updM (cA) (perm2 (by simp only [hget, hdel, ↓reduceIte, FR.out, hR, hF]; first | done | rfl) (by simp only [hget, hdel, ↓reduceIte, FR.out, hR, hF]; first | done | rfl)) (Sm.out ?_)) | ((first | refine ExF.up ?_ (cA) (Sm.out ?_) | refine ExG.up ?_ (fun _ => cA) (Sm.out ?_) | refine ExG.upJ ?_ (fun _ => cA) (Sm.out ?_) | refine ExG.upI ?_ (fun _ => cA) (Ob.out ?_) (Sm.out ?_)); focus (exact ⟨_, (perm2 (by simp only [hget, hdel, ↓reduceIte, FR.out, hR, hF]; first | done | rfl) (by simp only [hget, hdel, ↓reduceIte, FR.out, hR, hF]; first | done | rfl))⟩)) | (first | refine CallV.fn (h1) (Sm.out ?_) | refine ExF.mk (h1) (Sm.out ?_) | refine ExG.mk (fun _ => h1) (Sm.out ?_) | refine ExG.mkJ (fun _ => h1) (Sm.out ?_) | refine ExG.mkI (Ob.out ?_) (fun _ => h1) (Sm.out ?_)) | (first | refine CallV.fn (g1) (Sm.out ?_) | refine ExF.mk (g1) (Sm.out ?_) | refine ExG.mk (fun _ => g1) (Sm.out ?_) | refine ExG.mkJ (fun _ => g1) (Sm.out ?_) | refine ExG.mkI (Ob.out ?_) (fun _ => g1) (Sm.out ?_)) | (first | refine CallV.fn (r1) (Sm.out ?_) | refine ExF.mk (r1) (Sm.out ?_) | refine ExG.mk (fun _ => r1) (Sm.out ?_) | refine ExG.mkJ (fun _ => r1) (Sm.out ?_) | refine ExG.mkI (Ob.out ?_) (fun _ => r1) (Sm.out ?_)) | (first | refine CallV.fn (r2) (Sm.out ?_) | refine ExF.mk (r2) (Sm.out ?_) | refine ExG.mk (fun _ => r2) (Sm.out ?_) | refine ExG.mkJ (fun _ => r2) (Sm.out ?_) | refine ExG.mkI (Ob.out ?_) (fun _ => r2) (Sm.out ?_)) | (refine CallV.updM (cG) (perm2 (by simp only [hget, hdel, ↓reduceIte, FR.out, hR, hF]; first | done | rfl) (by simp only [hget, hdel, ↓reduceIte, FR.out, hR, hF]; first | done | rfl)) (Sm.out ?_)) | ((first | refine ExF.up ?_ (cG) (Sm.out ?_) | refine ExG.up ?_ (fun _ => cG) (Sm.out ?_) | refine ExG.upJ ?_ (fun _ => cG) (Sm.out ?_) | refine ExG.upI ?_ (fun _ => cG) (Ob.out ?_) (Sm.out ?_)); focus (exact ⟨_, (perm2 (by simp only [hget, hdel, ↓reduceIte, FR.out, hR, hF]; first | done | rfl) (by simp only [hget, hdel, ↓reduceIte, FR.out, hR, hF]; first | done | rfl))⟩)) | (refine CallV.newR (cP nb2) ((perm3 (by simp only [hget, hdel, ↓reduceIte, FR.out]; first | done | rfl) (by simp only [hget, hdel, ↓reduceIte, FR.out]; first | done | rfl) (by simp only [hget, hdel, ↓reduceIte, FR.out]; first | done | rfl))) (Sm.out ?_)) | refine YzCoX ?_ | (refine WP.cond rfl (fun hc => ?_) (fun hc => ?_) <;> (try simp only [ZC, reduceCtorEq, ZD] at hc) <;> (try exact absurd hc (by decide)) <;> (try (exfalso; omega))) | refine Rt.mk (And.intro (fun hg => Sm.out ?_) fun hg => Sm.out ?_) | (refine Nu.mk ?_; first | (fail_if_success have := nb1); intro nb1 | (fail_if_success have := nb2); intro nb2 | (fail_if_success have := nb3); intro nb3 | (fail_if_success have := nb4); intro nb4 | (fail_if_success have := nb5); intro nb5 | (fail_if_success have := nb6); intro nb6 | intro nbz) | (apply Yfr; refine Yf FR fun hFRb FR => ?_) | refine Two.mk ?_ ?_ | (apply Yxc; exact Yx) | refine Cs.mk fun hcs => Sm.out ?_ | go_step | omega | (simp only [maxLen_eq]; omega) | exact trivial
  have b1 : n ≤ nb4 := FR.out.1.1.1
  have b2 : nb4 ≤ 9223372036854775807 := FR.out.1.1.2
  (refine WP.wk (Wk.freeze (nb3) (by simp only [ZK, rvc, drawF, headN, pureH, stp, dvc, calleeOf, gcall, pev, eff, newB, okd, og, ogs, ogo, ogp, slv, bltv, opd, litv, strip, one, both, putE, St.put, look, gdOf, gdv, picka, pickv, pickw, binv, bini, bins, binb, binp, binq, isSlT, bina, shp, eqCells, unv, convv, nilv, faddv, addp, idxav, idxp, load1, load1m, loadn, loadnm, loadv, hget, hset, hrep, hdel, slicev, slice3v, bnd, shift1, lenv, capv, IntKind.bits, extractv, fieldv, indexv, min2v, max2v, mkiv, tasv, tasz, cellsA, fillA, buildv, stC, oneC, rowMB, intsA, plN, appE, appZ, appC, appS, srcB, appNZ, appNC, VwL, srcC, srcZ, srcM, isBoolT, isPtrT, isSliceT, uOk, Value.oneCell', Nat.reducePow, Int.reducePow, Nat.reduceAdd, Nat.reduceMul, Nat.reduceSub, Nat.reduceLT, Nat.reduceLeDiff, Nat.reduceEqDiff, Nat.reduceBEq, Nat.reduceDiv, Nat.reduceMod, ↓reduceIte, reduceCtorEq, Int.reduceToNat, Int.reduceLT, Int.reduceLE, TFCoX, SeqQ, BlkQ, LoopQ, BodyQ, hn, hle, az, b1, b2, hd0, htk, FR.out]; first | done | rfl)) ?_; simp only [frzE, frz, ZK, rvc, drawF, headN, pureH, stp, dvc, calleeOf, gcall, pev, eff, newB, okd, og, ogs, ogo, ogp, slv, bltv, opd, litv, strip, one, both, putE, St.put, look, gdOf, gdv, picka, pickv, pickw, binv, bini, bins, binb, binp, binq, isSlT, bina, shp, eqCells, unv, convv, nilv, faddv, addp, idxav, idxp, load1, load1m, loadn, loadnm, loadv, hget, hset, hrep, hdel, slicev, slice3v, bnd, shift1, lenv, capv, IntKind.bits, extractv, fieldv, indexv, min2v, max2v, mkiv, tasv, tasz, cellsA, fillA, buildv, stC, oneC, rowMB, intsA, plN, appE, appZ, appC, appS, srcB, appNZ, appNC, VwL, srcC, srcZ, srcM, isBoolT, isPtrT, isSliceT, uOk, Value.oneCell', Nat.reducePow, Int.reducePow, Nat.reduceAdd, Nat.reduceMul, Nat.reduceSub, Nat.reduceLT, Nat.reduceLeDiff, Nat.reduceEqDiff, Nat.reduceBEq, Nat.reduceDiv, Nat.reduceMod, ↓reduceIte, reduceCtorEq, Int.reduceToNat, Int.reduceLT, Int.reduceLE, TFCoX, SeqQ, BlkQ, LoopQ, BodyQ, hn, hle, az, b1, b2, hd0, htk, FR.out])
  first | (have FRx := FR; clear FRx) | have FR := fr0S
  have FA := Sm.mk (And.intro TFCoX (And.intro hf (And.intro hy (And.intro hy2 (And.intro z0 (And.intro hd0 (And.intro hd1 (And.intro htk (And.intro htm (And.intro hn (And.intro hm (And.intro i1 hs))))))))))))
  repeat' first | (apply Sm.mk; refine Ys ?_) | refine WP.seq fun K hK => ?_ | (apply Ob.mk; exact Yo) | refine And.intro (Ob.out ?_) ?_ | refine Y1CoX ?_ | refine Yl2 (c := cR) (r := ?_) | refine Yc (c := cW) (r := ?_) | refine YzCoX ?_ | (refine WP.cond rfl (fun hc => ?_) (fun hc => ?_) <;> (try simp only [ZC, reduceCtorEq, ZD] at hc) <;> (try exact absurd hc (by decide)) <;> (try (exfalso; omega))) | refine Rt.mk (And.intro (fun hg => Sm.out ?_) fun hg => Sm.out ?_) | (refine Nu.mk ?_; first | (fail_if_success have := nb1); intro nb1 | (fail_if_success have := nb2); intro nb2 | (fail_if_success have := nb3); intro nb3 | (fail_if_success have := nb4); intro nb4 | (fail_if_success have := nb5); intro nb5 | (fail_if_success have := nb6); intro nb6 | intro nbz) | (apply Yfr; refine Yf FR fun hFRb FR => ?_) | refine Two.mk ?_ ?_ | (apply Yxc; exact Yx) | refine Cs.mk fun hcs => Sm.out ?_ | go_step | omega | (simp only [maxLen_eq]; omega) | exact trivial
  (refine OutQ.drop _ _ (perm2 (by simp only [hget, hdel, ↓reduceIte, if_true, if_false, FR.out]; first | done | rfl) (by simp only [hget, hdel, ↓reduceIte, if_true, if_false, FR.out]; first | done | rfl)) (by simp only [resv, ZK, look, loadv, loadn, loadnm, load1, load1m, hget, ↓reduceIte, Nat.reduceEqDiff, Nat.reduceAdd, Nat.reduceMul, Nat.reduceLeDiff, Nat.reduceLT, reduceCtorEq, TFCoX, FR.out]) ⟨(by simp only [resv, resA, ZK, look, loadv, loadn, loadnm, load1, load1m, hget, ↓reduceIte, Nat.reduceEqDiff, Nat.reduceAdd, Nat.reduceMul, Nat.reduceLeDiff, Nat.reduceLT, reduceCtorEq, TFCoX, FR.out]; first | done | rfl), rfl⟩)
theorem puts_ct (o : Oq) (ha : Oa o) (n0 n1 : Nat) : ACt Tryd.prog 4 [ov o] [(0, .zs .u8 fsZ 256 n0), (1, .zs .u8 acZ 32 n1)] (fun x F => x = bv true ∧ F = [(0, .zs .u8 fsZ 256 n0), (1, .zs .u8 acZ 32 n1)]) := by
  have cA := awake_ct n0 n1
  have h1 := oheavy_ct o
  by_cases hh : ohB o = true ∧ o.tx.size ≤ 40000
  · obtain ⟨q1, q2⟩ := hh
    rw [q1] at h1
    obtain ⟨kd, tx, a, g, t, ⟨kg, kr, kp, ke, ks⟩, ⟨nm, gl, w, f, t2⟩⟩ := o
    simp only at q2
    have k1 : decide ((tx.size : Int) ≤ 40000) = true := decide_eq_true (by omega)
    obtain ⟨FZ, hFZ⟩ : ∃ FZ, FZ = fsZ := ⟨_, rfl⟩
    obtain ⟨AZ, hAZ⟩ : ∃ AZ, AZ = acZ := ⟨_, rfl⟩
    rw [← hFZ, ← hAZ] at cA ⊢
    refine ACt.intro Tryd.func4 rfl (by kernel_rfl) (by simp [Tryd.ntmps4]) (fun cx => ?_)
    simp only [argE, Tryd.ntmps4, Tryd.results4]
    first | (have FRx := FR; clear FRx) | have FR := fr0S
    have FA := Sm.mk (And.intro TFCoX k1)
    repeat' first | (apply Sm.mk; refine Ys ?_) | refine WP.seq fun K hK => ?_ | (apply Ob.mk; exact Yo) | refine And.intro (Ob.out ?_) ?_ | refine Y1CoX ?_ | refine Yl2 (c := cA) (r := ?_) | refine Yc (c := h1) (r := ?_) | refine YzCoX ?_ | (refine WP.cond rfl (fun hc => ?_) (fun hc => ?_) <;> (try simp only [ZC, reduceCtorEq, ZD] at hc) <;> (try exact absurd hc (by decide)) <;> (try (exfalso; omega))) | refine Rt.mk (And.intro (fun hg => Sm.out ?_) fun hg => Sm.out ?_) | (refine Nu.mk ?_; first | (fail_if_success have := nb1); intro nb1 | (fail_if_success have := nb2); intro nb2 | (fail_if_success have := nb3); intro nb3 | (fail_if_success have := nb4); intro nb4 | (fail_if_success have := nb5); intro nb5 | (fail_if_success have := nb6); intro nb6 | intro nbz) | (apply Yfr; refine Yf FR fun hFRb FR => ?_) | refine Two.mk ?_ ?_ | (apply Yxc; exact Yx) | refine Cs.mk fun hcs => Sm.out ?_ | go_step | omega | (simp only [maxLen_eq]; omega) | exact trivial
    (refine OutQ.drop _ _ (perm2 (by simp only [hget, hdel, ↓reduceIte, if_true, if_false, FR.out]; first | done | rfl) (by simp only [hget, hdel, ↓reduceIte, if_true, if_false, FR.out]; first | done | rfl)) (by simp only [resv, ZK, look, loadv, loadn, loadnm, load1, load1m, hget, ↓reduceIte, Nat.reduceEqDiff, Nat.reduceAdd, Nat.reduceMul, Nat.reduceLeDiff, Nat.reduceLT, reduceCtorEq, TFCoX, FR.out]) ⟨(by simp only [resv, resA, ZK, look, loadv, loadn, loadnm, load1, load1m, hget, ↓reduceIte, Nat.reduceEqDiff, Nat.reduceAdd, Nat.reduceMul, Nat.reduceLeDiff, Nat.reduceLT, reduceCtorEq, TFCoX, FR.out]; first | done | rfl), rfl⟩)
  have hz : Oz o ∨ 40000 < o.tx.size := by
    by_cases h : ohB o = true
    · exact .inr (by
        apply Classical.byContradiction
        intro hc
        exact hh ⟨h, by omega⟩)
    · exact .inl (ow_of ha (by simpa using h)).z
  have cG := goes_ct o n0 n1 hz
  have r1 := right_ct o
  have r2 := rright_ct o
  by_cases hg : gsB o = true
  · have hs := (gs_of hg).2.2.1
    have q1 : ohB o = false := by
      cases h : ohB o with
      | false => rfl
      | true => exact absurd ⟨h, hs⟩ hh
    have hw := ow_of ha q1
    have g1 := rgoes_ct o hw.z
    rw [q1] at h1
    rw [hg] at g1 cG
    obtain ⟨p1, p2⟩ := read_put hg (om_of ha)
    have hbL := by_oL hg ha
    have hlL : (oL o).length ≤ 10000 := by
      obtain ⟨s1, s2, s3, s4, s5⟩ := oh_bd q1
      have t1 := txL_len o.tx (by omega)
      have t2 := intL_len o.a ha.a.1 ha.a.2
      have t3 := putL_len 0 o.g.toNat (by have := ha.g; omega)
      have t4 := putL_len 0 o.t.toNat (by have := ha.t; omega)
      have t5 := putL_len 0 o.kd.toNat (by have := (gs_of hg).1; omega)
      have t6 := kL_len o.k hw.k
      have t7 := sL_len o.s hw.s
      unfold oL
      simp only [List.length_append]
      split <;> split <;> split <;> split <;> split <;> simp only [List.length_append, List.length_nil] <;> omega
    have cR := cread_ct (oL o) hbL hlL n0 n1
    rw [p1, p2] at cR
    exact puts_good o n0 n1 fsZ acZ (9 :: oL o) (oL o) _ _ (rtB o) rfl rfl rfl cA h1 g1 r1 r2 cG
      (fun b => cput_row n0 n1 b 1 [9] o (by simp) (by simp) (by omega) hg hw) cR (ACt.fzRow (rput_ct o hg hw))
  · have hg : gsB o = false := by simpa using hg
    rw [hg] at cG
    have g1 : ACt Tryd.prog 8 [ov o] [] (Fn (bv false)) := by
      rcases hz with hz | hz
      · have := rgoes_ct o hz
        rw [hg] at this
        exact this
      · exact rgoes_big o hz
    exact puts_bad o n0 n1 fsZ acZ (ohB o) (rtB o) (fun h => by
        apply Classical.byContradiction
        intro hc
        exact hh ⟨h, by omega⟩) cA h1 g1 r1 r2 cG (fun b => cput_bad n0 n1 fsZ acZ b 1 [9] o (by simp) (by omega) cG)
theorem puts_law {xs : List AV} (hx : Shp opTy xs) (n0 n1 : Nat) : ACt Tryd.prog 4 [.agg xs] [(0, .zs .u8 fsZ 256 n0), (1, .zs .u8 acZ 32 n1)] (fun x F => x = bv true ∧ F = [(0, .zs .u8 fsZ 256 n0), (1, .zs .u8 acZ 32 n1)]) := by
  obtain ⟨o, e, ha⟩ := op_shp hx
  rw [e]
  exact puts_ct o ha n0 n1
end Go.Proofs.YtpidkkgjgichdaaDoor
