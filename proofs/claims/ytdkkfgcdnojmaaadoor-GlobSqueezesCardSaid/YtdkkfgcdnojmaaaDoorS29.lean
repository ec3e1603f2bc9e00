/-
  The walks and the laws that the statement leans on, part 29.
-/
import Derived.Test.YtdkkfgcdnojmaaaDoorS13
import Derived.Test.YtdkkfgcdnojmaaaDoorS28
namespace Go.Proofs.YtdkkfgcdnojmaaaDoor
open Go
set_option linter.unusedVariables false
set_option linter.unusedSimpArgs false
set_option linter.defProp false
def TFGbC :=
  And.intro (And.intro (And.intro (And.intro (And.intro tyc0 tyc3) (And.intro zmb3 (And.intro tyc4 zmb4))) (And.intro (And.intro tyc5 (And.intro zmb5 tyc9)) (And.intro zmb9 (And.intro tyc21 zmb21)))) (And.intro (And.intro (And.intro tyc34 (And.intro zmb34 tyc35)) (And.intro elt35 (And.intro mkz35 apT35))) (And.intro (And.intro elk35 (And.intro zmb35 tyc37)) (And.intro foff37_0 (And.intro fpart37_0 foff37_1))))) (And.intro (And.intro (And.intro (And.intro fpart37_1 (And.intro zmb37 bldT37)) (And.intro tyc39 (And.intro zmb39 tyc59))) (And.intro (And.intro zmb59 (And.intro tyc69 zmb69)) (And.intro tyc71 (And.intro zmb71 Tryd.underlying0)))) (And.intro (And.intro (And.intro Tryd.underlying3 (And.intro Tryd.underlying4 Tryd.underlying5)) (And.intro Tryd.underlying9 (And.intro Tryd.underlying21 Tryd.underlying34))) (And.intro (And.intro Tryd.underlying35 (And.intro Tryd.underlying37 Tryd.underlying39)) (And.intro Tryd.underlying59 (And.intro Tryd.underlying69 Tryd.underlying71)))))
theorem Y1GbC {G R : Prop} (r : R) (h : R → G := by intro r; first | (apply WP.region; exact rvc_sound _ _ (Sm.out r)) | exact WP.drawK rfl mixed (by decide +kernel) (Sm.out r) | (apply WP.block; exact r) | (apply WP.skip; exact Yq r) | (apply WP.exit; exact Yq r) | (apply WP.ret; exact Sm.out r) | exact WP.cond rfl (fun _ => r) (fun hg => absurd hg (by decide)) | exact WP.cond rfl (fun hg => absurd hg (by decide)) (fun _ => r) | exact Rt.mk (And.intro (fun _ => Sm.out r) fun hg => absurd hg (by decide)) | exact Rt.mk (And.intro (fun hg => absurd hg (by decide)) fun _ => Sm.out r)) : G := h r
theorem YzGbC {G R : Prop} (r : R) (h : R → G := by intro r; first | (apply ExG.no; exact Sm.out r) | (apply Or.inl; apply ExG.no; exact Sm.out r) | exact Or.inl (And.intro (fun hg => absurd hg (by decide)) (ExG.no (Sm.out r)))) : G := h r
theorem arG_nil (r : Int) (hr : Gr r) : ACt Tryd.prog 42 [nsl, iv .i32 r] [] (fun a F' => ∃ x k : Nat, ((enc8 r).length ≤ k ∧ k ≤ 9223372036854775807) ∧ a = ms x 0 (enc8 r).length k ∧ F' = [(x, .zs .u8 (enc8 r) k 5)]) := by
  by_cases h : r < 128
  · have e : enc8 r = [r] := by unfold enc8; rw [if_pos h]
    rw [e]
    exact ar_nil r ⟨hr.1, h⟩
  have cN := an_nil r hr (by omega)
  obtain ⟨h0, h1, h2⟩ := hr
  have w1 : IntKind.u32.wrap r = r := wrap_u32 (by omega) (by omega)
  have k1 : decide (r ≤ 127) = false := decide_eq_false (by omega)
  obtain ⟨E, hE⟩ : ∃ E, E = enc8 r := ⟨_, rfl⟩
  obtain ⟨l, hl⟩ : ∃ l, l = E.length := ⟨_, rfl⟩
  rw [← hE] at cN ⊢
  rw [← hl] at cN ⊢
  refine ACt.intro Tryd.func42 rfl (by kernel_rfl) (by simp [Tryd.ntmps42]) (fun cx => ?_)
  simp only [argE, Tryd.ntmps42, Tryd.results42]
  first | (have FRx := FR; clear FRx) | have FR := fr0S
  have FA := Sm.mk (And.intro TFGbC (And.intro w1 k1))
  repeat' first | (apply Sm.mk; refine Ys ?_) | refine WP.seq fun K hK => ?_ | (apply Ob.mk; exact Yo) | refine And.intro (Ob.out ?_) ?_ | refine Y1GbC ?_ | refine CallV.newC (cN) (List.Perm.refl _) (fun _ _ => rfl) (Sm.out ?_) | refine YzGbC ?_ | (refine WP.cond rfl (fun hc => ?_) (fun hc => ?_) <;> (try simp only [ZC, reduceCtorEq, ZD] at hc) <;> (try exact absurd hc (by decide)) <;> (try (exfalso; omega))) | refine Rt.mk (And.intro (fun hg => Sm.out ?_) fun hg => Sm.out ?_) | (refine Nu.mk ?_; first | (fail_if_success have := nb1); intro nb1 | (fail_if_success have := nb2); intro nb2 | (fail_if_success have := nb3); intro nb3 | (fail_if_success have := nb4); intro nb4 | (fail_if_success have := nb5); intro nb5 | (fail_if_success have := nb6); intro nb6 | intro nbz) | (apply Yfr; refine Yf FR fun hFRb FR => ?_) | refine Two.mk ?_ ?_ | (apply Yxc; exact Yx) | refine Cs.mk fun hcs => Sm.out ?_ | go_step | omega | (simp only [maxLen_eq]; omega) | exact trivial
  (refine OutQ.drop _ _ (perm1 (by simp only [hget, hdel, ↓reduceIte, if_true, if_false, FR.out]; first | done | rfl)) (by simp only [resv, ZK, look, loadv, loadn, loadnm, load1, load1m, hget, ↓reduceIte, Nat.reduceEqDiff, Nat.reduceAdd, Nat.reduceMul, Nat.reduceLeDiff, Nat.reduceLT, reduceCtorEq, TFGbC, FR.out]) ⟨nb1, nb2, ⟨FR.out.1.1, FR.out.1.2⟩, (by simp only [resv, resA, ZK, look, loadv, loadn, loadnm, load1, load1m, hget, ↓reduceIte, Nat.reduceEqDiff, Nat.reduceAdd, Nat.reduceMul, Nat.reduceLeDiff, Nat.reduceLT, reduceCtorEq, TFGbC, FR.out]; first | done | rfl), rfl⟩)
theorem arG_used (x n k : Nat) (zs : List Int) (hn : zs.length = n) (hnk : n ≤ k ∧ k ≤ 9223372036854775807) (hln : n ≤ 100000) (r : Int) (hr : Gr r) :
    ACt Tryd.prog 42 [ms x 0 n k, iv .i32 r] [(x, .zs .u8 zs k 5)] (fun a F' => ∃ x k : Nat, (n + (enc8 r).length ≤ k ∧ k ≤ 9223372036854775807) ∧ a = ms x 0 (n + (enc8 r).length) k ∧ F' = [(x, .zs .u8 (zs ++ enc8 r) k 5)]) := by
  by_cases h : r < 128
  · have e : enc8 r = [r] := by unfold enc8; rw [if_pos h]
    rw [e]
    exact ar_used x n k zs hn hnk hln r ⟨hr.1, h⟩
  have cN := an_used x n k zs hn hnk hln r hr (by omega)
  obtain ⟨h0, h1, h2⟩ := hr
  have w1 : IntKind.u32.wrap r = r := wrap_u32 (by omega) (by omega)
  have k1 : decide (r ≤ 127) = false := decide_eq_false (by omega)
  obtain ⟨E, hE⟩ : ∃ E, E = enc8 r := ⟨_, rfl⟩
  obtain ⟨l, hl⟩ : ∃ l, l = n + E.length := ⟨_, rfl⟩
  rw [← hE] at cN ⊢
  rw [← hl] at cN ⊢
  refine ACt.intro Tryd.func42 rfl (by kernel_rfl) (by simp [Tryd.ntmps42]) (fun cx => ?_)
  simp only [argE, Tryd.ntmps42, Tryd.results42]
  first | (have FRx := FR; clear FRx) | have FR := fr0S
  have FA := Sm.mk (And.intro TFGbC (And.intro w1 k1))
  repeat' first | (apply Sm.mk; refine Ys ?_) | refine WP.seq fun K hK => ?_ | (apply Ob.mk; exact Yo) | refine And.intro (Ob.out ?_) ?_ | refine Y1GbC ?_ | refine CallV.newR (cN) ((pmz _)) (Sm.out ?_) | refine YzGbC ?_ | (refine WP.cond rfl (fun hc => ?_) (fun hc => ?_) <;> (try simp only [ZC, reduceCtorEq, ZD] at hc) <;> (try exact absurd hc (by decide)) <;> (try (exfalso; omega))) | refine Rt.mk (And.intro (fun hg => Sm.out ?_) fun hg => Sm.out ?_) | (refine Nu.mk ?_; first | (fail_if_success have := nb1); intro nb1 | (fail_if_success have := nb2); intro nb2 | (fail_if_success have := nb3); intro nb3 | (fail_if_success have := nb4); intro nb4 | (fail_if_success have := nb5); intro nb5 | (fail_if_success have := nb6); intro nb6 | intro nbz) | (apply Yfr; refine Yf FR fun hFRb FR => ?_) | refine Two.mk ?_ ?_ | (apply Yxc; exact Yx) | refine Cs.mk fun hcs => Sm.out ?_ | go_step | omega | (simp only [maxLen_eq]; omega) | exact trivial
  (refine OutQ.drop _ _ (perm1 (by simp only [hget, hdel, ↓reduceIte, if_true, if_false, FR.out]; first | done | rfl)) (by simp only [resv, ZK, look, loadv, loadn, loadnm, load1, load1m, hget, ↓reduceIte, Nat.reduceEqDiff, Nat.reduceAdd, Nat.reduceMul, Nat.reduceLeDiff, Nat.reduceLT, reduceCtorEq, TFGbC, FR.out]) ⟨nb1, nb2, ⟨FR.out.1.1, FR.out.1.2⟩, (by simp only [resv, resA, ZK, look, loadv, loadn, loadnm, load1, load1m, hget, ↓reduceIte, Nat.reduceEqDiff, Nat.reduceAdd, Nat.reduceMul, Nat.reduceLeDiff, Nat.reduceLT, reduceCtorEq, TFGbC, FR.out]; first | done | rfl), rfl⟩)
theorem wrG_nil (b : Nat) (c : Int) (hc : Gr c) : ACt Tryd.prog 26 [pt b 0, iv .i32 c] [(b, .cells [nps, nsl] 2 37)] (fun r F' => ∃ x k : Nat, ((enc8 c).length ≤ k ∧ k ≤ 9223372036854775807) ∧ r = .tup [iv .i64 ((enc8 c).length : Int), nif] ∧ F' = [(x, .zs .u8 (enc8 c) k 5), (b, .cells [pt b 0, ms x 0 (enc8 c).length k] 2 37)]) := by
  have c1 := cc_nil b  nsl
  have cA := arG_nil c hc
  have hl := enc8_len c
  obtain ⟨E, hE⟩ : ∃ E, E = enc8 c := ⟨_, rfl⟩
  rw [← hE] at cA hl ⊢
  obtain ⟨l, hl'⟩ : ∃ l, l = E.length := ⟨_, rfl⟩
  rw [← hl'] at cA hl ⊢
  have w1 : IntKind.i64.wrap ((l : Int) - 0) = (l : Int) := by rw [wrap_i64 (by omega) (by omega)]; omega
  refine ACt.intro Tryd.func26 rfl (by kernel_rfl) (by simp [Tryd.ntmps26]) (fun cx => ?_)
  simp only [argE, Tryd.ntmps26, Tryd.results26]
  first | (have FRx := FR; clear FRx) | have FR := fr0S
  have FA := Sm.mk (And.intro TFGbC w1)
  repeat' first | (apply Sm.mk; refine Ys ?_) | refine WP.seq fun K hK => ?_ | (apply Ob.mk; exact Yo) | refine And.intro (Ob.out ?_) ?_ | refine Y1GbC ?_ | (refine CallV.upd (by simp only [hget, ↓reduceIte, FR.out, w1]; first | done | rfl) (c1) (Sm.out ?_)) | refine CallV.newC (cA) (List.Perm.refl _) (fun _ _ => rfl) (Sm.out ?_) | refine YzGbC ?_ | (refine WP.cond rfl (fun hc => ?_) (fun hc => ?_) <;> (try simp only [ZC, reduceCtorEq, ZD] at hc) <;> (try exact absurd hc (by decide)) <;> (try (exfalso; omega))) | refine Rt.mk (And.intro (fun hg => Sm.out ?_) fun hg => Sm.out ?_) | (refine Nu.mk ?_; first | (fail_if_success have := nb1); intro nb1 | (fail_if_success have := nb2); intro nb2 | (fail_if_success have := nb3); intro nb3 | (fail_if_success have := nb4); intro nb4 | (fail_if_success have := nb5); intro nb5 | (fail_if_success have := nb6); intro nb6 | intro nbz) | (apply Yfr; refine Yf FR fun hFRb FR => ?_) | refine Two.mk ?_ ?_ | (apply Yxc; exact Yx) | refine Cs.mk fun hcs => Sm.out ?_ | go_step | omega | (simp only [maxLen_eq]; omega) | exact trivial
  (refine OutQ.drop _ _ (perm2 (by simp only [hget, hdel, ↓reduceIte, if_true, if_false, FR.out, w1]; first | done | rfl) (by simp only [hget, hdel, ↓reduceIte, if_true, if_false, FR.out, w1]; first | done | rfl)) (by simp only [resv, ZK, look, loadv, loadn, loadnm, load1, load1m, hget, ↓reduceIte, Nat.reduceEqDiff, Nat.reduceAdd, Nat.reduceMul, Nat.reduceLeDiff, Nat.reduceLT, reduceCtorEq, TFGbC, FR.out, w1]) ⟨nb1, nb2, FR.out.1.1, (by simp only [resv, resA, ZK, look, loadv, loadn, loadnm, load1, load1m, hget, ↓reduceIte, Nat.reduceEqDiff, Nat.reduceAdd, Nat.reduceMul, Nat.reduceLeDiff, Nat.reduceLT, reduceCtorEq, TFGbC, FR.out, w1]; first | done | rfl), rfl⟩)
theorem wrG_used (b x n k : Nat) (zs : List Int) (hd : b ≠ x ∧ x ≠ b) (hn : zs.length = n) (hnk : n ≤ k ∧ k ≤ 9223372036854775807) (hln : n ≤ 100000) (c : Int) (hc : Gr c) :
    ACt Tryd.prog 26 [pt b 0, iv .i32 c] [(x, .zs .u8 zs k 5), (b, .cells [pt b 0, ms x 0 n k] 2 37)] (fun r F' => ∃ x k : Nat, (n + (enc8 c).length ≤ k ∧ k ≤ 9223372036854775807) ∧ r = .tup [iv .i64 ((enc8 c).length : Int), nif] ∧ F' = [(x, .zs .u8 (zs ++ enc8 c) k 5), (b, .cells [pt b 0, ms x 0 (n + (enc8 c).length) k] 2 37)]) := by
  have c1 := cc_used b  (ms x 0 n k)
  have cA := arG_used x n k zs hn hnk hln c hc
  have hl := enc8_len c
  obtain ⟨E, hE⟩ : ∃ E, E = enc8 c := ⟨_, rfl⟩
  rw [← hE] at cA hl ⊢
  obtain ⟨l, hl'⟩ : ∃ l, l = E.length := ⟨_, rfl⟩
  rw [← hl'] at cA hl ⊢
  have w1 : IntKind.i64.wrap (((n + l : Nat) : Int) - (n : Int)) = (l : Int) := by rw [wrap_i64 (by omega) (by omega)]; omega
  refine ACt.intro Tryd.func26 rfl (by kernel_rfl) (by simp [Tryd.ntmps26]) (fun cx => ?_)
  simp only [argE, Tryd.ntmps26, Tryd.results26]
  first | (have FRx := FR; clear FRx) | have FR := fr0S
  have FA := Sm.mk (And.intro TFGbC (And.intro w1 hd))
  repeat' first | (apply Sm.mk; refine Ys ?_) | refine WP.seq fun K hK => ?_ | (apply Ob.mk; exact Yo) | refine And.intro (Ob.out ?_) ?_ | refine Y1GbC ?_ | (refine CallV.upd (by simp only [hget, ↓reduceIte, FR.out, w1, hd]; first | done | rfl) (c1) (Sm.out ?_)) | refine CallV.newR (cA) (List.Perm.swap _ _ _) (Sm.out ?_) | refine YzGbC ?_ | (refine WP.cond rfl (fun hc => ?_) (fun hc => ?_) <;> (try simp only [ZC, reduceCtorEq, ZD] at hc) <;> (try exact absurd hc (by decide)) <;> (try (exfalso; omega))) | refine Rt.mk (And.intro (fun hg => Sm.out ?_) fun hg => Sm.out ?_) | (refine Nu.mk ?_; first | (fail_if_success have := nb1); intro nb1 | (fail_if_success have := nb2); intro nb2 | (fail_if_success have := nb3); intro nb3 | (fail_if_success have := nb4); intro nb4 | (fail_if_success have := nb5); intro nb5 | (fail_if_success have := nb6); intro nb6 | intro nbz) | (apply Yfr; refine Yf FR fun hFRb FR => ?_) | refine Two.mk ?_ ?_ | (apply Yxc; exact Yx) | refine Cs.mk fun hcs => Sm.out ?_ | go_step | omega | (simp only [maxLen_eq]; omega) | exact trivial
  (refine OutQ.drop _ _ (perm2 (by simp only [hget, hdel, ↓reduceIte, if_true, if_false, FR.out, w1, hd]; first | done | rfl) (by simp only [hget, hdel, ↓reduceIte, if_true, if_false, FR.out, w1, hd]; first | done | rfl)) (by simp only [resv, ZK, look, loadv, loadn, loadnm, load1, load1m, hget, ↓reduceIte, Nat.reduceEqDiff, Nat.reduceAdd, Nat.reduceMul, Nat.reduceLeDiff, Nat.reduceLT, reduceCtorEq, TFGbC, FR.out, w1, hd]) ⟨nb1, nb2, FR.out.1.1, (by simp only [resv, resA, ZK, look, loadv, loadn, loadnm, load1, load1m, hget, ↓reduceIte, Nat.reduceEqDiff, Nat.reduceAdd, Nat.reduceMul, Nat.reduceLeDiff, Nat.reduceLT, reduceCtorEq, TFGbC, FR.out, w1, hd]; first | done | rfl), rfl⟩)
theorem wrG_b {b : Nat} {zs : List Int} {q : BQ} (hq : bOk b zs q) (hz : zs.length ≤ 50000) (c : Int) (hc : Gr c) :
    ACt Tryd.prog 26 [pt b 0, iv .i32 c] (bH b zs q) (fun r F' => ∃ g : BS b (zs ++ enc8 c), r = .tup [iv .i64 ((enc8 c).length : Int), nif] ∧ F' = bH b (zs ++ enc8 c) g.1) := by
  have hl := enc8_len c
  have hne' : enc8 c ≠ [] := fun e => by rw [e] at hl; simp at hl
  by_cases h : zs = []
  · subst h
    refine ACt.frm (R := []) (wrG_nil b c hc) (pmz _) fun r F' hr hn => ?_
    obtain ⟨x, k, hk, e1, e2⟩ := hr
    subst e1 e2
    have hne : [] ++ enc8 c ≠ [] := hne'
    exact ⟨_, [], pmz _, ⟨⟨x, k⟩, bk_of (by simp) hk hn⟩, rfl, by rw [bH_ne _ hne]; rfl⟩
  · obtain ⟨hd, hk1, hk2⟩ := hq h
    rw [bH_ne q h]
    refine ACt.frm (R := []) (wrG_used b q.x zs.length q.k zs hd rfl ⟨hk1, hk2⟩ (by omega) c hc) (pmz _) fun r F' hr hn => ?_
    obtain ⟨x, k, hk, e1, e2⟩ := hr
    subst e1 e2
    have hne : zs ++ enc8 c ≠ [] := fun e => h (List.append_eq_nil_iff.1 e).1
    exact ⟨_, [], pmz _, ⟨⟨x, k⟩, bk_of (by simp) hk hn⟩, rfl, by rw [List.append_nil]; exact (bH_len ⟨x, k⟩ hne (by simp)).symm⟩
end Go.Proofs.YtdkkfgcdnojmaaaDoor
