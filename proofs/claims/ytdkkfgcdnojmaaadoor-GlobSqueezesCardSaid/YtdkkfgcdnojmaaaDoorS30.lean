/-
  The walks and the laws that the statement leans on, part 30.
-/
import Derived.Test.YtdkkfgcdnojmaaaDoorS13
import Derived.Test.YtdkkfgcdnojmaaaDoorS29
namespace Go.Proofs.YtdkkfgcdnojmaaaDoor
open Go
set_option linter.unusedVariables false
set_option linter.unusedSimpArgs false
set_option linter.defProp false
def TFGbD :=
  And.intro (And.intro (And.intro (And.intro (And.intro tyc0 tyc3) (And.intro zmb3 (And.intro tyc4 zmb4))) (And.intro (And.intro tyc5 (And.intro zmb5 tyc9)) (And.intro zmb9 (And.intro tyc21 zmb21)))) (And.intro (And.intro (And.intro tyc34 zmb34) (And.intro tyc35 (And.intro elt35 mkz35))) (And.intro (And.intro apT35 (And.intro elk35 zmb35)) (And.intro tyc37 (And.intro foff37_0 fpart37_0))))) (And.intro (And.intro (And.intro (And.intro foff37_1 fpart37_1) (And.intro zmb37 (And.intro bldT37 tyc39))) (And.intro (And.intro zmb39 (And.intro tyc59 zmb59)) (And.intro tyc69 (And.intro zmb69 Tryd.underlying0)))) (And.intro (And.intro (And.intro Tryd.underlying3 Tryd.underlying4) (And.intro Tryd.underlying5 (And.intro Tryd.underlying9 Tryd.underlying21))) (And.intro (And.intro Tryd.underlying34 (And.intro Tryd.underlying35 Tryd.underlying37)) (And.intro Tryd.underlying39 (And.intro Tryd.underlying59 Tryd.underlying69)))))
theorem Y1GbD {G R : Prop} (r : R) (h : R → G := by intro r; first | (apply WP.region; exact rvc_sound _ _ (Sm.out r)) | exact WP.drawK rfl mixed (by decide +kernel) (Sm.out r) | (apply WP.block; exact r) | (apply WP.skip; exact Yq r) | (apply WP.exit; exact Yq r) | (apply WP.ret; exact Sm.out r) | exact WP.cond rfl (fun _ => r) (fun hg => absurd hg (by decide)) | exact WP.cond rfl (fun hg => absurd hg (by decide)) (fun _ => r) | exact Rt.mk (And.intro (fun _ => Sm.out r) fun hg => absurd hg (by decide)) | exact Rt.mk (And.intro (fun hg => absurd hg (by decide)) fun _ => Sm.out r)) : G := h r
theorem YzGbD {G R : Prop} (r : R) (h : R → G := by intro r; first | (apply ExG.no; exact Sm.out r) | (apply Or.inl; apply ExG.no; exact Sm.out r) | exact Or.inl (And.intro (fun hg => absurd hg (by decide)) (ExG.no (Sm.out r)))) : G := h r
def cH (b : Nat) : List Int → BQ → Hp
  | [], q => [(b, .cells [if q.k = 0 then nps else pt b 0, nsl] 2 37)]
  | z :: r, q => bH b (z :: r) q
theorem cH_ne {b : Nat} {zs : List Int} (q : BQ) (h : zs ≠ []) : cH b zs q = bH b zs q := by
  cases zs with
  | nil => exact absurd rfl h
  | cons z r => rfl
theorem cH_0 (b : Nat) {q : BQ} (h : q.k = 0) : cH b [] q = [(b, bd0)] := by
  show [(b, MB.cells [if q.k = 0 then nps else pt b 0, nsl] 2 37)] = _
  rw [if_pos h]
theorem cH_1 (b : Nat) {q : BQ} (h : ¬ q.k = 0) : cH b [] q = [(b, .cells [pt b 0, nsl] 2 37)] := by
  show [(b, MB.cells [if q.k = 0 then nps else pt b 0, nsl] 2 37)] = _
  rw [if_neg h]
theorem ws0_nil (b : Nat) : ACt Tryd.prog 24 [pt b 0, stz []] [(b, bd0)] (fun r F' => r = .tup [iv .i64 0, nif] ∧ F' = [(b, .cells [pt b 0, nsl] 2 37)]) := by
  have c1 := cc_nil b nsl
  have hs : (bstr []).size = 0 := rfl
  have hu : ((bstr []).data.toList.map fun b => (b.toNat : Int)) = [] := rfl
  obtain ⟨B, hB⟩ : ∃ B, B = bstr [] := ⟨_, rfl⟩
  unfold stz
  rw [← hB] at hs hu ⊢
  refine ACt.intro Tryd.func24 rfl (by kernel_rfl) (by simp [Tryd.ntmps24]) (fun cx => ?_)
  simp only [argE, Tryd.ntmps24, Tryd.results24]
  first | (have FRx := FR; clear FRx) | have FR := fr0S
  have FA := Sm.mk (And.intro TFGbD (And.intro hs hu))
  repeat' first | (apply Sm.mk; refine Ys ?_) | refine WP.seq fun K hK => ?_ | (apply Ob.mk; exact Yo) | refine And.intro (Ob.out ?_) ?_ | refine Y1GbD ?_ | refine Yu (c := c1) (r := ?_) | refine YzGbD ?_ | (refine WP.cond rfl (fun hc => ?_) (fun hc => ?_) <;> (try simp only [ZC, reduceCtorEq, ZD] at hc) <;> (try exact absurd hc (by decide)) <;> (try (exfalso; omega))) | refine Rt.mk (And.intro (fun hg => Sm.out ?_) fun hg => Sm.out ?_) | (refine Nu.mk ?_; first | (fail_if_success have := nb1); intro nb1 | (fail_if_success have := nb2); intro nb2 | (fail_if_success have := nb3); intro nb3 | (fail_if_success have := nb4); intro nb4 | (fail_if_success have := nb5); intro nb5 | (fail_if_success have := nb6); intro nb6 | intro nbz) | (apply Yfr; refine Yf FR fun hFRb FR => ?_) | refine Two.mk ?_ ?_ | (apply Yxc; exact Yx) | refine Cs.mk fun hcs => Sm.out ?_ | go_step | omega | (simp only [maxLen_eq]; omega) | exact trivial
  (refine OutQ.upd (by simp only [resv, ZK, look, loadv, loadn, loadnm, load1, load1m, hget, ↓reduceIte, Nat.reduceEqDiff, Nat.reduceAdd, Nat.reduceMul, Nat.reduceLeDiff, Nat.reduceLT, reduceCtorEq, TFGbD, FR.out, hs]) (by simp only [resv, resA, ZK, look, loadv, loadn, loadnm, load1, load1m, hget, ↓reduceIte, Nat.reduceEqDiff, Nat.reduceAdd, Nat.reduceMul, Nat.reduceLeDiff, Nat.reduceLT, reduceCtorEq, TFGbD, FR.out, hs]; first | done | rfl) (by simp only [hget, ↓reduceIte, if_true, if_false, FR.out, hs]; first | done | rfl) ?_ <;> first | exact rfl | (simp only [ZK, look, loadv, loadn, loadnm, load1, load1m, hget, ↓reduceIte, Nat.reduceEqDiff, Nat.reduceAdd, Nat.reduceMul, Nat.reduceLeDiff, Nat.reduceLT, reduceCtorEq, TFGbD, FR.out, hs]; done) | skip)
theorem ws0_nilp (b : Nat) : ACt Tryd.prog 24 [pt b 0, stz []] [(b, .cells [pt b 0, nsl] 2 37)] (fun r F' => r = .tup [iv .i64 0, nif] ∧ F' = [(b, .cells [pt b 0, nsl] 2 37)]) := by
  have c1 := cc_used b nsl
  have hs : (bstr []).size = 0 := rfl
  have hu : ((bstr []).data.toList.map fun b => (b.toNat : Int)) = [] := rfl
  obtain ⟨B, hB⟩ : ∃ B, B = bstr [] := ⟨_, rfl⟩
  unfold stz
  rw [← hB] at hs hu ⊢
  refine ACt.intro Tryd.func24 rfl (by kernel_rfl) (by simp [Tryd.ntmps24]) (fun cx => ?_)
  simp only [argE, Tryd.ntmps24, Tryd.results24]
  first | (have FRx := FR; clear FRx) | have FR := fr0S
  have FA := Sm.mk (And.intro TFGbD (And.intro hs hu))
  repeat' first | (apply Sm.mk; refine Ys ?_) | refine WP.seq fun K hK => ?_ | (apply Ob.mk; exact Yo) | refine And.intro (Ob.out ?_) ?_ | refine Y1GbD ?_ | refine Yu (c := c1) (r := ?_) | refine YzGbD ?_ | (refine WP.cond rfl (fun hc => ?_) (fun hc => ?_) <;> (try simp only [ZC, reduceCtorEq, ZD] at hc) <;> (try exact absurd hc (by decide)) <;> (try (exfalso; omega))) | refine Rt.mk (And.intro (fun hg => Sm.out ?_) fun hg => Sm.out ?_) | (refine Nu.mk ?_; first | (fail_if_success have := nb1); intro nb1 | (fail_if_success have := nb2); intro nb2 | (fail_if_success have := nb3); intro nb3 | (fail_if_success have := nb4); intro nb4 | (fail_if_success have := nb5); intro nb5 | (fail_if_success have := nb6); intro nb6 | intro nbz) | (apply Yfr; refine Yf FR fun hFRb FR => ?_) | refine Two.mk ?_ ?_ | (apply Yxc; exact Yx) | refine Cs.mk fun hcs => Sm.out ?_ | go_step | omega | (simp only [maxLen_eq]; omega) | exact trivial
  (refine OutQ.upd (by simp only [resv, ZK, look, loadv, loadn, loadnm, load1, load1m, hget, ↓reduceIte, Nat.reduceEqDiff, Nat.reduceAdd, Nat.reduceMul, Nat.reduceLeDiff, Nat.reduceLT, reduceCtorEq, TFGbD, FR.out, hs]) (by simp only [resv, resA, ZK, look, loadv, loadn, loadnm, load1, load1m, hget, ↓reduceIte, Nat.reduceEqDiff, Nat.reduceAdd, Nat.reduceMul, Nat.reduceLeDiff, Nat.reduceLT, reduceCtorEq, TFGbD, FR.out, hs]; first | done | rfl) (by simp only [hget, ↓reduceIte, if_true, if_false, FR.out, hs]; first | done | rfl) ?_ <;> first | exact rfl | (simp only [ZK, look, loadv, loadn, loadnm, load1, load1m, hget, ↓reduceIte, Nat.reduceEqDiff, Nat.reduceAdd, Nat.reduceMul, Nat.reduceLeDiff, Nat.reduceLT, reduceCtorEq, TFGbD, FR.out, hs]; done) | skip)
theorem ws_nilp (b : Nat) (xs : List Int) (hb : By xs) (h0 : 0 < xs.length) (hl : xs.length ≤ 1000) :
    ACt Tryd.prog 24 [pt b 0, stz xs] [(b, .cells [pt b 0, nsl] 2 37)] (fun r F' => ∃ x k : Nat, (xs.length ≤ k ∧ k ≤ 9223372036854775807) ∧ r = .tup [iv .i64 (xs.length : Int), nif] ∧ F' = [(x, .zs .u8 xs k 5), (b, bdM b x xs.length k)]) := by
  have c1 := cc_used b nsl
  have hs := bstr_size xs
  have hu : ((bstr xs).data.toList.map fun b => (b.toNat : Int)) = xs := ubx xs hb
  obtain ⟨B, hB⟩ : ∃ B, B = bstr xs := ⟨_, rfl⟩
  unfold stz
  rw [← hB] at hs hu ⊢
  refine ACt.intro Tryd.func24 rfl (by kernel_rfl) (by simp [Tryd.ntmps24]) (fun cx => ?_)
  simp only [argE, Tryd.ntmps24, Tryd.results24]
  have l1 : xs.length ≤ 9223372036854775807 ∧ xs.length * 1 ≤ 140737488355328 := by omega
  first | (have FRx := FR; clear FRx) | have FR := fr0S
  have FA := Sm.mk (And.intro TFGbD (And.intro hs (And.intro hu (And.intro h0 l1))))
  repeat' first | (apply Sm.mk; refine Ys ?_) | refine WP.seq fun K hK => ?_ | (apply Ob.mk; exact Yo) | refine And.intro (Ob.out ?_) ?_ | refine Y1GbD ?_ | refine Yu (c := c1) (r := ?_) | refine YzGbD ?_ | (refine WP.cond rfl (fun hc => ?_) (fun hc => ?_) <;> (try simp only [ZC, reduceCtorEq, ZD] at hc) <;> (try exact absurd hc (by decide)) <;> (try (exfalso; omega))) | refine Rt.mk (And.intro (fun hg => Sm.out ?_) fun hg => Sm.out ?_) | (refine Nu.mk ?_; first | (fail_if_success have := nb1); intro nb1 | (fail_if_success have := nb2); intro nb2 | (fail_if_success have := nb3); intro nb3 | (fail_if_success have := nb4); intro nb4 | (fail_if_success have := nb5); intro nb5 | (fail_if_success have := nb6); intro nb6 | intro nbz) | (apply Yfr; refine Yf FR fun hFRb FR => ?_) | refine Two.mk ?_ ?_ | (apply Yxc; exact Yx) | refine Cs.mk fun hcs => Sm.out ?_ | go_step | omega | (simp only [maxLen_eq]; omega) | exact trivial
  (refine OutQ.drop _ _ (perm2 (by simp only [hget, hdel, ↓reduceIte, if_true, if_false, FR.out, hs]; first | done | rfl) (by simp only [hget, hdel, ↓reduceIte, if_true, if_false, FR.out, hs]; first | done | rfl)) (by simp only [resv, ZK, look, loadv, loadn, loadnm, load1, load1m, hget, ↓reduceIte, Nat.reduceEqDiff, Nat.reduceAdd, Nat.reduceMul, Nat.reduceLeDiff, Nat.reduceLT, reduceCtorEq, TFGbD, FR.out, hs]) ⟨nb1, nb2, hFRb, (by simp only [resv, resA, ZK, look, loadv, loadn, loadnm, load1, load1m, hget, ↓reduceIte, Nat.reduceEqDiff, Nat.reduceAdd, Nat.reduceMul, Nat.reduceLeDiff, Nat.reduceLT, reduceCtorEq, TFGbD, FR.out, hs]; first | done | rfl), rfl⟩)
theorem wrG_nilp (b : Nat) (c : Int) (hc : Gr c) : ACt Tryd.prog 26 [pt b 0, iv .i32 c] [(b, .cells [pt b 0, nsl] 2 37)] (fun r F' => ∃ x k : Nat, ((enc8 c).length ≤ k ∧ k ≤ 9223372036854775807) ∧ r = .tup [iv .i64 ((enc8 c).length : Int), nif] ∧ F' = [(x, .zs .u8 (enc8 c) k 5), (b, .cells [pt b 0, ms x 0 (enc8 c).length k] 2 37)]) := by
  have c1 := cc_used b nsl
  have cA := arG_nil c hc
  have hl := enc8_len c
  obtain ⟨E, hE⟩ : ∃ E, E = enc8 c := ⟨_, rfl⟩
  rw [← hE] at cA hl ⊢
  obtain ⟨l, hl'⟩ : ∃ l, l = E.length := ⟨_, rfl⟩
  rw [← hl'] at cA hl ⊢
  have w1 : IntKind.i64.wrap ((l : Int) - 0) = (l : Int) := by rw [wrap_i64 (by omega) (by omega)]; omega
  refine ACt.intro Tryd.func26 rfl (by kernel_rfl) (by simp [Tryd.ntmps26]) (fun cx => ?_)
  simp only [argE, Tryd.ntmps26, Tryd.results26]
  first | (have FRx := FR; clear FRx) | have FR := fr0S
  have FA := Sm.mk (And.intro TFGbD w1)
  repeat' first | (apply Sm.mk; refine Ys ?_) | refine WP.seq fun K hK => ?_ | (apply Ob.mk; exact Yo) | refine And.intro (Ob.out ?_) ?_ | refine Y1GbD ?_ | (refine CallV.upd (by simp only [hget, ↓reduceIte, FR.out, w1]; first | done | rfl) (c1) (Sm.out ?_)) | refine CallV.newC (cA) (List.Perm.refl _) (fun _ _ => rfl) (Sm.out ?_) | refine YzGbD ?_ | (refine WP.cond rfl (fun hc => ?_) (fun hc => ?_) <;> (try simp only [ZC, reduceCtorEq, ZD] at hc) <;> (try exact absurd hc (by decide)) <;> (try (exfalso; omega))) | refine Rt.mk (And.intro (fun hg => Sm.out ?_) fun hg => Sm.out ?_) | (refine Nu.mk ?_; first | (fail_if_success have := nb1); intro nb1 | (fail_if_success have := nb2); intro nb2 | (fail_if_success have := nb3); intro nb3 | (fail_if_success have := nb4); intro nb4 | (fail_if_success have := nb5); intro nb5 | (fail_if_success have := nb6); intro nb6 | intro nbz) | (apply Yfr; refine Yf FR fun hFRb FR => ?_) | refine Two.mk ?_ ?_ | (apply Yxc; exact Yx) | refine Cs.mk fun hcs => Sm.out ?_ | go_step | omega | (simp only [maxLen_eq]; omega) | exact trivial
  (refine OutQ.drop _ _ (perm2 (by simp only [hget, hdel, ↓reduceIte, if_true, if_false, FR.out, w1]; first | done | rfl) (by simp only [hget, hdel, ↓reduceIte, if_true, if_false, FR.out, w1]; first | done | rfl)) (by simp only [resv, ZK, look, loadv, loadn, loadnm, load1, load1m, hget, ↓reduceIte, Nat.reduceEqDiff, Nat.reduceAdd, Nat.reduceMul, Nat.reduceLeDiff, Nat.reduceLT, reduceCtorEq, TFGbD, FR.out, w1]) ⟨nb1, nb2, FR.out.1.1, (by simp only [resv, resA, ZK, look, loadv, loadn, loadnm, load1, load1m, hget, ↓reduceIte, Nat.reduceEqDiff, Nat.reduceAdd, Nat.reduceMul, Nat.reduceLeDiff, Nat.reduceLT, reduceCtorEq, TFGbD, FR.out, w1]; first | done | rfl), rfl⟩)
theorem ws_c {b : Nat} {zs : List Int} {q : BQ} (hq : bOk b zs q) (hz : zs.length ≤ 50000) (xs : List Int) (hb : By xs) (hl : xs.length ≤ 1000) :
    ACt Tryd.prog 24 [pt b 0, stz xs] (cH b zs q) (fun r F' => ∃ g : BS b (zs ++ xs), r = .tup [iv .i64 (xs.length : Int), nif] ∧ F' = cH b (zs ++ xs) g.1) := by
  by_cases h : zs = []
  · subst h
    by_cases hx : xs = []
    · subst hx
      have e1 : bOk b [] ⟨0, 1⟩ := fun h => absurd rfl h
      by_cases hk : q.k = 0
      · rw [cH_0 b hk]
        exact (ws0_nil b).mono fun r F' ⟨h1, h2⟩ => ⟨⟨⟨0, 1⟩, e1⟩, h1, h2⟩
      · rw [cH_1 b hk]
        exact (ws0_nilp b).mono fun r F' ⟨h1, h2⟩ => ⟨⟨⟨0, 1⟩, e1⟩, h1, h2⟩
    · have hne : [] ++ xs ≠ [] := hx
      have hf : ACt Tryd.prog 24 [pt b 0, stz xs] (cH b [] q) (fun r F' => ∃ x k : Nat, (xs.length ≤ k ∧ k ≤ 9223372036854775807) ∧ r = .tup [iv .i64 (xs.length : Int), nif] ∧ F' = [(x, .zs .u8 xs k 5), (b, bdM b x xs.length k)]) := by
        by_cases hk : q.k = 0
        · rw [cH_0 b hk]; exact ws_nil b xs hb (List.length_pos_iff.2 hx) hl
        · rw [cH_1 b hk]; exact ws_nilp b xs hb (List.length_pos_iff.2 hx) hl
      refine ACt.frm (R := []) hf (pmz _) fun r F' hr hn => ?_
      obtain ⟨x, k, hk, e1, e2⟩ := hr
      subst e1 e2
      exact ⟨_, [], pmz _, ⟨⟨x, k⟩, bk_of (by simp) hk hn⟩, rfl, by rw [cH_ne _ hne, bH_ne _ hne]; rfl⟩
  · obtain ⟨hd, hk1, hk2⟩ := hq h
    rw [cH_ne q h, bH_ne q h]
    refine ACt.frm (R := []) (ws_used b q.x zs.length q.k zs xs hd rfl ⟨hk1, hk2⟩ hb hl (by omega)) (pmz _) fun r F' hr hn => ?_
    obtain ⟨x, k, hk, e1, e2⟩ := hr
    subst e1 e2
    have hne : zs ++ xs ≠ [] := fun e => h (List.append_eq_nil_iff.1 e).1
    exact ⟨_, [], pmz _, ⟨⟨x, k⟩, bk_of (by simp) hk hn⟩, rfl, by rw [List.append_nil, cH_ne _ hne]; exact (bH_len ⟨x, k⟩ hne (by simp)).symm⟩
theorem wr_c {b : Nat} {zs : List Int} {q : BQ} (hq : bOk b zs q) (hz : zs.length ≤ 50000) (c : Int) (hc : Gr c) :
    ACt Tryd.prog 26 [pt b 0, iv .i32 c] (cH b zs q) (fun r F' => ∃ g : BS b (zs ++ enc8 c), r = .tup [iv .i64 ((enc8 c).length : Int), nif] ∧ F' = cH b (zs ++ enc8 c) g.1) := by
  have hl := enc8_len c
  have hne' : enc8 c ≠ [] := fun e => by rw [e] at hl; simp at hl
  by_cases h : zs = []
  · subst h
    have hne : [] ++ enc8 c ≠ [] := hne'
    have hf : ACt Tryd.prog 26 [pt b 0, iv .i32 c] (cH b [] q) (fun r F' => ∃ x k : Nat, ((enc8 c).length ≤ k ∧ k ≤ 9223372036854775807) ∧ r = .tup [iv .i64 ((enc8 c).length : Int), nif] ∧ F' = [(x, .zs .u8 (enc8 c) k 5), (b, .cells [pt b 0, ms x 0 (enc8 c).length k] 2 37)]) := by
      by_cases hk : q.k = 0
      · rw [cH_0 b hk]; exact wrG_nil b c hc
      · rw [cH_1 b hk]; exact wrG_nilp b c hc
    refine ACt.frm (R := []) hf (pmz _) fun r F' hr hn => ?_
    obtain ⟨x, k, hk, e1, e2⟩ := hr
    subst e1 e2
    exact ⟨_, [], pmz _, ⟨⟨x, k⟩, bk_of (by simp) hk hn⟩, rfl, by rw [cH_ne _ hne, bH_ne _ hne]; rfl⟩
  · have hw := wrG_b hq hz c hc
    rw [← cH_ne q h] at hw
    have hne : zs ++ enc8 c ≠ [] := fun e => h (List.append_eq_nil_iff.1 e).1
    exact hw.mono fun r F' ⟨g, h1, h2⟩ => ⟨g, h1, by rw [cH_ne _ hne]; exact h2⟩
theorem str_c {b : Nat} {zs : List Int} {q : BQ} (hq : bOk b zs q) (h : zs ≠ []) (hz : zs.length ≤ 50000) : ACt Tryd.prog 27 [pt b 0] (cH b zs q) (Fn (stz zs)) := by
  rw [cH_ne q h]; exact str_b hq h hz
end Go.Proofs.YtdkkfgcdnojmaaaDoor
