/-
  The walks and the laws that the statement leans on, part 32.
-/
import Derived.Test.YtfknbndmabogjaaDoorB9
import Derived.Test.YtfknbndmabogjaaDoorB31
namespace Go.Proofs.YtfknbndmabogjaaDoor
open Go
set_option linter.unusedVariables false
set_option linter.unusedSimpArgs false
set_option linter.defProp false
def TFOuU :=
  And.intro (And.intro (And.intro (And.intro (And.intro tyc0 (And.intro tyc3 zmb3)) (And.intro (And.intro tyc4 zmb4) (And.intro tyc24 elt24))) (And.intro (And.intro mkz24 (And.intro mkc24 apT24)) (And.intro (And.intro elk24 zmb24) (And.intro tyc29 foff29_0)))) (And.intro (And.intro (And.intro fpart29_0 (And.intro foff29_1 fpart29_1)) (And.intro (And.intro foff29_2 fpart29_2) (And.intro foff29_3 fpart29_3))) (And.intro (And.intro foff29_4 (And.intro fpart29_4 fe29)) (And.intro (And.intro zmb29 bldT29) (And.intro tyc38 foff38_0))))) (And.intro (And.intro (And.intro (And.intro fpart38_0 (And.intro foff38_1 fpart38_1)) (And.intro (And.intro foff38_2 fpart38_2) (And.intro foff38_3 fpart38_3))) (And.intro (And.intro foff38_4 (And.intro fpart38_4 zmb38)) (And.intro (And.intro bldT38 tyc43) (And.intro elt43 mkz43)))) (And.intro (And.intro (And.intro mkc43 (And.intro apT43 elk43)) (And.intro (And.intro zmb43 tyc75) (And.intro zmb75 Tryd.underlying0))) (And.intro (And.intro Tryd.underlying3 (And.intro Tryd.underlying4 Tryd.underlying24)) (And.intro (And.intro Tryd.underlying29 Tryd.underlying38) (And.intro Tryd.underlying43 Tryd.underlying75)))))
theorem Y1OuU {G R : Prop} (r : R) (h : R → G := by intro r; first | (apply WP.region; exact rvc_sound _ _ (Sm.out r)) | exact WP.drawK rfl mixed (by decide +kernel) (Sm.out r) | (apply WP.block; exact r) | (apply WP.skip; exact Yq r) | (apply WP.exit; exact Yq r) | (apply WP.ret; exact Sm.out r) | exact WP.cond rfl (fun _ => r) (fun hg => absurd hg (by decide)) | exact WP.cond rfl (fun hg => absurd hg (by decide)) (fun _ => r) | exact Rt.mk (And.intro (fun _ => Sm.out r) fun hg => absurd hg (by decide)) | exact Rt.mk (And.intro (fun hg => absurd hg (by decide)) fun _ => Sm.out r)) : G := h r
theorem YzOuU {G R : Prop} (r : R) (h : R → G := by intro r; first | (apply ExG.no; exact Sm.out r) | (apply Or.inl; apply ExG.no; exact Sm.out r) | exact Or.inl (And.intro (fun hg => absurd hg (by decide)) (ExG.no (Sm.out r)))) : G := h r
theorem YsOuU0 {P Q : Prop} (q : Q) (h : P = Q := by (try (conv => lhs; simp -dsimp only [ZK, rvc, capA, appA, litL, mkfv, drawF, headN, pureH, stp, dvc, calleeOf, gcall, pev, eff, newB, okd, og, ogs, ogo, ogp, slv, bltv, opd, litv, strip, one, both, putE, St.put, look, gdOf, gdv, picka, pickv, pickw, binv, bini, bins, binb, binp, binq, isSlT, bina, shp, eqCells, unv, convv, nilv, faddv, addp, idxav, idxp, load1, load1m, loadn, loadnm, loadv, hget, hset, hrep, hdel, slicev, slice3v, bnd, shift1, lenv, capv, IntKind.bits, extractv, fieldv, indexv, min2v, max2v, mkiv, tasv, tasz, cellsA, fillA, buildv, stC, oneC, rowMB, intsA, plN, appE, appZ, appC, appS, srcB, appNZ, appNC, VwL, srcC, srcZ, srcM, isBoolT, isPtrT, isSliceT, uOk, Value.oneCell', Nat.reducePow, Int.reducePow, Nat.reduceAdd, Nat.reduceMul, Nat.reduceSub, Nat.reduceLT, Nat.reduceLeDiff, Nat.reduceEqDiff, Nat.reduceBEq, Nat.reduceDiv, Nat.reduceMod, ↓reduceIte, reduceCtorEq, Int.reduceToNat, Int.reduceLT, Int.reduceLE, TFOuU, SeqQ, BlkQ, LoopQ, BodyQ, hin, FA.out, FR.out])) <;> exact rfl) : P := h.mpr q
theorem YsOuU1 {P Q : Prop} (q : Q) (h : P = Q := by (try (conv => lhs; simp -dsimp only [ZK, rvc, capA, appA, litL, mkfv, drawF, headN, pureH, stp, dvc, calleeOf, gcall, pev, eff, newB, okd, og, ogs, ogo, ogp, slv, bltv, opd, litv, strip, one, both, putE, St.put, look, gdOf, gdv, picka, pickv, pickw, binv, bini, bins, binb, binp, binq, isSlT, bina, shp, eqCells, unv, convv, nilv, faddv, addp, idxav, idxp, load1, load1m, loadn, loadnm, loadv, hget, hset, hrep, hdel, slicev, slice3v, bnd, shift1, lenv, capv, IntKind.bits, extractv, fieldv, indexv, min2v, max2v, mkiv, tasv, tasz, cellsA, fillA, buildv, stC, oneC, rowMB, intsA, plN, appE, appZ, appC, appS, srcB, appNZ, appNC, VwL, srcC, srcZ, srcM, isBoolT, isPtrT, isSliceT, uOk, Value.oneCell', Nat.reducePow, Int.reducePow, Nat.reduceAdd, Nat.reduceMul, Nat.reduceSub, Nat.reduceLT, Nat.reduceLeDiff, Nat.reduceEqDiff, Nat.reduceBEq, Nat.reduceDiv, Nat.reduceMod, ↓reduceIte, reduceCtorEq, Int.reduceToNat, Int.reduceLT, Int.reduceLE, TFOuU, SeqQ, BlkQ, LoopQ, BodyQ, stL, Nat.zero_add, Nat.sub_zero, FA.out, FR.out])) <;> exact rfl) : P := h.mpr q
theorem ecs_set9 : ∀ (l : List En) (j : Nat) (h : j < l.length) (v : En), (ecs l).take (j * 9) ++ [.lit (.string v.k.g), .lit (.string v.k.r), bv v.k.p, iv .u64 v.k.e, bv v.k.s, iv .i64 v.b, iv .i64 v.n, iv .i64 v.t, bv v.a] ++ (ecs l).drop (j * 9 + 9) = ecs (l.set j v) := fun l j h v => by
  rw [show j * 9 + 9 = (j + 1) * 9 by omega, ecs_take _ _ (by omega), ecs_drop' _ _ (by omega), List.set_eq_take_append_cons_drop, if_pos h, ecs_app, List.append_assoc]
  rfl
theorem repA_ln (n : Nat) (z : List AV) : (repA n z).length = n * z.length := by unfold repA; simp
theorem repA_one9 (n : Nat) {z : List AV} (h : z.all oneC = true) : (repA n z).all oneC = true := by
  unfold repA
  rw [List.all_eq_true]
  intro y hy
  obtain ⟨w, hw, hyw⟩ := List.mem_flatten.1 hy
  rw [(List.mem_replicate.1 hw).2] at hyw
  exact List.all_eq_true.1 h y hyw
noncomputable def dlB (ks : List Ky) (e : En) : Bool := e.a && !hasB ks e.k
def ixF (p : En → Bool) : List En → Int → Int
  | [], _ => -1
  | e :: r, i => if p e then i else ixF p r (i + 1)
theorem ixF_drop (p : En → Bool) (l : List En) {i : Nat} (h : i < l.length) : ixF p (l.drop i) (i : Int) = if p l[i] then (i : Int) else ixF p (l.drop (i + 1)) ((i + 1 : Nat) : Int) := by
  rw [List.drop_eq_getElem_cons h]
  rfl
theorem ixF_spec (p : En → Bool) : ∀ (l : List En) (i : Nat), (ixF p l (i : Int) = -1 ∧ l.filter (fun e => !p e) = l) ∨ ∃ q, ∃ h : q < l.length, ixF p l (i : Int) = ((i + q : Nat) : Int) ∧ p l[q] = true ∧ (l.take q).filter (fun e => !p e) = l.take q
  | [], i => .inl ⟨rfl, rfl⟩
  | e :: r, i => by
    cases hp : p e with
    | true => exact .inr ⟨0, by simp, by simp [ixF, hp], by simpa using hp, rfl⟩
    | false =>
      rcases ixF_spec p r (i + 1) with ⟨h1, h2⟩ | ⟨q, hq, h1, h2, h3⟩
      · refine .inl ⟨?_, by rw [List.filter_cons, hp]; simp only [Bool.not_false, if_true, h2]⟩
        rw [ixF, hp, if_neg Bool.false_ne_true]
        exact_mod_cast h1
      · refine .inr ⟨q + 1, by simpa using hq, ?_, by simpa using h2, by rw [List.take_succ_cons, List.filter_cons, hp]; simp only [Bool.not_false, if_true, h3]⟩
        rw [ixF, hp, if_neg Bool.false_ne_true]
        rw [show ((i : Int) + 1) = ((i + 1 : Nat) : Int) by omega, h1]
        congr 1; omega
abbrev kbs (m : Nat) (ks : List Ky) : MB := .cells [.sl m (kcs ks)] 1 43
abbrev fSt (b : Nat) : AV := .lit (.func (.func 53) #[] #[.pointer (some ⟨b, 0, none⟩)])
theorem st_ct (e : En) (ks : List Ky) (m b : Nat) (hm : ks.length = m) (hml : m ≤ 100000) : ACt Tryd.prog 53 [ev e, pt b 0] [(b, kbs m ks)] (fun r F' => r = bv (dlB ks e) ∧ F' = [(b, kbs m ks)]) := by
  have cC := contains_ct ks e.k m hm hml
  unfold dlB kbs
  obtain ⟨q, hq⟩ : ∃ q, hasB ks e.k = q := ⟨_, rfl⟩
  rw [hq] at cC ⊢
  obtain ⟨K1, hK1⟩ : ∃ K, K = kcs ks := ⟨_, rfl⟩
  rw [← hK1] at cC ⊢
  clear hq hK1
  obtain ⟨⟨kg, kr, kp, ke, ks⟩, eb, en, et, ea⟩ := e
  simp only at cC ⊢
  refine ACt.intro Tryd.func53 rfl (by kernel_rfl) (by simp [Tryd.ntmps53]) (fun cx => ?_)
  simp only [argE, Tryd.ntmps53, Tryd.results53]
  first | (have FRx := FR; clear FRx) | have FR := fr0S
  have FA := Sm.mk (TFOuU)
  repeat' first | (apply Sm.mk; refine Ys ?_) | refine WP.seq fun K hK => ?_ | (apply Ob.mk; exact Yo) | refine And.intro (Ob.out ?_) ?_ | refine Y1OuU ?_ | refine Yc (c := cC) (r := ?_) | refine YzOuU ?_ | (refine WP.cond rfl (fun hc => ?_) (fun hc => ?_) <;> (try simp only [ZC, reduceCtorEq, ZD] at hc) <;> (try exact absurd hc (by decide)) <;> (try (exfalso; omega))) | refine Rt.mk (And.intro (fun hg => Sm.out ?_) fun hg => Sm.out ?_) | (refine Nu.mk ?_; first | (fail_if_success have := nb1); intro nb1 | (fail_if_success have := nb2); intro nb2 | (fail_if_success have := nb3); intro nb3 | (fail_if_success have := nb4); intro nb4 | (fail_if_success have := nb5); intro nb5 | (fail_if_success have := nb6); intro nb6 | (fail_if_success have := nb7); intro nb7 | (fail_if_success have := nb8); intro nb8 | (fail_if_success have := nb9); intro nb9 | (fail_if_success have := nb10); intro nb10 | intro nbz) | (apply Yfr; refine Yf FR fun hFRb FR => ?_) | refine Two.mk ?_ ?_ | (apply Yxc; exact Yx) | refine Cs.mk fun hcs => Sm.out ?_ | go_step | omega | (simp only [maxLen_eq]; omega) | exact trivial
  (refine OutQ.upd (by simp only [resv, ZK, look, loadv, loadn, loadnm, load1, load1m, hget, ↓reduceIte, Nat.reduceEqDiff, Nat.reduceAdd, Nat.reduceMul, Nat.reduceLeDiff, Nat.reduceLT, reduceCtorEq, TFOuU, FR.out]) (by simp only [resv, resA, ZK, look, loadv, loadn, loadnm, load1, load1m, hget, ↓reduceIte, Nat.reduceEqDiff, Nat.reduceAdd, Nat.reduceMul, Nat.reduceLeDiff, Nat.reduceLT, reduceCtorEq, TFOuU, FR.out]; first | done | rfl) (by simp only [hget, ↓reduceIte, if_true, if_false, FR.out]; first | done | rfl) ?_ <;> first | exact rfl | (simp only [ZK, look, loadv, loadn, loadnm, load1, load1m, hget, ↓reduceIte, Nat.reduceEqDiff, Nat.reduceAdd, Nat.reduceMul, Nat.reduceLeDiff, Nat.reduceLT, reduceCtorEq, TFOuU, FR.out]; done) | skip)
theorem ixf_ct (l : List En) (ks : List Ky) (n m k x b : Nat) (hn : l.length = n) (hm : ks.length = m) (hl : n ≤ 100000) (hml : m ≤ 100000) (hk : n ≤ k ∧ k ≤ 9223372036854775807) (hxb : x ≠ b ∧ b ≠ x) :
    ACt Tryd.prog 49 [ms x 0 n k, fSt b] [(x, .cells (ecs l) (k * 9) 38), (b, kbs m ks)] (fun r F' => r = iv .i64 (ixF (dlB ks) l 0) ∧ F' = [(x, .cells (ecs l) (k * 9) 38), (b, kbs m ks)]) := by
  have hCl := ecs_len l
  have hdr := ecs_drop l
  have hix := fun (i : Nat) (h : i < l.length) => ixF_drop (dlB ks) l h
  have cT := fun e => st_ct e ks m b hm hml
  rw [hn] at hCl
  obtain ⟨R, hR⟩ : ∃ R, R = ixF (dlB ks) l 0 := ⟨_, rfl⟩
  rw [← hR]
  obtain ⟨C, hC⟩ : ∃ C, C = ecs l := ⟨_, rfl⟩
  rw [← hC] at hCl hdr ⊢
  unfold kbs at cT ⊢
  obtain ⟨K1, hK1⟩ : ∃ K, K = kcs ks := ⟨_, rfl⟩
  rw [← hK1] at cT ⊢
  unfold fSt
  refine ACt.intro Tryd.func49 rfl (by kernel_rfl) (by simp [Tryd.ntmps49]) (fun cx => ?_)
  simp only [argE, Tryd.ntmps49, Tryd.results49]
  first | (have FRx := FR; clear FRx) | have FR := fr0S
  have FA := Sm.mk (TFOuU)
  repeat' first | (apply Sm.mk; refine Ys ?_) | refine WP.seq fun K hK => ?_ | (apply Ob.mk; exact Yo) | refine And.intro (Ob.out ?_) ?_ | refine Y1OuU ?_ | refine YzOuU ?_ | (refine WP.cond rfl (fun hc => ?_) (fun hc => ?_) <;> (try simp only [ZC, reduceCtorEq, ZD] at hc) <;> (try exact absurd hc (by decide)) <;> (try (exfalso; omega))) | refine Rt.mk (And.intro (fun hg => Sm.out ?_) fun hg => Sm.out ?_) | (refine Nu.mk ?_; first | (fail_if_success have := nb1); intro nb1 | (fail_if_success have := nb2); intro nb2 | (fail_if_success have := nb3); intro nb3 | (fail_if_success have := nb4); intro nb4 | (fail_if_success have := nb5); intro nb5 | (fail_if_success have := nb6); intro nb6 | (fail_if_success have := nb7); intro nb7 | (fail_if_success have := nb8); intro nb8 | (fail_if_success have := nb9); intro nb9 | (fail_if_success have := nb10); intro nb10 | intro nbz) | (apply Yfr; refine Yf FR fun hFRb FR => ?_) | refine Two.mk ?_ ?_ | (apply Yxc; exact Yx) | refine Cs.mk fun hcs => Sm.out ?_ | go_step | omega | (simp only [maxLen_eq]; omega) | exact trivial
  refine WP.loop (Γ := Nat) (fun i => ⟨[(8, iv .i64 (i : Int)), (7, iv .i64 (n : Int)), (0, ms x 0 n k), (1, .lit (.func (.func 53) #[] #[.pointer (some ⟨b, 0, none⟩)]))], [(x, .cells C (k * 9) 38), (b, .cells [.sl m K1] 1 43)]⟩) (fun i => i ≤ n ∧ R = ixF (dlB ks) (l.drop i) (i : Int)) (fun i => n - i) 0 ⟨Nat.zero_le _, by rw [List.drop_zero]; exact hR⟩ (Sub.pick (by simp [pickB, hget, hdel, FR.out, hxb]) (by simp [look, hxb])) ?_
  intro i ⟨hi, hr⟩
  have FR : Sm (¬ ((1 : Nat) = 0)) := Sm.mk Nat.one_ne_zero
  by_cases hin : i < n
  · have ki : decide ((i : Int) < (n : Int)) = true := decide_eq_true (by omega)
    have s1 : IntKind.i64.wrap ((i : Int) + 1) = ((i + 1 : Nat) : Int) := by rw [wrap_i64 (by omega) (by omega)]; omega
    have hd := hdr i (by omega)
    have hix := hix i (by omega)
    obtain ⟨v, hv⟩ : ∃ x, x = l[i]'(by omega) := ⟨_, rfl⟩
    rw [← hv] at hd hix
    have q1 : (i + 1) * 9 ≤ C.length := by omega
    have cF := cT v
    obtain ⟨q, hq⟩ : ∃ q, dlB ks v = q := ⟨_, rfl⟩
    rw [hq] at cF hix
    rw [hix] at hr
    first | (have FRx := FR; clear FRx) | have FR := fr0S
    have FA := Sm.mk (And.intro TFOuU (And.intro ki (And.intro hd (And.intro q1 (And.intro s1 hxb)))))
    repeat' first | (apply Sm.mk; refine YsOuU0 ?_) | refine WP.seq fun K hK => ?_ | (apply Ob.mk; exact Yo) | refine And.intro (Ob.out ?_) ?_ | refine Y1OuU ?_ | (refine CallV.updM (cF) (perm1 (by simp only [hget, hdel, ↓reduceIte, FR.out, ki, hd, q1, hin, s1, hxb]; first | done | rfl)) (Sm.out ?_)) | refine YzOuU ?_ | (refine WP.cond rfl (fun hc => ?_) (fun hc => ?_) <;> (try simp only [ZC, reduceCtorEq, ZD] at hc) <;> (try exact absurd hc (by decide)) <;> (try (exfalso; omega))) | refine Rt.mk (And.intro (fun hg => Sm.out ?_) fun hg => Sm.out ?_) | (refine Nu.mk ?_; first | (fail_if_success have := nb1); intro nb1 | (fail_if_success have := nb2); intro nb2 | (fail_if_success have := nb3); intro nb3 | (fail_if_success have := nb4); intro nb4 | (fail_if_success have := nb5); intro nb5 | (fail_if_success have := nb6); intro nb6 | (fail_if_success have := nb7); intro nb7 | (fail_if_success have := nb8); intro nb8 | (fail_if_success have := nb9); intro nb9 | (fail_if_success have := nb10); intro nb10 | intro nbz) | (apply Yfr; refine Yf FR fun hFRb FR => ?_) | refine Two.mk ?_ ?_ | (apply Yxc; exact Yx) | refine Cs.mk fun hcs => Sm.out ?_ | go_step | omega | (simp only [maxLen_eq]; omega) | exact trivial
    · rw [if_pos hc] at hr
      (refine OutQ.drop _ _ (perm2 (by simp only [hget, hdel, ↓reduceIte, if_true, if_false, FR.out, hr, hxb]; first | done | rfl) (by simp only [hget, hdel, ↓reduceIte, if_true, if_false, FR.out, hr, hxb]; first | done | rfl)) (by simp only [resv, ZK, look, loadv, loadn, loadnm, load1, load1m, hget, ↓reduceIte, Nat.reduceEqDiff, Nat.reduceAdd, Nat.reduceMul, Nat.reduceLeDiff, Nat.reduceLT, reduceCtorEq, TFOuU, FR.out, hr, hxb]) ⟨(by simp only [resv, resA, ZK, look, loadv, loadn, loadnm, load1, load1m, hget, ↓reduceIte, Nat.reduceEqDiff, Nat.reduceAdd, Nat.reduceMul, Nat.reduceLeDiff, Nat.reduceLT, reduceCtorEq, TFOuU, FR.out, hr, hxb]; first | done | rfl), rfl⟩)
    · rw [if_neg (by rw [hc]; simp)] at hr
      exact ⟨i + 1, ⟨by omega, hr⟩, by omega, (Sub.pick (by simp [pickB, hget, hdel, FR.out, hxb]) (by simp [look, hxb]))⟩
  · have ki : decide ((i : Int) < (n : Int)) = false := decide_eq_false (by omega)
    rw [List.drop_eq_nil_of_le (by omega)] at hr
    have hr : R = -1 := hr
    first | (have FRx := FR; clear FRx) | have FR := fr0S
    have FA := Sm.mk (And.intro TFOuU (And.intro ki hxb))
    repeat' first | (apply Sm.mk; refine Ys ?_) | refine WP.seq fun K hK => ?_ | (apply Ob.mk; exact Yo) | refine And.intro (Ob.out ?_) ?_ | refine Y1OuU ?_ | refine YzOuU ?_ | (refine WP.cond rfl (fun hc => ?_) (fun hc => ?_) <;> (try simp only [ZC, reduceCtorEq, ZD] at hc) <;> (try exact absurd hc (by decide)) <;> (try (exfalso; omega))) | refine Rt.mk (And.intro (fun hg => Sm.out ?_) fun hg => Sm.out ?_) | (refine Nu.mk ?_; first | (fail_if_success have := nb1); intro nb1 | (fail_if_success have := nb2); intro nb2 | (fail_if_success have := nb3); intro nb3 | (fail_if_success have := nb4); intro nb4 | (fail_if_success have := nb5); intro nb5 | (fail_if_success have := nb6); intro nb6 | (fail_if_success have := nb7); intro nb7 | (fail_if_success have := nb8); intro nb8 | (fail_if_success have := nb9); intro nb9 | (fail_if_success have := nb10); intro nb10 | intro nbz) | (apply Yfr; refine Yf FR fun hFRb FR => ?_) | refine Two.mk ?_ ?_ | (apply Yxc; exact Yx) | refine Cs.mk fun hcs => Sm.out ?_ | go_step | omega | (simp only [maxLen_eq]; omega) | exact trivial
    (refine OutQ.drop _ _ (perm2 (by simp only [hget, hdel, ↓reduceIte, if_true, if_false, FR.out, hr, hxb]; first | done | rfl) (by simp only [hget, hdel, ↓reduceIte, if_true, if_false, FR.out, hr, hxb]; first | done | rfl)) (by simp only [resv, ZK, look, loadv, loadn, loadnm, load1, load1m, hget, ↓reduceIte, Nat.reduceEqDiff, Nat.reduceAdd, Nat.reduceMul, Nat.reduceLeDiff, Nat.reduceLT, reduceCtorEq, TFOuU, FR.out, hr, hxb]) ⟨(by simp only [resv, resA, ZK, look, loadv, loadn, loadnm, load1, load1m, hget, ↓reduceIte, Nat.reduceEqDiff, Nat.reduceAdd, Nat.reduceMul, Nat.reduceLeDiff, Nat.reduceLT, reduceCtorEq, TFOuU, FR.out, hr, hxb]; first | done | rfl), rfl⟩)
theorem take_keep {ks : List Ky} {l D : List En} {i j : Nat} (hj : j < l.length) (hij : i < j) (hD : D.length = l.length) (h1 : D.take i = (l.take j).filter (fun e => !dlB ks e)) (h2 : D.drop j = l.drop j) (hp : dlB ks l[j] = false) :
    (D.set i l[j]).length = l.length ∧ (D.set i l[j]).take (i + 1) = (l.take (j + 1)).filter (fun e => !dlB ks e) ∧ (D.set i l[j]).drop (j + 1) = l.drop (j + 1) := by
  refine ⟨by simp [hD], ?_, ?_⟩
  · rw [List.take_succ_eq_append_getElem hj, List.filter_append, ← h1, List.take_succ_eq_append_getElem (by simp; omega), List.take_set_of_le (Nat.le_refl _)]
    simp [hp]
  · rw [List.drop_set_of_lt (by omega)]
    have := congrArg (List.drop 1) h2
    rwa [List.drop_drop, List.drop_drop] at this
theorem drop_keep {ks : List Ky} {l D : List En} {i j : Nat} (hj : j < l.length) (h1 : D.take i = (l.take j).filter (fun e => !dlB ks e)) (h2 : D.drop j = l.drop j) (hp : dlB ks l[j] = true) :
    D.take i = (l.take (j + 1)).filter (fun e => !dlB ks e) ∧ D.drop (j + 1) = l.drop (j + 1) := by
  refine ⟨?_, ?_⟩
  · rw [List.take_succ_eq_append_getElem hj, List.filter_append, ← h1]
    simp [hp]
  · have := congrArg (List.drop 1) h2
    rwa [List.drop_drop, List.drop_drop] at this
set_option maxHeartbeats 4000000 in
theorem dlf_ct (l : List En) (ks : List Ky) (n m k x b : Nat) (hn : l.length = n) (hm : ks.length = m) (hl : n ≤ 100000) (hml : m ≤ 100000) (hk : n ≤ k ∧ k ≤ 9223372036854775807) (hxb : x ≠ b ∧ b ≠ x) :
    ACt Tryd.prog 52 [ms x 0 n k, fSt b] [(x, .cells (ecs l) (k * 9) 38), (b, kbs m ks)] (fun r F' => r = ms x 0 (l.filter (fun e => !dlB ks e)).length k ∧ F' = [(x, .cells (ecs (l.filter (fun e => !dlB ks e))) (k * 9) 38), (b, kbs m ks)]) := by
  have cI := ixf_ct l ks n m k x b hn hm hl hml hk hxb
  have cT := fun e => st_ct e ks m b hm hml
  have hsp := ixF_spec (dlB ks) l 0
  rw [show ((0 : Nat) : Int) = 0 from rfl] at hsp
  obtain ⟨R, hR⟩ : ∃ R, R = l.filter (fun e => !dlB ks e) := ⟨_, rfl⟩
  rw [← hR] at hsp ⊢
  rcases hsp with ⟨h1, h2⟩ | ⟨q, hq, h1, h2, h3⟩
  · rw [h1] at cI
    rw [h2]
    obtain ⟨C, hC⟩ : ∃ C, C = ecs l := ⟨_, rfl⟩
    rw [← hC] at cI ⊢
    unfold kbs fSt at cI ⊢
    obtain ⟨K1, hK1⟩ : ∃ K, K = kcs ks := ⟨_, rfl⟩
    rw [← hK1] at cI ⊢
    have k0 : ((-1 : Int) == -1) = true := rfl
    refine ACt.intro Tryd.func52 rfl (by kernel_rfl) (by simp [Tryd.ntmps52]) (fun cx => ?_)
    simp only [argE, Tryd.ntmps52, Tryd.results52]
    first | (have FRx := FR; clear FRx) | have FR := fr0S
    have FA := Sm.mk (And.intro TFOuU (And.intro k0 hxb))
    repeat' first | (apply Sm.mk; refine Ys ?_) | refine WP.seq fun K hK => ?_ | (apply Ob.mk; exact Yo) | refine And.intro (Ob.out ?_) ?_ | refine Y1OuU ?_ | refine Yw2 (c := cI) (r := ?_) | refine YzOuU ?_ | (refine WP.cond rfl (fun hc => ?_) (fun hc => ?_) <;> (try simp only [ZC, reduceCtorEq, ZD] at hc) <;> (try exact absurd hc (by decide)) <;> (try (exfalso; omega))) | refine Rt.mk (And.intro (fun hg => Sm.out ?_) fun hg => Sm.out ?_) | (refine Nu.mk ?_; first | (fail_if_success have := nb1); intro nb1 | (fail_if_success have := nb2); intro nb2 | (fail_if_success have := nb3); intro nb3 | (fail_if_success have := nb4); intro nb4 | (fail_if_success have := nb5); intro nb5 | (fail_if_success have := nb6); intro nb6 | (fail_if_success have := nb7); intro nb7 | (fail_if_success have := nb8); intro nb8 | (fail_if_success have := nb9); intro nb9 | (fail_if_success have := nb10); intro nb10 | intro nbz) | (apply Yfr; refine Yf FR fun hFRb FR => ?_) | refine Two.mk ?_ ?_ | (apply Yxc; exact Yx) | refine Cs.mk fun hcs => Sm.out ?_ | go_step | omega | (simp only [maxLen_eq]; omega) | exact trivial
    (refine OutQ.drop _ _ (perm2 (by simp only [hget, hdel, ↓reduceIte, if_true, if_false, FR.out, hn, hxb]; first | done | rfl) (by simp only [hget, hdel, ↓reduceIte, if_true, if_false, FR.out, hn, hxb]; first | done | rfl)) (by simp only [resv, ZK, look, loadv, loadn, loadnm, load1, load1m, hget, ↓reduceIte, Nat.reduceEqDiff, Nat.reduceAdd, Nat.reduceMul, Nat.reduceLeDiff, Nat.reduceLT, reduceCtorEq, TFOuU, FR.out, hn, hxb]) ⟨(by simp only [resv, resA, ZK, look, loadv, loadn, loadnm, load1, load1m, hget, ↓reduceIte, Nat.reduceEqDiff, Nat.reduceAdd, Nat.reduceMul, Nat.reduceLeDiff, Nat.reduceLT, reduceCtorEq, TFOuU, FR.out, hn, hxb]; first | done | rfl), rfl⟩)
  · rw [h1, Nat.zero_add] at cI
    have hst : (l.take q) = (l.take (q + 1)).filter (fun e => !dlB ks e) := by
      rw [List.take_succ_eq_append_getElem hq, List.filter_append, h3]
      simp [h2]
    clear h1 h2 h3
    unfold kbs at cI cT ⊢
    unfold fSt at cI ⊢
    obtain ⟨K1, hK1⟩ : ∃ K, K = kcs ks := ⟨_, rfl⟩
    rw [← hK1] at cI ⊢
    simp only [← hK1] at cT
    have k0 : ((q : Int) == -1) = false := beq_eq_false_iff_ne.2 (by omega)
    have s0 : IntKind.i64.wrap ((q : Int) + 1) = ((q + 1 : Nat) : Int) := by rw [wrap_i64 (by omega) (by omega)]; omega
    obtain ⟨C, hC⟩ : ∃ C, C = ecs l := ⟨_, rfl⟩
    rw [← hC] at cI ⊢
    refine ACt.intro Tryd.func52 rfl (by kernel_rfl) (by simp [Tryd.ntmps52]) (fun cx => ?_)
    simp only [argE, Tryd.ntmps52, Tryd.results52]
    first | (have FRx := FR; clear FRx) | have FR := fr0S
    have FA := Sm.mk (And.intro TFOuU (And.intro k0 (And.intro s0 hxb)))
    repeat' first | (apply Sm.mk; refine Ys ?_) | refine WP.seq fun K hK => ?_ | (apply Ob.mk; exact Yo) | refine And.intro (Ob.out ?_) ?_ | refine Y1OuU ?_ | refine Yw2 (c := cI) (r := ?_) | refine YzOuU ?_ | (refine WP.cond rfl (fun hc => ?_) (fun hc => ?_) <;> (try simp only [ZC, reduceCtorEq, ZD] at hc) <;> (try exact absurd hc (by decide)) <;> (try (exfalso; omega))) | refine Rt.mk (And.intro (fun hg => Sm.out ?_) fun hg => Sm.out ?_) | (refine Nu.mk ?_; first | (fail_if_success have := nb1); intro nb1 | (fail_if_success have := nb2); intro nb2 | (fail_if_success have := nb3); intro nb3 | (fail_if_success have := nb4); intro nb4 | (fail_if_success have := nb5); intro nb5 | (fail_if_success have := nb6); intro nb6 | (fail_if_success have := nb7); intro nb7 | (fail_if_success have := nb8); intro nb8 | (fail_if_success have := nb9); intro nb9 | (fail_if_success have := nb10); intro nb10 | intro nbz) | (apply Yfr; refine Yf FR fun hFRb FR => ?_) | refine Two.mk ?_ ?_ | (apply Yxc; exact Yx) | refine Cs.mk fun hcs => Sm.out ?_ | go_step | omega | (simp only [maxLen_eq]; omega) | exact trivial
    refine WP.loop (Γ := Nat × Nat × List En) (fun g => ⟨[(5, iv .i64 (g.1 : Int)), (6, iv .i64 (g.2.1 : Int)), (0, ms x 0 n k), (1, .lit (.func (.func 53) #[] #[.pointer (some ⟨b, 0, none⟩)]))], [(x, .cells (ecs g.2.2) (k * 9) 38), (b, .cells [.sl m K1] 1 43)]⟩) (fun g => g.1 < g.2.1 ∧ g.2.1 ≤ n ∧ g.2.2.length = n ∧ g.2.2.take g.1 = (l.take g.2.1).filter (fun e => !dlB ks e) ∧ g.2.2.drop g.2.1 = l.drop g.2.1) (fun g => n - g.2.1) (q, q + 1, l) ⟨by simp only; omega, by simp only; omega, hn, hst, rfl⟩ (Sub.pick (by simp [pickB, hget, hdel, FR.out, hxb, hC]) (by simp [look, hxb, hC])) ?_
    intro ⟨i, j, D⟩ ⟨hij, hj, hD, hT, hd⟩
    simp only at hij hj hD hT hd ⊢
    have FR : Sm (¬ ((1 : Nat) = 0)) := Sm.mk Nat.one_ne_zero
    have hCl := ecs_len D
    rw [hD] at hCl
    by_cases hin : j < n
    · have ki : decide ((j : Int) < (n : Int)) = true := decide_eq_true (by omega)
      have s1 : IntKind.i64.wrap ((j : Int) + 1) = ((j + 1 : Nat) : Int) := by rw [wrap_i64 (by omega) (by omega)]; omega
      have s2 : IntKind.i64.wrap ((i : Int) + 1) = ((i + 1 : Nat) : Int) := by rw [wrap_i64 (by omega) (by omega)]; omega
      have hdr := ecs_drop D j (by omega)
      have hv2 : D[j]'(by omega) = l[j]'(by omega) := by
        have := congrArg (fun z => z[0]?) hd
        simpa [List.getElem?_drop, List.getElem?_eq_getElem (show j < D.length by omega), List.getElem?_eq_getElem (show j < l.length by omega)] using this
      rw [hv2] at hdr
      have hK := take_keep (ks := ks) (l := l) (D := D) (i := i) (j := j) (by omega) hij (by omega) hT hd
      have hE := drop_keep (ks := ks) (l := l) (D := D) (i := i) (j := j) (by omega) hT hd
      obtain ⟨v, hv⟩ : ∃ x, x = l[j]'(by omega) := ⟨_, rfl⟩
      rw [← hv] at hdr hK hE
      obtain ⟨C, hC2⟩ : ∃ C, C = ecs D := ⟨_, rfl⟩
      rw [← hC2] at hdr hCl
      simp only [← hC2]
      have q1 : (j + 1) * 9 ≤ C.length := by omega
      have q2 : (i + 1) * 9 ≤ C.length := by omega
      have q3 : i < n := by omega
      have cF := cT v
      obtain ⟨y, hy⟩ : ∃ y, dlB ks v = y := ⟨_, rfl⟩
      rw [hy] at cF hK hE
      have h9 := ecs_set9 D i (by omega) v
      rw [← hC2] at h9
      first | (have FRx := FR; clear FRx) | have FR := fr0S
      have FA := Sm.mk (And.intro TFOuU (And.intro ki (And.intro hdr (And.intro q1 (And.intro q2 (And.intro q3 (And.intro s1 (And.intro s2 (And.intro hxb hCl)))))))))
      repeat' first | (apply Sm.mk; refine YsOuU0 ?_) | refine WP.seq fun K hK => ?_ | (apply Ob.mk; exact Yo) | refine And.intro (Ob.out ?_) ?_ | refine Y1OuU ?_ | (refine CallV.updM (cF) (perm1 (by simp only [hget, hdel, ↓reduceIte, FR.out, ki, hdr, q1, q2, q3, hin, s1, s2, hxb, hCl]; first | done | rfl)) (Sm.out ?_)) | refine YzOuU ?_ | (refine WP.cond rfl (fun hc => ?_) (fun hc => ?_) <;> (try simp only [ZC, reduceCtorEq, ZD] at hc) <;> (try exact absurd hc (by decide)) <;> (try (exfalso; omega))) | refine Rt.mk (And.intro (fun hg => Sm.out ?_) fun hg => Sm.out ?_) | (refine Nu.mk ?_; first | (fail_if_success have := nb1); intro nb1 | (fail_if_success have := nb2); intro nb2 | (fail_if_success have := nb3); intro nb3 | (fail_if_success have := nb4); intro nb4 | (fail_if_success have := nb5); intro nb5 | (fail_if_success have := nb6); intro nb6 | (fail_if_success have := nb7); intro nb7 | (fail_if_success have := nb8); intro nb8 | (fail_if_success have := nb9); intro nb9 | (fail_if_success have := nb10); intro nb10 | intro nbz) | (apply Yfr; refine Yf FR fun hFRb FR => ?_) | refine Two.mk ?_ ?_ | (apply Yxc; exact Yx) | refine Cs.mk fun hcs => Sm.out ?_ | go_step | omega | (simp only [maxLen_eq]; omega) | exact trivial
      · have hK := hK hc
        exact ⟨(i + 1, j + 1, D.set i v), ⟨by simp only; omega, by simp only; omega, hK.1.trans hn, hK.2.1, hK.2.2⟩, by simp only; omega, (Sub.pick (by simp [pickB, hget, hdel, FR.out, hxb, h9]) (by simp [look, hxb, h9]))⟩
      · have hE := hE hc
        exact ⟨(i, j + 1, D), ⟨by simp only; omega, by simp only; omega, hD, hE.1, hE.2⟩, by simp only; omega, (Sub.pick (by simp [pickB, hget, hdel, FR.out, hxb, hC2]) (by simp [look, hxb, hC2]))⟩
    · have ki : decide ((j : Int) < (n : Int)) = false := decide_eq_false (by omega)
      obtain rfl : j = n := by omega
      obtain ⟨C, hC2⟩ : ∃ C, C = ecs D := ⟨_, rfl⟩
      rw [← hC2] at hCl
      simp only [← hC2]
      have q3 : i < j := hij
      have k2 : k ≠ i := by omega
      have t1 : ∀ q : Nat, ((q : Nat) : Int).toNat = q := fun q => by omega
      have q4 : i ≤ j := by omega
      have k1 : k ≠ 0 := by omega
      obtain ⟨Z, hZ⟩ : ∃ Z, repA (j - i) [AV.lit (.string ⟨#[]⟩), AV.lit (.string ⟨#[]⟩), AV.lit (.bool false), AV.lit (.int .u64 0), AV.lit (.bool false), AV.lit (.int .i64 0), AV.lit (.int .i64 0), AV.lit (.int .i64 0), AV.lit (.bool false)] = Z := ⟨_, rfl⟩
      have hZl : Z.length = (j - i) * 9 := by rw [← hZ, repA_ln]; rfl
      have hZo : Z.all oneC = true := by rw [← hZ]; exact repA_one9 _ rfl
      have q5 : i * 9 + (j - i) * 9 ≤ j * 9 := by omega
      have hx : C.take (i * 9) = ecs R := by
        rw [hC2, ecs_take _ _ (by omega), hT, hR, List.take_of_length_le (by omega)]
      have hRl : R.length = i := by
        have := congrArg List.length hT
        rw [List.take_of_length_le (show l.length ≤ j by omega), ← hR] at this
        rw [← this, List.length_take]; omega
      have f5 := tkW (m := i * 9) (A := C) (by omega)
      first | (have FRx := FR; clear FRx) | have FR := fr0S
      have FA := Sm.mk (And.intro TFOuU (And.intro ki (And.intro hCl (And.intro hxb (And.intro q3 (And.intro q4 (And.intro q5 (And.intro k1 (And.intro k2 (And.intro t1 (And.intro hZ (And.intro hZl hZo))))))))))))
      repeat' first | (apply Sm.mk; refine YsOuU1 ?_) | refine WP.seq fun K hK => ?_ | (apply Ob.mk; exact Yo) | refine And.intro (Ob.out ?_) ?_ | refine Y1OuU ?_ | refine YzOuU ?_ | (refine WP.cond rfl (fun hc => ?_) (fun hc => ?_) <;> (try simp only [ZC, reduceCtorEq, ZD] at hc) <;> (try exact absurd hc (by decide)) <;> (try (exfalso; omega))) | refine Rt.mk (And.intro (fun hg => Sm.out ?_) fun hg => Sm.out ?_) | (refine Nu.mk ?_; first | (fail_if_success have := nb1); intro nb1 | (fail_if_success have := nb2); intro nb2 | (fail_if_success have := nb3); intro nb3 | (fail_if_success have := nb4); intro nb4 | (fail_if_success have := nb5); intro nb5 | (fail_if_success have := nb6); intro nb6 | (fail_if_success have := nb7); intro nb7 | (fail_if_success have := nb8); intro nb8 | (fail_if_success have := nb9); intro nb9 | (fail_if_success have := nb10); intro nb10 | intro nbz) | (apply Yfr; refine Yf FR fun hFRb FR => ?_) | refine Two.mk ?_ ?_ | (apply Yxc; exact Yx) | refine Cs.mk fun hcs => Sm.out ?_ | go_step | omega | (simp only [maxLen_eq]; omega) | exact trivial
      (refine OutQ.cutc (cs := ?_) (s0 := ?_) (ty := ?_) x (i * 9) ?hg3 ?_; case hg3 => exact if_pos rfl); simp only [hset, ↓reduceIte, f5]
      (refine OutQ.drop _ _ (perm2 (by simp only [hget, hdel, ↓reduceIte, if_true, if_false, FR.out, hRl, hx, f5, hxb]; first | done | rfl) (by simp only [hget, hdel, ↓reduceIte, if_true, if_false, FR.out, hRl, hx, f5, hxb]; first | done | rfl)) (by simp only [resv, ZK, look, loadv, loadn, loadnm, load1, load1m, hget, ↓reduceIte, Nat.reduceEqDiff, Nat.reduceAdd, Nat.reduceMul, Nat.reduceLeDiff, Nat.reduceLT, reduceCtorEq, TFOuU, FR.out, hRl, hx, f5, hxb]) ⟨(by simp only [resv, resA, ZK, look, loadv, loadn, loadnm, load1, load1m, hget, ↓reduceIte, Nat.reduceEqDiff, Nat.reduceAdd, Nat.reduceMul, Nat.reduceLeDiff, Nat.reduceLT, reduceCtorEq, TFOuU, FR.out, hRl, hx, f5, hxb]; first | done | rfl), rfl⟩)
end Go.Proofs.YtfknbndmabogjaaDoor
