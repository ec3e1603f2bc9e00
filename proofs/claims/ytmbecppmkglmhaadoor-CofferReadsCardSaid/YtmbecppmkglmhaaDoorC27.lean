/-
  The walks and the laws that the statement leans on, part 27.
-/
import Derived.Test.YtmbecppmkglmhaaDoorC11
import Derived.Test.YtmbecppmkglmhaaDoorC26
namespace Go.Proofs.YtmbecppmkglmhaaDoor
open Go
set_option linter.unusedVariables false
set_option linter.unusedSimpArgs false
set_option linter.defProp false
def TFWlI :=
  And.intro (And.intro (And.intro (And.intro (And.intro tyc0 tyc3) (And.intro zmb3 (And.intro tyc4 zmb4))) (And.intro (And.intro tyc5 (And.intro zmb5 tyc22)) (And.intro elt22 (And.intro mkz22 apT22)))) (And.intro (And.intro (And.intro elk22 zmb22) (And.intro tyc26 (And.intro mth26_27 mth26_26))) (And.intro (And.intro mth26_28 (And.intro con26 zmb26)) (And.intro tyc82 (And.intro zmb82 tyc106))))) (And.intro (And.intro (And.intro (And.intro foff106_0 fpart106_0) (And.intro foff106_1 (And.intro fpart106_1 foff106_2))) (And.intro (And.intro fpart106_2 (And.intro foff106_3 fpart106_3)) (And.intro foff106_4 (And.intro fpart106_4 foff106_5)))) (And.intro (And.intro (And.intro fpart106_5 zmb106) (And.intro bldT106 (And.intro Tryd.underlying0 Tryd.underlying3))) (And.intro (And.intro Tryd.underlying4 (And.intro Tryd.underlying5 Tryd.underlying22)) (And.intro Tryd.underlying26 (And.intro Tryd.underlying82 Tryd.underlying106)))))
theorem Y1WlI {G R : Prop} (r : R) (h : R → G := by intro r; first | (apply WP.region; exact rvc_sound _ _ (Sm.out r)) | exact WP.drawK rfl mixed (by decide +kernel) (Sm.out r) | (apply WP.block; exact r) | (apply WP.skip; exact Yq r) | (apply WP.exit; exact Yq r) | (apply WP.ret; exact Sm.out r) | exact WP.cond rfl (fun _ => r) (fun hg => absurd hg (by decide)) | exact WP.cond rfl (fun hg => absurd hg (by decide)) (fun _ => r) | exact Rt.mk (And.intro (fun _ => Sm.out r) fun hg => absurd hg (by decide)) | exact Rt.mk (And.intro (fun hg => absurd hg (by decide)) fun _ => Sm.out r)) : G := h r
theorem YzWlI {G R : Prop} (r : R) (h : R → G := by intro r; first | (apply ExG.no; exact Sm.out r) | (apply Or.inl; apply ExG.no; exact Sm.out r) | exact Or.inl (And.intro (fun hg => absurd hg (by decide)) (ExG.no (Sm.out r)))) : G := h r
theorem YsWlI0 {P Q : Prop} (q : Q) (h : P = Q := by (try (conv => lhs; simp -dsimp only [ZK, rvc, capA, appA, litL, mkfv, drawF, headN, pureH, stp, dvc, calleeOf, gcall, pev, eff, newB, okd, og, ogs, ogo, ogp, slv, bltv, opd, litv, strip, one, both, putE, St.put, look, gdOf, gdv, picka, pickv, pickw, binv, bini, bins, binb, binp, binq, isSlT, bina, shp, eqCells, unv, convv, nilv, faddv, addp, idxav, idxp, load1, load1m, loadn, loadnm, loadv, hget, hset, hrep, hdel, slicev, slice3v, bnd, shift1, lenv, capv, IntKind.bits, extractv, fieldv, indexv, min2v, max2v, mkiv, tasv, tasz, cellsA, fillA, buildv, stC, oneC, rowMB, intsA, plN, appE, appZ, appC, appS, srcB, appNZ, appNC, VwL, srcC, srcZ, srcM, isBoolT, isPtrT, isSliceT, uOk, Value.oneCell', Nat.reducePow, Int.reducePow, Nat.reduceAdd, Nat.reduceMul, Nat.reduceSub, Nat.reduceLT, Nat.reduceLeDiff, Nat.reduceEqDiff, Nat.reduceBEq, Nat.reduceDiv, Nat.reduceMod, ↓reduceIte, reduceCtorEq, Int.reduceToNat, Int.reduceLT, Int.reduceLE, TFWlI, SeqQ, BlkQ, LoopQ, BodyQ, List.length_nil, FA.out, FR.out])) <;> exact rfl) : P := h.mpr q
theorem CallV.alt {P : Program} {f : FuncId} {args : List AV} {H F R F1 : Hp} {F0 : Nat → Nat → Hp} {post : AV → Hp → Prop} {φ : Nat → Nat → Prop} {x0 : AV} {x : Nat → Nat → AV} {m : Nat → Nat → MB}
    (h : ACt P f args F (fun r F' => (r = x0 ∧ F' = F1) ∨ ∃ b c, φ b c ∧ r = x b c ∧ F' = (b, m b c) :: F0 b c)) (hP : H.Perm (F ++ R)) (hk : ∀ b c, (F0 b c).map (·.1) = F.map (·.1))
    (hp : post x0 (F1 ++ R)) (hq : Nu fun b => Nu fun c => Fr (φ b c ∧ fresh H b) (post (x b c) ((b, m b c) :: (F0 b c ++ R)))) : CallV P f args H post :=
  ⟨F, R, _, hP, h, fun r F' hr hn => by
    rcases hr with ⟨e1, e2⟩ | ⟨b, c, e0, e1, e2⟩
    · subst e1 e2; exact hp
    · subst e1 e2
      exact ((hq.out b).out c).out ⟨e0, fresh_perm hP (hk b c) hn⟩⟩
set_option maxRecDepth 20000 in
theorem bclR_ct (zs : List Int) (h1 : 1 ≤ zs.length) (h2 : zs.length ≤ 1000000) : ACt Tryd.prog 52 [.slz .u8 zs] [] (fun r F' => ∃ x c : Nat, (zs.length ≤ c ∧ c ≤ 9223372036854775807) ∧ r = ms x 0 zs.length c ∧ F' = [(x, .zs .u8 zs c 5)]) := by
  have ht : zs.take zs.length = zs := List.take_length
  refine ACt.intro Tryd.func52 rfl (by kernel_rfl) (by simp [Tryd.ntmps52]) (fun cx => ?_)
  simp only [argE, Tryd.ntmps52, Tryd.results52]
  first | (have FRx := FR; clear FRx) | have FR := fr0S
  have FA := Sm.mk (And.intro TFWlI h1)
  repeat' first | (apply Sm.mk; refine Ys ?_) | refine WP.seq fun K hK => ?_ | (apply Ob.mk; exact Yo) | refine And.intro (Ob.out ?_) ?_ | refine Y1WlI ?_ | refine YzWlI ?_ | (refine WP.cond rfl (fun hc => ?_) (fun hc => ?_) <;> (try simp only [ZC, reduceCtorEq, ZD] at hc) <;> (try exact absurd hc (by decide)) <;> (try (exfalso; omega))) | refine Rt.mk (And.intro (fun hg => Sm.out ?_) fun hg => Sm.out ?_) | (refine Nu.mk ?_; first | (fail_if_success have := nb1); intro nb1 | (fail_if_success have := nb2); intro nb2 | (fail_if_success have := nb3); intro nb3 | (fail_if_success have := nb4); intro nb4 | (fail_if_success have := nb5); intro nb5 | (fail_if_success have := nb6); intro nb6 | (fail_if_success have := nb7); intro nb7 | (fail_if_success have := nb8); intro nb8 | intro nbz) | (apply Yfr; refine Yf FR fun hFRb FR => ?_) | refine Two.mk ?_ ?_ | (apply Yxc; exact Yx) | refine Cs.mk fun hcs => Sm.out ?_ | go_step | omega | (simp only [maxLen_eq]; omega) | exact trivial
  (refine OutQ.drop _ _ (perm1 (by simp only [hget, hdel, ↓reduceIte, if_true, if_false, FR.out]; first | done | rfl)) (by simp only [resv, ZK, look, loadv, loadn, loadnm, load1, load1m, hget, ↓reduceIte, Nat.reduceEqDiff, Nat.reduceAdd, Nat.reduceMul, Nat.reduceLeDiff, Nat.reduceLT, reduceCtorEq, TFWlI, FR.out]) ⟨nb2, nb3, FR.out.1, (by simp only [resv, resA, ZK, look, loadv, loadn, loadnm, load1, load1m, hget, ↓reduceIte, Nat.reduceEqDiff, Nat.reduceAdd, Nat.reduceMul, Nat.reduceLeDiff, Nat.reduceLT, reduceCtorEq, TFWlI, FR.out]; first | done | rfl), rfl⟩)
set_option maxRecDepth 20000 in
theorem bcl0_ct : ACt Tryd.prog 52 [.slz .u8 []] [] (fun r F' => (r = nl ∧ F' = []) ∨ ∃ x c : Nat, (0 ≤ c ∧ c ≤ 9223372036854775807) ∧ r = ms x 0 0 c ∧ F' = [(x, .zs .u8 [] c 5)]) := by
  refine arg_slz (pre := []) (post := []) (fun h1 => absurd h1 (by simp)) (fun _ cap hm => ?_) (fun _ ad cap hm => ?_)
  · have k : (none : Option Addr).isNone = true := rfl
    simp only [List.nil_append]
    refine ACt.mono (p := Fn nl) ?_ fun r F' h => .inl h
    refine ACt.intro Tryd.func52 rfl (by kernel_rfl) (by simp [Tryd.ntmps52]) (fun cx => ?_)
    simp only [argE, Tryd.ntmps52, Tryd.results52]
    first | (have FRx := FR; clear FRx) | have FR := fr0S
    have FA := Sm.mk (And.intro TFWlI k)
    repeat' first | (apply Sm.mk; refine Ys ?_) | refine WP.seq fun K hK => ?_ | (apply Ob.mk; exact Yo) | refine And.intro (Ob.out ?_) ?_ | refine Y1WlI ?_ | refine YzWlI ?_ | (refine WP.cond rfl (fun hc => ?_) (fun hc => ?_) <;> (try simp only [ZC, reduceCtorEq, ZD] at hc) <;> (try exact absurd hc (by decide)) <;> (try (exfalso; omega))) | refine Rt.mk (And.intro (fun hg => Sm.out ?_) fun hg => Sm.out ?_) | (refine Nu.mk ?_; first | (fail_if_success have := nb1); intro nb1 | (fail_if_success have := nb2); intro nb2 | (fail_if_success have := nb3); intro nb3 | (fail_if_success have := nb4); intro nb4 | (fail_if_success have := nb5); intro nb5 | (fail_if_success have := nb6); intro nb6 | (fail_if_success have := nb7); intro nb7 | (fail_if_success have := nb8); intro nb8 | intro nbz) | (apply Yfr; refine Yf FR fun hFRb FR => ?_) | refine Two.mk ?_ ?_ | (apply Yxc; exact Yx) | refine Cs.mk fun hcs => Sm.out ?_ | go_step | omega | (simp only [maxLen_eq]; omega) | exact trivial
    (refine Yg ?_; try exact trivial)
  · have k : (some ad).isNone = false := rfl
    simp only [List.nil_append]
    refine ACt.mono (p := fun r F' => ∃ x c : Nat, (0 ≤ c ∧ c ≤ 9223372036854775807) ∧ r = ms x 0 0 c ∧ F' = [(x, .zs .u8 [] c 5)]) ?_ fun r F' h => .inr h
    refine ACt.intro Tryd.func52 rfl (by kernel_rfl) (by simp [Tryd.ntmps52]) (fun cx => ?_)
    simp only [argE, Tryd.ntmps52, Tryd.results52]
    first | (have FRx := FR; clear FRx) | have FR := fr0S
    have FA := Sm.mk (And.intro TFWlI k)
    repeat' first | (apply Sm.mk; refine Ys ?_) | refine WP.seq fun K hK => ?_ | (apply Ob.mk; exact Yo) | refine And.intro (Ob.out ?_) ?_ | ((fail_if_success (show WP _ _ _ (.region 3 _ _) _ _)); refine Y1WlI ?_) | refine YzWlI ?_ | (refine WP.cond rfl (fun hc => ?_) (fun hc => ?_) <;> (try simp only [ZC, reduceCtorEq, ZD] at hc) <;> (try exact absurd hc (by decide)) <;> (try (exfalso; omega))) | refine Rt.mk (And.intro (fun hg => Sm.out ?_) fun hg => Sm.out ?_) | (refine Nu.mk ?_; first | (fail_if_success have := nb1); intro nb1 | (fail_if_success have := nb2); intro nb2 | (fail_if_success have := nb3); intro nb3 | (fail_if_success have := nb4); intro nb4 | (fail_if_success have := nb5); intro nb5 | (fail_if_success have := nb6); intro nb6 | (fail_if_success have := nb7); intro nb7 | (fail_if_success have := nb8); intro nb8 | intro nbz) | (apply Yfr; refine Yf FR fun hFRb FR => ?_) | refine Two.mk ?_ ?_ | (apply Yxc; exact Yx) | refine Cs.mk fun hcs => Sm.out ?_ | go_step | omega | (simp only [maxLen_eq]; omega) | exact trivial
    refine WP.wk (Wk.cons (i := 0) (by simp only [look, ↓reduceIte, Nat.reduceEqDiff]; rfl) (fun w I v h => rep_slz0 (k := .u8) hm h)) ?_
    first | (have FRx := FR; clear FRx) | have FR := fr0S
    have FA := Sm.mk (TFWlI)
    repeat' first | (apply Sm.mk; refine YsWlI0 ?_) | refine WP.seq fun K hK => ?_ | (apply Ob.mk; exact Yo) | refine And.intro (Ob.out ?_) ?_ | refine Y1WlI ?_ | refine YzWlI ?_ | (refine WP.cond rfl (fun hc => ?_) (fun hc => ?_) <;> (try simp only [ZC, reduceCtorEq, ZD] at hc) <;> (try exact absurd hc (by decide)) <;> (try (exfalso; omega))) | refine Rt.mk (And.intro (fun hg => Sm.out ?_) fun hg => Sm.out ?_) | (refine Nu.mk ?_; first | (fail_if_success have := nb1); intro nb1 | (fail_if_success have := nb2); intro nb2 | (fail_if_success have := nb3); intro nb3 | (fail_if_success have := nb4); intro nb4 | (fail_if_success have := nb5); intro nb5 | (fail_if_success have := nb6); intro nb6 | (fail_if_success have := nb7); intro nb7 | (fail_if_success have := nb8); intro nb8 | intro nbz) | (apply Yfr; refine Yf FR fun hFRb FR => ?_) | refine Two.mk ?_ ?_ | (apply Yxc; exact Yx) | refine Cs.mk fun hcs => Sm.out ?_ | go_step | omega | (simp only [maxLen_eq]; omega) | exact trivial
    (refine OutQ.drop _ _ (perm1 (by simp only [hget, hdel, ↓reduceIte, if_true, if_false, FR.out]; first | done | rfl)) (by simp only [resv, ZK, look, loadv, loadn, loadnm, load1, load1m, hget, ↓reduceIte, Nat.reduceEqDiff, Nat.reduceAdd, Nat.reduceMul, Nat.reduceLeDiff, Nat.reduceLT, reduceCtorEq, TFWlI, FR.out]) ⟨nb2, nb3, FR.out.1, (by simp only [resv, resA, ZK, look, loadv, loadn, loadnm, load1, load1m, hget, ↓reduceIte, Nat.reduceEqDiff, Nat.reduceAdd, Nat.reduceMul, Nat.reduceLeDiff, Nat.reduceLT, reduceCtorEq, TFWlI, FR.out]; first | done | rfl), rfl⟩)
set_option maxRecDepth 20000 in
theorem room_ct (x b f m u s : Nat) (t : List Int) (ov : Bool) (a : DA) (l : DL) (hs : a.size = s) (hm : m * s ≤ 1000000) (hu : u ≤ m * s) : ACt Tryd.prog 47 [pt x 0] ((x, lgM b f m t u ov) :: dH b a l) (fun r F' => r = iv .i64 ((m * s - u : Nat) : Int) ∧ F' = (x, lgM b f m t u ov) :: dH b a l) := by
  have cZ := (size_d b a l).lookU (pm1 (x, lgM b f m t u ov) (dH b a l))
  rw [hs] at cZ
  unfold lgM at cZ ⊢
  have w1 : IntKind.i64.wrap ((m : Int) * (s : Int)) = ((m * s : Nat) : Int) := by rw [← Int.natCast_mul, wrap_i64 (by omega) (by omega)]
  obtain ⟨M, hM⟩ : ∃ M, M = m * s := ⟨_, rfl⟩
  rw [← hM] at w1 hm hu ⊢
  have w2 : IntKind.i64.wrap ((M : Int) - (u : Int)) = ((M - u : Nat) : Int) := by rw [wrap_i64 (by omega) (by omega)]; omega
  refine ACt.intro Tryd.func47 rfl (by kernel_rfl) (by simp [Tryd.ntmps47]) (fun cx => ?_)
  simp only [argE, Tryd.ntmps47, Tryd.results47]
  first | (have FRx := FR; clear FRx) | have FR := fr0S
  have FA := Sm.mk (And.intro TFWlI (And.intro w1 w2))
  repeat' first | (apply Sm.mk; refine Ys ?_) | refine WP.seq fun K hK => ?_ | (apply Ob.mk; exact Yo) | refine And.intro (Ob.out ?_) ?_ | refine Y1WlI ?_ | refine CallV.updM (cZ) (pmz _) (Sm.out ?_) | ((first | refine ExF.up ?_ (cZ) (Sm.out ?_) | refine ExG.up ?_ (fun _ => cZ) (Sm.out ?_) | refine ExG.upJ ?_ (fun _ => cZ) (Sm.out ?_) | refine ExG.upI ?_ (fun _ => cZ) (Ob.out ?_) (Sm.out ?_)); focus (exact ⟨_, (pmz _)⟩)) | refine YzWlI ?_ | (refine WP.cond rfl (fun hc => ?_) (fun hc => ?_) <;> (try simp only [ZC, reduceCtorEq, ZD] at hc) <;> (try exact absurd hc (by decide)) <;> (try (exfalso; omega))) | refine Rt.mk (And.intro (fun hg => Sm.out ?_) fun hg => Sm.out ?_) | (refine Nu.mk ?_; first | (fail_if_success have := nb1); intro nb1 | (fail_if_success have := nb2); intro nb2 | (fail_if_success have := nb3); intro nb3 | (fail_if_success have := nb4); intro nb4 | (fail_if_success have := nb5); intro nb5 | (fail_if_success have := nb6); intro nb6 | (fail_if_success have := nb7); intro nb7 | (fail_if_success have := nb8); intro nb8 | intro nbz) | (apply Yfr; refine Yf FR fun hFRb FR => ?_) | refine Two.mk ?_ ?_ | (apply Yxc; exact Yx) | refine Cs.mk fun hcs => Sm.out ?_ | go_step | omega | (simp only [maxLen_eq]; omega) | exact trivial
  (refine OutQ.drop _ _ (pmz _) (by simp only [resv, ZK, look, loadv, loadn, loadnm, load1, load1m, hget, ↓reduceIte, Nat.reduceEqDiff, Nat.reduceAdd, Nat.reduceMul, Nat.reduceLeDiff, Nat.reduceLT, reduceCtorEq, TFWlI, FR.out]) ⟨(by simp only [resv, resA, ZK, look, loadv, loadn, loadnm, load1, load1m, hget, ↓reduceIte, Nat.reduceEqDiff, Nat.reduceAdd, Nat.reduceMul, Nat.reduceLeDiff, Nat.reduceLT, reduceCtorEq, TFWlI, FR.out]; first | done | rfl), rfl⟩)
end Go.Proofs.YtmbecppmkglmhaaDoor
