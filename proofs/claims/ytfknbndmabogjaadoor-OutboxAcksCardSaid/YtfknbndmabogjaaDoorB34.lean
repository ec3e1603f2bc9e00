/-
  The walks and the laws that the statement leans on, part 34.
-/
import Derived.Test.YtfknbndmabogjaaDoorB9
import Derived.Test.YtfknbndmabogjaaDoorB33
namespace Go.Proofs.YtfknbndmabogjaaDoor
open Go
set_option linter.unusedVariables false
set_option linter.unusedSimpArgs false
set_option linter.defProp false
def TFOuW :=
  And.intro (And.intro (And.intro (And.intro (And.intro tyc0 (And.intro tyc3 zmb3)) (And.intro (And.intro tyc4 zmb4) (And.intro tyc24 elt24))) (And.intro (And.intro (And.intro mkz24 mkc24) (And.intro apT24 elk24)) (And.intro (And.intro zmb24 tyc27) (And.intro foff27_0 fpart27_0)))) (And.intro (And.intro (And.intro foff27_1 (And.intro fpart27_1 zmb27)) (And.intro (And.intro bldT27 tyc29) (And.intro foff29_0 fpart29_0))) (And.intro (And.intro (And.intro foff29_1 fpart29_1) (And.intro foff29_2 fpart29_2)) (And.intro (And.intro foff29_3 fpart29_3) (And.intro foff29_4 fpart29_4))))) (And.intro (And.intro (And.intro (And.intro fe29 (And.intro zmb29 bldT29)) (And.intro (And.intro tyc38 foff38_0) (And.intro fpart38_0 foff38_1))) (And.intro (And.intro (And.intro fpart38_1 foff38_2) (And.intro fpart38_2 foff38_3)) (And.intro (And.intro fpart38_3 foff38_4) (And.intro fpart38_4 zmb38)))) (And.intro (And.intro (And.intro (And.intro bldT38 tyc43) (And.intro elt43 mkz43)) (And.intro (And.intro mkc43 apT43) (And.intro elk43 zmb43))) (And.intro (And.intro (And.intro Tryd.underlying0 Tryd.underlying3) (And.intro Tryd.underlying4 Tryd.underlying24)) (And.intro (And.intro Tryd.underlying27 Tryd.underlying29) (And.intro Tryd.underlying38 Tryd.underlying43)))))
theorem Y1OuW {G R : Prop} (r : R) (h : R → G := by intro r; first | (apply WP.region; exact rvc_sound _ _ (Sm.out r)) | exact WP.drawK rfl mixed (by decide +kernel) (Sm.out r) | (apply WP.block; exact r) | (apply WP.skip; exact Yq r) | (apply WP.exit; exact Yq r) | (apply WP.ret; exact Sm.out r) | exact WP.cond rfl (fun _ => r) (fun hg => absurd hg (by decide)) | exact WP.cond rfl (fun hg => absurd hg (by decide)) (fun _ => r) | exact Rt.mk (And.intro (fun _ => Sm.out r) fun hg => absurd hg (by decide)) | exact Rt.mk (And.intro (fun hg => absurd hg (by decide)) fun _ => Sm.out r)) : G := h r
theorem YzOuW {G R : Prop} (r : R) (h : R → G := by intro r; first | (apply ExG.no; exact Sm.out r) | (apply Or.inl; apply ExG.no; exact Sm.out r) | exact Or.inl (And.intro (fun hg => absurd hg (by decide)) (ExG.no (Sm.out r)))) : G := h r
theorem YsOuW0 {P Q : Prop} (q : Q) (h : P = Q := by (try (conv => lhs; simp -dsimp only [ZK, rvc, capA, appA, litL, mkfv, drawF, headN, pureH, stp, dvc, calleeOf, gcall, pev, eff, newB, okd, og, ogs, ogo, ogp, slv, bltv, opd, litv, strip, one, both, putE, St.put, look, gdOf, gdv, picka, pickv, pickw, binv, bini, bins, binb, binp, binq, isSlT, bina, shp, eqCells, unv, convv, nilv, faddv, addp, idxav, idxp, load1, load1m, loadn, loadnm, loadv, hget, hset, hrep, hdel, slicev, slice3v, bnd, shift1, lenv, capv, IntKind.bits, extractv, fieldv, indexv, min2v, max2v, mkiv, tasv, tasz, cellsA, fillA, buildv, stC, oneC, rowMB, intsA, plN, appE, appZ, appC, appS, srcB, appNZ, appNC, VwL, srcC, srcZ, srcM, isBoolT, isPtrT, isSliceT, uOk, Value.oneCell', Nat.reducePow, Int.reducePow, Nat.reduceAdd, Nat.reduceMul, Nat.reduceSub, Nat.reduceLT, Nat.reduceLeDiff, Nat.reduceEqDiff, Nat.reduceBEq, Nat.reduceDiv, Nat.reduceMod, ↓reduceIte, reduceCtorEq, Int.reduceToNat, Int.reduceLT, Int.reduceLE, TFOuW, SeqQ, BlkQ, LoopQ, BodyQ, hin, FA.out, FR.out])) <;> exact rfl) : P := h.mpr q
structure StG where
  i : Nat
  A : List En
  x : Nat
  k : Nat
set_option maxHeartbeats 4000000 in
theorem rset_row (ks : List Ky) (b : Bx) (n m : Nat) (hn : b.l.length = n) (hm : ks.length = m) (hl : n ≤ 100000) (hml : m ≤ 100000) (hz : ∀ e ∈ b.l, Kz e.k) :
    ACt Tryd.prog 24 [.agg [.sl n (ecs b.l), iv .u64 b.d], .sl m (kcs ks)] [] (fun r F' => Vw F' r (bxv (stB ks b))) := by
  have cR := rbright_ct b n hn hl hz
  have cH := fun k => has_ct ks k m hm hml
  have cW := fun q x c => with_l (ecs b.l) n q c (some ⟨x, 0, none⟩) b.d
  have hA1 : bxB b = true → bxv (stB ks b) = .agg [.sl (b.l.filter (fun e => !dlB ks e)).length (ecs (b.l.filter (fun e => !dlB ks e))), iv .u64 b.d] := fun h => by unfold stB; rw [if_pos h]
  have hA2 : bxB b = false → bxv (stB ks b) = .agg [.sl n (ecs b.l), iv .u64 b.d] := fun h => by unfold stB; rw [if_neg (by rw [h]; decide), ← hn]
  have hCl := ecs_len b.l
  have hdr := ecs_drop b.l
  obtain ⟨l, d⟩ := b
  simp only at hn hz cR cW hA1 hA2 hCl hdr ⊢
  rw [hn] at hCl
  obtain ⟨R, hR⟩ : ∃ R, R = bxv (stB ks ⟨l, d⟩) := ⟨_, rfl⟩
  rw [← hR] at hA1 hA2 ⊢
  obtain ⟨C, hC'⟩ : ∃ C, C = ecs l := ⟨_, rfl⟩
  rw [← hC'] at cR cW hA2 hCl hdr ⊢
  obtain ⟨K1, hK1⟩ : ∃ q, q = kcs ks := ⟨_, rfl⟩
  rw [← hK1]
  simp only [← hK1] at cH
  obtain ⟨p, hp⟩ : ∃ p, bxB ⟨l, d⟩ = p := ⟨_, rfl⟩
  rw [hp] at cR hA1 hA2
  clear hR hC' hK1 hp hz
  refine ACt.intro Tryd.func24 rfl (by kernel_rfl) (by simp [Tryd.ntmps24]) (fun cx => ?_)
  simp only [argE, Tryd.ntmps24, Tryd.results24]
  first | (have FRx := FR; clear FRx) | have FR := fr0S
  have FA := Sm.mk (TFOuW)
  repeat' first | (apply Sm.mk; refine Ys ?_) | refine WP.seq fun K hK => ?_ | (apply Ob.mk; exact Yo) | refine And.intro (Ob.out ?_) ?_ | refine Y1OuW ?_ | refine Yc (c := cR) (r := ?_) | refine YzOuW ?_ | (refine WP.cond rfl (fun hc => ?_) (fun hc => ?_) <;> (try simp only [ZC, reduceCtorEq, ZD] at hc) <;> (try exact absurd hc (by decide)) <;> (try (exfalso; omega))) | refine Rt.mk (And.intro (fun hg => Sm.out ?_) fun hg => Sm.out ?_) | (refine Nu.mk ?_; first | (fail_if_success have := nb1); intro nb1 | (fail_if_success have := nb2); intro nb2 | (fail_if_success have := nb3); intro nb3 | (fail_if_success have := nb4); intro nb4 | (fail_if_success have := nb5); intro nb5 | (fail_if_success have := nb6); intro nb6 | (fail_if_success have := nb7); intro nb7 | (fail_if_success have := nb8); intro nb8 | (fail_if_success have := nb9); intro nb9 | (fail_if_success have := nb10); intro nb10 | intro nbz) | (apply Yfr; refine Yf FR fun hFRb FR => ?_) | refine Two.mk ?_ ?_ | (apply Yxc; exact Yx) | refine Cs.mk fun hcs => Sm.out ?_ | go_step | omega | (simp only [maxLen_eq]; omega) | exact trivial
  · (refine OutQ.drop [] _ (List.Perm.refl _) (by simp only [resv, ZK, look, loadv, loadn, loadnm, load1, load1m, hget, ↓reduceIte, Nat.reduceEqDiff, Nat.reduceAdd, Nat.reduceMul, Nat.reduceLeDiff, Nat.reduceLT, reduceCtorEq, TFOuW, FR.out]) ?_; simp only [resv, resA, ZK, look, loadv, loadn, loadnm, load1, load1m, hget, ↓reduceIte, Nat.reduceEqDiff, Nat.reduceAdd, Nat.reduceMul, Nat.reduceLeDiff, Nat.reduceLT, reduceCtorEq, TFOuW, FR.out]; exact vw_eq (hA2 hc))
  · have hA := hA1 hc
    have he0 : ecs [] = [] := rfl
    have h31 : nb3 ≠ nb1 ∧ nb1 ≠ nb3 := by simp [FR.out]
    have h32 : nb3 ≠ nb2 ∧ nb2 ≠ nb3 := by simp [FR.out]
    have h21 : nb2 ≠ nb1 ∧ nb1 ≠ nb2 := by simp [FR.out]
    refine WP.loop (Γ := StG) (fun g => ⟨[(6, iv .i64 (g.i : Int)), (5, ms g.x 0 g.A.length g.k), (4, pt nb2 0), (2, pt nb1 0), (1, .sl m K1)], [(g.x, .cells (ecs g.A) (g.k * 9) 38), (nb2, .cells [.lit (.slice none 0 0), iv .u64 0] 2 27), (nb1, .cells [.sl n C, iv .u64 d] 2 27)]⟩)
      (fun g => (g.i ≤ n ∧ g.A.length ≤ g.i ∧ g.A.length ≤ g.k ∧ g.k ≤ 9223372036854775807) ∧ g.A = (l.take g.i).filter (fun e => !dlB ks e) ∧ ((g.x ≠ nb1 ∧ nb1 ≠ g.x) ∧ (g.x ≠ nb2 ∧ nb2 ≠ g.x))) (fun g => n - g.i) ⟨0, [], nb3, 0⟩
      ⟨⟨by simp, by simp, by simp, by simp⟩, by simp, h31, h32⟩ (Sub.pick (by simp [pickB, hget, hdel, FR.out, h31, h32, h21, he0, List.length_nil, Nat.zero_mul]) (by simp [look, h31, h32, h21, he0, List.length_nil, Nat.zero_mul])) ?_
    intro ⟨i, A, x, k⟩ ⟨⟨hi, ha1, ha2, ha3⟩, hT, hx1, hx2⟩
    simp only at hi ha1 ha2 ha3 hT hx1 hx2 ⊢
    have FR : Sm (¬ ((1 : Nat) = 0)) := Sm.mk Nat.one_ne_zero
    have hQl := ecs_len A
    have hQo := ecs_one A
    have hQa := ecs_app A
    by_cases hin : i < n
    · have ki : decide ((i : Int) < (n : Int)) = true := decide_eq_true (by omega)
      have s1 : IntKind.i64.wrap ((i : Int) + 1) = ((i + 1 : Nat) : Int) := by rw [wrap_i64 (by omega) (by omega)]; omega
      have hd := hdr i (by omega)
      have hta := List.take_succ_eq_append_getElem (show i < l.length by omega)
      obtain ⟨v, hv⟩ : ∃ x, x = l[i]'(by omega) := ⟨_, rfl⟩
      rw [← hv] at hd hta
      have hQa := hQa [v]
      obtain ⟨Q, hQ⟩ : ∃ Q, Q = ecs A := ⟨_, rfl⟩
      rw [← hQ] at hQl hQo hQa
      simp only [← hQ]
      have q1 : (i + 1) * 9 ≤ C.length := by omega
      have cF := cH v.k
      obtain ⟨q, hq⟩ : ∃ q, hasB ks v.k = q := ⟨_, rfl⟩
      rw [hq] at cF
      have hdl : dlB ks v = (v.a && !q) := by unfold dlB; rw [hq]
      have hK : (v.a = false ∨ q = true) → A ++ [v] = (l.take (i + 1)).filter (fun e => !dlB ks e) := fun h => by
        rw [hta, List.filter_append, ← hT]
        have : dlB ks v = false := by rw [hdl]; rcases h with h | h <;> rw [h] <;> simp
        simp [this]
      have hE : (v.a = true ∧ q = false) → A = (l.take (i + 1)).filter (fun e => !dlB ks e) := fun h => by
        rw [hta, List.filter_append, ← hT]
        have : dlB ks v = true := by rw [hdl, h.1, h.2]; rfl
        simp [this]
      have hAl : (A ++ [v]).length = A.length + 1 := by simp
      clear hv hq hta hdl
      obtain ⟨⟨vg, vr, vp, ve, vs⟩, eb, en, et, ea⟩ := v
      simp only at hd cF hK hE
      have hQb : Q ++ [.lit (.string vg), .lit (.string vr), bv vp, iv .u64 ve, bv vs, iv .i64 eb, iv .i64 en, iv .i64 et, bv ea] = ecs (A ++ [⟨⟨vg, vr, vp, ve, vs⟩, eb, en, et, ea⟩]) := hQa.symm
      first | (have FRx := FR; clear FRx) | have FR := fr0S
      have FA := Sm.mk (And.intro TFOuW (And.intro ki (And.intro hd (And.intro q1 (And.intro s1 (And.intro hx1 (And.intro hx2 (And.intro h21 (And.intro hQl hQo)))))))))
      repeat' first | (apply Sm.mk; refine YsOuW0 ?_) | refine WP.seq fun K hK => ?_ | (apply Ob.mk; exact Yo) | refine And.intro (Ob.out ?_) ?_ | refine Y1OuW ?_ | refine Yc (c := cF) (r := ?_) | refine YzOuW ?_ | (refine WP.cond rfl (fun hc => ?_) (fun hc => ?_) <;> (try simp only [ZC, reduceCtorEq, ZD] at hc) <;> (try exact absurd hc (by decide)) <;> (try (exfalso; omega))) | refine Rt.mk (And.intro (fun hg => Sm.out ?_) fun hg => Sm.out ?_) | (refine Nu.mk ?_; first | (fail_if_success have := nb1); intro nb1 | (fail_if_success have := nb2); intro nb2 | (fail_if_success have := nb3); intro nb3 | (fail_if_success have := nb4); intro nb4 | (fail_if_success have := nb5); intro nb5 | (fail_if_success have := nb6); intro nb6 | (fail_if_success have := nb7); intro nb7 | (fail_if_success have := nb8); intro nb8 | (fail_if_success have := nb9); intro nb9 | (fail_if_success have := nb10); intro nb10 | intro nbz) | (apply Yfr; refine Yf FR fun hFRb FR => ?_) | refine Two.mk ?_ ?_ | (apply Yxc; exact Yx) | refine Cs.mk fun hcs => Sm.out ?_ | go_step | omega | (simp only [maxLen_eq]; omega) | exact trivial
      · have g51 : nb5 ≠ nb1 ∧ nb1 ≠ nb5 := by simp [FR.out]
        have g52 : nb5 ≠ nb2 ∧ nb2 ≠ nb5 := by simp [FR.out]
        have hb := hFRb
        exact ⟨⟨i + 1, A ++ [⟨⟨vg, vr, vp, ve, vs⟩, eb, en, et, ea⟩], nb5, nb6⟩, ⟨⟨by simp only; omega, by simp only; omega, by simp only; omega, hb.2⟩, hK hc, g51, g52⟩, by simp only; omega, (Sub.pick (by simp [pickB, hget, hdel, FR.out, hx1, hx2, h21, g51, g52, hQb, hAl]) (by simp [look, hx1, hx2, h21, g51, g52, hQb, hAl]))⟩
      · exact ⟨⟨i + 1, A, x, k⟩, ⟨⟨by simp only; omega, by simp only; omega, ha2, ha3⟩, hE hc, hx1, hx2⟩, by simp only; omega, (Sub.pick (by simp [pickB, hget, hdel, FR.out, hx1, hx2, h21, hQ]) (by simp [look, hx1, hx2, h21, hQ]))⟩
    · have ki : decide ((i : Int) < (n : Int)) = false := decide_eq_false (by omega)
      obtain rfl : i = n := by omega
      have cV := cW A.length x k
      rw [List.take_of_length_le (by omega)] at hT
      rw [← hT] at hA
      first | (have FRx := FR; clear FRx) | have FR := fr0S
      have FA := Sm.mk (And.intro TFOuW (And.intro ki (And.intro hx1 (And.intro hx2 h21))))
      repeat' first | (apply Sm.mk; refine Ys ?_) | refine WP.seq fun K hK => ?_ | (apply Ob.mk; exact Yo) | refine And.intro (Ob.out ?_) ?_ | refine Y1OuW ?_ | refine Yc (c := cV) (r := ?_) | refine YzOuW ?_ | (refine WP.cond rfl (fun hc => ?_) (fun hc => ?_) <;> (try simp only [ZC, reduceCtorEq, ZD] at hc) <;> (try exact absurd hc (by decide)) <;> (try (exfalso; omega))) | refine Rt.mk (And.intro (fun hg => Sm.out ?_) fun hg => Sm.out ?_) | (refine Nu.mk ?_; first | (fail_if_success have := nb1); intro nb1 | (fail_if_success have := nb2); intro nb2 | (fail_if_success have := nb3); intro nb3 | (fail_if_success have := nb4); intro nb4 | (fail_if_success have := nb5); intro nb5 | (fail_if_success have := nb6); intro nb6 | (fail_if_success have := nb7); intro nb7 | (fail_if_success have := nb8); intro nb8 | (fail_if_success have := nb9); intro nb9 | (fail_if_success have := nb10); intro nb10 | intro nbz) | (apply Yfr; refine Yf FR fun hFRb FR => ?_) | refine Two.mk ?_ ?_ | (apply Yxc; exact Yx) | refine Cs.mk fun hcs => Sm.out ?_ | go_step | omega | (simp only [maxLen_eq]; omega) | exact trivial
      (refine OutQ.drop _ _ (perm1 (b := x) (by simp only [hget, hdel, ↓reduceIte, if_true, if_false, FR.out, hx1, hx2]; first | done | rfl)) (by simp only [resv, ZK, look, loadv, loadn, loadnm, load1, load1m, hget, ↓reduceIte, Nat.reduceEqDiff, Nat.reduceAdd, Nat.reduceMul, Nat.reduceLeDiff, Nat.reduceLT, reduceCtorEq, TFOuW, FR.out, hx1, hx2]) ?_; simp only [resv, resA, ZK, look, loadv, loadn, loadnm, load1, load1m, hget, ↓reduceIte, Nat.reduceEqDiff, Nat.reduceAdd, Nat.reduceMul, Nat.reduceLeDiff, Nat.reduceLT, reduceCtorEq, TFOuW, FR.out, hx1, hx2]; exact vw_boxe hA ha2 ha3)
theorem rset_ct (ks : List Ky) (b : Bx) (n m : Nat) (hn : b.l.length = n) (hm : ks.length = m) (hl : n ≤ 100000) (hml : m ≤ 100000) (hz : ∀ e ∈ b.l, Kz e.k) : ACt Tryd.prog 24 [.agg [.sl n (ecs b.l), iv .u64 b.d], .sl m (kcs ks)] [] (Fn (bxv (stB ks b))) :=
  ACt.fzV (rset_row ks b n m hn hm hl hml hz)
end Go.Proofs.YtfknbndmabogjaaDoor
