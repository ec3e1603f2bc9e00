/-
  The walks and the laws that the statement leans on, part 39.
-/
import Derived.Test.YtfknbndmabogjaaDoorC9
import Derived.Test.YtfknbndmabogjaaDoorC38
namespace Go.Proofs.YtfknbndmabogjaaDoor
open Go
set_option linter.unusedVariables false
set_option linter.unusedSimpArgs false
set_option linter.defProp false
def TFOuZF :=
  And.intro (And.intro (And.intro (And.intro (And.intro (And.intro tyc0 tyc2) (And.intro zmb2 (And.intro tyc3 zmb3))) (And.intro (And.intro tyc4 zmb4) (And.intro tyc23 (And.intro foff23_0 fpart23_0)))) (And.intro (And.intro (And.intro foff23_1 fpart23_1) (And.intro foff23_2 (And.intro fpart23_2 foff23_3))) (And.intro (And.intro fpart23_3 foff23_4) (And.intro fpart23_4 (And.intro fe23 zmb23))))) (And.intro (And.intro (And.intro (And.intro bldT23 tyc24) (And.intro elt24 (And.intro mkz24 mkc24))) (And.intro (And.intro apT24 elk24) (And.intro zmb24 (And.intro tyc27 foff27_0)))) (And.intro (And.intro (And.intro fpart27_0 foff27_1) (And.intro fpart27_1 (And.intro zmb27 bldT27))) (And.intro (And.intro tyc29 foff29_0) (And.intro fpart29_0 (And.intro foff29_1 fpart29_1)))))) (And.intro (And.intro (And.intro (And.intro (And.intro foff29_2 fpart29_2) (And.intro foff29_3 (And.intro fpart29_3 foff29_4))) (And.intro (And.intro fpart29_4 fe29) (And.intro zmb29 (And.intro bldT29 tyc38)))) (And.intro (And.intro (And.intro foff38_0 fpart38_0) (And.intro foff38_1 (And.intro fpart38_1 foff38_2))) (And.intro (And.intro fpart38_2 foff38_3) (And.intro fpart38_3 (And.intro foff38_4 fpart38_4))))) (And.intro (And.intro (And.intro (And.intro zmb38 bldT38) (And.intro tyc43 (And.intro elt43 mkz43))) (And.intro (And.intro mkc43 apT43) (And.intro elk43 (And.intro zmb43 tyc48)))) (And.intro (And.intro (And.intro Tryd.underlying0 Tryd.underlying2) (And.intro Tryd.underlying3 (And.intro Tryd.underlying4 Tryd.underlying23))) (And.intro (And.intro Tryd.underlying24 (And.intro Tryd.underlying27 Tryd.underlying29)) (And.intro Tryd.underlying38 (And.intro Tryd.underlying43 Tryd.underlying48))))))
theorem Y1OuZF {G R : Prop} (r : R) (h : R → G := by intro r; first | (apply WP.region; exact rvc_sound _ _ (Sm.out r)) | exact WP.drawK rfl mixed (by decide +kernel) (Sm.out r) | (apply WP.block; exact r) | (apply WP.skip; exact Yq r) | (apply WP.exit; exact Yq r) | (apply WP.ret; exact Sm.out r) | exact WP.cond rfl (fun _ => r) (fun hg => absurd hg (by decide)) | exact WP.cond rfl (fun hg => absurd hg (by decide)) (fun _ => r) | exact Rt.mk (And.intro (fun _ => Sm.out r) fun hg => absurd hg (by decide)) | exact Rt.mk (And.intro (fun hg => absurd hg (by decide)) fun _ => Sm.out r)) : G := h r
theorem YzOuZF {G R : Prop} (r : R) (h : R → G := by intro r; first | (apply ExG.no; exact Sm.out r) | (apply Or.inl; apply ExG.no; exact Sm.out r) | exact Or.inl (And.intro (fun hg => absurd hg (by decide)) (ExG.no (Sm.out r)))) : G := h r
theorem YsOuZF0 {P Q : Prop} (q : Q) (h : P = Q := by (try (conv => lhs; simp -dsimp only [ZK, rvc, capA, appA, litL, mkfv, drawF, headN, pureH, stp, dvc, calleeOf, gcall, pev, eff, newB, okd, og, ogs, ogo, ogp, slv, bltv, opd, litv, strip, one, both, putE, St.put, look, gdOf, gdv, picka, pickv, pickw, binv, bini, bins, binb, binp, binq, isSlT, bina, shp, eqCells, unv, convv, nilv, faddv, addp, idxav, idxp, load1, load1m, loadn, loadnm, loadv, hget, hset, hrep, hdel, slicev, slice3v, bnd, shift1, lenv, capv, IntKind.bits, extractv, fieldv, indexv, min2v, max2v, mkiv, tasv, tasz, cellsA, fillA, buildv, stC, oneC, rowMB, intsA, plN, appE, appZ, appC, appS, srcB, appNZ, appNC, VwL, srcC, srcZ, srcM, isBoolT, isPtrT, isSliceT, uOk, Value.oneCell', Nat.reducePow, Int.reducePow, Nat.reduceAdd, Nat.reduceMul, Nat.reduceSub, Nat.reduceLT, Nat.reduceLeDiff, Nat.reduceEqDiff, Nat.reduceBEq, Nat.reduceDiv, Nat.reduceMod, ↓reduceIte, reduceCtorEq, Int.reduceToNat, Int.reduceLT, Int.reduceLE, TFOuZF, SeqQ, BlkQ, LoopQ, BodyQ, hhv, FA.out, FR.out])) <;> exact rfl) : P := h.mpr q
theorem YsOuZF1 {P Q : Prop} (q : Q) (h : P = Q := by (try (conv => lhs; simp -dsimp only [ZK, rvc, capA, appA, litL, mkfv, drawF, headN, pureH, stp, dvc, calleeOf, gcall, pev, eff, newB, okd, og, ogs, ogo, ogp, slv, bltv, opd, litv, strip, one, both, putE, St.put, look, gdOf, gdv, picka, pickv, pickw, binv, bini, bins, binb, binp, binq, isSlT, bina, shp, eqCells, unv, convv, nilv, faddv, addp, idxav, idxp, load1, load1m, loadn, loadnm, loadv, hget, hset, hrep, hdel, slicev, slice3v, bnd, shift1, lenv, capv, IntKind.bits, extractv, fieldv, indexv, min2v, max2v, mkiv, tasv, tasz, cellsA, fillA, buildv, stC, oneC, rowMB, intsA, plN, appE, appZ, appC, appS, srcB, appNZ, appNC, VwL, srcC, srcZ, srcM, isBoolT, isPtrT, isSliceT, uOk, Value.oneCell', Nat.reducePow, Int.reducePow, Nat.reduceAdd, Nat.reduceMul, Nat.reduceSub, Nat.reduceLT, Nat.reduceLeDiff, Nat.reduceEqDiff, Nat.reduceBEq, Nat.reduceDiv, Nat.reduceMod, ↓reduceIte, reduceCtorEq, Int.reduceToNat, Int.reduceLT, Int.reduceLE, TFOuZF, SeqQ, BlkQ, LoopQ, BodyQ, Bool.or_false, FA.out, FR.out])) <;> exact rfl) : P := h.mpr q
theorem YsOuZF2 {P Q : Prop} (q : Q) (h : P = Q := by (try (conv => lhs; simp -dsimp only [ZK, rvc, capA, appA, litL, mkfv, drawF, headN, pureH, stp, dvc, calleeOf, gcall, pev, eff, newB, okd, og, ogs, ogo, ogp, slv, bltv, opd, litv, strip, one, both, putE, St.put, look, gdOf, gdv, picka, pickv, pickw, binv, bini, bins, binb, binp, binq, isSlT, bina, shp, eqCells, unv, convv, nilv, faddv, addp, idxav, idxp, load1, load1m, loadn, loadnm, loadv, hget, hset, hrep, hdel, slicev, slice3v, bnd, shift1, lenv, capv, IntKind.bits, extractv, fieldv, indexv, min2v, max2v, mkiv, tasv, tasz, cellsA, fillA, buildv, stC, oneC, rowMB, intsA, plN, appE, appZ, appC, appS, srcB, appNZ, appNC, VwL, srcC, srcZ, srcM, isBoolT, isPtrT, isSliceT, uOk, Value.oneCell', Nat.reducePow, Int.reducePow, Nat.reduceAdd, Nat.reduceMul, Nat.reduceSub, Nat.reduceLT, Nat.reduceLeDiff, Nat.reduceEqDiff, Nat.reduceBEq, Nat.reduceDiv, Nat.reduceMod, ↓reduceIte, reduceCtorEq, Int.reduceToNat, Int.reduceLT, Int.reduceLE, TFOuZF, SeqQ, BlkQ, LoopQ, BodyQ, hin, FA.out, FR.out])) <;> exact rfl) : P := h.mpr q
theorem sn_kz {n : Nt} {b : Bx} {now : Int} {hs : List Ky} (hz : ∀ e ∈ b.l, Kz e.k) : ∀ e ∈ (snB n b now hs).l, Kz e.k := by
  intro e he
  unfold snB at he
  split at he
  · obtain ⟨e', h1, rfl⟩ := List.mem_map.1 he
    split
    · exact hz e' h1
    · exact hz e' h1
  · exact hz e he
theorem snK_len (n : Nt) (b : Bx) (now : Int) (hs : List Ky) : (snK n b now hs).length ≤ b.l.length := by
  unfold snK
  split
  · rw [List.length_map]; exact List.length_filter_le ..
  · exact Nat.zero_le _
set_option maxHeartbeats 8000000 in
set_option maxRecDepth 8000 in
theorem sends_ct (nt : Nt) (b : Bx) (now : Int) (ks : List Ky) (n m : Nat) (hn : b.l.length = n) (hm : ks.length = m) : ACt Tryd.prog 5 [ntv nt, .agg [.sl n (ecs b.l), iv .u64 b.d], iv .i64 now, .sl m (kcs ks)] [] (fun r _ => r = bv true) := by
  have cA := awake_ct
  have cB := bheavy_ct b n hn
  have cK := heavys_ct ks m hm
  obtain ⟨hx, hhx⟩ : ∃ x, hbB b = x := ⟨_, rfl⟩
  obtain ⟨hw, hhw⟩ : ∃ x, hkB ks = x := ⟨_, rfl⟩
  rw [hhx] at cB
  rw [hhw] at cK
  by_cases hhv : (hx || hw) = true
  · obtain ⟨C, hC⟩ : ∃ C, C = ecs b.l := ⟨_, rfl⟩
    rw [← hC] at cB ⊢
    obtain ⟨K1, hK1⟩ : ∃ q, q = kcs ks := ⟨_, rfl⟩
    rw [← hK1] at cK ⊢
    obtain ⟨l, d⟩ := b
    obtain ⟨ro, re, fi, ca, rp⟩ := nt
    refine ACt.intro Tryd.func5 rfl (by kernel_rfl) (by simp [Tryd.ntmps5]) (fun cx => ?_)
    simp only [argE, Tryd.ntmps5, Tryd.results5]
    first | (have FRx := FR; clear FRx) | have FR := fr0S
    have FA := Sm.mk (TFOuZF)
    repeat' first | (apply Sm.mk; refine YsOuZF0 ?_) | refine WP.seq fun K hK => ?_ | (apply Ob.mk; exact Yo) | refine And.intro (Ob.out ?_) ?_ | ((fail_if_success (show WP _ _ _ (.region 5 _ _) _ _)); refine Y1OuZF ?_) | refine Yc (c := cA) (r := ?_) | refine Yc (c := cB) (r := ?_) | refine Yc (c := cK) (r := ?_) | refine YzOuZF ?_ | (refine WP.cond rfl (fun hc => ?_) (fun hc => ?_) <;> (try simp only [ZC, reduceCtorEq, ZD] at hc) <;> (try exact absurd hc (by decide)) <;> (try (exfalso; omega))) | refine Rt.mk (And.intro (fun hg => Sm.out ?_) fun hg => Sm.out ?_) | (refine Nu.mk ?_; first | (fail_if_success have := nb1); intro nb1 | (fail_if_success have := nb2); intro nb2 | (fail_if_success have := nb3); intro nb3 | (fail_if_success have := nb4); intro nb4 | (fail_if_success have := nb5); intro nb5 | (fail_if_success have := nb6); intro nb6 | (fail_if_success have := nb7); intro nb7 | (fail_if_success have := nb8); intro nb8 | intro nbz) | (apply Yfr; refine Yf FR fun hFRb FR => ?_) | refine Two.mk ?_ ?_ | (apply Yxc; exact Yx) | refine Cs.mk fun hcs => Sm.out ?_ | go_step | omega | (simp only [maxLen_eq]; omega) | exact trivial
    (refine Yg ?_; try exact trivial)
  obtain rfl : hx = false := by revert hhv; cases hx <;> simp
  obtain rfl : hw = false := by revert hhv; cases hw <;> simp
  have hz := hb_kz hhx
  have hm100 := hk_len hhw
  have hn80 : n ≤ 80 := by omega
  have cC := copied_ct b n hn (by omega)
  have cR := rbright_ct b n hn (by omega) hz.2
  have c1 := send_ct nt b now ks n m hn hm (by omega) (by omega) hz.2
  have c2 := rsend_ct nt b now ks n m hn hm (by omega) (by omega) hz.2
  have cS := bsame_ct b b n n hn hn (by omega)
  rw [sameX_t rfl] at cS
  have hal := sn_len nt b now ks
  have hak := sn_kz (n := nt) (now := now) (hs := ks) hz.2
  have har := sn_right (n := nt) (b := b) (now := now) (hs := ks)
  have hkl := snK_len nt b now ks
  have hke := fun (k : Ky) (h : k ∈ snK nt b now ks) => sn_sent h
  have cH := fun k => has_ct ks k m hm (by omega)
  have cF := fun k => rfind_ct b k n hn (by omega)
  unfold snR at c1 c2
  obtain ⟨B, hB⟩ : ∃ B, B = snB nt b now ks := ⟨_, rfl⟩
  obtain ⟨Q, hQ⟩ : ∃ Q, Q = snK nt b now ks := ⟨_, rfl⟩
  rw [← hB, ← hQ] at c1 c2
  rw [← hB] at hal hak har
  rw [← hQ] at hkl
  simp only [← hQ] at hke
  unfold bxv at c1 c2
  obtain ⟨q, hq⟩ : ∃ q, Q.length = q := ⟨_, rfl⟩
  rw [hn] at hal hkl
  rw [hq] at hkl
  rw [hal, hq] at c1 c2
  have cT := bsame_ct B B n n hal hal (by omega)
  rw [sameX_t rfl] at cT
  have cU := same_ct Q Q q q hq hq (by omega)
  rw [sameB_t rfl] at cU
  have cR2 := bright_ct B n hal (by omega) hak
  have hKl := kcs_len Q
  have hKd := kcs_drop Q
  rw [hq] at hKl
  clear hB hhx hhw hhv hz hak hQ
  obtain ⟨p, hp⟩ : ∃ p, bxB b = p := ⟨_, rfl⟩
  rw [hp] at cR har
  obtain ⟨p2, hp2⟩ : ∃ p, bxB B = p := ⟨_, rfl⟩
  rw [hp2] at cR2 har
  obtain ⟨l, d⟩ := b
  obtain ⟨l', d'⟩ := B
  simp only at cB cC cR c1 c2 cS cT cR2 cF hke hn hal ⊢
  obtain ⟨C, hC⟩ : ∃ C, C = ecs l := ⟨_, rfl⟩
  rw [← hC] at cB cC cR c1 c2 cS ⊢
  simp only [← hC] at cF
  obtain ⟨D, hD⟩ : ∃ D, D = ecs l' := ⟨_, rfl⟩
  rw [← hD] at c1 c2 cT cR2
  obtain ⟨K1, hK1⟩ : ∃ q, q = kcs ks := ⟨_, rfl⟩
  rw [← hK1] at c1 c2 cK ⊢
  simp only [← hK1] at cH
  obtain ⟨K2, hK2⟩ : ∃ q, q = kcs Q := ⟨_, rfl⟩
  rw [← hK2] at c1 c2 cU hKl hKd
  clear hC hD hK1 hK2 hp hp2
  obtain ⟨ro, re, fi, ca, rp⟩ := nt
  refine ACt.intro Tryd.func5 rfl (by kernel_rfl) (by simp [Tryd.ntmps5]) (fun cx => ?_)
  simp only [argE, Tryd.ntmps5, Tryd.results5]
  first | (have FRx := FR; clear FRx) | have FR := fr0S
  have FA := Sm.mk (TFOuZF)
  repeat' first | (apply Sm.mk; refine YsOuZF1 ?_) | refine WP.seq fun K hK => ?_ | (apply Ob.mk; exact Yo) | refine And.intro (Ob.out ?_) ?_ | refine Y1OuZF ?_ | refine Yc (c := cA) (r := ?_) | refine Yc (c := cB) (r := ?_) | refine Yc (c := cK) (r := ?_) | refine Yc (c := cC) (r := ?_) | refine Yc (c := cR) (r := ?_) | refine Yc (c := c1) (r := ?_) | refine Yc (c := c2) (r := ?_) | refine YzOuZF ?_ | (refine WP.cond rfl (fun hc => ?_) (fun hc => ?_) <;> (try simp only [ZC, reduceCtorEq, ZD] at hc) <;> (try exact absurd hc (by decide)) <;> (try (exfalso; omega))) | refine Rt.mk (And.intro (fun hg => Sm.out ?_) fun hg => Sm.out ?_) | (refine Nu.mk ?_; first | (fail_if_success have := nb1); intro nb1 | (fail_if_success have := nb2); intro nb2 | (fail_if_success have := nb3); intro nb3 | (fail_if_success have := nb4); intro nb4 | (fail_if_success have := nb5); intro nb5 | (fail_if_success have := nb6); intro nb6 | (fail_if_success have := nb7); intro nb7 | (fail_if_success have := nb8); intro nb8 | intro nbz) | (apply Yfr; refine Yf FR fun hFRb FR => ?_) | refine Two.mk ?_ ?_ | (apply Yxc; exact Yx) | refine Cs.mk fun hcs => Sm.out ?_ | go_step | omega | (simp only [maxLen_eq]; omega) | exact trivial
  have hne := FR.out
  refine WP.loop (Γ := Nat) (fun i => ⟨[(15, iv .i64 (i : Int)), (14, .sl q K2), (13, pt nb5 0), (12, .sl q K2), (11, pt nb4 0), (10, bv p), (9, pt nb3 0), (5, pt nb2 0), (3, .sl m K1)], [(nb5, .cells [.sl n D, iv .u64 d'] 2 27), (nb4, .cells [.sl n D, iv .u64 d'] 2 27), (nb3, .cells [.sl n C, iv .u64 d] 2 27), (nb2, .cells [.sl n C, iv .u64 d] 2 27)]⟩) (fun i => i ≤ q) (fun i => q - i) 0 (Nat.zero_le _) (Sub.pick (by simp [pickB, hget, hdel, FR.out, hne]) (by simp [look, hne])) ?_
  intro i hi
  have FR : Sm (¬ ((1 : Nat) = 0)) := Sm.mk Nat.one_ne_zero
  by_cases hin : i < q
  · have ki : decide ((i : Int) < (q : Int)) = true := decide_eq_true (by omega)
    have s1 : IntKind.i64.wrap ((i : Int) + 1) = ((i + 1 : Nat) : Int) := by rw [wrap_i64 (by omega) (by omega)]; omega
    have hd := hKd i (by omega)
    have hvm : Q[i]'(by omega) ∈ Q := List.getElem_mem _
    obtain ⟨v, hv⟩ : ∃ v, v = Q[i]'(by omega) := ⟨_, rfl⟩
    rw [← hv] at hd hvm
    have q1 : (i + 1) * 5 ≤ K2.length := by omega
    obtain ⟨a1, a2⟩ := hke v hvm
    have g1 := cH v
    have g2 := cF v
    rw [a1] at g1
    have b2 : decide (ixE l v 0 < 0) = false := decide_eq_false (by omega)
    obtain ⟨x2, hx2⟩ : ∃ x : Int, ixE l v 0 = x := ⟨_, rfl⟩
    rw [hx2] at g2 b2
    clear a1 a2 hvm hv hx2
    obtain ⟨vg, vr, vp, ve, vs⟩ := v
    simp only at hd
    first | (have FRx := FR; clear FRx) | have FR := fr0S
    have FA := Sm.mk (And.intro TFOuZF (And.intro ki (And.intro hd (And.intro q1 (And.intro s1 (And.intro b2 hne))))))
    repeat' first | (apply Sm.mk; refine YsOuZF2 ?_) | refine WP.seq fun K hK => ?_ | (apply Ob.mk; exact Yo) | refine And.intro (Ob.out ?_) ?_ | refine Y1OuZF ?_ | refine Yc (c := g1) (r := ?_) | refine Yc (c := g2) (r := ?_) | refine YzOuZF ?_ | (refine WP.cond rfl (fun hc => ?_) (fun hc => ?_) <;> (try simp only [ZC, reduceCtorEq, ZD] at hc) <;> (try exact absurd hc (by decide)) <;> (try (exfalso; omega))) | refine Rt.mk (And.intro (fun hg => Sm.out ?_) fun hg => Sm.out ?_) | (refine Nu.mk ?_; first | (fail_if_success have := nb1); intro nb1 | (fail_if_success have := nb2); intro nb2 | (fail_if_success have := nb3); intro nb3 | (fail_if_success have := nb4); intro nb4 | (fail_if_success have := nb5); intro nb5 | (fail_if_success have := nb6); intro nb6 | (fail_if_success have := nb7); intro nb7 | (fail_if_success have := nb8); intro nb8 | intro nbz) | (apply Yfr; refine Yf FR fun hFRb FR => ?_) | refine Two.mk ?_ ?_ | (apply Yxc; exact Yx) | refine Cs.mk fun hcs => Sm.out ?_ | go_step | omega | (simp only [maxLen_eq]; omega) | exact trivial
    exact ⟨i + 1, by omega, by omega, (Sub.pick (by simp [pickB, hget, hdel, FR.out, hne]) (by simp [look, hne]))⟩
  · have ki : decide ((i : Int) < (q : Int)) = false := decide_eq_false (by omega)
    have z1 : ((n : Int) == (n : Int)) = true := by simp
    cases p with
    | false =>
      first | (have FRx := FR; clear FRx) | have FR := fr0S
      have FA := Sm.mk (And.intro TFOuZF (And.intro ki (And.intro hne z1)))
      repeat' first | (apply Sm.mk; refine Ys ?_) | refine WP.seq fun K hK => ?_ | (apply Ob.mk; exact Yo) | refine And.intro (Ob.out ?_) ?_ | refine Y1OuZF ?_ | refine Yc (c := cT) (r := ?_) | refine Yc (c := cU) (r := ?_) | refine Yc (c := cS) (r := ?_) | refine Yc (c := cR2) (r := ?_) | refine YzOuZF ?_ | (refine WP.cond rfl (fun hc => ?_) (fun hc => ?_) <;> (try simp only [ZC, reduceCtorEq, ZD] at hc) <;> (try exact absurd hc (by decide)) <;> (try (exfalso; omega))) | refine Rt.mk (And.intro (fun hg => Sm.out ?_) fun hg => Sm.out ?_) | (refine Nu.mk ?_; first | (fail_if_success have := nb1); intro nb1 | (fail_if_success have := nb2); intro nb2 | (fail_if_success have := nb3); intro nb3 | (fail_if_success have := nb4); intro nb4 | (fail_if_success have := nb5); intro nb5 | (fail_if_success have := nb6); intro nb6 | (fail_if_success have := nb7); intro nb7 | (fail_if_success have := nb8); intro nb8 | intro nbz) | (apply Yfr; refine Yf FR fun hFRb FR => ?_) | refine Two.mk ?_ ?_ | (apply Yxc; exact Yx) | refine Cs.mk fun hcs => Sm.out ?_ | go_step | omega | (simp only [maxLen_eq]; omega) | exact trivial
      (refine Yg ?_; try exact trivial)
    | true =>
      obtain rfl : p2 = true := har rfl
      first | (have FRx := FR; clear FRx) | have FR := fr0S
      have FA := Sm.mk (And.intro TFOuZF (And.intro ki (And.intro hne z1)))
      repeat' first | (apply Sm.mk; refine Ys ?_) | refine WP.seq fun K hK => ?_ | (apply Ob.mk; exact Yo) | refine And.intro (Ob.out ?_) ?_ | refine Y1OuZF ?_ | refine Yc (c := cT) (r := ?_) | refine Yc (c := cU) (r := ?_) | refine Yc (c := cS) (r := ?_) | refine Yc (c := cR2) (r := ?_) | refine YzOuZF ?_ | (refine WP.cond rfl (fun hc => ?_) (fun hc => ?_) <;> (try simp only [ZC, reduceCtorEq, ZD] at hc) <;> (try exact absurd hc (by decide)) <;> (try (exfalso; omega))) | refine Rt.mk (And.intro (fun hg => Sm.out ?_) fun hg => Sm.out ?_) | (refine Nu.mk ?_; first | (fail_if_success have := nb1); intro nb1 | (fail_if_success have := nb2); intro nb2 | (fail_if_success have := nb3); intro nb3 | (fail_if_success have := nb4); intro nb4 | (fail_if_success have := nb5); intro nb5 | (fail_if_success have := nb6); intro nb6 | (fail_if_success have := nb7); intro nb7 | (fail_if_success have := nb8); intro nb8 | intro nbz) | (apply Yfr; refine Yf FR fun hFRb FR => ?_) | refine Two.mk ?_ ?_ | (apply Yxc; exact Yx) | refine Cs.mk fun hcs => Sm.out ?_ | go_step | omega | (simp only [maxLen_eq]; omega) | exact trivial
      (refine Yg ?_; try exact trivial)
theorem sends_law {xs ys : List AV} {u : AV} {now : Int} (hx : Shp ntTy xs) (hy : Shp bxTy ys) (hu : Shp (.sl keyTy) [u]) : ACt Tryd.prog 5 [.agg xs, .agg ys, iv .i64 now, u] [] (fun r _ => r = bv true) := by
  obtain ⟨n, e1⟩ := nt_shp hx
  obtain ⟨b, e2, h0, h1⟩ := bx_shp hy
  unfold Shp at hu
  obtain ⟨rows, e, hr⟩ := hu
  obtain rfl : u = _ := (List.cons.inj e).1
  obtain ⟨L, l1, l2⟩ := ky_rows rows hr
  rw [e1, e2, l2]
  exact sends_ct n b now L b.l.length rows.length rfl l1
end Go.Proofs.YtfknbndmabogjaaDoor
