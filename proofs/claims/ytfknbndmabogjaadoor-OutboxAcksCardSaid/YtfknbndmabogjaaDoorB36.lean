/-
  The walks and the laws that the statement leans on, part 36.
-/
import Derived.Test.YtfknbndmabogjaaDoorB9
import Derived.Test.YtfknbndmabogjaaDoorB35
namespace Go.Proofs.YtfknbndmabogjaaDoor
open Go
set_option linter.unusedVariables false
set_option linter.unusedSimpArgs false
set_option linter.defProp false
def TFOuY :=
  And.intro (And.intro (And.intro (And.intro (And.intro (And.intro tyc0 tyc2) (And.intro zmb2 (And.intro tyc3 zmb3))) (And.intro (And.intro tyc4 zmb4) (And.intro tyc23 (And.intro foff23_0 fpart23_0)))) (And.intro (And.intro (And.intro foff23_1 fpart23_1) (And.intro foff23_2 (And.intro fpart23_2 foff23_3))) (And.intro (And.intro fpart23_3 (And.intro foff23_4 fpart23_4)) (And.intro fe23 (And.intro zmb23 bldT23))))) (And.intro (And.intro (And.intro (And.intro tyc24 elt24) (And.intro mkz24 (And.intro mkc24 apT24))) (And.intro (And.intro elk24 zmb24) (And.intro tyc27 (And.intro foff27_0 fpart27_0)))) (And.intro (And.intro (And.intro foff27_1 fpart27_1) (And.intro zmb27 (And.intro bldT27 tyc29))) (And.intro (And.intro foff29_0 (And.intro fpart29_0 foff29_1)) (And.intro fpart29_1 (And.intro foff29_2 fpart29_2)))))) (And.intro (And.intro (And.intro (And.intro (And.intro foff29_3 fpart29_3) (And.intro foff29_4 (And.intro fpart29_4 fe29))) (And.intro (And.intro zmb29 bldT29) (And.intro tyc34 (And.intro zmb34 tyc35)))) (And.intro (And.intro (And.intro tyc38 foff38_0) (And.intro fpart38_0 (And.intro foff38_1 fpart38_1))) (And.intro (And.intro foff38_2 (And.intro fpart38_2 foff38_3)) (And.intro fpart38_3 (And.intro foff38_4 fpart38_4))))) (And.intro (And.intro (And.intro (And.intro zmb38 bldT38) (And.intro tyc43 (And.intro elt43 mkz43))) (And.intro (And.intro mkc43 apT43) (And.intro elk43 (And.intro zmb43 Tryd.underlying0)))) (And.intro (And.intro (And.intro Tryd.underlying2 Tryd.underlying3) (And.intro Tryd.underlying4 (And.intro Tryd.underlying23 Tryd.underlying24))) (And.intro (And.intro Tryd.underlying27 (And.intro Tryd.underlying29 Tryd.underlying34)) (And.intro Tryd.underlying35 (And.intro Tryd.underlying38 Tryd.underlying43))))))
theorem Y1OuY {G R : Prop} (r : R) (h : R → G := by intro r; first | (apply WP.region; exact rvc_sound _ _ (Sm.out r)) | exact WP.drawK rfl mixed (by decide +kernel) (Sm.out r) | (apply WP.block; exact r) | (apply WP.skip; exact Yq r) | (apply WP.exit; exact Yq r) | (apply WP.ret; exact Sm.out r) | exact WP.cond rfl (fun _ => r) (fun hg => absurd hg (by decide)) | exact WP.cond rfl (fun hg => absurd hg (by decide)) (fun _ => r) | exact Rt.mk (And.intro (fun _ => Sm.out r) fun hg => absurd hg (by decide)) | exact Rt.mk (And.intro (fun hg => absurd hg (by decide)) fun _ => Sm.out r)) : G := h r
theorem YzOuY {G R : Prop} (r : R) (h : R → G := by intro r; first | (apply ExG.no; exact Sm.out r) | (apply Or.inl; apply ExG.no; exact Sm.out r) | exact Or.inl (And.intro (fun hg => absurd hg (by decide)) (ExG.no (Sm.out r)))) : G := h r
theorem YsOuY0 {P Q : Prop} (q : Q) (h : P = Q := by (try (conv => lhs; simp -dsimp only [ZK, rvc, capA, appA, litL, mkfv, drawF, headN, pureH, stp, dvc, calleeOf, gcall, pev, eff, newB, okd, og, ogs, ogo, ogp, slv, bltv, opd, litv, strip, one, both, putE, St.put, look, gdOf, gdv, picka, pickv, pickw, binv, bini, bins, binb, binp, binq, isSlT, bina, shp, eqCells, unv, convv, nilv, faddv, addp, idxav, idxp, load1, load1m, loadn, loadnm, loadv, hget, hset, hrep, hdel, slicev, slice3v, bnd, shift1, lenv, capv, IntKind.bits, extractv, fieldv, indexv, min2v, max2v, mkiv, tasv, tasz, cellsA, fillA, buildv, stC, oneC, rowMB, intsA, plN, appE, appZ, appC, appS, srcB, appNZ, appNC, VwL, srcC, srcZ, srcM, isBoolT, isPtrT, isSliceT, uOk, Value.oneCell', Nat.reducePow, Int.reducePow, Nat.reduceAdd, Nat.reduceMul, Nat.reduceSub, Nat.reduceLT, Nat.reduceLeDiff, Nat.reduceEqDiff, Nat.reduceBEq, Nat.reduceDiv, Nat.reduceMod, ↓reduceIte, reduceCtorEq, Int.reduceToNat, Int.reduceLT, Int.reduceLE, TFOuY, SeqQ, BlkQ, LoopQ, BodyQ, hhv, FA.out, FR.out])) <;> exact rfl) : P := h.mpr q
theorem YsOuY1 {P Q : Prop} (q : Q) (h : P = Q := by (try (conv => lhs; simp -dsimp only [ZK, rvc, capA, appA, litL, mkfv, drawF, headN, pureH, stp, dvc, calleeOf, gcall, pev, eff, newB, okd, og, ogs, ogo, ogp, slv, bltv, opd, litv, strip, one, both, putE, St.put, look, gdOf, gdv, picka, pickv, pickw, binv, bini, bins, binb, binp, binq, isSlT, bina, shp, eqCells, unv, convv, nilv, faddv, addp, idxav, idxp, load1, load1m, loadn, loadnm, loadv, hget, hset, hrep, hdel, slicev, slice3v, bnd, shift1, lenv, capv, IntKind.bits, extractv, fieldv, indexv, min2v, max2v, mkiv, tasv, tasz, cellsA, fillA, buildv, stC, oneC, rowMB, intsA, plN, appE, appZ, appC, appS, srcB, appNZ, appNC, VwL, srcC, srcZ, srcM, isBoolT, isPtrT, isSliceT, uOk, Value.oneCell', Nat.reducePow, Int.reducePow, Nat.reduceAdd, Nat.reduceMul, Nat.reduceSub, Nat.reduceLT, Nat.reduceLeDiff, Nat.reduceEqDiff, Nat.reduceBEq, Nat.reduceDiv, Nat.reduceMod, ↓reduceIte, reduceCtorEq, Int.reduceToNat, Int.reduceLT, Int.reduceLE, TFOuY, SeqQ, BlkQ, LoopQ, BodyQ, Bool.or_false, FA.out, FR.out])) <;> exact rfl) : P := h.mpr q
theorem YsOuY2 {P Q : Prop} (q : Q) (h : P = Q := by (try (conv => lhs; simp -dsimp only [ZK, rvc, capA, appA, litL, mkfv, drawF, headN, pureH, stp, dvc, calleeOf, gcall, pev, eff, newB, okd, og, ogs, ogo, ogp, slv, bltv, opd, litv, strip, one, both, putE, St.put, look, gdOf, gdv, picka, pickv, pickw, binv, bini, bins, binb, binp, binq, isSlT, bina, shp, eqCells, unv, convv, nilv, faddv, addp, idxav, idxp, load1, load1m, loadn, loadnm, loadv, hget, hset, hrep, hdel, slicev, slice3v, bnd, shift1, lenv, capv, IntKind.bits, extractv, fieldv, indexv, min2v, max2v, mkiv, tasv, tasz, cellsA, fillA, buildv, stC, oneC, rowMB, intsA, plN, appE, appZ, appC, appS, srcB, appNZ, appNC, VwL, srcC, srcZ, srcM, isBoolT, isPtrT, isSliceT, uOk, Value.oneCell', Nat.reducePow, Int.reducePow, Nat.reduceAdd, Nat.reduceMul, Nat.reduceSub, Nat.reduceLT, Nat.reduceLeDiff, Nat.reduceEqDiff, Nat.reduceBEq, Nat.reduceDiv, Nat.reduceMod, ↓reduceIte, reduceCtorEq, Int.reduceToNat, Int.reduceLT, Int.reduceLE, TFOuY, SeqQ, BlkQ, LoopQ, BodyQ, hin, FA.out, FR.out])) <;> exact rfl) : P := h.mpr q
theorem hk_len {ks : List Ky} (h : hkB ks = false) : ks.length ≤ 100 := by
  unfold hkB at h
  simp only [Bool.or_eq_false_iff, decide_eq_false_iff_not] at h
  omega
set_option maxHeartbeats 8000000 in
set_option maxRecDepth 8000 in
theorem acks_ct (nt : Nt) (b : Bx) (k : Ky) (now : Int) (f : Bool) (ks : List Ky) (n m : Nat) (hn : b.l.length = n) (hm : ks.length = m) : ACt Tryd.prog 4 [ntv nt, .agg [.sl n (ecs b.l), iv .u64 b.d], kv k, iv .i64 now, bv f, .sl m (kcs ks)] [] (fun r _ => r = bv true) := by
  have cA := awake_ct
  have cB := bheavy_ct b n hn
  have cH := heavy_ct k
  have cK := heavys_ct ks m hm
  obtain ⟨hx, hhx⟩ : ∃ x, hbB b = x := ⟨_, rfl⟩
  obtain ⟨hy, hhy⟩ : ∃ x, hvB k = x := ⟨_, rfl⟩
  obtain ⟨hw, hhw⟩ : ∃ x, hkB ks = x := ⟨_, rfl⟩
  rw [hhx] at cB
  rw [hhy] at cH
  rw [hhw] at cK
  by_cases hhv : (hx || hy || hw) = true
  · obtain ⟨C, hC⟩ : ∃ C, C = ecs b.l := ⟨_, rfl⟩
    rw [← hC] at cB ⊢
    obtain ⟨K1, hK1⟩ : ∃ q, q = kcs ks := ⟨_, rfl⟩
    rw [← hK1] at cK ⊢
    obtain ⟨l, d⟩ := b
    obtain ⟨ro, re, fi, ca, rp⟩ := nt
    obtain ⟨kg, kr, kp, ke, ks'⟩ := k
    refine ACt.intro Tryd.func4 rfl (by kernel_rfl) (by simp [Tryd.ntmps4]) (fun cx => ?_)
    simp only [argE, Tryd.ntmps4, Tryd.results4]
    first | (have FRx := FR; clear FRx) | have FR := fr0S
    have FA := Sm.mk (TFOuY)
    repeat' first | (apply Sm.mk; refine YsOuY0 ?_) | refine WP.seq fun K hK => ?_ | (apply Ob.mk; exact Yo) | refine And.intro (Ob.out ?_) ?_ | ((fail_if_success (show WP _ _ _ (.region 5 _ _) _ _)); refine Y1OuY ?_) | refine Yc (c := cA) (r := ?_) | refine Yc (c := cB) (r := ?_) | refine Yc (c := cH) (r := ?_) | refine Yc (c := cK) (r := ?_) | refine YzOuY ?_ | (refine WP.cond rfl (fun hc => ?_) (fun hc => ?_) <;> (try simp only [ZC, reduceCtorEq, ZD] at hc) <;> (try exact absurd hc (by decide)) <;> (try (exfalso; omega))) | refine Rt.mk (And.intro (fun hg => Sm.out ?_) fun hg => Sm.out ?_) | (refine Nu.mk ?_; first | (fail_if_success have := nb1); intro nb1 | (fail_if_success have := nb2); intro nb2 | (fail_if_success have := nb3); intro nb3 | (fail_if_success have := nb4); intro nb4 | (fail_if_success have := nb5); intro nb5 | (fail_if_success have := nb6); intro nb6 | (fail_if_success have := nb7); intro nb7 | (fail_if_success have := nb8); intro nb8 | (fail_if_success have := nb9); intro nb9 | (fail_if_success have := nb10); intro nb10 | (fail_if_success have := nb11); intro nb11 | (fail_if_success have := nb12); intro nb12 | (fail_if_success have := nb13); intro nb13 | (fail_if_success have := nb14); intro nb14 | intro nbz) | (apply Yfr; refine Yf FR fun hFRb FR => ?_) | refine Two.mk ?_ ?_ | (apply Yxc; exact Yx) | refine Cs.mk fun hcs => Sm.out ?_ | go_step | omega | (simp only [maxLen_eq]; omega) | exact trivial
    (refine Yg ?_; try exact trivial)
  obtain rfl : hx = false := by revert hhv; cases hx <;> simp
  obtain rfl : hy = false := by revert hhv; cases hy <;> simp
  obtain rfl : hw = false := by revert hhv; cases hw <;> simp
  have hz := hb_kz hhx
  have hzk := hv_kz hhy
  have hm100 := hk_len hhw
  have hn80 : n ≤ 80 := by omega
  have cC := copied_ct b n hn (by omega)
  have cR := rbright_ct b n hn (by omega) hz.2
  have c1 := ack_ct nt b k now f n hn (by omega) hz.2
  have c2 := rack_ct nt b k now f n hn (by omega) hz.2
  have c3 := settle_ct ks b n m hn hm (by omega) (by omega) hz.2
  have c4 := rset_ct ks b n m hn hm (by omega) (by omega) hz.2
  have cS := bsame_ct b b n n hn hn (by omega)
  rw [sameX_t rfl] at cS
  have hal := ak_len nt b k now f
  have hsl := st_len ks b
  have hak := ak_kz (n := nt) (b := b) (k := k) (now := now) (f := f) hz.2
  have hsk := st_kz (ks := ks) (b := b) hz.2
  have har := ak_right (n := nt) (b := b) (k := k) (now := now) (f := f)
  have hsr := st_right (ks := ks) (b := b)
  have hap := fun (e : En) (h : e ∈ b.l) (hk : e.k ≠ k) => ak_keeps (n := nt) (k := k) (now := now) (f := f) h hk
  have hsp := fun (e : En) (h : e ∈ b.l) (ha : e.a = false) => st_keep (ks := ks) h ha
  unfold akR at c1 c2
  obtain ⟨B, hB⟩ : ∃ B, B = akB nt b k now f := ⟨_, rfl⟩
  obtain ⟨e, he⟩ : ∃ e, e = akC nt b k now := ⟨_, rfl⟩
  obtain ⟨S, hS⟩ : ∃ B, B = stB ks b := ⟨_, rfl⟩
  rw [← hB, ← he] at c1 c2
  rw [← hS] at c3 c4 hsl hsk hsr
  rw [← hB] at hal hak har
  simp only [← hB] at hap
  simp only [← hS] at hsp
  unfold bxv at c1 c2 c3 c4
  obtain ⟨q, hq⟩ : ∃ m, B.l.length = m := ⟨_, rfl⟩
  obtain ⟨s, hs⟩ : ∃ m, S.l.length = m := ⟨_, rfl⟩
  have cT := bsame_ct B B q q hq hq (by omega)
  have cU := bsame_ct S S s s hs hs (by omega)
  rw [sameX_t rfl] at cT cU
  have cR2 := bright_ct B q hq (by omega) hak
  have cR3 := bright_ct S s hs (by omega) hsk
  have cF := fun k => find_ct B k q hq (by omega)
  have cG := fun k => find_ct S k s hs (by omega)
  have hCl := ecs_len b.l
  have hdr := ecs_drop b.l
  rw [hq] at c1 c2
  rw [hs] at c3 c4
  rw [hn] at hCl
  clear hB he hS hhx hhy hhw hhv hz hzk hal hsl hak hsk
  obtain ⟨p, hp⟩ : ∃ p, bxB b = p := ⟨_, rfl⟩
  rw [hp] at cR har hsr
  obtain ⟨p2, hp2⟩ : ∃ p, bxB B = p := ⟨_, rfl⟩
  rw [hp2] at cR2 har
  obtain ⟨p3, hp3⟩ : ∃ p, bxB S = p := ⟨_, rfl⟩
  rw [hp3] at cR3 hsr
  have hpp : (p && (!p2 || !p3)) = false := by
    cases p with
    | false => rfl
    | true => rw [har rfl, hsr rfl]; rfl
  obtain ⟨l, d⟩ := b
  obtain ⟨l', d'⟩ := B
  obtain ⟨l2, d2⟩ := S
  simp only at cB cC cR c1 c2 c3 c4 cS cT cU cR2 cR3 cF cG hap hsp hn hCl hdr hq hs ⊢
  obtain ⟨C, hC⟩ : ∃ C, C = ecs l := ⟨_, rfl⟩
  rw [← hC] at cB cC cR c1 c2 c3 c4 cS hCl hdr ⊢
  obtain ⟨D, hD⟩ : ∃ D, D = ecs l' := ⟨_, rfl⟩
  rw [← hD] at c1 c2 cT cR2
  simp only [← hD] at cF
  obtain ⟨E, hE⟩ : ∃ D, D = ecs l2 := ⟨_, rfl⟩
  rw [← hE] at c3 c4 cU cR3
  simp only [← hE] at cG
  obtain ⟨K1, hK1⟩ : ∃ q, q = kcs ks := ⟨_, rfl⟩
  rw [← hK1] at c3 c4 cK ⊢
  clear hC hD hE hK1 hp hp2 hp3 har hsr
  have hf := fe29
  have z1 : (e != e) = false := by simp
  obtain ⟨ro, re, fi, ca, rp⟩ := nt
  obtain ⟨kg, kr, kp, ke, kss⟩ := k
  refine ACt.intro Tryd.func4 rfl (by kernel_rfl) (by simp [Tryd.ntmps4]) (fun cx => ?_)
  simp only [argE, Tryd.ntmps4, Tryd.results4]
  first | (have FRx := FR; clear FRx) | have FR := fr0S
  have FA := Sm.mk (And.intro TFOuY (And.intro z1 hpp))
  repeat' first | (apply Sm.mk; refine YsOuY1 ?_) | refine WP.seq fun K hK => ?_ | (apply Ob.mk; exact Yo) | refine And.intro (Ob.out ?_) ?_ | refine Y1OuY ?_ | refine Yc (c := cA) (r := ?_) | refine Yc (c := cB) (r := ?_) | refine Yc (c := cH) (r := ?_) | refine Yc (c := cK) (r := ?_) | refine Yc (c := cC) (r := ?_) | refine Yc (c := cR) (r := ?_) | refine Yc (c := c1) (r := ?_) | refine Yc (c := c2) (r := ?_) | refine Yc (c := c3) (r := ?_) | refine Yc (c := c4) (r := ?_) | refine Yc (c := cS) (r := ?_) | refine Yc (c := cT) (r := ?_) | refine Yc (c := cU) (r := ?_) | refine Yc (c := cR2) (r := ?_) | refine Yc (c := cR3) (r := ?_) | refine YzOuY ?_ | (refine WP.cond rfl (fun hc => ?_) (fun hc => ?_) <;> (try simp only [ZC, reduceCtorEq, ZD] at hc) <;> (try exact absurd hc (by decide)) <;> (try (exfalso; omega))) | refine Rt.mk (And.intro (fun hg => Sm.out ?_) fun hg => Sm.out ?_) | (refine Nu.mk ?_; first | (fail_if_success have := nb1); intro nb1 | (fail_if_success have := nb2); intro nb2 | (fail_if_success have := nb3); intro nb3 | (fail_if_success have := nb4); intro nb4 | (fail_if_success have := nb5); intro nb5 | (fail_if_success have := nb6); intro nb6 | (fail_if_success have := nb7); intro nb7 | (fail_if_success have := nb8); intro nb8 | (fail_if_success have := nb9); intro nb9 | (fail_if_success have := nb10); intro nb10 | (fail_if_success have := nb11); intro nb11 | (fail_if_success have := nb12); intro nb12 | (fail_if_success have := nb13); intro nb13 | (fail_if_success have := nb14); intro nb14 | intro nbz) | (apply Yfr; refine Yf FR fun hFRb FR => ?_) | refine Two.mk ?_ ?_ | (apply Yxc; exact Yx) | refine Cs.mk fun hcs => Sm.out ?_ | go_step | omega | (simp only [maxLen_eq]; omega) | exact trivial
  have hne := FR.out
  have hcC := hpp
  refine WP.loop (Γ := Nat) (fun i => ⟨[(20, iv .i64 (i : Int)), (19, pt nb7 0), (15, pt nb5 0), (8, pt nb3 0), (7, pt nb2 0)], [(nb7, .cells [.sl s E, iv .u64 d2] 2 27), (nb5, .cells [.sl q D, iv .u64 d'] 2 27), (nb3, kb ⟨kg, kr, kp, ke, kss⟩), (nb2, .cells [.sl n C, iv .u64 d] 2 27)]⟩) (fun i => i ≤ n) (fun i => n - i) 0 (Nat.zero_le _) (Sub.pick (by simp [pickB, hget, hdel, FR.out, hne]) (by simp [look, hne])) ?_
  intro i hi
  have FR : Sm (¬ ((1 : Nat) = 0)) := Sm.mk Nat.one_ne_zero
  by_cases hin : i < n
  · have ki : decide ((i : Int) < (n : Int)) = true := decide_eq_true (by omega)
    have s1 : IntKind.i64.wrap ((i : Int) + 1) = ((i + 1 : Nat) : Int) := by rw [wrap_i64 (by omega) (by omega)]; omega
    have hd := hdr i (by omega)
    have hvm : l[i]'(by omega) ∈ l := List.getElem_mem _
    obtain ⟨v, hv⟩ : ∃ v, v = l[i]'(by omega) := ⟨_, rfl⟩
    rw [← hv] at hd hvm
    have q1 : (i + 1) * 9 ≤ C.length := by omega
    have g1 := cG v.k
    have g2 := cF v.k
    have a1 := hsp v hvm
    have a2 := hap v hvm
    obtain ⟨x1, hx1⟩ : ∃ x : Int, ixE l2 v.k 0 = x := ⟨_, rfl⟩
    obtain ⟨x2, hx2⟩ : ∃ x : Int, ixE l' v.k 0 = x := ⟨_, rfl⟩
    rw [hx1] at g1 a1
    rw [hx2] at g2 a2
    obtain ⟨y1, hy1⟩ : ∃ y, decide (x1 < 0) = y := ⟨_, rfl⟩
    obtain ⟨y2, hy2⟩ : ∃ y, decide (x2 < 0) = y := ⟨_, rfl⟩
    obtain ⟨w, hw⟩ : ∃ q, keqB v.k ⟨kg, kr, kp, ke, kss⟩ = q := ⟨_, rfl⟩
    have b1 : v.a = false → y1 = false := fun h => by rw [← hy1]; exact decide_eq_false (by have := a1 h; omega)
    have b2 : w = false → y2 = false := fun h => by
      rw [← hy2]
      refine decide_eq_false ?_
      have := a2 (fun hh => by
        rw [(keqB_iff _ _).2 hh] at hw
        rw [h] at hw; cases hw)
      omega
    unfold keqB at hw
    have hbad : (!v.a && (y1 || (!w && y2))) = false := by
      cases hva : v.a with
      | true => rfl
      | false =>
        rw [b1 hva]
        cases w with
        | true => rfl
        | false => rw [b2 rfl]; rfl
    clear a1 a2 b1 b2 hvm hv hx1 hx2
    obtain ⟨⟨vg, vr, vp, ve, vs⟩, eb, en, et, ea⟩ := v
    simp only at hd g1 g2 hw hbad
    first | (have FRx := FR; clear FRx) | have FR := fr0S
    have FA := Sm.mk (And.intro TFOuY (And.intro ki (And.intro hd (And.intro q1 (And.intro s1 (And.intro hf (And.intro hw (And.intro hy1 (And.intro hy2 (And.intro hbad hne))))))))))
    repeat' first | (apply Sm.mk; refine YsOuY2 ?_) | refine WP.seq fun K hK => ?_ | (apply Ob.mk; exact Yo) | refine And.intro (Ob.out ?_) ?_ | refine Y1OuY ?_ | refine Yc (c := g1) (r := ?_) | refine Yc (c := g2) (r := ?_) | refine YzOuY ?_ | (refine WP.cond rfl (fun hc => ?_) (fun hc => ?_) <;> (try simp only [ZC, reduceCtorEq, ZD] at hc) <;> (try exact absurd hc (by decide)) <;> (try (exfalso; omega))) | refine Rt.mk (And.intro (fun hg => Sm.out ?_) fun hg => Sm.out ?_) | (refine Nu.mk ?_; first | (fail_if_success have := nb1); intro nb1 | (fail_if_success have := nb2); intro nb2 | (fail_if_success have := nb3); intro nb3 | (fail_if_success have := nb4); intro nb4 | (fail_if_success have := nb5); intro nb5 | (fail_if_success have := nb6); intro nb6 | (fail_if_success have := nb7); intro nb7 | (fail_if_success have := nb8); intro nb8 | (fail_if_success have := nb9); intro nb9 | (fail_if_success have := nb10); intro nb10 | (fail_if_success have := nb11); intro nb11 | (fail_if_success have := nb12); intro nb12 | (fail_if_success have := nb13); intro nb13 | (fail_if_success have := nb14); intro nb14 | intro nbz) | (apply Yfr; refine Yf FR fun hFRb FR => ?_) | refine Two.mk ?_ ?_ | (apply Yxc; exact Yx) | refine Cs.mk fun hcs => Sm.out ?_ | go_step | omega | (simp only [maxLen_eq]; omega) | exact trivial
    exact ⟨i + 1, by omega, by omega, (Sub.pick (by simp [pickB, hget, hdel, FR.out, hne]) (by simp [look, hne]))⟩
  · have ki : decide ((i : Int) < (n : Int)) = false := decide_eq_false (by omega)
    first | (have FRx := FR; clear FRx) | have FR := fr0S
    have FA := Sm.mk (And.intro TFOuY (And.intro ki hne))
    repeat' first | (apply Sm.mk; refine Ys ?_) | refine WP.seq fun K hK => ?_ | (apply Ob.mk; exact Yo) | refine And.intro (Ob.out ?_) ?_ | refine Y1OuY ?_ | refine YzOuY ?_ | (refine WP.cond rfl (fun hc => ?_) (fun hc => ?_) <;> (try simp only [ZC, reduceCtorEq, ZD] at hc) <;> (try exact absurd hc (by decide)) <;> (try (exfalso; omega))) | refine Rt.mk (And.intro (fun hg => Sm.out ?_) fun hg => Sm.out ?_) | (refine Nu.mk ?_; first | (fail_if_success have := nb1); intro nb1 | (fail_if_success have := nb2); intro nb2 | (fail_if_success have := nb3); intro nb3 | (fail_if_success have := nb4); intro nb4 | (fail_if_success have := nb5); intro nb5 | (fail_if_success have := nb6); intro nb6 | (fail_if_success have := nb7); intro nb7 | (fail_if_success have := nb8); intro nb8 | (fail_if_success have := nb9); intro nb9 | (fail_if_success have := nb10); intro nb10 | (fail_if_success have := nb11); intro nb11 | (fail_if_success have := nb12); intro nb12 | (fail_if_success have := nb13); intro nb13 | (fail_if_success have := nb14); intro nb14 | intro nbz) | (apply Yfr; refine Yf FR fun hFRb FR => ?_) | refine Two.mk ?_ ?_ | (apply Yxc; exact Yx) | refine Cs.mk fun hcs => Sm.out ?_ | go_step | omega | (simp only [maxLen_eq]; omega) | exact trivial
    (refine Yg ?_; try exact trivial)
theorem ky_rows : ∀ (rows : List (List AV)), (∀ r ∈ rows, Shp keyTy r) → ∃ L : List Ky, L.length = rows.length ∧ rows.flatten = kcs L
  | [], _ => ⟨[], rfl, rfl⟩
  | r :: rows, h => by
    obtain ⟨L, l1, l2⟩ := ky_rows rows fun x hx => h x (List.mem_cons_of_mem _ hx)
    obtain ⟨k, rfl⟩ := key_shp (h r (List.mem_cons_self ..))
    exact ⟨k :: L, by simp [l1], by simp [l2, kcs]⟩
theorem acks_law {xs ys zs : List AV} {u : AV} {now : Int} {f : Bool} (hx : Shp ntTy xs) (hy : Shp bxTy ys) (hz : Shp keyTy zs) (hu : Shp (.sl keyTy) [u]) : ACt Tryd.prog 4 [.agg xs, .agg ys, .agg zs, iv .i64 now, bv f, u] [] (fun r _ => r = bv true) := by
  obtain ⟨n, e1⟩ := nt_shp hx
  obtain ⟨b, e2, h0, h1⟩ := bx_shp hy
  obtain ⟨k, e3⟩ := key_shp hz
  unfold Shp at hu
  obtain ⟨rows, e, hr⟩ := hu
  obtain rfl : u = _ := (List.cons.inj e).1
  obtain ⟨L, l1, l2⟩ := ky_rows rows hr
  rw [e1, e2, e3, l2]
  exact acks_ct n b k now f L b.l.length rows.length rfl l1
end Go.Proofs.YtfknbndmabogjaaDoor
