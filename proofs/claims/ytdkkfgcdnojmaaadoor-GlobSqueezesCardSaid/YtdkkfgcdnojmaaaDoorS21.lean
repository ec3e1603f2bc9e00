/-
  The walks and the laws that the statement leans on, part 21.
-/
import Derived.Test.YtdkkfgcdnojmaaaDoorS13
import Derived.Test.YtdkkfgcdnojmaaaDoorS20
namespace Go.Proofs.YtdkkfgcdnojmaaaDoor
open Go
set_option linter.unusedVariables false
set_option linter.unusedSimpArgs false
set_option linter.defProp false
def TFGlC :=
  And.intro (And.intro (And.intro (And.intro (And.intro tyc0 tyc3) (And.intro zmb3 tyc4)) (And.intro (And.intro zmb4 tyc5) (And.intro zmb5 tyc9))) (And.intro (And.intro (And.intro zmb9 tyc21) (And.intro zmb21 tyc25)) (And.intro (And.intro elt25 mkz25) (And.intro apT25 (And.intro elk25 zmb25))))) (And.intro (And.intro (And.intro (And.intro tyc33 zmb33) (And.intro elt47 tyc48)) (And.intro (And.intro tyc51 zmb51) (And.intro arr147 (And.intro Tryd.underlying0 Tryd.underlying3)))) (And.intro (And.intro (And.intro Tryd.underlying4 Tryd.underlying5) (And.intro Tryd.underlying9 Tryd.underlying21)) (And.intro (And.intro Tryd.underlying25 Tryd.underlying33) (And.intro Tryd.underlying47 (And.intro Tryd.underlying48 Tryd.underlying51)))))
theorem Y1GlC {G R : Prop} (r : R) (h : R → G := by intro r; first | (apply WP.region; exact rvc_sound _ _ (Sm.out r)) | exact WP.drawK rfl mixed (by decide +kernel) (Sm.out r) | (apply WP.block; exact r) | (apply WP.skip; exact Yq r) | (apply WP.exit; exact Yq r) | (apply WP.ret; exact Sm.out r) | exact WP.cond rfl (fun _ => r) (fun hg => absurd hg (by decide)) | exact WP.cond rfl (fun hg => absurd hg (by decide)) (fun _ => r) | exact Rt.mk (And.intro (fun _ => Sm.out r) fun hg => absurd hg (by decide)) | exact Rt.mk (And.intro (fun hg => absurd hg (by decide)) fun _ => Sm.out r)) : G := h r
theorem YzGlC {G R : Prop} (r : R) (h : R → G := by intro r; first | (apply ExG.no; exact Sm.out r) | (apply Or.inl; apply ExG.no; exact Sm.out r) | exact Or.inl (And.intro (fun hg => absurd hg (by decide)) (ExG.no (Sm.out r)))) : G := h r
theorem YsGlC0 {P Q : Prop} (q : Q) (h : P = Q := by (try (conv => lhs; simp -dsimp only [ZK, rvc, capA, appA, litL, mkfv, drawF, headN, pureH, stp, dvc, calleeOf, gcall, pev, eff, newB, okd, og, ogs, ogo, ogp, slv, bltv, opd, litv, strip, one, both, putE, St.put, look, gdOf, gdv, picka, pickv, pickw, binv, bini, bins, binb, binp, binq, isSlT, bina, shp, eqCells, unv, convv, nilv, faddv, addp, idxav, idxp, load1, load1m, loadn, loadnm, loadv, hget, hset, hrep, hdel, slicev, slice3v, bnd, shift1, lenv, capv, IntKind.bits, extractv, fieldv, indexv, min2v, max2v, mkiv, tasv, tasz, cellsA, fillA, buildv, stC, oneC, rowMB, intsA, plN, appE, appZ, appC, appS, srcB, appNZ, appNC, VwL, srcC, srcZ, srcM, isBoolT, isPtrT, isSliceT, uOk, Value.oneCell', Nat.reducePow, Int.reducePow, Nat.reduceAdd, Nat.reduceMul, Nat.reduceSub, Nat.reduceLT, Nat.reduceLeDiff, Nat.reduceEqDiff, Nat.reduceBEq, Nat.reduceDiv, Nat.reduceMod, ↓reduceIte, reduceCtorEq, Int.reduceToNat, Int.reduceLT, Int.reduceLE, TFGlC, SeqQ, BlkQ, LoopQ, BodyQ, h, FA.out, FR.out])) <;> exact rfl) : P := h.mpr q
theorem YsGlC1 {P Q : Prop} (q : Q) (h : P = Q := by (try (conv => lhs; simp -dsimp only [ZK, rvc, capA, appA, litL, mkfv, drawF, headN, pureH, stp, dvc, calleeOf, gcall, pev, eff, newB, okd, og, ogs, ogo, ogp, slv, bltv, opd, litv, strip, one, both, putE, St.put, look, gdOf, gdv, picka, pickv, pickw, binv, bini, bins, binb, binp, binq, isSlT, bina, shp, eqCells, unv, convv, nilv, faddv, addp, idxav, idxp, load1, load1m, loadn, loadnm, loadv, hget, hset, hrep, hdel, slicev, slice3v, bnd, shift1, lenv, capv, IntKind.bits, extractv, fieldv, indexv, min2v, max2v, mkiv, tasv, tasz, cellsA, fillA, buildv, stC, oneC, rowMB, intsA, plN, appE, appZ, appC, appS, srcB, appNZ, appNC, VwL, srcC, srcZ, srcM, isBoolT, isPtrT, isSliceT, uOk, Value.oneCell', Nat.reducePow, Int.reducePow, Nat.reduceAdd, Nat.reduceMul, Nat.reduceSub, Nat.reduceLT, Nat.reduceLeDiff, Nat.reduceEqDiff, Nat.reduceBEq, Nat.reduceDiv, Nat.reduceMod, ↓reduceIte, reduceCtorEq, Int.reduceToNat, Int.reduceLT, Int.reduceLE, TFGlC, SeqQ, BlkQ, LoopQ, BodyQ, Int.natCast_zero, FA.out, FR.out])) <;> exact rfl) : P := h.mpr q
theorem hp0_ct (zs ps : List Int) (hb : By zs) (hp : By ps) (hl : zs.length ≤ 5000) (hl2 : ps.length ≤ 5000) : ACt Tryd.prog 44 [stz zs, stz ps] [] (Fn (bv (decide (zs.take ps.length = ps)))) := by
  have hs := bstr_size zs
  have hq := bstr_size ps
  have hx := bstr_ext zs 0 ps.length
  rw [List.drop_zero] at hx
  have hy := str_eq (zs.take ps.length) ps (hb.take _) hp
  obtain ⟨R, hR⟩ : ∃ R, R = decide (zs.take ps.length = ps) := ⟨_, rfl⟩
  rw [← hR] at hy ⊢
  obtain ⟨T, hT⟩ : ∃ T, T = bstr (zs.take ps.length) := ⟨_, rfl⟩
  rw [← hT] at hx hy
  unfold stz
  obtain ⟨B, hB⟩ : ∃ B, B = bstr zs := ⟨_, rfl⟩
  obtain ⟨Q, hQ⟩ : ∃ Q, Q = bstr ps := ⟨_, rfl⟩
  rw [← hB] at hs hx ⊢
  rw [← hQ] at hq hy ⊢
  obtain ⟨n, hn⟩ : ∃ n, n = zs.length := ⟨_, rfl⟩
  obtain ⟨m, hm⟩ : ∃ m, m = ps.length := ⟨_, rfl⟩
  rw [← hn] at hs
  rw [← hm] at hq hx
  have t1 : ∀ k : Nat, ((k : Nat) : Int).toNat = k := fun k => by omega
  refine ACt.intro Tryd.func44 rfl (by kernel_rfl) (by simp [Tryd.ntmps44]) (fun cx => ?_)
  simp only [argE, Tryd.ntmps44, Tryd.results44]
  by_cases h : m ≤ n
  · have k1 : decide ((n : Int) ≥ (m : Int)) = true := decide_eq_true (by omega)
    first | (have FRx := FR; clear FRx) | have FR := fr0S
    have FA := Sm.mk (And.intro TFGlC (And.intro hs (And.intro hq (And.intro k1 (And.intro hx (And.intro hy t1))))))
    repeat' first | (apply Sm.mk; refine YsGlC0 ?_) | refine WP.seq fun K hK => ?_ | (apply Ob.mk; exact Yo) | refine And.intro (Ob.out ?_) ?_ | refine Y1GlC ?_ | refine YzGlC ?_ | (refine WP.cond rfl (fun hc => ?_) (fun hc => ?_) <;> (try simp only [ZC, reduceCtorEq, ZD] at hc) <;> (try exact absurd hc (by decide)) <;> (try (exfalso; omega))) | refine Rt.mk (And.intro (fun hg => Sm.out ?_) fun hg => Sm.out ?_) | (refine Nu.mk ?_; first | (fail_if_success have := nb1); intro nb1 | (fail_if_success have := nb2); intro nb2 | (fail_if_success have := nb3); intro nb3 | (fail_if_success have := nb4); intro nb4 | (fail_if_success have := nb5); intro nb5 | (fail_if_success have := nb6); intro nb6 | intro nbz) | (apply Yfr; refine Yf FR fun hFRb FR => ?_) | refine Two.mk ?_ ?_ | (apply Yxc; exact Yx) | refine Cs.mk fun hcs => Sm.out ?_ | go_step | omega | (simp only [maxLen_eq]; omega) | exact trivial
    (refine Yg ?_; try exact trivial)
  · have k1 : decide ((n : Int) ≥ (m : Int)) = false := decide_eq_false (by omega)
    have e : R = false := by
      rw [hR]
      refine decide_eq_false fun h2 => h ?_
      have := congrArg List.length h2
      rw [List.length_take] at this
      omega
    first | (have FRx := FR; clear FRx) | have FR := fr0S
    have FA := Sm.mk (And.intro TFGlC (And.intro hs (And.intro hq (And.intro k1 (And.intro hx (And.intro hy t1))))))
    repeat' first | (apply Sm.mk; refine Ys ?_) | refine WP.seq fun K hK => ?_ | (apply Ob.mk; exact Yo) | refine And.intro (Ob.out ?_) ?_ | refine Y1GlC ?_ | refine YzGlC ?_ | (refine WP.cond rfl (fun hc => ?_) (fun hc => ?_) <;> (try simp only [ZC, reduceCtorEq, ZD] at hc) <;> (try exact absurd hc (by decide)) <;> (try (exfalso; omega))) | refine Rt.mk (And.intro (fun hg => Sm.out ?_) fun hg => Sm.out ?_) | (refine Nu.mk ?_; first | (fail_if_success have := nb1); intro nb1 | (fail_if_success have := nb2); intro nb2 | (fail_if_success have := nb3); intro nb3 | (fail_if_success have := nb4); intro nb4 | (fail_if_success have := nb5); intro nb5 | (fail_if_success have := nb6); intro nb6 | intro nbz) | (apply Yfr; refine Yf FR fun hFRb FR => ?_) | refine Two.mk ?_ ?_ | (apply Yxc; exact Yx) | refine Cs.mk fun hcs => Sm.out ?_ | go_step | omega | (simp only [maxLen_eq]; omega) | exact trivial
    (have FA := Sm.mk (And.intro e FA.out); refine Yg ?_; try exact trivial)
theorem hp_ct (zs ps : List Int) (hb : By zs) (hp : By ps) (hl : zs.length ≤ 5000) (hl2 : ps.length ≤ 5000) : ACt Tryd.prog 29 [stz zs, stz ps] [] (Fn (bv (decide (zs.take ps.length = ps)))) := by
  have c0 := hp0_ct zs ps hb hp hl hl2
  refine ACt.intro Tryd.func29 rfl (by kernel_rfl) (by simp [Tryd.ntmps29]) (fun cx => ?_)
  simp only [argE, Tryd.ntmps29, Tryd.results29]
  first | (have FRx := FR; clear FRx) | have FR := fr0S
  have FA := Sm.mk (TFGlC)
  repeat' first | (apply Sm.mk; refine Ys ?_) | refine WP.seq fun K hK => ?_ | (apply Ob.mk; exact Yo) | refine And.intro (Ob.out ?_) ?_ | refine Y1GlC ?_ | refine Yc (c := c0) (r := ?_) | refine YzGlC ?_ | (refine WP.cond rfl (fun hc => ?_) (fun hc => ?_) <;> (try simp only [ZC, reduceCtorEq, ZD] at hc) <;> (try exact absurd hc (by decide)) <;> (try (exfalso; omega))) | refine Rt.mk (And.intro (fun hg => Sm.out ?_) fun hg => Sm.out ?_) | (refine Nu.mk ?_; first | (fail_if_success have := nb1); intro nb1 | (fail_if_success have := nb2); intro nb2 | (fail_if_success have := nb3); intro nb3 | (fail_if_success have := nb4); intro nb4 | (fail_if_success have := nb5); intro nb5 | (fail_if_success have := nb6); intro nb6 | intro nbz) | (apply Yfr; refine Yf FR fun hFRb FR => ?_) | refine Two.mk ?_ ?_ | (apply Yxc; exact Yx) | refine Cs.mk fun hcs => Sm.out ?_ | go_step | omega | (simp only [maxLen_eq]; omega) | exact trivial
  (refine Yg ?_; try exact trivial)
theorem tl_ct (zs : List Int) (hb : By zs) (hl : zs.length ≤ 50000) (c : Int) : ACt Tryd.prog 30 [stz zs, iv .u8 c] [] (Fn (stz (trL c zs))) := by
  obtain ⟨R, hR⟩ : ∃ R, R = trL c zs := ⟨_, rfl⟩
  rw [← hR]
  refine ACt.intro Tryd.func30 rfl (by kernel_rfl) (by simp [Tryd.ntmps30]) (fun cx => ?_)
  simp only [argE, Tryd.ntmps30, Tryd.results30]
  first | (have FRx := FR; clear FRx) | have FR := fr0S
  have FA := Sm.mk (TFGlC)
  repeat' first | (apply Sm.mk; refine Ys ?_) | refine WP.seq fun K hK => ?_ | (apply Ob.mk; exact Yo) | refine And.intro (Ob.out ?_) ?_ | refine Y1GlC ?_ | refine YzGlC ?_ | (refine WP.cond rfl (fun hc => ?_) (fun hc => ?_) <;> (try simp only [ZC, reduceCtorEq, ZD] at hc) <;> (try exact absurd hc (by decide)) <;> (try (exfalso; omega))) | refine Rt.mk (And.intro (fun hg => Sm.out ?_) fun hg => Sm.out ?_) | (refine Nu.mk ?_; first | (fail_if_success have := nb1); intro nb1 | (fail_if_success have := nb2); intro nb2 | (fail_if_success have := nb3); intro nb3 | (fail_if_success have := nb4); intro nb4 | (fail_if_success have := nb5); intro nb5 | (fail_if_success have := nb6); intro nb6 | intro nbz) | (apply Yfr; refine Yf FR fun hFRb FR => ?_) | refine Two.mk ?_ ?_ | (apply Yxc; exact Yx) | refine Cs.mk fun hcs => Sm.out ?_ | go_step | omega | (simp only [maxLen_eq]; omega) | exact trivial
  refine WP.loop (Γ := List Int) (fun L => ⟨[(0, stz L), (1, iv .u8 c)], []⟩) (fun L => By L ∧ L.length ≤ 50000 ∧ R = trL c L) (fun L => L.length) zs ⟨hb, hl, hR⟩ (Sub.pick (by simp [pickB, hget, hdel, FR.out]) (by simp [look])) ?_
  intro L ⟨h1, h2, h3⟩
  have FR : Sm (¬ ((1 : Nat) = 0)) := Sm.mk Nat.one_ne_zero
  cases L with
  | nil =>
    have hz : stz [] = .lit (.string ⟨#[]⟩) := rfl
    have hm : (⟨#[]⟩ : ByteArray).size = 0 := rfl
    have k0 : decide ((0 : Int) > 0) = false := by decide
    have e : R = [] := h3
    rw [hz]
    first | (have FRx := FR; clear FRx) | have FR := fr0S
    have FA := Sm.mk (And.intro TFGlC (And.intro hm k0))
    repeat' first | (apply Sm.mk; refine YsGlC1 ?_) | refine WP.seq fun K hK => ?_ | (apply Ob.mk; exact Yo) | refine And.intro (Ob.out ?_) ?_ | refine Y1GlC ?_ | refine YzGlC ?_ | (refine WP.cond rfl (fun hc => ?_) (fun hc => ?_) <;> (try simp only [ZC, reduceCtorEq, ZD] at hc) <;> (try exact absurd hc (by decide)) <;> (try (exfalso; omega))) | refine Rt.mk (And.intro (fun hg => Sm.out ?_) fun hg => Sm.out ?_) | (refine Nu.mk ?_; first | (fail_if_success have := nb1); intro nb1 | (fail_if_success have := nb2); intro nb2 | (fail_if_success have := nb3); intro nb3 | (fail_if_success have := nb4); intro nb4 | (fail_if_success have := nb5); intro nb5 | (fail_if_success have := nb6); intro nb6 | intro nbz) | (apply Yfr; refine Yf FR fun hFRb FR => ?_) | refine Two.mk ?_ ?_ | (apply Yxc; exact Yx) | refine Cs.mk fun hcs => Sm.out ?_ | go_step | omega | (simp only [maxLen_eq]; omega) | exact trivial
    (have FA := Sm.mk (And.intro e (And.intro hz FA.out)); refine Yg ?_; try exact trivial)
  | cons z L =>
    have hs := bstr_size (z :: L)
    have hz := bstr_at h1 (i := 0) (by simp)
    have hx := bstr_ext (z :: L) 1 (z :: L).length
    rw [List.take_length] at hx
    have hx : (bstr (z :: L)).extract 1 (z :: L).length = bstr L := hx
    have hz : ((((bstr (z :: L)).data.toList.getD 0 0).toNat : Nat) : Int) = z := hz
    unfold stz
    obtain ⟨B, hB⟩ : ∃ B, B = bstr (z :: L) := ⟨_, rfl⟩
    obtain ⟨n, hn⟩ : ∃ n, n = (z :: L).length := ⟨_, rfl⟩
    have hn1 : n = L.length + 1 := hn
    have hn2 : 1 ≤ n := by omega
    rw [trL_cons] at h3
    rw [← hB, ← hn] at hs hx
    rw [← hB] at hz ⊢
    have k1 : decide ((n : Int) > 0) = true := decide_eq_true (by omega)
    by_cases hc : z = c
    · have kc : (z == c) = true := by simpa using hc
      rw [if_pos hc] at h3
      have t1 : (1 : Int).toNat = 1 := rfl
      first | (have FRx := FR; clear FRx) | have FR := fr0S
      have FA := Sm.mk (And.intro TFGlC (And.intro hs (And.intro hx (And.intro hz (And.intro k1 (And.intro kc (And.intro hn2 t1)))))))
      repeat' first | (apply Sm.mk; refine Ys ?_) | refine WP.seq fun K hK => ?_ | (apply Ob.mk; exact Yo) | refine And.intro (Ob.out ?_) ?_ | refine Y1GlC ?_ | refine YzGlC ?_ | (refine WP.cond rfl (fun hc => ?_) (fun hc => ?_) <;> (try simp only [ZC, reduceCtorEq, ZD] at hc) <;> (try exact absurd hc (by decide)) <;> (try (exfalso; omega))) | refine Rt.mk (And.intro (fun hg => Sm.out ?_) fun hg => Sm.out ?_) | (refine Nu.mk ?_; first | (fail_if_success have := nb1); intro nb1 | (fail_if_success have := nb2); intro nb2 | (fail_if_success have := nb3); intro nb3 | (fail_if_success have := nb4); intro nb4 | (fail_if_success have := nb5); intro nb5 | (fail_if_success have := nb6); intro nb6 | intro nbz) | (apply Yfr; refine Yf FR fun hFRb FR => ?_) | refine Two.mk ?_ ?_ | (apply Yxc; exact Yx) | refine Cs.mk fun hcs => Sm.out ?_ | go_step | omega | (simp only [maxLen_eq]; omega) | exact trivial
      exact ⟨L, ⟨fun i hi => by have := h1 (i + 1) (by simpa using hi); simpa using this, by simp at h2; omega, h3⟩, by simp, (Sub.pick (by simp [pickB, hget, hdel, FR.out]) (by simp [look]))⟩
    · have kc : (z == c) = false := by simpa using hc
      rw [if_neg hc] at h3
      first | (have FRx := FR; clear FRx) | have FR := fr0S
      have FA := Sm.mk (And.intro TFGlC (And.intro hs (And.intro hx (And.intro hz (And.intro k1 (And.intro kc hn2))))))
      repeat' first | (apply Sm.mk; refine Ys ?_) | refine WP.seq fun K hK => ?_ | (apply Ob.mk; exact Yo) | refine And.intro (Ob.out ?_) ?_ | refine Y1GlC ?_ | refine YzGlC ?_ | (refine WP.cond rfl (fun hc => ?_) (fun hc => ?_) <;> (try simp only [ZC, reduceCtorEq, ZD] at hc) <;> (try exact absurd hc (by decide)) <;> (try (exfalso; omega))) | refine Rt.mk (And.intro (fun hg => Sm.out ?_) fun hg => Sm.out ?_) | (refine Nu.mk ?_; first | (fail_if_success have := nb1); intro nb1 | (fail_if_success have := nb2); intro nb2 | (fail_if_success have := nb3); intro nb3 | (fail_if_success have := nb4); intro nb4 | (fail_if_success have := nb5); intro nb5 | (fail_if_success have := nb6); intro nb6 | intro nbz) | (apply Yfr; refine Yf FR fun hFRb FR => ?_) | refine Two.mk ?_ ?_ | (apply Yxc; exact Yx) | refine Cs.mk fun hcs => Sm.out ?_ | go_step | omega | (simp only [maxLen_eq]; omega) | exact trivial
      (have FA := Sm.mk (And.intro h3 (And.intro hB FA.out)); refine Yg ?_; try exact trivial)
theorem tr_ct (zs : List Int) (hb : By zs) (hl : zs.length ≤ 50000) (c : Int) : ACt Tryd.prog 31 [stz zs, iv .u8 c] [] (Fn (stz (trR c zs))) := by
  obtain ⟨R, hR⟩ : ∃ R, R = trR c zs := ⟨_, rfl⟩
  rw [← hR]
  refine ACt.intro Tryd.func31 rfl (by kernel_rfl) (by simp [Tryd.ntmps31]) (fun cx => ?_)
  simp only [argE, Tryd.ntmps31, Tryd.results31]
  first | (have FRx := FR; clear FRx) | have FR := fr0S
  have FA := Sm.mk (TFGlC)
  repeat' first | (apply Sm.mk; refine Ys ?_) | refine WP.seq fun K hK => ?_ | (apply Ob.mk; exact Yo) | refine And.intro (Ob.out ?_) ?_ | refine Y1GlC ?_ | refine YzGlC ?_ | (refine WP.cond rfl (fun hc => ?_) (fun hc => ?_) <;> (try simp only [ZC, reduceCtorEq, ZD] at hc) <;> (try exact absurd hc (by decide)) <;> (try (exfalso; omega))) | refine Rt.mk (And.intro (fun hg => Sm.out ?_) fun hg => Sm.out ?_) | (refine Nu.mk ?_; first | (fail_if_success have := nb1); intro nb1 | (fail_if_success have := nb2); intro nb2 | (fail_if_success have := nb3); intro nb3 | (fail_if_success have := nb4); intro nb4 | (fail_if_success have := nb5); intro nb5 | (fail_if_success have := nb6); intro nb6 | intro nbz) | (apply Yfr; refine Yf FR fun hFRb FR => ?_) | refine Two.mk ?_ ?_ | (apply Yxc; exact Yx) | refine Cs.mk fun hcs => Sm.out ?_ | go_step | omega | (simp only [maxLen_eq]; omega) | exact trivial
  refine WP.loop (Γ := List Int) (fun L => ⟨[(0, stz L), (1, iv .u8 c)], []⟩) (fun L => By L ∧ L.length ≤ 50000 ∧ R = trR c L) (fun L => L.length) zs ⟨hb, hl, hR⟩ (Sub.pick (by simp [pickB, hget, hdel, FR.out]) (by simp [look])) ?_
  intro L ⟨h1, h2, h3⟩
  have FR : Sm (¬ ((1 : Nat) = 0)) := Sm.mk Nat.one_ne_zero
  obtain rfl | ⟨M, z, h0⟩ := List.eq_nil_or_concat L
  · have hz : stz [] = .lit (.string ⟨#[]⟩) := rfl
    have hm : (⟨#[]⟩ : ByteArray).size = 0 := rfl
    have k0 : decide ((0 : Int) > 0) = false := by decide
    have e : R = [] := h3
    rw [hz]
    first | (have FRx := FR; clear FRx) | have FR := fr0S
    have FA := Sm.mk (And.intro TFGlC (And.intro hm k0))
    repeat' first | (apply Sm.mk; refine YsGlC1 ?_) | refine WP.seq fun K hK => ?_ | (apply Ob.mk; exact Yo) | refine And.intro (Ob.out ?_) ?_ | refine Y1GlC ?_ | refine YzGlC ?_ | (refine WP.cond rfl (fun hc => ?_) (fun hc => ?_) <;> (try simp only [ZC, reduceCtorEq, ZD] at hc) <;> (try exact absurd hc (by decide)) <;> (try (exfalso; omega))) | refine Rt.mk (And.intro (fun hg => Sm.out ?_) fun hg => Sm.out ?_) | (refine Nu.mk ?_; first | (fail_if_success have := nb1); intro nb1 | (fail_if_success have := nb2); intro nb2 | (fail_if_success have := nb3); intro nb3 | (fail_if_success have := nb4); intro nb4 | (fail_if_success have := nb5); intro nb5 | (fail_if_success have := nb6); intro nb6 | intro nbz) | (apply Yfr; refine Yf FR fun hFRb FR => ?_) | refine Two.mk ?_ ?_ | (apply Yxc; exact Yx) | refine Cs.mk fun hcs => Sm.out ?_ | go_step | omega | (simp only [maxLen_eq]; omega) | exact trivial
    (have FA := Sm.mk (And.intro e (And.intro hz FA.out)); refine Yg ?_; try exact trivial)
  · rw [List.concat_eq_append] at h0
    subst h0
    have hs := bstr_size (M ++ [z])
    have hz := bstr_at h1 (i := M.length) (by simp)
    have hx := bstr_ext (M ++ [z]) 0 M.length
    rw [List.drop_zero, List.take_left] at hx
    have hz : ((((bstr (M ++ [z])).data.toList.getD M.length 0).toNat : Nat) : Int) = z := by rw [hz]; simp
    unfold stz
    obtain ⟨B, hB⟩ : ∃ B, B = bstr (M ++ [z]) := ⟨_, rfl⟩
    obtain ⟨n, hn⟩ : ∃ n, n = (M ++ [z]).length := ⟨_, rfl⟩
    obtain ⟨m, hm⟩ : ∃ m, m = M.length := ⟨_, rfl⟩
    have hn1 : n = m + 1 := by rw [hn, hm]; simp
    have hn2 : 1 ≤ n := by omega
    rw [trR_snoc] at h3
    rw [← hn] at h2
    rw [← hB, ← hn] at hs
    rw [← hB, ← hm] at hx hz
    rw [← hB]
    have k1 : decide ((n : Int) > 0) = true := decide_eq_true (by omega)
    have s1 : IntKind.i64.wrap ((n : Int) - 1) = (m : Int) := by rw [wrap_i64 (by omega) (by omega)]; omega
    have t1 : ∀ k : Nat, ((k : Nat) : Int).toNat = k := fun k => by omega
    have hm2 : m < n ∧ m ≤ n := by omega
    by_cases hc : z = c
    · have kc : (z == c) = true := by simpa using hc
      rw [if_pos hc] at h3
      first | (have FRx := FR; clear FRx) | have FR := fr0S
      have FA := Sm.mk (And.intro TFGlC (And.intro hs (And.intro hx (And.intro hz (And.intro k1 (And.intro kc (And.intro hn2 (And.intro s1 (And.intro t1 hm2)))))))))
      repeat' first | (apply Sm.mk; refine Ys ?_) | refine WP.seq fun K hK => ?_ | (apply Ob.mk; exact Yo) | refine And.intro (Ob.out ?_) ?_ | refine Y1GlC ?_ | refine YzGlC ?_ | (refine WP.cond rfl (fun hc => ?_) (fun hc => ?_) <;> (try simp only [ZC, reduceCtorEq, ZD] at hc) <;> (try exact absurd hc (by decide)) <;> (try (exfalso; omega))) | refine Rt.mk (And.intro (fun hg => Sm.out ?_) fun hg => Sm.out ?_) | (refine Nu.mk ?_; first | (fail_if_success have := nb1); intro nb1 | (fail_if_success have := nb2); intro nb2 | (fail_if_success have := nb3); intro nb3 | (fail_if_success have := nb4); intro nb4 | (fail_if_success have := nb5); intro nb5 | (fail_if_success have := nb6); intro nb6 | intro nbz) | (apply Yfr; refine Yf FR fun hFRb FR => ?_) | refine Two.mk ?_ ?_ | (apply Yxc; exact Yx) | refine Cs.mk fun hcs => Sm.out ?_ | go_step | omega | (simp only [maxLen_eq]; omega) | exact trivial
      exact ⟨M, ⟨fun i hi => by have := h1 i (by simp; omega); rwa [List.getD_eq_getElem?_getD, List.getElem?_append_left hi, ← List.getD_eq_getElem?_getD] at this, by omega, h3⟩, by simp, (Sub.pick (by simp [pickB, hget, hdel, FR.out]) (by simp [look]))⟩
    · have kc : (z == c) = false := by simpa using hc
      rw [if_neg hc] at h3
      first | (have FRx := FR; clear FRx) | have FR := fr0S
      have FA := Sm.mk (And.intro TFGlC (And.intro hs (And.intro hx (And.intro hz (And.intro k1 (And.intro kc (And.intro hn2 (And.intro s1 (And.intro t1 hm2)))))))))
      repeat' first | (apply Sm.mk; refine Ys ?_) | refine WP.seq fun K hK => ?_ | (apply Ob.mk; exact Yo) | refine And.intro (Ob.out ?_) ?_ | refine Y1GlC ?_ | refine YzGlC ?_ | (refine WP.cond rfl (fun hc => ?_) (fun hc => ?_) <;> (try simp only [ZC, reduceCtorEq, ZD] at hc) <;> (try exact absurd hc (by decide)) <;> (try (exfalso; omega))) | refine Rt.mk (And.intro (fun hg => Sm.out ?_) fun hg => Sm.out ?_) | (refine Nu.mk ?_; first | (fail_if_success have := nb1); intro nb1 | (fail_if_success have := nb2); intro nb2 | (fail_if_success have := nb3); intro nb3 | (fail_if_success have := nb4); intro nb4 | (fail_if_success have := nb5); intro nb5 | (fail_if_success have := nb6); intro nb6 | intro nbz) | (apply Yfr; refine Yf FR fun hFRb FR => ?_) | refine Two.mk ?_ ?_ | (apply Yxc; exact Yx) | refine Cs.mk fun hcs => Sm.out ?_ | go_step | omega | (simp only [maxLen_eq]; omega) | exact trivial
      (have FA := Sm.mk (And.intro h3 (And.intro hB FA.out)); refine Yg ?_; try exact trivial)
theorem trim_ct (zs : List Int) (hb : By zs) (hl : zs.length ≤ 50000) : ACt Tryd.prog 20 [stz zs, .lit (.string ⟨#[42]⟩)] [] (Fn (stz (trL 42 (trR 42 zs)))) := by
  have hcA : By [42] := By.of_mem fun z hz => by simp at hz; omega
  have y1 : ((bstr zs).toList == (⟨#[]⟩ : ByteArray).toList) = decide (zs = []) := str_eq zs [] hb (fun i hi => absurd hi (Nat.not_lt_zero _))
  obtain ⟨S, hS⟩ : ∃ S, S = (⟨#[42]⟩ : ByteArray) := ⟨_, rfl⟩
  have y2 : (S.toList == (⟨#[]⟩ : ByteArray).toList) = false := by
    rw [hS]
    exact (str_eq [42] [] hcA (fun i hi => absurd hi (Nat.not_lt_zero _))).trans (by decide)
  have z1 : S.size = 1 := by rw [hS]; rfl
  have z2 : (((S.data.toList.getD 0 0).toNat : Nat) : Int) = 42 := by rw [hS]; rfl
  rw [← hS]
  have cR := tr_ct zs hb hl 42
  have cL := tl_ct (trR 42 zs) (hb.trR 42) (by have := trR_len 42 zs; omega) 42
  obtain ⟨R, hR⟩ : ∃ R, R = trL 42 (trR 42 zs) := ⟨_, rfl⟩
  rw [← hR] at cL ⊢
  refine ACt.intro Tryd.func20 rfl (by kernel_rfl) (by simp [Tryd.ntmps20]) (fun cx => ?_)
  simp only [argE, Tryd.ntmps20, Tryd.results20]
  by_cases hn : zs = []
  · rw [decide_eq_true hn] at y1
    have e : R = zs := by rw [hR, hn]; rfl
    first | (have FRx := FR; clear FRx) | have FR := fr0S
    have FA := Sm.mk (And.intro TFGlC (And.intro y1 y2))
    repeat' first | (apply Sm.mk; refine Ys ?_) | refine WP.seq fun K hK => ?_ | (apply Ob.mk; exact Yo) | refine And.intro (Ob.out ?_) ?_ | refine Y1GlC ?_ | refine YzGlC ?_ | (refine WP.cond rfl (fun hc => ?_) (fun hc => ?_) <;> (try simp only [ZC, reduceCtorEq, ZD] at hc) <;> (try exact absurd hc (by decide)) <;> (try (exfalso; omega))) | refine Rt.mk (And.intro (fun hg => Sm.out ?_) fun hg => Sm.out ?_) | (refine Nu.mk ?_; first | (fail_if_success have := nb1); intro nb1 | (fail_if_success have := nb2); intro nb2 | (fail_if_success have := nb3); intro nb3 | (fail_if_success have := nb4); intro nb4 | (fail_if_success have := nb5); intro nb5 | (fail_if_success have := nb6); intro nb6 | intro nbz) | (apply Yfr; refine Yf FR fun hFRb FR => ?_) | refine Two.mk ?_ ?_ | (apply Yxc; exact Yx) | refine Cs.mk fun hcs => Sm.out ?_ | go_step | omega | (simp only [maxLen_eq]; omega) | exact trivial
    (have FA := Sm.mk (And.intro e FA.out); refine Yg ?_; try exact trivial)
  · rw [decide_eq_false hn] at y1
    first | (have FRx := FR; clear FRx) | have FR := fr0S
    have FA := Sm.mk (And.intro TFGlC (And.intro y1 (And.intro y2 (And.intro z1 z2))))
    repeat' first | (apply Sm.mk; refine Ys ?_) | refine WP.seq fun K hK => ?_ | (apply Ob.mk; exact Yo) | refine And.intro (Ob.out ?_) ?_ | refine Y1GlC ?_ | refine Yc (c := cR) (r := ?_) | refine Yc (c := cL) (r := ?_) | refine YzGlC ?_ | (refine WP.cond rfl (fun hc => ?_) (fun hc => ?_) <;> (try simp only [ZC, reduceCtorEq, ZD] at hc) <;> (try exact absurd hc (by decide)) <;> (try (exfalso; omega))) | refine Rt.mk (And.intro (fun hg => Sm.out ?_) fun hg => Sm.out ?_) | (refine Nu.mk ?_; first | (fail_if_success have := nb1); intro nb1 | (fail_if_success have := nb2); intro nb2 | (fail_if_success have := nb3); intro nb3 | (fail_if_success have := nb4); intro nb4 | (fail_if_success have := nb5); intro nb5 | (fail_if_success have := nb6); intro nb6 | intro nbz) | (apply Yfr; refine Yf FR fun hFRb FR => ?_) | refine Two.mk ?_ ?_ | (apply Yxc; exact Yx) | refine Cs.mk fun hcs => Sm.out ?_ | go_step | omega | (simp only [maxLen_eq]; omega) | exact trivial
    (refine Yg ?_; try exact trivial)
end Go.Proofs.YtdkkfgcdnojmaaaDoor
