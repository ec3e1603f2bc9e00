/-
  The walks and the laws that the statement leans on, part 23.
-/
import Derived.Test.YteoajodoejoccaaP10
import Derived.Test.YteoajodoejoccaaP21
import Derived.Test.YteoajodoejoccaaP22
namespace Go.Proofs.Yteoajodoejoccaa.Wi
open Go
set_option linter.unusedVariables false
set_option linter.unusedSimpArgs false
set_option linter.defProp false
def TFWiV :=
  And.intro (And.intro (And.intro (And.intro (And.intro tyc0 tyc3) (And.intro zmb3 (And.intro tyc4 zmb4))) (And.intro (And.intro tyc5 zmb5) (And.intro tyc35 (And.intro zmb35 tyc36)))) (And.intro (And.intro (And.intro elt36 mkz36) (And.intro apT36 (And.intro elk36 zmb36))) (And.intro (And.intro tyc90 (And.intro mth90_68 mth90_61)) (And.intro mth90_67 (And.intro con90 zmb90))))) (And.intro (And.intro (And.intro (And.intro tyc100 foff100_0) (And.intro fpart100_0 (And.intro foff100_1 fpart100_1))) (And.intro (And.intro zmb100 (And.intro bldT100 tyc101)) (And.intro tyc104 (And.intro zmb104 tyc108)))) (And.intro (And.intro (And.intro Try.underlying0 Try.underlying3) (And.intro Try.underlying4 (And.intro Try.underlying5 Try.underlying35))) (And.intro (And.intro Try.underlying36 (And.intro Try.underlying90 Try.underlying100)) (And.intro Try.underlying101 (And.intro Try.underlying104 Try.underlying108)))))
theorem Y1WiV {G R : Prop} (r : R) (h : R → G := by intro r; first | (apply WP.region; exact rvc_sound _ _ (Sm.out r)) | exact WP.drawK rfl mixed (by decide +kernel) (Sm.out r) | (apply WP.block; exact r) | (apply WP.skip; exact Yq r) | (apply WP.exit; exact Yq r) | (apply WP.ret; exact Sm.out r) | exact WP.cond rfl (fun _ => r) (fun hg => absurd hg (by decide)) | exact WP.cond rfl (fun hg => absurd hg (by decide)) (fun _ => r) | exact Rt.mk (And.intro (fun _ => Sm.out r) fun hg => absurd hg (by decide)) | exact Rt.mk (And.intro (fun hg => absurd hg (by decide)) fun _ => Sm.out r)) : G := h r
theorem YzWiV {G R : Prop} (r : R) (h : R → G := by intro r; first | (apply ExG.no; exact Sm.out r) | (apply Or.inl; apply ExG.no; exact Sm.out r) | exact Or.inl (And.intro (fun hg => absurd hg (by decide)) (ExG.no (Sm.out r)))) : G := h r
theorem YsWiV0 {P Q : Prop} (q : Q) (h : P = Q := by (try (conv => lhs; simp -dsimp only [ZK, rvc, capA, appA, litL, mkfv, drawF, headN, pureH, stp, dvc, calleeOf, gcall, pev, eff, newB, okd, og, ogs, ogo, ogp, slv, bltv, opd, litv, strip, one, both, putE, St.put, look, gdOf, gdv, picka, pickv, pickw, binv, bini, bins, binb, binp, binq, isSlT, bina, shp, eqCells, unv, convv, nilv, faddv, addp, idxav, idxp, load1, load1m, loadn, loadnm, loadv, hget, hset, hrep, hdel, slicev, slice3v, bnd, shift1, lenv, capv, IntKind.bits, extractv, fieldv, indexv, min2v, max2v, mkiv, tasv, tasz, cellsA, fillA, buildv, stC, oneC, rowMB, intsA, plN, appE, appZ, appC, appS, srcB, appNZ, appNC, VwL, srcC, srcZ, srcM, isBoolT, isPtrT, isSliceT, uOk, Value.oneCell', Nat.reducePow, Int.reducePow, Nat.reduceAdd, Nat.reduceMul, Nat.reduceSub, Nat.reduceLT, Nat.reduceLeDiff, Nat.reduceEqDiff, Nat.reduceBEq, Nat.reduceDiv, Nat.reduceMod, ↓reduceIte, reduceCtorEq, Int.reduceToNat, Int.reduceLT, Int.reduceLE, TFWiV, SeqQ, BlkQ, LoopQ, BodyQ, List.getD_cons_zero, FA.out, FR])) <;> exact rfl) : P := h.mpr q
abbrev rdN : MB := .cells [nilS, bv true] 2 100
set_option maxRecDepth 8000 in
theorem failR (b : Nat) (zs : List Int) : ACt Try.prog 68 [pt b 0] [(b, rd zs false)] (fun r F' => r = .tup [] ∧ F' = [(b, rdN)]) := by
  refine ACt.intro Try.func68 rfl (by kernel_rfl) (by simp [Try.ntmps68]) (fun cx => ?_)
  simp only [argE, Try.ntmps68, Try.results68]
  first | (have FRx := FR; clear FRx) | have FR := fr0
  have FA := Sm.mk (TFWiV)
  repeat' first | (apply Sm.mk; refine Ysn ?_) | refine WP.seq fun K hK => ?_ | (apply Ob.mk; exact Yo) | refine And.intro (Ob.out ?_) ?_ | refine Y1WiV ?_ | refine YzWiV ?_ | (refine WP.cond rfl (fun hc => ?_) (fun hc => ?_) <;> (try simp only [ZC, reduceCtorEq, ZD] at hc) <;> (try exact absurd hc (by decide)) <;> (try (exfalso; omega))) | refine Rt.mk (And.intro (fun hg => Sm.out ?_) fun hg => Sm.out ?_) | (refine Nu.mk ?_; first | (fail_if_success have := nb1); intro nb1 | (fail_if_success have := nb2); intro nb2 | (fail_if_success have := nb3); intro nb3 | intro nbz) | (refine Fr.mk ?_; intro hfr; replace FR := And.intro hfr FR; clear hfr; refine Sm.out ?_) | refine Two.mk ?_ ?_ | (apply Yxc; exact Yx) | refine Cs.mk fun hcs => Sm.out ?_ | go_step | omega | (simp only [maxLen_eq]; omega) | exact trivial | refine Or.inr (Rt.mk (And.intro (fun hg => Sm.out ?_) fun hg => Sm.out ?_))
  (refine OutQ.upd (by simp only [resv, ZK, look, loadv, loadn, loadnm, load1, load1m, hget, ↓reduceIte, Nat.reduceEqDiff, Nat.reduceAdd, Nat.reduceMul, Nat.reduceLeDiff, Nat.reduceLT, reduceCtorEq, TFWiV, FR]) (by simp only [resv, resA, ZK, look, loadv, loadn, loadnm, load1, load1m, hget, ↓reduceIte, Nat.reduceEqDiff, Nat.reduceAdd, Nat.reduceMul, Nat.reduceLeDiff, Nat.reduceLT, reduceCtorEq, TFWiV, FR]; first | done | rfl) (by simp only [hget, ↓reduceIte, if_true, if_false, FR]; first | done | rfl) ?_ <;> first | exact rfl | (simp only [ZK, look, loadv, loadn, loadnm, load1, load1m, hget, ↓reduceIte, Nat.reduceEqDiff, Nat.reduceAdd, Nat.reduceMul, Nat.reduceLeDiff, Nat.reduceLT, reduceCtorEq, TFWiV, FR]; done) | skip)
set_option maxRecDepth 8000 in
theorem takeL (b : Nat) (zs : List Int) (n : Nat) (hn : zs.length < n) (hz : zs.length ≤ 100000) :
    ACt Try.prog 67 [pt b 0, nu n] [(b, rd zs false)] (fun r F' => r = .tup [nilS, bv false] ∧ F' = [(b, rdN)]) := by
  refine ACt.intro Try.func67 rfl (by kernel_rfl) (by simp [Try.ntmps67]) (fun cx => ?_)
  simp only [argE, Try.ntmps67, Try.results67]
  have w : IntKind.u64.wrap (zs.length : Int) = (zs.length : Int) := wrap_u64_nat (by omega)
  have d : decide ((n : Int) > zs.length) = true := by simp; omega
  first | (have FRx := FR; clear FRx) | have FR := fr0
  have FA := Sm.mk (And.intro TFWiV (And.intro w d))
  repeat' first | (apply Sm.mk; refine Ysn ?_) | refine WP.seq fun K hK => ?_ | (apply Ob.mk; exact Yo) | refine And.intro (Ob.out ?_) ?_ | refine Y1WiV ?_ | refine Yun (c := badR b zs false) (r := ?_) | refine Yun (c := failR b zs) (r := ?_) | refine YzWiV ?_ | (refine WP.cond rfl (fun hc => ?_) (fun hc => ?_) <;> (try simp only [ZC, reduceCtorEq, ZD] at hc) <;> (try exact absurd hc (by decide)) <;> (try (exfalso; omega))) | refine Rt.mk (And.intro (fun hg => Sm.out ?_) fun hg => Sm.out ?_) | (refine Nu.mk ?_; first | (fail_if_success have := nb1); intro nb1 | (fail_if_success have := nb2); intro nb2 | (fail_if_success have := nb3); intro nb3 | intro nbz) | (refine Fr.mk ?_; intro hfr; replace FR := And.intro hfr FR; clear hfr; refine Sm.out ?_) | refine Two.mk ?_ ?_ | (apply Yxc; exact Yx) | refine Cs.mk fun hcs => Sm.out ?_ | go_step | omega | (simp only [maxLen_eq]; omega) | exact trivial | refine Or.inr (Rt.mk (And.intro (fun hg => Sm.out ?_) fun hg => Sm.out ?_))
  (refine OutQ.upd (by simp only [resv, ZK, look, loadv, loadn, loadnm, load1, load1m, hget, ↓reduceIte, Nat.reduceEqDiff, Nat.reduceAdd, Nat.reduceMul, Nat.reduceLeDiff, Nat.reduceLT, reduceCtorEq, TFWiV, FR]) (by simp only [resv, resA, ZK, look, loadv, loadn, loadnm, load1, load1m, hget, ↓reduceIte, Nat.reduceEqDiff, Nat.reduceAdd, Nat.reduceMul, Nat.reduceLeDiff, Nat.reduceLT, reduceCtorEq, TFWiV, FR]; first | done | rfl) (by simp only [hget, ↓reduceIte, if_true, if_false, FR]; first | done | rfl) ?_ <;> first | exact rfl | (simp only [ZK, look, loadv, loadn, loadnm, load1, load1m, hget, ↓reduceIte, Nat.reduceEqDiff, Nat.reduceAdd, Nat.reduceMul, Nat.reduceLeDiff, Nat.reduceLT, reduceCtorEq, TFWiV, FR]; done) | skip)
abbrev zzA : AV := .tup [iv .u8 0, iv .u64 0]
set_option maxRecDepth 8000 in
theorem getB0 (b : Nat) (s : Int) : ACt Try.prog 61 [pt b 0, iv .u8 s] [(b, rd [] false)] (fun r F' => r = zzA ∧ F' = [(b, rdN)]) := by
  refine ACt.intro Try.func61 rfl (by kernel_rfl) (by simp [Try.ntmps61]) (fun cx => ?_)
  simp only [argE, Try.ntmps61, Try.results61]
  have c1 := takeL b [] 1 (by simp) (by simp)
  first | (have FRx := FR; clear FRx) | have FR := fr0
  have FA := Sm.mk (TFWiV)
  repeat' first | (apply Sm.mk; refine Ysn ?_) | refine WP.seq fun K hK => ?_ | (apply Ob.mk; exact Yo) | refine And.intro (Ob.out ?_) ?_ | refine Y1WiV ?_ | refine Yun (c := c1) (r := ?_) | refine YzWiV ?_ | (refine WP.cond rfl (fun hc => ?_) (fun hc => ?_) <;> (try simp only [ZC, reduceCtorEq, ZD] at hc) <;> (try exact absurd hc (by decide)) <;> (try (exfalso; omega))) | refine Rt.mk (And.intro (fun hg => Sm.out ?_) fun hg => Sm.out ?_) | (refine Nu.mk ?_; first | (fail_if_success have := nb1); intro nb1 | (fail_if_success have := nb2); intro nb2 | (fail_if_success have := nb3); intro nb3 | intro nbz) | (refine Fr.mk ?_; intro hfr; replace FR := And.intro hfr FR; clear hfr; refine Sm.out ?_) | refine Two.mk ?_ ?_ | (apply Yxc; exact Yx) | refine Cs.mk fun hcs => Sm.out ?_ | go_step | omega | (simp only [maxLen_eq]; omega) | exact trivial | refine Or.inr (Rt.mk (And.intro (fun hg => Sm.out ?_) fun hg => Sm.out ?_))
  (refine OutQ.upd (by simp only [resv, ZK, look, loadv, loadn, loadnm, load1, load1m, hget, ↓reduceIte, Nat.reduceEqDiff, Nat.reduceAdd, Nat.reduceMul, Nat.reduceLeDiff, Nat.reduceLT, reduceCtorEq, TFWiV, FR]) (by simp only [resv, resA, ZK, look, loadv, loadn, loadnm, load1, load1m, hget, ↓reduceIte, Nat.reduceEqDiff, Nat.reduceAdd, Nat.reduceMul, Nat.reduceLeDiff, Nat.reduceLT, reduceCtorEq, TFWiV, FR]; first | done | rfl) (by simp only [hget, ↓reduceIte, if_true, if_false, FR]; first | done | rfl) ?_ <;> first | exact rfl | (simp only [ZK, look, loadv, loadn, loadnm, load1, load1m, hget, ↓reduceIte, Nat.reduceEqDiff, Nat.reduceAdd, Nat.reduceMul, Nat.reduceLeDiff, Nat.reduceLT, reduceCtorEq, TFWiV, FR]; done) | skip)
set_option maxRecDepth 8000 in
theorem getB1 (b : Nat) (hd sgn : Int) (t : List Int) (k : Nat) (h2 : ibit .andNot .u8 hd sgn = (k : Int)) (hk : 8 < k ∧ k ≤ 255 ∨ k ≤ 8 ∧ t.length < k ∨ 0 < k ∧ k ≤ 8 ∧ k ≤ t.length ∧ t.getD 0 0 = 0) (ht : t.length ≤ 10000) :
    ACt Try.prog 61 [pt b 0, iv .u8 sgn] [(b, rd (hd :: t) false)] (fun r F' => r = zzA ∧ F' = [(b, rdN)]) := by
  refine ACt.intro Try.func61 rfl (by kernel_rfl) (by simp [Try.ntmps61]) (fun cx => ?_)
  simp only [argE, Try.ntmps61, Try.results61]
  have c1 := takeR b (hd :: t) 1 (by simp) (by simp; omega)
  rw [show (hd :: t).take 1 = [hd] by simp, show (hd :: t).drop 1 = t by simp] at c1
  obtain ⟨Z, hZ⟩ : ∃ Z, Z = hd :: t := ⟨_, rfl⟩
  rw [← hZ] at c1 ⊢
  have w1 : IntKind.u64.wrap (k : Int) = (k : Int) := wrap_u64_nat (by omega)
  rcases hk with hk | hk | hk
  · have d1 : decide ((k : Int) > 8) = true := by simp; omega
    first | (have FRx := FR; clear FRx) | have FR := fr0
    have FA := Sm.mk (And.intro TFWiV (And.intro h2 d1))
    repeat' first | (apply Sm.mk; refine YsWiV0 ?_) | refine WP.seq fun K hK => ?_ | (apply Ob.mk; exact Yo) | refine And.intro (Ob.out ?_) ?_ | refine Y1WiV ?_ | (refine CallV.upd (by simp only [hget, ↓reduceIte, FR, h2, d1, List.getD_cons_zero]; first | done | rfl) (c1) (Sm.out ?_)) | (refine CallV.upd (by simp only [hget, ↓reduceIte, FR, h2, d1, List.getD_cons_zero]; first | done | rfl) (failR b t) (Sm.out ?_)) | refine YzWiV ?_ | (refine WP.cond rfl (fun hc => ?_) (fun hc => ?_) <;> (try simp only [ZC, reduceCtorEq, ZD] at hc) <;> (try exact absurd hc (by decide)) <;> (try (exfalso; omega))) | refine Rt.mk (And.intro (fun hg => Sm.out ?_) fun hg => Sm.out ?_) | (refine Nu.mk ?_; first | (fail_if_success have := nb1); intro nb1 | (fail_if_success have := nb2); intro nb2 | (fail_if_success have := nb3); intro nb3 | intro nbz) | (refine Fr.mk ?_; intro hfr; replace FR := And.intro hfr FR; clear hfr; refine Sm.out ?_) | refine Two.mk ?_ ?_ | (apply Yxc; exact Yx) | refine Cs.mk fun hcs => Sm.out ?_ | go_step | omega | (simp only [maxLen_eq]; omega) | exact trivial | refine Or.inr (Rt.mk (And.intro (fun hg => Sm.out ?_) fun hg => Sm.out ?_))
    (refine OutQ.upd (by simp only [resv, ZK, look, loadv, loadn, loadnm, load1, load1m, hget, ↓reduceIte, Nat.reduceEqDiff, Nat.reduceAdd, Nat.reduceMul, Nat.reduceLeDiff, Nat.reduceLT, reduceCtorEq, TFWiV, FR]) (by simp only [resv, resA, ZK, look, loadv, loadn, loadnm, load1, load1m, hget, ↓reduceIte, Nat.reduceEqDiff, Nat.reduceAdd, Nat.reduceMul, Nat.reduceLeDiff, Nat.reduceLT, reduceCtorEq, TFWiV, FR]; first | done | rfl) (by simp only [hget, ↓reduceIte, if_true, if_false, FR]; first | done | rfl) ?_ <;> first | exact rfl | (simp only [ZK, look, loadv, loadn, loadnm, load1, load1m, hget, ↓reduceIte, Nat.reduceEqDiff, Nat.reduceAdd, Nat.reduceMul, Nat.reduceLeDiff, Nat.reduceLT, reduceCtorEq, TFWiV, FR]; done) | skip)
  · have d1 : decide ((k : Int) > 8) = false := by simp; omega
    have c2 := takeL b t k hk.2 (by omega)
    have d2 : decide ((k : Int) > 0) = true := by simp; omega
    first | (have FRx := FR; clear FRx) | have FR := fr0
    have FA := Sm.mk (And.intro TFWiV (And.intro h2 (And.intro d1 (And.intro d2 w1))))
    repeat' first | (apply Sm.mk; refine YsWiV0 ?_) | refine WP.seq fun K hK => ?_ | (apply Ob.mk; exact Yo) | refine And.intro (Ob.out ?_) ?_ | refine Y1WiV ?_ | (refine CallV.upd (by simp only [hget, ↓reduceIte, FR, h2, d1, d2, w1, List.getD_cons_zero]; first | done | rfl) (c1) (Sm.out ?_)) | (refine CallV.upd (by simp only [hget, ↓reduceIte, FR, h2, d1, d2, w1, List.getD_cons_zero]; first | done | rfl) (c2) (Sm.out ?_)) | (refine CallV.upd (by simp only [hget, ↓reduceIte, FR, h2, d1, d2, w1, List.getD_cons_zero]; first | done | rfl) (fail_e b true) (Sm.out ?_)) | refine YzWiV ?_ | (refine WP.cond rfl (fun hc => ?_) (fun hc => ?_) <;> (try simp only [ZC, reduceCtorEq, ZD] at hc) <;> (try exact absurd hc (by decide)) <;> (try (exfalso; omega))) | refine Rt.mk (And.intro (fun hg => Sm.out ?_) fun hg => Sm.out ?_) | (refine Nu.mk ?_; first | (fail_if_success have := nb1); intro nb1 | (fail_if_success have := nb2); intro nb2 | (fail_if_success have := nb3); intro nb3 | intro nbz) | (refine Fr.mk ?_; intro hfr; replace FR := And.intro hfr FR; clear hfr; refine Sm.out ?_) | refine Two.mk ?_ ?_ | (apply Yxc; exact Yx) | refine Cs.mk fun hcs => Sm.out ?_ | go_step | omega | (simp only [maxLen_eq]; omega) | exact trivial | refine Or.inr (Rt.mk (And.intro (fun hg => Sm.out ?_) fun hg => Sm.out ?_))
    (refine OutQ.upd (by simp only [resv, ZK, look, loadv, loadn, loadnm, load1, load1m, hget, ↓reduceIte, Nat.reduceEqDiff, Nat.reduceAdd, Nat.reduceMul, Nat.reduceLeDiff, Nat.reduceLT, reduceCtorEq, TFWiV, FR]) (by simp only [resv, resA, ZK, look, loadv, loadn, loadnm, load1, load1m, hget, ↓reduceIte, Nat.reduceEqDiff, Nat.reduceAdd, Nat.reduceMul, Nat.reduceLeDiff, Nat.reduceLT, reduceCtorEq, TFWiV, FR]; first | done | rfl) (by simp only [hget, ↓reduceIte, if_true, if_false, FR]; first | done | rfl) ?_ <;> first | exact rfl | (simp only [ZK, look, loadv, loadn, loadnm, load1, load1m, hget, ↓reduceIte, Nat.reduceEqDiff, Nat.reduceAdd, Nat.reduceMul, Nat.reduceLeDiff, Nat.reduceLT, reduceCtorEq, TFWiV, FR]; done) | skip)
  · obtain ⟨q1, q2, q3, q4⟩ := hk
    have d1 : decide ((k : Int) > 8) = false := by simp; omega
    have d2 : decide ((k : Int) > 0) = true := by simp; omega
    have c2 := takeR b t k q3 (by omega)
    obtain ⟨L, hL⟩ : ∃ L, L = t.take k := ⟨_, rfl⟩
    obtain ⟨R, hR⟩ : ∃ R, R = t.drop k := ⟨_, rfl⟩
    rw [← hL, ← hR] at c2
    have l0 : L.getD 0 0 = 0 := by
      rw [hL]
      cases t with
      | nil => simp at q3; omega
      | cons c t' =>
        obtain ⟨k', rfl⟩ : ∃ k', k = k' + 1 := ⟨k - 1, by omega⟩
        simpa using q4
    have ll : 0 < L.length := by rw [hL]; simp; omega
    have z : ((0 : Int) == 0) = true := rfl
    first | (have FRx := FR; clear FRx) | have FR := fr0
    have FA := Sm.mk (And.intro TFWiV (And.intro h2 (And.intro d1 (And.intro d2 (And.intro w1 (And.intro l0 (And.intro ll z)))))))
    repeat' first | (apply Sm.mk; refine YsWiV0 ?_) | refine WP.seq fun K hK => ?_ | (apply Ob.mk; exact Yo) | refine And.intro (Ob.out ?_) ?_ | refine Y1WiV ?_ | (refine CallV.upd (by simp only [hget, ↓reduceIte, FR, h2, d1, d2, w1, l0, ll, z, List.getD_cons_zero]; first | done | rfl) (c1) (Sm.out ?_)) | (refine CallV.upd (by simp only [hget, ↓reduceIte, FR, h2, d1, d2, w1, l0, ll, z, List.getD_cons_zero]; first | done | rfl) (c2) (Sm.out ?_)) | (refine CallV.upd (by simp only [hget, ↓reduceIte, FR, h2, d1, d2, w1, l0, ll, z, List.getD_cons_zero]; first | done | rfl) (failR b R) (Sm.out ?_)) | refine YzWiV ?_ | (refine WP.cond rfl (fun hc => ?_) (fun hc => ?_) <;> (try simp only [ZC, reduceCtorEq, ZD] at hc) <;> (try exact absurd hc (by decide)) <;> (try (exfalso; omega))) | refine Rt.mk (And.intro (fun hg => Sm.out ?_) fun hg => Sm.out ?_) | (refine Nu.mk ?_; first | (fail_if_success have := nb1); intro nb1 | (fail_if_success have := nb2); intro nb2 | (fail_if_success have := nb3); intro nb3 | intro nbz) | (refine Fr.mk ?_; intro hfr; replace FR := And.intro hfr FR; clear hfr; refine Sm.out ?_) | refine Two.mk ?_ ?_ | (apply Yxc; exact Yx) | refine Cs.mk fun hcs => Sm.out ?_ | go_step | omega | (simp only [maxLen_eq]; omega) | exact trivial | refine Or.inr (Rt.mk (And.intro (fun hg => Sm.out ?_) fun hg => Sm.out ?_))
    (refine OutQ.upd (by simp only [resv, ZK, look, loadv, loadn, loadnm, load1, load1m, hget, ↓reduceIte, Nat.reduceEqDiff, Nat.reduceAdd, Nat.reduceMul, Nat.reduceLeDiff, Nat.reduceLT, reduceCtorEq, TFWiV, FR]) (by simp only [resv, resA, ZK, look, loadv, loadn, loadnm, load1, load1m, hget, ↓reduceIte, Nat.reduceEqDiff, Nat.reduceAdd, Nat.reduceMul, Nat.reduceLeDiff, Nat.reduceLT, reduceCtorEq, TFWiV, FR]; first | done | rfl) (by simp only [hget, ↓reduceIte, if_true, if_false, FR]; first | done | rfl) ?_ <;> first | exact rfl | (simp only [ZK, look, loadv, loadn, loadnm, load1, load1m, hget, ↓reduceIte, Nat.reduceEqDiff, Nat.reduceAdd, Nat.reduceMul, Nat.reduceLeDiff, Nat.reduceLT, reduceCtorEq, TFWiV, FR]; done) | skip)
/-! ## Bytes and their number -/
def By (l : List Int) : Prop := ∀ x ∈ l, 0 ≤ x ∧ x ≤ 255
def valL : List Int → Nat
  | [] => 0
  | c :: t => c.toNat * 256 ^ t.length + valL t
theorem By.tail {c : Int} {t : List Int} (h : By (c :: t)) : By t := fun x hx => h x (List.mem_cons_of_mem _ hx)
theorem By.take {l : List Int} (h : By l) (k : Nat) : By (l.take k) := fun x hx => h x (List.mem_of_mem_take hx)
theorem By.drop {l : List Int} (h : By l) (k : Nat) : By (l.drop k) := fun x hx => h x (List.mem_of_mem_drop hx)
theorem valL_lt : ∀ {l : List Int}, By l → valL l < 256 ^ l.length
  | [], _ => by simp [valL]
  | c :: t, h => by
    have h1 := valL_lt h.tail
    have h2 := (h c (List.mem_cons_self ..)).2
    have h3 : c.toNat ≤ 255 := by omega
    have h4 : c.toNat * 256 ^ t.length ≤ 255 * 256 ^ t.length := Nat.mul_le_mul_right _ h3
    rw [valL, List.length_cons, Nat.pow_succ]; omega
theorem byteL_add (a v : Nat) : ∀ (k j : Nat), j ≤ k → byteL (a * 256 ^ k + v) j = byteL v j
  | k, 0, _ => rfl
  | k, j + 1, h => by
    rw [byteL, byteL, byteL_add a v k j (by omega)]
    congr 2
    obtain ⟨d, rfl⟩ : ∃ d, k = j + 1 + d := ⟨k - (j + 1), by omega⟩
    have e : a * 256 ^ (j + 1 + d) + v = v + 256 ^ j * (256 * (a * 256 ^ d)) := by
      rw [Nat.pow_add, Nat.pow_succ, Nat.add_comm]; congr 1
      simp only [Nat.mul_comm, Nat.mul_left_comm, Nat.mul_assoc]
    rw [e, Nat.add_mul_div_left _ _ (Nat.pow_pos (by omega)), Nat.add_mul_mod_self_left]
theorem byteL_valL : ∀ {l : List Int}, By l → byteL (valL l) l.length = l
  | [], _ => rfl
  | c :: t, h => by
    have h1 := valL_lt h.tail
    have h2 := h c (List.mem_cons_self ..)
    have e : (c.toNat * 256 ^ t.length + valL t) / 256 ^ t.length = c.toNat := by
      rw [Nat.add_comm, Nat.add_mul_div_right _ _ (Nat.pow_pos (by omega)), Nat.div_eq_of_lt h1, Nat.zero_add]
    rw [List.length_cons, byteL, valL, e, byteL_add _ _ _ _ (Nat.le_refl _), byteL_valL h.tail, Nat.mod_eq_of_lt (by omega)]
    congr 1; omega
theorem valL_size {l : List Int} (h : By l) (h0 : l = [] ∨ l.getD 0 0 ≠ 0) : l.length = (lenN (valL l) + 7) / 8 := by
  apply Nat.le_antisymm
  · cases l with
    | nil => simp
    | cons c t =>
      rcases h0 with h0 | h0
      · cases h0
      · have h2 := h c (List.mem_cons_self ..)
        have h0' : c ≠ 0 := by simpa using h0
        have : ¬ (lenN (valL (c :: t)) + 7) / 8 ≤ t.length := by
          rw [size_le, valL]
          have : 1 * 256 ^ t.length ≤ c.toNat * 256 ^ t.length := Nat.mul_le_mul_right _ (by omega)
          omega
        rw [List.length_cons]; omega
  · exact size_le.2 (valL_lt h)
/-! ## A number behind its head -/
def gF (sgn : Int) : List Int → Option (Int × Nat × List Int)
  | [] => none
  | h :: t =>
    if 8 < (ibit .andNot .u8 h sgn).toNat ∨ t.length < (ibit .andNot .u8 h sgn).toNat ∨ (0 < (ibit .andNot .u8 h sgn).toNat ∧ t.getD 0 0 = 0) then none
    else some (ibit .and .u8 h sgn, valL (t.take (ibit .andNot .u8 h sgn).toNat), t.drop (ibit .andNot .u8 h sgn).toNat)
def gA : Option (Int × Nat × List Int) → AV
  | none => zzA
  | some (s, n, _) => .tup [iv .u8 s, nu n]
def gM : Option (Int × Nat × List Int) → MB
  | none => rdN
  | some (_, _, r) => rd r false
theorem and256 : ∀ h : Nat, h < 256 → ∃ k s : Nat, k ≤ 255 ∧ ibit .andNot .u8 (h : Int) 16 = (k : Int) ∧ ibit .and .u8 (h : Int) 16 = (s : Int) ∧ k = (if h / 16 % 2 = 1 then h - 16 else h) ∧ s = (if h / 16 % 2 = 1 then 16 else 0) ∧ ibit .andNot .u8 (h : Int) 0 = (h : Int) ∧ ibit .and .u8 (h : Int) 0 = 0 := by
  have key : ∀ h : Nat, h < 256 → ibit .andNot .u8 (h : Int) 16 = ((if h / 16 % 2 = 1 then h - 16 else h : Nat) : Int) ∧ ibit .and .u8 (h : Int) 16 = ((if h / 16 % 2 = 1 then 16 else 0 : Nat) : Int) ∧ ibit .andNot .u8 (h : Int) 0 = (h : Int) ∧ ibit .and .u8 (h : Int) 0 = 0 := by decide +kernel
  intro h hh
  obtain ⟨a, b, c, d⟩ := key h hh
  exact ⟨_, _, by split <;> omega, a, b, rfl, rfl, c, d⟩
theorem getX (b : Nat) (sgn : Int) (zs : List Int) (hs : sgn = 0 ∨ sgn = 16) (hb : By zs) (hz : zs.length ≤ 10000) :
    ACt Try.prog 61 [pt b 0, iv .u8 sgn] [(b, rd zs false)] (fun r F' => r = gA (gF sgn zs) ∧ F' = [(b, gM (gF sgn zs))]) := by
  cases zs with
  | nil => exact getB0 b sgn
  | cons h t =>
    have hh := hb h (List.mem_cons_self ..)
    obtain ⟨m, rfl⟩ := Int.eq_ofNat_of_zero_le hh.1
    obtain ⟨k, s, hk, a1, a2, _, _, a3, a4⟩ := and256 m (by omega)
    obtain ⟨K, S, hK, h2, h1⟩ : ∃ (K : Nat) (S : Int), K ≤ 255 ∧ ibit .andNot .u8 (m : Int) sgn = (K : Int) ∧ ibit .and .u8 (m : Int) sgn = S := by
      rcases hs with rfl | rfl
      · exact ⟨m, 0, by omega, a3, a4⟩
      · exact ⟨k, s, hk, a1, a2⟩
    have ht : t.length ≤ 10000 := by simp at hz; omega
    have hF : gF sgn ((m : Int) :: t) = if 8 < K ∨ t.length < K ∨ (0 < K ∧ t.getD 0 0 = 0) then none else some (S, valL (t.take K), t.drop K) := by
      rw [gF, h1, h2, Int.toNat_natCast]
    rw [hF]
    split
    · exact getB1 b _ sgn t K h2 (by omega) ht
    · rename_i hn
      have hlt : (t.take K).length = K := by simp; omega
      have hv := valL_lt (hb.tail.take K)
      have e := byteL_valL (hb.tail.take K)
      have sz := valL_size (hb.tail.take K) (by
        by_cases h0 : K = 0
        · subst h0; exact .inl rfl
        · refine .inr ?_
          obtain ⟨K', rfl⟩ : ∃ K', K = K' + 1 := ⟨K - 1, by omega⟩
          cases t with
          | nil => simp at hn
          | cons c t' => simp only [List.take_succ_cons, List.getD_cons_zero] at hn ⊢; omega)
      rw [hlt] at hv e sz
      have hb8 : (256 : Nat) ^ K ≤ 256 ^ 8 := Nat.pow_le_pow_right (by omega) (by omega)
      have := getR b (m : Int) S sgn (valL (t.take K)) K (t.drop K) sz (by omega) (by simp; omega) h1 h2
      rw [e, List.cons_append, List.take_append_drop] at this
      exact this
def TFWiW :=
  And.intro (And.intro (And.intro tyc5 (And.intro zmb5 tyc35)) (And.intro (And.intro zmb35 tyc90) (And.intro mth90_68 mth90_61))) (And.intro (And.intro (And.intro mth90_67 con90) (And.intro zmb90 tyc101)) (And.intro (And.intro Try.underlying5 Try.underlying35) (And.intro Try.underlying90 Try.underlying101)))
theorem Y1WiW {G R : Prop} (r : R) (h : R → G := by intro r; first | (apply WP.region; exact rvc_sound _ _ (Sm.out r)) | exact WP.drawK rfl mixed (by decide +kernel) (Sm.out r) | (apply WP.block; exact r) | (apply WP.skip; exact Yq r) | (apply WP.exit; exact Yq r) | (apply WP.ret; exact Sm.out r) | exact WP.cond rfl (fun _ => r) (fun hg => absurd hg (by decide)) | exact WP.cond rfl (fun hg => absurd hg (by decide)) (fun _ => r) | exact Rt.mk (And.intro (fun _ => Sm.out r) fun hg => absurd hg (by decide)) | exact Rt.mk (And.intro (fun hg => absurd hg (by decide)) fun _ => Sm.out r)) : G := h r
theorem YzWiW {G R : Prop} (r : R) (h : R → G := by intro r; first | (apply ExG.no; exact Sm.out r) | (apply Or.inl; apply ExG.no; exact Sm.out r) | exact Or.inl (And.intro (fun hg => absurd hg (by decide)) (ExG.no (Sm.out r)))) : G := h r
def rO {α : Type} : Option (α × List Int) → MB
  | some p => rd p.2 false
  | none => rdN
def oE {α : Type} (d : AV) (f : α → AV) : Option (α × List Int) → AV
  | some p => f p.1
  | none => d
def nF (zs : List Int) : Option (Nat × List Int) := (gF 0 zs).map fun p => p.2
def cF (m : Int) (zs : List Int) : Option (Nat × List Int) :=
  match nF zs with
  | none => none
  | some (n, r) => if m < 0 ∨ m < (n : Int) then none else some (n, r)
theorem gF_bd {sgn : Int} {zs r : List Int} {s : Int} {n : Nat} (hb : By zs) (h : gF sgn zs = some (s, n, r)) : n < 18446744073709551616 ∧ By r ∧ r.length < zs.length ∧ (sgn = 16 ∨ sgn = 0 → s = 0 ∨ s = 16) ∧ r = zs.drop (zs.length - r.length) := by
  cases zs with
  | nil => cases h
  | cons c t =>
    simp only [gF] at h
    split at h
    · cases h
    · rename_i hn
      simp only [Option.some.injEq, Prod.mk.injEq] at h
      obtain ⟨rfl, rfl, rfl⟩ := h
      have hv := valL_lt (hb.tail.take (ibit .andNot .u8 c sgn).toNat)
      obtain ⟨K, hK⟩ : ∃ K, K = (ibit .andNot .u8 c sgn).toNat := ⟨_, rfl⟩
      rw [← hK] at hn hv ⊢
      have hb8 : (256 : Nat) ^ (t.take K).length ≤ 256 ^ 8 := Nat.pow_le_pow_right (by omega) (by simp; omega)
      refine ⟨by omega, hb.tail.drop _, by simp; omega, ?_, ?_⟩
      · have hh := hb c (List.mem_cons_self ..)
        obtain ⟨m, rfl⟩ := Int.eq_ofNat_of_zero_le hh.1
        obtain ⟨k, s, hk, a1, a2, _, a5, a3, a4⟩ := and256 m (by omega)
        rintro (rfl | rfl)
        · rw [a2, a5]; split <;> simp
        · exact .inl a4
      · simp only [List.length_cons, List.length_drop]
        rw [show t.length + 1 - (t.length - K) = K + 1 by omega, List.drop_succ_cons]
set_option maxRecDepth 8000 in
theorem numX (b : Nat) (zs : List Int) (hb : By zs) (hz : zs.length ≤ 10000) : ACt Try.prog 51 [pt b 0] [(b, rd zs false)] (fun r F' => r = oE (nu 0) nu (nF zs) ∧ F' = [(b, rO (nF zs))]) := by
  have c1 := getX b 0 zs (.inl rfl) hb hz
  unfold nF
  cases hg : gF 0 zs with
  | none =>
    rw [hg] at c1
    have c2 : ACt Try.prog 61 [pt b 0, iv .u8 0] [(b, rd zs false)] (fun r F' => r = .tup [iv .u8 0, nu 0] ∧ F' = [(b, rdN)]) := c1
    show ACt Try.prog 51 [pt b 0] [(b, rd zs false)] (fun r F' => r = nu 0 ∧ F' = [(b, rdN)])
    refine ACt.intro Try.func51 rfl (by kernel_rfl) (by simp [Try.ntmps51]) (fun cx => ?_)
    simp only [argE, Try.ntmps51, Try.results51]
    first | (have FRx := FR; clear FRx) | have FR := fr0
    have FA := Sm.mk (TFWiW)
    repeat' first | (apply Sm.mk; refine Ysn ?_) | refine WP.seq fun K hK => ?_ | (apply Ob.mk; exact Yo) | refine And.intro (Ob.out ?_) ?_ | refine Y1WiW ?_ | refine Yun (c := c2) (r := ?_) | refine YzWiW ?_ | (refine WP.cond rfl (fun hc => ?_) (fun hc => ?_) <;> (try simp only [ZC, reduceCtorEq, ZD] at hc) <;> (try exact absurd hc (by decide)) <;> (try (exfalso; omega))) | refine Rt.mk (And.intro (fun hg => Sm.out ?_) fun hg => Sm.out ?_) | (refine Nu.mk ?_; first | (fail_if_success have := nb1); intro nb1 | (fail_if_success have := nb2); intro nb2 | intro nbz) | (refine Fr.mk ?_; intro hfr; replace FR := And.intro hfr FR; clear hfr; refine Sm.out ?_) | refine Two.mk ?_ ?_ | (apply Yxc; exact Yx) | refine Cs.mk fun hcs => Sm.out ?_ | go_step | omega | (simp only [maxLen_eq]; omega) | exact trivial | refine Or.inr (Rt.mk (And.intro (fun hg => Sm.out ?_) fun hg => Sm.out ?_))
    (refine OutQ.upd (by simp only [resv, ZK, look, loadv, loadn, loadnm, load1, load1m, hget, ↓reduceIte, Nat.reduceEqDiff, Nat.reduceAdd, Nat.reduceMul, Nat.reduceLeDiff, Nat.reduceLT, reduceCtorEq, TFWiW, FR]) (by simp only [resv, resA, ZK, look, loadv, loadn, loadnm, load1, load1m, hget, ↓reduceIte, Nat.reduceEqDiff, Nat.reduceAdd, Nat.reduceMul, Nat.reduceLeDiff, Nat.reduceLT, reduceCtorEq, TFWiW, FR]; first | done | rfl) (by simp only [hget, ↓reduceIte, if_true, if_false, FR]; first | done | rfl) ?_ <;> first | exact rfl | (simp only [ZK, look, loadv, loadn, loadnm, load1, load1m, hget, ↓reduceIte, Nat.reduceEqDiff, Nat.reduceAdd, Nat.reduceMul, Nat.reduceLeDiff, Nat.reduceLT, reduceCtorEq, TFWiW, FR]; done) | skip)
  | some p =>
    obtain ⟨s, n, q⟩ := p
    rw [hg] at c1
    have c2 : ACt Try.prog 61 [pt b 0, iv .u8 0] [(b, rd zs false)] (fun r F' => r = .tup [iv .u8 s, nu n] ∧ F' = [(b, rd q false)]) := c1
    show ACt Try.prog 51 [pt b 0] [(b, rd zs false)] (fun r F' => r = nu n ∧ F' = [(b, rd q false)])
    refine ACt.intro Try.func51 rfl (by kernel_rfl) (by simp [Try.ntmps51]) (fun cx => ?_)
    simp only [argE, Try.ntmps51, Try.results51]
    first | (have FRx := FR; clear FRx) | have FR := fr0
    have FA := Sm.mk (TFWiW)
    repeat' first | (apply Sm.mk; refine Ysn ?_) | refine WP.seq fun K hK => ?_ | (apply Ob.mk; exact Yo) | refine And.intro (Ob.out ?_) ?_ | refine Y1WiW ?_ | refine Yun (c := c2) (r := ?_) | refine YzWiW ?_ | (refine WP.cond rfl (fun hc => ?_) (fun hc => ?_) <;> (try simp only [ZC, reduceCtorEq, ZD] at hc) <;> (try exact absurd hc (by decide)) <;> (try (exfalso; omega))) | refine Rt.mk (And.intro (fun hg => Sm.out ?_) fun hg => Sm.out ?_) | (refine Nu.mk ?_; first | (fail_if_success have := nb1); intro nb1 | (fail_if_success have := nb2); intro nb2 | intro nbz) | (refine Fr.mk ?_; intro hfr; replace FR := And.intro hfr FR; clear hfr; refine Sm.out ?_) | refine Two.mk ?_ ?_ | (apply Yxc; exact Yx) | refine Cs.mk fun hcs => Sm.out ?_ | go_step | omega | (simp only [maxLen_eq]; omega) | exact trivial | refine Or.inr (Rt.mk (And.intro (fun hg => Sm.out ?_) fun hg => Sm.out ?_))
    (refine OutQ.upd (by simp only [resv, ZK, look, loadv, loadn, loadnm, load1, load1m, hget, ↓reduceIte, Nat.reduceEqDiff, Nat.reduceAdd, Nat.reduceMul, Nat.reduceLeDiff, Nat.reduceLT, reduceCtorEq, TFWiW, FR]) (by simp only [resv, resA, ZK, look, loadv, loadn, loadnm, load1, load1m, hget, ↓reduceIte, Nat.reduceEqDiff, Nat.reduceAdd, Nat.reduceMul, Nat.reduceLeDiff, Nat.reduceLT, reduceCtorEq, TFWiW, FR]; first | done | rfl) (by simp only [hget, ↓reduceIte, if_true, if_false, FR]; first | done | rfl) ?_ <;> first | exact rfl | (simp only [ZK, look, loadv, loadn, loadnm, load1, load1m, hget, ↓reduceIte, Nat.reduceEqDiff, Nat.reduceAdd, Nat.reduceMul, Nat.reduceLeDiff, Nat.reduceLT, reduceCtorEq, TFWiW, FR]; done) | skip)
theorem nF_bd {zs q : List Int} {n : Nat} (hb : By zs) (h : nF zs = some (n, q)) : n < 18446744073709551616 ∧ By q ∧ q.length < zs.length ∧ q = zs.drop (zs.length - q.length) := by
  unfold nF at h
  cases hg : gF 0 zs with
  | none => rw [hg] at h; cases h
  | some p =>
    obtain ⟨s, n', q'⟩ := p
    rw [hg] at h; cases h
    obtain ⟨a, b, c, _, d⟩ := gF_bd hb hg
    exact ⟨a, b, c, d⟩
abbrev eS : AV := .lit (.string ⟨#[]⟩)
theorem valL_byteL (n : Nat) : ∀ k, valL (byteL n k) = n % 256 ^ k
  | 0 => by simp [byteL, valL, Nat.mod_one]
  | k + 1 => by
    rw [byteL, valL, byteL_len, valL_byteL n k, Int.toNat_natCast, Nat.mod_pow_succ, Nat.add_comm, Nat.mul_comm]
theorem by_byteL (n : Nat) : ∀ k, By (byteL n k)
  | 0 => fun x hx => by cases hx
  | k + 1 => fun x hx => by
    rcases List.mem_cons.1 hx with rfl | hx
    · omega
    · exact by_byteL n k x hx
theorem By.app {a b : List Int} (ha : By a) (hb : By b) : By (a ++ b) := fun x hx => by
  rcases List.mem_append.1 hx with h | h
  · exact ha x h
  · exact hb x h
theorem by_putL (n : Nat) (hn : n < 18446744073709551616) : By (putL 0 n) := by
  obtain ⟨k, _, hk, h, _⟩ := putL0 n hn
  rw [h]
  intro x hx
  rcases List.mem_cons.1 hx with rfl | hx
  · omega
  · exact by_byteL n k x hx
theorem nF_put (n : Nat) (rest : List Int) (hn : n < 18446744073709551616) : nF (putL 0 n ++ rest) = some (n, rest) := by
  obtain ⟨k, hk, hk9, h, _⟩ := putL0 n hn
  have a := and16 k hk9
  have hlt : n < 256 ^ k := size_le.1 (Nat.le_of_eq hk.symm)
  have hlb := byteL_len n k
  rw [h]
  unfold nF
  rw [List.cons_append]
  simp only [gF, a.2.2.2.2.2, a.2.2.2.2.1, Int.toNat_natCast]
  have hz : ¬ (0 < k ∧ (byteL n k ++ rest).getD 0 0 = 0) := by
    rintro ⟨h0, h1⟩
    have e : (byteL n k ++ rest).getD 0 0 = ((n / 256 ^ (k - 1 - 0) % 256 : Nat) : Int) := by
      rw [← byteL_at n k 0 h0]
      simp only [List.getD_eq_getElem?_getD]
      rw [List.getElem?_append_left (by omega)]
    have hge : 256 ^ (k - 1) ≤ n := by
      apply Classical.byContradiction; intro hc
      have := size_le.2 (show n < 256 ^ (k - 1) by omega)
      omega
    have hne := byteL_hd (k := k - 1) (by rw [show k - 1 + 1 = k by omega]; exact hlt) hge
    rw [e, Nat.sub_zero] at h1
    exact hne (by exact_mod_cast h1)
  rw [if_neg]
  · simp only [Option.map_some, List.take_left' hlb, List.drop_left' hlb, valL_byteL, Nat.mod_eq_of_lt hlt]
  · rintro (h1 | h1 | h1)
    · omega
    · rw [List.length_append] at h1; omega
    · exact hz h1
end Go.Proofs.Yteoajodoejoccaa.Wi
