/-
  The walks and the laws that the statement leans on, part 34.
-/
import Derived.Test.YtfknbndmabogjaaDoorE10
import Derived.Test.YtfknbndmabogjaaDoorE33
namespace Go.Proofs.YtfknbndmabogjaaDoor.Wi
open Go
set_option linter.unusedVariables false
set_option linter.unusedSimpArgs false
set_option linter.defProp false
def TFWiW :=
  And.intro (And.intro (And.intro (And.intro (And.intro tyc0 tyc3) (And.intro zmb3 (And.intro tyc4 zmb4))) (And.intro (And.intro tyc5 (And.intro zmb5 tyc9)) (And.intro zmb9 (And.intro tyc25 zmb25)))) (And.intro (And.intro (And.intro tyc34 (And.intro zmb34 tyc53)) (And.intro elt53 (And.intro mkz53 apT53))) (And.intro (And.intro elk53 (And.intro zmb53 tyc55)) (And.intro mth55_86 (And.intro mth55_89 mth55_88))))) (And.intro (And.intro (And.intro (And.intro con55 zmb55) (And.intro tyc88 (And.intro foff88_0 fpart88_0))) (And.intro (And.intro foff88_1 (And.intro fpart88_1 zmb88)) (And.intro bldT88 (And.intro tyc118 tyc120)))) (And.intro (And.intro (And.intro Tryd.underlying0 (And.intro Tryd.underlying3 Tryd.underlying4)) (And.intro Tryd.underlying5 (And.intro Tryd.underlying9 Tryd.underlying25))) (And.intro (And.intro Tryd.underlying34 (And.intro Tryd.underlying53 Tryd.underlying55)) (And.intro Tryd.underlying88 (And.intro Tryd.underlying118 Tryd.underlying120)))))
theorem Y1WiW {G R : Prop} (r : R) (h : R → G := by intro r; first | (apply WP.region; exact rvc_sound _ _ (Sm.out r)) | exact WP.drawK rfl mixed (by decide +kernel) (Sm.out r) | (apply WP.block; exact r) | (apply WP.skip; exact Yq r) | (apply WP.exit; exact Yq r) | (apply WP.ret; exact Sm.out r) | exact WP.cond rfl (fun _ => r) (fun hg => absurd hg (by decide)) | exact WP.cond rfl (fun hg => absurd hg (by decide)) (fun _ => r) | exact Rt.mk (And.intro (fun _ => Sm.out r) fun hg => absurd hg (by decide)) | exact Rt.mk (And.intro (fun hg => absurd hg (by decide)) fun _ => Sm.out r)) : G := h r
theorem YzWiW {G R : Prop} (r : R) (h : R → G := by intro r; first | (apply ExG.no; exact Sm.out r) | (apply Or.inl; apply ExG.no; exact Sm.out r) | exact Or.inl (And.intro (fun hg => absurd hg (by decide)) (ExG.no (Sm.out r)))) : G := h r
theorem YsWiW0 {P Q : Prop} (q : Q) (h : P = Q := by (try (conv => lhs; simp -dsimp only [ZK, rvc, capA, appA, litL, mkfv, drawF, headN, pureH, stp, dvc, calleeOf, gcall, pev, eff, newB, okd, og, ogs, ogo, ogp, slv, bltv, opd, litv, strip, one, both, putE, St.put, look, gdOf, gdv, picka, pickv, pickw, binv, bini, bins, binb, binp, binq, isSlT, bina, shp, eqCells, unv, convv, nilv, faddv, addp, idxav, idxp, load1, load1m, loadn, loadnm, loadv, hget, hset, hrep, hdel, slicev, slice3v, bnd, shift1, lenv, capv, IntKind.bits, extractv, fieldv, indexv, min2v, max2v, mkiv, tasv, tasz, cellsA, fillA, buildv, stC, oneC, rowMB, intsA, plN, appE, appZ, appC, appS, srcB, appNZ, appNC, VwL, srcC, srcZ, srcM, isBoolT, isPtrT, isSliceT, uOk, Value.oneCell', Nat.reducePow, Int.reducePow, Nat.reduceAdd, Nat.reduceMul, Nat.reduceSub, Nat.reduceLT, Nat.reduceLeDiff, Nat.reduceEqDiff, Nat.reduceBEq, Nat.reduceDiv, Nat.reduceMod, ↓reduceIte, reduceCtorEq, Int.reduceToNat, Int.reduceLT, Int.reduceLE, TFWiW, SeqQ, BlkQ, LoopQ, BodyQ, List.getD_cons_zero, FA.out, FR])) <;> exact rfl) : P := h.mpr q
def rO {α : Type} : Option (α × List Int) → MB
  | some p => rd p.2 false
  | none => rdN
def oE {α : Type} (d : AV) (f : α → AV) : Option (α × List Int) → AV
  | some p => f p.1
  | none => d
def nF (zs : List Int) : Option (Nat × List Int) := (gF 0 zs).map fun p => p.2
def iF (zs : List Int) : Option (Int × List Int) :=
  match gF 16 zs with
  | none => none
  | some (s, n, r) => if (s ≠ 0 ∧ (n = 0 ∨ 9223372036854775808 < n)) ∨ (s = 0 ∧ 9223372036854775807 < n) then none else some (if s ≠ 0 then -(n : Int) else (n : Int), r)
def cF (m : Int) (zs : List Int) : Option (Nat × List Int) :=
  match nF zs with
  | none => none
  | some (n, r) => if m < 0 ∨ m < (n : Int) then none else some (n, r)
def tF (m : Int) (zs : List Int) : Option (List Int × List Int) :=
  match cF m zs with
  | none => none
  | some (n, r) => if r.length < n then none else some (r.take n, r.drop n)
def fF : List Int → Option (Bool × List Int)
  | [] => none
  | h :: t => if 1 < h then none else some (h == 1, t)
theorem gF_bd {sgn : Int} {zs r : List Int} {s : Int} {n : Nat} (hb : By zs) (h : gF sgn zs = some (s, n, r)) : n < 18446744073709551616 ∧ By r ∧ r.length < zs.length ∧ (sgn = 16 ∨ sgn = 0 → s = 0 ∨ s = 16) ∧ r = zs.drop (zs.length - r.length) := by
  cases zs with
  | nil => cases h
  | cons c t =>
    simp only [gF] at h
    split at h
    · cases h
    · rename_i hn
      simp only [Option.some.injEq, Prod.mk.injEq] at h
      obtain ⟨rfl, rfl, rfl⟩ := h
      have hv := valL_lt (hb.tail.take (ibit .andNot .u8 c sgn).toNat)
      obtain ⟨K, hK⟩ : ∃ K, K = (ibit .andNot .u8 c sgn).toNat := ⟨_, rfl⟩
      rw [← hK] at hn hv ⊢
      have hb8 : (256 : Nat) ^ (t.take K).length ≤ 256 ^ 8 := Nat.pow_le_pow_right (by omega) (by simp; omega)
      refine ⟨by omega, hb.tail.drop _, by simp; omega, ?_, ?_⟩
      · have hh := hb c (List.mem_cons_self ..)
        obtain ⟨m, rfl⟩ := Int.eq_ofNat_of_zero_le hh.1
        obtain ⟨k, s, hk, a1, a2, _, a5, a3, a4⟩ := and256 m (by omega)
        rintro (rfl | rfl)
        · rw [a2, a5]; split <;> simp
        · exact .inl a4
      · simp only [List.length_cons, List.length_drop]
        rw [show t.length + 1 - (t.length - K) = K + 1 by omega, List.drop_succ_cons]
set_option maxRecDepth 8000 in
theorem numN (b : Nat) : ACt Tryd.prog 65 [pt b 0] [(b, rdN)] (fun r F' => r = nu 0 ∧ F' = [(b, rdN)]) := by
  refine ACt.intro Tryd.func65 rfl (by kernel_rfl) (by simp [Tryd.ntmps65]) (fun cx => ?_)
  simp only [argE, Tryd.ntmps65, Tryd.results65]
  first | (have FRx := FR; clear FRx) | have FR := fr0
  have FA := Sm.mk (TFWiW)
  repeat' first | (apply Sm.mk; refine Ysn ?_) | refine WP.seq fun K hK => ?_ | (apply Ob.mk; exact Yo) | refine And.intro (Ob.out ?_) ?_ | refine Y1WiW ?_ | refine Yun (c := getN b 0) (r := ?_) | refine YzWiW ?_ | (refine WP.cond rfl (fun hc => ?_) (fun hc => ?_) <;> (try simp only [ZC, reduceCtorEq, ZD] at hc) <;> (try exact absurd hc (by decide)) <;> (try (exfalso; omega))) | refine Rt.mk (And.intro (fun hg => Sm.out ?_) fun hg => Sm.out ?_) | (refine Nu.mk ?_; first | (fail_if_success have := nb1); intro nb1 | (fail_if_success have := nb2); intro nb2 | intro nbz) | (refine Fr.mk ?_; intro hfr; replace FR := And.intro hfr FR; clear hfr; refine Sm.out ?_) | refine Two.mk ?_ ?_ | (apply Yxc; exact Yx) | refine Cs.mk fun hcs => Sm.out ?_ | go_step | omega | (simp only [maxLen_eq]; omega) | exact trivial | refine Or.inr (Rt.mk (And.intro (fun hg => Sm.out ?_) fun hg => Sm.out ?_))
  (refine OutQ.upd (by simp only [resv, ZK, look, loadv, loadn, loadnm, load1, load1m, hget, ↓reduceIte, Nat.reduceEqDiff, Nat.reduceAdd, Nat.reduceMul, Nat.reduceLeDiff, Nat.reduceLT, reduceCtorEq, TFWiW, FR]) (by simp only [resv, resA, ZK, look, loadv, loadn, loadnm, load1, load1m, hget, ↓reduceIte, Nat.reduceEqDiff, Nat.reduceAdd, Nat.reduceMul, Nat.reduceLeDiff, Nat.reduceLT, reduceCtorEq, TFWiW, FR]; first | done | rfl) (by simp only [hget, ↓reduceIte, if_true, if_false, FR]; first | done | rfl) ?_ <;> first | exact rfl | (simp only [ZK, look, loadv, loadn, loadnm, load1, load1m, hget, ↓reduceIte, Nat.reduceEqDiff, Nat.reduceAdd, Nat.reduceMul, Nat.reduceLeDiff, Nat.reduceLT, reduceCtorEq, TFWiW, FR]; done) | skip)
  all_goals rfl
set_option maxRecDepth 8000 in
theorem numX (b : Nat) (zs : List Int) (hb : By zs) (hz : zs.length ≤ 100000) : ACt Tryd.prog 65 [pt b 0] [(b, rd zs false)] (fun r F' => r = oE (nu 0) nu (nF zs) ∧ F' = [(b, rO (nF zs))]) := by
  have c1 := getX b 0 zs (.inl rfl) hb hz
  unfold nF
  cases hg : gF 0 zs with
  | none =>
    rw [hg] at c1
    have c2 : ACt Tryd.prog 89 [pt b 0, iv .u8 0] [(b, rd zs false)] (fun r F' => r = .tup [iv .u8 0, nu 0] ∧ F' = [(b, rdN)]) := c1
    show ACt Tryd.prog 65 [pt b 0] [(b, rd zs false)] (fun r F' => r = nu 0 ∧ F' = [(b, rdN)])
    refine ACt.intro Tryd.func65 rfl (by kernel_rfl) (by simp [Tryd.ntmps65]) (fun cx => ?_)
    simp only [argE, Tryd.ntmps65, Tryd.results65]
    first | (have FRx := FR; clear FRx) | have FR := fr0
    have FA := Sm.mk (TFWiW)
    repeat' first | (apply Sm.mk; refine Ysn ?_) | refine WP.seq fun K hK => ?_ | (apply Ob.mk; exact Yo) | refine And.intro (Ob.out ?_) ?_ | refine Y1WiW ?_ | refine Yun (c := c2) (r := ?_) | refine YzWiW ?_ | (refine WP.cond rfl (fun hc => ?_) (fun hc => ?_) <;> (try simp only [ZC, reduceCtorEq, ZD] at hc) <;> (try exact absurd hc (by decide)) <;> (try (exfalso; omega))) | refine Rt.mk (And.intro (fun hg => Sm.out ?_) fun hg => Sm.out ?_) | (refine Nu.mk ?_; first | (fail_if_success have := nb1); intro nb1 | (fail_if_success have := nb2); intro nb2 | intro nbz) | (refine Fr.mk ?_; intro hfr; replace FR := And.intro hfr FR; clear hfr; refine Sm.out ?_) | refine Two.mk ?_ ?_ | (apply Yxc; exact Yx) | refine Cs.mk fun hcs => Sm.out ?_ | go_step | omega | (simp only [maxLen_eq]; omega) | exact trivial | refine Or.inr (Rt.mk (And.intro (fun hg => Sm.out ?_) fun hg => Sm.out ?_))
    (refine OutQ.upd (by simp only [resv, ZK, look, loadv, loadn, loadnm, load1, load1m, hget, ↓reduceIte, Nat.reduceEqDiff, Nat.reduceAdd, Nat.reduceMul, Nat.reduceLeDiff, Nat.reduceLT, reduceCtorEq, TFWiW, FR]) (by simp only [resv, resA, ZK, look, loadv, loadn, loadnm, load1, load1m, hget, ↓reduceIte, Nat.reduceEqDiff, Nat.reduceAdd, Nat.reduceMul, Nat.reduceLeDiff, Nat.reduceLT, reduceCtorEq, TFWiW, FR]; first | done | rfl) (by simp only [hget, ↓reduceIte, if_true, if_false, FR]; first | done | rfl) ?_ <;> first | exact rfl | (simp only [ZK, look, loadv, loadn, loadnm, load1, load1m, hget, ↓reduceIte, Nat.reduceEqDiff, Nat.reduceAdd, Nat.reduceMul, Nat.reduceLeDiff, Nat.reduceLT, reduceCtorEq, TFWiW, FR]; done) | skip)
  | some p =>
    obtain ⟨s, n, q⟩ := p
    rw [hg] at c1
    have c2 : ACt Tryd.prog 89 [pt b 0, iv .u8 0] [(b, rd zs false)] (fun r F' => r = .tup [iv .u8 s, nu n] ∧ F' = [(b, rd q false)]) := c1
    show ACt Tryd.prog 65 [pt b 0] [(b, rd zs false)] (fun r F' => r = nu n ∧ F' = [(b, rd q false)])
    refine ACt.intro Tryd.func65 rfl (by kernel_rfl) (by simp [Tryd.ntmps65]) (fun cx => ?_)
    simp only [argE, Tryd.ntmps65, Tryd.results65]
    first | (have FRx := FR; clear FRx) | have FR := fr0
    have FA := Sm.mk (TFWiW)
    repeat' first | (apply Sm.mk; refine Ysn ?_) | refine WP.seq fun K hK => ?_ | (apply Ob.mk; exact Yo) | refine And.intro (Ob.out ?_) ?_ | refine Y1WiW ?_ | refine Yun (c := c2) (r := ?_) | refine YzWiW ?_ | (refine WP.cond rfl (fun hc => ?_) (fun hc => ?_) <;> (try simp only [ZC, reduceCtorEq, ZD] at hc) <;> (try exact absurd hc (by decide)) <;> (try (exfalso; omega))) | refine Rt.mk (And.intro (fun hg => Sm.out ?_) fun hg => Sm.out ?_) | (refine Nu.mk ?_; first | (fail_if_success have := nb1); intro nb1 | (fail_if_success have := nb2); intro nb2 | intro nbz) | (refine Fr.mk ?_; intro hfr; replace FR := And.intro hfr FR; clear hfr; refine Sm.out ?_) | refine Two.mk ?_ ?_ | (apply Yxc; exact Yx) | refine Cs.mk fun hcs => Sm.out ?_ | go_step | omega | (simp only [maxLen_eq]; omega) | exact trivial | refine Or.inr (Rt.mk (And.intro (fun hg => Sm.out ?_) fun hg => Sm.out ?_))
    (refine OutQ.upd (by simp only [resv, ZK, look, loadv, loadn, loadnm, load1, load1m, hget, ↓reduceIte, Nat.reduceEqDiff, Nat.reduceAdd, Nat.reduceMul, Nat.reduceLeDiff, Nat.reduceLT, reduceCtorEq, TFWiW, FR]) (by simp only [resv, resA, ZK, look, loadv, loadn, loadnm, load1, load1m, hget, ↓reduceIte, Nat.reduceEqDiff, Nat.reduceAdd, Nat.reduceMul, Nat.reduceLeDiff, Nat.reduceLT, reduceCtorEq, TFWiW, FR]; first | done | rfl) (by simp only [hget, ↓reduceIte, if_true, if_false, FR]; first | done | rfl) ?_ <;> first | exact rfl | (simp only [ZK, look, loadv, loadn, loadnm, load1, load1m, hget, ↓reduceIte, Nat.reduceEqDiff, Nat.reduceAdd, Nat.reduceMul, Nat.reduceLeDiff, Nat.reduceLT, reduceCtorEq, TFWiW, FR]; done) | skip)
set_option maxRecDepth 8000 in
theorem countN (b : Nat) (m : Int) (h1 : -9223372036854775808 ≤ m) (h2 : m ≤ 9223372036854775807) : ACt Tryd.prog 61 [pt b 0, iv .i64 m] [(b, rdN)] (fun r F' => r = iv .i64 0 ∧ F' = [(b, rdN)]) := by
  refine ACt.intro Tryd.func61 rfl (by kernel_rfl) (by simp [Tryd.ntmps61]) (fun cx => ?_)
  simp only [argE, Tryd.ntmps61, Tryd.results61]
  have w : IntKind.i64.wrap 0 = 0 := by decide
  have c1 : ACt Tryd.prog 65 [pt b 0] [(b, rdN)] (fun r F' => r = iv .u64 0 ∧ F' = [(b, rdN)]) := numN b
  by_cases h : m < 0
  · have k : decide (m < 0) = true := decide_eq_true h
    first | (have FRx := FR; clear FRx) | have FR := fr0
    have FA := Sm.mk (And.intro TFWiW k)
    repeat' first | (apply Sm.mk; refine Ysn ?_) | refine WP.seq fun K hK => ?_ | (apply Ob.mk; exact Yo) | refine And.intro (Ob.out ?_) ?_ | refine Y1WiW ?_ | refine Yun (c := c1) (r := ?_) | refine Yun (c := fail_e b true) (r := ?_) | refine YzWiW ?_ | (refine WP.cond rfl (fun hc => ?_) (fun hc => ?_) <;> (try simp only [ZC, reduceCtorEq, ZD] at hc) <;> (try exact absurd hc (by decide)) <;> (try (exfalso; omega))) | refine Rt.mk (And.intro (fun hg => Sm.out ?_) fun hg => Sm.out ?_) | (refine Nu.mk ?_; first | (fail_if_success have := nb1); intro nb1 | (fail_if_success have := nb2); intro nb2 | intro nbz) | (refine Fr.mk ?_; intro hfr; replace FR := And.intro hfr FR; clear hfr; refine Sm.out ?_) | refine Two.mk ?_ ?_ | (apply Yxc; exact Yx) | refine Cs.mk fun hcs => Sm.out ?_ | go_step | omega | (simp only [maxLen_eq]; omega) | exact trivial | refine Or.inr (Rt.mk (And.intro (fun hg => Sm.out ?_) fun hg => Sm.out ?_))
    (refine OutQ.upd (by simp only [resv, ZK, look, loadv, loadn, loadnm, load1, load1m, hget, ↓reduceIte, Nat.reduceEqDiff, Nat.reduceAdd, Nat.reduceMul, Nat.reduceLeDiff, Nat.reduceLT, reduceCtorEq, TFWiW, FR]) (by simp only [resv, resA, ZK, look, loadv, loadn, loadnm, load1, load1m, hget, ↓reduceIte, Nat.reduceEqDiff, Nat.reduceAdd, Nat.reduceMul, Nat.reduceLeDiff, Nat.reduceLT, reduceCtorEq, TFWiW, FR]; first | done | rfl) (by simp only [hget, ↓reduceIte, if_true, if_false, FR]; first | done | rfl) ?_ <;> first | exact rfl | (simp only [ZK, look, loadv, loadn, loadnm, load1, load1m, hget, ↓reduceIte, Nat.reduceEqDiff, Nat.reduceAdd, Nat.reduceMul, Nat.reduceLeDiff, Nat.reduceLT, reduceCtorEq, TFWiW, FR]; done) | skip)
  · have k : decide (m < 0) = false := decide_eq_false h
    have k2 : decide (0 > IntKind.u64.wrap m) = false := by rw [wrap_u64 (by omega) (by omega)]; simp; omega
    first | (have FRx := FR; clear FRx) | have FR := fr0
    have FA := Sm.mk (And.intro TFWiW (And.intro k (And.intro k2 w)))
    repeat' first | (apply Sm.mk; refine Ysn ?_) | refine WP.seq fun K hK => ?_ | (apply Ob.mk; exact Yo) | refine And.intro (Ob.out ?_) ?_ | refine Y1WiW ?_ | refine Yun (c := c1) (r := ?_) | refine Yun (c := fail_e b true) (r := ?_) | refine YzWiW ?_ | (refine WP.cond rfl (fun hc => ?_) (fun hc => ?_) <;> (try simp only [ZC, reduceCtorEq, ZD] at hc) <;> (try exact absurd hc (by decide)) <;> (try (exfalso; omega))) | refine Rt.mk (And.intro (fun hg => Sm.out ?_) fun hg => Sm.out ?_) | (refine Nu.mk ?_; first | (fail_if_success have := nb1); intro nb1 | (fail_if_success have := nb2); intro nb2 | intro nbz) | (refine Fr.mk ?_; intro hfr; replace FR := And.intro hfr FR; clear hfr; refine Sm.out ?_) | refine Two.mk ?_ ?_ | (apply Yxc; exact Yx) | refine Cs.mk fun hcs => Sm.out ?_ | go_step | omega | (simp only [maxLen_eq]; omega) | exact trivial | refine Or.inr (Rt.mk (And.intro (fun hg => Sm.out ?_) fun hg => Sm.out ?_))
    (refine OutQ.upd (by simp only [resv, ZK, look, loadv, loadn, loadnm, load1, load1m, hget, ↓reduceIte, Nat.reduceEqDiff, Nat.reduceAdd, Nat.reduceMul, Nat.reduceLeDiff, Nat.reduceLT, reduceCtorEq, TFWiW, FR]) (by simp only [resv, resA, ZK, look, loadv, loadn, loadnm, load1, load1m, hget, ↓reduceIte, Nat.reduceEqDiff, Nat.reduceAdd, Nat.reduceMul, Nat.reduceLeDiff, Nat.reduceLT, reduceCtorEq, TFWiW, FR]; first | done | rfl) (by simp only [hget, ↓reduceIte, if_true, if_false, FR]; first | done | rfl) ?_ <;> first | exact rfl | (simp only [ZK, look, loadv, loadn, loadnm, load1, load1m, hget, ↓reduceIte, Nat.reduceEqDiff, Nat.reduceAdd, Nat.reduceMul, Nat.reduceLeDiff, Nat.reduceLT, reduceCtorEq, TFWiW, FR]; done) | skip)
theorem nF_bd {zs q : List Int} {n : Nat} (hb : By zs) (h : nF zs = some (n, q)) : n < 18446744073709551616 ∧ By q ∧ q.length < zs.length ∧ q = zs.drop (zs.length - q.length) := by
  unfold nF at h
  cases hg : gF 0 zs with
  | none => rw [hg] at h; cases h
  | some p =>
    obtain ⟨s, n', q'⟩ := p
    rw [hg] at h; cases h
    obtain ⟨a, b, c, _, d⟩ := gF_bd hb hg
    exact ⟨a, b, c, d⟩
set_option maxRecDepth 8000 in
set_option maxHeartbeats 1000000 in
theorem countX (b : Nat) (zs : List Int) (m : Int) (hb : By zs) (hz : zs.length ≤ 100000) (h1 : -9223372036854775808 ≤ m) (h2 : m ≤ 9223372036854775807) :
    ACt Tryd.prog 61 [pt b 0, iv .i64 m] [(b, rd zs false)] (fun r F' => r = oE (iv .i64 0) (fun n : Nat => iv .i64 n) (cF m zs) ∧ F' = [(b, rO (cF m zs))]) := by
  have c1 := numX b zs hb hz
  unfold cF
  have w0 : IntKind.i64.wrap 0 = 0 := by decide
  cases hg : nF zs with
  | none =>
    rw [hg] at c1
    have c2 : ACt Tryd.prog 65 [pt b 0] [(b, rd zs false)] (fun r F' => r = iv .u64 0 ∧ F' = [(b, rdN)]) := c1
    show ACt Tryd.prog 61 [pt b 0, iv .i64 m] [(b, rd zs false)] (fun r F' => r = iv .i64 0 ∧ F' = [(b, rdN)])
    refine ACt.intro Tryd.func61 rfl (by kernel_rfl) (by simp [Tryd.ntmps61]) (fun cx => ?_)
    simp only [argE, Tryd.ntmps61, Tryd.results61]
    by_cases h : m < 0
    · have k : decide (m < 0) = true := decide_eq_true h
      first | (have FRx := FR; clear FRx) | have FR := fr0
      have FA := Sm.mk (And.intro TFWiW k)
      repeat' first | (apply Sm.mk; refine Ysn ?_) | refine WP.seq fun K hK => ?_ | (apply Ob.mk; exact Yo) | refine And.intro (Ob.out ?_) ?_ | refine Y1WiW ?_ | refine Yun (c := c2) (r := ?_) | refine Yun (c := fail_e b true) (r := ?_) | refine YzWiW ?_ | (refine WP.cond rfl (fun hc => ?_) (fun hc => ?_) <;> (try simp only [ZC, reduceCtorEq, ZD] at hc) <;> (try exact absurd hc (by decide)) <;> (try (exfalso; omega))) | refine Rt.mk (And.intro (fun hg => Sm.out ?_) fun hg => Sm.out ?_) | (refine Nu.mk ?_; first | (fail_if_success have := nb1); intro nb1 | (fail_if_success have := nb2); intro nb2 | intro nbz) | (refine Fr.mk ?_; intro hfr; replace FR := And.intro hfr FR; clear hfr; refine Sm.out ?_) | refine Two.mk ?_ ?_ | (apply Yxc; exact Yx) | refine Cs.mk fun hcs => Sm.out ?_ | go_step | omega | (simp only [maxLen_eq]; omega) | exact trivial | refine Or.inr (Rt.mk (And.intro (fun hg => Sm.out ?_) fun hg => Sm.out ?_))
      (refine OutQ.upd (by simp only [resv, ZK, look, loadv, loadn, loadnm, load1, load1m, hget, ↓reduceIte, Nat.reduceEqDiff, Nat.reduceAdd, Nat.reduceMul, Nat.reduceLeDiff, Nat.reduceLT, reduceCtorEq, TFWiW, FR]) (by simp only [resv, resA, ZK, look, loadv, loadn, loadnm, load1, load1m, hget, ↓reduceIte, Nat.reduceEqDiff, Nat.reduceAdd, Nat.reduceMul, Nat.reduceLeDiff, Nat.reduceLT, reduceCtorEq, TFWiW, FR]; first | done | rfl) (by simp only [hget, ↓reduceIte, if_true, if_false, FR]; first | done | rfl) ?_ <;> first | exact rfl | (simp only [ZK, look, loadv, loadn, loadnm, load1, load1m, hget, ↓reduceIte, Nat.reduceEqDiff, Nat.reduceAdd, Nat.reduceMul, Nat.reduceLeDiff, Nat.reduceLT, reduceCtorEq, TFWiW, FR]; done) | skip)
    · have k : decide (m < 0) = false := decide_eq_false h
      have k2 : decide (0 > IntKind.u64.wrap m) = false := by rw [wrap_u64 (by omega) (by omega)]; simp; omega
      first | (have FRx := FR; clear FRx) | have FR := fr0
      have FA := Sm.mk (And.intro TFWiW (And.intro k (And.intro k2 w0)))
      repeat' first | (apply Sm.mk; refine Ysn ?_) | refine WP.seq fun K hK => ?_ | (apply Ob.mk; exact Yo) | refine And.intro (Ob.out ?_) ?_ | refine Y1WiW ?_ | refine Yun (c := c2) (r := ?_) | refine Yun (c := fail_e b true) (r := ?_) | refine YzWiW ?_ | (refine WP.cond rfl (fun hc => ?_) (fun hc => ?_) <;> (try simp only [ZC, reduceCtorEq, ZD] at hc) <;> (try exact absurd hc (by decide)) <;> (try (exfalso; omega))) | refine Rt.mk (And.intro (fun hg => Sm.out ?_) fun hg => Sm.out ?_) | (refine Nu.mk ?_; first | (fail_if_success have := nb1); intro nb1 | (fail_if_success have := nb2); intro nb2 | intro nbz) | (refine Fr.mk ?_; intro hfr; replace FR := And.intro hfr FR; clear hfr; refine Sm.out ?_) | refine Two.mk ?_ ?_ | (apply Yxc; exact Yx) | refine Cs.mk fun hcs => Sm.out ?_ | go_step | omega | (simp only [maxLen_eq]; omega) | exact trivial | refine Or.inr (Rt.mk (And.intro (fun hg => Sm.out ?_) fun hg => Sm.out ?_))
      (refine OutQ.upd (by simp only [resv, ZK, look, loadv, loadn, loadnm, load1, load1m, hget, ↓reduceIte, Nat.reduceEqDiff, Nat.reduceAdd, Nat.reduceMul, Nat.reduceLeDiff, Nat.reduceLT, reduceCtorEq, TFWiW, FR]) (by simp only [resv, resA, ZK, look, loadv, loadn, loadnm, load1, load1m, hget, ↓reduceIte, Nat.reduceEqDiff, Nat.reduceAdd, Nat.reduceMul, Nat.reduceLeDiff, Nat.reduceLT, reduceCtorEq, TFWiW, FR]; first | done | rfl) (by simp only [hget, ↓reduceIte, if_true, if_false, FR]; first | done | rfl) ?_ <;> first | exact rfl | (simp only [ZK, look, loadv, loadn, loadnm, load1, load1m, hget, ↓reduceIte, Nat.reduceEqDiff, Nat.reduceAdd, Nat.reduceMul, Nat.reduceLeDiff, Nat.reduceLT, reduceCtorEq, TFWiW, FR]; done) | skip)
  | some p =>
    obtain ⟨n, q⟩ := p
    rw [hg] at c1
    obtain ⟨hn, _, _, _⟩ := nF_bd hb hg
    have c2 : ACt Tryd.prog 65 [pt b 0] [(b, rd zs false)] (fun r F' => r = nu n ∧ F' = [(b, rd q false)]) := c1
    simp only
    by_cases h : m < 0
    · have k : decide (m < 0) = true := decide_eq_true h
      rw [if_pos (.inl h)]
      show ACt Tryd.prog 61 [pt b 0, iv .i64 m] [(b, rd zs false)] (fun r F' => r = iv .i64 0 ∧ F' = [(b, rdN)])
      refine ACt.intro Tryd.func61 rfl (by kernel_rfl) (by simp [Tryd.ntmps61]) (fun cx => ?_)
      simp only [argE, Tryd.ntmps61, Tryd.results61]
      first | (have FRx := FR; clear FRx) | have FR := fr0
      have FA := Sm.mk (And.intro TFWiW k)
      repeat' first | (apply Sm.mk; refine Ysn ?_) | refine WP.seq fun K hK => ?_ | (apply Ob.mk; exact Yo) | refine And.intro (Ob.out ?_) ?_ | refine Y1WiW ?_ | refine Yun (c := c2) (r := ?_) | refine Yun (c := failR b q) (r := ?_) | refine YzWiW ?_ | (refine WP.cond rfl (fun hc => ?_) (fun hc => ?_) <;> (try simp only [ZC, reduceCtorEq, ZD] at hc) <;> (try exact absurd hc (by decide)) <;> (try (exfalso; omega))) | refine Rt.mk (And.intro (fun hg => Sm.out ?_) fun hg => Sm.out ?_) | (refine Nu.mk ?_; first | (fail_if_success have := nb1); intro nb1 | (fail_if_success have := nb2); intro nb2 | intro nbz) | (refine Fr.mk ?_; intro hfr; replace FR := And.intro hfr FR; clear hfr; refine Sm.out ?_) | refine Two.mk ?_ ?_ | (apply Yxc; exact Yx) | refine Cs.mk fun hcs => Sm.out ?_ | go_step | omega | (simp only [maxLen_eq]; omega) | exact trivial | refine Or.inr (Rt.mk (And.intro (fun hg => Sm.out ?_) fun hg => Sm.out ?_))
      (refine OutQ.upd (by simp only [resv, ZK, look, loadv, loadn, loadnm, load1, load1m, hget, ↓reduceIte, Nat.reduceEqDiff, Nat.reduceAdd, Nat.reduceMul, Nat.reduceLeDiff, Nat.reduceLT, reduceCtorEq, TFWiW, FR]) (by simp only [resv, resA, ZK, look, loadv, loadn, loadnm, load1, load1m, hget, ↓reduceIte, Nat.reduceEqDiff, Nat.reduceAdd, Nat.reduceMul, Nat.reduceLeDiff, Nat.reduceLT, reduceCtorEq, TFWiW, FR]; first | done | rfl) (by simp only [hget, ↓reduceIte, if_true, if_false, FR]; first | done | rfl) ?_ <;> first | exact rfl | (simp only [ZK, look, loadv, loadn, loadnm, load1, load1m, hget, ↓reduceIte, Nat.reduceEqDiff, Nat.reduceAdd, Nat.reduceMul, Nat.reduceLeDiff, Nat.reduceLT, reduceCtorEq, TFWiW, FR]; done) | skip)
    · have k : decide (m < 0) = false := decide_eq_false h
      have k2 : decide ((n : Int) > IntKind.u64.wrap m) = decide (m < (n : Int)) := by rw [wrap_u64 (by omega) (by omega)]
      by_cases h3 : m < (n : Int)
      · rw [if_pos (.inr h3)]
        rw [decide_eq_true h3] at k2
        show ACt Tryd.prog 61 [pt b 0, iv .i64 m] [(b, rd zs false)] (fun r F' => r = iv .i64 0 ∧ F' = [(b, rdN)])
        refine ACt.intro Tryd.func61 rfl (by kernel_rfl) (by simp [Tryd.ntmps61]) (fun cx => ?_)
        simp only [argE, Tryd.ntmps61, Tryd.results61]
        first | (have FRx := FR; clear FRx) | have FR := fr0
        have FA := Sm.mk (And.intro TFWiW (And.intro k k2))
        repeat' first | (apply Sm.mk; refine Ysn ?_) | refine WP.seq fun K hK => ?_ | (apply Ob.mk; exact Yo) | refine And.intro (Ob.out ?_) ?_ | refine Y1WiW ?_ | refine Yun (c := c2) (r := ?_) | refine Yun (c := failR b q) (r := ?_) | refine YzWiW ?_ | (refine WP.cond rfl (fun hc => ?_) (fun hc => ?_) <;> (try simp only [ZC, reduceCtorEq, ZD] at hc) <;> (try exact absurd hc (by decide)) <;> (try (exfalso; omega))) | refine Rt.mk (And.intro (fun hg => Sm.out ?_) fun hg => Sm.out ?_) | (refine Nu.mk ?_; first | (fail_if_success have := nb1); intro nb1 | (fail_if_success have := nb2); intro nb2 | intro nbz) | (refine Fr.mk ?_; intro hfr; replace FR := And.intro hfr FR; clear hfr; refine Sm.out ?_) | refine Two.mk ?_ ?_ | (apply Yxc; exact Yx) | refine Cs.mk fun hcs => Sm.out ?_ | go_step | omega | (simp only [maxLen_eq]; omega) | exact trivial | refine Or.inr (Rt.mk (And.intro (fun hg => Sm.out ?_) fun hg => Sm.out ?_))
        (refine OutQ.upd (by simp only [resv, ZK, look, loadv, loadn, loadnm, load1, load1m, hget, ↓reduceIte, Nat.reduceEqDiff, Nat.reduceAdd, Nat.reduceMul, Nat.reduceLeDiff, Nat.reduceLT, reduceCtorEq, TFWiW, FR]) (by simp only [resv, resA, ZK, look, loadv, loadn, loadnm, load1, load1m, hget, ↓reduceIte, Nat.reduceEqDiff, Nat.reduceAdd, Nat.reduceMul, Nat.reduceLeDiff, Nat.reduceLT, reduceCtorEq, TFWiW, FR]; first | done | rfl) (by simp only [hget, ↓reduceIte, if_true, if_false, FR]; first | done | rfl) ?_ <;> first | exact rfl | (simp only [ZK, look, loadv, loadn, loadnm, load1, load1m, hget, ↓reduceIte, Nat.reduceEqDiff, Nat.reduceAdd, Nat.reduceMul, Nat.reduceLeDiff, Nat.reduceLT, reduceCtorEq, TFWiW, FR]; done) | skip)
      · rw [if_neg (by omega)]
        rw [decide_eq_false h3] at k2
        have w : IntKind.i64.wrap (n : Int) = (n : Int) := wrap_i64_nat (by omega)
        show ACt Tryd.prog 61 [pt b 0, iv .i64 m] [(b, rd zs false)] (fun r F' => r = iv .i64 (n : Int) ∧ F' = [(b, rd q false)])
        refine ACt.intro Tryd.func61 rfl (by kernel_rfl) (by simp [Tryd.ntmps61]) (fun cx => ?_)
        simp only [argE, Tryd.ntmps61, Tryd.results61]
        first | (have FRx := FR; clear FRx) | have FR := fr0
        have FA := Sm.mk (And.intro TFWiW (And.intro k (And.intro k2 w)))
        repeat' first | (apply Sm.mk; refine Ysn ?_) | refine WP.seq fun K hK => ?_ | (apply Ob.mk; exact Yo) | refine And.intro (Ob.out ?_) ?_ | refine Y1WiW ?_ | refine Yun (c := c2) (r := ?_) | refine YzWiW ?_ | (refine WP.cond rfl (fun hc => ?_) (fun hc => ?_) <;> (try simp only [ZC, reduceCtorEq, ZD] at hc) <;> (try exact absurd hc (by decide)) <;> (try (exfalso; omega))) | refine Rt.mk (And.intro (fun hg => Sm.out ?_) fun hg => Sm.out ?_) | (refine Nu.mk ?_; first | (fail_if_success have := nb1); intro nb1 | (fail_if_success have := nb2); intro nb2 | intro nbz) | (refine Fr.mk ?_; intro hfr; replace FR := And.intro hfr FR; clear hfr; refine Sm.out ?_) | refine Two.mk ?_ ?_ | (apply Yxc; exact Yx) | refine Cs.mk fun hcs => Sm.out ?_ | go_step | omega | (simp only [maxLen_eq]; omega) | exact trivial | refine Or.inr (Rt.mk (And.intro (fun hg => Sm.out ?_) fun hg => Sm.out ?_))
        (refine OutQ.upd (by simp only [resv, ZK, look, loadv, loadn, loadnm, load1, load1m, hget, ↓reduceIte, Nat.reduceEqDiff, Nat.reduceAdd, Nat.reduceMul, Nat.reduceLeDiff, Nat.reduceLT, reduceCtorEq, TFWiW, FR]) (by simp only [resv, resA, ZK, look, loadv, loadn, loadnm, load1, load1m, hget, ↓reduceIte, Nat.reduceEqDiff, Nat.reduceAdd, Nat.reduceMul, Nat.reduceLeDiff, Nat.reduceLT, reduceCtorEq, TFWiW, FR]; first | done | rfl) (by simp only [hget, ↓reduceIte, if_true, if_false, FR]; first | done | rfl) ?_ <;> first | exact rfl | (simp only [ZK, look, loadv, loadn, loadnm, load1, load1m, hget, ↓reduceIte, Nat.reduceEqDiff, Nat.reduceAdd, Nat.reduceMul, Nat.reduceLeDiff, Nat.reduceLT, reduceCtorEq, TFWiW, FR]; done) | skip)
abbrev eS : AV := .lit (.string ⟨#[]⟩)
set_option maxRecDepth 8000 in
theorem textN (b : Nat) (m : Int) (h1 : -9223372036854775808 ≤ m) (h2 : m ≤ 9223372036854775807) : ACt Tryd.prog 87 [pt b 0, iv .i64 m] [(b, rdN)] (fun r F' => r = eS ∧ F' = [(b, rdN)]) := by
  refine ACt.intro Tryd.func87 rfl (by kernel_rfl) (by simp [Tryd.ntmps87]) (fun cx => ?_)
  simp only [argE, Tryd.ntmps87, Tryd.results87]
  have w : IntKind.u64.wrap 0 = ((0 : Nat) : Int) := by decide
  first | (have FRx := FR; clear FRx) | have FR := fr0
  have FA := Sm.mk (And.intro TFWiW w)
  repeat' first | (apply Sm.mk; refine Ysn ?_) | refine WP.seq fun K hK => ?_ | (apply Ob.mk; exact Yo) | refine And.intro (Ob.out ?_) ?_ | refine Y1WiW ?_ | refine Yun (c := countN b m h1 h2) (r := ?_) | refine Yun (c := takeN b 0) (r := ?_) | refine YzWiW ?_ | (refine WP.cond rfl (fun hc => ?_) (fun hc => ?_) <;> (try simp only [ZC, reduceCtorEq, ZD] at hc) <;> (try exact absurd hc (by decide)) <;> (try (exfalso; omega))) | refine Rt.mk (And.intro (fun hg => Sm.out ?_) fun hg => Sm.out ?_) | (refine Nu.mk ?_; first | (fail_if_success have := nb1); intro nb1 | (fail_if_success have := nb2); intro nb2 | intro nbz) | (refine Fr.mk ?_; intro hfr; replace FR := And.intro hfr FR; clear hfr; refine Sm.out ?_) | refine Two.mk ?_ ?_ | (apply Yxc; exact Yx) | refine Cs.mk fun hcs => Sm.out ?_ | go_step | omega | (simp only [maxLen_eq]; omega) | exact trivial | refine Or.inr (Rt.mk (And.intro (fun hg => Sm.out ?_) fun hg => Sm.out ?_))
  (refine OutQ.upd (by simp only [resv, ZK, look, loadv, loadn, loadnm, load1, load1m, hget, ↓reduceIte, Nat.reduceEqDiff, Nat.reduceAdd, Nat.reduceMul, Nat.reduceLeDiff, Nat.reduceLT, reduceCtorEq, TFWiW, FR]) (by simp only [resv, resA, ZK, look, loadv, loadn, loadnm, load1, load1m, hget, ↓reduceIte, Nat.reduceEqDiff, Nat.reduceAdd, Nat.reduceMul, Nat.reduceLeDiff, Nat.reduceLT, reduceCtorEq, TFWiW, FR]; first | done | rfl) (by simp only [hget, ↓reduceIte, if_true, if_false, FR]; first | done | rfl) ?_ <;> first | exact rfl | (simp only [ZK, look, loadv, loadn, loadnm, load1, load1m, hget, ↓reduceIte, Nat.reduceEqDiff, Nat.reduceAdd, Nat.reduceMul, Nat.reduceLeDiff, Nat.reduceLT, reduceCtorEq, TFWiW, FR]; done) | skip)
theorem cF_bd {zs q : List Int} {m : Int} {n : Nat} (hb : By zs) (h : cF m zs = some (n, q)) : (n : Int) ≤ m ∧ n < 18446744073709551616 ∧ By q ∧ q.length < zs.length ∧ q = zs.drop (zs.length - q.length) := by
  unfold cF at h
  cases hg : nF zs with
  | none => rw [hg] at h; cases h
  | some p =>
    obtain ⟨n', q'⟩ := p
    rw [hg] at h
    simp only at h
    split at h
    · cases h
    · cases h
      obtain ⟨a, b, c, d⟩ := nF_bd hb hg
      exact ⟨by omega, a, b, c, d⟩
set_option maxRecDepth 8000 in
set_option maxHeartbeats 1000000 in
theorem textX (b : Nat) (zs : List Int) (m : Int) (hb : By zs) (hz : zs.length ≤ 100000) (h1 : -9223372036854775808 ≤ m) (h2 : m ≤ 9223372036854775807) :
    ACt Tryd.prog 87 [pt b 0, iv .i64 m] [(b, rd zs false)] (fun r F' => r = oE eS (fun l => .lit (.string (bstr l))) (tF m zs) ∧ F' = [(b, rO (tF m zs))]) := by
  have c1 := countX b zs m hb hz h1 h2
  have w0 : IntKind.u64.wrap 0 = ((0 : Nat) : Int) := by decide
  unfold tF
  cases hg : cF m zs with
  | none =>
    rw [hg] at c1
    have c2 : ACt Tryd.prog 61 [pt b 0, iv .i64 m] [(b, rd zs false)] (fun r F' => r = iv .i64 0 ∧ F' = [(b, rdN)]) := c1
    show ACt Tryd.prog 87 [pt b 0, iv .i64 m] [(b, rd zs false)] (fun r F' => r = eS ∧ F' = [(b, rdN)])
    refine ACt.intro Tryd.func87 rfl (by kernel_rfl) (by simp [Tryd.ntmps87]) (fun cx => ?_)
    simp only [argE, Tryd.ntmps87, Tryd.results87]
    first | (have FRx := FR; clear FRx) | have FR := fr0
    have FA := Sm.mk (And.intro TFWiW w0)
    repeat' first | (apply Sm.mk; refine Ysn ?_) | refine WP.seq fun K hK => ?_ | (apply Ob.mk; exact Yo) | refine And.intro (Ob.out ?_) ?_ | refine Y1WiW ?_ | refine Yun (c := c2) (r := ?_) | refine Yun (c := takeN b 0) (r := ?_) | refine YzWiW ?_ | (refine WP.cond rfl (fun hc => ?_) (fun hc => ?_) <;> (try simp only [ZC, reduceCtorEq, ZD] at hc) <;> (try exact absurd hc (by decide)) <;> (try (exfalso; omega))) | refine Rt.mk (And.intro (fun hg => Sm.out ?_) fun hg => Sm.out ?_) | (refine Nu.mk ?_; first | (fail_if_success have := nb1); intro nb1 | (fail_if_success have := nb2); intro nb2 | intro nbz) | (refine Fr.mk ?_; intro hfr; replace FR := And.intro hfr FR; clear hfr; refine Sm.out ?_) | refine Two.mk ?_ ?_ | (apply Yxc; exact Yx) | refine Cs.mk fun hcs => Sm.out ?_ | go_step | omega | (simp only [maxLen_eq]; omega) | exact trivial | refine Or.inr (Rt.mk (And.intro (fun hg => Sm.out ?_) fun hg => Sm.out ?_))
    (refine OutQ.upd (by simp only [resv, ZK, look, loadv, loadn, loadnm, load1, load1m, hget, ↓reduceIte, Nat.reduceEqDiff, Nat.reduceAdd, Nat.reduceMul, Nat.reduceLeDiff, Nat.reduceLT, reduceCtorEq, TFWiW, FR]) (by simp only [resv, resA, ZK, look, loadv, loadn, loadnm, load1, load1m, hget, ↓reduceIte, Nat.reduceEqDiff, Nat.reduceAdd, Nat.reduceMul, Nat.reduceLeDiff, Nat.reduceLT, reduceCtorEq, TFWiW, FR]; first | done | rfl) (by simp only [hget, ↓reduceIte, if_true, if_false, FR]; first | done | rfl) ?_ <;> first | exact rfl | (simp only [ZK, look, loadv, loadn, loadnm, load1, load1m, hget, ↓reduceIte, Nat.reduceEqDiff, Nat.reduceAdd, Nat.reduceMul, Nat.reduceLeDiff, Nat.reduceLT, reduceCtorEq, TFWiW, FR]; done) | skip)
  | some p =>
    obtain ⟨n, q⟩ := p
    rw [hg] at c1
    obtain ⟨hm, hn, _, hq, _⟩ := cF_bd hb hg
    have c2 : ACt Tryd.prog 61 [pt b 0, iv .i64 m] [(b, rd zs false)] (fun r F' => r = iv .i64 (n : Int) ∧ F' = [(b, rd q false)]) := c1
    have w1 : IntKind.u64.wrap (n : Int) = (n : Int) := wrap_u64_nat (by omega)
    simp only
    by_cases h : q.length < n
    · rw [if_pos h]
      have c3 := takeL b q n h (by omega)
      show ACt Tryd.prog 87 [pt b 0, iv .i64 m] [(b, rd zs false)] (fun r F' => r = eS ∧ F' = [(b, rdN)])
      refine ACt.intro Tryd.func87 rfl (by kernel_rfl) (by simp [Tryd.ntmps87]) (fun cx => ?_)
      simp only [argE, Tryd.ntmps87, Tryd.results87]
      first | (have FRx := FR; clear FRx) | have FR := fr0
      have FA := Sm.mk (And.intro TFWiW w1)
      repeat' first | (apply Sm.mk; refine Ysn ?_) | refine WP.seq fun K hK => ?_ | (apply Ob.mk; exact Yo) | refine And.intro (Ob.out ?_) ?_ | refine Y1WiW ?_ | refine Yun (c := c2) (r := ?_) | refine Yun (c := c3) (r := ?_) | refine YzWiW ?_ | (refine WP.cond rfl (fun hc => ?_) (fun hc => ?_) <;> (try simp only [ZC, reduceCtorEq, ZD] at hc) <;> (try exact absurd hc (by decide)) <;> (try (exfalso; omega))) | refine Rt.mk (And.intro (fun hg => Sm.out ?_) fun hg => Sm.out ?_) | (refine Nu.mk ?_; first | (fail_if_success have := nb1); intro nb1 | (fail_if_success have := nb2); intro nb2 | intro nbz) | (refine Fr.mk ?_; intro hfr; replace FR := And.intro hfr FR; clear hfr; refine Sm.out ?_) | refine Two.mk ?_ ?_ | (apply Yxc; exact Yx) | refine Cs.mk fun hcs => Sm.out ?_ | go_step | omega | (simp only [maxLen_eq]; omega) | exact trivial | refine Or.inr (Rt.mk (And.intro (fun hg => Sm.out ?_) fun hg => Sm.out ?_))
      (refine OutQ.upd (by simp only [resv, ZK, look, loadv, loadn, loadnm, load1, load1m, hget, ↓reduceIte, Nat.reduceEqDiff, Nat.reduceAdd, Nat.reduceMul, Nat.reduceLeDiff, Nat.reduceLT, reduceCtorEq, TFWiW, FR]) (by simp only [resv, resA, ZK, look, loadv, loadn, loadnm, load1, load1m, hget, ↓reduceIte, Nat.reduceEqDiff, Nat.reduceAdd, Nat.reduceMul, Nat.reduceLeDiff, Nat.reduceLT, reduceCtorEq, TFWiW, FR]; first | done | rfl) (by simp only [hget, ↓reduceIte, if_true, if_false, FR]; first | done | rfl) ?_ <;> first | exact rfl | (simp only [ZK, look, loadv, loadn, loadnm, load1, load1m, hget, ↓reduceIte, Nat.reduceEqDiff, Nat.reduceAdd, Nat.reduceMul, Nat.reduceLeDiff, Nat.reduceLT, reduceCtorEq, TFWiW, FR]; done) | skip)
    · rw [if_neg h]
      have c3 := takeR b q n (by omega) (by omega)
      obtain ⟨L, hL⟩ : ∃ L, L = q.take n := ⟨_, rfl⟩
      obtain ⟨R, hR⟩ : ∃ R, R = q.drop n := ⟨_, rfl⟩
      rw [← hL, ← hR] at c3 ⊢
      show ACt Tryd.prog 87 [pt b 0, iv .i64 m] [(b, rd zs false)] (fun r F' => r = .lit (.string (bstr L)) ∧ F' = [(b, rd R false)])
      refine ACt.intro Tryd.func87 rfl (by kernel_rfl) (by simp [Tryd.ntmps87]) (fun cx => ?_)
      simp only [argE, Tryd.ntmps87, Tryd.results87]
      first | (have FRx := FR; clear FRx) | have FR := fr0
      have FA := Sm.mk (And.intro TFWiW w1)
      repeat' first | (apply Sm.mk; refine Ysn ?_) | refine WP.seq fun K hK => ?_ | (apply Ob.mk; exact Yo) | refine And.intro (Ob.out ?_) ?_ | refine Y1WiW ?_ | refine Yun (c := c2) (r := ?_) | refine Yun (c := c3) (r := ?_) | refine YzWiW ?_ | (refine WP.cond rfl (fun hc => ?_) (fun hc => ?_) <;> (try simp only [ZC, reduceCtorEq, ZD] at hc) <;> (try exact absurd hc (by decide)) <;> (try (exfalso; omega))) | refine Rt.mk (And.intro (fun hg => Sm.out ?_) fun hg => Sm.out ?_) | (refine Nu.mk ?_; first | (fail_if_success have := nb1); intro nb1 | (fail_if_success have := nb2); intro nb2 | intro nbz) | (refine Fr.mk ?_; intro hfr; replace FR := And.intro hfr FR; clear hfr; refine Sm.out ?_) | refine Two.mk ?_ ?_ | (apply Yxc; exact Yx) | refine Cs.mk fun hcs => Sm.out ?_ | go_step | omega | (simp only [maxLen_eq]; omega) | exact trivial | refine Or.inr (Rt.mk (And.intro (fun hg => Sm.out ?_) fun hg => Sm.out ?_))
      (refine OutQ.upd (by simp only [resv, ZK, look, loadv, loadn, loadnm, load1, load1m, hget, ↓reduceIte, Nat.reduceEqDiff, Nat.reduceAdd, Nat.reduceMul, Nat.reduceLeDiff, Nat.reduceLT, reduceCtorEq, TFWiW, FR]) (by simp only [resv, resA, ZK, look, loadv, loadn, loadnm, load1, load1m, hget, ↓reduceIte, Nat.reduceEqDiff, Nat.reduceAdd, Nat.reduceMul, Nat.reduceLeDiff, Nat.reduceLT, reduceCtorEq, TFWiW, FR]; first | done | rfl) (by simp only [hget, ↓reduceIte, if_true, if_false, FR]; first | done | rfl) ?_ <;> first | exact rfl | (simp only [ZK, look, loadv, loadn, loadnm, load1, load1m, hget, ↓reduceIte, Nat.reduceEqDiff, Nat.reduceAdd, Nat.reduceMul, Nat.reduceLeDiff, Nat.reduceLT, reduceCtorEq, TFWiW, FR]; done) | skip)
set_option maxRecDepth 8000 in
theorem flagN (b : Nat) : ACt Tryd.prog 64 [pt b 0] [(b, rdN)] (fun r F' => r = bv false ∧ F' = [(b, rdN)]) := by
  refine ACt.intro Tryd.func64 rfl (by kernel_rfl) (by simp [Tryd.ntmps64]) (fun cx => ?_)
  simp only [argE, Tryd.ntmps64, Tryd.results64]
  first | (have FRx := FR; clear FRx) | have FR := fr0
  have FA := Sm.mk (TFWiW)
  repeat' first | (apply Sm.mk; refine Ysn ?_) | refine WP.seq fun K hK => ?_ | (apply Ob.mk; exact Yo) | refine And.intro (Ob.out ?_) ?_ | refine Y1WiW ?_ | refine Yun (c := takeN b 1) (r := ?_) | refine Yun (c := fail_e b true) (r := ?_) | refine YzWiW ?_ | (refine WP.cond rfl (fun hc => ?_) (fun hc => ?_) <;> (try simp only [ZC, reduceCtorEq, ZD] at hc) <;> (try exact absurd hc (by decide)) <;> (try (exfalso; omega))) | refine Rt.mk (And.intro (fun hg => Sm.out ?_) fun hg => Sm.out ?_) | (refine Nu.mk ?_; first | (fail_if_success have := nb1); intro nb1 | (fail_if_success have := nb2); intro nb2 | intro nbz) | (refine Fr.mk ?_; intro hfr; replace FR := And.intro hfr FR; clear hfr; refine Sm.out ?_) | refine Two.mk ?_ ?_ | (apply Yxc; exact Yx) | refine Cs.mk fun hcs => Sm.out ?_ | go_step | omega | (simp only [maxLen_eq]; omega) | exact trivial | refine Or.inr (Rt.mk (And.intro (fun hg => Sm.out ?_) fun hg => Sm.out ?_))
  (refine OutQ.upd (by simp only [resv, ZK, look, loadv, loadn, loadnm, load1, load1m, hget, ↓reduceIte, Nat.reduceEqDiff, Nat.reduceAdd, Nat.reduceMul, Nat.reduceLeDiff, Nat.reduceLT, reduceCtorEq, TFWiW, FR]) (by simp only [resv, resA, ZK, look, loadv, loadn, loadnm, load1, load1m, hget, ↓reduceIte, Nat.reduceEqDiff, Nat.reduceAdd, Nat.reduceMul, Nat.reduceLeDiff, Nat.reduceLT, reduceCtorEq, TFWiW, FR]; first | done | rfl) (by simp only [hget, ↓reduceIte, if_true, if_false, FR]; first | done | rfl) ?_ <;> first | exact rfl | (simp only [ZK, look, loadv, loadn, loadnm, load1, load1m, hget, ↓reduceIte, Nat.reduceEqDiff, Nat.reduceAdd, Nat.reduceMul, Nat.reduceLeDiff, Nat.reduceLT, reduceCtorEq, TFWiW, FR]; done) | skip)
set_option maxRecDepth 8000 in
theorem flagX (b : Nat) (zs : List Int) (hz : zs.length ≤ 100000) : ACt Tryd.prog 64 [pt b 0] [(b, rd zs false)] (fun r F' => r = oE (bv false) bv (fF zs) ∧ F' = [(b, rO (fF zs))]) := by
  cases zs with
  | nil =>
    have c1 := takeL b [] 1 (by simp) (by simp)
    show ACt Tryd.prog 64 [pt b 0] [(b, rd [] false)] (fun r F' => r = bv false ∧ F' = [(b, rdN)])
    refine ACt.intro Tryd.func64 rfl (by kernel_rfl) (by simp [Tryd.ntmps64]) (fun cx => ?_)
    simp only [argE, Tryd.ntmps64, Tryd.results64]
    first | (have FRx := FR; clear FRx) | have FR := fr0
    have FA := Sm.mk (TFWiW)
    repeat' first | (apply Sm.mk; refine Ysn ?_) | refine WP.seq fun K hK => ?_ | (apply Ob.mk; exact Yo) | refine And.intro (Ob.out ?_) ?_ | refine Y1WiW ?_ | refine Yun (c := c1) (r := ?_) | refine Yun (c := fail_e b true) (r := ?_) | refine YzWiW ?_ | (refine WP.cond rfl (fun hc => ?_) (fun hc => ?_) <;> (try simp only [ZC, reduceCtorEq, ZD] at hc) <;> (try exact absurd hc (by decide)) <;> (try (exfalso; omega))) | refine Rt.mk (And.intro (fun hg => Sm.out ?_) fun hg => Sm.out ?_) | (refine Nu.mk ?_; first | (fail_if_success have := nb1); intro nb1 | (fail_if_success have := nb2); intro nb2 | intro nbz) | (refine Fr.mk ?_; intro hfr; replace FR := And.intro hfr FR; clear hfr; refine Sm.out ?_) | refine Two.mk ?_ ?_ | (apply Yxc; exact Yx) | refine Cs.mk fun hcs => Sm.out ?_ | go_step | omega | (simp only [maxLen_eq]; omega) | exact trivial | refine Or.inr (Rt.mk (And.intro (fun hg => Sm.out ?_) fun hg => Sm.out ?_))
    (refine OutQ.upd (by simp only [resv, ZK, look, loadv, loadn, loadnm, load1, load1m, hget, ↓reduceIte, Nat.reduceEqDiff, Nat.reduceAdd, Nat.reduceMul, Nat.reduceLeDiff, Nat.reduceLT, reduceCtorEq, TFWiW, FR]) (by simp only [resv, resA, ZK, look, loadv, loadn, loadnm, load1, load1m, hget, ↓reduceIte, Nat.reduceEqDiff, Nat.reduceAdd, Nat.reduceMul, Nat.reduceLeDiff, Nat.reduceLT, reduceCtorEq, TFWiW, FR]; first | done | rfl) (by simp only [hget, ↓reduceIte, if_true, if_false, FR]; first | done | rfl) ?_ <;> first | exact rfl | (simp only [ZK, look, loadv, loadn, loadnm, load1, load1m, hget, ↓reduceIte, Nat.reduceEqDiff, Nat.reduceAdd, Nat.reduceMul, Nat.reduceLeDiff, Nat.reduceLT, reduceCtorEq, TFWiW, FR]; done) | skip)
  | cons h t =>
    have c1 := takeR b (h :: t) 1 (by simp) (by simp at hz ⊢; omega)
    rw [show (h :: t).take 1 = [h] by simp, show (h :: t).drop 1 = t by simp] at c1
    have hF : fF (h :: t) = if 1 < h then none else some (h == 1, t) := rfl
    rw [hF]
    obtain ⟨Z, hZ⟩ : ∃ Z, Z = h :: t := ⟨_, rfl⟩
    rw [← hZ] at c1 ⊢
    by_cases h1 : 1 < h
    · rw [if_pos h1]
      have d : decide (h > 1) = true := decide_eq_true h1
      show ACt Tryd.prog 64 [pt b 0] [(b, rd Z false)] (fun r F' => r = bv false ∧ F' = [(b, rdN)])
      refine ACt.intro Tryd.func64 rfl (by kernel_rfl) (by simp [Tryd.ntmps64]) (fun cx => ?_)
      simp only [argE, Tryd.ntmps64, Tryd.results64]
      first | (have FRx := FR; clear FRx) | have FR := fr0
      have FA := Sm.mk (And.intro TFWiW d)
      repeat' first | (apply Sm.mk; refine YsWiW0 ?_) | refine WP.seq fun K hK => ?_ | (apply Ob.mk; exact Yo) | refine And.intro (Ob.out ?_) ?_ | refine Y1WiW ?_ | (refine CallV.upd (by simp only [hget, ↓reduceIte, FR, d, List.getD_cons_zero]; first | done | rfl) (c1) (Sm.out ?_)) | (refine CallV.upd (by simp only [hget, ↓reduceIte, FR, d, List.getD_cons_zero]; first | done | rfl) (failR b t) (Sm.out ?_)) | refine YzWiW ?_ | (refine WP.cond rfl (fun hc => ?_) (fun hc => ?_) <;> (try simp only [ZC, reduceCtorEq, ZD] at hc) <;> (try exact absurd hc (by decide)) <;> (try (exfalso; omega))) | refine Rt.mk (And.intro (fun hg => Sm.out ?_) fun hg => Sm.out ?_) | (refine Nu.mk ?_; first | (fail_if_success have := nb1); intro nb1 | (fail_if_success have := nb2); intro nb2 | intro nbz) | (refine Fr.mk ?_; intro hfr; replace FR := And.intro hfr FR; clear hfr; refine Sm.out ?_) | refine Two.mk ?_ ?_ | (apply Yxc; exact Yx) | refine Cs.mk fun hcs => Sm.out ?_ | go_step | omega | (simp only [maxLen_eq]; omega) | exact trivial | refine Or.inr (Rt.mk (And.intro (fun hg => Sm.out ?_) fun hg => Sm.out ?_))
      (refine OutQ.upd (by simp only [resv, ZK, look, loadv, loadn, loadnm, load1, load1m, hget, ↓reduceIte, Nat.reduceEqDiff, Nat.reduceAdd, Nat.reduceMul, Nat.reduceLeDiff, Nat.reduceLT, reduceCtorEq, TFWiW, FR]) (by simp only [resv, resA, ZK, look, loadv, loadn, loadnm, load1, load1m, hget, ↓reduceIte, Nat.reduceEqDiff, Nat.reduceAdd, Nat.reduceMul, Nat.reduceLeDiff, Nat.reduceLT, reduceCtorEq, TFWiW, FR]; first | done | rfl) (by simp only [hget, ↓reduceIte, if_true, if_false, FR]; first | done | rfl) ?_ <;> first | exact rfl | (simp only [ZK, look, loadv, loadn, loadnm, load1, load1m, hget, ↓reduceIte, Nat.reduceEqDiff, Nat.reduceAdd, Nat.reduceMul, Nat.reduceLeDiff, Nat.reduceLT, reduceCtorEq, TFWiW, FR]; done) | skip)
    · rw [if_neg h1]
      have d : decide (h > 1) = false := decide_eq_false h1
      obtain ⟨e, he⟩ : ∃ e, e = (h == 1) := ⟨_, rfl⟩
      have he' : (h == 1) = e := he.symm
      rw [he']
      show ACt Tryd.prog 64 [pt b 0] [(b, rd Z false)] (fun r F' => r = bv e ∧ F' = [(b, rd t false)])
      refine ACt.intro Tryd.func64 rfl (by kernel_rfl) (by simp [Tryd.ntmps64]) (fun cx => ?_)
      simp only [argE, Tryd.ntmps64, Tryd.results64]
      first | (have FRx := FR; clear FRx) | have FR := fr0
      have FA := Sm.mk (And.intro TFWiW (And.intro d he'))
      repeat' first | (apply Sm.mk; refine YsWiW0 ?_) | refine WP.seq fun K hK => ?_ | (apply Ob.mk; exact Yo) | refine And.intro (Ob.out ?_) ?_ | refine Y1WiW ?_ | (refine CallV.upd (by simp only [hget, ↓reduceIte, FR, d, he', List.getD_cons_zero]; first | done | rfl) (c1) (Sm.out ?_)) | refine YzWiW ?_ | (refine WP.cond rfl (fun hc => ?_) (fun hc => ?_) <;> (try simp only [ZC, reduceCtorEq, ZD] at hc) <;> (try exact absurd hc (by decide)) <;> (try (exfalso; omega))) | refine Rt.mk (And.intro (fun hg => Sm.out ?_) fun hg => Sm.out ?_) | (refine Nu.mk ?_; first | (fail_if_success have := nb1); intro nb1 | (fail_if_success have := nb2); intro nb2 | intro nbz) | (refine Fr.mk ?_; intro hfr; replace FR := And.intro hfr FR; clear hfr; refine Sm.out ?_) | refine Two.mk ?_ ?_ | (apply Yxc; exact Yx) | refine Cs.mk fun hcs => Sm.out ?_ | go_step | omega | (simp only [maxLen_eq]; omega) | exact trivial | refine Or.inr (Rt.mk (And.intro (fun hg => Sm.out ?_) fun hg => Sm.out ?_))
      (refine OutQ.upd (by simp only [resv, ZK, look, loadv, loadn, loadnm, load1, load1m, hget, ↓reduceIte, Nat.reduceEqDiff, Nat.reduceAdd, Nat.reduceMul, Nat.reduceLeDiff, Nat.reduceLT, reduceCtorEq, TFWiW, FR]) (by simp only [resv, resA, ZK, look, loadv, loadn, loadnm, load1, load1m, hget, ↓reduceIte, Nat.reduceEqDiff, Nat.reduceAdd, Nat.reduceMul, Nat.reduceLeDiff, Nat.reduceLT, reduceCtorEq, TFWiW, FR]; first | done | rfl) (by simp only [hget, ↓reduceIte, if_true, if_false, FR]; first | done | rfl) ?_ <;> first | exact rfl | (simp only [ZK, look, loadv, loadn, loadnm, load1, load1m, hget, ↓reduceIte, Nat.reduceEqDiff, Nat.reduceAdd, Nat.reduceMul, Nat.reduceLeDiff, Nat.reduceLT, reduceCtorEq, TFWiW, FR]; done) | skip)
end Go.Proofs.YtfknbndmabogjaaDoor.Wi
