/-
  The walks and the laws that the statement leans on, part 41.
-/
import Derived.Test.YtaffbklkjjmmdaaDoorB10
import Derived.Test.YtaffbklkjjmmdaaDoorB40
namespace Go.Proofs.YtaffbklkjjmmdaaDoor
open Go Wi
set_option linter.unusedVariables false
set_option linter.unusedSimpArgs false
set_option linter.defProp false
def TFCoF :=
  And.intro (And.intro (And.intro (And.intro (And.intro tyc0 tyc2) (And.intro zmb2 tyc3)) (And.intro (And.intro zmb3 tyc4) (And.intro zmb4 (And.intro tyc9 zmb9)))) (And.intro (And.intro (And.intro tyc32 foff32_0) (And.intro fpart32_0 foff32_1)) (And.intro (And.intro fpart32_1 foff32_2) (And.intro fpart32_2 (And.intro foff32_3 fpart32_3))))) (And.intro (And.intro (And.intro (And.intro foff32_4 fpart32_4) (And.intro fe32 zmb32)) (And.intro (And.intro bldT32 tyc49) (And.intro mth49_73 (And.intro mth49_72 mth49_71)))) (And.intro (And.intro (And.intro con49 zmb49) (And.intro Tryd.underlying0 Tryd.underlying2)) (And.intro (And.intro Tryd.underlying3 Tryd.underlying4) (And.intro Tryd.underlying9 (And.intro Tryd.underlying32 Tryd.underlying49)))))
theorem Y1CoF {G R : Prop} (r : R) (h : R → G := by intro r; first | (apply WP.region; exact rvc_sound _ _ (Sm.out r)) | exact WP.drawK rfl mixed (by decide +kernel) (Sm.out r) | (apply WP.block; exact r) | (apply WP.skip; exact Yq r) | (apply WP.exit; exact Yq r) | (apply WP.ret; exact Sm.out r) | exact WP.cond rfl (fun _ => r) (fun hg => absurd hg (by decide)) | exact WP.cond rfl (fun hg => absurd hg (by decide)) (fun _ => r) | exact Rt.mk (And.intro (fun _ => Sm.out r) fun hg => absurd hg (by decide)) | exact Rt.mk (And.intro (fun hg => absurd hg (by decide)) fun _ => Sm.out r)) : G := h r
theorem YzCoF {G R : Prop} (r : R) (h : R → G := by intro r; first | (apply ExG.no; exact Sm.out r) | (apply Or.inl; apply ExG.no; exact Sm.out r) | exact Or.inl (And.intro (fun hg => absurd hg (by decide)) (ExG.no (Sm.out r)))) : G := h r
set_option maxRecDepth 8000 in
set_option maxHeartbeats 2000000 in
theorem sget_st (b n0 n1 : Nat) (FZ AZ : List Int) (o0 o1 o2 o3 o4 o5 : Option (List Int)) (nm gl : ByteArray) (w f t : Int) (R : Bool)
    (c1 : ACt Tryd.prog 50 [pt b 0, iv .i64 160] [(b, stM o0)] (fun x F => x = .lit (.string nm) ∧ F = [(b, stM o1)]))
    (c2 : ACt Tryd.prog 50 [pt b 0, iv .i64 160] [(b, stM o1)] (fun x F => x = .lit (.string gl) ∧ F = [(b, stM o2)]))
    (c3 : ACt Tryd.prog 51 [pt b 0] [(b, stM o2)] (fun x F => x = iv .i64 w ∧ F = [(b, stM o3)]))
    (c4 : ACt Tryd.prog 51 [pt b 0] [(b, stM o3)] (fun x F => x = iv .i64 f ∧ F = [(b, stM o4)]))
    (c5 : ACt Tryd.prog 51 [pt b 0] [(b, stM o4)] (fun x F => x = iv .i64 t ∧ F = [(b, stM o5)]))
    (cR : ACt Tryd.prog 9 [siv ⟨nm, gl, w, f, t⟩] [(0, .ro .u8 FZ 256 n0), (1, .ro .u8 AZ 32 n1)] (fun x F => x = bv R ∧ F = [(0, .ro .u8 FZ 256 n0), (1, .ro .u8 AZ 32 n1)])) (h5 : okS o5) :
    ACt Tryd.prog 26 [pt b 0] [(b, stM o0), (0, .ro .u8 FZ 256 n0), (1, .ro .u8 AZ 32 n1)] (fun x F => x = siv (if o5.isSome && R then ⟨nm, gl, w, f, t⟩ else s0) ∧ F = [(b, stM (if o5.isSome && R then o5 else none)), (0, .ro .u8 FZ 256 n0), (1, .ro .u8 AZ 32 n1)]) := by
  have cB := badS b o5
  have cS := spoilS b o5 h5
  obtain ⟨M0, hM0⟩ : ∃ M, M = stM o0 := ⟨_, rfl⟩
  rw [← hM0] at c1 ⊢
  obtain ⟨M1, hM1⟩ : ∃ M, M = stM o1 := ⟨_, rfl⟩
  rw [← hM1] at c1 c2
  obtain ⟨M2, hM2⟩ : ∃ M, M = stM o2 := ⟨_, rfl⟩
  rw [← hM2] at c2 c3
  obtain ⟨M3, hM3⟩ : ∃ M, M = stM o3 := ⟨_, rfl⟩
  rw [← hM3] at c3 c4
  obtain ⟨M4, hM4⟩ : ∃ M, M = stM o4 := ⟨_, rfl⟩
  rw [← hM4] at c4 c5
  obtain ⟨M5, hM5⟩ : ∃ M, M = stM o5 := ⟨_, rfl⟩
  rw [← hM5] at c5 cB cS
  cases R with
  | false =>
    rw [Bool.and_false]
    have y1 : (if false = true then (⟨nm, gl, w, f, t⟩ : Sl) else s0) = s0 := rfl
    have y2 : (if false = true then o5 else none) = none := rfl
    rw [y1, y2]
    have y3 : stM none = rdN := rfl
    rw [y3]
    cases o5 with
    | none =>
      refine ACt.intro Tryd.func26 rfl (by kernel_rfl) (by simp [Tryd.ntmps26]) (fun cx => ?_)
      simp only [argE, Tryd.ntmps26, Tryd.results26]
      have cB : ACt Tryd.prog 29 [pt b 0] [(b, M5)] (fun r F' => r = bv true ∧ F' = [(b, M5)]) := cB
      have FR : Sm (¬ ((1 : Nat) = 0)) := Sm.mk Nat.one_ne_zero
      (refine WP.nd fun hnd => ?_; simp only [ndF, fresh_cons, fresh_nil, and_true, ne_eq] at hnd; replace FR := Sm.mk (And.intro hnd FR.out); clear hnd)
      first | (have FRx := FR; clear FRx) | have FR := fr0S
      have FA := Sm.mk (TFCoF)
      repeat' first | (apply Sm.mk; refine Ys ?_) | refine WP.seq fun K hK => ?_ | (apply Ob.mk; exact Yo) | refine And.intro (Ob.out ?_) ?_ | refine Y1CoF ?_ | refine Yw1 (c := c1) (r := ?_) | refine Yw1 (c := c2) (r := ?_) | refine Yw1 (c := c3) (r := ?_) | refine Yw1 (c := c4) (r := ?_) | refine Yw1 (c := c5) (r := ?_) | refine Yl1 (c := cB) (r := ?_) | refine Yl2 (c := cR) (r := ?_) | refine Yw1 (c := cS) (r := ?_) | refine YzCoF ?_ | (refine WP.cond rfl (fun hc => ?_) (fun hc => ?_) <;> (try simp only [ZC, reduceCtorEq, ZD] at hc) <;> (try exact absurd hc (by decide)) <;> (try (exfalso; omega))) | refine Rt.mk (And.intro (fun hg => Sm.out ?_) fun hg => Sm.out ?_) | (refine Nu.mk ?_; first | (fail_if_success have := nb1); intro nb1 | (fail_if_success have := nb2); intro nb2 | (fail_if_success have := nb3); intro nb3 | (fail_if_success have := nb4); intro nb4 | intro nbz) | (apply Yfr; refine Yf FR fun hFRb FR => ?_) | refine Two.mk ?_ ?_ | (apply Yxc; exact Yx) | refine Cs.mk fun hcs => Sm.out ?_ | go_step | omega | (simp only [maxLen_eq]; omega) | exact trivial
      (refine OutQ.drop _ _ (perm3 (by simp only [hget, hdel, ↓reduceIte, if_true, if_false, FR.out]; first | done | rfl) (by simp only [hget, hdel, ↓reduceIte, if_true, if_false, FR.out]; first | done | rfl) (by simp only [hget, hdel, ↓reduceIte, if_true, if_false, FR.out]; first | done | rfl)) (by simp only [resv, ZK, look, loadv, loadn, loadnm, load1, load1m, hget, ↓reduceIte, Nat.reduceEqDiff, Nat.reduceAdd, Nat.reduceMul, Nat.reduceLeDiff, Nat.reduceLT, reduceCtorEq, TFCoF, FR.out]) ⟨(by simp only [resv, resA, ZK, look, loadv, loadn, loadnm, load1, load1m, hget, ↓reduceIte, Nat.reduceEqDiff, Nat.reduceAdd, Nat.reduceMul, Nat.reduceLeDiff, Nat.reduceLT, reduceCtorEq, TFCoF, FR.out]; first | done | rfl), rfl⟩)
    | some zs =>
      refine ACt.intro Tryd.func26 rfl (by kernel_rfl) (by simp [Tryd.ntmps26]) (fun cx => ?_)
      simp only [argE, Tryd.ntmps26, Tryd.results26]
      have cB : ACt Tryd.prog 29 [pt b 0] [(b, M5)] (fun r F' => r = bv false ∧ F' = [(b, M5)]) := cB
      have FR : Sm (¬ ((1 : Nat) = 0)) := Sm.mk Nat.one_ne_zero
      (refine WP.nd fun hnd => ?_; simp only [ndF, fresh_cons, fresh_nil, and_true, ne_eq] at hnd; replace FR := Sm.mk (And.intro hnd FR.out); clear hnd)
      first | (have FRx := FR; clear FRx) | have FR := fr0S
      have FA := Sm.mk (TFCoF)
      repeat' first | (apply Sm.mk; refine Ys ?_) | refine WP.seq fun K hK => ?_ | (apply Ob.mk; exact Yo) | refine And.intro (Ob.out ?_) ?_ | refine Y1CoF ?_ | refine Yw1 (c := c1) (r := ?_) | refine Yw1 (c := c2) (r := ?_) | refine Yw1 (c := c3) (r := ?_) | refine Yw1 (c := c4) (r := ?_) | refine Yw1 (c := c5) (r := ?_) | refine Yl1 (c := cB) (r := ?_) | refine Yl2 (c := cR) (r := ?_) | refine Yw1 (c := cS) (r := ?_) | refine YzCoF ?_ | (refine WP.cond rfl (fun hc => ?_) (fun hc => ?_) <;> (try simp only [ZC, reduceCtorEq, ZD] at hc) <;> (try exact absurd hc (by decide)) <;> (try (exfalso; omega))) | refine Rt.mk (And.intro (fun hg => Sm.out ?_) fun hg => Sm.out ?_) | (refine Nu.mk ?_; first | (fail_if_success have := nb1); intro nb1 | (fail_if_success have := nb2); intro nb2 | (fail_if_success have := nb3); intro nb3 | (fail_if_success have := nb4); intro nb4 | intro nbz) | (apply Yfr; refine Yf FR fun hFRb FR => ?_) | refine Two.mk ?_ ?_ | (apply Yxc; exact Yx) | refine Cs.mk fun hcs => Sm.out ?_ | go_step | omega | (simp only [maxLen_eq]; omega) | exact trivial
      (refine OutQ.drop _ _ (perm3 (by simp only [hget, hdel, ↓reduceIte, if_true, if_false, FR.out]; first | done | rfl) (by simp only [hget, hdel, ↓reduceIte, if_true, if_false, FR.out]; first | done | rfl) (by simp only [hget, hdel, ↓reduceIte, if_true, if_false, FR.out]; first | done | rfl)) (by simp only [resv, ZK, look, loadv, loadn, loadnm, load1, load1m, hget, ↓reduceIte, Nat.reduceEqDiff, Nat.reduceAdd, Nat.reduceMul, Nat.reduceLeDiff, Nat.reduceLT, reduceCtorEq, TFCoF, FR.out]) ⟨(by simp only [resv, resA, ZK, look, loadv, loadn, loadnm, load1, load1m, hget, ↓reduceIte, Nat.reduceEqDiff, Nat.reduceAdd, Nat.reduceMul, Nat.reduceLeDiff, Nat.reduceLT, reduceCtorEq, TFCoF, FR.out]; first | done | rfl), rfl⟩)
  | true =>
    rw [Bool.and_true]
    cases o5 with
    | none =>
      have y1 : (if (none : Option (List Int)).isSome = true then (⟨nm, gl, w, f, t⟩ : Sl) else s0) = s0 := rfl
      have y2 : (if (none : Option (List Int)).isSome = true then (none : Option (List Int)) else none) = none := rfl
      rw [y1, y2]
      have y3 : stM none = rdN := rfl
      rw [y3]
      refine ACt.intro Tryd.func26 rfl (by kernel_rfl) (by simp [Tryd.ntmps26]) (fun cx => ?_)
      simp only [argE, Tryd.ntmps26, Tryd.results26]
      have cB : ACt Tryd.prog 29 [pt b 0] [(b, M5)] (fun r F' => r = bv true ∧ F' = [(b, M5)]) := cB
      have FR : Sm (¬ ((1 : Nat) = 0)) := Sm.mk Nat.one_ne_zero
      (refine WP.nd fun hnd => ?_; simp only [ndF, fresh_cons, fresh_nil, and_true, ne_eq] at hnd; replace FR := Sm.mk (And.intro hnd FR.out); clear hnd)
      first | (have FRx := FR; clear FRx) | have FR := fr0S
      have FA := Sm.mk (TFCoF)
      repeat' first | (apply Sm.mk; refine Ys ?_) | refine WP.seq fun K hK => ?_ | (apply Ob.mk; exact Yo) | refine And.intro (Ob.out ?_) ?_ | refine Y1CoF ?_ | refine Yw1 (c := c1) (r := ?_) | refine Yw1 (c := c2) (r := ?_) | refine Yw1 (c := c3) (r := ?_) | refine Yw1 (c := c4) (r := ?_) | refine Yw1 (c := c5) (r := ?_) | refine Yl1 (c := cB) (r := ?_) | refine Yl2 (c := cR) (r := ?_) | refine Yw1 (c := cS) (r := ?_) | refine YzCoF ?_ | (refine WP.cond rfl (fun hc => ?_) (fun hc => ?_) <;> (try simp only [ZC, reduceCtorEq, ZD] at hc) <;> (try exact absurd hc (by decide)) <;> (try (exfalso; omega))) | refine Rt.mk (And.intro (fun hg => Sm.out ?_) fun hg => Sm.out ?_) | (refine Nu.mk ?_; first | (fail_if_success have := nb1); intro nb1 | (fail_if_success have := nb2); intro nb2 | (fail_if_success have := nb3); intro nb3 | (fail_if_success have := nb4); intro nb4 | intro nbz) | (apply Yfr; refine Yf FR fun hFRb FR => ?_) | refine Two.mk ?_ ?_ | (apply Yxc; exact Yx) | refine Cs.mk fun hcs => Sm.out ?_ | go_step | omega | (simp only [maxLen_eq]; omega) | exact trivial
      (refine OutQ.drop _ _ (perm3 (by simp only [hget, hdel, ↓reduceIte, if_true, if_false, FR.out]; first | done | rfl) (by simp only [hget, hdel, ↓reduceIte, if_true, if_false, FR.out]; first | done | rfl) (by simp only [hget, hdel, ↓reduceIte, if_true, if_false, FR.out]; first | done | rfl)) (by simp only [resv, ZK, look, loadv, loadn, loadnm, load1, load1m, hget, ↓reduceIte, Nat.reduceEqDiff, Nat.reduceAdd, Nat.reduceMul, Nat.reduceLeDiff, Nat.reduceLT, reduceCtorEq, TFCoF, FR.out]) ⟨(by simp only [resv, resA, ZK, look, loadv, loadn, loadnm, load1, load1m, hget, ↓reduceIte, Nat.reduceEqDiff, Nat.reduceAdd, Nat.reduceMul, Nat.reduceLeDiff, Nat.reduceLT, reduceCtorEq, TFCoF, FR.out]; first | done | rfl), rfl⟩)
    | some zs =>
      have y1 : (if (some zs).isSome = true then (⟨nm, gl, w, f, t⟩ : Sl) else s0) = ⟨nm, gl, w, f, t⟩ := rfl
      have y2 : (if (some zs).isSome = true then some zs else none) = some zs := rfl
      rw [y1, y2, ← hM5]
      refine ACt.intro Tryd.func26 rfl (by kernel_rfl) (by simp [Tryd.ntmps26]) (fun cx => ?_)
      simp only [argE, Tryd.ntmps26, Tryd.results26]
      have cB : ACt Tryd.prog 29 [pt b 0] [(b, M5)] (fun r F' => r = bv false ∧ F' = [(b, M5)]) := cB
      have FR : Sm (¬ ((1 : Nat) = 0)) := Sm.mk Nat.one_ne_zero
      (refine WP.nd fun hnd => ?_; simp only [ndF, fresh_cons, fresh_nil, and_true, ne_eq] at hnd; replace FR := Sm.mk (And.intro hnd FR.out); clear hnd)
      first | (have FRx := FR; clear FRx) | have FR := fr0S
      have FA := Sm.mk (TFCoF)
      repeat' first | (apply Sm.mk; refine Ys ?_) | refine WP.seq fun K hK => ?_ | (apply Ob.mk; exact Yo) | refine And.intro (Ob.out ?_) ?_ | refine Y1CoF ?_ | refine Yw1 (c := c1) (r := ?_) | refine Yw1 (c := c2) (r := ?_) | refine Yw1 (c := c3) (r := ?_) | refine Yw1 (c := c4) (r := ?_) | refine Yw1 (c := c5) (r := ?_) | refine Yl1 (c := cB) (r := ?_) | refine Yl2 (c := cR) (r := ?_) | refine Yw1 (c := cS) (r := ?_) | refine YzCoF ?_ | (refine WP.cond rfl (fun hc => ?_) (fun hc => ?_) <;> (try simp only [ZC, reduceCtorEq, ZD] at hc) <;> (try exact absurd hc (by decide)) <;> (try (exfalso; omega))) | refine Rt.mk (And.intro (fun hg => Sm.out ?_) fun hg => Sm.out ?_) | (refine Nu.mk ?_; first | (fail_if_success have := nb1); intro nb1 | (fail_if_success have := nb2); intro nb2 | (fail_if_success have := nb3); intro nb3 | (fail_if_success have := nb4); intro nb4 | intro nbz) | (apply Yfr; refine Yf FR fun hFRb FR => ?_) | refine Two.mk ?_ ?_ | (apply Yxc; exact Yx) | refine Cs.mk fun hcs => Sm.out ?_ | go_step | omega | (simp only [maxLen_eq]; omega) | exact trivial
      (refine OutQ.drop _ _ (perm3 (by simp only [hget, hdel, ↓reduceIte, if_true, if_false, FR.out]; first | done | rfl) (by simp only [hget, hdel, ↓reduceIte, if_true, if_false, FR.out]; first | done | rfl) (by simp only [hget, hdel, ↓reduceIte, if_true, if_false, FR.out]; first | done | rfl)) (by simp only [resv, ZK, look, loadv, loadn, loadnm, load1, load1m, hget, ↓reduceIte, Nat.reduceEqDiff, Nat.reduceAdd, Nat.reduceMul, Nat.reduceLeDiff, Nat.reduceLT, reduceCtorEq, TFCoF, FR.out]) ⟨(by simp only [resv, resA, ZK, look, loadv, loadn, loadnm, load1, load1m, hget, ↓reduceIte, Nat.reduceEqDiff, Nat.reduceAdd, Nat.reduceMul, Nat.reduceLeDiff, Nat.reduceLT, reduceCtorEq, TFCoF, FR.out]; first | done | rfl), rfl⟩)
noncomputable def sgS (o : Option (List Int)) : Sl × Option (List Int) :=
  if (iS (iS (iS (tS 160 (tS 160 o).2).2).2).2).2.isSome && srB ⟨bstr (tS 160 o).1, bstr (tS 160 (tS 160 o).2).1, (iS (tS 160 (tS 160 o).2).2).1, (iS (iS (tS 160 (tS 160 o).2).2).2).1, (iS (iS (iS (tS 160 (tS 160 o).2).2).2).2).1⟩ then (⟨bstr (tS 160 o).1, bstr (tS 160 (tS 160 o).2).1, (iS (tS 160 (tS 160 o).2).2).1, (iS (iS (tS 160 (tS 160 o).2).2).2).1, (iS (iS (iS (tS 160 (tS 160 o).2).2).2).2).1⟩, (iS (iS (iS (tS 160 (tS 160 o).2).2).2).2).2) else (s0, none)
theorem sget_ct (b n0 n1 : Nat) (o : Option (List Int)) (h : okS o) : ACt Tryd.prog 26 [pt b 0] [(b, stM o), (0, .ro .u8 fsZ 256 n0), (1, .ro .u8 acZ 32 n1)] (fun x F => x = siv (sgS o).1 ∧ F = [(b, stM (sgS o).2), (0, .ro .u8 fsZ 256 n0), (1, .ro .u8 acZ 32 n1)]) := by
  have h1 : okS (tS 160 o).2 := rS_ok (tF_sf 160) h
  have h2 : okS (tS 160 (tS 160 o).2).2 := rS_ok (tF_sf 160) h1
  have h3 : okS (iS (tS 160 (tS 160 o).2).2).2 := rS_ok iF_sf h2
  have h4 : okS (iS (iS (tS 160 (tS 160 o).2).2).2).2 := rS_ok iF_sf h3
  have h5 : okS (iS (iS (iS (tS 160 (tS 160 o).2).2).2).2).2 := rS_ok iF_sf h4
  have := sget_st b n0 n1 fsZ acZ o _ _ _ _ _ _ _ _ _ _ _ (textS b 160 (by omega) (by omega) o h) (textS b 160 (by omega) (by omega) _ h1) (intS b _ h2) (intS b _ h3) (intS b _ h4)
    (sright_ct ⟨bstr (tS 160 o).1, bstr (tS 160 (tS 160 o).2).1, (iS (tS 160 (tS 160 o).2).2).1, (iS (iS (tS 160 (tS 160 o).2).2).2).1, (iS (iS (iS (tS 160 (tS 160 o).2).2).2).2).1⟩ ⟨by have := tS_len 160 (by omega) o; simp only; omega, by have := tS_len 160 (by omega) (tS 160 o).2; simp only; omega⟩ n0 n1) h5
  refine this.mono ?_
  rintro x F ⟨rfl, rfl⟩
  unfold sgS
  split
  · exact ⟨rfl, rfl⟩
  · exact ⟨rfl, rfl⟩
end Go.Proofs.YtaffbklkjjmmdaaDoor
