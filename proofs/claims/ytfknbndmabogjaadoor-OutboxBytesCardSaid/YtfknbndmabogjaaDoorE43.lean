/-
  The walks and the laws that the statement leans on, part 43.
-/
import Derived.Test.YtfknbndmabogjaaDoorE10
import Derived.Test.YtfknbndmabogjaaDoorE42
namespace Go.Proofs.YtfknbndmabogjaaDoor
open Go Wi
set_option linter.unusedVariables false
set_option linter.unusedSimpArgs false
set_option linter.defProp false
def TFCoE :=
  And.intro (And.intro (And.intro (And.intro (And.intro tyc0 tyc3) (And.intro zmb3 tyc4)) (And.intro (And.intro zmb4 tyc9) (And.intro zmb9 (And.intro tyc25 zmb25)))) (And.intro (And.intro (And.intro tyc29 foff29_0) (And.intro fpart29_0 foff29_1)) (And.intro (And.intro fpart29_1 foff29_2) (And.intro fpart29_2 (And.intro foff29_3 fpart29_3))))) (And.intro (And.intro (And.intro (And.intro foff29_4 fpart29_4) (And.intro fe29 zmb29)) (And.intro (And.intro bldT29 tyc55) (And.intro mth55_86 (And.intro mth55_89 mth55_88)))) (And.intro (And.intro (And.intro con55 zmb55) (And.intro Tryd.underlying0 Tryd.underlying3)) (And.intro (And.intro Tryd.underlying4 Tryd.underlying9) (And.intro Tryd.underlying25 (And.intro Tryd.underlying29 Tryd.underlying55)))))
theorem Y1CoE {G R : Prop} (r : R) (h : R → G := by intro r; first | (apply WP.region; exact rvc_sound _ _ (Sm.out r)) | exact WP.drawK rfl mixed (by decide +kernel) (Sm.out r) | (apply WP.block; exact r) | (apply WP.skip; exact Yq r) | (apply WP.exit; exact Yq r) | (apply WP.ret; exact Sm.out r) | exact WP.cond rfl (fun _ => r) (fun hg => absurd hg (by decide)) | exact WP.cond rfl (fun hg => absurd hg (by decide)) (fun _ => r) | exact Rt.mk (And.intro (fun _ => Sm.out r) fun hg => absurd hg (by decide)) | exact Rt.mk (And.intro (fun hg => absurd hg (by decide)) fun _ => Sm.out r)) : G := h r
theorem YzCoE {G R : Prop} (r : R) (h : R → G := by intro r; first | (apply ExG.no; exact Sm.out r) | (apply Or.inl; apply ExG.no; exact Sm.out r) | exact Or.inl (And.intro (fun hg => absurd hg (by decide)) (ExG.no (Sm.out r)))) : G := h r
abbrev k0 : Ky := ⟨⟨#[]⟩, ⟨#[]⟩, false, 0, false⟩
theorem tF_len {m : Int} {zs l r : List Int} (h : tF m zs = some (l, r)) : (l.length : Int) ≤ m := by
  unfold tF at h
  cases hg : cF m zs with
  | none => rw [hg] at h; cases h
  | some q =>
    obtain ⟨n, r'⟩ := q
    rw [hg] at h
    simp only at h
    split at h
    · cases h
    · cases h
      unfold cF at hg
      cases hn : nF zs with
      | none => rw [hn] at hg; cases hg
      | some q =>
        obtain ⟨n', r''⟩ := q
        rw [hn] at hg
        simp only at hg
        split at hg
        · cases hg
        · cases hg
          simp only [List.length_take]
          omega
theorem tS_len (m : Int) (hm : 0 ≤ m) (o : Option (List Int)) : ((bstr (tS m o).1).size : Int) ≤ m := by
  rw [bstr_size]
  cases o with
  | none => exact hm
  | some zs =>
    cases h : tF m zs with
    | none => rw [show tS m (some zs) = ([], none) from rS_bad h]; exact hm
    | some p =>
      obtain ⟨l, r⟩ := p
      rw [show tS m (some zs) = (l, some r) from rS_good h]
      exact tF_len h
set_option maxRecDepth 8000 in
set_option maxHeartbeats 2000000 in
theorem kget_st (b : Nat) (o0 o1 o2 o3 o4 o5 : Option (List Int)) (g r : ByteArray) (p s : Bool) (e : Int)
    (c1 : ACt Tryd.prog 87 [pt b 0, iv .i64 96] [(b, stM o0)] (fun x F => x = .lit (.string g) ∧ F = [(b, stM o1)]))
    (c2 : ACt Tryd.prog 87 [pt b 0, iv .i64 96] [(b, stM o1)] (fun x F => x = .lit (.string r) ∧ F = [(b, stM o2)]))
    (c3 : ACt Tryd.prog 64 [pt b 0] [(b, stM o2)] (fun x F => x = bv p ∧ F = [(b, stM o3)]))
    (c4 : ACt Tryd.prog 65 [pt b 0] [(b, stM o3)] (fun x F => x = iv .u64 e ∧ F = [(b, stM o4)]))
    (c5 : ACt Tryd.prog 64 [pt b 0] [(b, stM o4)] (fun x F => x = bv s ∧ F = [(b, stM o5)]))
    (hz : Kz ⟨g, r, p, e, s⟩) (h5 : okS o5) :
    ACt Tryd.prog 62 [pt b 0] [(b, stM o0)] (fun x F => x = kv (if o5.isSome && krB ⟨g, r, p, e, s⟩ then ⟨g, r, p, e, s⟩ else k0) ∧ F = [(b, stM (if o5.isSome && krB ⟨g, r, p, e, s⟩ then o5 else none))]) := by
  have cR := kright_ct ⟨g, r, p, e, s⟩ hz
  have cB := badS b o5
  have cS := spoilS b o5 h5
  obtain ⟨M0, hM0⟩ : ∃ M, M = stM o0 := ⟨_, rfl⟩
  rw [← hM0] at c1 ⊢
  obtain ⟨M1, hM1⟩ : ∃ M, M = stM o1 := ⟨_, rfl⟩
  rw [← hM1] at c1 c2
  obtain ⟨M2, hM2⟩ : ∃ M, M = stM o2 := ⟨_, rfl⟩
  rw [← hM2] at c2 c3
  obtain ⟨M3, hM3⟩ : ∃ M, M = stM o3 := ⟨_, rfl⟩
  rw [← hM3] at c3 c4
  obtain ⟨M4, hM4⟩ : ∃ M, M = stM o4 := ⟨_, rfl⟩
  rw [← hM4] at c4 c5
  obtain ⟨M5, hM5⟩ : ∃ M, M = stM o5 := ⟨_, rfl⟩
  rw [← hM5] at c5 cB cS
  cases hr : krB ⟨g, r, p, e, s⟩ with
  | false =>
    rw [hr] at cR
    rw [Bool.and_false]
    have y1 : (if false = true then (⟨g, r, p, e, s⟩ : Ky) else k0) = k0 := rfl
    have y2 : (if false = true then o5 else none) = none := rfl
    rw [y1, y2]
    have y3 : stM none = rdN := rfl
    rw [y3]
    cases o5 with
    | none =>
      refine ACt.intro Tryd.func62 rfl (by kernel_rfl) (by simp [Tryd.ntmps62]) (fun cx => ?_)
      simp only [argE, Tryd.ntmps62, Tryd.results62]
      have cB : ACt Tryd.prog 35 [pt b 0] [(b, M5)] (fun r F' => r = bv true ∧ F' = [(b, M5)]) := cB
      first | (have FRx := FR; clear FRx) | have FR := fr0S
      have FA := Sm.mk (TFCoE)
      repeat' first | (apply Sm.mk; refine Ys ?_) | refine WP.seq fun K hK => ?_ | (apply Ob.mk; exact Yo) | refine And.intro (Ob.out ?_) ?_ | refine Y1CoE ?_ | refine Yw1 (c := c1) (r := ?_) | refine Yw1 (c := c2) (r := ?_) | refine Yw1 (c := c3) (r := ?_) | refine Yw1 (c := c4) (r := ?_) | refine Yw1 (c := c5) (r := ?_) | refine Yl1 (c := cB) (r := ?_) | refine Yc (c := cR) (r := ?_) | refine Yw1 (c := cS) (r := ?_) | refine YzCoE ?_ | (refine WP.cond rfl (fun hc => ?_) (fun hc => ?_) <;> (try simp only [ZC, reduceCtorEq, ZD] at hc) <;> (try exact absurd hc (by decide)) <;> (try (exfalso; omega))) | refine Rt.mk (And.intro (fun hg => Sm.out ?_) fun hg => Sm.out ?_) | (refine Nu.mk ?_; first | (fail_if_success have := nb1); intro nb1 | (fail_if_success have := nb2); intro nb2 | (fail_if_success have := nb3); intro nb3 | (fail_if_success have := nb4); intro nb4 | intro nbz) | (apply Yfr; refine Yf FR fun hFRb FR => ?_) | refine Two.mk ?_ ?_ | (apply Yxc; exact Yx) | refine Cs.mk fun hcs => Sm.out ?_ | go_step | omega | (simp only [maxLen_eq]; omega) | exact trivial
      (refine OutQ.drop _ _ (perm1 (by simp only [hget, hdel, ↓reduceIte, if_true, if_false, FR.out]; first | done | rfl)) (by simp only [resv, ZK, look, loadv, loadn, loadnm, load1, load1m, hget, ↓reduceIte, Nat.reduceEqDiff, Nat.reduceAdd, Nat.reduceMul, Nat.reduceLeDiff, Nat.reduceLT, reduceCtorEq, TFCoE, FR.out]) ⟨(by simp only [resv, resA, ZK, look, loadv, loadn, loadnm, load1, load1m, hget, ↓reduceIte, Nat.reduceEqDiff, Nat.reduceAdd, Nat.reduceMul, Nat.reduceLeDiff, Nat.reduceLT, reduceCtorEq, TFCoE, FR.out]; first | done | rfl), rfl⟩)
    | some zs =>
      refine ACt.intro Tryd.func62 rfl (by kernel_rfl) (by simp [Tryd.ntmps62]) (fun cx => ?_)
      simp only [argE, Tryd.ntmps62, Tryd.results62]
      have cB : ACt Tryd.prog 35 [pt b 0] [(b, M5)] (fun r F' => r = bv false ∧ F' = [(b, M5)]) := cB
      first | (have FRx := FR; clear FRx) | have FR := fr0S
      have FA := Sm.mk (TFCoE)
      repeat' first | (apply Sm.mk; refine Ys ?_) | refine WP.seq fun K hK => ?_ | (apply Ob.mk; exact Yo) | refine And.intro (Ob.out ?_) ?_ | refine Y1CoE ?_ | refine Yw1 (c := c1) (r := ?_) | refine Yw1 (c := c2) (r := ?_) | refine Yw1 (c := c3) (r := ?_) | refine Yw1 (c := c4) (r := ?_) | refine Yw1 (c := c5) (r := ?_) | refine Yl1 (c := cB) (r := ?_) | refine Yc (c := cR) (r := ?_) | refine Yw1 (c := cS) (r := ?_) | refine YzCoE ?_ | (refine WP.cond rfl (fun hc => ?_) (fun hc => ?_) <;> (try simp only [ZC, reduceCtorEq, ZD] at hc) <;> (try exact absurd hc (by decide)) <;> (try (exfalso; omega))) | refine Rt.mk (And.intro (fun hg => Sm.out ?_) fun hg => Sm.out ?_) | (refine Nu.mk ?_; first | (fail_if_success have := nb1); intro nb1 | (fail_if_success have := nb2); intro nb2 | (fail_if_success have := nb3); intro nb3 | (fail_if_success have := nb4); intro nb4 | intro nbz) | (apply Yfr; refine Yf FR fun hFRb FR => ?_) | refine Two.mk ?_ ?_ | (apply Yxc; exact Yx) | refine Cs.mk fun hcs => Sm.out ?_ | go_step | omega | (simp only [maxLen_eq]; omega) | exact trivial
      (refine OutQ.drop _ _ (perm1 (by simp only [hget, hdel, ↓reduceIte, if_true, if_false, FR.out]; first | done | rfl)) (by simp only [resv, ZK, look, loadv, loadn, loadnm, load1, load1m, hget, ↓reduceIte, Nat.reduceEqDiff, Nat.reduceAdd, Nat.reduceMul, Nat.reduceLeDiff, Nat.reduceLT, reduceCtorEq, TFCoE, FR.out]) ⟨(by simp only [resv, resA, ZK, look, loadv, loadn, loadnm, load1, load1m, hget, ↓reduceIte, Nat.reduceEqDiff, Nat.reduceAdd, Nat.reduceMul, Nat.reduceLeDiff, Nat.reduceLT, reduceCtorEq, TFCoE, FR.out]; first | done | rfl), rfl⟩)
  | true =>
    rw [hr] at cR
    rw [Bool.and_true]
    cases o5 with
    | none =>
      have y1 : (if (none : Option (List Int)).isSome = true then (⟨g, r, p, e, s⟩ : Ky) else k0) = k0 := rfl
      have y2 : (if (none : Option (List Int)).isSome = true then (none : Option (List Int)) else none) = none := rfl
      rw [y1, y2]
      have y3 : stM none = rdN := rfl
      rw [y3]
      refine ACt.intro Tryd.func62 rfl (by kernel_rfl) (by simp [Tryd.ntmps62]) (fun cx => ?_)
      simp only [argE, Tryd.ntmps62, Tryd.results62]
      have cB : ACt Tryd.prog 35 [pt b 0] [(b, M5)] (fun r F' => r = bv true ∧ F' = [(b, M5)]) := cB
      first | (have FRx := FR; clear FRx) | have FR := fr0S
      have FA := Sm.mk (TFCoE)
      repeat' first | (apply Sm.mk; refine Ys ?_) | refine WP.seq fun K hK => ?_ | (apply Ob.mk; exact Yo) | refine And.intro (Ob.out ?_) ?_ | refine Y1CoE ?_ | refine Yw1 (c := c1) (r := ?_) | refine Yw1 (c := c2) (r := ?_) | refine Yw1 (c := c3) (r := ?_) | refine Yw1 (c := c4) (r := ?_) | refine Yw1 (c := c5) (r := ?_) | refine Yl1 (c := cB) (r := ?_) | refine Yc (c := cR) (r := ?_) | refine Yw1 (c := cS) (r := ?_) | refine YzCoE ?_ | (refine WP.cond rfl (fun hc => ?_) (fun hc => ?_) <;> (try simp only [ZC, reduceCtorEq, ZD] at hc) <;> (try exact absurd hc (by decide)) <;> (try (exfalso; omega))) | refine Rt.mk (And.intro (fun hg => Sm.out ?_) fun hg => Sm.out ?_) | (refine Nu.mk ?_; first | (fail_if_success have := nb1); intro nb1 | (fail_if_success have := nb2); intro nb2 | (fail_if_success have := nb3); intro nb3 | (fail_if_success have := nb4); intro nb4 | intro nbz) | (apply Yfr; refine Yf FR fun hFRb FR => ?_) | refine Two.mk ?_ ?_ | (apply Yxc; exact Yx) | refine Cs.mk fun hcs => Sm.out ?_ | go_step | omega | (simp only [maxLen_eq]; omega) | exact trivial
      (refine OutQ.drop _ _ (perm1 (by simp only [hget, hdel, ↓reduceIte, if_true, if_false, FR.out]; first | done | rfl)) (by simp only [resv, ZK, look, loadv, loadn, loadnm, load1, load1m, hget, ↓reduceIte, Nat.reduceEqDiff, Nat.reduceAdd, Nat.reduceMul, Nat.reduceLeDiff, Nat.reduceLT, reduceCtorEq, TFCoE, FR.out]) ⟨(by simp only [resv, resA, ZK, look, loadv, loadn, loadnm, load1, load1m, hget, ↓reduceIte, Nat.reduceEqDiff, Nat.reduceAdd, Nat.reduceMul, Nat.reduceLeDiff, Nat.reduceLT, reduceCtorEq, TFCoE, FR.out]; first | done | rfl), rfl⟩)
    | some zs =>
      have y1 : (if (some zs).isSome = true then (⟨g, r, p, e, s⟩ : Ky) else k0) = ⟨g, r, p, e, s⟩ := rfl
      have y2 : (if (some zs).isSome = true then some zs else none) = some zs := rfl
      rw [y1, y2, ← hM5]
      refine ACt.intro Tryd.func62 rfl (by kernel_rfl) (by simp [Tryd.ntmps62]) (fun cx => ?_)
      simp only [argE, Tryd.ntmps62, Tryd.results62]
      have cB : ACt Tryd.prog 35 [pt b 0] [(b, M5)] (fun r F' => r = bv false ∧ F' = [(b, M5)]) := cB
      first | (have FRx := FR; clear FRx) | have FR := fr0S
      have FA := Sm.mk (TFCoE)
      repeat' first | (apply Sm.mk; refine Ys ?_) | refine WP.seq fun K hK => ?_ | (apply Ob.mk; exact Yo) | refine And.intro (Ob.out ?_) ?_ | refine Y1CoE ?_ | refine Yw1 (c := c1) (r := ?_) | refine Yw1 (c := c2) (r := ?_) | refine Yw1 (c := c3) (r := ?_) | refine Yw1 (c := c4) (r := ?_) | refine Yw1 (c := c5) (r := ?_) | refine Yl1 (c := cB) (r := ?_) | refine Yc (c := cR) (r := ?_) | refine Yw1 (c := cS) (r := ?_) | refine YzCoE ?_ | (refine WP.cond rfl (fun hc => ?_) (fun hc => ?_) <;> (try simp only [ZC, reduceCtorEq, ZD] at hc) <;> (try exact absurd hc (by decide)) <;> (try (exfalso; omega))) | refine Rt.mk (And.intro (fun hg => Sm.out ?_) fun hg => Sm.out ?_) | (refine Nu.mk ?_; first | (fail_if_success have := nb1); intro nb1 | (fail_if_success have := nb2); intro nb2 | (fail_if_success have := nb3); intro nb3 | (fail_if_success have := nb4); intro nb4 | intro nbz) | (apply Yfr; refine Yf FR fun hFRb FR => ?_) | refine Two.mk ?_ ?_ | (apply Yxc; exact Yx) | refine Cs.mk fun hcs => Sm.out ?_ | go_step | omega | (simp only [maxLen_eq]; omega) | exact trivial
      (refine OutQ.drop _ _ (perm1 (by simp only [hget, hdel, ↓reduceIte, if_true, if_false, FR.out]; first | done | rfl)) (by simp only [resv, ZK, look, loadv, loadn, loadnm, load1, load1m, hget, ↓reduceIte, Nat.reduceEqDiff, Nat.reduceAdd, Nat.reduceMul, Nat.reduceLeDiff, Nat.reduceLT, reduceCtorEq, TFCoE, FR.out]) ⟨(by simp only [resv, resA, ZK, look, loadv, loadn, loadnm, load1, load1m, hget, ↓reduceIte, Nat.reduceEqDiff, Nat.reduceAdd, Nat.reduceMul, Nat.reduceLeDiff, Nat.reduceLT, reduceCtorEq, TFCoE, FR.out]; first | done | rfl), rfl⟩)
noncomputable def kgS (o : Option (List Int)) : Ky × Option (List Int) :=
  if (fS (nS (fS (tS 96 (tS 96 o).2).2).2).2).2.isSome && krB ⟨bstr (tS 96 o).1, bstr (tS 96 (tS 96 o).2).1, (fS (tS 96 (tS 96 o).2).2).1, (((nS (fS (tS 96 (tS 96 o).2).2).2).1 : Nat) : Int), (fS (nS (fS (tS 96 (tS 96 o).2).2).2).2).1⟩
  then (⟨bstr (tS 96 o).1, bstr (tS 96 (tS 96 o).2).1, (fS (tS 96 (tS 96 o).2).2).1, (((nS (fS (tS 96 (tS 96 o).2).2).2).1 : Nat) : Int), (fS (nS (fS (tS 96 (tS 96 o).2).2).2).2).1⟩, (fS (nS (fS (tS 96 (tS 96 o).2).2).2).2).2)
  else (k0, none)
theorem kget_ct (b : Nat) (o : Option (List Int)) (h : okS o) : ACt Tryd.prog 62 [pt b 0] [(b, stM o)] (fun x F => x = kv (kgS o).1 ∧ F = [(b, stM (kgS o).2)]) := by
  have h1 : okS (tS 96 o).2 := rS_ok (tF_sf 96) h
  have h2 : okS (tS 96 (tS 96 o).2).2 := rS_ok (tF_sf 96) h1
  have h3 : okS (fS (tS 96 (tS 96 o).2).2).2 := rS_ok fF_sf h2
  have h4 : okS (nS (fS (tS 96 (tS 96 o).2).2).2).2 := rS_ok nF_sf h3
  have h5 : okS (fS (nS (fS (tS 96 (tS 96 o).2).2).2).2).2 := rS_ok fF_sf h4
  have := kget_st b o _ _ _ _ _ _ _ _ _ _ (textS b 96 (by omega) (by omega) o h) (textS b 96 (by omega) (by omega) _ h1) (flagS b _ h2) (numS b _ h3) (flagS b _ h4)
    ⟨by have := tS_len 96 (by omega) o; simp only; omega, by have := tS_len 96 (by omega) (tS 96 o).2; simp only; omega⟩ h5
  refine this.mono ?_
  rintro x F ⟨rfl, rfl⟩
  unfold kgS
  split
  · exact ⟨rfl, rfl⟩
  · exact ⟨rfl, rfl⟩
end Go.Proofs.YtfknbndmabogjaaDoor
