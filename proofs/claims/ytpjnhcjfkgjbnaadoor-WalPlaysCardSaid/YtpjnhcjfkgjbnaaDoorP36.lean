/-
  The walks and the laws that the statement leans on, part 36.
-/
import Derived.Test.YtpjnhcjfkgjbnaaDoorP10
import Derived.Test.YtpjnhcjfkgjbnaaDoorP35
namespace Go.Proofs.YtpjnhcjfkgjbnaaDoor
open Go
set_option linter.unusedVariables false
set_option linter.unusedSimpArgs false
set_option linter.defProp false
def TFWlQ :=
  And.intro (And.intro (And.intro (And.intro (And.intro (And.intro tyc0 tyc3) (And.intro zmb3 tyc4)) (And.intro (And.intro zmb4 tyc5) (And.intro zmb5 tyc9))) (And.intro (And.intro (And.intro zmb9 tyc22) (And.intro elt22 mkz22)) (And.intro (And.intro mkc22 apT22) (And.intro elk22 (And.intro zmb22 tyc25))))) (And.intro (And.intro (And.intro (And.intro mth25_46 mth25_45) (And.intro mth25_44 con25)) (And.intro (And.intro zmb25 tyc28) (And.intro zmb28 (And.intro tyc31 zmb31)))) (And.intro (And.intro (And.intro tyc32 elt32) (And.intro mkz32 mkc32)) (And.intro (And.intro apT32 elk32) (And.intro zmb32 (And.intro tyc33 tyc35)))))) (And.intro (And.intro (And.intro (And.intro (And.intro zmb35 tyc37) (And.intro foff37_0 fpart37_0)) (And.intro (And.intro foff37_1 fpart37_1) (And.intro zmb37 (And.intro bldT37 tyc38)))) (And.intro (And.intro (And.intro elt38 mkz38) (And.intro apT38 elk38)) (And.intro (And.intro zmb38 tyc40) (And.intro foff40_0 (And.intro fpart40_0 foff40_1))))) (And.intro (And.intro (And.intro (And.intro fpart40_1 zmb40) (And.intro bldT40 Tryd.underlying0)) (And.intro (And.intro Tryd.underlying3 Tryd.underlying4) (And.intro Tryd.underlying5 (And.intro Tryd.underlying9 Tryd.underlying22)))) (And.intro (And.intro (And.intro Tryd.underlying25 Tryd.underlying28) (And.intro Tryd.underlying31 Tryd.underlying32)) (And.intro (And.intro Tryd.underlying33 Tryd.underlying35) (And.intro Tryd.underlying37 (And.intro Tryd.underlying38 Tryd.underlying40))))))
theorem Y1WlQ {G R : Prop} (r : R) (h : R → G := by intro r; first | (apply WP.region; exact rvc_sound _ _ (Sm.out r)) | exact WP.drawN (cs := [13,20]) (k := 21) (bs := [zz]) mixed (by decide +kernel) (by decide +kernel) (by decide +kernel) (by decide +kernel) (Sm.out r) | exact WP.drawK rfl mixed (by decide +kernel) (Sm.out r) | (apply WP.block; exact r) | (apply WP.skip; exact Yq r) | (apply WP.exit; exact Yq r) | (apply WP.ret; exact Sm.out r) | exact WP.cond rfl (fun _ => r) (fun hg => absurd hg (by decide)) | exact WP.cond rfl (fun hg => absurd hg (by decide)) (fun _ => r) | exact Rt.mk (And.intro (fun _ => Sm.out r) fun hg => absurd hg (by decide)) | exact Rt.mk (And.intro (fun hg => absurd hg (by decide)) fun _ => Sm.out r)) : G := h r
theorem YzWlQ {G R : Prop} (r : R) (h : R → G := by intro r; first | (apply ExG.no; exact Sm.out r) | (apply Or.inl; apply ExG.no; exact Sm.out r) | exact Or.inl (And.intro (fun hg => absurd hg (by decide)) (ExG.no (Sm.out r)))) : G := h r
theorem YsWlQ0 {P Q : Prop} (q : Q) (h : P = Q := by (try (conv => lhs; simp -dsimp only [ZK, rvc, capA, appA, litL, mkfv, drawF, headN, pureH, stp, dvc, calleeOf, gcall, pev, eff, newB, okd, og, ogs, ogo, ogp, slv, bltv, opd, litv, strip, one, both, putE, St.put, look, gdOf, gdv, picka, pickv, pickw, binv, bini, bins, binb, binp, binq, isSlT, bina, shp, eqCells, unv, convv, nilv, faddv, addp, idxav, idxp, load1, load1m, loadn, loadnm, loadv, hget, hset, hrep, hdel, slicev, slice3v, bnd, shift1, lenv, capv, IntKind.bits, extractv, fieldv, indexv, min2v, max2v, mkiv, tasv, tasz, cellsA, fillA, buildv, stC, oneC, rowMB, intsA, plN, appE, appZ, appC, appS, srcB, appNZ, appNC, VwL, srcC, srcZ, srcM, isBoolT, isPtrT, isSliceT, uOk, Value.oneCell', Nat.reducePow, Int.reducePow, Nat.reduceAdd, Nat.reduceMul, Nat.reduceSub, Nat.reduceLT, Nat.reduceLeDiff, Nat.reduceEqDiff, Nat.reduceBEq, Nat.reduceDiv, Nat.reduceMod, ↓reduceIte, reduceCtorEq, Int.reduceToNat, Int.reduceLT, Int.reduceLE, drawNF, drawNF1, drawNTF, nvc, xst, chF, chS, splA, mkV, splitH, calleeV, putE, hdel, TFWlQ, SeqQ, BlkQ, LoopQ, BodyQ, hin, FA.out, FR.out])) <;> exact rfl) : P := h.mpr q
theorem YsWlQ1 {P Q : Prop} (q : Q) (h : P = Q := by (try (conv => lhs; simp -dsimp only [ZK, rvc, capA, appA, litL, mkfv, drawF, headN, pureH, stp, dvc, calleeOf, gcall, pev, eff, newB, okd, og, ogs, ogo, ogp, slv, bltv, opd, litv, strip, one, both, putE, St.put, look, gdOf, gdv, picka, pickv, pickw, binv, bini, bins, binb, binp, binq, isSlT, bina, shp, eqCells, unv, convv, nilv, faddv, addp, idxav, idxp, load1, load1m, loadn, loadnm, loadv, hget, hset, hrep, hdel, slicev, slice3v, bnd, shift1, lenv, capv, IntKind.bits, extractv, fieldv, indexv, min2v, max2v, mkiv, tasv, tasz, cellsA, fillA, buildv, stC, oneC, rowMB, intsA, plN, appE, appZ, appC, appS, srcB, appNZ, appNC, VwL, srcC, srcZ, srcM, isBoolT, isPtrT, isSliceT, uOk, Value.oneCell', Nat.reducePow, Int.reducePow, Nat.reduceAdd, Nat.reduceMul, Nat.reduceSub, Nat.reduceLT, Nat.reduceLeDiff, Nat.reduceEqDiff, Nat.reduceBEq, Nat.reduceDiv, Nat.reduceMod, ↓reduceIte, reduceCtorEq, Int.reduceToNat, Int.reduceLT, Int.reduceLE, drawNF, drawNF1, drawNTF, nvc, xst, chF, chS, splA, mkV, splitH, calleeV, putE, hdel, TFWlQ, SeqQ, BlkQ, LoopQ, BodyQ, hin, drawGAF, chG, grG, nvc, xst, chS, splA, mkV, FA.out, FR.out])) <;> exact rfl) : P := h.mpr q
structure PG where
  i : Nat
  l : DL
  a : DA
  x : Nat
  M : List Bs
  b2 : Nat
  cap : Nat
structure PI (s n p q b mb : Nat) (P Q : Bs) (L : List Ac) (g : PG) : Prop where
  i : g.i ≤ L.length
  I : LgI (26 + 13 * g.i) s n p q P Q g.M g.a
  f : g.a.f = -1
  l : LOk b g.a g.l
  m : MOkL mb g.M g.b2 g.cap
theorem LgI.up {c d s n f m : Nat} {P Q : Bs} {L : List Bs} {a : DA} (h : LgI c s n f m P Q L a) (hd : c ≤ d) : LgI d s n f m P Q L a := ⟨h.A.le hd, h.R, h.u, h.sm, h.hfm, h.hm⟩
theorem pm_out {α : Type} (k j : α) (A D : List α) : (k :: (A ++ (j :: D))).Perm ((j :: (A ++ D)) ++ [k]) :=
  ((List.Perm.cons k (List.perm_middle (l₁ := A) (l₂ := D) (a := j))).trans (List.perm_append_comm (l₁ := [k]) (l₂ := j :: (A ++ D))))
set_option maxHeartbeats 8000000 in
theorem plays_ct (B Z f m : Int) (L : List Ac) : ACt Tryd.prog 3 [iv .i64 B, iv .i64 Z, iv .i64 f, iv .i64 m, .sl L.length (acs L)] [] (Fn (bv true)) := by
  have cA := awake_ct
  by_cases h1 : B < 1
  · have k1 : decide (B < 1) = true := decide_eq_true h1
    refine ACt.intro Tryd.func3 rfl (by kernel_rfl) (by simp [Tryd.ntmps3]) (fun cx => ?_)
    simp only [argE, Tryd.ntmps3, Tryd.results3]
    first | (have FRx := FR; clear FRx) | have FR := fr0S
    have FA := Sm.mk (And.intro TFWlQ k1)
    repeat' first | (apply Sm.mk; refine Ys ?_) | refine WP.seq fun K hK => ?_ | (apply Ob.mk; exact Yo) | refine And.intro (Ob.out ?_) ?_ | refine Y1WlQ ?_ | refine Yc (c := cA) (r := ?_) | refine YzWlQ ?_ | (refine WP.cond rfl (fun hc => ?_) (fun hc => ?_) <;> (try simp only [ZC, reduceCtorEq, ZD] at hc) <;> (try exact absurd hc (by decide)) <;> (try (exfalso; omega))) | refine Rt.mk (And.intro (fun hg => Sm.out ?_) fun hg => Sm.out ?_) | (refine Nu.mk ?_; first | (fail_if_success have := nb1); intro nb1 | (fail_if_success have := nb2); intro nb2 | (fail_if_success have := nb3); intro nb3 | (fail_if_success have := nb4); intro nb4 | (fail_if_success have := nb5); intro nb5 | (fail_if_success have := nb6); intro nb6 | (fail_if_success have := nb7); intro nb7 | (fail_if_success have := nb8); intro nb8 | (fail_if_success have := nb9); intro nb9 | (fail_if_success have := nb10); intro nb10 | intro nbz) | (apply Yfr; refine Yf FR fun hFRb FR => ?_) | refine Two.mk ?_ ?_ | (apply Yxc; exact Yx) | refine Cs.mk fun hcs => Sm.out ?_ | go_step | omega | (simp only [maxLen_eq]; omega) | exact trivial
    (refine Yg ?_; try exact trivial)
  have k1 : decide (B < 1) = false := decide_eq_false h1
  by_cases h2 : B > 12
  · have k2 : decide (B > 12) = true := decide_eq_true h2
    refine ACt.intro Tryd.func3 rfl (by kernel_rfl) (by simp [Tryd.ntmps3]) (fun cx => ?_)
    simp only [argE, Tryd.ntmps3, Tryd.results3]
    first | (have FRx := FR; clear FRx) | have FR := fr0S
    have FA := Sm.mk (And.intro TFWlQ (And.intro k1 k2))
    repeat' first | (apply Sm.mk; refine Ys ?_) | refine WP.seq fun K hK => ?_ | (apply Ob.mk; exact Yo) | refine And.intro (Ob.out ?_) ?_ | refine Y1WlQ ?_ | refine Yc (c := cA) (r := ?_) | refine YzWlQ ?_ | (refine WP.cond rfl (fun hc => ?_) (fun hc => ?_) <;> (try simp only [ZC, reduceCtorEq, ZD] at hc) <;> (try exact absurd hc (by decide)) <;> (try (exfalso; omega))) | refine Rt.mk (And.intro (fun hg => Sm.out ?_) fun hg => Sm.out ?_) | (refine Nu.mk ?_; first | (fail_if_success have := nb1); intro nb1 | (fail_if_success have := nb2); intro nb2 | (fail_if_success have := nb3); intro nb3 | (fail_if_success have := nb4); intro nb4 | (fail_if_success have := nb5); intro nb5 | (fail_if_success have := nb6); intro nb6 | (fail_if_success have := nb7); intro nb7 | (fail_if_success have := nb8); intro nb8 | (fail_if_success have := nb9); intro nb9 | (fail_if_success have := nb10); intro nb10 | intro nbz) | (apply Yfr; refine Yf FR fun hFRb FR => ?_) | refine Two.mk ?_ ?_ | (apply Yxc; exact Yx) | refine Cs.mk fun hcs => Sm.out ?_ | go_step | omega | (simp only [maxLen_eq]; omega) | exact trivial
    (refine Yg ?_; try exact trivial)
  have k2 : decide (B > 12) = false := decide_eq_false h2
  by_cases h3 : Z < 32
  · have k3 : decide (Z < 32) = true := decide_eq_true h3
    refine ACt.intro Tryd.func3 rfl (by kernel_rfl) (by simp [Tryd.ntmps3]) (fun cx => ?_)
    simp only [argE, Tryd.ntmps3, Tryd.results3]
    first | (have FRx := FR; clear FRx) | have FR := fr0S
    have FA := Sm.mk (And.intro TFWlQ (And.intro k1 (And.intro k2 k3)))
    repeat' first | (apply Sm.mk; refine Ys ?_) | refine WP.seq fun K hK => ?_ | (apply Ob.mk; exact Yo) | refine And.intro (Ob.out ?_) ?_ | refine Y1WlQ ?_ | refine Yc (c := cA) (r := ?_) | refine YzWlQ ?_ | (refine WP.cond rfl (fun hc => ?_) (fun hc => ?_) <;> (try simp only [ZC, reduceCtorEq, ZD] at hc) <;> (try exact absurd hc (by decide)) <;> (try (exfalso; omega))) | refine Rt.mk (And.intro (fun hg => Sm.out ?_) fun hg => Sm.out ?_) | (refine Nu.mk ?_; first | (fail_if_success have := nb1); intro nb1 | (fail_if_success have := nb2); intro nb2 | (fail_if_success have := nb3); intro nb3 | (fail_if_success have := nb4); intro nb4 | (fail_if_success have := nb5); intro nb5 | (fail_if_success have := nb6); intro nb6 | (fail_if_success have := nb7); intro nb7 | (fail_if_success have := nb8); intro nb8 | (fail_if_success have := nb9); intro nb9 | (fail_if_success have := nb10); intro nb10 | intro nbz) | (apply Yfr; refine Yf FR fun hFRb FR => ?_) | refine Two.mk ?_ ?_ | (apply Yxc; exact Yx) | refine Cs.mk fun hcs => Sm.out ?_ | go_step | omega | (simp only [maxLen_eq]; omega) | exact trivial
    (refine Yg ?_; try exact trivial)
  have k3 : decide (Z < 32) = false := decide_eq_false h3
  by_cases h4 : Z > 512
  · have k4 : decide (Z > 512) = true := decide_eq_true h4
    refine ACt.intro Tryd.func3 rfl (by kernel_rfl) (by simp [Tryd.ntmps3]) (fun cx => ?_)
    simp only [argE, Tryd.ntmps3, Tryd.results3]
    first | (have FRx := FR; clear FRx) | have FR := fr0S
    have FA := Sm.mk (And.intro TFWlQ (And.intro k1 (And.intro k2 (And.intro k3 k4))))
    repeat' first | (apply Sm.mk; refine Ys ?_) | refine WP.seq fun K hK => ?_ | (apply Ob.mk; exact Yo) | refine And.intro (Ob.out ?_) ?_ | refine Y1WlQ ?_ | refine Yc (c := cA) (r := ?_) | refine YzWlQ ?_ | (refine WP.cond rfl (fun hc => ?_) (fun hc => ?_) <;> (try simp only [ZC, reduceCtorEq, ZD] at hc) <;> (try exact absurd hc (by decide)) <;> (try (exfalso; omega))) | refine Rt.mk (And.intro (fun hg => Sm.out ?_) fun hg => Sm.out ?_) | (refine Nu.mk ?_; first | (fail_if_success have := nb1); intro nb1 | (fail_if_success have := nb2); intro nb2 | (fail_if_success have := nb3); intro nb3 | (fail_if_success have := nb4); intro nb4 | (fail_if_success have := nb5); intro nb5 | (fail_if_success have := nb6); intro nb6 | (fail_if_success have := nb7); intro nb7 | (fail_if_success have := nb8); intro nb8 | (fail_if_success have := nb9); intro nb9 | (fail_if_success have := nb10); intro nb10 | intro nbz) | (apply Yfr; refine Yf FR fun hFRb FR => ?_) | refine Two.mk ?_ ?_ | (apply Yxc; exact Yx) | refine Cs.mk fun hcs => Sm.out ?_ | go_step | omega | (simp only [maxLen_eq]; omega) | exact trivial
    (refine Yg ?_; try exact trivial)
  have k4 : decide (Z > 512) = false := decide_eq_false h4
  obtain ⟨n, rfl⟩ : ∃ n : Nat, B = (n : Int) := ⟨B.toNat, by omega⟩
  obtain ⟨s, rfl⟩ : ∃ s : Nat, Z = (s : Int) := ⟨Z.toNat, by omega⟩
  by_cases hL : L.length ≤ 60 ∧ ∀ a ∈ L, a.z.length ≤ 2000
  rotate_left
  · have cL := long_no L hL
    refine ACt.intro Tryd.func3 rfl (by kernel_rfl) (by simp [Tryd.ntmps3]) (fun cx => ?_)
    simp only [argE, Tryd.ntmps3, Tryd.results3]
    first | (have FRx := FR; clear FRx) | have FR := fr0S
    have FA := Sm.mk (And.intro TFWlQ (And.intro k1 (And.intro k2 (And.intro k3 k4))))
    repeat' first | (apply Sm.mk; refine Ys ?_) | refine WP.seq fun K hK => ?_ | (apply Ob.mk; exact Yo) | refine And.intro (Ob.out ?_) ?_ | refine Y1WlQ ?_ | refine Yc (c := cA) (r := ?_) | refine Yc (c := cL) (r := ?_) | refine YzWlQ ?_ | (refine WP.cond rfl (fun hc => ?_) (fun hc => ?_) <;> (try simp only [ZC, reduceCtorEq, ZD] at hc) <;> (try exact absurd hc (by decide)) <;> (try (exfalso; omega))) | refine Rt.mk (And.intro (fun hg => Sm.out ?_) fun hg => Sm.out ?_) | (refine Nu.mk ?_; first | (fail_if_success have := nb1); intro nb1 | (fail_if_success have := nb2); intro nb2 | (fail_if_success have := nb3); intro nb3 | (fail_if_success have := nb4); intro nb4 | (fail_if_success have := nb5); intro nb5 | (fail_if_success have := nb6); intro nb6 | (fail_if_success have := nb7); intro nb7 | (fail_if_success have := nb8); intro nb8 | (fail_if_success have := nb9); intro nb9 | (fail_if_success have := nb10); intro nb10 | intro nbz) | (apply Yfr; refine Yf FR fun hFRb FR => ?_) | refine Two.mk ?_ ?_ | (apply Yxc; exact Yx) | refine Cs.mk fun hcs => Sm.out ?_ | go_step | omega | (simp only [maxLen_eq]; omega) | exact trivial
    (refine Yg ?_; try exact trivial)
  have cL := long_ok L hL
  obtain ⟨hL1, hL2⟩ := hL
  have cM := marked_ct n s (by omega) (by omega) (by omega) (by omega)
  obtain ⟨hA0, hf0, ⟨W, hS0⟩⟩ := mkA_spec n s (by omega) (by omega) (by omega) (by omega)
  obtain ⟨a0, ha0⟩ : ∃ a, a = mkA n s := ⟨_, rfl⟩
  refine ACt.intro Tryd.func3 rfl (by kernel_rfl) (by simp [Tryd.ntmps3]) (fun cx => ?_)
  simp only [argE, Tryd.ntmps3, Tryd.results3]
  first | (have FRx := FR; clear FRx) | have FR := fr0S
  have FA := Sm.mk (And.intro TFWlQ (And.intro k1 (And.intro k2 (And.intro k3 k4))))
  repeat' first | (apply Sm.mk; refine Ys ?_) | refine WP.seq fun K hK => ?_ | (apply Ob.mk; exact Yo) | refine And.intro (Ob.out ?_) ?_ | ((fail_if_success (show WP _ _ _ (.region 6 _ _) _ _)); refine Y1WlQ ?_) | (first | refine CallV.fn (cA) (Sm.out ?_) | refine ExF.mk (cA) (Sm.out ?_) | refine ExG.mk (fun _ => cA) (Sm.out ?_) | refine ExG.mkJ (fun _ => cA) (Sm.out ?_) | refine ExG.mkI (Ob.out ?_) (fun _ => cA) (Sm.out ?_)) | (first | refine CallV.fn (cL) (Sm.out ?_) | refine ExF.mk (cL) (Sm.out ?_) | refine ExG.mk (fun _ => cL) (Sm.out ?_) | refine ExG.mkJ (fun _ => cL) (Sm.out ?_) | refine ExG.mkI (Ob.out ?_) (fun _ => cL) (Sm.out ?_)) | (refine CallV.ex (F := []) (List.Perm.refl _) (cM) (fun g => Sm.out ?_)) | refine YzWlQ ?_ | (refine WP.cond rfl (fun hc => ?_) (fun hc => ?_) <;> (try simp only [ZC, reduceCtorEq, ZD] at hc) <;> (try exact absurd hc (by decide)) <;> (try (exfalso; omega))) | refine Rt.mk (And.intro (fun hg => Sm.out ?_) fun hg => Sm.out ?_) | (refine Nu.mk ?_; first | (fail_if_success have := nb1); intro nb1 | (fail_if_success have := nb2); intro nb2 | (fail_if_success have := nb3); intro nb3 | (fail_if_success have := nb4); intro nb4 | (fail_if_success have := nb5); intro nb5 | (fail_if_success have := nb6); intro nb6 | (fail_if_success have := nb7); intro nb7 | (fail_if_success have := nb8); intro nb8 | (fail_if_success have := nb9); intro nb9 | (fail_if_success have := nb10); intro nb10 | intro nbz) | (apply Yfr; refine Yf FR fun hFRb FR => ?_) | refine Two.mk ?_ ?_ | (apply Yxc; exact Yx) | refine Cs.mk fun hcs => Sm.out ?_ | go_step | omega | (simp only [maxLen_eq]; omega) | exact trivial
  obtain ⟨⟨b, l⟩, hl⟩ := g
  simp only [List.append_nil] at hl ⊢
  rw [← ha0] at hl hA0 hf0 hS0 ⊢
  clear ha0 cM
  have cW := all_ct b a0 l hA0 hl hS0.dk
  rw [hS0.T] at cW
  obtain ⟨X, hX⟩ : ∃ X, X = bstr (ub W) := ⟨_, rfl⟩
  rw [← hX] at cW
  by_cases hon : onP n f m
  · have cO := ron_yes n f m (by omega) hon
    obtain ⟨o1, o2, o3, o4⟩ := hon
    obtain ⟨p, rfl⟩ : ∃ p : Nat, f = (p : Int) := ⟨f.toNat, by omega⟩
    obtain ⟨q, rfl⟩ : ∃ q : Nat, m = (q : Int) := ⟨m.toNat, by omega⟩
    have hpq : p + q ≤ n := by omega
    have hq1 : 1 ≤ q := by omega
    have hqs : q * s ≤ 12 * 512 := Nat.mul_le_mul (by omega) (by omega)
    have hps : p * s ≤ 12 * 512 := Nat.mul_le_mul (by omega) (by omega)
    have hns : n * s ≤ 12 * 512 := Nat.mul_le_mul (by omega) (by omega)
    have w0 : IntKind.i64.wrap ((q : Int) * (s : Int)) = ((q * s : Nat) : Int) := by rw [← Int.natCast_mul]; exact wrap_i64 (by omega) (by omega)
    have hW : W.length = n * s := by
      have h1 := flat_len (size := a0.size) a0.S hA0.Sr
      rw [hS0.T, ub_len, hA0.Sl, hS0.n, hS0.s] at h1
      exact h1
    have hR0 := rg_of hS0 hW hpq
    obtain ⟨P, hP⟩ : ∃ P, P = W.take (p * s) := ⟨_, rfl⟩
    obtain ⟨Q, hQ⟩ : ∃ Q, Q = W.drop ((p + q) * s) := ⟨_, rfl⟩
    rw [← hP, ← hQ] at hR0
    have cF := format_up b l hA0 hR0 hl hpq hq1 hf0 (by omega)
    have hI := LgI.fmt hA0 hR0 hpq hq1 hf0
    obtain ⟨a1, ha1⟩ : ∃ a, a = (fmX p s q a0).1 := ⟨_, rfl⟩
    rw [← ha1] at hI cF
    obtain ⟨-, hf1, hI1⟩ := hI
    first | (have FRx := FR; clear FRx) | have FR := fr0S
    have FA := Sm.mk (TFWlQ)
    repeat' first | (apply Sm.mk; refine Ys ?_) | refine WP.seq fun K hK => ?_ | (apply Ob.mk; exact Yo) | refine And.intro (Ob.out ?_) ?_ | ((fail_if_success (show WP _ _ _ (.region 8 _ _) _ _)); refine Y1WlQ ?_) | refine CallV.updM (cW) (pmz _) (Sm.out ?_) | ((first | refine ExF.up ?_ (cW) (Sm.out ?_) | refine ExG.up ?_ (fun _ => cW) (Sm.out ?_) | refine ExG.upJ ?_ (fun _ => cW) (Sm.out ?_) | refine ExG.upI ?_ (fun _ => cW) (Ob.out ?_) (Sm.out ?_)); focus (exact ⟨_, (pmz _)⟩)) | (refine CallV.exM (cF) (pmz _) (fun g => Sm.out ?_)) | (refine WCt.exM (cF) (pmz _) (fun g => Sm.out ?_)) | refine YzWlQ ?_ | (refine WP.cond rfl (fun hc => ?_) (fun hc => ?_) <;> (try simp only [ZC, reduceCtorEq, ZD] at hc) <;> (try exact absurd hc (by decide)) <;> (try (exfalso; omega))) | refine Rt.mk (And.intro (fun hg => Sm.out ?_) fun hg => Sm.out ?_) | (refine Nu.mk ?_; first | (fail_if_success have := nb1); intro nb1 | (fail_if_success have := nb2); intro nb2 | (fail_if_success have := nb3); intro nb3 | (fail_if_success have := nb4); intro nb4 | (fail_if_success have := nb5); intro nb5 | (fail_if_success have := nb6); intro nb6 | (fail_if_success have := nb7); intro nb7 | (fail_if_success have := nb8); intro nb8 | (fail_if_success have := nb9); intro nb9 | (fail_if_success have := nb10); intro nb10 | intro nbz) | (apply Yfr; refine Yf FR fun hFRb FR => ?_) | refine Two.mk ?_ ?_ | (apply Yxc; exact Yx) | refine Cs.mk fun hcs => Sm.out ?_ | go_step | omega | (simp only [maxLen_eq]; omega) | exact trivial
    obtain ⟨l1, hl1⟩ := g
    simp only [List.append_nil]
    have cO1 : ACt Tryd.prog 12 [pt b 0, iv .i64 (p : Int), iv .i64 (q : Int)] (dH b a1 l1) (fun r F' => ∃ x : Nat, r = .tup [pt x 0, .sl 0 [], iv .i64 0] ∧ F' = (x, lgN b p q s [] false) :: dH b a1 l1) := open_up b l1 hI1 hl1
    first | (have FRx := FR; clear FRx) | have FR := fr0S
    have FA := Sm.mk (TFWlQ)
    repeat' first | (apply Sm.mk; refine Ys ?_) | refine WP.seq fun K hK => ?_ | (apply Ob.mk; exact Yo) | refine And.intro (Ob.out ?_) ?_ | ((fail_if_success (show WP _ _ _ (.region 12 _ _) _ _)); refine Y1WlQ ?_) | (first | refine CallV.fn (cO) (Sm.out ?_) | refine ExF.mk (cO) (Sm.out ?_) | refine ExG.mk (fun _ => cO) (Sm.out ?_) | refine ExG.mkJ (fun _ => cO) (Sm.out ?_) | refine ExG.mkI (Ob.out ?_) (fun _ => cO) (Sm.out ?_)) | (refine CallV.exM (cO1) (pmz _) (fun g => Sm.out ?_)) | (refine WCt.exM (cO1) (pmz _) (fun g => Sm.out ?_)) | refine YzWlQ ?_ | (refine WP.cond rfl (fun hc => ?_) (fun hc => ?_) <;> (try simp only [ZC, reduceCtorEq, ZD] at hc) <;> (try exact absurd hc (by decide)) <;> (try (exfalso; omega))) | refine Rt.mk (And.intro (fun hg => Sm.out ?_) fun hg => Sm.out ?_) | (refine Nu.mk ?_; first | (fail_if_success have := nb1); intro nb1 | (fail_if_success have := nb2); intro nb2 | (fail_if_success have := nb3); intro nb3 | (fail_if_success have := nb4); intro nb4 | (fail_if_success have := nb5); intro nb5 | (fail_if_success have := nb6); intro nb6 | (fail_if_success have := nb7); intro nb7 | (fail_if_success have := nb8); intro nb8 | (fail_if_success have := nb9); intro nb9 | (fail_if_success have := nb10); intro nb10 | intro nbz) | (apply Yfr; refine Yf FR fun hFRb FR => ?_) | refine Two.mk ?_ ?_ | (apply Yxc; exact Yx) | refine Cs.mk fun hcs => Sm.out ?_ | go_step | omega | (simp only [maxLen_eq]; omega) | exact trivial
    try simp only [List.append_nil]
    obtain ⟨x, hx⟩ : ∃ x, x = g := ⟨_, rfl⟩
    rw [← hx]
    clear hx
    first | (have FRx := FR; clear FRx) | have FR := fr0S
    have FA := Sm.mk (And.intro TFWlQ w0)
    repeat' first | (apply Sm.mk; refine Ys ?_) | refine WP.seq fun K hK => ?_ | (apply Ob.mk; exact Yo) | refine And.intro (Ob.out ?_) ?_ | refine Y1WlQ ?_ | refine YzWlQ ?_ | (refine WP.cond rfl (fun hc => ?_) (fun hc => ?_) <;> (try simp only [ZC, reduceCtorEq, ZD] at hc) <;> (try exact absurd hc (by decide)) <;> (try (exfalso; omega))) | refine Rt.mk (And.intro (fun hg => Sm.out ?_) fun hg => Sm.out ?_) | (refine Nu.mk ?_; first | (fail_if_success have := nb1); intro nb1 | (fail_if_success have := nb2); intro nb2 | (fail_if_success have := nb3); intro nb3 | (fail_if_success have := nb4); intro nb4 | (fail_if_success have := nb5); intro nb5 | (fail_if_success have := nb6); intro nb6 | (fail_if_success have := nb7); intro nb7 | (fail_if_success have := nb8); intro nb8 | (fail_if_success have := nb9); intro nb9 | (fail_if_success have := nb10); intro nb10 | intro nbz) | (apply Yfr; refine Yf FR fun hFRb FR => ?_) | refine Two.mk ?_ ?_ | (apply Yxc; exact Yx) | refine Cs.mk fun hcs => Sm.out ?_ | go_step | omega | (simp only [maxLen_eq]; omega) | exact trivial
    have hCl := acs_len L
    have hdr := acs_drop L
    obtain ⟨C, hC⟩ : ∃ C, C = acs L := ⟨_, rfl⟩
    rw [← hC] at hCl ⊢
    simp only [← hC] at hdr
    refine WP.loop (Γ := PG) (fun g => ⟨[(21, iv .i64 (g.i : Int)), (0, iv .i64 (n : Int)), (1, iv .i64 (s : Int)), (2, iv .i64 (p : Int)), (3, iv .i64 (q : Int)), (4, .sl L.length C), (11, pt b 0), (12, .lit (.string X)), (17, pt g.x 0), (20, pt nb1 0)], (g.x, lgN b p q s g.M false) :: (mH nb1 (q * s) g.M g.b2 g.cap ++ dH b g.a g.l)⟩)
      (PI s n p q b nb1 P Q L) (fun g => L.length - g.i) ⟨0, l1, a1, x, [], 0, 0⟩ ⟨Nat.zero_le _, by exact ⟨hI1.A.le (by omega), hI1.R, hI1.u, hI1.sm, hI1.hfm, hI1.hm⟩, hf1, hl1, ⟨fun h => absurd rfl h, Nat.zero_le _, by simp only; omega⟩⟩ (Sub.of_env [] (by rw [List.append_nil]; exact .swap _ _ _) (by simp [look])) ?_
    clear hf1 hI1 hl1 cO1 cF cL cA cO cW FR
    obtain ⟨mb, hmb⟩ : ∃ mb, mb = nb1 := ⟨_, rfl⟩
    rw [← hmb]
    clear hmb
    intro ⟨i, l, a, x, M, b2, cap⟩ ⟨hi, hI, hf, hl, hm⟩
    simp only at hi hI hf hl hm ⊢
    have FR : Sm (¬ ((1 : Nat) = 0)) := Sm.mk Nat.one_ne_zero
    have hu := hI.u
    have cU := k_used (f := p) (m := q) (s := s) (M := M) (a := a) b x mb b2 cap l
    have cV := k_rused (f := p) (m := q) (s := s) (a := a) b x mb b2 cap l hm (by omega)
    by_cases hin : i < L.length
    · have ki : decide ((i : Int) < (L.length : Int)) = true := decide_eq_true (by omega)
      have s1 : IntKind.i64.wrap ((i : Int) + 1) = ((i + 1 : Nat) : Int) := by rw [wrap_i64 (by omega) (by omega)]; omega
      have hd := hdr i hin
      have q1 : (i + 1) * 2 ≤ C.length := by omega
      have yl := ub_len (L[i]).z
      have hv2 := hL2 L[i] (List.getElem_mem hin)
      obtain ⟨v, hv⟩ : ∃ x, x = L[i] := ⟨_, rfl⟩
      rw [← hv] at hd yl hv2
      obtain ⟨TR, hTR⟩ : ∃ TR, TR = acs (L.drop (i + 1)) := ⟨_, rfl⟩
      rw [← hTR] at hd
      have cR := k_room (f := p) (m := q) (s := s) (M := M) b x mb b2 cap l hI
      have cWt := k_waits (f := p) (m := q) (s := s) (M := M) b x mb b2 cap l hI.R.st.W
      have wR : IntKind.i64.wrap (((q * s : Nat) : Int) - ((usd M : Nat) : Int)) = ((q * s - usd M : Nat) : Int) := by rw [wrap_i64 (by omega) (by omega)]; omega
      have cUe : (((usd M : Nat) : Int) != ((usd M : Nat) : Int)) = false := by simp
      have cRe : (((q * s - usd M : Nat) : Int) != ((q * s - usd M : Nat) : Int)) = false := by simp
      clear hdr hv hTR
      by_cases e1 : v.kd = 1
      · have c1 : (v.kd == 1) = true := beq_iff_eq.2 e1
        have c2 : (v.kd == 2) = false := beq_eq_false_iff_ne.2 (by omega)
        have c3 : (v.kd == 3) = false := beq_eq_false_iff_ne.2 (by omega)
        by_cases hfu : q * s < usd M + (v.z.length + 10)
        · have cA := look1 (mH mb (q * s) M b2 cap) (append_full b x l hI v.z hfu (by omega))
          have cB := lookM (x, lgN b p q s M false) (dH b a l) (rapp_full_m hm (by omega) v.z (by omega) (by omega) hfu)
          first | (have FRx := FR; clear FRx) | have FR := fr0S
          have FA := Sm.mk (And.intro TFWlQ (And.intro ki (And.intro hd (And.intro q1 (And.intro yl (And.intro c1 (And.intro c2 (And.intro c3 (And.intro w0 (And.intro wR (And.intro s1 (And.intro cUe cRe))))))))))))
          repeat' first | (apply Sm.mk; refine YsWlQ0 ?_) | refine WP.seq fun K hK => ?_ | (apply Ob.mk; exact Yo) | refine And.intro (Ob.out ?_) ?_ | refine Y1WlQ ?_ | refine CallV.updM (cA) (pmz _) (Sm.out ?_) | ((first | refine ExF.up ?_ (cA) (Sm.out ?_) | refine ExG.up ?_ (fun _ => cA) (Sm.out ?_) | refine ExG.upJ ?_ (fun _ => cA) (Sm.out ?_) | refine ExG.upI ?_ (fun _ => cA) (Ob.out ?_) (Sm.out ?_)); focus (exact ⟨_, (pmz _)⟩)) | refine CallV.updM (cB) (pmz _) (Sm.out ?_) | ((first | refine ExF.up ?_ (cB) (Sm.out ?_) | refine ExG.up ?_ (fun _ => cB) (Sm.out ?_) | refine ExG.upJ ?_ (fun _ => cB) (Sm.out ?_) | refine ExG.upI ?_ (fun _ => cB) (Ob.out ?_) (Sm.out ?_)); focus (exact ⟨_, (pmz _)⟩)) | refine CallV.updM (cU) (pmz _) (Sm.out ?_) | ((first | refine ExF.up ?_ (cU) (Sm.out ?_) | refine ExG.up ?_ (fun _ => cU) (Sm.out ?_) | refine ExG.upJ ?_ (fun _ => cU) (Sm.out ?_) | refine ExG.upI ?_ (fun _ => cU) (Ob.out ?_) (Sm.out ?_)); focus (exact ⟨_, (pmz _)⟩)) | refine CallV.updM (cV) (pmz _) (Sm.out ?_) | ((first | refine ExF.up ?_ (cV) (Sm.out ?_) | refine ExG.up ?_ (fun _ => cV) (Sm.out ?_) | refine ExG.upJ ?_ (fun _ => cV) (Sm.out ?_) | refine ExG.upI ?_ (fun _ => cV) (Ob.out ?_) (Sm.out ?_)); focus (exact ⟨_, (pmz _)⟩)) | refine CallV.updM (cR) (pmz _) (Sm.out ?_) | ((first | refine ExF.up ?_ (cR) (Sm.out ?_) | refine ExG.up ?_ (fun _ => cR) (Sm.out ?_) | refine ExG.upJ ?_ (fun _ => cR) (Sm.out ?_) | refine ExG.upI ?_ (fun _ => cR) (Ob.out ?_) (Sm.out ?_)); focus (exact ⟨_, (pmz _)⟩)) | refine CallV.updM (cWt) (pmz _) (Sm.out ?_) | ((first | refine ExF.up ?_ (cWt) (Sm.out ?_) | refine ExG.up ?_ (fun _ => cWt) (Sm.out ?_) | refine ExG.upJ ?_ (fun _ => cWt) (Sm.out ?_) | refine ExG.upI ?_ (fun _ => cWt) (Ob.out ?_) (Sm.out ?_)); focus (exact ⟨_, (pmz _)⟩)) | refine YzWlQ ?_ | (refine WP.cond rfl (fun hc => ?_) (fun hc => ?_) <;> (try simp only [ZC, reduceCtorEq, ZD] at hc) <;> (try exact absurd hc (by decide)) <;> (try (exfalso; omega))) | refine Rt.mk (And.intro (fun hg => Sm.out ?_) fun hg => Sm.out ?_) | (refine Nu.mk ?_; first | (fail_if_success have := nb1); intro nb1 | (fail_if_success have := nb2); intro nb2 | (fail_if_success have := nb3); intro nb3 | (fail_if_success have := nb4); intro nb4 | (fail_if_success have := nb5); intro nb5 | (fail_if_success have := nb6); intro nb6 | (fail_if_success have := nb7); intro nb7 | (fail_if_success have := nb8); intro nb8 | (fail_if_success have := nb9); intro nb9 | (fail_if_success have := nb10); intro nb10 | intro nbz) | (apply Yfr; refine Yf FR fun hFRb FR => ?_) | refine Two.mk ?_ ?_ | (apply Yxc; exact Yx) | refine Cs.mk fun hcs => Sm.out ?_ | go_step | omega | (simp only [maxLen_eq]; omega) | exact trivial
          exact ⟨⟨i + 1, l, a, x, M, b2, cap⟩, ⟨by simp only; omega, hI.up (by simp only; omega), hf, hl, hm⟩, by simp only; omega, Sub.of_env [] (pmz _) (by simp [look, s1])⟩
        · clear cU cV cR cWt wR cUe cRe
          have cA := lift1 (mH mb (q * s) M b2 cap) (append_up b x l hI hl v.z (by omega) (by omega) hf (by omega))
          have cB := rapp_ok_m (A := q * s) hm (by omega) v.z (by omega) (by omega)
          obtain ⟨-, hf', hI'⟩ := hI.app v.z (by omega) hf
          obtain ⟨a2, ha2⟩ : ∃ a2, a2 = (apX p s q M a v.z).1 := ⟨_, rfl⟩
          rw [← ha2] at cA hf' hI'
          obtain ⟨M2, hM2⟩ : ∃ M2, M2 = M ++ [v.z] := ⟨_, rfl⟩
          rw [← hM2] at cA cB hI'
          first | (have FRx := FR; clear FRx) | have FR := fr0S
          have FA := Sm.mk (And.intro TFWlQ ki)
          repeat' first | (apply Sm.mk; refine Ys ?_) | refine WP.seq fun K hK => ?_ | (apply Ob.mk; exact Yo) | refine And.intro (Ob.out ?_) ?_ | ((fail_if_success (show WP _ _ _ (.region 18 _ _) _ _)); refine Y1WlQ ?_) | refine YzWlQ ?_ | (refine WP.cond rfl (fun hc => ?_) (fun hc => ?_) <;> (try simp only [ZC, reduceCtorEq, ZD] at hc) <;> (try exact absurd hc (by decide)) <;> (try (exfalso; omega))) | refine Rt.mk (And.intro (fun hg => Sm.out ?_) fun hg => Sm.out ?_) | (refine Nu.mk ?_; first | (fail_if_success have := nb1); intro nb1 | (fail_if_success have := nb2); intro nb2 | (fail_if_success have := nb3); intro nb3 | (fail_if_success have := nb4); intro nb4 | (fail_if_success have := nb5); intro nb5 | (fail_if_success have := nb6); intro nb6 | (fail_if_success have := nb7); intro nb7 | (fail_if_success have := nb8); intro nb8 | (fail_if_success have := nb9); intro nb9 | (fail_if_success have := nb10); intro nb10 | intro nbz) | (apply Yfr; refine Yf FR fun hFRb FR => ?_) | refine Two.mk ?_ ?_ | (apply Yxc; exact Yx) | refine Cs.mk fun hcs => Sm.out ?_ | go_step | omega | (simp only [maxLen_eq]; omega) | exact trivial
          refine WP.drawGA (cs := [13, 20]) (k := 21) mixed (by decide +kernel) (by decide +kernel) (by decide +kernel) (by decide +kernel) (Sm.out ?_)
          first | (have FRx := FR; clear FRx) | have FR := fr0S
          have FA := Sm.mk (And.intro TFWlQ (And.intro ki (And.intro hd (And.intro q1 (And.intro yl (And.intro c1 (And.intro c2 c3)))))))
          repeat' first | (apply Sm.mk; refine YsWlQ1 ?_) | refine WP.seq fun K hK => ?_ | (apply Ob.mk; exact Yo) | refine And.intro (Ob.out ?_) ?_ | refine Y1WlQ ?_ | (refine CallV.exM (cA) (pmz _) (fun g1 => Sm.out ?_)) | (refine WCt.exM (cA) (pmz _) (fun g1 => Sm.out ?_)) | (refine CallV.exM ((liftM (x, lgN b p q s M2 false) (dH b a2 g1.1) cB)) (pmz _) (fun g2 => Sm.out ?_)) | (refine WCt.exM ((liftM (x, lgN b p q s M2 false) (dH b a2 g1.1) cB)) (pmz _) (fun g2 => Sm.out ?_)) | refine YzWlQ ?_ | ((fail_if_success (show WP _ _ _ (.cond _ _ _) _ _)); refine WP.cond rfl (fun hc => ?_) (fun hc => ?_) <;> (try simp only [ZC, reduceCtorEq, ZD] at hc) <;> (try exact absurd hc (by decide)) <;> (try (exfalso; omega))) | refine Rt.mk (And.intro (fun hg => Sm.out ?_) fun hg => Sm.out ?_) | (refine Nu.mk ?_; first | (fail_if_success have := nb1); intro nb1 | (fail_if_success have := nb2); intro nb2 | (fail_if_success have := nb3); intro nb3 | (fail_if_success have := nb4); intro nb4 | (fail_if_success have := nb5); intro nb5 | (fail_if_success have := nb6); intro nb6 | (fail_if_success have := nb7); intro nb7 | (fail_if_success have := nb8); intro nb8 | (fail_if_success have := nb9); intro nb9 | (fail_if_success have := nb10); intro nb10 | intro nbz) | (apply Yfr; refine Yf FR fun hFRb FR => ?_) | refine Two.mk ?_ ?_ | (apply Yxc; exact Yx) | refine Cs.mk fun hcs => Sm.out ?_ | go_step | omega | (simp only [maxLen_eq]; omega) | exact trivial
          obtain ⟨l2, hl2⟩ := g1
          obtain ⟨⟨b3, cap3⟩, hm2⟩ := g2
          simp only [List.append_nil] at hm2 ⊢
          have hu2 := hI'.u
          have cU := k_used (f := p) (m := q) (s := s) (M := M2) (a := a2) b x mb b3 cap3 l2
          have cV := k_rused (f := p) (m := q) (s := s) (a := a2) b x mb b3 cap3 l2 hm2 (by omega)
          have cR := k_room (f := p) (m := q) (s := s) (M := M2) b x mb b3 cap3 l2 hI'
          have cWt := k_waits (f := p) (m := q) (s := s) (M := M2) b x mb b3 cap3 l2 hI'.R.st.W
          have wR : IntKind.i64.wrap (((q * s : Nat) : Int) - ((usd M2 : Nat) : Int)) = ((q * s - usd M2 : Nat) : Int) := by rw [wrap_i64 (by omega) (by omega)]; omega
          have cUe : (((usd M2 : Nat) : Int) != ((usd M2 : Nat) : Int)) = false := by simp
          have cRe : (((q * s - usd M2 : Nat) : Int) != ((q * s - usd M2 : Nat) : Int)) = false := by simp
          first | (have FRx := FR; clear FRx) | have FR := fr0S
          have FA := Sm.mk (And.intro TFWlQ (And.intro hd (And.intro q1 (And.intro yl (And.intro c1 (And.intro c2 (And.intro c3 (And.intro w0 (And.intro wR (And.intro s1 (And.intro cUe cRe)))))))))))
          repeat' first | (apply Sm.mk; refine YsWlQ0 ?_) | refine WP.seq fun K hK => ?_ | (apply Ob.mk; exact Yo) | refine And.intro (Ob.out ?_) ?_ | refine Y1WlQ ?_ | refine CallV.updM (cU) (pmz _) (Sm.out ?_) | ((first | refine ExF.up ?_ (cU) (Sm.out ?_) | refine ExG.up ?_ (fun _ => cU) (Sm.out ?_) | refine ExG.upJ ?_ (fun _ => cU) (Sm.out ?_) | refine ExG.upI ?_ (fun _ => cU) (Ob.out ?_) (Sm.out ?_)); focus (exact ⟨_, (pmz _)⟩)) | refine CallV.updM (cV) (pmz _) (Sm.out ?_) | ((first | refine ExF.up ?_ (cV) (Sm.out ?_) | refine ExG.up ?_ (fun _ => cV) (Sm.out ?_) | refine ExG.upJ ?_ (fun _ => cV) (Sm.out ?_) | refine ExG.upI ?_ (fun _ => cV) (Ob.out ?_) (Sm.out ?_)); focus (exact ⟨_, (pmz _)⟩)) | refine CallV.updM (cR) (pmz _) (Sm.out ?_) | ((first | refine ExF.up ?_ (cR) (Sm.out ?_) | refine ExG.up ?_ (fun _ => cR) (Sm.out ?_) | refine ExG.upJ ?_ (fun _ => cR) (Sm.out ?_) | refine ExG.upI ?_ (fun _ => cR) (Ob.out ?_) (Sm.out ?_)); focus (exact ⟨_, (pmz _)⟩)) | refine CallV.updM (cWt) (pmz _) (Sm.out ?_) | ((first | refine ExF.up ?_ (cWt) (Sm.out ?_) | refine ExG.up ?_ (fun _ => cWt) (Sm.out ?_) | refine ExG.upJ ?_ (fun _ => cWt) (Sm.out ?_) | refine ExG.upI ?_ (fun _ => cWt) (Ob.out ?_) (Sm.out ?_)); focus (exact ⟨_, (pmz _)⟩)) | refine YzWlQ ?_ | (refine WP.cond rfl (fun hc => ?_) (fun hc => ?_) <;> (try simp only [ZC, reduceCtorEq, ZD] at hc) <;> (try exact absurd hc (by decide)) <;> (try (exfalso; omega))) | refine Rt.mk (And.intro (fun hg => Sm.out ?_) fun hg => Sm.out ?_) | (refine Nu.mk ?_; first | (fail_if_success have := nb1); intro nb1 | (fail_if_success have := nb2); intro nb2 | (fail_if_success have := nb3); intro nb3 | (fail_if_success have := nb4); intro nb4 | (fail_if_success have := nb5); intro nb5 | (fail_if_success have := nb6); intro nb6 | (fail_if_success have := nb7); intro nb7 | (fail_if_success have := nb8); intro nb8 | (fail_if_success have := nb9); intro nb9 | (fail_if_success have := nb10); intro nb10 | intro nbz) | (apply Yfr; refine Yf FR fun hFRb FR => ?_) | refine Two.mk ?_ ?_ | (apply Yxc; exact Yx) | refine Cs.mk fun hcs => Sm.out ?_ | go_step | omega | (simp only [maxLen_eq]; omega) | exact trivial
          exact ⟨⟨i + 1, l2, a2, x, M2, b3, cap3⟩, ⟨by simp only; omega, hI'.up (by simp only; omega), hf', hl2, hm2⟩, by simp only; omega, Sub.of_env [] (pmz _) (by simp [look, s1])⟩
      have c1 : (v.kd == 1) = false := beq_eq_false_iff_ne.2 e1
      by_cases e3 : v.kd = 3
      · have c3 : (v.kd == 3) = true := beq_iff_eq.2 e3
        have c2 : (v.kd == 2) = false := beq_eq_false_iff_ne.2 (by omega)
        clear cU cV cR cWt wR cUe cRe
        have hF := LgI.fmt hI.A hI.R hpq hq1 hf
        have cF : ACt Tryd.prog 10 [pt b 0, iv .i64 (p : Int), iv .i64 (q : Int)] ((x, lgN b p q s M false) :: (mH mb (q * s) [] 0 0 ++ dH b a l)) (fun r F' => ∃ g : LS b (fmX p s q a).1, r = iv .i64 0 ∧ F' = (x, lgN b p q s M false) :: (mH mb (q * s) [] 0 0 ++ dH b (fmX p s q a).1 g.1)) := lift0 ((x, lgN b p q s M false) :: mH mb (q * s) [] 0 0) (format_up b l hI.A hI.R hl hpq hq1 hf (by omega))
        rw [mH_eq mb (q * s) M b2 cap, List.cons_append]
        (refine WP.nd fun hnd => ?_; simp only [ndF, fresh_cons, fresh_nil, and_true, ne_eq] at hnd; replace FR := Sm.mk (And.intro hnd FR.out); clear hnd)
        first | (have FRx := FR; clear FRx) | have FR := fr0S
        have FA := Sm.mk (And.intro TFWlQ (And.intro ki (And.intro hd (And.intro q1 (And.intro yl (And.intro c1 c3))))))
        repeat' first | (apply Sm.mk; refine YsWlQ0 ?_) | refine WP.seq fun K hK => ?_ | (apply Ob.mk; exact Yo) | refine And.intro (Ob.out ?_) ?_ | ((fail_if_success (show WP _ _ _ (.region 22 _ _) _ _)); refine Y1WlQ ?_) | refine YzWlQ ?_ | (refine WP.cond rfl (fun hc => ?_) (fun hc => ?_) <;> (try simp only [ZC, reduceCtorEq, ZD] at hc) <;> (try exact absurd hc (by decide)) <;> (try (exfalso; omega))) | refine Rt.mk (And.intro (fun hg => Sm.out ?_) fun hg => Sm.out ?_) | (refine Nu.mk ?_; first | (fail_if_success have := nb1); intro nb1 | (fail_if_success have := nb2); intro nb2 | (fail_if_success have := nb3); intro nb3 | (fail_if_success have := nb4); intro nb4 | (fail_if_success have := nb5); intro nb5 | (fail_if_success have := nb6); intro nb6 | (fail_if_success have := nb7); intro nb7 | (fail_if_success have := nb8); intro nb8 | (fail_if_success have := nb9); intro nb9 | (fail_if_success have := nb10); intro nb10 | intro nbz) | (apply Yfr; refine Yf FR fun hFRb FR => ?_) | refine Two.mk ?_ ?_ | (apply Yxc; exact Yx) | refine Cs.mk fun hcs => Sm.out ?_ | go_step | omega | (simp only [maxLen_eq]; omega) | exact trivial
        refine WP.sub (s' := ⟨[(21, iv .i64 (i : Int)), (0, iv .i64 (n : Int)), (1, iv .i64 (s : Int)), (2, iv .i64 (p : Int)), (3, iv .i64 (q : Int)), (4, .sl L.length C), (11, pt b 0), (12, .lit (.string X)), (17, pt x 0), (20, pt mb 0)], (x, lgN b p q s M false) :: (mH mb (q * s) [] 0 0 ++ dH b a l)⟩) (Sub.of_env (mR M b2 cap) (by exact List.Perm.cons _ (List.Perm.cons _ (List.perm_append_comm))) (by simp [look])) ?_
        first | (have FRx := FR; clear FRx) | have FR := fr0S
        have FA := Sm.mk (TFWlQ)
        repeat' first | (apply Sm.mk; refine Ys ?_) | refine WP.seq fun K hK => ?_ | (apply Ob.mk; exact Yo) | refine And.intro (Ob.out ?_) ?_ | ((fail_if_success (show WP _ _ _ (.region 24 _ _) _ _)); refine Y1WlQ ?_) | (refine CallV.exM (cF) (pmz _) (fun g => Sm.out ?_)) | (refine WCt.exM (cF) (pmz _) (fun g => Sm.out ?_)) | refine YzWlQ ?_ | (refine WP.cond rfl (fun hc => ?_) (fun hc => ?_) <;> (try simp only [ZC, reduceCtorEq, ZD] at hc) <;> (try exact absurd hc (by decide)) <;> (try (exfalso; omega))) | refine Rt.mk (And.intro (fun hg => Sm.out ?_) fun hg => Sm.out ?_) | (refine Nu.mk ?_; first | (fail_if_success have := nb1); intro nb1 | (fail_if_success have := nb2); intro nb2 | (fail_if_success have := nb3); intro nb3 | (fail_if_success have := nb4); intro nb4 | (fail_if_success have := nb5); intro nb5 | (fail_if_success have := nb6); intro nb6 | (fail_if_success have := nb7); intro nb7 | (fail_if_success have := nb8); intro nb8 | (fail_if_success have := nb9); intro nb9 | (fail_if_success have := nb10); intro nb10 | intro nbz) | (apply Yfr; refine Yf FR fun hFRb FR => ?_) | refine Two.mk ?_ ?_ | (apply Yxc; exact Yx) | refine Cs.mk fun hcs => Sm.out ?_ | go_step | omega | (simp only [maxLen_eq]; omega) | exact trivial
        obtain ⟨l2, hl2⟩ := g
        try simp only [List.append_nil]
        obtain ⟨a2, ha2⟩ : ∃ a2, a2 = (fmX p s q a).1 := ⟨_, rfl⟩
        rw [← ha2] at hF hl2 ⊢
        obtain ⟨-, hf', hI'⟩ := hF
        have hm' : MOkL mb [] 0 0 := ⟨fun h => absurd rfl h, Nat.zero_le _, by omega⟩
        have hu' := hI'.u
        have wR : IntKind.i64.wrap (((q * s : Nat) : Int) - ((usd [] : Nat) : Int)) = ((q * s - usd [] : Nat) : Int) := by rw [wrap_i64 (by omega) (by omega)]; omega
        have cUe : (((usd [] : Nat) : Int) != ((usd [] : Nat) : Int)) = false := by simp
        have cRe : (((q * s - usd [] : Nat) : Int) != ((q * s - usd [] : Nat) : Int)) = false := by simp
        clear hI hl hm hf cF hu
        obtain ⟨E, hE⟩ : ∃ E : List Bs, E = [] := ⟨_, rfl⟩
        rw [← hE] at hm' hI' hu' wR cUe cRe ⊢
        clear hE ha2
        have cDe : ((a2.de : Int) != (a2.de : Int)) = false := by simp
        have cD : ACt Tryd.prog 15 [pt b 0] ((x, lgN b p q s M false) :: (mH mb (q * s) E 0 0 ++ dH b a2 l2)) (fun r F' => r = iv .i64 (a2.de : Int) ∧ F' = (x, lgN b p q s M false) :: (mH mb (q * s) E 0 0 ++ dH b a2 l2)) := look0 ((x, lgN b p q s M false) :: mH mb (q * s) E 0 0) (deeds_d b a2 l2)
        have cP : ACt Tryd.prog 12 [pt b 0, iv .i64 (p : Int), iv .i64 (q : Int)] ((x, lgN b p q s M false) :: (mH mb (q * s) E 0 0 ++ dH b a2 l2)) (fun r F' => ∃ x2 : Nat, r = .tup [pt x2 0, .sl E.length (rowsA E), iv .i64 0] ∧ F' = (x, lgN b p q s M false) :: (mH mb (q * s) E 0 0 ++ (x2, lgN b p q s E false) :: dH b a2 l2)) := lift0 ((x, lgN b p q s M false) :: mH mb (q * s) E 0 0) (open_up b l2 hI' hl2)
        first | (have FRx := FR; clear FRx) | have FR := fr0S
        have FA := Sm.mk (And.intro TFWlQ (And.intro ki (And.intro hd (And.intro q1 (And.intro yl (And.intro c1 (And.intro c2 c3)))))))
        repeat' first | (apply Sm.mk; refine YsWlQ0 ?_) | refine WP.seq fun K hK => ?_ | (apply Ob.mk; exact Yo) | refine And.intro (Ob.out ?_) ?_ | ((fail_if_success (show WP _ _ _ (.region 27 _ _) _ _)); refine Y1WlQ ?_) | refine CallV.updM (cD) (pmz _) (Sm.out ?_) | ((first | refine ExF.up ?_ (cD) (Sm.out ?_) | refine ExG.up ?_ (fun _ => cD) (Sm.out ?_) | refine ExG.upJ ?_ (fun _ => cD) (Sm.out ?_) | refine ExG.upI ?_ (fun _ => cD) (Ob.out ?_) (Sm.out ?_)); focus (exact ⟨_, (pmz _)⟩)) | (refine CallV.exM (cP) (pmz _) (fun g => Sm.out ?_)) | (refine WCt.exM (cP) (pmz _) (fun g => Sm.out ?_)) | refine YzWlQ ?_ | (refine WP.cond rfl (fun hc => ?_) (fun hc => ?_) <;> (try simp only [ZC, reduceCtorEq, ZD] at hc) <;> (try exact absurd hc (by decide)) <;> (try (exfalso; omega))) | refine Rt.mk (And.intro (fun hg => Sm.out ?_) fun hg => Sm.out ?_) | (refine Nu.mk ?_; first | (fail_if_success have := nb1); intro nb1 | (fail_if_success have := nb2); intro nb2 | (fail_if_success have := nb3); intro nb3 | (fail_if_success have := nb4); intro nb4 | (fail_if_success have := nb5); intro nb5 | (fail_if_success have := nb6); intro nb6 | (fail_if_success have := nb7); intro nb7 | (fail_if_success have := nb8); intro nb8 | (fail_if_success have := nb9); intro nb9 | (fail_if_success have := nb10); intro nb10 | intro nbz) | (apply Yfr; refine Yf FR fun hFRb FR => ?_) | refine Two.mk ?_ ?_ | (apply Yxc; exact Yx) | refine Cs.mk fun hcs => Sm.out ?_ | go_step | omega | (simp only [maxLen_eq]; omega) | exact trivial
        try simp only [List.append_nil]
        obtain ⟨x2, hx2⟩ : ∃ x2, x2 = g := ⟨_, rfl⟩
        rw [← hx2]
        clear hx2
        refine WP.sub (s' := ⟨[(19, iv .i64 0), (18, .sl E.length (rowsA E)), (22, iv .i64 (a2.de : Int)), (21, iv .i64 (i : Int)), (0, iv .i64 (n : Int)), (1, iv .i64 (s : Int)), (2, iv .i64 (p : Int)), (3, iv .i64 (q : Int)), (4, .sl L.length C), (11, pt b 0), (12, .lit (.string X)), (17, pt x2 0), (20, pt mb 0)], (x2, lgN b p q s E false) :: (mb, .cells [mV E 0 0, iv .i64 ((q * s : Nat) : Int)] 2 37) :: (mR E 0 0 ++ dH b a2 l2)⟩) (Sub.of_env [(x, lgN b p q s M false)] (by rw [mH_eq]; exact pm_out _ _ _ _) (by simp [look])) ?_
        (refine WP.nd fun hnd => ?_; simp only [ndF, fresh_cons, fresh_nil, and_true, ne_eq] at hnd; replace FR := Sm.mk (And.intro hnd FR.out); clear hnd)
        have cU := k_used (f := p) (m := q) (s := s) (M := E) (a := a2) b x2 mb 0 0 l2
        have cV := k_rused (f := p) (m := q) (s := s) (a := a2) b x2 mb 0 0 l2 hm' (by omega)
        have cR := k_room (f := p) (m := q) (s := s) (M := E) b x2 mb 0 0 l2 hI'
        have cWt := k_waits (f := p) (m := q) (s := s) (M := E) b x2 mb 0 0 l2 hI'.R.st.W
        have cD := k_deeds (f := p) (m := q) (s := s) (M := E) (a := a2) b x2 mb 0 0 l2
        have cS := k_same (f := p) (m := q) (s := s) (a := a2) b x2 mb 0 0 l2 hm' E (by have := len_le E; omega) (by have := len_le E; omega)
        rw [decide_eq_true rfl] at cS
        simp only [mH_eq, List.cons_append] at cU cV cR cWt cD
        first | (have FRx := FR; clear FRx) | have FR := fr0S
        have FA := Sm.mk (And.intro TFWlQ (And.intro ki (And.intro hd (And.intro q1 (And.intro yl (And.intro c1 (And.intro c2 (And.intro c3 (And.intro w0 (And.intro wR (And.intro s1 (And.intro cUe (And.intro cRe cDe)))))))))))))
        repeat' first | (apply Sm.mk; refine YsWlQ0 ?_) | refine WP.seq fun K hK => ?_ | (apply Ob.mk; exact Yo) | refine And.intro (Ob.out ?_) ?_ | refine Y1WlQ ?_ | refine CallV.updM (cU) (pmz _) (Sm.out ?_) | ((first | refine ExF.up ?_ (cU) (Sm.out ?_) | refine ExG.up ?_ (fun _ => cU) (Sm.out ?_) | refine ExG.upJ ?_ (fun _ => cU) (Sm.out ?_) | refine ExG.upI ?_ (fun _ => cU) (Ob.out ?_) (Sm.out ?_)); focus (exact ⟨_, (pmz _)⟩)) | refine CallV.updM (cV) (pmz _) (Sm.out ?_) | ((first | refine ExF.up ?_ (cV) (Sm.out ?_) | refine ExG.up ?_ (fun _ => cV) (Sm.out ?_) | refine ExG.upJ ?_ (fun _ => cV) (Sm.out ?_) | refine ExG.upI ?_ (fun _ => cV) (Ob.out ?_) (Sm.out ?_)); focus (exact ⟨_, (pmz _)⟩)) | refine CallV.updM (cR) (pmz _) (Sm.out ?_) | ((first | refine ExF.up ?_ (cR) (Sm.out ?_) | refine ExG.up ?_ (fun _ => cR) (Sm.out ?_) | refine ExG.upJ ?_ (fun _ => cR) (Sm.out ?_) | refine ExG.upI ?_ (fun _ => cR) (Ob.out ?_) (Sm.out ?_)); focus (exact ⟨_, (pmz _)⟩)) | refine CallV.updM (cWt) (pmz _) (Sm.out ?_) | ((first | refine ExF.up ?_ (cWt) (Sm.out ?_) | refine ExG.up ?_ (fun _ => cWt) (Sm.out ?_) | refine ExG.upJ ?_ (fun _ => cWt) (Sm.out ?_) | refine ExG.upI ?_ (fun _ => cWt) (Ob.out ?_) (Sm.out ?_)); focus (exact ⟨_, (pmz _)⟩)) | refine CallV.updM (cD) (pmz _) (Sm.out ?_) | ((first | refine ExF.up ?_ (cD) (Sm.out ?_) | refine ExG.up ?_ (fun _ => cD) (Sm.out ?_) | refine ExG.upJ ?_ (fun _ => cD) (Sm.out ?_) | refine ExG.upI ?_ (fun _ => cD) (Ob.out ?_) (Sm.out ?_)); focus (exact ⟨_, (pmz _)⟩)) | refine CallV.updM (cS) (pmz _) (Sm.out ?_) | ((first | refine ExF.up ?_ (cS) (Sm.out ?_) | refine ExG.up ?_ (fun _ => cS) (Sm.out ?_) | refine ExG.upJ ?_ (fun _ => cS) (Sm.out ?_) | refine ExG.upI ?_ (fun _ => cS) (Ob.out ?_) (Sm.out ?_)); focus (exact ⟨_, (pmz _)⟩)) | refine YzWlQ ?_ | (refine WP.cond rfl (fun hc => ?_) (fun hc => ?_) <;> (try simp only [ZC, reduceCtorEq, ZD] at hc) <;> (try exact absurd hc (by decide)) <;> (try (exfalso; omega))) | refine Rt.mk (And.intro (fun hg => Sm.out ?_) fun hg => Sm.out ?_) | (refine Nu.mk ?_; first | (fail_if_success have := nb1); intro nb1 | (fail_if_success have := nb2); intro nb2 | (fail_if_success have := nb3); intro nb3 | (fail_if_success have := nb4); intro nb4 | (fail_if_success have := nb5); intro nb5 | (fail_if_success have := nb6); intro nb6 | (fail_if_success have := nb7); intro nb7 | (fail_if_success have := nb8); intro nb8 | (fail_if_success have := nb9); intro nb9 | (fail_if_success have := nb10); intro nb10 | intro nbz) | (apply Yfr; refine Yf FR fun hFRb FR => ?_) | refine Two.mk ?_ ?_ | (apply Yxc; exact Yx) | refine Cs.mk fun hcs => Sm.out ?_ | go_step | omega | (simp only [maxLen_eq]; omega) | exact trivial
        exact ⟨⟨i + 1, l2, a2, x2, E, 0, 0⟩, ⟨by simp only; omega, hI'.up (by simp only; omega), hf', hl2, hm'⟩, by simp only; omega, Sub.of_env [] (by simp only [mH_eq]; exact pmz _) (by simp [look, s1])⟩
      have c3 : (v.kd == 3) = false := beq_eq_false_iff_ne.2 e3
      by_cases e2 : v.kd = 2
      · have c2 : (v.kd == 2) = true := beq_iff_eq.2 e2
        have cDe : ((a.de : Int) != (a.de : Int)) = false := by simp
        have cD : ACt Tryd.prog 15 [pt b 0] ((x, lgN b p q s M false) :: (mH mb (q * s) M b2 cap ++ dH b a l)) (fun r F' => r = iv .i64 (a.de : Int) ∧ F' = (x, lgN b p q s M false) :: (mH mb (q * s) M b2 cap ++ dH b a l)) := look0 ((x, lgN b p q s M false) :: mH mb (q * s) M b2 cap) (deeds_d b a l)
        have cP : ACt Tryd.prog 12 [pt b 0, iv .i64 (p : Int), iv .i64 (q : Int)] ((x, lgN b p q s M false) :: (mH mb (q * s) M b2 cap ++ dH b a l)) (fun r F' => ∃ x2 : Nat, r = .tup [pt x2 0, .sl M.length (rowsA M), iv .i64 0] ∧ F' = (x, lgN b p q s M false) :: (mH mb (q * s) M b2 cap ++ (x2, lgN b p q s M false) :: dH b a l)) := lift0 ((x, lgN b p q s M false) :: mH mb (q * s) M b2 cap) (open_up b l hI hl)
        clear cU cV cR cWt
        first | (have FRx := FR; clear FRx) | have FR := fr0S
        have FA := Sm.mk (And.intro TFWlQ (And.intro ki (And.intro hd (And.intro q1 (And.intro yl (And.intro c1 (And.intro c2 c3)))))))
        repeat' first | (apply Sm.mk; refine YsWlQ0 ?_) | refine WP.seq fun K hK => ?_ | (apply Ob.mk; exact Yo) | refine And.intro (Ob.out ?_) ?_ | ((fail_if_success (show WP _ _ _ (.region 27 _ _) _ _)); refine Y1WlQ ?_) | refine CallV.updM (cD) (pmz _) (Sm.out ?_) | ((first | refine ExF.up ?_ (cD) (Sm.out ?_) | refine ExG.up ?_ (fun _ => cD) (Sm.out ?_) | refine ExG.upJ ?_ (fun _ => cD) (Sm.out ?_) | refine ExG.upI ?_ (fun _ => cD) (Ob.out ?_) (Sm.out ?_)); focus (exact ⟨_, (pmz _)⟩)) | (refine CallV.exM (cP) (pmz _) (fun g => Sm.out ?_)) | (refine WCt.exM (cP) (pmz _) (fun g => Sm.out ?_)) | refine YzWlQ ?_ | (refine WP.cond rfl (fun hc => ?_) (fun hc => ?_) <;> (try simp only [ZC, reduceCtorEq, ZD] at hc) <;> (try exact absurd hc (by decide)) <;> (try (exfalso; omega))) | refine Rt.mk (And.intro (fun hg => Sm.out ?_) fun hg => Sm.out ?_) | (refine Nu.mk ?_; first | (fail_if_success have := nb1); intro nb1 | (fail_if_success have := nb2); intro nb2 | (fail_if_success have := nb3); intro nb3 | (fail_if_success have := nb4); intro nb4 | (fail_if_success have := nb5); intro nb5 | (fail_if_success have := nb6); intro nb6 | (fail_if_success have := nb7); intro nb7 | (fail_if_success have := nb8); intro nb8 | (fail_if_success have := nb9); intro nb9 | (fail_if_success have := nb10); intro nb10 | intro nbz) | (apply Yfr; refine Yf FR fun hFRb FR => ?_) | refine Two.mk ?_ ?_ | (apply Yxc; exact Yx) | refine Cs.mk fun hcs => Sm.out ?_ | go_step | omega | (simp only [maxLen_eq]; omega) | exact trivial
        try simp only [List.append_nil]
        obtain ⟨x2, hx2⟩ : ∃ x2, x2 = g := ⟨_, rfl⟩
        rw [← hx2]
        clear hx2
        refine WP.sub (s' := ⟨[(19, iv .i64 0), (18, .sl M.length (rowsA M)), (22, iv .i64 (a.de : Int)), (21, iv .i64 (i : Int)), (0, iv .i64 (n : Int)), (1, iv .i64 (s : Int)), (2, iv .i64 (p : Int)), (3, iv .i64 (q : Int)), (4, .sl L.length C), (11, pt b 0), (12, .lit (.string X)), (17, pt x2 0), (20, pt mb 0)], (x2, lgN b p q s M false) :: (mb, .cells [mV M b2 cap, iv .i64 ((q * s : Nat) : Int)] 2 37) :: (mR M b2 cap ++ dH b a l)⟩) (Sub.of_env [(x, lgN b p q s M false)] (by rw [mH_eq]; exact pm_out _ _ _ _) (by simp [look])) ?_
        (refine WP.nd fun hnd => ?_; simp only [ndF, fresh_cons, fresh_nil, and_true, ne_eq] at hnd; replace FR := Sm.mk (And.intro hnd FR.out); clear hnd)
        have cU := k_used (f := p) (m := q) (s := s) (M := M) (a := a) b x2 mb b2 cap l
        have cV := k_rused (f := p) (m := q) (s := s) (a := a) b x2 mb b2 cap l hm (by omega)
        have cR := k_room (f := p) (m := q) (s := s) (M := M) b x2 mb b2 cap l hI
        have cWt := k_waits (f := p) (m := q) (s := s) (M := M) b x2 mb b2 cap l hI.R.st.W
        have cD := k_deeds (f := p) (m := q) (s := s) (M := M) (a := a) b x2 mb b2 cap l
        have cS := k_same (f := p) (m := q) (s := s) (a := a) b x2 mb b2 cap l hm M (by have := len_le M; omega) (by have := len_le M; omega)
        rw [decide_eq_true rfl] at cS
        simp only [mH_eq, List.cons_append] at cU cV cR cWt cD
        first | (have FRx := FR; clear FRx) | have FR := fr0S
        have FA := Sm.mk (And.intro TFWlQ (And.intro ki (And.intro hd (And.intro q1 (And.intro yl (And.intro c1 (And.intro c2 (And.intro c3 (And.intro w0 (And.intro wR (And.intro s1 (And.intro cUe (And.intro cRe cDe)))))))))))))
        repeat' first | (apply Sm.mk; refine YsWlQ0 ?_) | refine WP.seq fun K hK => ?_ | (apply Ob.mk; exact Yo) | refine And.intro (Ob.out ?_) ?_ | refine Y1WlQ ?_ | refine CallV.updM (cU) (pmz _) (Sm.out ?_) | ((first | refine ExF.up ?_ (cU) (Sm.out ?_) | refine ExG.up ?_ (fun _ => cU) (Sm.out ?_) | refine ExG.upJ ?_ (fun _ => cU) (Sm.out ?_) | refine ExG.upI ?_ (fun _ => cU) (Ob.out ?_) (Sm.out ?_)); focus (exact ⟨_, (pmz _)⟩)) | refine CallV.updM (cV) (pmz _) (Sm.out ?_) | ((first | refine ExF.up ?_ (cV) (Sm.out ?_) | refine ExG.up ?_ (fun _ => cV) (Sm.out ?_) | refine ExG.upJ ?_ (fun _ => cV) (Sm.out ?_) | refine ExG.upI ?_ (fun _ => cV) (Ob.out ?_) (Sm.out ?_)); focus (exact ⟨_, (pmz _)⟩)) | refine CallV.updM (cR) (pmz _) (Sm.out ?_) | ((first | refine ExF.up ?_ (cR) (Sm.out ?_) | refine ExG.up ?_ (fun _ => cR) (Sm.out ?_) | refine ExG.upJ ?_ (fun _ => cR) (Sm.out ?_) | refine ExG.upI ?_ (fun _ => cR) (Ob.out ?_) (Sm.out ?_)); focus (exact ⟨_, (pmz _)⟩)) | refine CallV.updM (cWt) (pmz _) (Sm.out ?_) | ((first | refine ExF.up ?_ (cWt) (Sm.out ?_) | refine ExG.up ?_ (fun _ => cWt) (Sm.out ?_) | refine ExG.upJ ?_ (fun _ => cWt) (Sm.out ?_) | refine ExG.upI ?_ (fun _ => cWt) (Ob.out ?_) (Sm.out ?_)); focus (exact ⟨_, (pmz _)⟩)) | refine CallV.updM (cD) (pmz _) (Sm.out ?_) | ((first | refine ExF.up ?_ (cD) (Sm.out ?_) | refine ExG.up ?_ (fun _ => cD) (Sm.out ?_) | refine ExG.upJ ?_ (fun _ => cD) (Sm.out ?_) | refine ExG.upI ?_ (fun _ => cD) (Ob.out ?_) (Sm.out ?_)); focus (exact ⟨_, (pmz _)⟩)) | refine CallV.updM (cS) (pmz _) (Sm.out ?_) | ((first | refine ExF.up ?_ (cS) (Sm.out ?_) | refine ExG.up ?_ (fun _ => cS) (Sm.out ?_) | refine ExG.upJ ?_ (fun _ => cS) (Sm.out ?_) | refine ExG.upI ?_ (fun _ => cS) (Ob.out ?_) (Sm.out ?_)); focus (exact ⟨_, (pmz _)⟩)) | refine YzWlQ ?_ | (refine WP.cond rfl (fun hc => ?_) (fun hc => ?_) <;> (try simp only [ZC, reduceCtorEq, ZD] at hc) <;> (try exact absurd hc (by decide)) <;> (try (exfalso; omega))) | refine Rt.mk (And.intro (fun hg => Sm.out ?_) fun hg => Sm.out ?_) | (refine Nu.mk ?_; first | (fail_if_success have := nb1); intro nb1 | (fail_if_success have := nb2); intro nb2 | (fail_if_success have := nb3); intro nb3 | (fail_if_success have := nb4); intro nb4 | (fail_if_success have := nb5); intro nb5 | (fail_if_success have := nb6); intro nb6 | (fail_if_success have := nb7); intro nb7 | (fail_if_success have := nb8); intro nb8 | (fail_if_success have := nb9); intro nb9 | (fail_if_success have := nb10); intro nb10 | intro nbz) | (apply Yfr; refine Yf FR fun hFRb FR => ?_) | refine Two.mk ?_ ?_ | (apply Yxc; exact Yx) | refine Cs.mk fun hcs => Sm.out ?_ | go_step | omega | (simp only [maxLen_eq]; omega) | exact trivial
        exact ⟨⟨i + 1, l, a, x2, M, b2, cap⟩, ⟨by simp only; omega, hI.up (by simp only; omega), hf, hl, hm⟩, by simp only; omega, Sub.of_env [] (by simp only [mH_eq]; exact pmz _) (by simp [look, s1])⟩
      have c2 : (v.kd == 2) = false := beq_eq_false_iff_ne.2 e2
      first | (have FRx := FR; clear FRx) | have FR := fr0S
      have FA := Sm.mk (And.intro TFWlQ (And.intro ki (And.intro hd (And.intro q1 (And.intro yl (And.intro c1 (And.intro c2 (And.intro c3 (And.intro w0 (And.intro wR (And.intro s1 (And.intro cUe cRe))))))))))))
      repeat' first | (apply Sm.mk; refine YsWlQ0 ?_) | refine WP.seq fun K hK => ?_ | (apply Ob.mk; exact Yo) | refine And.intro (Ob.out ?_) ?_ | refine Y1WlQ ?_ | refine CallV.updM (cU) (pmz _) (Sm.out ?_) | ((first | refine ExF.up ?_ (cU) (Sm.out ?_) | refine ExG.up ?_ (fun _ => cU) (Sm.out ?_) | refine ExG.upJ ?_ (fun _ => cU) (Sm.out ?_) | refine ExG.upI ?_ (fun _ => cU) (Ob.out ?_) (Sm.out ?_)); focus (exact ⟨_, (pmz _)⟩)) | refine CallV.updM (cV) (pmz _) (Sm.out ?_) | ((first | refine ExF.up ?_ (cV) (Sm.out ?_) | refine ExG.up ?_ (fun _ => cV) (Sm.out ?_) | refine ExG.upJ ?_ (fun _ => cV) (Sm.out ?_) | refine ExG.upI ?_ (fun _ => cV) (Ob.out ?_) (Sm.out ?_)); focus (exact ⟨_, (pmz _)⟩)) | refine CallV.updM (cR) (pmz _) (Sm.out ?_) | ((first | refine ExF.up ?_ (cR) (Sm.out ?_) | refine ExG.up ?_ (fun _ => cR) (Sm.out ?_) | refine ExG.upJ ?_ (fun _ => cR) (Sm.out ?_) | refine ExG.upI ?_ (fun _ => cR) (Ob.out ?_) (Sm.out ?_)); focus (exact ⟨_, (pmz _)⟩)) | refine CallV.updM (cWt) (pmz _) (Sm.out ?_) | ((first | refine ExF.up ?_ (cWt) (Sm.out ?_) | refine ExG.up ?_ (fun _ => cWt) (Sm.out ?_) | refine ExG.upJ ?_ (fun _ => cWt) (Sm.out ?_) | refine ExG.upI ?_ (fun _ => cWt) (Ob.out ?_) (Sm.out ?_)); focus (exact ⟨_, (pmz _)⟩)) | refine YzWlQ ?_ | (refine WP.cond rfl (fun hc => ?_) (fun hc => ?_) <;> (try simp only [ZC, reduceCtorEq, ZD] at hc) <;> (try exact absurd hc (by decide)) <;> (try (exfalso; omega))) | refine Rt.mk (And.intro (fun hg => Sm.out ?_) fun hg => Sm.out ?_) | (refine Nu.mk ?_; first | (fail_if_success have := nb1); intro nb1 | (fail_if_success have := nb2); intro nb2 | (fail_if_success have := nb3); intro nb3 | (fail_if_success have := nb4); intro nb4 | (fail_if_success have := nb5); intro nb5 | (fail_if_success have := nb6); intro nb6 | (fail_if_success have := nb7); intro nb7 | (fail_if_success have := nb8); intro nb8 | (fail_if_success have := nb9); intro nb9 | (fail_if_success have := nb10); intro nb10 | intro nbz) | (apply Yfr; refine Yf FR fun hFRb FR => ?_) | refine Two.mk ?_ ?_ | (apply Yxc; exact Yx) | refine Cs.mk fun hcs => Sm.out ?_ | go_step | omega | (simp only [maxLen_eq]; omega) | exact trivial
      exact ⟨⟨i + 1, l, a, x, M, b2, cap⟩, ⟨by simp only; omega, hI.up (by simp only; omega), hf, hl, hm⟩, by simp only; omega, Sub.of_env [] (pmz _) (by simp [look, s1])⟩
    · obtain rfl : i = L.length := by omega
      have ki : decide ((L.length : Int) < (L.length : Int)) = false := by simp
      have cT := k_rtext (f := p) (m := q) (s := s) (a := a) b x mb b2 cap l hm hu (by omega)
      have cW := k_all (f := p) (m := q) (s := s) (M := M) b x mb b2 cap l hI.A hl hI.R.st.dk
      rw [hI.R.st.T] at cW
      have wps : IntKind.i64.wrap ((p : Int) * (s : Int)) = ((p * s : Nat) : Int) := by rw [← Int.natCast_mul]; exact wrap_i64 (by omega) (by omega)
      have hps2 : (p + q) * s ≤ n * s := Nat.mul_le_mul_right s hpq
      have wpq : IntKind.i64.wrap ((p : Int) + (q : Int)) = ((p + q : Nat) : Int) := by rw [wrap_i64 (by omega) (by omega)]; omega
      have wqs : IntKind.i64.wrap (((p + q : Nat) : Int) * (s : Int)) = (((p + q) * s : Nat) : Int) := by rw [← Int.natCast_mul]; exact wrap_i64 (by omega) (by omega)
      have hXs : X.size = n * s := by rw [hX, bstr_size, ub_len, hW]
      have hPl := hI.R.lP
      have hQl := hI.R.lR
      have hps3 : p * s ≤ n * s := Nat.mul_le_mul_right s (by omega)
      have e1 : X.extract 0 (p * s) = bstr (ub P) := by
        rw [hX, bstr_ext, hP, ub_take, List.drop_zero]
      have e2 : X.extract ((p + q) * s) (n * s) = bstr (ub Q) := by
        rw [hX, bstr_ext, hQ, List.take_of_length_le (by rw [ub_len]; omega), ub_map, ub_map, List.map_drop]
      have e3 : bstr (ub (P ++ (frs M ++ zrs (q * s - usd M) ++ Q))) = bstr (ub P) ++ bstr (ub (frs M ++ zrs (q * s - usd M))) ++ bstr (ub Q) := by
        rw [bstr_app, bstr_app, ub_append, ub_append, List.append_assoc]
      rw [e3] at cW
      have z1 : (bstr (ub P)).size = p * s := by rw [bstr_size, ub_len, hPl]
      have z2 : (bstr (ub (frs M ++ zrs (q * s - usd M)))).size = q * s := by rw [bstr_size, ub_len, hQl]
      have z3 : (bstr (ub Q)).size ≤ 12 * 512 := by rw [bstr_size, ub_len, hQ, List.length_drop]; omega
      clear e3
      obtain ⟨B1, hB1⟩ : ∃ B, B = bstr (ub P) := ⟨_, rfl⟩
      obtain ⟨B2, hB2⟩ : ∃ B, B = bstr (ub (frs M ++ zrs (q * s - usd M))) := ⟨_, rfl⟩
      obtain ⟨B3, hB3⟩ : ∃ B, B = bstr (ub Q) := ⟨_, rfl⟩
      rw [← hB1] at cW e1 z1
      rw [← hB2] at cW cT z2
      rw [← hB3] at cW e2 z3
      clear hB1 hB2 hB3
      have z4 : (B1 ++ B2).size = p * s + q * s := by rw [ByteArray.size_append, z1, z2]
      have z5 : B1.size + B2.size ≤ 9223372036854775807 := by omega
      have z6 : (B1 ++ B2).size + B3.size ≤ 9223372036854775807 := by omega
      have kE : ((B1 ++ B2 ++ B3).toList == (B1 ++ B2 ++ B3).toList) = true := beq_self_eq_true _
      first | (have FRx := FR; clear FRx) | have FR := fr0S
      have FA := Sm.mk (And.intro TFWlQ (And.intro ki (And.intro wps (And.intro wpq (And.intro wqs (And.intro hXs (And.intro e1 (And.intro e2 kE))))))))
      repeat' first | (apply Sm.mk; refine Ys ?_) | refine WP.seq fun K hK => ?_ | (apply Ob.mk; exact Yo) | refine And.intro (Ob.out ?_) ?_ | refine Y1WlQ ?_ | refine CallV.updM (cW) (pmz _) (Sm.out ?_) | ((first | refine ExF.up ?_ (cW) (Sm.out ?_) | refine ExG.up ?_ (fun _ => cW) (Sm.out ?_) | refine ExG.upJ ?_ (fun _ => cW) (Sm.out ?_) | refine ExG.upI ?_ (fun _ => cW) (Ob.out ?_) (Sm.out ?_)); focus (exact ⟨_, (pmz _)⟩)) | refine CallV.updM (cT) (pmz _) (Sm.out ?_) | ((first | refine ExF.up ?_ (cT) (Sm.out ?_) | refine ExG.up ?_ (fun _ => cT) (Sm.out ?_) | refine ExG.upJ ?_ (fun _ => cT) (Sm.out ?_) | refine ExG.upI ?_ (fun _ => cT) (Ob.out ?_) (Sm.out ?_)); focus (exact ⟨_, (pmz _)⟩)) | refine YzWlQ ?_ | (refine WP.cond rfl (fun hc => ?_) (fun hc => ?_) <;> (try simp only [ZC, reduceCtorEq, ZD] at hc) <;> (try exact absurd hc (by decide)) <;> (try (exfalso; omega))) | refine Rt.mk (And.intro (fun hg => Sm.out ?_) fun hg => Sm.out ?_) | (refine Nu.mk ?_; first | (fail_if_success have := nb1); intro nb1 | (fail_if_success have := nb2); intro nb2 | (fail_if_success have := nb3); intro nb3 | (fail_if_success have := nb4); intro nb4 | (fail_if_success have := nb5); intro nb5 | (fail_if_success have := nb6); intro nb6 | (fail_if_success have := nb7); intro nb7 | (fail_if_success have := nb8); intro nb8 | (fail_if_success have := nb9); intro nb9 | (fail_if_success have := nb10); intro nb10 | intro nbz) | (apply Yfr; refine Yf FR fun hFRb FR => ?_) | refine Two.mk ?_ ?_ | (apply Yxc; exact Yx) | refine Cs.mk fun hcs => Sm.out ?_ | go_step | omega | (simp only [maxLen_eq]; omega) | exact trivial
      (refine Yg ?_; try exact trivial)
  · have hC : wmC a0 f m = 2 := by
      unfold wmC; rw [if_pos]; rw [hS0.n]; unfold onP at hon; omega
    have cO := ron_no n f m (by omega) hon
    have cF := format_bad b a0 l f m (by have := hA0.n2; omega) (by rw [hC]; decide)
    have cP := open_bad b a0 l f m (by have := hA0.n2; omega) (by rw [hC]; decide)
    rw [hC] at cF cP
    have kS := baBeq X
    first | (have FRx := FR; clear FRx) | have FR := fr0S
    have FA := Sm.mk (And.intro TFWlQ kS)
    repeat' first | (apply Sm.mk; refine Ys ?_) | refine WP.seq fun K hK => ?_ | (apply Ob.mk; exact Yo) | refine And.intro (Ob.out ?_) ?_ | refine Y1WlQ ?_ | refine CallV.updM (cW) (pmz _) (Sm.out ?_) | ((first | refine ExF.up ?_ (cW) (Sm.out ?_) | refine ExG.up ?_ (fun _ => cW) (Sm.out ?_) | refine ExG.upJ ?_ (fun _ => cW) (Sm.out ?_) | refine ExG.upI ?_ (fun _ => cW) (Ob.out ?_) (Sm.out ?_)); focus (exact ⟨_, (pmz _)⟩)) | refine CallV.updM (cF) (pmz _) (Sm.out ?_) | ((first | refine ExF.up ?_ (cF) (Sm.out ?_) | refine ExG.up ?_ (fun _ => cF) (Sm.out ?_) | refine ExG.upJ ?_ (fun _ => cF) (Sm.out ?_) | refine ExG.upI ?_ (fun _ => cF) (Ob.out ?_) (Sm.out ?_)); focus (exact ⟨_, (pmz _)⟩)) | refine CallV.updM (cP) (pmz _) (Sm.out ?_) | ((first | refine ExF.up ?_ (cP) (Sm.out ?_) | refine ExG.up ?_ (fun _ => cP) (Sm.out ?_) | refine ExG.upJ ?_ (fun _ => cP) (Sm.out ?_) | refine ExG.upI ?_ (fun _ => cP) (Ob.out ?_) (Sm.out ?_)); focus (exact ⟨_, (pmz _)⟩)) | (first | refine CallV.fn (cO) (Sm.out ?_) | refine ExF.mk (cO) (Sm.out ?_) | refine ExG.mk (fun _ => cO) (Sm.out ?_) | refine ExG.mkJ (fun _ => cO) (Sm.out ?_) | refine ExG.mkI (Ob.out ?_) (fun _ => cO) (Sm.out ?_)) | refine YzWlQ ?_ | (refine WP.cond rfl (fun hc => ?_) (fun hc => ?_) <;> (try simp only [ZC, reduceCtorEq, ZD] at hc) <;> (try exact absurd hc (by decide)) <;> (try (exfalso; omega))) | refine Rt.mk (And.intro (fun hg => Sm.out ?_) fun hg => Sm.out ?_) | (refine Nu.mk ?_; first | (fail_if_success have := nb1); intro nb1 | (fail_if_success have := nb2); intro nb2 | (fail_if_success have := nb3); intro nb3 | (fail_if_success have := nb4); intro nb4 | (fail_if_success have := nb5); intro nb5 | (fail_if_success have := nb6); intro nb6 | (fail_if_success have := nb7); intro nb7 | (fail_if_success have := nb8); intro nb8 | (fail_if_success have := nb9); intro nb9 | (fail_if_success have := nb10); intro nb10 | intro nbz) | (apply Yfr; refine Yf FR fun hFRb FR => ?_) | refine Two.mk ?_ ?_ | (apply Yxc; exact Yx) | refine Cs.mk fun hcs => Sm.out ?_ | go_step | omega | (simp only [maxLen_eq]; omega) | exact trivial
    (refine Yg ?_; try exact trivial)
abbrev actTy : Ty := .st [.int .i64, .row .u8]
theorem ac_rows : ∀ (rows : List (List AV)), (∀ r ∈ rows, Shp actTy r) → ∃ L : List Ac, L.length = rows.length ∧ rows.flatten = acs L
  | [], _ => ⟨[], rfl, rfl⟩
  | r :: rows, h => by
    obtain ⟨L, l1, l2⟩ := ac_rows rows fun x hx => h x (List.mem_cons_of_mem _ hx)
    have h0 := h r (List.mem_cons_self ..)
    simp only [actTy, Shp, ShpL] at h0
    obtain ⟨_, _, rfl, ⟨a, rfl, ha⟩, _, _, rfl, ⟨zs, rfl, hz⟩, rfl⟩ := h0
    obtain ⟨x, rfl⟩ := ub_of hz
    exact ⟨⟨a, x⟩ :: L, by simp [l1], by simp [l2, acs]⟩
theorem plays_law {B Z f m : Int} {y : AV} (hy : Shp (.sl actTy) [y]) : ACt Tryd.prog 3 [iv .i64 B, iv .i64 Z, iv .i64 f, iv .i64 m, y] [] (fun r _ => r = bv true) := by
  unfold Shp at hy
  obtain ⟨rows, e, hr⟩ := hy
  obtain rfl : y = _ := (List.cons.inj e).1
  obtain ⟨L, l1, l2⟩ := ac_rows rows hr
  rw [l2, ← l1]
  exact (plays_ct B Z f m L).mono fun r F h => h.1
end Go.Proofs.YtpjnhcjfkgjbnaaDoor
