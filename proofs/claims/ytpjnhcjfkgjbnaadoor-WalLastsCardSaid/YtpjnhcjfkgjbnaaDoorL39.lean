/-
  The walks and the laws that the statement leans on, part 39.
-/
import Derived.Test.YtpjnhcjfkgjbnaaDoorL10
import Derived.Test.YtpjnhcjfkgjbnaaDoorL38
namespace Go.Proofs.YtpjnhcjfkgjbnaaDoor
open Go
set_option linter.unusedVariables false
set_option linter.unusedSimpArgs false
set_option linter.defProp false
def TFWlZ :=
  And.intro (And.intro (And.intro (And.intro (And.intro (And.intro tyc0 tyc3) (And.intro zmb3 (And.intro tyc4 zmb4))) (And.intro (And.intro tyc5 (And.intro zmb5 tyc9)) (And.intro zmb9 (And.intro tyc22 elt22)))) (And.intro (And.intro (And.intro mkz22 mkc22) (And.intro apT22 (And.intro elk22 zmb22))) (And.intro (And.intro tyc25 (And.intro mth25_46 mth25_45)) (And.intro mth25_44 (And.intro con25 zmb25))))) (And.intro (And.intro (And.intro (And.intro tyc28 zmb28) (And.intro tyc31 (And.intro zmb31 tyc32))) (And.intro (And.intro elt32 (And.intro mkz32 mkc32)) (And.intro apT32 (And.intro elk32 zmb32)))) (And.intro (And.intro (And.intro tyc33 tyc35) (And.intro zmb35 (And.intro tyc37 foff37_0))) (And.intro (And.intro fpart37_0 (And.intro foff37_1 fpart37_1)) (And.intro zmb37 (And.intro bldT37 tyc38)))))) (And.intro (And.intro (And.intro (And.intro (And.intro elt38 mkz38) (And.intro apT38 (And.intro elk38 zmb38))) (And.intro (And.intro tyc40 (And.intro foff40_0 fpart40_0)) (And.intro foff40_1 (And.intro fpart40_1 zmb40)))) (And.intro (And.intro (And.intro bldT40 tyc47) (And.intro foff47_0 (And.intro fpart47_0 foff47_1))) (And.intro (And.intro fpart47_1 (And.intro foff47_2 fpart47_2)) (And.intro foff47_3 (And.intro fpart47_3 foff47_4))))) (And.intro (And.intro (And.intro (And.intro fpart47_4 foff47_5) (And.intro fpart47_5 (And.intro fe47 zmb47))) (And.intro (And.intro bldT47 (And.intro Tryd.underlying0 Tryd.underlying3)) (And.intro Tryd.underlying4 (And.intro Tryd.underlying5 Tryd.underlying9)))) (And.intro (And.intro (And.intro Tryd.underlying22 Tryd.underlying25) (And.intro Tryd.underlying28 (And.intro Tryd.underlying31 Tryd.underlying32))) (And.intro (And.intro Tryd.underlying33 (And.intro Tryd.underlying35 Tryd.underlying37)) (And.intro Tryd.underlying38 (And.intro Tryd.underlying40 Tryd.underlying47))))))
theorem Y1WlZ {G R : Prop} (r : R) (h : R → G := by intro r; first | (apply WP.region; exact rvc_sound _ _ (Sm.out r)) | exact WP.drawK rfl mixed (by decide +kernel) (Sm.out r) | (apply WP.block; exact r) | (apply WP.skip; exact Yq r) | (apply WP.exit; exact Yq r) | (apply WP.ret; exact Sm.out r) | exact WP.cond rfl (fun _ => r) (fun hg => absurd hg (by decide)) | exact WP.cond rfl (fun hg => absurd hg (by decide)) (fun _ => r) | exact Rt.mk (And.intro (fun _ => Sm.out r) fun hg => absurd hg (by decide)) | exact Rt.mk (And.intro (fun hg => absurd hg (by decide)) fun _ => Sm.out r)) : G := h r
theorem YzWlZ {G R : Prop} (r : R) (h : R → G := by intro r; first | (apply ExG.no; exact Sm.out r) | (apply Or.inl; apply ExG.no; exact Sm.out r) | exact Or.inl (And.intro (fun hg => absurd hg (by decide)) (ExG.no (Sm.out r)))) : G := h r
theorem YsWlZ0 {P Q : Prop} (q : Q) (h : P = Q := by (try (conv => lhs; simp -dsimp only [ZK, rvc, capA, appA, litL, mkfv, drawF, headN, pureH, stp, dvc, calleeOf, gcall, pev, eff, newB, okd, og, ogs, ogo, ogp, slv, bltv, opd, litv, strip, one, both, putE, St.put, look, gdOf, gdv, picka, pickv, pickw, binv, bini, bins, binb, binp, binq, isSlT, bina, shp, eqCells, unv, convv, nilv, faddv, addp, idxav, idxp, load1, load1m, loadn, loadnm, loadv, hget, hset, hrep, hdel, slicev, slice3v, bnd, shift1, lenv, capv, IntKind.bits, extractv, fieldv, indexv, min2v, max2v, mkiv, tasv, tasz, cellsA, fillA, buildv, stC, oneC, rowMB, intsA, plN, appE, appZ, appC, appS, srcB, appNZ, appNC, VwL, srcC, srcZ, srcM, isBoolT, isPtrT, isSliceT, uOk, Value.oneCell', Nat.reducePow, Int.reducePow, Nat.reduceAdd, Nat.reduceMul, Nat.reduceSub, Nat.reduceLT, Nat.reduceLeDiff, Nat.reduceEqDiff, Nat.reduceBEq, Nat.reduceDiv, Nat.reduceMod, ↓reduceIte, reduceCtorEq, Int.reduceToNat, Int.reduceLT, Int.reduceLE, TFWlZ, SeqQ, BlkQ, LoopQ, BodyQ, hin, FA.out, FR.out])) <;> exact rfl) : P := h.mpr q
structure LG where
  i : Nat
  l : DL
  a : DA
  H : List Bs
set_option maxHeartbeats 8000000 in
theorem lasts_ct (Z : Int) (L : List Ac) (x1 x2 x3 x4 x5 x6 : Int) (Y : Bs) (hF : x1 < 9223372036854775808) (hG : x4 < 9223372036854775808) : ACt Tryd.prog 4 [iv .i64 Z, .sl L.length (acs L), .agg [iv .i64 x1, iv .i64 x2, iv .i64 x3, iv .i64 x4, iv .i64 x5, iv .i64 x6], .slz .u8 (ub Y)] [] (Fn (bv true)) := by
  have cA := awake_ct
  have yl := ub_len Y
  by_cases h3 : Z < 32
  · have k3 : decide (Z < 32) = true := decide_eq_true h3
    refine ACt.intro Tryd.func4 rfl (by kernel_rfl) (by simp [Tryd.ntmps4]) (fun cx => ?_)
    simp only [argE, Tryd.ntmps4, Tryd.results4]
    first | (have FRx := FR; clear FRx) | have FR := fr0S
    have FA := Sm.mk (And.intro TFWlZ k3)
    repeat' first | (apply Sm.mk; refine Ys ?_) | refine WP.seq fun K hK => ?_ | (apply Ob.mk; exact Yo) | refine And.intro (Ob.out ?_) ?_ | refine Y1WlZ ?_ | refine Yc (c := cA) (r := ?_) | refine YzWlZ ?_ | (refine WP.cond rfl (fun hc => ?_) (fun hc => ?_) <;> (try simp only [ZC, reduceCtorEq, ZD] at hc) <;> (try exact absurd hc (by decide)) <;> (try (exfalso; omega))) | refine Rt.mk (And.intro (fun hg => Sm.out ?_) fun hg => Sm.out ?_) | (refine Nu.mk ?_; first | (fail_if_success have := nb1); intro nb1 | (fail_if_success have := nb2); intro nb2 | (fail_if_success have := nb3); intro nb3 | (fail_if_success have := nb4); intro nb4 | (fail_if_success have := nb5); intro nb5 | (fail_if_success have := nb6); intro nb6 | (fail_if_success have := nb7); intro nb7 | (fail_if_success have := nb8); intro nb8 | (fail_if_success have := nb9); intro nb9 | (fail_if_success have := nb10); intro nb10 | intro nbz) | (apply Yfr; refine Yf FR fun hFRb FR => ?_) | refine Two.mk ?_ ?_ | (apply Yxc; exact Yx) | refine Cs.mk fun hcs => Sm.out ?_ | go_step | omega | (simp only [maxLen_eq]; omega) | exact trivial
    (refine Yg ?_; try exact trivial)
  have k3 : decide (Z < 32) = false := decide_eq_false h3
  by_cases h4 : Z > 512
  · have k4 : decide (Z > 512) = true := decide_eq_true h4
    refine ACt.intro Tryd.func4 rfl (by kernel_rfl) (by simp [Tryd.ntmps4]) (fun cx => ?_)
    simp only [argE, Tryd.ntmps4, Tryd.results4]
    first | (have FRx := FR; clear FRx) | have FR := fr0S
    have FA := Sm.mk (And.intro TFWlZ (And.intro k3 k4))
    repeat' first | (apply Sm.mk; refine Ys ?_) | refine WP.seq fun K hK => ?_ | (apply Ob.mk; exact Yo) | refine And.intro (Ob.out ?_) ?_ | refine Y1WlZ ?_ | refine Yc (c := cA) (r := ?_) | refine YzWlZ ?_ | (refine WP.cond rfl (fun hc => ?_) (fun hc => ?_) <;> (try simp only [ZC, reduceCtorEq, ZD] at hc) <;> (try exact absurd hc (by decide)) <;> (try (exfalso; omega))) | refine Rt.mk (And.intro (fun hg => Sm.out ?_) fun hg => Sm.out ?_) | (refine Nu.mk ?_; first | (fail_if_success have := nb1); intro nb1 | (fail_if_success have := nb2); intro nb2 | (fail_if_success have := nb3); intro nb3 | (fail_if_success have := nb4); intro nb4 | (fail_if_success have := nb5); intro nb5 | (fail_if_success have := nb6); intro nb6 | (fail_if_success have := nb7); intro nb7 | (fail_if_success have := nb8); intro nb8 | (fail_if_success have := nb9); intro nb9 | (fail_if_success have := nb10); intro nb10 | intro nbz) | (apply Yfr; refine Yf FR fun hFRb FR => ?_) | refine Two.mk ?_ ?_ | (apply Yxc; exact Yx) | refine Cs.mk fun hcs => Sm.out ?_ | go_step | omega | (simp only [maxLen_eq]; omega) | exact trivial
    (refine Yg ?_; try exact trivial)
  have k4 : decide (Z > 512) = false := decide_eq_false h4
  by_cases hL : L.length ≤ 60 ∧ ∀ a ∈ L, a.z.length ≤ 2000
  rotate_left
  · have cL := long_no L hL
    refine ACt.intro Tryd.func4 rfl (by kernel_rfl) (by simp [Tryd.ntmps4]) (fun cx => ?_)
    simp only [argE, Tryd.ntmps4, Tryd.results4]
    first | (have FRx := FR; clear FRx) | have FR := fr0S
    have FA := Sm.mk (And.intro TFWlZ (And.intro k3 k4))
    repeat' first | (apply Sm.mk; refine Ys ?_) | refine WP.seq fun K hK => ?_ | (apply Ob.mk; exact Yo) | refine And.intro (Ob.out ?_) ?_ | refine Y1WlZ ?_ | refine Yc (c := cA) (r := ?_) | refine Yc (c := cL) (r := ?_) | refine YzWlZ ?_ | (refine WP.cond rfl (fun hc => ?_) (fun hc => ?_) <;> (try simp only [ZC, reduceCtorEq, ZD] at hc) <;> (try exact absurd hc (by decide)) <;> (try (exfalso; omega))) | refine Rt.mk (And.intro (fun hg => Sm.out ?_) fun hg => Sm.out ?_) | (refine Nu.mk ?_; first | (fail_if_success have := nb1); intro nb1 | (fail_if_success have := nb2); intro nb2 | (fail_if_success have := nb3); intro nb3 | (fail_if_success have := nb4); intro nb4 | (fail_if_success have := nb5); intro nb5 | (fail_if_success have := nb6); intro nb6 | (fail_if_success have := nb7); intro nb7 | (fail_if_success have := nb8); intro nb8 | (fail_if_success have := nb9); intro nb9 | (fail_if_success have := nb10); intro nb10 | intro nbz) | (apply Yfr; refine Yf FR fun hFRb FR => ?_) | refine Two.mk ?_ ?_ | (apply Yxc; exact Yx) | refine Cs.mk fun hcs => Sm.out ?_ | go_step | omega | (simp only [maxLen_eq]; omega) | exact trivial
    (refine Yg ?_; try exact trivial)
  have cL := long_ok L hL
  obtain ⟨hL1, hL2⟩ := hL
  by_cases h5 : 2000 < Y.length
  · have k5 : decide ((Y.length : Int) > 2000) = true := decide_eq_true (by omega)
    refine ACt.intro Tryd.func4 rfl (by kernel_rfl) (by simp [Tryd.ntmps4]) (fun cx => ?_)
    simp only [argE, Tryd.ntmps4, Tryd.results4]
    first | (have FRx := FR; clear FRx) | have FR := fr0S
    have FA := Sm.mk (And.intro TFWlZ (And.intro k3 (And.intro k4 (And.intro yl k5))))
    repeat' first | (apply Sm.mk; refine Ys ?_) | refine WP.seq fun K hK => ?_ | (apply Ob.mk; exact Yo) | refine And.intro (Ob.out ?_) ?_ | refine Y1WlZ ?_ | refine Yc (c := cA) (r := ?_) | refine Yc (c := cL) (r := ?_) | refine YzWlZ ?_ | (refine WP.cond rfl (fun hc => ?_) (fun hc => ?_) <;> (try simp only [ZC, reduceCtorEq, ZD] at hc) <;> (try exact absurd hc (by decide)) <;> (try (exfalso; omega))) | refine Rt.mk (And.intro (fun hg => Sm.out ?_) fun hg => Sm.out ?_) | (refine Nu.mk ?_; first | (fail_if_success have := nb1); intro nb1 | (fail_if_success have := nb2); intro nb2 | (fail_if_success have := nb3); intro nb3 | (fail_if_success have := nb4); intro nb4 | (fail_if_success have := nb5); intro nb5 | (fail_if_success have := nb6); intro nb6 | (fail_if_success have := nb7); intro nb7 | (fail_if_success have := nb8); intro nb8 | (fail_if_success have := nb9); intro nb9 | (fail_if_success have := nb10); intro nb10 | intro nbz) | (apply Yfr; refine Yf FR fun hFRb FR => ?_) | refine Two.mk ?_ ?_ | (apply Yxc; exact Yx) | refine Cs.mk fun hcs => Sm.out ?_ | go_step | omega | (simp only [maxLen_eq]; omega) | exact trivial
    (refine Yg ?_; try exact trivial)
  have k5 : decide ((Y.length : Int) > 2000) = false := decide_eq_false (by omega)
  obtain ⟨s, rfl⟩ : ∃ s : Nat, Z = (s : Int) := ⟨Z.toNat, by omega⟩
  have cM : ACt Tryd.prog 8 [iv .i64 9, iv .i64 (s : Int)] [] (fun r F' => ∃ g : MS 9 s, r = pt g.1.1 0 ∧ F' = dH g.1.1 (mkA 9 s) g.1.2) := marked_ct 9 s (by omega) (by omega) (by omega) (by omega)
  obtain ⟨hA0, hf0, ⟨W, hS0⟩⟩ := mkA_spec 9 s (by omega) (by omega) (by omega) (by omega)
  obtain ⟨a0, ha0⟩ : ∃ a, a = mkA 9 s := ⟨_, rfl⟩
  have hCl := acs_len L
  have hdr := acs_drop L
  obtain ⟨C, hC⟩ : ∃ C, C = acs L := ⟨_, rfl⟩
  rw [← hC] at hCl cL ⊢
  simp only [← hC] at hdr
  refine ACt.intro Tryd.func4 rfl (by kernel_rfl) (by simp [Tryd.ntmps4]) (fun cx => ?_)
  simp only [argE, Tryd.ntmps4, Tryd.results4]
  first | (have FRx := FR; clear FRx) | have FR := fr0S
  have FA := Sm.mk (TFWlZ)
  repeat' first | (apply Sm.mk; refine Ys ?_) | refine WP.seq fun K hK => ?_ | (apply Ob.mk; exact Yo) | refine And.intro (Ob.out ?_) ?_ | ((fail_if_success (show WP _ _ _ (.region 3 _ _) _ _)); refine Y1WlZ ?_) | refine Yc (c := cA) (r := ?_) | refine YzWlZ ?_ | (refine WP.cond rfl (fun hc => ?_) (fun hc => ?_) <;> (try simp only [ZC, reduceCtorEq, ZD] at hc) <;> (try exact absurd hc (by decide)) <;> (try (exfalso; omega))) | refine Rt.mk (And.intro (fun hg => Sm.out ?_) fun hg => Sm.out ?_) | (refine Nu.mk ?_; first | (fail_if_success have := nb1); intro nb1 | (fail_if_success have := nb2); intro nb2 | (fail_if_success have := nb3); intro nb3 | (fail_if_success have := nb4); intro nb4 | (fail_if_success have := nb5); intro nb5 | (fail_if_success have := nb6); intro nb6 | (fail_if_success have := nb7); intro nb7 | (fail_if_success have := nb8); intro nb8 | (fail_if_success have := nb9); intro nb9 | (fail_if_success have := nb10); intro nb10 | intro nbz) | (apply Yfr; refine Yf FR fun hFRb FR => ?_) | refine Two.mk ?_ ?_ | (apply Yxc; exact Yx) | refine Cs.mk fun hcs => Sm.out ?_ | go_step | omega | (simp only [maxLen_eq]; omega) | exact trivial
  refine WP.sub (s' := ⟨[(6, pt nb1 0), (8, bv false), (0, iv .i64 (s : Int)), (1, .sl L.length C), (3, .slz .u8 (ub Y))], [(nb1, .cells [iv .i64 x1, iv .i64 x2, iv .i64 x3, iv .i64 x4, iv .i64 x5, iv .i64 x6] 6 47)]⟩) (Sub.of_env [] (by exact pmz _) (by simp [look])) ?_
  obtain ⟨xb, hxb⟩ : ∃ x, x = nb1 := ⟨_, rfl⟩
  rw [← hxb]
  clear hxb
  have cM2 := lift0 [(xb, MB.cells [iv .i64 x1, iv .i64 x2, iv .i64 x3, iv .i64 x4, iv .i64 x5, iv .i64 x6] 6 47)] cM
  first | (have FRx := FR; clear FRx) | have FR := fr0S
  have FA := Sm.mk (And.intro TFWlZ (And.intro k3 (And.intro k4 (And.intro yl k5))))
  repeat' first | (apply Sm.mk; refine Ys ?_) | refine WP.seq fun K hK => ?_ | (apply Ob.mk; exact Yo) | refine And.intro (Ob.out ?_) ?_ | ((fail_if_success (show WP _ _ _ (.region 6 _ _) _ _)); refine Y1WlZ ?_) | (first | refine CallV.fn (cL) (Sm.out ?_) | refine ExF.mk (cL) (Sm.out ?_) | refine ExG.mk (fun _ => cL) (Sm.out ?_) | refine ExG.mkJ (fun _ => cL) (Sm.out ?_) | refine ExG.mkI (Ob.out ?_) (fun _ => cL) (Sm.out ?_)) | (refine CallV.exM (cM2) (pmz _) (fun g => Sm.out ?_)) | refine YzWlZ ?_ | (refine WP.cond rfl (fun hc => ?_) (fun hc => ?_) <;> (try simp only [ZC, reduceCtorEq, ZD] at hc) <;> (try exact absurd hc (by decide)) <;> (try (exfalso; omega))) | refine Rt.mk (And.intro (fun hg => Sm.out ?_) fun hg => Sm.out ?_) | (refine Nu.mk ?_; first | (fail_if_success have := nb1); intro nb1 | (fail_if_success have := nb2); intro nb2 | (fail_if_success have := nb3); intro nb3 | (fail_if_success have := nb4); intro nb4 | (fail_if_success have := nb5); intro nb5 | (fail_if_success have := nb6); intro nb6 | (fail_if_success have := nb7); intro nb7 | (fail_if_success have := nb8); intro nb8 | (fail_if_success have := nb9); intro nb9 | (fail_if_success have := nb10); intro nb10 | intro nbz) | (apply Yfr; refine Yf FR fun hFRb FR => ?_) | refine Two.mk ?_ ?_ | (apply Yxc; exact Yx) | refine Cs.mk fun hcs => Sm.out ?_ | go_step | omega | (simp only [maxLen_eq]; omega) | exact trivial
  obtain ⟨⟨b, l⟩, hl⟩ := g
  try simp only [List.append_nil] at hl ⊢
  rw [← ha0] at hl hA0 hf0 hS0 ⊢
  clear ha0 cM cM2
  have hW : W.length = 9 * s := by
    have h1 := flat_len (size := a0.size) a0.S hA0.Sr
    rw [hS0.T, ub_len, hA0.Sl, hS0.n, hS0.s] at h1
    exact h1
  have hR0 := rg_of (f := 1) (m := 7) hS0 hW (by omega)
  obtain ⟨P, hP⟩ : ∃ P, P = W.take (1 * s) := ⟨_, rfl⟩
  obtain ⟨Q, hQ⟩ : ∃ Q, Q = W.drop ((1 + 7) * s) := ⟨_, rfl⟩
  rw [← hP, ← hQ] at hR0
  clear hP hQ hW
  have hI := LgI.fmt hA0 hR0 (by omega) (by omega) hf0
  have cF := lift0 [(xb, MB.cells [iv .i64 x1, iv .i64 x2, iv .i64 x3, iv .i64 x4, iv .i64 x5, iv .i64 x6] 6 47)] (format_up b l hA0 hR0 hl (by omega) (by omega) hf0 (by omega))
  obtain ⟨a1, ha1⟩ : ∃ a, a = (fmX 1 s 7 a0).1 := ⟨_, rfl⟩
  rw [← ha1] at hI cF
  obtain ⟨-, hf1, hI1⟩ := hI
  first | (have FRx := FR; clear FRx) | have FR := fr0S
  have FA := Sm.mk (TFWlZ)
  repeat' first | (apply Sm.mk; refine Ys ?_) | refine WP.seq fun K hK => ?_ | (apply Ob.mk; exact Yo) | refine And.intro (Ob.out ?_) ?_ | ((fail_if_success (show WP _ _ _ (.region 7 _ _) _ _)); refine Y1WlZ ?_) | (refine CallV.exM (cF) (pmz _) (fun g => Sm.out ?_)) | refine YzWlZ ?_ | (refine WP.cond rfl (fun hc => ?_) (fun hc => ?_) <;> (try simp only [ZC, reduceCtorEq, ZD] at hc) <;> (try exact absurd hc (by decide)) <;> (try (exfalso; omega))) | refine Rt.mk (And.intro (fun hg => Sm.out ?_) fun hg => Sm.out ?_) | (refine Nu.mk ?_; first | (fail_if_success have := nb1); intro nb1 | (fail_if_success have := nb2); intro nb2 | (fail_if_success have := nb3); intro nb3 | (fail_if_success have := nb4); intro nb4 | (fail_if_success have := nb5); intro nb5 | (fail_if_success have := nb6); intro nb6 | (fail_if_success have := nb7); intro nb7 | (fail_if_success have := nb8); intro nb8 | (fail_if_success have := nb9); intro nb9 | (fail_if_success have := nb10); intro nb10 | intro nbz) | (apply Yfr; refine Yf FR fun hFRb FR => ?_) | refine Two.mk ?_ ?_ | (apply Yxc; exact Yx) | refine Cs.mk fun hcs => Sm.out ?_ | go_step | omega | (simp only [maxLen_eq]; omega) | exact trivial
  obtain ⟨l1, hl1⟩ := g
  try simp only [List.append_nil]
  have cO1 := lift0 [(xb, MB.cells [iv .i64 x1, iv .i64 x2, iv .i64 x3, iv .i64 x4, iv .i64 x5, iv .i64 x6] 6 47)] (open_up b l1 hI1 hl1)
  first | (have FRx := FR; clear FRx) | have FR := fr0S
  have FA := Sm.mk (TFWlZ)
  repeat' first | (apply Sm.mk; refine Ys ?_) | refine WP.seq fun K hK => ?_ | (apply Ob.mk; exact Yo) | refine And.intro (Ob.out ?_) ?_ | ((fail_if_success (show WP _ _ _ (.region 8 _ _) _ _)); refine Y1WlZ ?_) | (refine CallV.exM (cO1) (pmz _) (fun g => Sm.out ?_)) | refine YzWlZ ?_ | (refine WP.cond rfl (fun hc => ?_) (fun hc => ?_) <;> (try simp only [ZC, reduceCtorEq, ZD] at hc) <;> (try exact absurd hc (by decide)) <;> (try (exfalso; omega))) | refine Rt.mk (And.intro (fun hg => Sm.out ?_) fun hg => Sm.out ?_) | (refine Nu.mk ?_; first | (fail_if_success have := nb1); intro nb1 | (fail_if_success have := nb2); intro nb2 | (fail_if_success have := nb3); intro nb3 | (fail_if_success have := nb4); intro nb4 | (fail_if_success have := nb5); intro nb5 | (fail_if_success have := nb6); intro nb6 | (fail_if_success have := nb7); intro nb7 | (fail_if_success have := nb8); intro nb8 | (fail_if_success have := nb9); intro nb9 | (fail_if_success have := nb10); intro nb10 | intro nbz) | (apply Yfr; refine Yf FR fun hFRb FR => ?_) | refine Two.mk ?_ ?_ | (apply Yxc; exact Yx) | refine Cs.mk fun hcs => Sm.out ?_ | go_step | omega | (simp only [maxLen_eq]; omega) | exact trivial
  try simp only [List.append_nil]
  obtain ⟨x, hx⟩ : ∃ x, x = g := ⟨_, rfl⟩
  rw [← hx]
  clear hx
  have cFz := upd0 [(xb, MB.cells [iv .i64 x1, iv .i64 x2, iv .i64 x3, iv .i64 x4, iv .i64 x5, iv .i64 x6] 6 47), (x, lgN b 1 7 s [] false)] (fuse_d b a1 l1 x1)
  have hI2 := (hI1.fuse x1 hF).up2 (d := 19) (by omega)
  have hl2 := hl1.fuse x1
  obtain ⟨a2, ha2⟩ : ∃ a, a = fuA a1 x1 := ⟨_, rfl⟩
  rw [← ha2] at cFz hI2 hl2
  first | (have FRx := FR; clear FRx) | have FR := fr0S
  have FA := Sm.mk (TFWlZ)
  repeat' first | (apply Sm.mk; refine Ys ?_) | refine WP.seq fun K hK => ?_ | (apply Ob.mk; exact Yo) | refine And.intro (Ob.out ?_) ?_ | ((fail_if_success (show WP _ _ _ (.region 10 _ _) _ _)); refine Y1WlZ ?_) | refine CallV.updM (cFz) (pmz _) (Sm.out ?_) | refine YzWlZ ?_ | (refine WP.cond rfl (fun hc => ?_) (fun hc => ?_) <;> (try simp only [ZC, reduceCtorEq, ZD] at hc) <;> (try exact absurd hc (by decide)) <;> (try (exfalso; omega))) | refine Rt.mk (And.intro (fun hg => Sm.out ?_) fun hg => Sm.out ?_) | (refine Nu.mk ?_; first | (fail_if_success have := nb1); intro nb1 | (fail_if_success have := nb2); intro nb2 | (fail_if_success have := nb3); intro nb3 | (fail_if_success have := nb4); intro nb4 | (fail_if_success have := nb5); intro nb5 | (fail_if_success have := nb6); intro nb6 | (fail_if_success have := nb7); intro nb7 | (fail_if_success have := nb8); intro nb8 | (fail_if_success have := nb9); intro nb9 | (fail_if_success have := nb10); intro nb10 | intro nbz) | (apply Yfr; refine Yf FR fun hFRb FR => ?_) | refine Two.mk ?_ ?_ | (apply Yxc; exact Yx) | refine Cs.mk fun hcs => Sm.out ?_ | go_step | omega | (simp only [maxLen_eq]; omega) | exact trivial
  refine WP.sub (s' := ⟨[(14, ms nb3 0 0 0), (13, ms nb2 0 0 0), (10, pt x 0), (9, pt b 0), (6, pt xb 0), (0, iv .i64 (s : Int)), (1, .sl L.length C), (3, .slz .u8 (ub Y))], (nb3, .cells [] 0 38) :: (nb2, .cells [] 0 38) :: (xb, MB.cells [iv .i64 x1, iv .i64 x2, iv .i64 x3, iv .i64 x4, iv .i64 x5, iv .i64 x6] 6 47) :: (x, lgN b 1 7 s [] false) :: dH b a2 l1⟩) (Sub.of_env [] (by exact pmz _) (by simp [look])) ?_
  refine WP.nd fun hnd => ?_
  simp only [ndF, fresh_cons, dH, and_true, ne_eq] at hnd
  have hn3 := hnd.1
  have hn2 := hnd.2.1
  obtain ⟨y3, hy3⟩ : ∃ y, y = nb3 := ⟨_, rfl⟩
  obtain ⟨y2, hy2⟩ : ∃ y, y = nb2 := ⟨_, rfl⟩
  rw [← hy3] at hn3 ⊢
  rw [← hy2] at hn3 hn2 ⊢
  clear hy3 hy2 hnd
  (refine WP.wk (Wk.freezeC (y3) (1) (by simp only [ZK, rvc, capA, appA, litL, mkfv, drawF, headN, pureH, stp, dvc, calleeOf, gcall, pev, eff, newB, okd, og, ogs, ogo, ogp, slv, bltv, opd, litv, strip, one, both, putE, St.put, look, gdOf, gdv, picka, pickv, pickw, binv, bini, bins, binb, binp, binq, isSlT, bina, shp, eqCells, unv, convv, nilv, faddv, addp, idxav, idxp, load1, load1m, loadn, loadnm, loadv, hget, hset, hrep, hdel, slicev, slice3v, bnd, shift1, lenv, capv, IntKind.bits, extractv, fieldv, indexv, min2v, max2v, mkiv, tasv, tasz, cellsA, fillA, buildv, stC, oneC, rowMB, intsA, plN, appE, appZ, appC, appS, srcB, appNZ, appNC, VwL, srcC, srcZ, srcM, isBoolT, isPtrT, isSliceT, uOk, Value.oneCell', Nat.reducePow, Int.reducePow, Nat.reduceAdd, Nat.reduceMul, Nat.reduceSub, Nat.reduceLT, Nat.reduceLeDiff, Nat.reduceEqDiff, Nat.reduceBEq, Nat.reduceDiv, Nat.reduceMod, ↓reduceIte, reduceCtorEq, Int.reduceToNat, Int.reduceLT, Int.reduceLE, TFWlZ, SeqQ, BlkQ, LoopQ, BodyQ, hn3, FR.out]; first | done | rfl)) ?_; simp only [frzCE, frzC, ZK, rvc, capA, appA, litL, mkfv, drawF, headN, pureH, stp, dvc, calleeOf, gcall, pev, eff, newB, okd, og, ogs, ogo, ogp, slv, bltv, opd, litv, strip, one, both, putE, St.put, look, gdOf, gdv, picka, pickv, pickw, binv, bini, bins, binb, binp, binq, isSlT, bina, shp, eqCells, unv, convv, nilv, faddv, addp, idxav, idxp, load1, load1m, loadn, loadnm, loadv, hget, hset, hrep, hdel, slicev, slice3v, bnd, shift1, lenv, capv, IntKind.bits, extractv, fieldv, indexv, min2v, max2v, mkiv, tasv, tasz, cellsA, fillA, buildv, stC, oneC, rowMB, intsA, plN, appE, appZ, appC, appS, srcB, appNZ, appNC, VwL, srcC, srcZ, srcM, isBoolT, isPtrT, isSliceT, uOk, Value.oneCell', Nat.reducePow, Int.reducePow, Nat.reduceAdd, Nat.reduceMul, Nat.reduceSub, Nat.reduceLT, Nat.reduceLeDiff, Nat.reduceEqDiff, Nat.reduceBEq, Nat.reduceDiv, Nat.reduceMod, ↓reduceIte, reduceCtorEq, Int.reduceToNat, Int.reduceLT, Int.reduceLE, TFWlZ, SeqQ, BlkQ, LoopQ, BodyQ, hn3, FR.out])
  (refine WP.wk (Wk.freezeC (y2) (1) (by simp only [ZK, rvc, capA, appA, litL, mkfv, drawF, headN, pureH, stp, dvc, calleeOf, gcall, pev, eff, newB, okd, og, ogs, ogo, ogp, slv, bltv, opd, litv, strip, one, both, putE, St.put, look, gdOf, gdv, picka, pickv, pickw, binv, bini, bins, binb, binp, binq, isSlT, bina, shp, eqCells, unv, convv, nilv, faddv, addp, idxav, idxp, load1, load1m, loadn, loadnm, loadv, hget, hset, hrep, hdel, slicev, slice3v, bnd, shift1, lenv, capv, IntKind.bits, extractv, fieldv, indexv, min2v, max2v, mkiv, tasv, tasz, cellsA, fillA, buildv, stC, oneC, rowMB, intsA, plN, appE, appZ, appC, appS, srcB, appNZ, appNC, VwL, srcC, srcZ, srcM, isBoolT, isPtrT, isSliceT, uOk, Value.oneCell', Nat.reducePow, Int.reducePow, Nat.reduceAdd, Nat.reduceMul, Nat.reduceSub, Nat.reduceLT, Nat.reduceLeDiff, Nat.reduceEqDiff, Nat.reduceBEq, Nat.reduceDiv, Nat.reduceMod, ↓reduceIte, reduceCtorEq, Int.reduceToNat, Int.reduceLT, Int.reduceLE, TFWlZ, SeqQ, BlkQ, LoopQ, BodyQ, hn2, FR.out]; first | done | rfl)) ?_; simp only [frzCE, frzC, ZK, rvc, capA, appA, litL, mkfv, drawF, headN, pureH, stp, dvc, calleeOf, gcall, pev, eff, newB, okd, og, ogs, ogo, ogp, slv, bltv, opd, litv, strip, one, both, putE, St.put, look, gdOf, gdv, picka, pickv, pickw, binv, bini, bins, binb, binp, binq, isSlT, bina, shp, eqCells, unv, convv, nilv, faddv, addp, idxav, idxp, load1, load1m, loadn, loadnm, loadv, hget, hset, hrep, hdel, slicev, slice3v, bnd, shift1, lenv, capv, IntKind.bits, extractv, fieldv, indexv, min2v, max2v, mkiv, tasv, tasz, cellsA, fillA, buildv, stC, oneC, rowMB, intsA, plN, appE, appZ, appC, appS, srcB, appNZ, appNC, VwL, srcC, srcZ, srcM, isBoolT, isPtrT, isSliceT, uOk, Value.oneCell', Nat.reducePow, Int.reducePow, Nat.reduceAdd, Nat.reduceMul, Nat.reduceSub, Nat.reduceLT, Nat.reduceLeDiff, Nat.reduceEqDiff, Nat.reduceBEq, Nat.reduceDiv, Nat.reduceMod, ↓reduceIte, reduceCtorEq, Int.reduceToNat, Int.reduceLT, Int.reduceLE, TFWlZ, SeqQ, BlkQ, LoopQ, BodyQ, hn2, FR.out])
  first | (have FRx := FR; clear FRx) | have FR := fr0S
  have FA := Sm.mk (TFWlZ)
  repeat' first | (apply Sm.mk; refine Ys ?_) | refine WP.seq fun K hK => ?_ | (apply Ob.mk; exact Yo) | refine And.intro (Ob.out ?_) ?_ | refine Y1WlZ ?_ | refine YzWlZ ?_ | (refine WP.cond rfl (fun hc => ?_) (fun hc => ?_) <;> (try simp only [ZC, reduceCtorEq, ZD] at hc) <;> (try exact absurd hc (by decide)) <;> (try (exfalso; omega))) | refine Rt.mk (And.intro (fun hg => Sm.out ?_) fun hg => Sm.out ?_) | (refine Nu.mk ?_; first | (fail_if_success have := nb1); intro nb1 | (fail_if_success have := nb2); intro nb2 | (fail_if_success have := nb3); intro nb3 | (fail_if_success have := nb4); intro nb4 | (fail_if_success have := nb5); intro nb5 | (fail_if_success have := nb6); intro nb6 | (fail_if_success have := nb7); intro nb7 | (fail_if_success have := nb8); intro nb8 | (fail_if_success have := nb9); intro nb9 | (fail_if_success have := nb10); intro nb10 | intro nbz) | (apply Yfr; refine Yf FR fun hFRb FR => ?_) | refine Two.mk ?_ ?_ | (apply Yxc; exact Yx) | refine Cs.mk fun hcs => Sm.out ?_ | go_step | omega | (simp only [maxLen_eq]; omega) | exact trivial
  have cont : Sm (∀ (a : DA) (l : DL) (Hh Hn : List Bs), AF 507 s P Q a Hh Hn → LOk b a l → ∀ s', Sub s' ⟨[(13, .sl Hh.length (rowsA Hh)), (14, .sl Hn.length (rowsA Hn)), (9, pt b 0), (6, pt xb 0), (0, iv .i64 (s : Int)), (3, .slz .u8 (ub Y))], (xb, MB.cells [iv .i64 x1, iv .i64 x2, iv .i64 x3, iv .i64 x4, iv .i64 x5, iv .i64 x6] 6 47) :: dH b a l⟩ → K s') := Sm.mk fun a l Hh Hn hAF hl s' hsub => by
    refine hK s' (WP.sub hsub ?_)
    clear hK hsub
    have cC := lift0 [(xb, MB.cells [iv .i64 x1, iv .i64 x2, iv .i64 x3, iv .i64 x4, iv .i64 x5, iv .i64 x6] 6 47)] (crash_d hAF.A hl (by omega) x2 x3)
    obtain ⟨R2, hR2, hall⟩ := hAF.cr x2 x3
    have hA2 := crA_ok hAF.A x2 x3
    have hlen1 := hAF.l1
    have hlen2 := hAF.l2
    obtain ⟨a2, ha2⟩ : ∃ z, z = crA a x2 x3 := ⟨_, rfl⟩
    rw [← ha2] at cC hR2 hA2
    first | (have FRx := FR; clear FRx) | have FR := fr0S
    have FA := Sm.mk (TFWlZ)
    repeat' first | (apply Sm.mk; refine Ys ?_) | refine WP.seq fun K hK => ?_ | (apply Ob.mk; exact Yo) | refine And.intro (Ob.out ?_) ?_ | ((fail_if_success (show WP _ _ _ (.region 20 _ _) _ _)); refine Y1WlZ ?_) | (refine CallV.exM (cC) (pmz _) (fun g => Sm.out ?_)) | refine YzWlZ ?_ | (refine WP.cond rfl (fun hc => ?_) (fun hc => ?_) <;> (try simp only [ZC, reduceCtorEq, ZD] at hc) <;> (try exact absurd hc (by decide)) <;> (try (exfalso; omega))) | refine Rt.mk (And.intro (fun hg => Sm.out ?_) fun hg => Sm.out ?_) | (refine Nu.mk ?_; first | (fail_if_success have := nb1); intro nb1 | (fail_if_success have := nb2); intro nb2 | (fail_if_success have := nb3); intro nb3 | (fail_if_success have := nb4); intro nb4 | (fail_if_success have := nb5); intro nb5 | (fail_if_success have := nb6); intro nb6 | (fail_if_success have := nb7); intro nb7 | (fail_if_success have := nb8); intro nb8 | (fail_if_success have := nb9); intro nb9 | (fail_if_success have := nb10); intro nb10 | intro nbz) | (apply Yfr; refine Yf FR fun hFRb FR => ?_) | refine Two.mk ?_ ?_ | (apply Yxc; exact Yx) | refine Cs.mk fun hcs => Sm.out ?_ | go_step | omega | (simp only [maxLen_eq]; omega) | exact trivial
    obtain ⟨l2, hl2⟩ := g
    try simp only [List.append_nil]
    have cFz := upd0 [(xb, MB.cells [iv .i64 x1, iv .i64 x2, iv .i64 x3, iv .i64 x4, iv .i64 x5, iv .i64 x6] 6 47)] (fuse_d b a2 l2 x4)
    have hA3 := fuA_ok hA2 x4 hG
    have hR3 := hR2.fuse x4
    have hl3 := hl2.fuse x4
    obtain ⟨a3, ha3⟩ : ∃ z, z = fuA a2 x4 := ⟨_, rfl⟩
    rw [← ha3] at cFz hA3 hR3 hl3
    have cO := lift0 [(xb, MB.cells [iv .i64 x1, iv .i64 x2, iv .i64 x3, iv .i64 x4, iv .i64 x5, iv .i64 x6] 6 47)] (open_any b l2 hA3 hR3 hl3 (by omega) (by omega) (by omega))
    have hCo := open_rg hA3 hR3 (by omega)
    have hA4 : AOk 515 (opR a3 1 s R2).1 := (opR_ok (m := 7) hA3 hR3).le (by omega)
    have hCr := hCo.crash x5 x6
    obtain ⟨a4, ha4⟩ : ∃ z, z = (opR a3 1 s R2).1 := ⟨_, rfl⟩
    rw [← ha4] at cO hA4 hCr
    first | (have FRx := FR; clear FRx) | have FR := fr0S
    have FA := Sm.mk (TFWlZ)
    repeat' first | (apply Sm.mk; refine Ys ?_) | refine WP.seq fun K hK => ?_ | (apply Ob.mk; exact Yo) | refine And.intro (Ob.out ?_) ?_ | ((fail_if_success (show WP _ _ _ (.region 22 _ _) _ _)); refine Y1WlZ ?_) | refine CallV.updM (cFz) (pmz _) (Sm.out ?_) | (refine CallV.exM (cO) (pmz _) (fun g => Sm.out ?_)) | refine YzWlZ ?_ | (refine WP.cond rfl (fun hc => ?_) (fun hc => ?_) <;> (try simp only [ZC, reduceCtorEq, ZD] at hc) <;> (try exact absurd hc (by decide)) <;> (try (exfalso; omega))) | refine Rt.mk (And.intro (fun hg => Sm.out ?_) fun hg => Sm.out ?_) | (refine Nu.mk ?_; first | (fail_if_success have := nb1); intro nb1 | (fail_if_success have := nb2); intro nb2 | (fail_if_success have := nb3); intro nb3 | (fail_if_success have := nb4); intro nb4 | (fail_if_success have := nb5); intro nb5 | (fail_if_success have := nb6); intro nb6 | (fail_if_success have := nb7); intro nb7 | (fail_if_success have := nb8); intro nb8 | (fail_if_success have := nb9); intro nb9 | (fail_if_success have := nb10); intro nb10 | intro nbz) | (apply Yfr; refine Yf FR fun hFRb FR => ?_) | refine Two.mk ?_ ?_ | (apply Yxc; exact Yx) | refine Cs.mk fun hcs => Sm.out ?_ | go_step | omega | (simp only [maxLen_eq]; omega) | exact trivial
    obtain ⟨v4, l4, hl4⟩ := g
    try simp only [List.append_nil]
    have cC2 := lift0 [(xb, MB.cells [iv .i64 x1, iv .i64 x2, iv .i64 x3, iv .i64 x4, iv .i64 x5, iv .i64 x6] 6 47)] (crash_d hA4 hl4 (by omega) x5 x6)
    have hA5 := crA_ok hA4 x5 x6
    have hf5 : (crA a4 x5 x6).f = -1 := rfl
    obtain ⟨R5, hR5e, hR5⟩ := hCr
    obtain ⟨a5, ha5⟩ : ∃ z, z = crA a4 x5 x6 := ⟨_, rfl⟩
    rw [← ha5] at cC2 hA5 hf5 hR5
    first | (have FRx := FR; clear FRx) | have FR := fr0S
    have FA := Sm.mk (TFWlZ)
    repeat' first | (apply Sm.mk; refine Ys ?_) | refine WP.seq fun K hK => ?_ | (apply Ob.mk; exact Yo) | refine And.intro (Ob.out ?_) ?_ | ((fail_if_success (show WP _ _ _ (.region 23 _ _) _ _)); refine Y1WlZ ?_) | (refine CallV.exM (cC2) (pmz _) (fun g => Sm.out ?_)) | refine YzWlZ ?_ | (refine WP.cond rfl (fun hc => ?_) (fun hc => ?_) <;> (try simp only [ZC, reduceCtorEq, ZD] at hc) <;> (try exact absurd hc (by decide)) <;> (try (exfalso; omega))) | refine Rt.mk (And.intro (fun hg => Sm.out ?_) fun hg => Sm.out ?_) | (refine Nu.mk ?_; first | (fail_if_success have := nb1); intro nb1 | (fail_if_success have := nb2); intro nb2 | (fail_if_success have := nb3); intro nb3 | (fail_if_success have := nb4); intro nb4 | (fail_if_success have := nb5); intro nb5 | (fail_if_success have := nb6); intro nb6 | (fail_if_success have := nb7); intro nb7 | (fail_if_success have := nb8); intro nb8 | (fail_if_success have := nb9); intro nb9 | (fail_if_success have := nb10); intro nb10 | intro nbz) | (apply Yfr; refine Yf FR fun hFRb FR => ?_) | refine Two.mk ?_ ?_ | (apply Yxc; exact Yx) | refine Cs.mk fun hcs => Sm.out ?_ | go_step | omega | (simp only [maxLen_eq]; omega) | exact trivial
    obtain ⟨l5, hl5⟩ := g
    try simp only [List.append_nil]
    refine WP.sub (s' := ⟨[(13, .sl Hh.length (rowsA Hh)), (14, .sl Hn.length (rowsA Hn)), (9, pt b 0), (0, iv .i64 (s : Int)), (3, .slz .u8 (ub Y))], dH b a5 l5⟩) (Sub.of_env [_] (by exact List.perm_append_comm (l₁ := [_])) (by simp [look])) ?_
    obtain ⟨h05, hR6, hf6⟩ := (open_rg hA5 hR5 (by omega)).up hf5
    have cO3 := openM_up b l5 hA5 hR5 hl5 (by omega) (by omega) (by omega) h05
    have hMM : (all R5).1 = Hh ∨ (all R5).1 = Hn := by rw [all_open hR5e]; exact hall
    have hA6 : AOk 523 (opR a5 1 s R5).1 := (opR_ok (m := 7) hA5 hR5).le (by omega)
    have hI6 := LgI.of_open hA6 hR6 (by omega) (by omega)
    rw [lg_open b hR5.lR] at cO3
    obtain ⟨M, hM⟩ : ∃ M, M = (all R5).1 := ⟨_, rfl⟩
    obtain ⟨a6, ha6⟩ : ∃ z, z = (opR a5 1 s R5).1 := ⟨_, rfl⟩
    rw [← hM, ← ha6] at cO3
    rw [← hM] at hI6 hMM
    rw [← ha6] at hI6 hf6
    clear hM ha6 hR6
    first | (have FRx := FR; clear FRx) | have FR := fr0S
    have FA := Sm.mk (TFWlZ)
    repeat' first | (apply Sm.mk; refine Ys ?_) | refine WP.seq fun K hK => ?_ | (apply Ob.mk; exact Yo) | refine And.intro (Ob.out ?_) ?_ | ((fail_if_success (show WP _ _ _ (.region 24 _ _) _ _)); refine Y1WlZ ?_) | (refine CallV.exM (cO3) (pmz _) (fun g => Sm.out ?_)) | refine YzWlZ ?_ | (refine WP.cond rfl (fun hc => ?_) (fun hc => ?_) <;> (try simp only [ZC, reduceCtorEq, ZD] at hc) <;> (try exact absurd hc (by decide)) <;> (try (exfalso; omega))) | refine Rt.mk (And.intro (fun hg => Sm.out ?_) fun hg => Sm.out ?_) | (refine Nu.mk ?_; first | (fail_if_success have := nb1); intro nb1 | (fail_if_success have := nb2); intro nb2 | (fail_if_success have := nb3); intro nb3 | (fail_if_success have := nb4); intro nb4 | (fail_if_success have := nb5); intro nb5 | (fail_if_success have := nb6); intro nb6 | (fail_if_success have := nb7); intro nb7 | (fail_if_success have := nb8); intro nb8 | (fail_if_success have := nb9); intro nb9 | (fail_if_success have := nb10); intro nb10 | intro nbz) | (apply Yfr; refine Yf FR fun hFRb FR => ?_) | refine Two.mk ?_ ?_ | (apply Yxc; exact Yx) | refine Cs.mk fun hcs => Sm.out ?_ | go_step | omega | (simp only [maxLen_eq]; omega) | exact trivial
    obtain ⟨x7, ⟨⟨b2, cap⟩, hc1, hc2⟩, l6, hl6⟩ := g
    simp only [List.append_nil] at hc1 hc2 ⊢
    have hMl := hI6.len
    have cS1 := ACt.lookU (H := (x7, lgN b 1 7 s M false) :: (mR M b2 cap ++ dH b a6 l6)) (R := (x7, lgN b 1 7 s M false) :: dH b a6 l6) (same_f M Hh b2 cap hc1 hc2 (by omega) hlen1) (by exact (List.perm_middle (l₁ := mR M b2 cap) (l₂ := dH b a6 l6)).symm)
    have cS2 := ACt.lookU (H := (x7, lgN b 1 7 s M false) :: (mR M b2 cap ++ dH b a6 l6)) (R := (x7, lgN b 1 7 s M false) :: dH b a6 l6) (same_f M Hn b2 cap hc1 hc2 (by omega) hlen2) (by exact (List.perm_middle (l₁ := mR M b2 cap) (l₂ := dH b a6 l6)).symm)
    have hz12 : decide (M = Hh) = true ∨ decide (M = Hn) = true := hMM.imp decide_eq_true decide_eq_true
    obtain ⟨z1, hz1⟩ : ∃ z, z = decide (M = Hh) := ⟨_, rfl⟩
    obtain ⟨z2, hz2⟩ : ∃ z, z = decide (M = Hn) := ⟨_, rfl⟩
    rw [← hz1] at cS1 hz12
    rw [← hz2] at cS2 hz12
    clear hz1 hz2 hMM
    have kz : (!z1 && !z2) = false := by rcases hz12 with rfl | rfl <;> simp
    first | (have FRx := FR; clear FRx) | have FR := fr0S
    have FA := Sm.mk (And.intro TFWlZ kz)
    repeat' first | (apply Sm.mk; refine Ys ?_) | refine WP.seq fun K hK => ?_ | (apply Ob.mk; exact Yo) | refine And.intro (Ob.out ?_) ?_ | ((fail_if_success (show WP _ _ _ (.region 28 _ _) _ _)); refine Y1WlZ ?_) | refine CallV.updM (cS1) (pmz _) (Sm.out ?_) | ((first | refine ExF.up ?_ (cS1) (Sm.out ?_) | refine ExG.up ?_ (fun _ => cS1) (Sm.out ?_) | refine ExG.upJ ?_ (fun _ => cS1) (Sm.out ?_) | refine ExG.upI ?_ (fun _ => cS1) (Ob.out ?_) (Sm.out ?_)); focus (exact ⟨_, (pmz _)⟩)) | refine CallV.updM (cS2) (pmz _) (Sm.out ?_) | ((first | refine ExF.up ?_ (cS2) (Sm.out ?_) | refine ExG.up ?_ (fun _ => cS2) (Sm.out ?_) | refine ExG.upJ ?_ (fun _ => cS2) (Sm.out ?_) | refine ExG.upI ?_ (fun _ => cS2) (Ob.out ?_) (Sm.out ?_)); focus (exact ⟨_, (pmz _)⟩)) | refine YzWlZ ?_ | (refine WP.cond rfl (fun hc => ?_) (fun hc => ?_) <;> (try simp only [ZC, reduceCtorEq, ZD] at hc) <;> (try exact absurd hc (by decide)) <;> (try (exfalso; omega))) | refine Rt.mk (And.intro (fun hg => Sm.out ?_) fun hg => Sm.out ?_) | (refine Nu.mk ?_; first | (fail_if_success have := nb1); intro nb1 | (fail_if_success have := nb2); intro nb2 | (fail_if_success have := nb3); intro nb3 | (fail_if_success have := nb4); intro nb4 | (fail_if_success have := nb5); intro nb5 | (fail_if_success have := nb6); intro nb6 | (fail_if_success have := nb7); intro nb7 | (fail_if_success have := nb8); intro nb8 | (fail_if_success have := nb9); intro nb9 | (fail_if_success have := nb10); intro nb10 | intro nbz) | (apply Yfr; refine Yf FR fun hFRb FR => ?_) | refine Two.mk ?_ ?_ | (apply Yxc; exact Yx) | refine Cs.mk fun hcs => Sm.out ?_ | go_step | omega | (simp only [maxLen_eq]; omega) | exact trivial
    obtain ⟨M2, a7, e, hI7, cA7, cB7⟩ := last_two b x7 b2 cap l6 hI6 hl6 Y (by omega) hf6 (by omega) hc1 hc2
    clear cS1 cS2 hI6
    have w7 : IntKind.i64.wrap (7 * (s : Int)) = ((7 * s : Nat) : Int) := by rw [show (7 * (s : Int)) = ((7 * s : Nat) : Int) by simp]; exact wrap_i64 (by omega) (by omega)
    have w8 : IntKind.i64.wrap (8 * (s : Int)) = ((8 * s : Nat) : Int) := by rw [show (8 * (s : Int)) = ((8 * s : Nat) : Int) by simp]; exact wrap_i64 (by omega) (by omega)
    have ke : (e != e) = false := by simp
    first | (have FRx := FR; clear FRx) | have FR := fr0S
    have FA := Sm.mk (TFWlZ)
    repeat' first | (apply Sm.mk; refine Ys ?_) | refine WP.seq fun K hK => ?_ | (apply Ob.mk; exact Yo) | refine And.intro (Ob.out ?_) ?_ | ((fail_if_success (show WP _ _ _ (.region 29 _ _) _ _)); refine Y1WlZ ?_) | (refine CallV.exM (cA7) (pmz _) (fun g => Sm.out ?_)) | refine YzWlZ ?_ | (refine WP.cond rfl (fun hc => ?_) (fun hc => ?_) <;> (try simp only [ZC, reduceCtorEq, ZD] at hc) <;> (try exact absurd hc (by decide)) <;> (try (exfalso; omega))) | refine Rt.mk (And.intro (fun hg => Sm.out ?_) fun hg => Sm.out ?_) | (refine Nu.mk ?_; first | (fail_if_success have := nb1); intro nb1 | (fail_if_success have := nb2); intro nb2 | (fail_if_success have := nb3); intro nb3 | (fail_if_success have := nb4); intro nb4 | (fail_if_success have := nb5); intro nb5 | (fail_if_success have := nb6); intro nb6 | (fail_if_success have := nb7); intro nb7 | (fail_if_success have := nb8); intro nb8 | (fail_if_success have := nb9); intro nb9 | (fail_if_success have := nb10); intro nb10 | intro nbz) | (apply Yfr; refine Yf FR fun hFRb FR => ?_) | refine Two.mk ?_ ?_ | (apply Yxc; exact Yx) | refine Cs.mk fun hcs => Sm.out ?_ | go_step | omega | (simp only [maxLen_eq]; omega) | exact trivial
    obtain ⟨l7, hl7⟩ := g
    try simp only [List.append_nil]
    rw [mW_sl M b2 cap]
    first | (have FRx := FR; clear FRx) | have FR := fr0S
    have FA := Sm.mk (And.intro TFWlZ w7)
    repeat' first | (apply Sm.mk; refine Ys ?_) | refine WP.seq fun K hK => ?_ | (apply Ob.mk; exact Yo) | refine And.intro (Ob.out ?_) ?_ | ((fail_if_success (show WP _ _ _ (.region 30 _ _) _ _)); refine Y1WlZ ?_) | refine YzWlZ ?_ | (refine WP.cond rfl (fun hc => ?_) (fun hc => ?_) <;> (try simp only [ZC, reduceCtorEq, ZD] at hc) <;> (try exact absurd hc (by decide)) <;> (try (exfalso; omega))) | refine Rt.mk (And.intro (fun hg => Sm.out ?_) fun hg => Sm.out ?_) | (refine Nu.mk ?_; first | (fail_if_success have := nb1); intro nb1 | (fail_if_success have := nb2); intro nb2 | (fail_if_success have := nb3); intro nb3 | (fail_if_success have := nb4); intro nb4 | (fail_if_success have := nb5); intro nb5 | (fail_if_success have := nb6); intro nb6 | (fail_if_success have := nb7); intro nb7 | (fail_if_success have := nb8); intro nb8 | (fail_if_success have := nb9); intro nb9 | (fail_if_success have := nb10); intro nb10 | intro nbz) | (apply Yfr; refine Yf FR fun hFRb FR => ?_) | refine Two.mk ?_ ?_ | (apply Yxc; exact Yx) | refine Cs.mk fun hcs => Sm.out ?_ | go_step | omega | (simp only [maxLen_eq]; omega) | exact trivial
    refine WP.sub (s' := ⟨[(20, iv .i64 e), (21, pt nb4 0), (9, pt b 0), (0, iv .i64 (s : Int)), (3, .slz .u8 (ub Y))], (nb4, .cells [.lit (.slice (mo M b2) M.length (mc M cap)), iv .i64 ((7 * s : Nat) : Int)] 2 37) :: (x7, lgN b 1 7 s M2 false) :: (mR M b2 cap ++ dH b a7 l7)⟩) (Sub.of_env [] (by exact pmz _) (by simp [look])) ?_
    refine WP.nd fun hnd => ?_
    obtain ⟨mb, hmb⟩ : ∃ z, z = nb4 := ⟨_, rfl⟩
    rw [← hmb] at hnd ⊢
    have hm := mok_of hnd hc1 hc2
    clear hmb hnd
    have cB8 := liftM (x7, lgN b 1 7 s M2 false) (dH b a7 l7) (cB7 mb hm)
    refine WP.sub (s' := ⟨[(20, iv .i64 e), (21, pt mb 0), (9, pt b 0), (0, iv .i64 (s : Int)), (3, .slz .u8 (ub Y))], (x7, lgN b 1 7 s M2 false) :: (mH mb (7 * s) M b2 cap ++ dH b a7 l7)⟩) (Sub.of_env [] (by rw [mH_eq, mV_lit, mW_sl, List.append_nil]; exact .swap _ _ _) (by simp [look])) ?_
    first | (have FRx := FR; clear FRx) | have FR := fr0S
    have FA := Sm.mk (And.intro TFWlZ ke)
    repeat' first | (apply Sm.mk; refine Ys ?_) | refine WP.seq fun K hK => ?_ | (apply Ob.mk; exact Yo) | refine And.intro (Ob.out ?_) ?_ | ((fail_if_success (show WP _ _ _ (.region 32 _ _) _ _)); refine Y1WlZ ?_) | (refine CallV.exM (cB8) (pmz _) (fun g => Sm.out ?_)) | refine YzWlZ ?_ | (refine WP.cond rfl (fun hc => ?_) (fun hc => ?_) <;> (try simp only [ZC, reduceCtorEq, ZD] at hc) <;> (try exact absurd hc (by decide)) <;> (try (exfalso; omega))) | refine Rt.mk (And.intro (fun hg => Sm.out ?_) fun hg => Sm.out ?_) | (refine Nu.mk ?_; first | (fail_if_success have := nb1); intro nb1 | (fail_if_success have := nb2); intro nb2 | (fail_if_success have := nb3); intro nb3 | (fail_if_success have := nb4); intro nb4 | (fail_if_success have := nb5); intro nb5 | (fail_if_success have := nb6); intro nb6 | (fail_if_success have := nb7); intro nb7 | (fail_if_success have := nb8); intro nb8 | (fail_if_success have := nb9); intro nb9 | (fail_if_success have := nb10); intro nb10 | intro nbz) | (apply Yfr; refine Yf FR fun hFRb FR => ?_) | refine Two.mk ?_ ?_ | (apply Yxc; exact Yx) | refine Cs.mk fun hcs => Sm.out ?_ | go_step | omega | (simp only [maxLen_eq]; omega) | exact trivial
    obtain ⟨⟨b3, cap3⟩, hm3⟩ := g
    simp only [List.append_nil] at hm3 ⊢
    have cO9 := lift0 ((x7, lgN b 1 7 s M2 false) :: mH mb (7 * s) M2 b3 cap3) (open_up b l7 hI7 hl7)
    first | (have FRx := FR; clear FRx) | have FR := fr0S
    have FA := Sm.mk (TFWlZ)
    repeat' first | (apply Sm.mk; refine Ys ?_) | refine WP.seq fun K hK => ?_ | (apply Ob.mk; exact Yo) | refine And.intro (Ob.out ?_) ?_ | ((fail_if_success (show WP _ _ _ (.region 33 _ _) _ _)); refine Y1WlZ ?_) | (refine CallV.exM (cO9) (pmz _) (fun g => Sm.out ?_)) | refine YzWlZ ?_ | (refine WP.cond rfl (fun hc => ?_) (fun hc => ?_) <;> (try simp only [ZC, reduceCtorEq, ZD] at hc) <;> (try exact absurd hc (by decide)) <;> (try (exfalso; omega))) | refine Rt.mk (And.intro (fun hg => Sm.out ?_) fun hg => Sm.out ?_) | (refine Nu.mk ?_; first | (fail_if_success have := nb1); intro nb1 | (fail_if_success have := nb2); intro nb2 | (fail_if_success have := nb3); intro nb3 | (fail_if_success have := nb4); intro nb4 | (fail_if_success have := nb5); intro nb5 | (fail_if_success have := nb6); intro nb6 | (fail_if_success have := nb7); intro nb7 | (fail_if_success have := nb8); intro nb8 | (fail_if_success have := nb9); intro nb9 | (fail_if_success have := nb10); intro nb10 | intro nbz) | (apply Yfr; refine Yf FR fun hFRb FR => ?_) | refine Two.mk ?_ ?_ | (apply Yxc; exact Yx) | refine Cs.mk fun hcs => Sm.out ?_ | go_step | omega | (simp only [maxLen_eq]; omega) | exact trivial
    try simp only [List.append_nil]
    obtain ⟨x8, hx8⟩ : ∃ z, z = g := ⟨_, rfl⟩
    rw [← hx8]
    clear hx8
    refine WP.sub (s' := ⟨[(18, .sl M2.length (rowsA M2)), (19, iv .i64 0), (21, pt mb 0), (9, pt b 0), (0, iv .i64 (s : Int))], (x8, lgN b 1 7 s M2 false) :: (mb, .cells [mV M2 b3 cap3, iv .i64 ((7 * s : Nat) : Int)] 2 37) :: (mR M2 b3 cap3 ++ dH b a7 l7)⟩) (Sub.of_env [(x7, lgN b 1 7 s M2 false)] (by rw [mH_eq]; exact pm_out2 _ _ _ _) (by simp [look])) ?_
    (refine WP.nd fun hnd => ?_; simp only [ndF, fresh_cons, fresh_nil, and_true, ne_eq] at hnd; replace FR := Sm.mk (And.intro hnd FR.out); clear hnd)
    have hl2 := hI7.len
    have hu2 := hI7.u
    have hlP := hI7.R.lP
    have hlR := hI7.R.lR
    have cS := k_same (f := 1) (m := 7) (s := s) (a := a7) b x8 mb b3 cap3 l7 hm3 M2 (by omega) (by omega)
    rw [decide_eq_true rfl] at cS
    have cT := k_rtext (f := 1) (m := 7) (s := s) (a := a7) b x8 mb b3 cap3 l7 hm3 hu2 (by omega)
    have cW := k_all (f := 1) (m := 7) (s := s) (M := M2) b x8 mb b3 cap3 l7 hI7.A hl7 hI7.R.st.dk
    rw [hI7.R.st.T] at cW
    have hall9 : P.length + (frs M2 ++ zrs (7 * s - usd M2)).length + Q.length = 9 * s := hI7.R.all hI7.A
    obtain ⟨X7, hX7⟩ : ∃ z, z = bstr (ub (P ++ (frs M2 ++ zrs (7 * s - usd M2) ++ Q))) := ⟨_, rfl⟩
    obtain ⟨R7, hR7⟩ : ∃ z, z = frs M2 ++ zrs (7 * s - usd M2) := ⟨_, rfl⟩
    rw [← hX7] at cW
    rw [← hR7] at cT hX7 hlR hall9
    have hXs : X7.size = 9 * s := by rw [hX7, bstr_size, ub_len, List.length_append, List.length_append]; omega
    have eX : X7.extract s (8 * s) = bstr (ub R7) := by
      rw [hX7, bstr_ext, ub_map, ub_map, ← List.map_take, ← List.map_drop, List.take_append, List.take_append]
      congr 2
      rw [List.take_of_length_le (show P.length ≤ 8 * s by omega), List.take_of_length_le (show R7.length ≤ 8 * s - P.length by omega), show 8 * s - P.length - R7.length = 0 by omega, List.take_zero, List.append_nil]
      rw [show s = P.length by omega, List.drop_left]
    have kE : ((bstr (ub R7)).toList == (bstr (ub R7)).toList) = true := beq_self_eq_true _
    simp only [mH_eq, List.cons_append] at cT cW
    first | (have FRx := FR; clear FRx) | have FR := fr0S
    have FA := Sm.mk (And.intro TFWlZ (And.intro w8 (And.intro hXs (And.intro eX kE))))
    repeat' first | (apply Sm.mk; refine Ys ?_) | refine WP.seq fun K hK => ?_ | (apply Ob.mk; exact Yo) | refine And.intro (Ob.out ?_) ?_ | refine Y1WlZ ?_ | refine CallV.updM (cS) (pmz _) (Sm.out ?_) | ((first | refine ExF.up ?_ (cS) (Sm.out ?_) | refine ExG.up ?_ (fun _ => cS) (Sm.out ?_) | refine ExG.upJ ?_ (fun _ => cS) (Sm.out ?_) | refine ExG.upI ?_ (fun _ => cS) (Ob.out ?_) (Sm.out ?_)); focus (exact ⟨_, (pmz _)⟩)) | refine CallV.updM (cT) (pmz _) (Sm.out ?_) | ((first | refine ExF.up ?_ (cT) (Sm.out ?_) | refine ExG.up ?_ (fun _ => cT) (Sm.out ?_) | refine ExG.upJ ?_ (fun _ => cT) (Sm.out ?_) | refine ExG.upI ?_ (fun _ => cT) (Ob.out ?_) (Sm.out ?_)); focus (exact ⟨_, (pmz _)⟩)) | refine CallV.updM (cW) (pmz _) (Sm.out ?_) | ((first | refine ExF.up ?_ (cW) (Sm.out ?_) | refine ExG.up ?_ (fun _ => cW) (Sm.out ?_) | refine ExG.upJ ?_ (fun _ => cW) (Sm.out ?_) | refine ExG.upI ?_ (fun _ => cW) (Ob.out ?_) (Sm.out ?_)); focus (exact ⟨_, (pmz _)⟩)) | refine YzWlZ ?_ | (refine WP.cond rfl (fun hc => ?_) (fun hc => ?_) <;> (try simp only [ZC, reduceCtorEq, ZD] at hc) <;> (try exact absurd hc (by decide)) <;> (try (exfalso; omega))) | refine Rt.mk (And.intro (fun hg => Sm.out ?_) fun hg => Sm.out ?_) | (refine Nu.mk ?_; first | (fail_if_success have := nb1); intro nb1 | (fail_if_success have := nb2); intro nb2 | (fail_if_success have := nb3); intro nb3 | (fail_if_success have := nb4); intro nb4 | (fail_if_success have := nb5); intro nb5 | (fail_if_success have := nb6); intro nb6 | (fail_if_success have := nb7); intro nb7 | (fail_if_success have := nb8); intro nb8 | (fail_if_success have := nb9); intro nb9 | (fail_if_success have := nb10); intro nb10 | intro nbz) | (apply Yfr; refine Yf FR fun hFRb FR => ?_) | refine Two.mk ?_ ?_ | (apply Yxc; exact Yx) | refine Cs.mk fun hcs => Sm.out ?_ | go_step | omega | (simp only [maxLen_eq]; omega) | exact trivial
    (refine Yg ?_; try exact trivial)
  refine WP.loop (Γ := LG) (fun g => ⟨[(15, iv .i64 (g.i : Int)), (13, .sl g.H.length (rowsA g.H)), (14, .sl g.H.length (rowsA g.H)), (10, pt x 0), (9, pt b 0), (6, pt xb 0), (0, iv .i64 (s : Int)), (1, .sl L.length C), (3, .slz .u8 (ub Y))], (xb, MB.cells [iv .i64 x1, iv .i64 x2, iv .i64 x3, iv .i64 x4, iv .i64 x5, iv .i64 x6] 6 47) :: (x, lgN b 1 7 s g.H false) :: dH b g.a g.l⟩)
    (fun g => g.i ≤ L.length ∧ LgI (19 + 8 * g.i) s 9 1 7 P Q g.H g.a ∧ LOk b g.a g.l) (fun g => L.length - g.i) ⟨0, l1, a2, []⟩ ⟨Nat.zero_le _, hI2, hl2⟩ (Sub.of_env [] (pmz _) (by simp [look, rowsA])) ?_
  clear hI2 hl2 hK
  intro ⟨i, l, a, H⟩ ⟨hi, hI, hl⟩
  simp only at hi hI hl ⊢
  have FR : Sm (¬ ((1 : Nat) = 0)) := Sm.mk Nat.one_ne_zero
  by_cases hin : i < L.length
  · have ki : decide ((i : Int) < (L.length : Int)) = true := decide_eq_true (by omega)
    have s1 : IntKind.i64.wrap ((i : Int) + 1) = ((i + 1 : Nat) : Int) := by rw [wrap_i64 (by omega) (by omega)]; omega
    have hd := hdr i hin
    have q1 : (i + 1) * 2 ≤ C.length := by omega
    have vl := ub_len (L[i]).z
    have hv2 := hL2 L[i] (List.getElem_mem hin)
    obtain ⟨v, hv⟩ : ∃ x, x = L[i] := ⟨_, rfl⟩
    rw [← hv] at hd vl hv2
    obtain ⟨TR, hTR⟩ : ∃ TR, TR = acs (L.drop (i + 1)) := ⟨_, rfl⟩
    rw [← hTR] at hd
    have hHl := hI.len
    have cW := with_ct H v.z (by omega)
    clear hdr hv hTR
    by_cases hfu : 7 * s < usd H + (v.z.length + 10)
    · have cA := look0 [(xb, MB.cells [iv .i64 x1, iv .i64 x2, iv .i64 x3, iv .i64 x4, iv .i64 x5, iv .i64 x6] 6 47)] (append_full b x l hI v.z hfu (by omega))
      have y1 : ((11 : Int) == 12) = false := rfl
      have y2 : ((11 : Int) == 0) = false := rfl
      first | (have FRx := FR; clear FRx) | have FR := fr0S
      have FA := Sm.mk (And.intro TFWlZ (And.intro ki (And.intro hd (And.intro q1 (And.intro vl (And.intro s1 (And.intro y1 y2)))))))
      repeat' first | (apply Sm.mk; refine YsWlZ0 ?_) | refine WP.seq fun K hK => ?_ | (apply Ob.mk; exact Yo) | refine And.intro (Ob.out ?_) ?_ | refine Y1WlZ ?_ | refine CallV.updM (cA) (pmz _) (Sm.out ?_) | ((first | refine ExF.up ?_ (cA) (Sm.out ?_) | refine ExG.up ?_ (fun _ => cA) (Sm.out ?_) | refine ExG.upJ ?_ (fun _ => cA) (Sm.out ?_) | refine ExG.upI ?_ (fun _ => cA) (Ob.out ?_) (Sm.out ?_)); focus (exact ⟨_, (pmz _)⟩)) | (first | refine CallV.fn (cW) (Sm.out ?_) | refine ExF.mk (cW) (Sm.out ?_) | refine ExG.mk (fun _ => cW) (Sm.out ?_) | refine ExG.mkJ (fun _ => cW) (Sm.out ?_) | refine ExG.mkI (Ob.out ?_) (fun _ => cW) (Sm.out ?_)) | refine YzWlZ ?_ | (refine WP.cond rfl (fun hc => ?_) (fun hc => ?_) <;> (try simp only [ZC, reduceCtorEq, ZD] at hc) <;> (try exact absurd hc (by decide)) <;> (try (exfalso; omega))) | refine Rt.mk (And.intro (fun hg => Sm.out ?_) fun hg => Sm.out ?_) | (refine Nu.mk ?_; first | (fail_if_success have := nb1); intro nb1 | (fail_if_success have := nb2); intro nb2 | (fail_if_success have := nb3); intro nb3 | (fail_if_success have := nb4); intro nb4 | (fail_if_success have := nb5); intro nb5 | (fail_if_success have := nb6); intro nb6 | (fail_if_success have := nb7); intro nb7 | (fail_if_success have := nb8); intro nb8 | (fail_if_success have := nb9); intro nb9 | (fail_if_success have := nb10); intro nb10 | intro nbz) | (apply Yfr; refine Yf FR fun hFRb FR => ?_) | refine Two.mk ?_ ?_ | (apply Yxc; exact Yx) | refine Cs.mk fun hcs => Sm.out ?_ | go_step | omega | (simp only [maxLen_eq]; omega) | exact trivial
      exact ⟨⟨i + 1, l, a, H⟩, ⟨by simp only; omega, hI.up2 (by simp only; omega), hl⟩, by simp only; omega, Sub.of_env [] (pmz _) (by simp [look, s1])⟩
    · rcases hI.go v.z (by omega) with ⟨h0, hI'⟩ | ⟨h0, hD⟩
      · have cA := lift0 [(xb, MB.cells [iv .i64 x1, iv .i64 x2, iv .i64 x3, iv .i64 x4, iv .i64 x5, iv .i64 x6] 6 47)] (append_go b x l hI hl v.z (by omega) (by omega) h0 (by omega))
        obtain ⟨a', ha'⟩ : ∃ z, z = (apX 1 s 7 H a v.z).1 := ⟨_, rfl⟩
        rw [← ha'] at cA hI'
        have y1 : ((0 : Int) == 12) = false := rfl
        have y2 : ((0 : Int) == 0) = true := rfl
        first | (have FRx := FR; clear FRx) | have FR := fr0S
        have FA := Sm.mk (And.intro TFWlZ (And.intro ki (And.intro hd (And.intro q1 vl))))
        repeat' first | (apply Sm.mk; refine YsWlZ0 ?_) | refine WP.seq fun K hK => ?_ | (apply Ob.mk; exact Yo) | refine And.intro (Ob.out ?_) ?_ | ((fail_if_success (show WP _ _ _ (.region 14 _ _) _ _)); refine Y1WlZ ?_) | (refine CallV.exM (cA) (pmz _) (fun g => Sm.out ?_)) | refine YzWlZ ?_ | (refine WP.cond rfl (fun hc => ?_) (fun hc => ?_) <;> (try simp only [ZC, reduceCtorEq, ZD] at hc) <;> (try exact absurd hc (by decide)) <;> (try (exfalso; omega))) | refine Rt.mk (And.intro (fun hg => Sm.out ?_) fun hg => Sm.out ?_) | (refine Nu.mk ?_; first | (fail_if_success have := nb1); intro nb1 | (fail_if_success have := nb2); intro nb2 | (fail_if_success have := nb3); intro nb3 | (fail_if_success have := nb4); intro nb4 | (fail_if_success have := nb5); intro nb5 | (fail_if_success have := nb6); intro nb6 | (fail_if_success have := nb7); intro nb7 | (fail_if_success have := nb8); intro nb8 | (fail_if_success have := nb9); intro nb9 | (fail_if_success have := nb10); intro nb10 | intro nbz) | (apply Yfr; refine Yf FR fun hFRb FR => ?_) | refine Two.mk ?_ ?_ | (apply Yxc; exact Yx) | refine Cs.mk fun hcs => Sm.out ?_ | go_step | omega | (simp only [maxLen_eq]; omega) | exact trivial
        obtain ⟨l2, hl2⟩ := g
        try simp only [List.append_nil]
        first | (have FRx := FR; clear FRx) | have FR := fr0S
        have FA := Sm.mk (And.intro TFWlZ (And.intro ki (And.intro hd (And.intro q1 (And.intro vl (And.intro s1 (And.intro y1 y2)))))))
        repeat' first | (apply Sm.mk; refine YsWlZ0 ?_) | refine WP.seq fun K hK => ?_ | (apply Ob.mk; exact Yo) | refine And.intro (Ob.out ?_) ?_ | refine Y1WlZ ?_ | refine Yc (c := cW) (r := ?_) | refine YzWlZ ?_ | (refine WP.cond rfl (fun hc => ?_) (fun hc => ?_) <;> (try simp only [ZC, reduceCtorEq, ZD] at hc) <;> (try exact absurd hc (by decide)) <;> (try (exfalso; omega))) | refine Rt.mk (And.intro (fun hg => Sm.out ?_) fun hg => Sm.out ?_) | (refine Nu.mk ?_; first | (fail_if_success have := nb1); intro nb1 | (fail_if_success have := nb2); intro nb2 | (fail_if_success have := nb3); intro nb3 | (fail_if_success have := nb4); intro nb4 | (fail_if_success have := nb5); intro nb5 | (fail_if_success have := nb6); intro nb6 | (fail_if_success have := nb7); intro nb7 | (fail_if_success have := nb8); intro nb8 | (fail_if_success have := nb9); intro nb9 | (fail_if_success have := nb10); intro nb10 | intro nbz) | (apply Yfr; refine Yf FR fun hFRb FR => ?_) | refine Two.mk ?_ ?_ | (apply Yxc; exact Yx) | refine Cs.mk fun hcs => Sm.out ?_ | go_step | omega | (simp only [maxLen_eq]; omega) | exact trivial
        exact ⟨⟨i + 1, l2, a', H ++ [v.z]⟩, ⟨by simp only; omega, hI'.up2 (by simp only; omega), hl2⟩, by simp only; omega, Sub.of_env [] (pmz _) (by simp [look, s1])⟩
      · have cA := lift0 [(xb, MB.cells [iv .i64 x1, iv .i64 x2, iv .i64 x3, iv .i64 x4, iv .i64 x5, iv .i64 x6] 6 47)] (append_dk b x l hI hl v.z (by omega) (by omega) h0 (by omega))
        have hAF := AF.of_dk hI v.z (by omega) (by omega) ((apX_ok hI v.z (by omega)).le (show _ ≤ 507 by omega)) hD
        obtain ⟨a', ha'⟩ : ∃ z, z = (apX 1 s 7 H a v.z).1 := ⟨_, rfl⟩
        rw [← ha'] at cA hAF
        have y1 : ((12 : Int) == 12) = true := rfl
        first | (have FRx := FR; clear FRx) | have FR := fr0S
        have FA := Sm.mk (And.intro TFWlZ (And.intro ki (And.intro hd (And.intro q1 vl))))
        repeat' first | (apply Sm.mk; refine YsWlZ0 ?_) | refine WP.seq fun K hK => ?_ | (apply Ob.mk; exact Yo) | refine And.intro (Ob.out ?_) ?_ | ((fail_if_success (show WP _ _ _ (.region 14 _ _) _ _)); refine Y1WlZ ?_) | (refine CallV.exM (cA) (pmz _) (fun g => Sm.out ?_)) | refine YzWlZ ?_ | (refine WP.cond rfl (fun hc => ?_) (fun hc => ?_) <;> (try simp only [ZC, reduceCtorEq, ZD] at hc) <;> (try exact absurd hc (by decide)) <;> (try (exfalso; omega))) | refine Rt.mk (And.intro (fun hg => Sm.out ?_) fun hg => Sm.out ?_) | (refine Nu.mk ?_; first | (fail_if_success have := nb1); intro nb1 | (fail_if_success have := nb2); intro nb2 | (fail_if_success have := nb3); intro nb3 | (fail_if_success have := nb4); intro nb4 | (fail_if_success have := nb5); intro nb5 | (fail_if_success have := nb6); intro nb6 | (fail_if_success have := nb7); intro nb7 | (fail_if_success have := nb8); intro nb8 | (fail_if_success have := nb9); intro nb9 | (fail_if_success have := nb10); intro nb10 | intro nbz) | (apply Yfr; refine Yf FR fun hFRb FR => ?_) | refine Two.mk ?_ ?_ | (apply Yxc; exact Yx) | refine Cs.mk fun hcs => Sm.out ?_ | go_step | omega | (simp only [maxLen_eq]; omega) | exact trivial
        obtain ⟨l2, hl2⟩ := g
        try simp only [List.append_nil]
        first | (have FRx := FR; clear FRx) | have FR := fr0S
        have FA := Sm.mk (And.intro TFWlZ (And.intro ki (And.intro hd (And.intro q1 (And.intro vl (And.intro s1 y1))))))
        repeat' first | (apply Sm.mk; refine YsWlZ0 ?_) | refine WP.seq fun K hK => ?_ | (apply Ob.mk; exact Yo) | refine And.intro (Ob.out ?_) ?_ | refine Y1WlZ ?_ | refine Yc (c := cW) (r := ?_) | refine YzWlZ ?_ | (refine WP.cond rfl (fun hc => ?_) (fun hc => ?_) <;> (try simp only [ZC, reduceCtorEq, ZD] at hc) <;> (try exact absurd hc (by decide)) <;> (try (exfalso; omega))) | refine Rt.mk (And.intro (fun hg => Sm.out ?_) fun hg => Sm.out ?_) | (refine Nu.mk ?_; first | (fail_if_success have := nb1); intro nb1 | (fail_if_success have := nb2); intro nb2 | (fail_if_success have := nb3); intro nb3 | (fail_if_success have := nb4); intro nb4 | (fail_if_success have := nb5); intro nb5 | (fail_if_success have := nb6); intro nb6 | (fail_if_success have := nb7); intro nb7 | (fail_if_success have := nb8); intro nb8 | (fail_if_success have := nb9); intro nb9 | (fail_if_success have := nb10); intro nb10 | intro nbz) | (apply Yfr; refine Yf FR fun hFRb FR => ?_) | refine Two.mk ?_ ?_ | (apply Yxc; exact Yx) | refine Cs.mk fun hcs => Sm.out ?_ | go_step | omega | (simp only [maxLen_eq]; omega) | exact trivial
        exact cont.out a' l2 H (H ++ [v.z]) hAF hl2 _ (Sub.of_env [_] (by exact List.Perm.cons _ (List.perm_append_comm (l₁ := [_]))) (by simp [look]))
  · obtain rfl : i = L.length := by omega
    have ki : decide ((L.length : Int) < (L.length : Int)) = false := by simp
    first | (have FRx := FR; clear FRx) | have FR := fr0S
    have FA := Sm.mk (And.intro TFWlZ ki)
    repeat' first | (apply Sm.mk; refine Ys ?_) | refine WP.seq fun K hK => ?_ | (apply Ob.mk; exact Yo) | refine And.intro (Ob.out ?_) ?_ | refine Y1WlZ ?_ | refine YzWlZ ?_ | (refine WP.cond rfl (fun hc => ?_) (fun hc => ?_) <;> (try simp only [ZC, reduceCtorEq, ZD] at hc) <;> (try exact absurd hc (by decide)) <;> (try (exfalso; omega))) | refine Rt.mk (And.intro (fun hg => Sm.out ?_) fun hg => Sm.out ?_) | (refine Nu.mk ?_; first | (fail_if_success have := nb1); intro nb1 | (fail_if_success have := nb2); intro nb2 | (fail_if_success have := nb3); intro nb3 | (fail_if_success have := nb4); intro nb4 | (fail_if_success have := nb5); intro nb5 | (fail_if_success have := nb6); intro nb6 | (fail_if_success have := nb7); intro nb7 | (fail_if_success have := nb8); intro nb8 | (fail_if_success have := nb9); intro nb9 | (fail_if_success have := nb10); intro nb10 | intro nbz) | (apply Yfr; refine Yf FR fun hFRb FR => ?_) | refine Two.mk ?_ ?_ | (apply Yxc; exact Yx) | refine Cs.mk fun hcs => Sm.out ?_ | go_step | omega | (simp only [maxLen_eq]; omega) | exact trivial
    exact cont.out a l H H (AF.of_up (hI.up2 (by omega))) hl _ (Sub.of_env [_] (by exact List.Perm.cons _ (List.perm_append_comm (l₁ := [_]))) (by simp [look]))
abbrev actTy : Ty := .st [.int .i64, .row .u8]
abbrev crTy : Ty := .st [.int .i64, .int .i64, .int .i64, .int .i64, .int .i64, .int .i64]
theorem ac_rows : ∀ (rows : List (List AV)), (∀ r ∈ rows, Shp actTy r) → ∃ L : List Ac, L.length = rows.length ∧ rows.flatten = acs L
  | [], _ => ⟨[], rfl, rfl⟩
  | r :: rows, h => by
    obtain ⟨L, l1, l2⟩ := ac_rows rows fun x hx => h x (List.mem_cons_of_mem _ hx)
    have h0 := h r (List.mem_cons_self ..)
    simp only [actTy, Shp, ShpL] at h0
    obtain ⟨_, _, rfl, ⟨a, rfl, ha⟩, _, _, rfl, ⟨zs, rfl, hz⟩, rfl⟩ := h0
    obtain ⟨x, rfl⟩ := ub_of hz
    exact ⟨⟨a, x⟩ :: L, by simp [l1], by simp [l2, acs]⟩
theorem lasts_law {Z : Int} {y : AV} {xs : List AV} (hy : Shp (.sl actTy) [y]) (hx : Shp crTy xs) (bs : List UInt8) : ACt Tryd.prog 4 [iv .i64 Z, y, .agg xs, .slz .u8 (ub bs)] [] (fun r _ => r = bv true) := by
  unfold Shp at hy
  obtain ⟨rows, e, hr⟩ := hy
  obtain rfl : y = _ := (List.cons.inj e).1
  obtain ⟨L, l1, l2⟩ := ac_rows rows hr
  rw [l2, ← l1]
  simp only [crTy, Shp, ShpL] at hx
  obtain ⟨_, _, rfl, ⟨x1, rfl, h1⟩, _, _, rfl, ⟨x2, rfl, h2⟩, _, _, rfl, ⟨x3, rfl, h3⟩, _, _, rfl, ⟨x4, rfl, h4⟩, _, _, rfl, ⟨x5, rfl, h5⟩, _, _, rfl, ⟨x6, rfl, h6⟩, rfl⟩ := hx
  exact (lasts_ct Z L x1 x2 x3 x4 x5 x6 bs (by have := wf_i64 h1; omega) (by have := wf_i64 h4; omega)).mono fun r F h => h.1
end Go.Proofs.YtpjnhcjfkgjbnaaDoor
