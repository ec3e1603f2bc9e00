/-
  The walks and the laws that the statement leans on, part 33.
-/
import Derived.Test.YtaffbklkjjmmdaaDoorC9
import Derived.Test.YtaffbklkjjmmdaaDoorC32
namespace Go.Proofs.YtaffbklkjjmmdaaDoor
open Go Wi
set_option linter.unusedVariables false
set_option linter.unusedSimpArgs false
set_option linter.defProp false
def TFHuN :=
  And.intro (And.intro (And.intro (And.intro (And.intro tyc0 (And.intro tyc3 zmb3)) (And.intro tyc4 (And.intro zmb4 tyc22))) (And.intro (And.intro elt22 (And.intro mkz22 mkc22)) (And.intro apT22 (And.intro elk22 zmb22)))) (And.intro (And.intro (And.intro tyc23 (And.intro zmb23 tyc26)) (And.intro zmb26 (And.intro tyc32 foff32_0))) (And.intro (And.intro fpart32_0 (And.intro foff32_1 fpart32_1)) (And.intro (And.intro foff32_2 fpart32_2) (And.intro foff32_3 fpart32_3))))) (And.intro (And.intro (And.intro (And.intro foff32_4 (And.intro fpart32_4 fe32)) (And.intro zmb32 (And.intro bldT32 tyc62))) (And.intro (And.intro zmb62 (And.intro tyc92 zmb92)) (And.intro tyc104 (And.intro zmb104 tyc105)))) (And.intro (And.intro (And.intro tyc109 (And.intro Tryd.underlying0 Tryd.underlying3)) (And.intro Tryd.underlying4 (And.intro Tryd.underlying22 Tryd.underlying23))) (And.intro (And.intro Tryd.underlying26 (And.intro Tryd.underlying32 Tryd.underlying62)) (And.intro (And.intro Tryd.underlying92 Tryd.underlying104) (And.intro Tryd.underlying105 Tryd.underlying109)))))
theorem Y1HuN {G R : Prop} (r : R) (h : R → G := by intro r; first | (apply WP.region; exact rvc_sound _ _ (Sm.out r)) | exact WP.drawK rfl mixed (by decide +kernel) (Sm.out r) | (apply WP.block; exact r) | (apply WP.skip; exact Yq r) | (apply WP.exit; exact Yq r) | (apply WP.ret; exact Sm.out r) | exact WP.cond rfl (fun _ => r) (fun hg => absurd hg (by decide)) | exact WP.cond rfl (fun hg => absurd hg (by decide)) (fun _ => r) | exact Rt.mk (And.intro (fun _ => Sm.out r) fun hg => absurd hg (by decide)) | exact Rt.mk (And.intro (fun hg => absurd hg (by decide)) fun _ => Sm.out r)) : G := h r
theorem YzHuN {G R : Prop} (r : R) (h : R → G := by intro r; first | (apply ExG.no; exact Sm.out r) | (apply Or.inl; apply ExG.no; exact Sm.out r) | exact Or.inl (And.intro (fun hg => absurd hg (by decide)) (ExG.no (Sm.out r)))) : G := h r
theorem YsHuN0 {P Q : Prop} (q : Q) (h : P = Q := by (try (conv => lhs; simp -dsimp only [ZK, rvc, capA, appA, litL, mkfv, drawF, headN, pureH, stp, dvc, calleeOf, gcall, pev, eff, newB, okd, og, ogs, ogo, ogp, slv, bltv, opd, litv, strip, one, both, putE, St.put, look, gdOf, gdv, picka, pickv, pickw, binv, bini, bins, binb, binp, binq, isSlT, bina, shp, eqCells, unv, convv, nilv, faddv, addp, idxav, idxp, load1, load1m, loadn, loadnm, loadv, hget, hset, hrep, hdel, slicev, slice3v, bnd, shift1, lenv, capv, IntKind.bits, extractv, fieldv, indexv, min2v, max2v, mkiv, tasv, tasz, cellsA, fillA, buildv, stC, oneC, rowMB, intsA, plN, appE, appZ, appC, appS, srcB, appNZ, appNC, VwL, srcC, srcZ, srcM, isBoolT, isPtrT, isSliceT, uOk, Value.oneCell', Nat.reducePow, Int.reducePow, Nat.reduceAdd, Nat.reduceMul, Nat.reduceSub, Nat.reduceLT, Nat.reduceLeDiff, Nat.reduceEqDiff, Nat.reduceBEq, Nat.reduceDiv, Nat.reduceMod, ↓reduceIte, reduceCtorEq, Int.reduceToNat, Int.reduceLT, Int.reduceLE, TFHuN, SeqQ, BlkQ, LoopQ, BodyQ, Int.sub_zero, FA.out, FR.out])) <;> exact rfl) : P := h.mpr q
theorem ACt.sub {Γ : Type} {φ : Γ → Prop} {x : Γ → AV} {m : Γ → Hp} {P : Program} {f : FuncId} {args : List AV} {F : Hp} (h : ACt P f args F (fun r F' => ∃ g, φ g ∧ r = x g ∧ F' = m g)) : ACt P f args F (fun r F' => ∃ g : {g // φ g}, r = x g.1 ∧ F' = m g.1) :=
  h.mono fun r F' ⟨g, h1, h2, h3⟩ => ⟨⟨g, h1⟩, h2, h3⟩
abbrev fCm : AV := .lit (.func (.func 39) #[] #[])
theorem len_ct (x : Nat) (hx : x < 18446744073709551616) : ACt Tryd.prog 66 [nu x] [] (Fn (iv .i64 ((lenN x : Nat) : Int))) := by
  have c := len64_ct x hx
  unfold nu at c ⊢
  obtain ⟨L, hL⟩ : ∃ L, lenN x = L := ⟨_, rfl⟩
  rw [hL] at c ⊢
  refine ACt.intro Tryd.func66 rfl (by kernel_rfl) (by simp [Tryd.ntmps66]) (fun cx => ?_)
  simp only [argE, Tryd.ntmps66, Tryd.results66]
  first | (have FRx := FR; clear FRx) | have FR := fr0S
  have FA := Sm.mk (TFHuN)
  repeat' first | (apply Sm.mk; refine Ys ?_) | refine WP.seq fun K hK => ?_ | (apply Ob.mk; exact Yo) | refine And.intro (Ob.out ?_) ?_ | refine Y1HuN ?_ | refine Yc (c := c) (r := ?_) | refine YzHuN ?_ | (refine WP.cond rfl (fun hc => ?_) (fun hc => ?_) <;> (try simp only [ZC, reduceCtorEq, ZD] at hc) <;> (try exact absurd hc (by decide)) <;> (try (exfalso; omega))) | refine Rt.mk (And.intro (fun hg => Sm.out ?_) fun hg => Sm.out ?_) | (refine Nu.mk ?_; first | (fail_if_success have := nb1); intro nb1 | (fail_if_success have := nb2); intro nb2 | (fail_if_success have := nb3); intro nb3 | (fail_if_success have := nb4); intro nb4 | intro nbz) | (apply Yfr; refine Yf FR fun hFRb FR => ?_) | refine Two.mk ?_ ?_ | (apply Yxc; exact Yx) | refine Cs.mk fun hcs => Sm.out ?_ | go_step | omega | (simp only [maxLen_eq]; omega) | exact trivial
  (refine Yg ?_; try exact trivial)
def SortOk (N : Nat) : Prop := ∀ (l : List Sl) (x n k : Nat), l.length = n → n ≤ N → n ≤ k ∧ k ≤ 9223372036854775807 → (∀ e ∈ l, fb e) →
  ACt Tryd.prog 38 [ms x 0 n k, fCm] [(x, .cells (scs l) (k * 5) 32)] (fun r F' => ∃ g, (g.Perm l ∧ SegS g 0 n) ∧ r = .tup [] ∧ F' = [(x, .cells (scs g) (k * 5) 32)])
theorem pdq12_ct (l : List Sl) (x n k : Nat) (z : Int) (hn : l.length = n) (hl : n ≤ 12) (hk : n ≤ k ∧ k ≤ 9223372036854775807) (hf : ∀ e ∈ l, fb e) :
    ACt Tryd.prog 65 [ms x 0 n k, iv .i64 0, iv .i64 (n : Int), iv .i64 z, fCm] [(x, .cells (scs l) (k * 5) 32)] (fun r F' => ∃ g, (g.Perm l ∧ SegS g 0 n) ∧ r = .tup [] ∧ F' = [(x, .cells (scs g) (k * 5) 32)]) := by
  have c : ACt Tryd.prog 79 [ms x 0 n k, iv .i64 0, iv .i64 (n : Int), fCm] [(x, .cells (scs l) (k * 5) 32)] (fun r F' => ∃ g, (g.Perm l ∧ SegS g 0 n) ∧ r = .tup [] ∧ F' = [(x, .cells (scs g) (k * 5) 32)]) :=
    (ins_ct l x n k 0 n hn (by omega) hk (Nat.le_refl _) (Nat.zero_le _) hf).mono fun r F' ⟨g, h1, h2⟩ => ⟨g, ⟨h1.1, h1.2.1⟩, h2⟩
  have w1 : IntKind.i64.wrap ((n : Int) - 0) = (n : Int) := by rw [wrap_i64 (by omega) (by omega)]; omega
  have w2 : IntKind.i64.wrap ((n : Int)) = (n : Int) := by rw [wrap_i64 (by omega) (by omega)]
  have k1 : decide ((n : Int) ≤ 12) = true := decide_eq_true (by omega)
  obtain ⟨C, hC⟩ : ∃ C, C = scs l := ⟨_, rfl⟩
  rw [← hC] at c ⊢
  refine ACt.intro Tryd.func65 rfl (by kernel_rfl) (by simp [Tryd.ntmps65]) (fun cx => ?_)
  simp only [argE, Tryd.ntmps65, Tryd.results65]
  first | (have FRx := FR; clear FRx) | have FR := fr0S
  have FA := Sm.mk (TFHuN)
  repeat' first | (apply Sm.mk; refine Ys ?_) | refine WP.seq fun K hK => ?_ | (apply Ob.mk; exact Yo) | refine And.intro (Ob.out ?_) ?_ | refine Y1HuN ?_ | refine YzHuN ?_ | (refine WP.cond rfl (fun hc => ?_) (fun hc => ?_) <;> (try simp only [ZC, reduceCtorEq, ZD] at hc) <;> (try exact absurd hc (by decide)) <;> (try (exfalso; omega))) | refine Rt.mk (And.intro (fun hg => Sm.out ?_) fun hg => Sm.out ?_) | (refine Nu.mk ?_; first | (fail_if_success have := nb1); intro nb1 | (fail_if_success have := nb2); intro nb2 | (fail_if_success have := nb3); intro nb3 | (fail_if_success have := nb4); intro nb4 | intro nbz) | (apply Yfr; refine Yf FR fun hFRb FR => ?_) | refine Two.mk ?_ ?_ | (apply Yxc; exact Yx) | refine Cs.mk fun hcs => Sm.out ?_ | go_step | omega | (simp only [maxLen_eq]; omega) | exact trivial
  refine WP.loop (Γ := Unit) (fun _ => ⟨[(0, ms x 0 n k), (1, iv .i64 0), (2, iv .i64 (n : Int)), (3, iv .i64 z), (4, fCm), (10, bv true), (11, bv true)], [(x, .cells C (k * 5) 32)]⟩) (fun _ => True) (fun _ => 0) () trivial (Sub.pick (by simp [pickB, hget, hdel, FR.out]) (by simp [look])) ?_
  intro _ _
  have FR : Sm (¬ ((1 : Nat) = 0)) := Sm.mk Nat.one_ne_zero
  have cS := ACt.sub c
  first | (have FRx := FR; clear FRx) | have FR := fr0S
  have FA := Sm.mk (And.intro TFHuN (And.intro w1 (And.intro w2 k1)))
  repeat' first | (apply Sm.mk; refine YsHuN0 ?_) | refine WP.seq fun K hK => ?_ | (apply Ob.mk; exact Yo) | refine And.intro (Ob.out ?_) ?_ | refine Y1HuN ?_ | (refine CallV.ex (F := [_]) (perm1 (by simp only [hget, hdel, ↓reduceIte, FR.out, w1, w2, k1, Int.sub_zero]; first | done | rfl)) (cS) (fun g => Sm.out ?_)) | refine YzHuN ?_ | (refine WP.cond rfl (fun hc => ?_) (fun hc => ?_) <;> (try simp only [ZC, reduceCtorEq, ZD] at hc) <;> (try exact absurd hc (by decide)) <;> (try (exfalso; omega))) | refine Rt.mk (And.intro (fun hg => Sm.out ?_) fun hg => Sm.out ?_) | (refine Nu.mk ?_; first | (fail_if_success have := nb1); intro nb1 | (fail_if_success have := nb2); intro nb2 | (fail_if_success have := nb3); intro nb3 | (fail_if_success have := nb4); intro nb4 | intro nbz) | (apply Yfr; refine Yf FR fun hFRb FR => ?_) | refine Two.mk ?_ ?_ | (apply Yxc; exact Yx) | refine Cs.mk fun hcs => Sm.out ?_ | go_step | omega | (simp only [maxLen_eq]; omega) | exact trivial
  obtain ⟨g, hg1, hg2⟩ := g
  (refine OutQ.drop _ _ (perm1 (by simp only [hget, hdel, ↓reduceIte, if_true, if_false, FR.out]; first | done | rfl)) (by simp only [resv, ZK, look, loadv, loadn, loadnm, load1, load1m, hget, ↓reduceIte, Nat.reduceEqDiff, Nat.reduceAdd, Nat.reduceMul, Nat.reduceLeDiff, Nat.reduceLT, reduceCtorEq, TFHuN, FR.out]) ⟨g, ⟨hg1, hg2⟩, (by simp only [resv, resA, ZK, look, loadv, loadn, loadnm, load1, load1m, hget, ↓reduceIte, Nat.reduceEqDiff, Nat.reduceAdd, Nat.reduceMul, Nat.reduceLeDiff, Nat.reduceLT, reduceCtorEq, TFHuN, FR.out]; first | done | rfl), rfl⟩)
theorem sort12 : SortOk 12 := by
  intro l x n k hn hl hk hf
  have c1 := fun z => ACt.sub (pdq12_ct l x n k z hn hl hk hf)
  have c2 := len_ct n (by omega)
  unfold nu at c2
  obtain ⟨C, hC⟩ : ∃ C, C = scs l := ⟨_, rfl⟩
  rw [← hC]
  simp only [← hC] at c1
  obtain ⟨L, hL⟩ : ∃ L : Int, ((lenN n : Nat) : Int) = L := ⟨_, rfl⟩
  rw [hL] at c2
  have c1 := c1 L
  have w3 : IntKind.u64.wrap (n : Int) = (n : Int) := wrap_u64 (by omega) (by omega)
  refine ACt.intro Tryd.func38 rfl (by kernel_rfl) (by simp [Tryd.ntmps38]) (fun cx => ?_)
  simp only [argE, Tryd.ntmps38, Tryd.results38]
  first | (have FRx := FR; clear FRx) | have FR := fr0S
  have FA := Sm.mk (And.intro TFHuN w3)
  repeat' first | (apply Sm.mk; refine Ys ?_) | refine WP.seq fun K hK => ?_ | (apply Ob.mk; exact Yo) | refine And.intro (Ob.out ?_) ?_ | refine Y1HuN ?_ | (first | refine CallV.fn (c2) (Sm.out ?_) | refine ExF.mk (c2) (Sm.out ?_) | refine ExG.mk (fun _ => c2) (Sm.out ?_) | refine ExG.mkJ (fun _ => c2) (Sm.out ?_) | refine ExG.mkI (Ob.out ?_) (fun _ => c2) (Sm.out ?_)) | (refine CallV.ex (F := [_]) (perm1 (by simp only [hget, hdel, ↓reduceIte, FR.out, w3]; first | done | rfl)) (c1) (fun g => Sm.out ?_)) | refine YzHuN ?_ | (refine WP.cond rfl (fun hc => ?_) (fun hc => ?_) <;> (try simp only [ZC, reduceCtorEq, ZD] at hc) <;> (try exact absurd hc (by decide)) <;> (try (exfalso; omega))) | refine Rt.mk (And.intro (fun hg => Sm.out ?_) fun hg => Sm.out ?_) | (refine Nu.mk ?_; first | (fail_if_success have := nb1); intro nb1 | (fail_if_success have := nb2); intro nb2 | (fail_if_success have := nb3); intro nb3 | (fail_if_success have := nb4); intro nb4 | intro nbz) | (apply Yfr; refine Yf FR fun hFRb FR => ?_) | refine Two.mk ?_ ?_ | (apply Yxc; exact Yx) | refine Cs.mk fun hcs => Sm.out ?_ | go_step | omega | (simp only [maxLen_eq]; omega) | exact trivial
  obtain ⟨g, hg1, hg2⟩ := g
  (refine OutQ.drop _ _ (perm1 (by simp only [hget, hdel, ↓reduceIte, if_true, if_false, FR.out]; first | done | rfl)) (by simp only [resv, ZK, look, loadv, loadn, loadnm, load1, load1m, hget, ↓reduceIte, Nat.reduceEqDiff, Nat.reduceAdd, Nat.reduceMul, Nat.reduceLeDiff, Nat.reduceLT, reduceCtorEq, TFHuN, FR.out]) ⟨g, ⟨hg1, hg2⟩, (by simp only [resv, resA, ZK, look, loadv, loadn, loadnm, load1, load1m, hget, ↓reduceIte, Nat.reduceEqDiff, Nat.reduceAdd, Nat.reduceMul, Nat.reduceLeDiff, Nat.reduceLT, reduceCtorEq, TFHuN, FR.out]; first | done | rfl), rfl⟩)
theorem insn_ct : ACt Tryd.prog 79 [nsl, iv .i64 0, iv .i64 0, fCm] [] (Fn (.tup [])) := by
  have s0 : IntKind.i64.wrap ((0 : Int) + 1) = 1 := rfl
  refine ACt.intro Tryd.func79 rfl (by kernel_rfl) (by simp [Tryd.ntmps79]) (fun cx => ?_)
  simp only [argE, Tryd.ntmps79, Tryd.results79]
  first | (have FRx := FR; clear FRx) | have FR := fr0S
  have FA := Sm.mk (And.intro TFHuN s0)
  repeat' first | (apply Sm.mk; refine Ys ?_) | refine WP.seq fun K hK => ?_ | (apply Ob.mk; exact Yo) | refine And.intro (Ob.out ?_) ?_ | refine Y1HuN ?_ | refine YzHuN ?_ | (refine WP.cond rfl (fun hc => ?_) (fun hc => ?_) <;> (try simp only [ZC, reduceCtorEq, ZD] at hc) <;> (try exact absurd hc (by decide)) <;> (try (exfalso; omega))) | refine Rt.mk (And.intro (fun hg => Sm.out ?_) fun hg => Sm.out ?_) | (refine Nu.mk ?_; first | (fail_if_success have := nb1); intro nb1 | (fail_if_success have := nb2); intro nb2 | (fail_if_success have := nb3); intro nb3 | (fail_if_success have := nb4); intro nb4 | intro nbz) | (apply Yfr; refine Yf FR fun hFRb FR => ?_) | refine Two.mk ?_ ?_ | (apply Yxc; exact Yx) | refine Cs.mk fun hcs => Sm.out ?_ | go_step | omega | (simp only [maxLen_eq]; omega) | exact trivial
  refine WP.loop (Γ := Unit) (fun _ => ⟨[(8, iv .i64 1), (0, nsl), (1, iv .i64 0), (2, iv .i64 0), (3, fCm)], []⟩) (fun _ => True) (fun _ => 0) () trivial (Sub.pick (by simp [pickB, hget, hdel, FR.out]) (by simp [look])) ?_
  intro _ _
  have FR : Sm (¬ ((1 : Nat) = 0)) := Sm.mk Nat.one_ne_zero
  have k0 : decide ((1 : Int) < 0) = false := by decide
  first | (have FRx := FR; clear FRx) | have FR := fr0S
  have FA := Sm.mk (And.intro TFHuN k0)
  repeat' first | (apply Sm.mk; refine Ys ?_) | refine WP.seq fun K hK => ?_ | (apply Ob.mk; exact Yo) | refine And.intro (Ob.out ?_) ?_ | refine Y1HuN ?_ | refine YzHuN ?_ | (refine WP.cond rfl (fun hc => ?_) (fun hc => ?_) <;> (try simp only [ZC, reduceCtorEq, ZD] at hc) <;> (try exact absurd hc (by decide)) <;> (try (exfalso; omega))) | refine Rt.mk (And.intro (fun hg => Sm.out ?_) fun hg => Sm.out ?_) | (refine Nu.mk ?_; first | (fail_if_success have := nb1); intro nb1 | (fail_if_success have := nb2); intro nb2 | (fail_if_success have := nb3); intro nb3 | (fail_if_success have := nb4); intro nb4 | intro nbz) | (apply Yfr; refine Yf FR fun hFRb FR => ?_) | refine Two.mk ?_ ?_ | (apply Yxc; exact Yx) | refine Cs.mk fun hcs => Sm.out ?_ | go_step | omega | (simp only [maxLen_eq]; omega) | exact trivial
  (refine Yg ?_; try exact trivial)
theorem pdqn_ct (z : Int) : ACt Tryd.prog 65 [nsl, iv .i64 0, iv .i64 0, iv .i64 z, fCm] [] (Fn (.tup [])) := by
  have c := insn_ct
  have w1 : IntKind.i64.wrap ((0 : Int) - 0) = 0 := rfl
  have k1 : decide ((0 : Int) ≤ 12) = true := rfl
  refine ACt.intro Tryd.func65 rfl (by kernel_rfl) (by simp [Tryd.ntmps65]) (fun cx => ?_)
  simp only [argE, Tryd.ntmps65, Tryd.results65]
  first | (have FRx := FR; clear FRx) | have FR := fr0S
  have FA := Sm.mk (TFHuN)
  repeat' first | (apply Sm.mk; refine Ys ?_) | refine WP.seq fun K hK => ?_ | (apply Ob.mk; exact Yo) | refine And.intro (Ob.out ?_) ?_ | refine Y1HuN ?_ | refine YzHuN ?_ | (refine WP.cond rfl (fun hc => ?_) (fun hc => ?_) <;> (try simp only [ZC, reduceCtorEq, ZD] at hc) <;> (try exact absurd hc (by decide)) <;> (try (exfalso; omega))) | refine Rt.mk (And.intro (fun hg => Sm.out ?_) fun hg => Sm.out ?_) | (refine Nu.mk ?_; first | (fail_if_success have := nb1); intro nb1 | (fail_if_success have := nb2); intro nb2 | (fail_if_success have := nb3); intro nb3 | (fail_if_success have := nb4); intro nb4 | intro nbz) | (apply Yfr; refine Yf FR fun hFRb FR => ?_) | refine Two.mk ?_ ?_ | (apply Yxc; exact Yx) | refine Cs.mk fun hcs => Sm.out ?_ | go_step | omega | (simp only [maxLen_eq]; omega) | exact trivial
  refine WP.loop (Γ := Unit) (fun _ => ⟨[(0, nsl), (1, iv .i64 0), (2, iv .i64 0), (3, iv .i64 z), (4, fCm), (10, bv true), (11, bv true)], []⟩) (fun _ => True) (fun _ => 0) () trivial (Sub.pick (by simp [pickB, hget, hdel, FR.out]) (by simp [look])) ?_
  intro _ _
  have FR : Sm (¬ ((1 : Nat) = 0)) := Sm.mk Nat.one_ne_zero
  first | (have FRx := FR; clear FRx) | have FR := fr0S
  have FA := Sm.mk (And.intro TFHuN (And.intro w1 k1))
  repeat' first | (apply Sm.mk; refine Ys ?_) | refine WP.seq fun K hK => ?_ | (apply Ob.mk; exact Yo) | refine And.intro (Ob.out ?_) ?_ | refine Y1HuN ?_ | refine Yc (c := c) (r := ?_) | refine YzHuN ?_ | (refine WP.cond rfl (fun hc => ?_) (fun hc => ?_) <;> (try simp only [ZC, reduceCtorEq, ZD] at hc) <;> (try exact absurd hc (by decide)) <;> (try (exfalso; omega))) | refine Rt.mk (And.intro (fun hg => Sm.out ?_) fun hg => Sm.out ?_) | (refine Nu.mk ?_; first | (fail_if_success have := nb1); intro nb1 | (fail_if_success have := nb2); intro nb2 | (fail_if_success have := nb3); intro nb3 | (fail_if_success have := nb4); intro nb4 | intro nbz) | (apply Yfr; refine Yf FR fun hFRb FR => ?_) | refine Two.mk ?_ ?_ | (apply Yxc; exact Yx) | refine Cs.mk fun hcs => Sm.out ?_ | go_step | omega | (simp only [maxLen_eq]; omega) | exact trivial
  (refine Yg ?_; try exact trivial)
theorem sortn_ct : ACt Tryd.prog 38 [nsl, fCm] [] (Fn (.tup [])) := by
  have c2 := len_ct 0 (by omega)
  unfold nu at c2
  obtain ⟨L, hL⟩ : ∃ L : Int, ((lenN 0 : Nat) : Int) = L := ⟨_, rfl⟩
  rw [hL] at c2
  have c1 := pdqn_ct L
  refine ACt.intro Tryd.func38 rfl (by kernel_rfl) (by simp [Tryd.ntmps38]) (fun cx => ?_)
  simp only [argE, Tryd.ntmps38, Tryd.results38]
  first | (have FRx := FR; clear FRx) | have FR := fr0S
  have FA := Sm.mk (TFHuN)
  repeat' first | (apply Sm.mk; refine Ys ?_) | refine WP.seq fun K hK => ?_ | (apply Ob.mk; exact Yo) | refine And.intro (Ob.out ?_) ?_ | refine Y1HuN ?_ | refine Yc (c := c2) (r := ?_) | refine Yc (c := c1) (r := ?_) | refine YzHuN ?_ | (refine WP.cond rfl (fun hc => ?_) (fun hc => ?_) <;> (try simp only [ZC, reduceCtorEq, ZD] at hc) <;> (try exact absurd hc (by decide)) <;> (try (exfalso; omega))) | refine Rt.mk (And.intro (fun hg => Sm.out ?_) fun hg => Sm.out ?_) | (refine Nu.mk ?_; first | (fail_if_success have := nb1); intro nb1 | (fail_if_success have := nb2); intro nb2 | (fail_if_success have := nb3); intro nb3 | (fail_if_success have := nb4); intro nb4 | intro nbz) | (apply Yfr; refine Yf FR fun hFRb FR => ?_) | refine Two.mk ?_ ?_ | (apply Yxc; exact Yx) | refine Cs.mk fun hcs => Sm.out ?_ | go_step | omega | (simp only [maxLen_eq]; omega) | exact trivial
  (refine Yg ?_; try exact trivial)
end Go.Proofs.YtaffbklkjjmmdaaDoor
