/-
  The walks and the laws that the statement leans on, part 47.
-/
import Derived.Test.YtaffbklkjjmmdaaDoorC9
import Derived.Test.YtaffbklkjjmmdaaDoorC40
import Derived.Test.YtaffbklkjjmmdaaDoorC42
import Derived.Test.YtaffbklkjjmmdaaDoorC44
import Derived.Test.YtaffbklkjjmmdaaDoorC45
import Derived.Test.YtaffbklkjjmmdaaDoorC46
namespace Go.Proofs.YtaffbklkjjmmdaaDoor
open Go
set_option linter.unusedVariables false
set_option linter.unusedSimpArgs false
set_option linter.defProp false
def TFHuVN :=
  And.intro (And.intro (And.intro (And.intro (And.intro tyc0 tyc3) (And.intro zmb3 (And.intro tyc4 zmb4))) (And.intro (And.intro tyc22 (And.intro elt22 mkz22)) (And.intro mkc22 (And.intro apT22 elk22)))) (And.intro (And.intro (And.intro zmb22 tyc32) (And.intro foff32_0 (And.intro fpart32_0 foff32_1))) (And.intro (And.intro fpart32_1 (And.intro foff32_2 fpart32_2)) (And.intro foff32_3 (And.intro fpart32_3 foff32_4))))) (And.intro (And.intro (And.intro (And.intro fpart32_4 fe32) (And.intro zmb32 (And.intro bldT32 tyc62))) (And.intro (And.intro zmb62 (And.intro tyc92 zmb92)) (And.intro tyc104 (And.intro zmb104 tyc105)))) (And.intro (And.intro (And.intro tyc109 Tryd.underlying0) (And.intro Tryd.underlying3 (And.intro Tryd.underlying4 Tryd.underlying22))) (And.intro (And.intro Tryd.underlying32 (And.intro Tryd.underlying62 Tryd.underlying92)) (And.intro Tryd.underlying104 (And.intro Tryd.underlying105 Tryd.underlying109)))))
theorem Y1HuVN {G R : Prop} (r : R) (h : R → G := by intro r; first | (apply WP.region; exact rvc_sound _ _ (Sm.out r)) | exact WP.drawK rfl mixed (by decide +kernel) (Sm.out r) | (apply WP.block; exact r) | (apply WP.skip; exact Yq r) | (apply WP.exit; exact Yq r) | (apply WP.ret; exact Sm.out r) | exact WP.cond rfl (fun _ => r) (fun hg => absurd hg (by decide)) | exact WP.cond rfl (fun hg => absurd hg (by decide)) (fun _ => r) | exact Rt.mk (And.intro (fun _ => Sm.out r) fun hg => absurd hg (by decide)) | exact Rt.mk (And.intro (fun hg => absurd hg (by decide)) fun _ => Sm.out r)) : G := h r
theorem YzHuVN {G R : Prop} (r : R) (h : R → G := by intro r; first | (apply ExG.no; exact Sm.out r) | (apply Or.inl; apply ExG.no; exact Sm.out r) | exact Or.inl (And.intro (fun hg => absurd hg (by decide)) (ExG.no (Sm.out r)))) : G := h r
theorem YsHuVN0 {P Q : Prop} (q : Q) (h : P = Q := by (try (conv => lhs; simp -dsimp only [ZK, rvc, capA, appA, litL, mkfv, drawF, headN, pureH, stp, dvc, calleeOf, gcall, pev, eff, newB, okd, og, ogs, ogo, ogp, slv, bltv, opd, litv, strip, one, both, putE, St.put, look, gdOf, gdv, picka, pickv, pickw, binv, bini, bins, binb, binp, binq, isSlT, bina, shp, eqCells, unv, convv, nilv, faddv, addp, idxav, idxp, load1, load1m, loadn, loadnm, loadv, hget, hset, hrep, hdel, slicev, slice3v, bnd, shift1, lenv, capv, IntKind.bits, extractv, fieldv, indexv, min2v, max2v, mkiv, tasv, tasz, cellsA, fillA, buildv, stC, oneC, rowMB, intsA, plN, appE, appZ, appC, appS, srcB, appNZ, appNC, VwL, srcC, srcZ, srcM, isBoolT, isPtrT, isSliceT, uOk, Value.oneCell', Nat.reducePow, Int.reducePow, Nat.reduceAdd, Nat.reduceMul, Nat.reduceSub, Nat.reduceLT, Nat.reduceLeDiff, Nat.reduceEqDiff, Nat.reduceBEq, Nat.reduceDiv, Nat.reduceMod, ↓reduceIte, reduceCtorEq, Int.reduceToNat, Int.reduceLT, Int.reduceLE, TFHuVN, SeqQ, BlkQ, LoopQ, BodyQ, dkn, kst, fvOf, beq_self_eq_true, Bool.true_beq, Bool.false_beq, Bool.not_true, Bool.not_false, FA.out, FR.out])) <;> exact rfl) : P := h.mpr q
structure PdG where
  D : List Sl
  a : Nat
  b : Nat
  m : Nat
  wb : Bool
  wp : Bool
def PdQ (N : Nat) : Prop := ∀ (l : List Sl) (x n k a b m : Nat), l.length = n → n ≤ 30 → (n ≤ k ∧ k ≤ 9223372036854775807) → b ≤ n → a ≤ b → b - a < N → m ≤ 100 → (∀ e ∈ l, fb e) → Pre l a b →
  ACt Tryd.prog 65 [ms x 0 n k, iv .i64 (a : Int), iv .i64 (b : Int), iv .i64 (m : Int), fCm] [(x, .cells (scs l) (k * 5) 32)] (fun r F' => ∃ g, (g.Perm l ∧ SegS g a b ∧ Out l g a b) ∧ r = .tup [] ∧ F' = [(x, .cells (scs g) (k * 5) 32)])
set_option maxHeartbeats 16000000 in
theorem pdq_step (N : Nat) (ih : PdQ N) : PdQ (N + 1) := by
  intro l x n k a b m hn hl hk hb hab hN hm hf hpre
  obtain ⟨C0, hC0⟩ : ∃ C, C = scs l := ⟨_, rfl⟩
  rw [← hC0]
  refine ACt.intro Tryd.func65 rfl (by kernel_rfl) (by simp [Tryd.ntmps65]) (fun cx => ?_)
  simp only [argE, Tryd.ntmps65, Tryd.results65]
  first | (have FRx := FR; clear FRx) | have FR := fr0S
  have FA := Sm.mk (TFHuVN)
  repeat' first | (apply Sm.mk; refine Ys ?_) | refine WP.seq fun K hK => ?_ | (apply Ob.mk; exact Yo) | refine And.intro (Ob.out ?_) ?_ | refine Y1HuVN ?_ | refine YzHuVN ?_ | (refine WP.cond rfl (fun hc => ?_) (fun hc => ?_) <;> (try simp only [ZC, reduceCtorEq, ZD] at hc) <;> (try exact absurd hc (by decide)) <;> (try (exfalso; omega))) | refine Rt.mk (And.intro (fun hg => Sm.out ?_) fun hg => Sm.out ?_) | (refine Nu.mk ?_; first | (fail_if_success have := nb1); intro nb1 | (fail_if_success have := nb2); intro nb2 | (fail_if_success have := nb3); intro nb3 | (fail_if_success have := nb4); intro nb4 | intro nbz) | (apply Yfr; refine Yf FR fun hFRb FR => ?_) | refine Two.mk ?_ ?_ | (apply Yxc; exact Yx) | refine Cs.mk fun hcs => Sm.out ?_ | go_step | omega | (simp only [maxLen_eq]; omega) | exact trivial
  refine WP.loop (Γ := PdG) (fun g => ⟨[(0, ms x 0 n k), (1, iv .i64 (g.a : Int)), (2, iv .i64 (g.b : Int)), (3, iv .i64 (g.m : Int)), (4, fCm), (10, bv g.wb), (11, bv g.wp)], [(x, .cells (scs g.D) (k * 5) 32)]⟩)
    (fun g => PqI l g.D a b g.a g.b n ∧ g.m ≤ 100) (fun g => g.b - g.a) ⟨l, a, b, m, true, true⟩ ⟨PqI.start hn hab hpre, hm⟩ (Sub.pick (by simp [pickB, hget, hdel, FR.out, hC0]) (by simp [look, hC0])) ?_
  clear hC0 C0 hpre hm m
  intro ⟨D, a2, b2, m, wb, wp⟩ ⟨hI, hm⟩
  simp only at hI hm ⊢
  have FR : Sm (¬ ((1 : Nat) = 0)) := Sm.mk Nat.one_ne_zero
  have hD := hI.len
  have haa := hI.aa
  have hab2 := hI.ab
  have hbb := hI.bb
  have hfD : ∀ e ∈ D, fb e := fun e he => hf e (hI.perm.mem_iff.1 he)
  obtain ⟨len, hlen⟩ : ∃ len, len = b2 - a2 := ⟨_, rfl⟩
  have w1 : IntKind.i64.wrap ((b2 : Int) - (a2 : Int)) = (len : Int) := by rw [wrap_i64 (by omega) (by omega)]; omega
  by_cases h12 : len ≤ 12
  · have k12 : decide ((len : Int) ≤ 12) = true := decide_eq_true (by omega)
    have c := ACt.sub (ins_ct D x n k a2 b2 hD (by omega) hk (by omega) (by omega) hfD)
    obtain ⟨C1, hC1⟩ : ∃ C, C = scs D := ⟨_, rfl⟩
    rw [← hC1] at c ⊢
    first | (have FRx := FR; clear FRx) | have FR := fr0S
    have FA := Sm.mk (And.intro TFHuVN (And.intro w1 k12))
    repeat' first | (apply Sm.mk; refine Ys ?_) | refine WP.seq fun K hK => ?_ | (apply Ob.mk; exact Yo) | refine And.intro (Ob.out ?_) ?_ | refine Y1HuVN ?_ | (refine CallV.ex (F := [_]) (perm1 (by simp only [hget, hdel, ↓reduceIte, FR.out, w1, k12]; first | done | rfl)) (c) (fun g => Sm.out ?_)) | refine YzHuVN ?_ | (refine WP.cond rfl (fun hc => ?_) (fun hc => ?_) <;> (try simp only [ZC, reduceCtorEq, ZD] at hc) <;> (try exact absurd hc (by decide)) <;> (try (exfalso; omega))) | refine Rt.mk (And.intro (fun hg => Sm.out ?_) fun hg => Sm.out ?_) | (refine Nu.mk ?_; first | (fail_if_success have := nb1); intro nb1 | (fail_if_success have := nb2); intro nb2 | (fail_if_success have := nb3); intro nb3 | (fail_if_success have := nb4); intro nb4 | intro nbz) | (apply Yfr; refine Yf FR fun hFRb FR => ?_) | refine Two.mk ?_ ?_ | (apply Yxc; exact Yx) | refine Cs.mk fun hcs => Sm.out ?_ | go_step | omega | (simp only [maxLen_eq]; omega) | exact trivial
    obtain ⟨g, g1, g2, g3⟩ := g
    have hI2 := hI.sub hb g1 g3
    (refine OutQ.drop _ _ (perm1 (by simp only [hget, hdel, ↓reduceIte, if_true, if_false, FR.out]; first | done | rfl)) (by simp only [resv, ZK, look, loadv, loadn, loadnm, load1, load1m, hget, ↓reduceIte, Nat.reduceEqDiff, Nat.reduceAdd, Nat.reduceMul, Nat.reduceLeDiff, Nat.reduceLT, reduceCtorEq, TFHuVN, FR.out]) ⟨g, ⟨hI2.perm, hI2.done g2, hI2.out⟩, (by simp only [resv, resA, ZK, look, loadv, loadn, loadnm, load1, load1m, hget, ↓reduceIte, Nat.reduceEqDiff, Nat.reduceAdd, Nat.reduceMul, Nat.reduceLeDiff, Nat.reduceLT, reduceCtorEq, TFHuVN, FR.out]; first | done | rfl), rfl⟩)
  have k12 : decide ((len : Int) ≤ 12) = false := decide_eq_false (by omega)
  by_cases hm0 : m = 0
  · subst hm0
    have c := ACt.sub (heap_ct D x n k a2 b2 hD (by omega) hk (by omega) (by omega) hfD)
    obtain ⟨C1, hC1⟩ : ∃ C, C = scs D := ⟨_, rfl⟩
    rw [← hC1] at c ⊢
    first | (have FRx := FR; clear FRx) | have FR := fr0S
    have FA := Sm.mk (And.intro TFHuVN (And.intro w1 k12))
    repeat' first | (apply Sm.mk; refine Ys ?_) | refine WP.seq fun K hK => ?_ | (apply Ob.mk; exact Yo) | refine And.intro (Ob.out ?_) ?_ | refine Y1HuVN ?_ | (refine CallV.ex (F := [_]) (perm1 (by simp only [hget, hdel, ↓reduceIte, FR.out, w1, k12]; first | done | rfl)) (c) (fun g => Sm.out ?_)) | refine YzHuVN ?_ | (refine WP.cond rfl (fun hc => ?_) (fun hc => ?_) <;> (try simp only [ZC, reduceCtorEq, ZD] at hc) <;> (try exact absurd hc (by decide)) <;> (try (exfalso; omega))) | refine Rt.mk (And.intro (fun hg => Sm.out ?_) fun hg => Sm.out ?_) | (refine Nu.mk ?_; first | (fail_if_success have := nb1); intro nb1 | (fail_if_success have := nb2); intro nb2 | (fail_if_success have := nb3); intro nb3 | (fail_if_success have := nb4); intro nb4 | intro nbz) | (apply Yfr; refine Yf FR fun hFRb FR => ?_) | refine Two.mk ?_ ?_ | (apply Yxc; exact Yx) | refine Cs.mk fun hcs => Sm.out ?_ | go_step | omega | (simp only [maxLen_eq]; omega) | exact trivial
    obtain ⟨g, g1, g2, g3⟩ := g
    have hI2 := hI.sub hb g1 g3
    (refine OutQ.drop _ _ (perm1 (by simp only [hget, hdel, ↓reduceIte, if_true, if_false, FR.out]; first | done | rfl)) (by simp only [resv, ZK, look, loadv, loadn, loadnm, load1, load1m, hget, ↓reduceIte, Nat.reduceEqDiff, Nat.reduceAdd, Nat.reduceMul, Nat.reduceLeDiff, Nat.reduceLT, reduceCtorEq, TFHuVN, FR.out]) ⟨g, ⟨hI2.perm, hI2.done g2, hI2.out⟩, (by simp only [resv, resA, ZK, look, loadv, loadn, loadnm, load1, load1m, hget, ↓reduceIte, Nat.reduceEqDiff, Nat.reduceAdd, Nat.reduceMul, Nat.reduceLeDiff, Nat.reduceLT, reduceCtorEq, TFHuVN, FR.out]; first | done | rfl), rfl⟩)
  have km : ((m : Int) == 0) = false := beq_eq_false_iff_ne.2 (by omega)
  obtain ⟨C1, hC1⟩ : ∃ C, C = scs D := ⟨_, rfl⟩
  have cB := ACt.sub (brk_ct D x n k a2 b2 hD (by omega) hk (by omega) (by omega))
  rw [← hC1] at cB ⊢
  first | (have FRx := FR; clear FRx) | have FR := fr0S
  have FA := Sm.mk (And.intro TFHuVN (And.intro w1 (And.intro k12 km)))
  repeat' first | (apply Sm.mk; refine Ys ?_) | refine WP.seq fun K hK => ?_ | (apply Ob.mk; exact Yo) | refine And.intro (Ob.out ?_) ?_ | ((fail_if_success (show WP _ _ _ (.region 7 _ _) _ _)); refine Y1HuVN ?_) | refine YzHuVN ?_ | (refine WP.cond rfl (fun hc => ?_) (fun hc => ?_) <;> (try simp only [ZC, reduceCtorEq, ZD] at hc) <;> (try exact absurd hc (by decide)) <;> (try (exfalso; omega))) | refine Rt.mk (And.intro (fun hg => Sm.out ?_) fun hg => Sm.out ?_) | (refine Nu.mk ?_; first | (fail_if_success have := nb1); intro nb1 | (fail_if_success have := nb2); intro nb2 | (fail_if_success have := nb3); intro nb3 | (fail_if_success have := nb4); intro nb4 | intro nbz) | (apply Yfr; refine Yf FR fun hFRb FR => ?_) | refine Two.mk ?_ ?_ | (apply Yxc; exact Yx) | refine Cs.mk fun hcs => Sm.out ?_ | go_step | omega | (simp only [maxLen_eq]; omega) | exact trivial
  rename_i K2 hK2
  have c1 : Sm (∀ (D : List Sl) (m : Nat), PqI l D a b a2 b2 n → m ≤ 100 → ∀ s', Sub s' ⟨[(12, iv .i64 (len : Int)), (0, ms x 0 n k), (1, iv .i64 (a2 : Int)), (2, iv .i64 (b2 : Int)), (3, iv .i64 (m : Int)), (4, fCm), (10, bv wb), (11, bv wp)], [(x, .cells (scs D) (k * 5) 32)]⟩ → K2 s') := Sm.mk fun D m hI hm s' hs => by
    refine hK2 s' (WP.sub hs ?_)
    clear hK2 hK hs hC1 cB
    have hD := hI.len
    have hfD : ∀ e ∈ D, fb e := fun e he => hf e (hI.perm.mem_iff.1 he)
    have cP := ACt.sub (piv_ct D x n k a2 b2 hD (by omega) hk hfD (by omega) (by omega))
    have cI := ACt.sub (pins_ct D x n k a2 b2 hD (by omega) hk (by omega) (by omega) hfD)
    have cE := fun p hp => ACt.sub (parteq_ct D x n k a2 b2 p hD (by omega) hk (by omega) hp hfD)
    have cT := fun p hp => ACt.sub (part_ct D x n k a2 b2 p hD (by omega) hk (by omega) hp hfD)
    have hcc := fun p (h0 : 0 < a2) (hp : a2 ≤ p ∧ p < b2) => cmp_cells (l := l) (D := D) (p := a2 - 1) (q := p) (n := n) hf hI.perm hD (by omega) (by omega)
    obtain ⟨C1, hC1⟩ : ∃ C, C = scs D := ⟨_, rfl⟩
    simp only [← hC1] at cP cI cE cT hcc ⊢
    first | (have FRx := FR; clear FRx) | have FR := fr0S
    have FA := Sm.mk (TFHuVN)
    repeat' first | (apply Sm.mk; refine Ys ?_) | refine WP.seq fun K hK => ?_ | (apply Ob.mk; exact Yo) | refine And.intro (Ob.out ?_) ?_ | ((fail_if_success (show WP _ _ _ (.region 11 _ _) _ _)); refine Y1HuVN ?_) | (refine CallV.ex (F := [_]) (perm1 (by simp only [hget, hdel, ↓reduceIte, FR.out]; first | done | rfl)) (cP) (fun g => Sm.out ?_)) | refine YzHuVN ?_ | (refine WP.cond rfl (fun hc => ?_) (fun hc => ?_) <;> (try simp only [ZC, reduceCtorEq, ZD] at hc) <;> (try exact absurd hc (by decide)) <;> (try (exfalso; omega))) | refine Rt.mk (And.intro (fun hg => Sm.out ?_) fun hg => Sm.out ?_) | (refine Nu.mk ?_; first | (fail_if_success have := nb1); intro nb1 | (fail_if_success have := nb2); intro nb2 | (fail_if_success have := nb3); intro nb3 | (fail_if_success have := nb4); intro nb4 | intro nbz) | (apply Yfr; refine Yf FR fun hFRb FR => ?_) | refine Two.mk ?_ ?_ | (apply Yxc; exact Yx) | refine Cs.mk fun hcs => Sm.out ?_ | go_step | omega | (simp only [maxLen_eq]; omega) | exact trivial
    obtain ⟨⟨p, h⟩, hp, hh⟩ := g
    simp only at hp hh ⊢
    have cE := cE p hp
    have cT := cT p hp
    have hcc := fun h0 => hcc p h0 hp
    have kh : (h == 2) = false := beq_eq_false_iff_ne.2 (by omega)
    obtain ⟨h1, hh1⟩ : ∃ t, (h == 1) = t := ⟨_, rfl⟩
    obtain ⟨t, ht⟩ : ∃ t, (wb && wp && h1) = t := ⟨_, rfl⟩
    first | (have FRx := FR; clear FRx) | have FR := fr0S
    have FA := Sm.mk (And.intro TFHuVN kh)
    repeat' first | (apply Sm.mk; refine Ys ?_) | refine WP.seq fun K hK => ?_ | (apply Ob.mk; exact Yo) | refine And.intro (Ob.out ?_) ?_ | ((fail_if_success (show WP _ _ _ (.region 15 _ _) _ _)); refine Y1HuVN ?_) | refine YzHuVN ?_ | (refine WP.cond rfl (fun hc => ?_) (fun hc => ?_) <;> (try simp only [ZC, reduceCtorEq, ZD] at hc) <;> (try exact absurd hc (by decide)) <;> (try (exfalso; omega))) | refine Rt.mk (And.intro (fun hg => Sm.out ?_) fun hg => Sm.out ?_) | (refine Nu.mk ?_; first | (fail_if_success have := nb1); intro nb1 | (fail_if_success have := nb2); intro nb2 | (fail_if_success have := nb3); intro nb3 | (fail_if_success have := nb4); intro nb4 | intro nbz) | (apply Yfr; refine Yf FR fun hFRb FR => ?_) | refine Two.mk ?_ ?_ | (apply Yxc; exact Yx) | refine Cs.mk fun hcs => Sm.out ?_ | go_step | omega | (simp only [maxLen_eq]; omega) | exact trivial
    rename_i K3 hK3
    have c2 : Sm (∀ s', Sub s' ⟨[(12, iv .i64 (len : Int)), (13, iv .i64 (p : Int)), (0, ms x 0 n k), (1, iv .i64 (a2 : Int)), (2, iv .i64 (b2 : Int)), (3, iv .i64 (m : Int)), (4, fCm), (10, bv wb), (11, bv wp)], [(x, .cells C1 (k * 5) 32)]⟩ → K3 s') := Sm.mk fun s' hs => by
      refine hK3 s' (WP.sub hs ?_)
      clear hK3 hK hs cI
      first | (have FRx := FR; clear FRx) | have FR := fr0S
      have FA := Sm.mk (TFHuVN)
      repeat' first | (apply Sm.mk; refine Ys ?_) | refine WP.seq fun K hK => ?_ | (apply Ob.mk; exact Yo) | refine And.intro (Ob.out ?_) ?_ | ((fail_if_success (show WP _ _ _ (.region 17 _ _) _ _)); refine Y1HuVN ?_) | refine YzHuVN ?_ | (refine WP.cond rfl (fun hc => ?_) (fun hc => ?_) <;> (try simp only [ZC, reduceCtorEq, ZD] at hc) <;> (try exact absurd hc (by decide)) <;> (try (exfalso; omega))) | refine Rt.mk (And.intro (fun hg => Sm.out ?_) fun hg => Sm.out ?_) | (refine Nu.mk ?_; first | (fail_if_success have := nb1); intro nb1 | (fail_if_success have := nb2); intro nb2 | (fail_if_success have := nb3); intro nb3 | (fail_if_success have := nb4); intro nb4 | intro nbz) | (apply Yfr; refine Yf FR fun hFRb FR => ?_) | refine Two.mk ?_ ?_ | (apply Yxc; exact Yx) | refine Cs.mk fun hcs => Sm.out ?_ | go_step | omega | (simp only [maxLen_eq]; omega) | exact trivial
      rename_i K4 hK4
      have c3 : Sm (∀ s', Sub s' ⟨[(12, iv .i64 (len : Int)), (13, iv .i64 (p : Int)), (0, ms x 0 n k), (1, iv .i64 (a2 : Int)), (2, iv .i64 (b2 : Int)), (3, iv .i64 (m : Int)), (4, fCm), (10, bv wb), (11, bv wp)], [(x, .cells C1 (k * 5) 32)]⟩ → K4 s') := Sm.mk fun s' hs => by
        refine hK4 s' (WP.sub hs ?_)
        clear hK4 hK hs cE hcc
        first | (have FRx := FR; clear FRx) | have FR := fr0S
        have FA := Sm.mk (TFHuVN)
        repeat' first | (apply Sm.mk; refine Ys ?_) | refine WP.seq fun K hK => ?_ | (apply Ob.mk; exact Yo) | refine And.intro (Ob.out ?_) ?_ | ((fail_if_success (show WP _ _ _ (.region 21 _ _) _ _)); refine Y1HuVN ?_) | (refine CallV.ex (F := [_]) (perm1 (by simp only [hget, hdel, ↓reduceIte, FR.out]; first | done | rfl)) (cT) (fun g => Sm.out ?_)) | refine YzHuVN ?_ | (refine WP.cond rfl (fun hc => ?_) (fun hc => ?_) <;> (try simp only [ZC, reduceCtorEq, ZD] at hc) <;> (try exact absurd hc (by decide)) <;> (try (exfalso; omega))) | refine Rt.mk (And.intro (fun hg => Sm.out ?_) fun hg => Sm.out ?_) | (refine Nu.mk ?_; first | (fail_if_success have := nb1); intro nb1 | (fail_if_success have := nb2); intro nb2 | (fail_if_success have := nb3); intro nb3 | (fail_if_success have := nb4); intro nb4 | intro nbz) | (apply Yfr; refine Yf FR fun hFRb FR => ?_) | refine Two.mk ?_ ?_ | (apply Yxc; exact Yx) | refine Cs.mk fun hcs => Sm.out ?_ | go_step | omega | (simp only [maxLen_eq]; omega) | exact trivial
        obtain ⟨⟨E, mid, z⟩, hT⟩ := g
        simp only at hT ⊢
        clear cT
        have hI3 := hI.sub hb hT.perm hT.out
        have hT3 := hT.self
        have hE := hI3.len
        have hfE : ∀ e ∈ E, fb e := fun e he => hf e (hI3.perm.mem_iff.1 he)
        have am := hT.am
        have mb := hT.mb
        have v1 : IntKind.i64.wrap ((mid : Int) - (a2 : Int)) = ((mid - a2 : Nat) : Int) := by rw [wrap_i64 (by omega) (by omega)]; omega
        have v2 : IntKind.i64.wrap ((b2 : Int) - (mid : Int)) = ((b2 - mid : Nat) : Int) := by rw [wrap_i64 (by omega) (by omega)]; omega
        have v3 : ((len : Int)).tdiv 8 = ((len / 8 : Nat) : Int) := by rw [Int.tdiv_eq_ediv_of_nonneg (by omega)]; omega
        have v4 : IntKind.i64.wrap ((len / 8 : Nat) : Int) = ((len / 8 : Nat) : Int) := wrap_i64 (by omega) (by omega)
        have v5 : IntKind.i64.wrap ((mid : Int) + 1) = ((mid + 1 : Nat) : Int) := by rw [wrap_i64 (by omega) (by omega)]; omega
        have cL := ACt.sub (ih E x n k a2 mid m hE hl hk (by omega) am (by omega) hm hfE (hI3.preL (by omega)))
        have cR := ACt.sub (ih E x n k (mid + 1) b2 m hE hl hk (by omega) mb (by omega) hm hfE hT3.preR)
        have hL := fun g g1 g2 g3 => hI3.goL (g := g) hb hT3 g1 g3 g2
        have hR := fun g g1 g2 g3 => hI3.goR (g := g) hb hT3 g1 g3 g2
        obtain ⟨C2, hC2⟩ : ∃ C, C = scs E := ⟨_, rfl⟩
        rw [← hC2] at cL cR ⊢
        obtain ⟨wl, hwl⟩ : ∃ t, decide (((mid - a2 : Nat) : Int) ≥ ((len / 8 : Nat) : Int)) = t := ⟨_, rfl⟩
        obtain ⟨wr, hwr⟩ : ∃ t, decide (((b2 - mid : Nat) : Int) ≥ ((len / 8 : Nat) : Int)) = t := ⟨_, rfl⟩
        clear hT hT3 hI3 hfE hC2
        by_cases hlr : mid - a2 < b2 - mid
        · have kl : decide (((mid - a2 : Nat) : Int) < ((b2 - mid : Nat) : Int)) = true := decide_eq_true (by omega)
          first | (have FRx := FR; clear FRx) | have FR := fr0S
          have FA := Sm.mk (And.intro TFHuVN (And.intro v1 (And.intro v2 (And.intro v3 (And.intro v4 (And.intro v5 (And.intro kl hwl)))))))
          repeat' first | (apply Sm.mk; refine Ys ?_) | refine WP.seq fun K hK => ?_ | (apply Ob.mk; exact Yo) | refine And.intro (Ob.out ?_) ?_ | refine Y1HuVN ?_ | (refine CallV.ex (F := [_]) (perm1 (by simp only [hget, hdel, ↓reduceIte, FR.out, v1, v2, v3, v4, v5, kl, hwl]; first | done | rfl)) (cL) (fun g => Sm.out ?_)) | refine YzHuVN ?_ | (refine WP.cond rfl (fun hc => ?_) (fun hc => ?_) <;> (try simp only [ZC, reduceCtorEq, ZD] at hc) <;> (try exact absurd hc (by decide)) <;> (try (exfalso; omega))) | refine Rt.mk (And.intro (fun hg => Sm.out ?_) fun hg => Sm.out ?_) | (refine Nu.mk ?_; first | (fail_if_success have := nb1); intro nb1 | (fail_if_success have := nb2); intro nb2 | (fail_if_success have := nb3); intro nb3 | (fail_if_success have := nb4); intro nb4 | intro nbz) | (apply Yfr; refine Yf FR fun hFRb FR => ?_) | refine Two.mk ?_ ?_ | (apply Yxc; exact Yx) | refine Cs.mk fun hcs => Sm.out ?_ | go_step | omega | (simp only [maxLen_eq]; omega) | exact trivial
          obtain ⟨g, g1, g2, g3⟩ := g
          exact ⟨⟨g, mid + 1, b2, m, wl, z⟩, ⟨hL g g1 g2 g3, hm⟩, by simp only; omega, (Sub.pick (by simp [pickB, hget, hdel, FR.out]) (by simp [look]))⟩
        · have kl : decide (((mid - a2 : Nat) : Int) < ((b2 - mid : Nat) : Int)) = false := decide_eq_false (by omega)
          first | (have FRx := FR; clear FRx) | have FR := fr0S
          have FA := Sm.mk (And.intro TFHuVN (And.intro v1 (And.intro v2 (And.intro v3 (And.intro v4 (And.intro v5 (And.intro kl hwr)))))))
          repeat' first | (apply Sm.mk; refine Ys ?_) | refine WP.seq fun K hK => ?_ | (apply Ob.mk; exact Yo) | refine And.intro (Ob.out ?_) ?_ | refine Y1HuVN ?_ | (refine CallV.ex (F := [_]) (perm1 (by simp only [hget, hdel, ↓reduceIte, FR.out, v1, v2, v3, v4, v5, kl, hwr]; first | done | rfl)) (cR) (fun g => Sm.out ?_)) | refine YzHuVN ?_ | (refine WP.cond rfl (fun hc => ?_) (fun hc => ?_) <;> (try simp only [ZC, reduceCtorEq, ZD] at hc) <;> (try exact absurd hc (by decide)) <;> (try (exfalso; omega))) | refine Rt.mk (And.intro (fun hg => Sm.out ?_) fun hg => Sm.out ?_) | (refine Nu.mk ?_; first | (fail_if_success have := nb1); intro nb1 | (fail_if_success have := nb2); intro nb2 | (fail_if_success have := nb3); intro nb3 | (fail_if_success have := nb4); intro nb4 | intro nbz) | (apply Yfr; refine Yf FR fun hFRb FR => ?_) | refine Two.mk ?_ ?_ | (apply Yxc; exact Yx) | refine Cs.mk fun hcs => Sm.out ?_ | go_step | omega | (simp only [maxLen_eq]; omega) | exact trivial
          obtain ⟨g, g1, g2, g3⟩ := g
          exact ⟨⟨g, a2, mid, m, wr, z⟩, ⟨hR g g1 g2 g3, hm⟩, by simp only; omega, (Sub.pick (by simp [pickB, hget, hdel, FR.out]) (by simp [look]))⟩
      clear hK4 cT
      by_cases h0 : 0 < a2
      · have ka : decide ((a2 : Int) > 0) = true := decide_eq_true (by omega)
        obtain ⟨un, ug, uw, uf, ut, vn, vg, vw, vf, vt, y, U, V, hd1, hd2, cF, hlt, q1, q2, hCl⟩ := hcc h0
        have q3 : a2 - 1 < n := by omega
        have q4 : p < n := by omega
        have s2 : IntKind.i64.wrap ((a2 : Int) - 1) = ((a2 - 1 : Nat) : Int) := by rw [wrap_i64 (by omega) (by omega)]; omega
        obtain ⟨u, hu⟩ : ∃ t, decide ((at_ D (a2 - 1)).f < (at_ D p).f) = t := ⟨_, rfl⟩
        rw [hu] at hlt
        cases u with
        | true =>
          refine WP.drawV (k := 17) mixed (by decide +kernel) (Sm.out ?_)
          first | (have FRx := FR; clear FRx) | have FR := fr0S
          have FA := Sm.mk (And.intro TFHuVN (And.intro ka (And.intro hd1 (And.intro hd2 (And.intro q1 (And.intro q2 (And.intro q3 (And.intro q4 (And.intro hlt (And.intro s2 hCl))))))))))
          repeat' first | (apply Sm.mk; refine YsHuVN0 ?_) | refine WP.seq fun K hK => ?_ | (apply Ob.mk; exact Yo) | refine And.intro (Ob.out ?_) ?_ | refine Y1HuVN ?_ | refine Yc (c := cF) (r := ?_) | refine YzHuVN ?_ | (refine WP.cond rfl (fun hc => ?_) (fun hc => ?_) <;> (try simp only [ZC, reduceCtorEq, ZD] at hc) <;> (try exact absurd hc (by decide)) <;> (try (exfalso; omega))) | refine Rt.mk (And.intro (fun hg => Sm.out ?_) fun hg => Sm.out ?_) | (refine Nu.mk ?_; first | (fail_if_success have := nb1); intro nb1 | (fail_if_success have := nb2); intro nb2 | (fail_if_success have := nb3); intro nb3 | (fail_if_success have := nb4); intro nb4 | intro nbz) | (apply Yfr; refine Yf FR fun hFRb FR => ?_) | refine Two.mk ?_ ?_ | (apply Yxc; exact Yx) | refine Cs.mk fun hcs => Sm.out ?_ | go_step | omega | (simp only [maxLen_eq]; omega) | exact trivial
          exact c3.out _ (Sub.pick (by simp [pickB, hget, hdel, FR.out]) (by simp [look]))
        | false =>
          have hx := of_decide_eq_false hu
          refine WP.drawV (k := 17) mixed (by decide +kernel) (Sm.out ?_)
          first | (have FRx := FR; clear FRx) | have FR := fr0S
          have FA := Sm.mk (And.intro TFHuVN (And.intro ka (And.intro hd1 (And.intro hd2 (And.intro q1 (And.intro q2 (And.intro q3 (And.intro q4 (And.intro hlt (And.intro s2 hCl))))))))))
          repeat' first | (apply Sm.mk; refine YsHuVN0 ?_) | refine WP.seq fun K hK => ?_ | (apply Ob.mk; exact Yo) | refine And.intro (Ob.out ?_) ?_ | refine Y1HuVN ?_ | (first | refine CallV.fn (cF) (Sm.out ?_) | refine ExF.mk (cF) (Sm.out ?_) | refine ExG.mk (fun _ => cF) (Sm.out ?_) | refine ExG.mkJ (fun _ => cF) (Sm.out ?_) | refine ExG.mkI (Ob.out ?_) (fun _ => cF) (Sm.out ?_)) | (refine CallV.ex (F := [_]) (perm1 (by simp only [hget, hdel, ↓reduceIte, FR.out, dkn, kst, fvOf, beq_self_eq_true, Bool.true_beq, Bool.false_beq, Bool.not_true, Bool.not_false, ka, hd1, hd2, q1, q2, q3, q4, hlt, s2, hCl]; first | done | rfl)) (cE) (fun g => Sm.out ?_)) | refine YzHuVN ?_ | (refine WP.cond rfl (fun hc => ?_) (fun hc => ?_) <;> (try simp only [ZC, reduceCtorEq, ZD] at hc) <;> (try exact absurd hc (by decide)) <;> (try (exfalso; omega))) | refine Rt.mk (And.intro (fun hg => Sm.out ?_) fun hg => Sm.out ?_) | (refine Nu.mk ?_; first | (fail_if_success have := nb1); intro nb1 | (fail_if_success have := nb2); intro nb2 | (fail_if_success have := nb3); intro nb3 | (fail_if_success have := nb4); intro nb4 | intro nbz) | (apply Yfr; refine Yf FR fun hFRb FR => ?_) | refine Two.mk ?_ ?_ | (apply Yxc; exact Yx) | refine Cs.mk fun hcs => Sm.out ?_ | go_step | omega | (simp only [maxLen_eq]; omega) | exact trivial
          obtain ⟨⟨E, mm⟩, hP1, hP2⟩ := g
          simp only at hP1 hP2 ⊢
          have am := hP1.am
          have mb := hP1.mb
          exact ⟨⟨E, mm, b2, m, wb, wp⟩, ⟨hI.goE hb hP1 hP2 h0 hx, hm⟩, by simp only; omega, (Sub.pick (by simp [pickB, hget, hdel, FR.out]) (by simp [look]))⟩
      · have ka : decide ((a2 : Int) > 0) = false := decide_eq_false (by omega)
        refine WP.drawV (k := 17) mixed (by decide +kernel) (Sm.out ?_)
        first | (have FRx := FR; clear FRx) | have FR := fr0S
        have FA := Sm.mk (And.intro TFHuVN ka)
        repeat' first | (apply Sm.mk; refine YsHuVN0 ?_) | refine WP.seq fun K hK => ?_ | (apply Ob.mk; exact Yo) | refine And.intro (Ob.out ?_) ?_ | refine Y1HuVN ?_ | refine YzHuVN ?_ | (refine WP.cond rfl (fun hc => ?_) (fun hc => ?_) <;> (try simp only [ZC, reduceCtorEq, ZD] at hc) <;> (try exact absurd hc (by decide)) <;> (try (exfalso; omega))) | refine Rt.mk (And.intro (fun hg => Sm.out ?_) fun hg => Sm.out ?_) | (refine Nu.mk ?_; first | (fail_if_success have := nb1); intro nb1 | (fail_if_success have := nb2); intro nb2 | (fail_if_success have := nb3); intro nb3 | (fail_if_success have := nb4); intro nb4 | intro nbz) | (apply Yfr; refine Yf FR fun hFRb FR => ?_) | refine Two.mk ?_ ?_ | (apply Yxc; exact Yx) | refine Cs.mk fun hcs => Sm.out ?_ | go_step | omega | (simp only [maxLen_eq]; omega) | exact trivial
        exact c3.out _ (Sub.pick (by simp [pickB, hget, hdel, FR.out, undef]) (by simp [look, undef]))
    clear hK3 cE cT hcc
    cases t with
    | true =>
      first | (have FRx := FR; clear FRx) | have FR := fr0S
      have FA := Sm.mk (And.intro TFHuVN (And.intro hh1 ht))
      repeat' first | (apply Sm.mk; refine Ys ?_) | refine WP.seq fun K hK => ?_ | (apply Ob.mk; exact Yo) | refine And.intro (Ob.out ?_) ?_ | ((fail_if_success (show WP _ _ _ (.region 16 _ _) _ _)); refine Y1HuVN ?_) | refine YzHuVN ?_ | (refine WP.cond rfl (fun hc => ?_) (fun hc => ?_) <;> (try simp only [ZC, reduceCtorEq, ZD] at hc) <;> (try exact absurd hc (by decide)) <;> (try (exfalso; omega))) | refine Rt.mk (And.intro (fun hg => Sm.out ?_) fun hg => Sm.out ?_) | (refine Nu.mk ?_; first | (fail_if_success have := nb1); intro nb1 | (fail_if_success have := nb2); intro nb2 | (fail_if_success have := nb3); intro nb3 | (fail_if_success have := nb4); intro nb4 | intro nbz) | (apply Yfr; refine Yf FR fun hFRb FR => ?_) | refine Two.mk ?_ ?_ | (apply Yxc; exact Yx) | refine Cs.mk fun hcs => Sm.out ?_ | go_step | omega | (simp only [maxLen_eq]; omega) | exact trivial
      first | (have FRx := FR; clear FRx) | have FR := fr0S
      have FA := Sm.mk (TFHuVN)
      repeat' first | (apply Sm.mk; refine Ys ?_) | refine WP.seq fun K hK => ?_ | (apply Ob.mk; exact Yo) | refine And.intro (Ob.out ?_) ?_ | refine Y1HuVN ?_ | (refine CallV.ex (F := [_]) (perm1 (by simp only [hget, hdel, ↓reduceIte, FR.out]; first | done | rfl)) (cI) (fun g => Sm.out ?_)) | refine YzHuVN ?_ | ((fail_if_success (show WP _ _ _ (.cond _ _ _) _ _)); refine WP.cond rfl (fun hc => ?_) (fun hc => ?_) <;> (try simp only [ZC, reduceCtorEq, ZD] at hc) <;> (try exact absurd hc (by decide)) <;> (try (exfalso; omega))) | refine Rt.mk (And.intro (fun hg => Sm.out ?_) fun hg => Sm.out ?_) | (refine Nu.mk ?_; first | (fail_if_success have := nb1); intro nb1 | (fail_if_success have := nb2); intro nb2 | (fail_if_success have := nb3); intro nb3 | (fail_if_success have := nb4); intro nb4 | intro nbz) | (apply Yfr; refine Yf FR fun hFRb FR => ?_) | refine Two.mk ?_ ?_ | (apply Yxc; exact Yx) | refine Cs.mk fun hcs => Sm.out ?_ | go_step | omega | (simp only [maxLen_eq]; omega) | exact trivial
      obtain ⟨g, hg⟩ := g
      cases g with
      | true =>
        have hdn := hI.done (hg rfl)
        clear c2
        first | (have FRx := FR; clear FRx) | have FR := fr0S
        have FA := Sm.mk (TFHuVN)
        repeat' first | (apply Sm.mk; refine Ys ?_) | refine WP.seq fun K hK => ?_ | (apply Ob.mk; exact Yo) | refine And.intro (Ob.out ?_) ?_ | refine Y1HuVN ?_ | refine YzHuVN ?_ | (refine WP.cond rfl (fun hc => ?_) (fun hc => ?_) <;> (try simp only [ZC, reduceCtorEq, ZD] at hc) <;> (try exact absurd hc (by decide)) <;> (try (exfalso; omega))) | refine Rt.mk (And.intro (fun hg => Sm.out ?_) fun hg => Sm.out ?_) | (refine Nu.mk ?_; first | (fail_if_success have := nb1); intro nb1 | (fail_if_success have := nb2); intro nb2 | (fail_if_success have := nb3); intro nb3 | (fail_if_success have := nb4); intro nb4 | intro nbz) | (apply Yfr; refine Yf FR fun hFRb FR => ?_) | refine Two.mk ?_ ?_ | (apply Yxc; exact Yx) | refine Cs.mk fun hcs => Sm.out ?_ | go_step | omega | (simp only [maxLen_eq]; omega) | exact trivial
        (refine OutQ.drop _ _ (perm1 (by simp only [hget, hdel, ↓reduceIte, if_true, if_false, FR.out, hC1]; first | done | rfl)) (by simp only [resv, ZK, look, loadv, loadn, loadnm, load1, load1m, hget, ↓reduceIte, Nat.reduceEqDiff, Nat.reduceAdd, Nat.reduceMul, Nat.reduceLeDiff, Nat.reduceLT, reduceCtorEq, TFHuVN, FR.out, hC1]) ⟨D, ⟨hI.perm, hdn, hI.out⟩, (by simp only [resv, resA, ZK, look, loadv, loadn, loadnm, load1, load1m, hget, ↓reduceIte, Nat.reduceEqDiff, Nat.reduceAdd, Nat.reduceMul, Nat.reduceLeDiff, Nat.reduceLT, reduceCtorEq, TFHuVN, FR.out, hC1]; first | done | rfl), rfl⟩)
      | false =>
        first | (have FRx := FR; clear FRx) | have FR := fr0S
        have FA := Sm.mk (TFHuVN)
        repeat' first | (apply Sm.mk; refine Ys ?_) | refine WP.seq fun K hK => ?_ | (apply Ob.mk; exact Yo) | refine And.intro (Ob.out ?_) ?_ | refine Y1HuVN ?_ | refine YzHuVN ?_ | (refine WP.cond rfl (fun hc => ?_) (fun hc => ?_) <;> (try simp only [ZC, reduceCtorEq, ZD] at hc) <;> (try exact absurd hc (by decide)) <;> (try (exfalso; omega))) | refine Rt.mk (And.intro (fun hg => Sm.out ?_) fun hg => Sm.out ?_) | (refine Nu.mk ?_; first | (fail_if_success have := nb1); intro nb1 | (fail_if_success have := nb2); intro nb2 | (fail_if_success have := nb3); intro nb3 | (fail_if_success have := nb4); intro nb4 | intro nbz) | (apply Yfr; refine Yf FR fun hFRb FR => ?_) | refine Two.mk ?_ ?_ | (apply Yxc; exact Yx) | refine Cs.mk fun hcs => Sm.out ?_ | go_step | omega | (simp only [maxLen_eq]; omega) | exact trivial
        exact c2.out _ (Sub.pick (by simp [pickB, hget, hdel, FR.out]) (by simp [look]))
    | false =>
      first | (have FRx := FR; clear FRx) | have FR := fr0S
      have FA := Sm.mk (And.intro TFHuVN (And.intro hh1 ht))
      repeat' first | (apply Sm.mk; refine Ys ?_) | refine WP.seq fun K hK => ?_ | (apply Ob.mk; exact Yo) | refine And.intro (Ob.out ?_) ?_ | refine Y1HuVN ?_ | refine YzHuVN ?_ | (refine WP.cond rfl (fun hc => ?_) (fun hc => ?_) <;> (try simp only [ZC, reduceCtorEq, ZD] at hc) <;> (try exact absurd hc (by decide)) <;> (try (exfalso; omega))) | refine Rt.mk (And.intro (fun hg => Sm.out ?_) fun hg => Sm.out ?_) | (refine Nu.mk ?_; first | (fail_if_success have := nb1); intro nb1 | (fail_if_success have := nb2); intro nb2 | (fail_if_success have := nb3); intro nb3 | (fail_if_success have := nb4); intro nb4 | intro nbz) | (apply Yfr; refine Yf FR fun hFRb FR => ?_) | refine Two.mk ?_ ?_ | (apply Yxc; exact Yx) | refine Cs.mk fun hcs => Sm.out ?_ | go_step | omega | (simp only [maxLen_eq]; omega) | exact trivial
      exact c2.out _ (Sub.pick (by simp [pickB, hget, hdel, FR.out]) (by simp [look]))
  clear hK2
  cases wb with
  | true =>
    first | (have FRx := FR; clear FRx) | have FR := fr0S
    have FA := Sm.mk (TFHuVN)
    repeat' first | (apply Sm.mk; refine Ys ?_) | refine WP.seq fun K hK => ?_ | (apply Ob.mk; exact Yo) | refine And.intro (Ob.out ?_) ?_ | refine Y1HuVN ?_ | refine YzHuVN ?_ | (refine WP.cond rfl (fun hc => ?_) (fun hc => ?_) <;> (try simp only [ZC, reduceCtorEq, ZD] at hc) <;> (try exact absurd hc (by decide)) <;> (try (exfalso; omega))) | refine Rt.mk (And.intro (fun hg => Sm.out ?_) fun hg => Sm.out ?_) | (refine Nu.mk ?_; first | (fail_if_success have := nb1); intro nb1 | (fail_if_success have := nb2); intro nb2 | (fail_if_success have := nb3); intro nb3 | (fail_if_success have := nb4); intro nb4 | intro nbz) | (apply Yfr; refine Yf FR fun hFRb FR => ?_) | refine Two.mk ?_ ?_ | (apply Yxc; exact Yx) | refine Cs.mk fun hcs => Sm.out ?_ | go_step | omega | (simp only [maxLen_eq]; omega) | exact trivial
    exact c1.out D m hI hm _ (Sub.pick (by simp [pickB, hget, hdel, FR.out, hC1]) (by simp [look, hC1]))
  | false =>
    have s3 : IntKind.i64.wrap ((m : Int) - 1) = ((m - 1 : Nat) : Int) := by rw [wrap_i64 (by omega) (by omega)]; omega
    first | (have FRx := FR; clear FRx) | have FR := fr0S
    have FA := Sm.mk (And.intro TFHuVN s3)
    repeat' first | (apply Sm.mk; refine Ys ?_) | refine WP.seq fun K hK => ?_ | (apply Ob.mk; exact Yo) | refine And.intro (Ob.out ?_) ?_ | refine Y1HuVN ?_ | (refine CallV.ex (F := [_]) (perm1 (by simp only [hget, hdel, ↓reduceIte, FR.out, s3]; first | done | rfl)) (cB) (fun g => Sm.out ?_)) | refine YzHuVN ?_ | (refine WP.cond rfl (fun hc => ?_) (fun hc => ?_) <;> (try simp only [ZC, reduceCtorEq, ZD] at hc) <;> (try exact absurd hc (by decide)) <;> (try (exfalso; omega))) | refine Rt.mk (And.intro (fun hg => Sm.out ?_) fun hg => Sm.out ?_) | (refine Nu.mk ?_; first | (fail_if_success have := nb1); intro nb1 | (fail_if_success have := nb2); intro nb2 | (fail_if_success have := nb3); intro nb3 | (fail_if_success have := nb4); intro nb4 | intro nbz) | (apply Yfr; refine Yf FR fun hFRb FR => ?_) | refine Two.mk ?_ ?_ | (apply Yxc; exact Yx) | refine Cs.mk fun hcs => Sm.out ?_ | go_step | omega | (simp only [maxLen_eq]; omega) | exact trivial
    obtain ⟨g, g1, g2⟩ := g
    exact c1.out g (m - 1) (hI.sub hb g1 g2) (by omega) _ (Sub.pick (by simp [pickB, hget, hdel, FR.out]) (by simp [look]))
theorem pdq_all : ∀ N, PdQ N
  | 0 => fun l x n k a b m _ _ _ _ _ h => absurd h (Nat.not_lt_zero _)
  | N + 1 => pdq_step N (pdq_all N)
end Go.Proofs.YtaffbklkjjmmdaaDoor
