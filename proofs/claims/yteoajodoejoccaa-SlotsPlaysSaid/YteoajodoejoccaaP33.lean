/-
  The walks and the laws that the statement leans on, part 33.
-/
import Derived.Test.YteoajodoejoccaaP10
import Derived.Test.YteoajodoejoccaaP19
import Derived.Test.YteoajodoejoccaaP32
namespace Go.Proofs.Yteoajodoejoccaa
open Go
set_option linter.unusedVariables false
set_option linter.unusedSimpArgs false
set_option linter.defProp false
def TFRfC :=
  And.intro (And.intro (And.intro (And.intro tyc0 (And.intro tyc3 zmb3)) (And.intro tyc4 (And.intro zmb4 tyc5))) (And.intro (And.intro zmb5 (And.intro tyc36 elt36)) (And.intro mkz36 (And.intro apT36 elk36)))) (And.intro (And.intro (And.intro zmb36 (And.intro tyc92 zmb92)) (And.intro tyc103 (And.intro zmb103 Try.underlying0))) (And.intro (And.intro Try.underlying3 (And.intro Try.underlying4 Try.underlying5)) (And.intro Try.underlying36 (And.intro Try.underlying92 Try.underlying103))))
theorem Y1RfC {G R : Prop} (r : R) (h : R → G := by intro r; first | (apply WP.region; exact rvc_sound _ _ (Sm.out r)) | exact WP.drawK rfl mixed (by decide +kernel) (Sm.out r) | (apply WP.block; exact r) | (apply WP.skip; exact Yq r) | (apply WP.exit; exact Yq r) | (apply WP.ret; exact Sm.out r) | exact WP.cond rfl (fun _ => r) (fun hg => absurd hg (by decide)) | exact WP.cond rfl (fun hg => absurd hg (by decide)) (fun _ => r) | exact Rt.mk (And.intro (fun _ => Sm.out r) fun hg => absurd hg (by decide)) | exact Rt.mk (And.intro (fun hg => absurd hg (by decide)) fun _ => Sm.out r)) : G := h r
theorem YzRfC {G R : Prop} (r : R) (h : R → G := by intro r; first | (apply ExG.no; exact Sm.out r) | (apply Or.inl; apply ExG.no; exact Sm.out r) | exact Or.inl (And.intro (fun hg => absurd hg (by decide)) (ExG.no (Sm.out r)))) : G := h r
theorem YsRfC0 {P Q : Prop} (q : Q) (h : P = Q := by (try (conv => lhs; simp -dsimp only [ZK, rvc, capA, appA, litL, mkfv, drawF, headN, pureH, stp, dvc, calleeOf, gcall, pev, eff, newB, okd, og, ogs, ogo, ogp, slv, bltv, opd, litv, strip, one, both, putE, St.put, look, gdOf, gdv, picka, pickv, pickw, binv, bini, bins, binb, binp, binq, isSlT, bina, shp, eqCells, unv, convv, nilv, faddv, addp, idxav, idxp, load1, load1m, loadn, loadnm, loadv, hget, hset, hrep, hdel, slicev, slice3v, bnd, shift1, lenv, capv, IntKind.bits, extractv, fieldv, indexv, min2v, max2v, mkiv, tasv, tasz, cellsA, fillA, buildv, stC, oneC, rowMB, intsA, plN, appE, appZ, appC, appS, srcB, appNZ, appNC, VwL, srcC, srcZ, srcM, isBoolT, isPtrT, isSliceT, uOk, Value.oneCell', Nat.reducePow, Int.reducePow, Nat.reduceAdd, Nat.reduceMul, Nat.reduceSub, Nat.reduceLT, Nat.reduceLeDiff, Nat.reduceEqDiff, Nat.reduceBEq, Nat.reduceDiv, Nat.reduceMod, ↓reduceIte, reduceCtorEq, Int.reduceToNat, Int.reduceLT, Int.reduceLE, TFRfC, SeqQ, BlkQ, LoopQ, BodyQ, List.length_nil, FA.out, FR.out])) <;> exact rfl) : P := h.mpr q
theorem YsRfC1 {P Q : Prop} (q : Q) (h : P = Q := by (try (conv => lhs; simp -dsimp only [ZK, rvc, capA, appA, litL, mkfv, drawF, headN, pureH, stp, dvc, calleeOf, gcall, pev, eff, newB, okd, og, ogs, ogo, ogp, slv, bltv, opd, litv, strip, one, both, putE, St.put, look, gdOf, gdv, picka, pickv, pickw, binv, bini, bins, binb, binp, binq, isSlT, bina, shp, eqCells, unv, convv, nilv, faddv, addp, idxav, idxp, load1, load1m, loadn, loadnm, loadv, hget, hset, hrep, hdel, slicev, slice3v, bnd, shift1, lenv, capv, IntKind.bits, extractv, fieldv, indexv, min2v, max2v, mkiv, tasv, tasz, cellsA, fillA, buildv, stC, oneC, rowMB, intsA, plN, appE, appZ, appC, appS, srcB, appNZ, appNC, VwL, srcC, srcZ, srcM, isBoolT, isPtrT, isSliceT, uOk, Value.oneCell', Nat.reducePow, Int.reducePow, Nat.reduceAdd, Nat.reduceMul, Nat.reduceSub, Nat.reduceLT, Nat.reduceLeDiff, Nat.reduceEqDiff, Nat.reduceBEq, Nat.reduceDiv, Nat.reduceMod, ↓reduceIte, reduceCtorEq, Int.reduceToNat, Int.reduceLT, Int.reduceLE, TFRfC, SeqQ, BlkQ, LoopQ, BodyQ, Bool.not_true, Bool.not_false, FA.out, FR.out])) <;> exact rfl) : P := h.mpr q
def lyW : DA → Nat → List (List Int) → DA × Int
  | a, _, [] => (a, 0)
  | a, i, z :: r => if wrC a i z.length = 0 then lyW (wrA a i z) (i + 1) r else (wrA a i z, wrC a i z.length)
theorem lyR_lyW : ∀ (cs : List (List Int)) (a : DA) (i : Nat), lyR a i cs = if (lyW a i cs).2 = 0 then (syA (lyW a i cs).1, syC (lyW a i cs).1) else lyW a i cs
  | [], a, i => rfl
  | z :: r, a, i => by
    unfold lyR lyW
    by_cases h : wrC a i z.length = 0
    · rw [if_pos h, if_pos h]; exact lyR_lyW r _ _
    · rw [if_neg h, if_neg h, if_neg h]
theorem lyW_ok : ∀ (cs : List (List Int)) (a : DA) (i c : Nat), AOk c a → AOk (c + cs.length) (lyW a i cs).1
  | [], a, i, c, h => h
  | z :: r, a, i, c, h => by
    unfold lyW
    have h1 := wrA_ok h i z
    split
    · exact (lyW_ok r (wrA a i z) (i + 1) (c + 1) h1).le (by simp only [List.length_cons]; omega)
    · exact h1.le (by simp only [List.length_cons]; omega)
set_option maxRecDepth 20000 in
theorem chunks_ct (z : List Int) (s : Int) : ACt Try.prog 54 [.slz .u8 z, iv .i64 s] [] (fun r F' => ∃ q p : Nat, r = .lit (.func (.func 62) #[] #[.pointer (some ⟨p, 0, none⟩), .pointer (some ⟨q, 0, none⟩)]) ∧ F' = [(q, .cells [iv .i64 s] 1 3), (p, .cells [.slz .u8 z] 1 36)]) := by
  refine ACt.intro Try.func54 rfl (by kernel_rfl) (by simp [Try.ntmps54]) (fun cx => ?_)
  simp only [argE, Try.ntmps54, Try.results54]
  first | (have FRx := FR; clear FRx) | have FR := fr0S
  have FA := Sm.mk (TFRfC)
  repeat' first | (apply Sm.mk; refine Ys ?_) | refine WP.seq fun K hK => ?_ | (apply Ob.mk; exact Yo) | refine And.intro (Ob.out ?_) ?_ | refine Y1RfC ?_ | refine YzRfC ?_ | (refine WP.cond rfl (fun hc => ?_) (fun hc => ?_) <;> (try simp only [ZC, reduceCtorEq, ZD] at hc) <;> (try exact absurd hc (by decide)) <;> (try (exfalso; omega))) | refine Rt.mk (And.intro (fun hg => Sm.out ?_) fun hg => Sm.out ?_) | (refine Nu.mk ?_; first | (fail_if_success have := nb1); intro nb1 | (fail_if_success have := nb2); intro nb2 | (fail_if_success have := nb3); intro nb3 | (fail_if_success have := nb4); intro nb4 | intro nbz) | (apply Yfr; refine Yf FR fun hFRb FR => ?_) | refine Two.mk ?_ ?_ | (apply Yxc; exact Yx) | refine Cs.mk fun hcs => Sm.out ?_ | go_step | omega | (simp only [maxLen_eq]; omega) | exact trivial
  (refine OutQ.drop _ _ (perm2 (by simp only [hget, hdel, ↓reduceIte, if_true, if_false, FR.out]; first | done | rfl) (by simp only [hget, hdel, ↓reduceIte, if_true, if_false, FR.out]; first | done | rfl)) (by simp only [resv, ZK, look, loadv, loadn, loadnm, load1, load1m, hget, ↓reduceIte, Nat.reduceEqDiff, Nat.reduceAdd, Nat.reduceMul, Nat.reduceLeDiff, Nat.reduceLT, reduceCtorEq, TFRfC, FR.out]) ⟨nb2, nb1, (by simp only [resv, resA, ZK, look, loadv, loadn, loadnm, load1, load1m, hget, ↓reduceIte, Nat.reduceEqDiff, Nat.reduceAdd, Nat.reduceMul, Nat.reduceLeDiff, Nat.reduceLT, reduceCtorEq, TFRfC, FR.out]; first | done | rfl), rfl⟩)
def RH (L D q p b6 b4 b3 x : Nat) (slm rec : MB) (s : Nat) (z : List Int) (i : Nat) (e : Int) (dh : Hp) : Hp :=
  (L, rec) :: (D, .obj (.deferred (some []))) :: (q, .cells [iv .i64 (s : Int)] 1 3) :: (p, .cells [.slz .u8 z] 1 36) :: (b6, .cells [iv .i64 e] 1 28) :: (b4, .cells [iv .i64 (i : Int)] 1 3) :: (b3, .cells [pt x 0] 1 30) :: (x, slm) :: dh
theorem permRH (y1 y2 y3 y4 : Nat × MB) (R : Hp) : (y1 :: y2 :: y3 :: y4 :: R).Perm ((y3 :: y4 :: y2 :: y1 :: R) ++ []) := by
  rw [List.append_nil]
  exact ((List.perm_append_comm_assoc [y3, y4, y2] [y1] R).trans (.cons _ (List.perm_append_comm_assoc [y3, y4] [y2] R))).symm
theorem wr_size0 (a : DA) (i : Int) (z : List Int) : (wrA a i z).size = a.size := by
  unfold wrA; split; rfl; split <;> rfl
structure EqG (b : Nat) (a : DA) where
  z : List Int
  i : Nat
  q : LS b a
structure ChG where
  z : List Int
  i : Nat
  a : DA
  l : DL
def stX (X : DA × Int) : LoopState := if X.2 = 0 then .ready else .done
def peX (X : DA × Int) : Option Code := if X.2 = 0 then none else some .ret
set_option maxRecDepth 20000 in
set_option maxHeartbeats 4000000 in
theorem chunks1_ct {L D q p b6 b4 b3 x b s : Nat} {slm : MB} {mk : LoopState → Option Code → MB} (hs1 : 1 ≤ s) (hs2 : s ≤ 512)
    (hY : ∀ (z c : List Int) (i k : Nat) (a : DA) (l : DL), AOk k a → k ≤ 990 → LOk b a l → i ≤ 110000 → YAct Try.prog L [.slz .u8 c] (RH L D q p b6 b4 b3 x slm (mk .ready none) s z i 0 (dH b a l))
      (fun r F' => (wrC a i c.length = 0 ∧ r = bv true ∧ ∃ l2 : LS b (wrA a i c), F' = RH L D q p b6 b4 b3 x slm (mk .ready none) s z (i + 1) 0 (dH b (wrA a i c) l2.1)) ∨
        (wrC a i c.length ≠ 0 ∧ r = bv false ∧ ∃ l2 : LS b (wrA a i c), F' = RH L D q p b6 b4 b3 x slm (mk .done (some .ret)) s z i (wrC a i c.length) (dH b (wrA a i c) l2.1))))
    (z : List Int) (i k : Nat) (a : DA) (l : DL) (hA : AOk k a) (hl : LOk b a l) (hi : i ≤ 100000) (hz : z.length ≤ 1000000) (hc : k + (cks s z).length ≤ 990) (hsz : a.size = s) (hic : i + (cks s z).length ≤ 110000) :
    ACt Try.prog 62 [.lit (.func (.yield L) #[] #[]), pt p 0, pt q 0] (RH L D q p b6 b4 b3 x slm (mk .ready none) s z i 0 (dH b a l))
      (fun r F' => ∃ g : EqG b (lyW a i (cks s z)).1, r = .tup [] ∧ F' = RH L D q p b6 b4 b3 x slm (mk (stX (lyW a i (cks s z))) (peX (lyW a i (cks s z)))) s g.z g.i (lyW a i (cks s z)).2 (dH b (lyW a i (cks s z)).1 g.q.1)) := by
  obtain ⟨X, hX⟩ : ∃ X, X = lyW a i (cks s z) := ⟨_, rfl⟩
  rw [← hX]
  obtain ⟨S, hS⟩ : ∃ S, stX X = S := ⟨_, rfl⟩
  obtain ⟨E, hE⟩ : ∃ E, peX X = E := ⟨_, rfl⟩
  obtain ⟨e, he⟩ : ∃ e, X.2 = e := ⟨_, rfl⟩
  rw [hS, hE, he]
  refine ACt.intro Try.func62 rfl (by kernel_rfl) (by simp [Try.ntmps62]) (fun cx => ?_)
  simp only [argE, Try.ntmps62, Try.results62]
  refine WP.block ?_
  refine WP.loop (Γ := ChG) (fun g => ⟨[(0, .lit (.func (.yield L) #[] #[])), (1, pt p 0), (2, pt q 0)], RH L D q p b6 b4 b3 x slm (mk .ready none) s g.z g.i 0 (dH b g.a g.l)⟩)
    (fun g => lyW g.a g.i (cks s g.z) = X ∧ g.a.size = s ∧ LOk b g.a g.l ∧ (∃ c, AOk c g.a ∧ c + (cks s g.z).length ≤ 990) ∧ g.i + (cks s g.z).length ≤ 110000 ∧ g.z.length ≤ 1000000) (fun g => g.z.length) ⟨z, i, a, l⟩
    ⟨hX.symm, hsz, hl, ⟨k, hA, hc⟩, hic, hz⟩ (Sub.of_env [] (by exact pmz _) (by simp [look])) ?_
  clear hX hsz hl hA hi hz hc hic
  intro ⟨z, i, a, l⟩ ⟨hX, hsz, hl, ⟨c, hA, hc⟩, hic, hz⟩
  simp only at hX hsz hl hA hc hic hz ⊢
  have FR : Sm (¬ ((1 : Nat) = 0)) := Sm.mk Nat.one_ne_zero
  refine WP.sub (s' := ⟨[(0, .lit (.func (.yield L) #[] #[])), (1, pt p 0), (2, pt q 0)], (p, .cells [.slz .u8 z] 1 36) :: (q, .cells [iv .i64 (s : Int)] 1 3) :: (L, mk .ready none) :: (D, .obj (.deferred (some []))) :: (b6, .cells [iv .i64 0] 1 28) :: (b4, .cells [iv .i64 (i : Int)] 1 3) :: (b3, .cells [pt x 0] 1 30) :: (x, slm) :: dH b a l⟩) (Sub.of_env [] (by
    rw [List.append_nil]; unfold RH
    exact (List.perm_append_comm_assoc [_, _, _] [_] _).trans (.cons _ (List.perm_append_comm_assoc [_, _] [_] _))) (by simp [look])) ?_
  refine WP.nd fun hnd => ?_
  simp only [ndF, fresh_cons, and_true, ne_eq] at hnd
  have hpq := hnd.1.1
  clear hnd
  have p1 := hpq.1
  have p2 := hpq.2
  by_cases h0 : z = []
  · subst h0
    have k0 : decide (((0 : Nat) : Int) > 0) = false := by decide
    rw [cks_nil] at hX
    unfold lyW at hX
    subst hX
    obtain rfl : e = 0 := he.symm
    obtain rfl : S = .ready := hS.symm
    obtain rfl : E = none := hE.symm
    first | (have FRx := FR; clear FRx) | have FR := fr0S
    have FA := Sm.mk (And.intro TFRfC (And.intro k0 (And.intro p1 p2)))
    repeat' first | (apply Sm.mk; refine YsRfC0 ?_) | refine WP.seq fun K hK => ?_ | (apply Ob.mk; exact Yo) | refine And.intro (Ob.out ?_) ?_ | refine Y1RfC ?_ | refine YzRfC ?_ | (refine WP.cond rfl (fun hc => ?_) (fun hc => ?_) <;> (try simp only [ZC, reduceCtorEq, ZD] at hc) <;> (try exact absurd hc (by decide)) <;> (try (exfalso; omega))) | refine Rt.mk (And.intro (fun hg => Sm.out ?_) fun hg => Sm.out ?_) | (refine Nu.mk ?_; first | (fail_if_success have := nb1); intro nb1 | (fail_if_success have := nb2); intro nb2 | (fail_if_success have := nb3); intro nb3 | (fail_if_success have := nb4); intro nb4 | intro nbz) | (apply Yfr; refine Yf FR fun hFRb FR => ?_) | refine Two.mk ?_ ?_ | (apply Yxc; exact Yx) | refine Cs.mk fun hcs => Sm.out ?_ | go_step | omega | (simp only [maxLen_eq]; omega) | exact trivial
    (refine OutQ.drop _ _ (permRH _ _ _ _ _) (by simp only [resv, ZK, look, loadv, loadn, loadnm, load1, load1m, hget, ↓reduceIte, Nat.reduceEqDiff, Nat.reduceAdd, Nat.reduceMul, Nat.reduceLeDiff, Nat.reduceLT, reduceCtorEq, TFRfC, FR.out]) ⟨⟨[], i, l, hl⟩, (by simp only [resv, resA, ZK, look, loadv, loadn, loadnm, load1, load1m, hget, ↓reduceIte, Nat.reduceEqDiff, Nat.reduceAdd, Nat.reduceMul, Nat.reduceLeDiff, Nat.reduceLT, reduceCtorEq, TFRfC, FR.out]; first | done | rfl), rfl⟩)
  · have hz0 : z.length ≠ 0 := fun h => h0 (List.eq_nil_of_length_eq_zero h)
    have k0 : decide ((z.length : Int) > 0) = true := decide_eq_true (by omega)
    rw [cks_cons hs1 h0] at hX hc hic
    simp only [List.length_cons] at hc hic
    obtain ⟨m, hm⟩ : ∃ m, m = min z.length s := ⟨_, rfl⟩
    have hmin : (if (s : Int) < (z.length : Int) then (s : Int) else (z.length : Int)) = (m : Int) := by split <;> omega
    have hmin2 : (if (z.length : Int) < (s : Int) then (z.length : Int) else (s : Int)) = (m : Int) := by split <;> omega
    have ht : z.take m = z.take s := by
      rw [hm]
      by_cases h : s ≤ z.length
      · rw [Nat.min_eq_right h]
      · rw [Nat.min_eq_left (by omega), List.take_of_length_le (Nat.le_refl _), List.take_of_length_le (by omega)]
    have hd : z.drop m = z.drop s := by
      rw [hm]
      by_cases h : s ≤ z.length
      · rw [Nat.min_eq_right h]
      · rw [Nat.min_eq_left (by omega), List.drop_of_length_le (Nat.le_refl _), List.drop_of_length_le (by omega)]
    have q1 : m ≤ z.length := by omega
    have hzd : (z.drop s).length < z.length := by simp only [List.length_drop]; omega
    have htl : z.take z.length = z := List.take_length
    first | (have FRx := FR; clear FRx) | have FR := fr0S
    have FA := Sm.mk (And.intro TFRfC (And.intro k0 (And.intro hmin (And.intro hmin2 (And.intro q1 (And.intro p1 p2))))))
    repeat' first | (apply Sm.mk; refine Ys ?_) | refine WP.seq fun K hK => ?_ | (apply Ob.mk; exact Yo) | refine And.intro (Ob.out ?_) ?_ | ((fail_if_success (show WP _ _ _ (.region 2 _ _) _ _)); refine Y1RfC ?_) | refine YzRfC ?_ | (refine WP.cond rfl (fun hc => ?_) (fun hc => ?_) <;> (try simp only [ZC, reduceCtorEq, ZD] at hc) <;> (try exact absurd hc (by decide)) <;> (try (exfalso; omega))) | refine Rt.mk (And.intro (fun hg => Sm.out ?_) fun hg => Sm.out ?_) | (refine Nu.mk ?_; first | (fail_if_success have := nb1); intro nb1 | (fail_if_success have := nb2); intro nb2 | (fail_if_success have := nb3); intro nb3 | (fail_if_success have := nb4); intro nb4 | intro nbz) | (apply Yfr; refine Yf FR fun hFRb FR => ?_) | refine Two.mk ?_ ?_ | (apply Yxc; exact Yx) | refine Cs.mk fun hcs => Sm.out ?_ | go_step | omega | (simp only [maxLen_eq]; omega) | exact trivial
    refine WP.regionZ (l1 := [_, _, _, _]) (l2 := [_]) (L := L) rfl rfl (show 16 < 21 by decide) (by decide) (fun _ h => h) (fun K1 hK1 => Sm.out ?_)
    first | (have FRx := FR; clear FRx) | have FR := fr0S
    have FA := Sm.mk (And.intro TFRfC (And.intro ht (And.intro q1 (And.intro p1 p2))))
    repeat' first | (apply Sm.mk; refine Ys ?_) | refine WP.seq fun K hK => ?_ | (apply Ob.mk; exact Yo) | refine And.intro (Ob.out ?_) ?_ | refine Y1RfC ?_ | refine YzRfC ?_ | (refine WP.cond rfl (fun hc => ?_) (fun hc => ?_) <;> (try simp only [ZC, reduceCtorEq, ZD] at hc) <;> (try exact absurd hc (by decide)) <;> (try (exfalso; omega))) | refine Rt.mk (And.intro (fun hg => Sm.out ?_) fun hg => Sm.out ?_) | (refine Nu.mk ?_; first | (fail_if_success have := nb1); intro nb1 | (fail_if_success have := nb2); intro nb2 | (fail_if_success have := nb3); intro nb3 | (fail_if_success have := nb4); intro nb4 | intro nbz) | (apply Yfr; refine Yf FR fun hFRb FR => ?_) | refine Two.mk ?_ ?_ | (apply Yxc; exact Yx) | refine Cs.mk fun hcs => Sm.out ?_ | go_step | omega | (simp only [maxLen_eq]; omega) | exact trivial
    have hYz := hY z (z.take s) i c a l hA (by omega) hl (by omega)
    obtain ⟨C, hCe⟩ : ∃ C, C = wrC a (i : Int) (z.take s).length := ⟨_, rfl⟩
    rw [← hCe] at hYz
    refine (hYz.perm ?_).mono ?_
    · unfold RH
      exact ((List.perm_append_comm_assoc [_, _, _] [_] _).trans (.cons _ (List.perm_append_comm_assoc [_, _] [_] _))).symm
    rintro r F' (⟨hC, rfl, ⟨l2, hl2⟩, rfl⟩ | ⟨hC, rfl, ⟨l2, hl2⟩, rfl⟩)
    · refine Sm.out ?_
      unfold lyW at hX
      rw [← hCe, if_pos hC] at hX
      first | (have FRx := FR; clear FRx) | have FR := fr0S
      have FA := Sm.mk (TFRfC)
      repeat' first | (apply Sm.mk; refine YsRfC1 ?_) | refine WP.seq fun K hK => ?_ | (apply Ob.mk; exact Yo) | refine And.intro (Ob.out ?_) ?_ | ((fail_if_success (show WP _ _ _ (.region 3 _ _) _ _)); refine Y1RfC ?_) | refine YzRfC ?_ | (refine WP.cond rfl (fun hc => ?_) (fun hc => ?_) <;> (try simp only [ZC, reduceCtorEq, ZD] at hc) <;> (try exact absurd hc (by decide)) <;> (try (exfalso; omega))) | refine Rt.mk (And.intro (fun hg => Sm.out ?_) fun hg => Sm.out ?_) | (refine Nu.mk ?_; first | (fail_if_success have := nb1); intro nb1 | (fail_if_success have := nb2); intro nb2 | (fail_if_success have := nb3); intro nb3 | (fail_if_success have := nb4); intro nb4 | intro nbz) | (apply Yfr; refine Yf FR fun hFRb FR => ?_) | refine Two.mk ?_ ?_ | (apply Yxc; exact Yx) | refine Cs.mk fun hcs => Sm.out ?_ | go_step | omega | (simp only [maxLen_eq]; omega) | exact trivial
      refine WP.sub (s' := ⟨[(0, .lit (.func (.yield L) #[] #[])), (1, pt p 0), (2, pt q 0), (4, iv .i64 (m : Int))], (p, .cells [.slz .u8 z] 1 36) :: (q, .cells [iv .i64 (s : Int)] 1 3) :: (L, mk .ready none) :: (D, .obj (.deferred (some []))) :: (b6, .cells [iv .i64 0] 1 28) :: (b4, .cells [iv .i64 ((i + 1 : Nat) : Int)] 1 3) :: (b3, .cells [pt x 0] 1 30) :: (x, slm) :: dH b (wrA a i (z.take s)) l2⟩) (Sub.of_env [] (by
        rw [List.append_nil]; unfold RH
        exact (List.perm_append_comm_assoc [_, _, _] [_] _).trans (.cons _ (List.perm_append_comm_assoc [_, _] [_] _))) (by simp [look])) ?_
      first | (have FRx := FR; clear FRx) | have FR := fr0S
      have FA := Sm.mk (And.intro TFRfC (And.intro hd (And.intro htl q1)))
      repeat' first | (apply Sm.mk; refine Ys ?_) | refine WP.seq fun K hK => ?_ | (apply Ob.mk; exact Yo) | refine And.intro (Ob.out ?_) ?_ | refine Y1RfC ?_ | refine YzRfC ?_ | (refine WP.cond rfl (fun hc => ?_) (fun hc => ?_) <;> (try simp only [ZC, reduceCtorEq, ZD] at hc) <;> (try exact absurd hc (by decide)) <;> (try (exfalso; omega))) | refine Rt.mk (And.intro (fun hg => Sm.out ?_) fun hg => Sm.out ?_) | (refine Nu.mk ?_; first | (fail_if_success have := nb1); intro nb1 | (fail_if_success have := nb2); intro nb2 | (fail_if_success have := nb3); intro nb3 | (fail_if_success have := nb4); intro nb4 | intro nbz) | (apply Yfr; refine Yf FR fun hFRb FR => ?_) | refine Two.mk ?_ ?_ | (apply Yxc; exact Yx) | refine Cs.mk fun hcs => Sm.out ?_ | go_step | omega | (simp only [maxLen_eq]; omega) | exact trivial
      refine ⟨⟨z.drop s, i + 1, wrA a i (z.take s), l2⟩, ⟨hX, by simp only; rw [wr_size0]; exact hsz, hl2, ⟨c + 1, wrA_ok hA _ _, by simp only; omega⟩, by simp only; omega, by simp only; omega⟩, by simp only; omega, Sub.of_env [] ?_ (by simp [look])⟩
      rw [List.append_nil]
      unfold RH
      exact ((List.perm_append_comm_assoc [_, _, _] [_] _).trans (.cons _ (List.perm_append_comm_assoc [_, _] [_] _))).symm
    · refine Sm.out ?_
      unfold lyW at hX
      rw [← hCe, if_neg hC] at hX
      subst hX
      obtain rfl : e = C := he.symm
      obtain rfl : S = .done := by rw [← hS]; unfold stX; exact if_neg hC
      obtain rfl : E = some .ret := by rw [← hE]; unfold peX; exact if_neg hC
      first | (have FRx := FR; clear FRx) | have FR := fr0S
      have FA := Sm.mk (TFRfC)
      repeat' first | (apply Sm.mk; refine YsRfC1 ?_) | refine WP.seq fun K hK => ?_ | (apply Ob.mk; exact Yo) | refine And.intro (Ob.out ?_) ?_ | refine Y1RfC ?_ | refine YzRfC ?_ | (refine WP.cond rfl (fun hc => ?_) (fun hc => ?_) <;> (try simp only [ZC, reduceCtorEq, ZD] at hc) <;> (try exact absurd hc (by decide)) <;> (try (exfalso; omega))) | refine Rt.mk (And.intro (fun hg => Sm.out ?_) fun hg => Sm.out ?_) | (refine Nu.mk ?_; first | (fail_if_success have := nb1); intro nb1 | (fail_if_success have := nb2); intro nb2 | (fail_if_success have := nb3); intro nb3 | (fail_if_success have := nb4); intro nb4 | intro nbz) | (apply Yfr; refine Yf FR fun hFRb FR => ?_) | refine Two.mk ?_ ?_ | (apply Yxc; exact Yx) | refine Cs.mk fun hcs => Sm.out ?_ | go_step | omega | (simp only [maxLen_eq]; omega) | exact trivial
      (refine OutQ.drop _ _ (pmz _) (by simp only [resv, ZK, look, loadv, loadn, loadnm, load1, load1m, hget, ↓reduceIte, Nat.reduceEqDiff, Nat.reduceAdd, Nat.reduceMul, Nat.reduceLeDiff, Nat.reduceLT, reduceCtorEq, TFRfC, FR.out]) ⟨⟨z, i, l2, hl2⟩, (by simp only [resv, resA, ZK, look, loadv, loadn, loadnm, load1, load1m, hget, ↓reduceIte, Nat.reduceEqDiff, Nat.reduceAdd, Nat.reduceMul, Nat.reduceLeDiff, Nat.reduceLT, reduceCtorEq, TFRfC, FR.out]; first | done | rfl), rfl⟩)
end Go.Proofs.Yteoajodoejoccaa
