/-
  The walks and the laws that the statement leans on, part 6.
-/
import Derived.Test.YtbnkmhlnoaebcaaZ5
namespace Go.Proofs.Ytbnkmhlnoaebcaa
open Go
set_option linter.unusedVariables false
set_option linter.unusedSimpArgs false
theorem TFRgC : ((((((type_of% tyc0) ∧ ((type_of% tyc2) ∧ (type_of% zmb2))) ∧ (((type_of% tyc3) ∧ (type_of% zmb3)) ∧ ((type_of% tyc4) ∧ (type_of% zmb4)))) ∧ ((((type_of% tyc26) ∧ (type_of% mth26_30)) ∧ ((type_of% mth26_39) ∧ (type_of% mth26_38))) ∧ (((type_of% con26) ∧ (type_of% zmb26)) ∧ ((type_of% tyc32) ∧ (type_of% elt32))))) ∧ (((((type_of% mkz32) ∧ (type_of% mkc32)) ∧ ((type_of% apT32) ∧ (type_of% elk32))) ∧ (((type_of% zmb32) ∧ (type_of% tyc41)) ∧ ((type_of% zmb41) ∧ (type_of% tyc43)))) ∧ ((((type_of% foff43_0) ∧ (type_of% fpart43_0)) ∧ ((type_of% foff43_1) ∧ (type_of% fpart43_1))) ∧ (((type_of% fe43) ∧ (type_of% zmb43)) ∧ ((type_of% bldT43) ∧ (type_of% tyc64)))))) ∧ ((((((type_of% foff64_0) ∧ (type_of% fpart64_0)) ∧ ((type_of% foff64_1) ∧ (type_of% fpart64_1))) ∧ (((type_of% foff64_2) ∧ (type_of% fpart64_2)) ∧ ((type_of% foff64_3) ∧ (type_of% fpart64_3)))) ∧ ((((type_of% foff64_4) ∧ (type_of% fpart64_4)) ∧ ((type_of% zmb64) ∧ (type_of% bldT64))) ∧ (((type_of% tyc65) ∧ (type_of% zmb65)) ∧ ((type_of% tyc84) ∧ (type_of% elt84))))) ∧ (((((type_of% mkz84) ∧ (type_of% mkc84)) ∧ ((type_of% apT84) ∧ (type_of% elk84))) ∧ (((type_of% zmb84) ∧ (type_of% Try.underlying0)) ∧ ((type_of% Try.underlying2) ∧ (type_of% Try.underlying3)))) ∧ ((((type_of% Try.underlying4) ∧ (type_of% Try.underlying26)) ∧ ((type_of% Try.underlying32) ∧ (type_of% Try.underlying41))) ∧ (((type_of% Try.underlying43) ∧ (type_of% Try.underlying64)) ∧ ((type_of% Try.underlying65) ∧ (type_of% Try.underlying84))))))) :=
  ⟨⟨⟨⟨⟨tyc0, ⟨tyc2, zmb2⟩⟩, ⟨⟨tyc3, zmb3⟩, ⟨tyc4, zmb4⟩⟩⟩, ⟨⟨⟨tyc26, mth26_30⟩, ⟨mth26_39, mth26_38⟩⟩, ⟨⟨con26, zmb26⟩, ⟨tyc32, elt32⟩⟩⟩⟩, ⟨⟨⟨⟨mkz32, mkc32⟩, ⟨apT32, elk32⟩⟩, ⟨⟨zmb32, tyc41⟩, ⟨zmb41, tyc43⟩⟩⟩, ⟨⟨⟨foff43_0, fpart43_0⟩, ⟨foff43_1, fpart43_1⟩⟩, ⟨⟨fe43, zmb43⟩, ⟨bldT43, tyc64⟩⟩⟩⟩⟩, ⟨⟨⟨⟨⟨foff64_0, fpart64_0⟩, ⟨foff64_1, fpart64_1⟩⟩, ⟨⟨foff64_2, fpart64_2⟩, ⟨foff64_3, fpart64_3⟩⟩⟩, ⟨⟨⟨foff64_4, fpart64_4⟩, ⟨zmb64, bldT64⟩⟩, ⟨⟨tyc65, zmb65⟩, ⟨tyc84, elt84⟩⟩⟩⟩, ⟨⟨⟨⟨mkz84, mkc84⟩, ⟨apT84, elk84⟩⟩, ⟨⟨zmb84, Try.underlying0⟩, ⟨Try.underlying2, Try.underlying3⟩⟩⟩, ⟨⟨⟨Try.underlying4, Try.underlying26⟩, ⟨Try.underlying32, Try.underlying41⟩⟩, ⟨⟨Try.underlying43, Try.underlying64⟩, ⟨Try.underlying65, Try.underlying84⟩⟩⟩⟩⟩⟩
def lL (k : Nat) (G T : Nat → Nat) : List Int :=
  match k with
  | 0 => []
  | k + 1 => lL k G T ++ [(G k : Int), (T k : Int)]
theorem lL_len (G T : Nat → Nat) : ∀ k, (lL k G T).length = k * 2
  | 0 => rfl
  | k + 1 => by simp [lL, lL_len G T k]; omega
theorem lL_get (G T : Nat → Nat) : ∀ (k j : Nat), j < k → (lL k G T).getD (j * 2) 0 = (G j : Int) ∧ (lL k G T).getD (j * 2 + 1) 0 = (T j : Int)
  | 0, j, h => by omega
  | k + 1, j, h => by
    have hl := lL_len G T k
    by_cases hj : j < k
    · have := lL_get G T k j hj
      simp only [lL, List.getD_eq_getElem?_getD] at this ⊢
      rw [List.getElem?_append_left (by omega), List.getElem?_append_left (by omega)]
      exact this
    · obtain rfl : j = k := by omega
      simp only [lL, List.getD_eq_getElem?_getD]
      rw [List.getElem?_append_right (by omega), List.getElem?_append_right (by omega), hl]
      simp
theorem lL_ext {a b : List Int} {k : Nat} (ha : a.length = k * 2) (hb : b.length = k * 2) (h : ∀ j, j < k → a.getD (j * 2) 0 = b.getD (j * 2) 0 ∧ a.getD (j * 2 + 1) 0 = b.getD (j * 2 + 1) 0) : a = b := by
  apply List.ext_getElem (by omega)
  intro i h1 h2
  have hj := h (i / 2) (by omega)
  have e : a.getD i 0 = b.getD i 0 := by
    rcases Nat.mod_two_eq_zero_or_one i with hm | hm
    · rw [show i = i / 2 * 2 by omega]; exact hj.1
    · rw [show i = i / 2 * 2 + 1 by omega]; exact hj.2
  simpa [List.getD, h1, h2] using e
def upd (G : Nat → Nat) (j x : Nat) : Nat → Nat := fun i => if i = j then x else G i
theorem getD_set {l : List Int} {i j : Nat} {x : Int} (h : i < l.length) : (l.set i x).getD j 0 = if j = i then x else l.getD j 0 := by
  simp only [List.getD_eq_getElem?_getD, List.getElem?_set]
  by_cases hij : i = j
  · subst hij; simp [h]
  · simp [hij, Ne.symm hij]
theorem lL_set0 {G T : Nat → Nat} {k j x : Nat} (h : j < k) : (lL k G T).set (j * 2) (x : Int) = lL k (upd G j x) T := by
  have hl := lL_len G T k
  refine lL_ext (k := k) (by simp [lL_len]) (lL_len _ _ _) fun i hi => ?_
  rw [getD_set (by omega), getD_set (by omega), (lL_get _ _ _ _ hi).1, (lL_get _ _ _ _ hi).2, (lL_get _ _ _ _ hi).1, (lL_get _ _ _ _ hi).2]
  unfold upd
  constructor
  · by_cases hij : i = j
    · subst hij; simp
    · rw [if_neg (by omega), if_neg hij]
  · rw [if_neg (by omega)]
theorem lL_set1 {G T : Nat → Nat} {k j x : Nat} (h : j < k) : (lL k G T).set (j * 2 + 1) (x : Int) = lL k G (upd T j x) := by
  have hl := lL_len G T k
  refine lL_ext (k := k) (by simp [lL_len]) (lL_len _ _ _) fun i hi => ?_
  rw [getD_set (by omega), getD_set (by omega), (lL_get _ _ _ _ hi).1, (lL_get _ _ _ _ hi).2, (lL_get _ _ _ _ hi).1, (lL_get _ _ _ _ hi).2]
  unfold upd
  constructor
  · rw [if_neg (by omega)]
  · by_cases hij : i = j
    · subst hij; simp
    · rw [if_neg (by omega), if_neg hij]
theorem set2_eq {l : List Int} {i : Nat} {x y : Int} (h : i + 2 ≤ l.length) : l.take i ++ ([x, y] ++ l.drop (i + 2)) = (l.set i x).set (i + 1) y := by
  apply List.ext_getElem
  · simp; omega
  · intro n h1 h2
    have hn : n < l.length := by simpa using h2
    have e : ∀ (a b : List Int) (ha : n < a.length) (hb : n < b.length), a.getD n 0 = b.getD n 0 → a[n] = b[n] := fun a b ha hb hh => by simpa [List.getD, ha, hb] using hh
    apply e
    rw [getD_set (by simp; omega), getD_set (by omega)]
    simp only [List.getD_eq_getElem?_getD]
    by_cases c1 : n < i
    · rw [List.getElem?_append_left (by simp; omega), List.getElem?_take_of_lt c1, if_neg (by omega), if_neg (by omega)]
    · rw [List.getElem?_append_right (by simp; omega)]
      have : (l.take i).length = i := by simp; omega
      rw [this]
      by_cases c2 : n = i
      · subst c2; simp
      · by_cases c3 : n = i + 1
        · subst c3; simp
        · rw [if_neg c3, if_neg c2, List.getElem?_append_right (by simp; omega), List.getElem?_drop]
          simp only [List.length_cons, List.length_nil]
          rw [show i + 2 + (n - i - (0 + 1 + 1)) = n by omega]
theorem lL_zero2 {G T : Nat → Nat} {k j : Nat} (h : j < k) : (lL k G T).take (j * 2) ++ ([0, 0] ++ (lL k G T).drop (j * 2 + 2)) = lL k (upd G j 0) (upd T j 0) := by
  have hl := lL_len G T k
  rw [set2_eq (by omega)]
  have e0 : (lL k G T).set (j * 2) 0 = lL k (upd G j 0) T := lL_set0 h
  rw [e0]
  exact lL_set1 h
def sumN (f : Nat → Nat) : Nat → Nat
  | 0 => 0
  | k + 1 => sumN f k + f k
theorem sumN_congr {f g : Nat → Nat} : ∀ {k : Nat}, (∀ j, j < k → f j = g j) → sumN f k = sumN g k
  | 0, _ => rfl
  | k + 1, h => by rw [sumN, sumN, sumN_congr (fun j hj => h j (by omega)), h k (by omega)]
theorem sumN_upd (f : Nat → Nat) {j x : Nat} : ∀ {k : Nat}, j < k → sumN (upd f j x) k + f j = sumN f k + x
  | 0, h => by omega
  | k + 1, h => by
    rw [sumN, sumN]
    by_cases hj : j < k
    · have := sumN_upd f (x := x) hj
      have e : upd f j x k = f k := by unfold upd; rw [if_neg (by omega)]
      rw [e]; omega
    · obtain rfl : j = k := by omega
      have e : sumN (upd f j x) j = sumN f j := sumN_congr fun i hi => by unfold upd; rw [if_neg (by omega)]
      have e2 : upd f j x j = x := by unfold upd; rw [if_pos rfl]
      rw [e, e2]; omega
theorem sumN_ge (f : Nat → Nat) {j : Nat} : ∀ {k : Nat}, j < k → f j ≤ sumN f k
  | 0, h => by omega
  | k + 1, h => by
    rw [sumN]
    by_cases hj : j < k
    · have := sumN_ge f hj; omega
    · obtain rfl : j = k := by omega
      omega
theorem sumN_add (f g : Nat → Nat) : ∀ k, sumN (fun j => f j + g j) k = sumN f k + sumN g k
  | 0 => rfl
  | k + 1 => by simp only [sumN]; rw [sumN_add f g k]; omega
/-- a ring's cells, and its buckets' -/
abbrev rbM (lb w k ne now sg st : Nat) : MB := .cells [iv .i64 w, ms lb 0 k k, iv .i64 ne, iv .i64 now, nu sg, nu st] 6 64
abbrev lbM (k : Nat) (G T : Nat → Nat) : MB := .zs .u64 (lL k G T) (k * 2) 43
theorem at_ct (rb lb w k ne now sg st n : Nat) (hk : 1 ≤ k) (hk2 : k ≤ 60) (hn : n ≤ 9223372036854775807) :
    ACt Try.prog 30 [pt rb 0, iv .i64 n] [(rb, rbM lb w k ne now sg st)] (fun r F' => r = pt lb (n % k * 2) ∧ F' = [(rb, rbM lb w k ne now sg st)]) := by
  refine ACt.intro Try.func30 rfl (by kernel_rfl) (by simp [Try.ntmps30]) (fun cx => ?_)
  simp only [argE, Try.ntmps30, Try.results30]
  have n1 : ¬ (k : Int) = 0 := by omega
  have hm := Nat.mod_lt n (show k > 0 by omega)
  obtain ⟨M, hM⟩ : ∃ M, M = n % k := ⟨_, rfl⟩
  rw [← hM] at hm ⊢
  have e3 : (n : Int).tmod (k : Int) = (M : Int) := by rw [hM, Int.tmod_eq_emod_of_nonneg (by omega)]; simp
  have e4 : IntKind.i64.wrap (M : Int) = (M : Int) := wrap_i64_nat (by omega)
  first | (have FRx := FR; clear FRx) | (have FR : ¬ ((1 : Nat) = 0) := Nat.one_ne_zero)
  repeat' first
    | (refine Sm.mk ?_; try simp -dsimp only [ZK, rvc, drawF, headN, pureH, stp, dvc, calleeOf, gcall, pev, eff, newB, okd, og, ogs, ogo, ogp, slv, bltv, opd, litv, strip, one, both, putE, St.put, look, gdOf, gdv, picka, pickv, pickw, binv, bini, bins, binb, binp, bina, shp, eqCells, unv, convv, nilv, faddv, addp, idxav, idxp, load1, load1m, loadn, loadnm, loadv, hget, hset, hrep, hdel, slicev, bnd, shift1, lenv, IntKind.bits, extractv, fieldv, indexv, min2v, max2v, mkiv, cellsA, fillA, buildv, stC, oneC, rowMB, intsA, plN, appE, appZ, appC, appNZ, appNC, VwL, srcC, srcZ, srcM, isBoolT, isPtrT, isSliceT, uOk, Value.oneCell', Nat.reducePow, Int.reducePow, Nat.reduceAdd, Nat.reduceMul, Nat.reduceSub, Nat.reduceLT, Nat.reduceLeDiff, Nat.reduceEqDiff, Nat.reduceBEq, Nat.reduceDiv, Nat.reduceMod, ↓reduceIte, reduceCtorEq, Int.reduceToNat, Int.reduceLT, Int.reduceLE, TFRgC, SeqQ, BlkQ, LoopQ, BodyQ, n1, e3, e4, FR])
    | (refine WP.seq fun K hK => ?_)
    | (refine WP.region (rvc_sound _ _ (Sm.out ?_)))
    | (refine WP.drawK rfl mixed (by decide +kernel) (Sm.out ?_))
    | (refine Ob.mk ?_; focus (first | assumption | omega | decide | trivial | (intro hob; simp only [hob, ZF]; done) | (intros; (repeat' refine And.intro ?_ ?_) <;> first | assumption | omega | trivial | decide) | (intros; simp only [ZE] at *; (repeat' refine And.intro ?_ ?_) <;> first | assumption | omega | trivial)))
    | (refine And.intro (Ob.out ?_) ?_)
    | (refine WP.block ?_)
    | (refine WP.cond rfl (fun hc => ?_) (fun hc => ?_) <;> (try simp only [ZC, reduceCtorEq, ZD] at hc) <;> (try (exact absurd hc (by decide))) <;> (try (exfalso; omega)))
    | ((first | refine WP.skip ?_ | refine WP.exit ?_); simp only [SeqQ, BlkQ, LoopQ, BodyQ, ↓reduceIte, Nat.reduceEqDiff, reduceCtorEq, look, true_and])
    | (refine WP.ret (Sm.out ?_))
    | (first | refine ExG.no (Sm.out ?_) | refine Or.inl (ExG.no (Sm.out ?_)) | refine Or.inl (And.intro (fun hg => absurd hg (by decide)) (ExG.no (Sm.out ?_))))
    | (refine Rt.mk ?_; refine And.intro ?_ ?_ <;> (intro hg; first | exact absurd hg (by decide) | refine Sm.out ?_))
    | (refine Nu.mk ?_; first | (fail_if_success (have := nb1)); intro nb1 | (fail_if_success (have := nb2)); intro nb2 | (fail_if_success (have := nb3)); intro nb3 | intro nbz)
    | (refine Fr.mk ?_; intro hfr; replace FR := And.intro hfr FR; clear hfr; refine Sm.out ?_)
    | (refine Two.mk ?_ ?_)
    | (refine Cs.mk ?_; intro hcs; first | exact False.elim hcs | (exfalso; omega) | (refine Sm.out ?_))
    | go_step
    | omega
    | (simp only [maxLen_eq]; omega)
  (refine OutQ.upd (by simp only [resv, ZK, look, loadv, loadn, loadnm, load1, load1m, hget, ↓reduceIte, Nat.reduceEqDiff, Nat.reduceAdd, Nat.reduceMul, Nat.reduceLeDiff, Nat.reduceLT, reduceCtorEq, TFRgC, FR]) (by simp only [resv, resA, ZK, look, loadv, loadn, loadnm, load1, load1m, hget, ↓reduceIte, Nat.reduceEqDiff, Nat.reduceAdd, Nat.reduceMul, Nat.reduceLeDiff, Nat.reduceLT, reduceCtorEq, TFRgC, FR]; first | done | rfl) (by simp only [hget, ↓reduceIte, if_true, if_false, FR]; first | done | rfl) ?_ <;> first | exact rfl | (simp only [ZK, look, loadv, loadn, loadnm, load1, load1m, hget, ↓reduceIte, Nat.reduceEqDiff, Nat.reduceAdd, Nat.reduceMul, Nat.reduceLeDiff, Nat.reduceLT, reduceCtorEq, TFRgC, FR]; done) | skip)
theorem room_ct (rb lb w k ne now sg st g t : Nat) (hst : st ≤ 9223372036854775807) :
    ACt Try.prog 38 [pt rb 0, cnt g t] [(rb, rbM lb w k ne now sg st)] (fun r F' => r = bv (decide (st + t ≤ 9223372036854775807)) ∧ F' = [(rb, rbM lb w k ne now sg st)]) := by
  refine ACt.intro Try.func38 rfl (by kernel_rfl) (by simp [Try.ntmps38]) (fun cx => ?_)
  simp only [argE, Try.ntmps38, Try.results38]
  by_cases h : t ≤ 9223372036854775807
  · have e1 : decide ((t : Int) ≤ 9223372036854775807) = true := by simp; omega
    have e2 : IntKind.u64.wrap (9223372036854775807 - (t : Int)) = 9223372036854775807 - (t : Int) := wrap_u64 (by omega) (by omega)
    have e3 : decide ((st : Int) ≤ 9223372036854775807 - (t : Int)) = decide (st + t ≤ 9223372036854775807) := by rw [Bool.eq_iff_iff]; simp; omega
    first | (have FRx := FR; clear FRx) | (have FR : ¬ ((1 : Nat) = 0) := Nat.one_ne_zero)
    repeat' first
      | (refine Sm.mk ?_; try simp -dsimp only [ZK, rvc, drawF, headN, pureH, stp, dvc, calleeOf, gcall, pev, eff, newB, okd, og, ogs, ogo, ogp, slv, bltv, opd, litv, strip, one, both, putE, St.put, look, gdOf, gdv, picka, pickv, pickw, binv, bini, bins, binb, binp, bina, shp, eqCells, unv, convv, nilv, faddv, addp, idxav, idxp, load1, load1m, loadn, loadnm, loadv, hget, hset, hrep, hdel, slicev, bnd, shift1, lenv, IntKind.bits, extractv, fieldv, indexv, min2v, max2v, mkiv, cellsA, fillA, buildv, stC, oneC, rowMB, intsA, plN, appE, appZ, appC, appNZ, appNC, VwL, srcC, srcZ, srcM, isBoolT, isPtrT, isSliceT, uOk, Value.oneCell', Nat.reducePow, Int.reducePow, Nat.reduceAdd, Nat.reduceMul, Nat.reduceSub, Nat.reduceLT, Nat.reduceLeDiff, Nat.reduceEqDiff, Nat.reduceBEq, Nat.reduceDiv, Nat.reduceMod, ↓reduceIte, reduceCtorEq, Int.reduceToNat, Int.reduceLT, Int.reduceLE, TFRgC, SeqQ, BlkQ, LoopQ, BodyQ, e1, e2, e3, FR])
      | (refine WP.seq fun K hK => ?_)
      | (refine WP.region (rvc_sound _ _ (Sm.out ?_)))
      | (refine WP.drawK rfl mixed (by decide +kernel) (Sm.out ?_))
      | (refine Ob.mk ?_; focus (first | assumption | omega | decide | trivial | (intro hob; simp only [hob, ZF]; done) | (intros; (repeat' refine And.intro ?_ ?_) <;> first | assumption | omega | trivial | decide) | (intros; simp only [ZE] at *; (repeat' refine And.intro ?_ ?_) <;> first | assumption | omega | trivial)))
      | (refine And.intro (Ob.out ?_) ?_)
      | (refine WP.block ?_)
      | (refine WP.cond rfl (fun hc => ?_) (fun hc => ?_) <;> (try simp only [ZC, reduceCtorEq, ZD] at hc) <;> (try (exact absurd hc (by decide))) <;> (try (exfalso; omega)))
      | ((first | refine WP.skip ?_ | refine WP.exit ?_); simp only [SeqQ, BlkQ, LoopQ, BodyQ, ↓reduceIte, Nat.reduceEqDiff, reduceCtorEq, look, true_and])
      | (refine WP.ret (Sm.out ?_))
      | (first | refine ExG.no (Sm.out ?_) | refine Or.inl (ExG.no (Sm.out ?_)) | refine Or.inl (And.intro (fun hg => absurd hg (by decide)) (ExG.no (Sm.out ?_))))
      | (refine Rt.mk ?_; refine And.intro ?_ ?_ <;> (intro hg; first | exact absurd hg (by decide) | refine Sm.out ?_))
      | (refine Nu.mk ?_; first | (fail_if_success (have := nb1)); intro nb1 | (fail_if_success (have := nb2)); intro nb2 | (fail_if_success (have := nb3)); intro nb3 | intro nbz)
      | (refine Fr.mk ?_; intro hfr; replace FR := And.intro hfr FR; clear hfr; refine Sm.out ?_)
      | (refine Two.mk ?_ ?_)
      | (refine Cs.mk ?_; intro hcs; first | exact False.elim hcs | (exfalso; omega) | (refine Sm.out ?_))
      | go_step
      | omega
      | (simp only [maxLen_eq]; omega)
    (refine OutQ.upd (by simp only [resv, ZK, look, loadv, loadn, loadnm, load1, load1m, hget, ↓reduceIte, Nat.reduceEqDiff, Nat.reduceAdd, Nat.reduceMul, Nat.reduceLeDiff, Nat.reduceLT, reduceCtorEq, TFRgC, FR]) (by simp only [resv, resA, ZK, look, loadv, loadn, loadnm, load1, load1m, hget, ↓reduceIte, Nat.reduceEqDiff, Nat.reduceAdd, Nat.reduceMul, Nat.reduceLeDiff, Nat.reduceLT, reduceCtorEq, TFRgC, FR]; first | done | rfl) (by simp only [hget, ↓reduceIte, if_true, if_false, FR]; first | done | rfl) ?_ <;> first | exact rfl | (simp only [ZK, look, loadv, loadn, loadnm, load1, load1m, hget, ↓reduceIte, Nat.reduceEqDiff, Nat.reduceAdd, Nat.reduceMul, Nat.reduceLeDiff, Nat.reduceLT, reduceCtorEq, TFRgC, FR]; done) | skip)
  · have e1 : decide ((t : Int) ≤ 9223372036854775807) = false := by simp; omega
    rw [decide_eq_false (show ¬ st + t ≤ 9223372036854775807 by omega)]
    first | (have FRx := FR; clear FRx) | (have FR : ¬ ((1 : Nat) = 0) := Nat.one_ne_zero)
    repeat' first
      | (refine Sm.mk ?_; try simp -dsimp only [ZK, rvc, drawF, headN, pureH, stp, dvc, calleeOf, gcall, pev, eff, newB, okd, og, ogs, ogo, ogp, slv, bltv, opd, litv, strip, one, both, putE, St.put, look, gdOf, gdv, picka, pickv, pickw, binv, bini, bins, binb, binp, bina, shp, eqCells, unv, convv, nilv, faddv, addp, idxav, idxp, load1, load1m, loadn, loadnm, loadv, hget, hset, hrep, hdel, slicev, bnd, shift1, lenv, IntKind.bits, extractv, fieldv, indexv, min2v, max2v, mkiv, cellsA, fillA, buildv, stC, oneC, rowMB, intsA, plN, appE, appZ, appC, appNZ, appNC, VwL, srcC, srcZ, srcM, isBoolT, isPtrT, isSliceT, uOk, Value.oneCell', Nat.reducePow, Int.reducePow, Nat.reduceAdd, Nat.reduceMul, Nat.reduceSub, Nat.reduceLT, Nat.reduceLeDiff, Nat.reduceEqDiff, Nat.reduceBEq, Nat.reduceDiv, Nat.reduceMod, ↓reduceIte, reduceCtorEq, Int.reduceToNat, Int.reduceLT, Int.reduceLE, TFRgC, SeqQ, BlkQ, LoopQ, BodyQ, e1, FR])
      | (refine WP.seq fun K hK => ?_)
      | (refine WP.region (rvc_sound _ _ (Sm.out ?_)))
      | (refine WP.drawK rfl mixed (by decide +kernel) (Sm.out ?_))
      | (refine Ob.mk ?_; focus (first | assumption | omega | decide | trivial | (intro hob; simp only [hob, ZF]; done) | (intros; (repeat' refine And.intro ?_ ?_) <;> first | assumption | omega | trivial | decide) | (intros; simp only [ZE] at *; (repeat' refine And.intro ?_ ?_) <;> first | assumption | omega | trivial)))
      | (refine And.intro (Ob.out ?_) ?_)
      | (refine WP.block ?_)
      | (refine WP.cond rfl (fun hc => ?_) (fun hc => ?_) <;> (try simp only [ZC, reduceCtorEq, ZD] at hc) <;> (try (exact absurd hc (by decide))) <;> (try (exfalso; omega)))
      | ((first | refine WP.skip ?_ | refine WP.exit ?_); simp only [SeqQ, BlkQ, LoopQ, BodyQ, ↓reduceIte, Nat.reduceEqDiff, reduceCtorEq, look, true_and])
      | (refine WP.ret (Sm.out ?_))
      | (first | refine ExG.no (Sm.out ?_) | refine Or.inl (ExG.no (Sm.out ?_)) | refine Or.inl (And.intro (fun hg => absurd hg (by decide)) (ExG.no (Sm.out ?_))))
      | (refine Rt.mk ?_; refine And.intro ?_ ?_ <;> (intro hg; first | exact absurd hg (by decide) | refine Sm.out ?_))
      | (refine Nu.mk ?_; first | (fail_if_success (have := nb1)); intro nb1 | (fail_if_success (have := nb2)); intro nb2 | (fail_if_success (have := nb3)); intro nb3 | intro nbz)
      | (refine Fr.mk ?_; intro hfr; replace FR := And.intro hfr FR; clear hfr; refine Sm.out ?_)
      | (refine Two.mk ?_ ?_)
      | (refine Cs.mk ?_; intro hcs; first | exact False.elim hcs | (exfalso; omega) | (refine Sm.out ?_))
      | go_step
      | omega
      | (simp only [maxLen_eq]; omega)
    (refine OutQ.upd (by simp only [resv, ZK, look, loadv, loadn, loadnm, load1, load1m, hget, ↓reduceIte, Nat.reduceEqDiff, Nat.reduceAdd, Nat.reduceMul, Nat.reduceLeDiff, Nat.reduceLT, reduceCtorEq, TFRgC, FR]) (by simp only [resv, resA, ZK, look, loadv, loadn, loadnm, load1, load1m, hget, ↓reduceIte, Nat.reduceEqDiff, Nat.reduceAdd, Nat.reduceMul, Nat.reduceLeDiff, Nat.reduceLT, reduceCtorEq, TFRgC, FR]; first | done | rfl) (by simp only [hget, ↓reduceIte, if_true, if_false, FR]; first | done | rfl) ?_ <;> first | exact rfl | (simp only [ZK, look, loadv, loadn, loadnm, load1, load1m, hget, ↓reduceIte, Nat.reduceEqDiff, Nat.reduceAdd, Nat.reduceMul, Nat.reduceLeDiff, Nat.reduceLT, reduceCtorEq, TFRgC, FR]; done) | skip)
theorem sum_ct (rb lb w k ne now sg st : Nat) : ACt Try.prog 17 [pt rb 0] [(rb, rbM lb w k ne now sg st)] (fun r F' => r = cnt sg st ∧ F' = [(rb, rbM lb w k ne now sg st)]) := by
  refine ACt.intro Try.func17 rfl (by kernel_rfl) (by simp [Try.ntmps17]) (fun cx => ?_)
  simp only [argE, Try.ntmps17, Try.results17]
  first | (have FRx := FR; clear FRx) | (have FR : ¬ ((1 : Nat) = 0) := Nat.one_ne_zero)
  repeat' first
    | (refine Sm.mk ?_; try simp -dsimp only [ZK, rvc, drawF, headN, pureH, stp, dvc, calleeOf, gcall, pev, eff, newB, okd, og, ogs, ogo, ogp, slv, bltv, opd, litv, strip, one, both, putE, St.put, look, gdOf, gdv, picka, pickv, pickw, binv, bini, bins, binb, binp, bina, shp, eqCells, unv, convv, nilv, faddv, addp, idxav, idxp, load1, load1m, loadn, loadnm, loadv, hget, hset, hrep, hdel, slicev, bnd, shift1, lenv, IntKind.bits, extractv, fieldv, indexv, min2v, max2v, mkiv, cellsA, fillA, buildv, stC, oneC, rowMB, intsA, plN, appE, appZ, appC, appNZ, appNC, VwL, srcC, srcZ, srcM, isBoolT, isPtrT, isSliceT, uOk, Value.oneCell', Nat.reducePow, Int.reducePow, Nat.reduceAdd, Nat.reduceMul, Nat.reduceSub, Nat.reduceLT, Nat.reduceLeDiff, Nat.reduceEqDiff, Nat.reduceBEq, Nat.reduceDiv, Nat.reduceMod, ↓reduceIte, reduceCtorEq, Int.reduceToNat, Int.reduceLT, Int.reduceLE, TFRgC, SeqQ, BlkQ, LoopQ, BodyQ, FR])
    | (refine WP.seq fun K hK => ?_)
    | (refine WP.region (rvc_sound _ _ (Sm.out ?_)))
    | (refine WP.drawK rfl mixed (by decide +kernel) (Sm.out ?_))
    | (refine Ob.mk ?_; focus (first | assumption | omega | decide | trivial | (intro hob; simp only [hob, ZF]; done) | (intros; (repeat' refine And.intro ?_ ?_) <;> first | assumption | omega | trivial | decide) | (intros; simp only [ZE] at *; (repeat' refine And.intro ?_ ?_) <;> first | assumption | omega | trivial)))
    | (refine And.intro (Ob.out ?_) ?_)
    | (refine WP.block ?_)
    | (refine WP.cond rfl (fun hc => ?_) (fun hc => ?_) <;> (try simp only [ZC, reduceCtorEq, ZD] at hc) <;> (try (exact absurd hc (by decide))) <;> (try (exfalso; omega)))
    | ((first | refine WP.skip ?_ | refine WP.exit ?_); simp only [SeqQ, BlkQ, LoopQ, BodyQ, ↓reduceIte, Nat.reduceEqDiff, reduceCtorEq, look, true_and])
    | (refine WP.ret (Sm.out ?_))
    | (first | refine ExG.no (Sm.out ?_) | refine Or.inl (ExG.no (Sm.out ?_)) | refine Or.inl (And.intro (fun hg => absurd hg (by decide)) (ExG.no (Sm.out ?_))))
    | (refine Rt.mk ?_; refine And.intro ?_ ?_ <;> (intro hg; first | exact absurd hg (by decide) | refine Sm.out ?_))
    | (refine Nu.mk ?_; first | (fail_if_success (have := nb1)); intro nb1 | (fail_if_success (have := nb2)); intro nb2 | (fail_if_success (have := nb3)); intro nb3 | intro nbz)
    | (refine Fr.mk ?_; intro hfr; replace FR := And.intro hfr FR; clear hfr; refine Sm.out ?_)
    | (refine Two.mk ?_ ?_)
    | (refine Cs.mk ?_; intro hcs; first | exact False.elim hcs | (exfalso; omega) | (refine Sm.out ?_))
    | go_step
    | omega
    | (simp only [maxLen_eq]; omega)
  (refine OutQ.upd (by simp only [resv, ZK, look, loadv, loadn, loadnm, load1, load1m, hget, ↓reduceIte, Nat.reduceEqDiff, Nat.reduceAdd, Nat.reduceMul, Nat.reduceLeDiff, Nat.reduceLT, reduceCtorEq, TFRgC, FR]) (by simp only [resv, resA, ZK, look, loadv, loadn, loadnm, load1, load1m, hget, ↓reduceIte, Nat.reduceEqDiff, Nat.reduceAdd, Nat.reduceMul, Nat.reduceLeDiff, Nat.reduceLT, reduceCtorEq, TFRgC, FR]; first | done | rfl) (by simp only [hget, ↓reduceIte, if_true, if_false, FR]; first | done | rfl) ?_ <;> first | exact rfl | (simp only [ZK, look, loadv, loadn, loadnm, load1, load1m, hget, ↓reduceIte, Nat.reduceEqDiff, Nat.reduceAdd, Nat.reduceMul, Nat.reduceLeDiff, Nat.reduceLT, reduceCtorEq, TFRgC, FR]; done) | skip)
theorem now_ct (rb lb w k ne now sg st : Nat) : ACt Try.prog 13 [pt rb 0] [(rb, rbM lb w k ne now sg st)] (fun r F' => r = iv .i64 now ∧ F' = [(rb, rbM lb w k ne now sg st)]) := by
  refine ACt.intro Try.func13 rfl (by kernel_rfl) (by simp [Try.ntmps13]) (fun cx => ?_)
  simp only [argE, Try.ntmps13, Try.results13]
  first | (have FRx := FR; clear FRx) | (have FR : ¬ ((1 : Nat) = 0) := Nat.one_ne_zero)
  repeat' first
    | (refine Sm.mk ?_; try simp -dsimp only [ZK, rvc, drawF, headN, pureH, stp, dvc, calleeOf, gcall, pev, eff, newB, okd, og, ogs, ogo, ogp, slv, bltv, opd, litv, strip, one, both, putE, St.put, look, gdOf, gdv, picka, pickv, pickw, binv, bini, bins, binb, binp, bina, shp, eqCells, unv, convv, nilv, faddv, addp, idxav, idxp, load1, load1m, loadn, loadnm, loadv, hget, hset, hrep, hdel, slicev, bnd, shift1, lenv, IntKind.bits, extractv, fieldv, indexv, min2v, max2v, mkiv, cellsA, fillA, buildv, stC, oneC, rowMB, intsA, plN, appE, appZ, appC, appNZ, appNC, VwL, srcC, srcZ, srcM, isBoolT, isPtrT, isSliceT, uOk, Value.oneCell', Nat.reducePow, Int.reducePow, Nat.reduceAdd, Nat.reduceMul, Nat.reduceSub, Nat.reduceLT, Nat.reduceLeDiff, Nat.reduceEqDiff, Nat.reduceBEq, Nat.reduceDiv, Nat.reduceMod, ↓reduceIte, reduceCtorEq, Int.reduceToNat, Int.reduceLT, Int.reduceLE, TFRgC, SeqQ, BlkQ, LoopQ, BodyQ, FR])
    | (refine WP.seq fun K hK => ?_)
    | (refine WP.region (rvc_sound _ _ (Sm.out ?_)))
    | (refine WP.drawK rfl mixed (by decide +kernel) (Sm.out ?_))
    | (refine Ob.mk ?_; focus (first | assumption | omega | decide | trivial | (intro hob; simp only [hob, ZF]; done) | (intros; (repeat' refine And.intro ?_ ?_) <;> first | assumption | omega | trivial | decide) | (intros; simp only [ZE] at *; (repeat' refine And.intro ?_ ?_) <;> first | assumption | omega | trivial)))
    | (refine And.intro (Ob.out ?_) ?_)
    | (refine WP.block ?_)
    | (refine WP.cond rfl (fun hc => ?_) (fun hc => ?_) <;> (try simp only [ZC, reduceCtorEq, ZD] at hc) <;> (try (exact absurd hc (by decide))) <;> (try (exfalso; omega)))
    | ((first | refine WP.skip ?_ | refine WP.exit ?_); simp only [SeqQ, BlkQ, LoopQ, BodyQ, ↓reduceIte, Nat.reduceEqDiff, reduceCtorEq, look, true_and])
    | (refine WP.ret (Sm.out ?_))
    | (first | refine ExG.no (Sm.out ?_) | refine Or.inl (ExG.no (Sm.out ?_)) | refine Or.inl (And.intro (fun hg => absurd hg (by decide)) (ExG.no (Sm.out ?_))))
    | (refine Rt.mk ?_; refine And.intro ?_ ?_ <;> (intro hg; first | exact absurd hg (by decide) | refine Sm.out ?_))
    | (refine Nu.mk ?_; first | (fail_if_success (have := nb1)); intro nb1 | (fail_if_success (have := nb2)); intro nb2 | (fail_if_success (have := nb3)); intro nb3 | intro nbz)
    | (refine Fr.mk ?_; intro hfr; replace FR := And.intro hfr FR; clear hfr; refine Sm.out ?_)
    | (refine Two.mk ?_ ?_)
    | (refine Cs.mk ?_; intro hcs; first | exact False.elim hcs | (exfalso; omega) | (refine Sm.out ?_))
    | go_step
    | omega
    | (simp only [maxLen_eq]; omega)
  (refine OutQ.upd (by simp only [resv, ZK, look, loadv, loadn, loadnm, load1, load1m, hget, ↓reduceIte, Nat.reduceEqDiff, Nat.reduceAdd, Nat.reduceMul, Nat.reduceLeDiff, Nat.reduceLT, reduceCtorEq, TFRgC, FR]) (by simp only [resv, resA, ZK, look, loadv, loadn, loadnm, load1, load1m, hget, ↓reduceIte, Nat.reduceEqDiff, Nat.reduceAdd, Nat.reduceMul, Nat.reduceLeDiff, Nat.reduceLT, reduceCtorEq, TFRgC, FR]; first | done | rfl) (by simp only [hget, ↓reduceIte, if_true, if_false, FR]; first | done | rfl) ?_ <;> first | exact rfl | (simp only [ZK, look, loadv, loadn, loadnm, load1, load1m, hget, ↓reduceIte, Nat.reduceEqDiff, Nat.reduceAdd, Nat.reduceMul, Nat.reduceLeDiff, Nat.reduceLT, reduceCtorEq, TFRgC, FR]; done) | skip)
end Go.Proofs.Ytbnkmhlnoaebcaa
namespace Go.Proofs.Ytbnkmhlnoaebcaa
open Go
set_option linter.unusedVariables false
set_option linter.unusedSimpArgs false
theorem TFRgD : (((((((type_of% tyc0) ∧ (type_of% tyc2)) ∧ ((type_of% zmb2) ∧ (type_of% tyc3))) ∧ (((type_of% zmb3) ∧ (type_of% tyc4)) ∧ ((type_of% zmb4) ∧ (type_of% tyc23)))) ∧ ((((type_of% zmb23) ∧ (type_of% tyc26)) ∧ ((type_of% mth26_30) ∧ (type_of% mth26_39))) ∧ (((type_of% mth26_38) ∧ (type_of% con26)) ∧ ((type_of% zmb26) ∧ (type_of% tyc32))))) ∧ (((((type_of% elt32) ∧ (type_of% mkz32)) ∧ ((type_of% mkc32) ∧ (type_of% apT32))) ∧ (((type_of% elk32) ∧ (type_of% zmb32)) ∧ ((type_of% tyc41) ∧ (type_of% zmb41)))) ∧ ((((type_of% tyc43) ∧ (type_of% foff43_0)) ∧ ((type_of% fpart43_0) ∧ (type_of% foff43_1))) ∧ (((type_of% fpart43_1) ∧ (type_of% fe43)) ∧ ((type_of% zmb43) ∧ ((type_of% bldT43) ∧ (type_of% tyc64))))))) ∧ ((((((type_of% foff64_0) ∧ (type_of% fpart64_0)) ∧ ((type_of% foff64_1) ∧ (type_of% fpart64_1))) ∧ (((type_of% foff64_2) ∧ (type_of% fpart64_2)) ∧ ((type_of% foff64_3) ∧ (type_of% fpart64_3)))) ∧ ((((type_of% foff64_4) ∧ (type_of% fpart64_4)) ∧ ((type_of% zmb64) ∧ (type_of% bldT64))) ∧ (((type_of% tyc65) ∧ (type_of% zmb65)) ∧ ((type_of% tyc84) ∧ (type_of% elt84))))) ∧ (((((type_of% mkz84) ∧ (type_of% mkc84)) ∧ ((type_of% apT84) ∧ (type_of% elk84))) ∧ (((type_of% zmb84) ∧ (type_of% Try.underlying0)) ∧ ((type_of% Try.underlying2) ∧ (type_of% Try.underlying3)))) ∧ ((((type_of% Try.underlying4) ∧ (type_of% Try.underlying23)) ∧ ((type_of% Try.underlying26) ∧ (type_of% Try.underlying32))) ∧ (((type_of% Try.underlying41) ∧ (type_of% Try.underlying43)) ∧ ((type_of% Try.underlying64) ∧ ((type_of% Try.underlying65) ∧ (type_of% Try.underlying84)))))))) :=
  ⟨⟨⟨⟨⟨⟨tyc0, tyc2⟩, ⟨zmb2, tyc3⟩⟩, ⟨⟨zmb3, tyc4⟩, ⟨zmb4, tyc23⟩⟩⟩, ⟨⟨⟨zmb23, tyc26⟩, ⟨mth26_30, mth26_39⟩⟩, ⟨⟨mth26_38, con26⟩, ⟨zmb26, tyc32⟩⟩⟩⟩, ⟨⟨⟨⟨elt32, mkz32⟩, ⟨mkc32, apT32⟩⟩, ⟨⟨elk32, zmb32⟩, ⟨tyc41, zmb41⟩⟩⟩, ⟨⟨⟨tyc43, foff43_0⟩, ⟨fpart43_0, foff43_1⟩⟩, ⟨⟨fpart43_1, fe43⟩, ⟨zmb43, ⟨bldT43, tyc64⟩⟩⟩⟩⟩⟩, ⟨⟨⟨⟨⟨foff64_0, fpart64_0⟩, ⟨foff64_1, fpart64_1⟩⟩, ⟨⟨foff64_2, fpart64_2⟩, ⟨foff64_3, fpart64_3⟩⟩⟩, ⟨⟨⟨foff64_4, fpart64_4⟩, ⟨zmb64, bldT64⟩⟩, ⟨⟨tyc65, zmb65⟩, ⟨tyc84, elt84⟩⟩⟩⟩, ⟨⟨⟨⟨mkz84, mkc84⟩, ⟨apT84, elk84⟩⟩, ⟨⟨zmb84, Try.underlying0⟩, ⟨Try.underlying2, Try.underlying3⟩⟩⟩, ⟨⟨⟨Try.underlying4, Try.underlying23⟩, ⟨Try.underlying26, Try.underlying32⟩⟩, ⟨⟨Try.underlying41, Try.underlying43⟩, ⟨Try.underlying64, ⟨Try.underlying65, Try.underlying84⟩⟩⟩⟩⟩⟩⟩
structure IG where
  i : Nat
/-- a ring's block, and its buckets', so far -/
def rbI (lb w k ne now sg st g t i : Nat) : MB := if i = 2 then rbM lb w k ne now (sg + g) (st + t) else rbM lb w k ne now sg st
def lbI (k : Nat) (G T : Nat → Nat) (j g t i : Nat) : MB := if i = 0 then lbM k G T else lbM k (upd G j (G j + g)) (upd T j (T j + t))
set_option maxRecDepth 8000 in
set_option maxHeartbeats 2000000 in
theorem grow_ct (rb lb w k ne now sg st j g t : Nat) (G T : Nat → Nat) (hne : rb ≠ lb ∧ lb ≠ rb) (hj : j < k) (hk : k ≤ 60) (h1 : G j + g < 18446744073709551616) (h2 : T j + t < 18446744073709551616) (h3 : sg + g < 18446744073709551616) (h4 : st + t < 18446744073709551616) :
    ACt Try.prog 39 [pt rb 0, pt lb (j * 2), cnt g t] [(rb, rbM lb w k ne now sg st), (lb, lbM k G T)]
      (fun r F' => r = .tup [] ∧ F' = [(rb, rbM lb w k ne now (sg + g) (st + t)), (lb, lbM k (upd G j (G j + g)) (upd T j (T j + t)))]) := by
  refine ACt.intro Try.func39 rfl (by kernel_rfl) (by simp [Try.ntmps39]) (fun cx => ?_)
  simp only [argE, Try.ntmps39, Try.results39]
  have hl0 := lL_len G T k
  have hg0 := (lL_get G T k j hj).1
  have hg1 := (lL_get G T k j hj).2
  first | (have FRx := FR; clear FRx) | (have FR : ¬ ((1 : Nat) = 0) := Nat.one_ne_zero)
  repeat' first
    | (refine Sm.mk ?_; try simp -dsimp only [ZK, rvc, drawF, headN, pureH, stp, dvc, calleeOf, gcall, pev, eff, newB, okd, og, ogs, ogo, ogp, slv, bltv, opd, litv, strip, one, both, putE, St.put, look, gdOf, gdv, picka, pickv, pickw, binv, bini, bins, binb, binp, bina, shp, eqCells, unv, convv, nilv, faddv, addp, idxav, idxp, load1, load1m, loadn, loadnm, loadv, hget, hset, hrep, hdel, slicev, bnd, shift1, lenv, IntKind.bits, extractv, fieldv, indexv, min2v, max2v, mkiv, cellsA, fillA, buildv, stC, oneC, rowMB, intsA, plN, appE, appZ, appC, appNZ, appNC, VwL, srcC, srcZ, srcM, isBoolT, isPtrT, isSliceT, uOk, Value.oneCell', Nat.reducePow, Int.reducePow, Nat.reduceAdd, Nat.reduceMul, Nat.reduceSub, Nat.reduceLT, Nat.reduceLeDiff, Nat.reduceEqDiff, Nat.reduceBEq, Nat.reduceDiv, Nat.reduceMod, ↓reduceIte, reduceCtorEq, Int.reduceToNat, Int.reduceLT, Int.reduceLE, TFRgD, SeqQ, BlkQ, LoopQ, BodyQ, hne, FR])
    | (refine WP.seq fun K hK => ?_)
    | (refine WP.region (rvc_sound _ _ (Sm.out ?_)))
    | (refine WP.drawK rfl mixed (by decide +kernel) (Sm.out ?_))
    | (refine Ob.mk ?_; focus (first | assumption | omega | decide | trivial | (intro hob; simp only [hob, ZF]; done) | (intros; (repeat' refine And.intro ?_ ?_) <;> first | assumption | omega | trivial | decide) | (intros; simp only [ZE] at *; (repeat' refine And.intro ?_ ?_) <;> first | assumption | omega | trivial)))
    | (refine And.intro (Ob.out ?_) ?_)
    | (refine WP.block ?_)
    | (refine WP.cond rfl (fun hc => ?_) (fun hc => ?_) <;> (try simp only [ZC, reduceCtorEq, ZD] at hc) <;> (try (exact absurd hc (by decide))) <;> (try (exfalso; omega)))
    | ((first | refine WP.skip ?_ | refine WP.exit ?_); simp only [SeqQ, BlkQ, LoopQ, BodyQ, ↓reduceIte, Nat.reduceEqDiff, reduceCtorEq, look, true_and])
    | (refine WP.ret (Sm.out ?_))
    | (first | refine ExG.no (Sm.out ?_) | refine Or.inl (ExG.no (Sm.out ?_)) | refine Or.inl (And.intro (fun hg => absurd hg (by decide)) (ExG.no (Sm.out ?_))))
    | (refine Rt.mk ?_; refine And.intro ?_ ?_ <;> (intro hg; first | exact absurd hg (by decide) | refine Sm.out ?_))
    | (refine Nu.mk ?_; first | (fail_if_success (have := nb1)); intro nb1 | (fail_if_success (have := nb2)); intro nb2 | (fail_if_success (have := nb3)); intro nb3 | intro nbz)
    | (refine Fr.mk ?_; intro hfr; replace FR := And.intro hfr FR; clear hfr; refine Sm.out ?_)
    | (refine Two.mk ?_ ?_)
    | (refine Cs.mk ?_; intro hcs; first | exact False.elim hcs | (exfalso; omega) | (refine Sm.out ?_))
    | go_step
    | omega
    | (simp only [maxLen_eq]; omega)
  refine WP.loop (Γ := IG) (fun q => ⟨[(14, iv .i64 q.i), (13, iv .i64 2), (12, ms nb2 0 2 2), (5, pt nb1 0)], [(nb1, .cells [nu g, nu t] 2 43), (nb2, .cells [pt lb (j * 2), pt rb 4] 2 65), (rb, rbI lb w k ne now sg st g t q.i), (lb, lbI k G T j g t q.i)]⟩)
    (fun q => q.i ≤ 2) (fun q => 2 - q.i) ⟨0⟩ (by simp) (Sub.pick (by simp [pickB, hget, hdel, FR, rbI, lbI, hne]) (by simp [look, rbI, lbI, hne])) ?_
  intro ⟨i⟩ hi
  simp only at hi ⊢
  (refine WP.nd fun hnd => ?_; simp only [ndF, fresh_cons, fresh_nil, and_true, ne_eq] at hnd; replace FR := And.intro hnd FR; clear hnd)
  have w1 : IntKind.i64.wrap ((i : Int) + 1) = ((i + 1 : Nat) : Int) := by rw [wrap_i64 (by omega) (by omega)]; omega
  have z2 : ((2 : Nat) : Int) = 2 := rfl
  match i, hi with
  | 0, _ =>
    have k1 : decide (((0 : Nat) : Int) < 2) = true := by decide
    have z0 : ((0 : Nat) : Int) = 0 := rfl
    have y1 : IntKind.i64.wrap 1 = 1 := by decide
    have a1 : IntKind.u64.wrap ((G j : Int) + (g : Int)) = ((G j + g : Nat) : Int) := by rw [wrap_u64 (by omega) (by omega)]; omega
    have a2 : IntKind.u64.wrap ((T j : Int) + (t : Int)) = ((T j + t : Nat) : Int) := by rw [wrap_u64 (by omega) (by omega)]; omega
    obtain ⟨G', hG'⟩ : ∃ G', G' = upd G j (G j + g) := ⟨_, rfl⟩
    obtain ⟨T', hT'⟩ : ∃ T', T' = upd T j (T j + t) := ⟨_, rfl⟩
    have s0 : (lL k G T).set (j * 2) ((G j + g : Nat) : Int) = lL k G' T := by rw [hG']; exact lL_set0 hj
    have s1 : (lL k G' T).set (j * 2 + 1) ((T j + t : Nat) : Int) = lL k G' T' := by rw [hT']; exact lL_set1 hj
    have g1' : (lL k G' T).getD (j * 2 + 1) 0 = (T j : Int) := (lL_get _ _ _ _ hj).2
    have e1 : lbI k G T j g t 0 = lbM k G T := rfl
    have e2 : lbI k G T j g t 1 = lbM k G' T' := by rw [hG', hT']; rfl
    have e3 : rbI lb w k ne now sg st g t 1 = rbM lb w k ne now sg st := rfl
    have e4 : rbI lb w k ne now sg st g t 0 = rbM lb w k ne now sg st := rfl
    rw [e1, e4]
    first | (have FRx := FR; clear FRx) | (have FR : ¬ ((1 : Nat) = 0) := Nat.one_ne_zero)
    repeat' first
      | (refine Sm.mk ?_; try simp -dsimp only [ZK, rvc, drawF, headN, pureH, stp, dvc, calleeOf, gcall, pev, eff, newB, okd, og, ogs, ogo, ogp, slv, bltv, opd, litv, strip, one, both, putE, St.put, look, gdOf, gdv, picka, pickv, pickw, binv, bini, bins, binb, binp, bina, shp, eqCells, unv, convv, nilv, faddv, addp, idxav, idxp, load1, load1m, loadn, loadnm, loadv, hget, hset, hrep, hdel, slicev, bnd, shift1, lenv, IntKind.bits, extractv, fieldv, indexv, min2v, max2v, mkiv, cellsA, fillA, buildv, stC, oneC, rowMB, intsA, plN, appE, appZ, appC, appNZ, appNC, VwL, srcC, srcZ, srcM, isBoolT, isPtrT, isSliceT, uOk, Value.oneCell', Nat.reducePow, Int.reducePow, Nat.reduceAdd, Nat.reduceMul, Nat.reduceSub, Nat.reduceLT, Nat.reduceLeDiff, Nat.reduceEqDiff, Nat.reduceBEq, Nat.reduceDiv, Nat.reduceMod, ↓reduceIte, reduceCtorEq, Int.reduceToNat, Int.reduceLT, Int.reduceLE, TFRgD, SeqQ, BlkQ, LoopQ, BodyQ, k1, w1, z0, a1, a2, s0, s1, hg0, g1', lL_len, hne, FR])
      | (refine WP.seq fun K hK => ?_)
      | (refine WP.region (rvc_sound _ _ (Sm.out ?_)))
      | (refine WP.drawK rfl mixed (by decide +kernel) (Sm.out ?_))
      | (refine Ob.mk ?_; focus (first | assumption | omega | decide | trivial | (intro hob; simp only [hob, ZF]; done) | (intros; (repeat' refine And.intro ?_ ?_) <;> first | assumption | omega | trivial | decide) | (intros; simp only [ZE] at *; (repeat' refine And.intro ?_ ?_) <;> first | assumption | omega | trivial)))
      | (refine And.intro (Ob.out ?_) ?_)
      | (refine WP.block ?_)
      | (refine WP.cond rfl (fun hc => ?_) (fun hc => ?_) <;> (try simp only [ZC, reduceCtorEq, ZD] at hc) <;> (try (exact absurd hc (by decide))) <;> (try (exfalso; omega)))
      | ((first | refine WP.skip ?_ | refine WP.exit ?_); simp only [SeqQ, BlkQ, LoopQ, BodyQ, ↓reduceIte, Nat.reduceEqDiff, reduceCtorEq, look, true_and])
      | (refine WP.ret (Sm.out ?_))
      | (first | refine ExG.no (Sm.out ?_) | refine Or.inl (ExG.no (Sm.out ?_)) | refine Or.inl (And.intro (fun hg => absurd hg (by decide)) (ExG.no (Sm.out ?_))))
      | (refine Rt.mk ?_; refine And.intro ?_ ?_ <;> (intro hg; first | exact absurd hg (by decide) | refine Sm.out ?_))
      | (refine Nu.mk ?_; first | (fail_if_success (have := nb1)); intro nb1 | (fail_if_success (have := nb2)); intro nb2 | (fail_if_success (have := nb3)); intro nb3 | intro nbz)
      | (refine Fr.mk ?_; intro hfr; replace FR := And.intro hfr FR; clear hfr; refine Sm.out ?_)
      | (refine Two.mk ?_ ?_)
      | (refine Cs.mk ?_; intro hcs; first | exact False.elim hcs | (exfalso; omega) | (refine Sm.out ?_))
      | go_step
      | omega
      | (simp only [maxLen_eq]; omega)
    exact ⟨⟨1⟩, by simp only; omega, by simp only; omega, (Sub.pick (by simp [pickB, hget, hdel, FR, e2, e3, hne, y1]) (by simp [look, e2, e3, hne, y1]))⟩
  | 1, _ =>
    have k1 : decide (((1 : Nat) : Int) < 2) = true := by decide
    have z1 : ((1 : Nat) : Int) = 1 := rfl
    have y2 : IntKind.i64.wrap 2 = 2 := by decide
    have a1 : IntKind.u64.wrap ((sg : Int) + (g : Int)) = ((sg + g : Nat) : Int) := by rw [wrap_u64 (by omega) (by omega)]; omega
    have a2 : IntKind.u64.wrap ((st : Int) + (t : Int)) = ((st + t : Nat) : Int) := by rw [wrap_u64 (by omega) (by omega)]; omega
    obtain ⟨LB, hLB⟩ : ∃ LB, LB = lbI k G T j g t 1 := ⟨_, rfl⟩
    have hLB2 : lbI k G T j g t 2 = LB := hLB.symm
    have e3 : rbI lb w k ne now sg st g t 1 = rbM lb w k ne now sg st := rfl
    have e4 : rbI lb w k ne now sg st g t 2 = rbM lb w k ne now (sg + g) (st + t) := rfl
    rw [← hLB, e3]
    first | (have FRx := FR; clear FRx) | (have FR : ¬ ((1 : Nat) = 0) := Nat.one_ne_zero)
    repeat' first
      | (refine Sm.mk ?_; try simp -dsimp only [ZK, rvc, drawF, headN, pureH, stp, dvc, calleeOf, gcall, pev, eff, newB, okd, og, ogs, ogo, ogp, slv, bltv, opd, litv, strip, one, both, putE, St.put, look, gdOf, gdv, picka, pickv, pickw, binv, bini, bins, binb, binp, bina, shp, eqCells, unv, convv, nilv, faddv, addp, idxav, idxp, load1, load1m, loadn, loadnm, loadv, hget, hset, hrep, hdel, slicev, bnd, shift1, lenv, IntKind.bits, extractv, fieldv, indexv, min2v, max2v, mkiv, cellsA, fillA, buildv, stC, oneC, rowMB, intsA, plN, appE, appZ, appC, appNZ, appNC, VwL, srcC, srcZ, srcM, isBoolT, isPtrT, isSliceT, uOk, Value.oneCell', Nat.reducePow, Int.reducePow, Nat.reduceAdd, Nat.reduceMul, Nat.reduceSub, Nat.reduceLT, Nat.reduceLeDiff, Nat.reduceEqDiff, Nat.reduceBEq, Nat.reduceDiv, Nat.reduceMod, ↓reduceIte, reduceCtorEq, Int.reduceToNat, Int.reduceLT, Int.reduceLE, TFRgD, SeqQ, BlkQ, LoopQ, BodyQ, k1, w1, z1, a1, a2, hne, FR])
      | (refine WP.seq fun K hK => ?_)
      | (refine WP.region (rvc_sound _ _ (Sm.out ?_)))
      | (refine WP.drawK rfl mixed (by decide +kernel) (Sm.out ?_))
      | (refine Ob.mk ?_; focus (first | assumption | omega | decide | trivial | (intro hob; simp only [hob, ZF]; done) | (intros; (repeat' refine And.intro ?_ ?_) <;> first | assumption | omega | trivial | decide) | (intros; simp only [ZE] at *; (repeat' refine And.intro ?_ ?_) <;> first | assumption | omega | trivial)))
      | (refine And.intro (Ob.out ?_) ?_)
      | (refine WP.block ?_)
      | (refine WP.cond rfl (fun hc => ?_) (fun hc => ?_) <;> (try simp only [ZC, reduceCtorEq, ZD] at hc) <;> (try (exact absurd hc (by decide))) <;> (try (exfalso; omega)))
      | ((first | refine WP.skip ?_ | refine WP.exit ?_); simp only [SeqQ, BlkQ, LoopQ, BodyQ, ↓reduceIte, Nat.reduceEqDiff, reduceCtorEq, look, true_and])
      | (refine WP.ret (Sm.out ?_))
      | (first | refine ExG.no (Sm.out ?_) | refine Or.inl (ExG.no (Sm.out ?_)) | refine Or.inl (And.intro (fun hg => absurd hg (by decide)) (ExG.no (Sm.out ?_))))
      | (refine Rt.mk ?_; refine And.intro ?_ ?_ <;> (intro hg; first | exact absurd hg (by decide) | refine Sm.out ?_))
      | (refine Nu.mk ?_; first | (fail_if_success (have := nb1)); intro nb1 | (fail_if_success (have := nb2)); intro nb2 | (fail_if_success (have := nb3)); intro nb3 | intro nbz)
      | (refine Fr.mk ?_; intro hfr; replace FR := And.intro hfr FR; clear hfr; refine Sm.out ?_)
      | (refine Two.mk ?_ ?_)
      | (refine Cs.mk ?_; intro hcs; first | exact False.elim hcs | (exfalso; omega) | (refine Sm.out ?_))
      | go_step
      | omega
      | (simp only [maxLen_eq]; omega)
    exact ⟨⟨2⟩, by simp only; omega, by simp only; omega, (Sub.pick (by simp [pickB, hget, hdel, FR, hLB2, e4, hne, y2]) (by simp [look, hLB2, e4, hne, y2]))⟩
  | 2, _ =>
    have k1 : decide (((2 : Nat) : Int) < 2) = false := by decide
    obtain ⟨G', hG'⟩ : ∃ G', G' = upd G j (G j + g) := ⟨_, rfl⟩
    obtain ⟨T', hT'⟩ : ∃ T', T' = upd T j (T j + t) := ⟨_, rfl⟩
    have e2 : lbI k G T j g t 2 = lbM k G' T' := by rw [hG', hT']; rfl
    have e4 : rbI lb w k ne now sg st g t 2 = rbM lb w k ne now (sg + g) (st + t) := rfl
    rw [e2, e4]
    first | (have FRx := FR; clear FRx) | (have FR : ¬ ((1 : Nat) = 0) := Nat.one_ne_zero)
    repeat' first
      | (refine Sm.mk ?_; try simp -dsimp only [ZK, rvc, drawF, headN, pureH, stp, dvc, calleeOf, gcall, pev, eff, newB, okd, og, ogs, ogo, ogp, slv, bltv, opd, litv, strip, one, both, putE, St.put, look, gdOf, gdv, picka, pickv, pickw, binv, bini, bins, binb, binp, bina, shp, eqCells, unv, convv, nilv, faddv, addp, idxav, idxp, load1, load1m, loadn, loadnm, loadv, hget, hset, hrep, hdel, slicev, bnd, shift1, lenv, IntKind.bits, extractv, fieldv, indexv, min2v, max2v, mkiv, cellsA, fillA, buildv, stC, oneC, rowMB, intsA, plN, appE, appZ, appC, appNZ, appNC, VwL, srcC, srcZ, srcM, isBoolT, isPtrT, isSliceT, uOk, Value.oneCell', Nat.reducePow, Int.reducePow, Nat.reduceAdd, Nat.reduceMul, Nat.reduceSub, Nat.reduceLT, Nat.reduceLeDiff, Nat.reduceEqDiff, Nat.reduceBEq, Nat.reduceDiv, Nat.reduceMod, ↓reduceIte, reduceCtorEq, Int.reduceToNat, Int.reduceLT, Int.reduceLE, TFRgD, SeqQ, BlkQ, LoopQ, BodyQ, k1, hne, FR])
      | (refine WP.seq fun K hK => ?_)
      | (refine WP.region (rvc_sound _ _ (Sm.out ?_)))
      | (refine WP.drawK rfl mixed (by decide +kernel) (Sm.out ?_))
      | (refine Ob.mk ?_; focus (first | assumption | omega | decide | trivial | (intro hob; simp only [hob, ZF]; done) | (intros; (repeat' refine And.intro ?_ ?_) <;> first | assumption | omega | trivial | decide) | (intros; simp only [ZE] at *; (repeat' refine And.intro ?_ ?_) <;> first | assumption | omega | trivial)))
      | (refine And.intro (Ob.out ?_) ?_)
      | (refine WP.block ?_)
      | (refine WP.cond rfl (fun hc => ?_) (fun hc => ?_) <;> (try simp only [ZC, reduceCtorEq, ZD] at hc) <;> (try (exact absurd hc (by decide))) <;> (try (exfalso; omega)))
      | ((first | refine WP.skip ?_ | refine WP.exit ?_); simp only [SeqQ, BlkQ, LoopQ, BodyQ, ↓reduceIte, Nat.reduceEqDiff, reduceCtorEq, look, true_and])
      | (refine WP.ret (Sm.out ?_))
      | (first | refine ExG.no (Sm.out ?_) | refine Or.inl (ExG.no (Sm.out ?_)) | refine Or.inl (And.intro (fun hg => absurd hg (by decide)) (ExG.no (Sm.out ?_))))
      | (refine Rt.mk ?_; refine And.intro ?_ ?_ <;> (intro hg; first | exact absurd hg (by decide) | refine Sm.out ?_))
      | (refine Nu.mk ?_; first | (fail_if_success (have := nb1)); intro nb1 | (fail_if_success (have := nb2)); intro nb2 | (fail_if_success (have := nb3)); intro nb3 | intro nbz)
      | (refine Fr.mk ?_; intro hfr; replace FR := And.intro hfr FR; clear hfr; refine Sm.out ?_)
      | (refine Two.mk ?_ ?_)
      | (refine Cs.mk ?_; intro hcs; first | exact False.elim hcs | (exfalso; omega) | (refine Sm.out ?_))
      | go_step
      | omega
      | (simp only [maxLen_eq]; omega)
    (refine OutQ.drop _ _ (perm2 (by simp only [hget, hdel, ↓reduceIte, if_true, if_false, FR, hne, hG', hT']; first | done | rfl) (by simp only [hget, hdel, ↓reduceIte, if_true, if_false, FR, hne, hG', hT']; first | done | rfl)) (by simp only [resv, ZK, look, loadv, loadn, loadnm, load1, load1m, hget, ↓reduceIte, Nat.reduceEqDiff, Nat.reduceAdd, Nat.reduceMul, Nat.reduceLeDiff, Nat.reduceLT, reduceCtorEq, TFRgD, FR, hne, hG', hT']) ⟨(by simp only [resv, resA, ZK, look, loadv, loadn, loadnm, load1, load1m, hget, ↓reduceIte, Nat.reduceEqDiff, Nat.reduceAdd, Nat.reduceMul, Nat.reduceLeDiff, Nat.reduceLT, reduceCtorEq, TFRgD, FR, hne, hG', hT']; first | done | rfl), rfl⟩)
end Go.Proofs.Ytbnkmhlnoaebcaa
namespace Go.Proofs.Ytbnkmhlnoaebcaa
open Go
set_option linter.unusedVariables false
set_option linter.unusedSimpArgs false
theorem TFRgE : ((((((type_of% tyc0) ∧ ((type_of% tyc2) ∧ (type_of% zmb2))) ∧ (((type_of% tyc3) ∧ (type_of% zmb3)) ∧ ((type_of% tyc4) ∧ (type_of% zmb4)))) ∧ (((type_of% tyc23) ∧ ((type_of% zmb23) ∧ (type_of% tyc26))) ∧ (((type_of% mth26_30) ∧ (type_of% mth26_39)) ∧ ((type_of% mth26_38) ∧ (type_of% con26))))) ∧ ((((type_of% zmb26) ∧ ((type_of% tyc32) ∧ (type_of% elt32))) ∧ (((type_of% mkz32) ∧ (type_of% mkc32)) ∧ ((type_of% apT32) ∧ (type_of% elk32)))) ∧ ((((type_of% zmb32) ∧ (type_of% tyc41)) ∧ ((type_of% zmb41) ∧ (type_of% tyc43))) ∧ (((type_of% foff43_0) ∧ (type_of% fpart43_0)) ∧ ((type_of% foff43_1) ∧ (type_of% fpart43_1)))))) ∧ (((((type_of% fe43) ∧ ((type_of% zmb43) ∧ (type_of% bldT43))) ∧ (((type_of% tyc64) ∧ (type_of% foff64_0)) ∧ ((type_of% fpart64_0) ∧ (type_of% foff64_1)))) ∧ (((type_of% fpart64_1) ∧ ((type_of% foff64_2) ∧ (type_of% fpart64_2))) ∧ (((type_of% foff64_3) ∧ (type_of% fpart64_3)) ∧ ((type_of% foff64_4) ∧ (type_of% fpart64_4))))) ∧ ((((type_of% zmb64) ∧ ((type_of% bldT64) ∧ (type_of% tyc65))) ∧ (((type_of% zmb65) ∧ (type_of% Try.underlying0)) ∧ ((type_of% Try.underlying2) ∧ (type_of% Try.underlying3)))) ∧ ((((type_of% Try.underlying4) ∧ (type_of% Try.underlying23)) ∧ ((type_of% Try.underlying26) ∧ (type_of% Try.underlying32))) ∧ (((type_of% Try.underlying41) ∧ (type_of% Try.underlying43)) ∧ ((type_of% Try.underlying64) ∧ (type_of% Try.underlying65))))))) :=
  ⟨⟨⟨⟨⟨tyc0, ⟨tyc2, zmb2⟩⟩, ⟨⟨tyc3, zmb3⟩, ⟨tyc4, zmb4⟩⟩⟩, ⟨⟨tyc23, ⟨zmb23, tyc26⟩⟩, ⟨⟨mth26_30, mth26_39⟩, ⟨mth26_38, con26⟩⟩⟩⟩, ⟨⟨⟨zmb26, ⟨tyc32, elt32⟩⟩, ⟨⟨mkz32, mkc32⟩, ⟨apT32, elk32⟩⟩⟩, ⟨⟨⟨zmb32, tyc41⟩, ⟨zmb41, tyc43⟩⟩, ⟨⟨foff43_0, fpart43_0⟩, ⟨foff43_1, fpart43_1⟩⟩⟩⟩⟩, ⟨⟨⟨⟨fe43, ⟨zmb43, bldT43⟩⟩, ⟨⟨tyc64, foff64_0⟩, ⟨fpart64_0, foff64_1⟩⟩⟩, ⟨⟨fpart64_1, ⟨foff64_2, fpart64_2⟩⟩, ⟨⟨foff64_3, fpart64_3⟩, ⟨foff64_4, fpart64_4⟩⟩⟩⟩, ⟨⟨⟨zmb64, ⟨bldT64, tyc65⟩⟩, ⟨⟨zmb65, Try.underlying0⟩, ⟨Try.underlying2, Try.underlying3⟩⟩⟩, ⟨⟨⟨Try.underlying4, Try.underlying23⟩, ⟨Try.underlying26, Try.underlying32⟩⟩, ⟨⟨Try.underlying41, Try.underlying43⟩, ⟨Try.underlying64, Try.underlying65⟩⟩⟩⟩⟩⟩
def clrN (k : Nat) (G : Nat → Nat) (a : Nat) : Nat → (Nat → Nat)
  | 0 => G
  | c + 1 => upd (clrN k G a c) ((a + c) % k) 0
theorem lL_zero3 {G T : Nat → Nat} {k j : Nat} (h : j < k) : (lL k G T).take (j * 2) ++ [0, 0] ++ (lL k G T).drop (j * 2 + 2) = lL k (upd G j 0) (upd T j 0) := by
  rw [List.append_assoc]; exact lL_zero2 h
theorem Move_range (rb lb w k ne now sg st : Nat) (G T : Nat → Nat) (n : Int) (hn : ¬ (0 ≤ n ∧ n ≤ 253402300799)) :
    ACt Try.prog 20 [pt rb 0, iv .i64 n] [(rb, rbM lb w k ne now sg st), (lb, lbM k G T)] (fun r F' => r = iv .i64 8 ∧ F' = [(rb, rbM lb w k ne now sg st), (lb, lbM k G T)]) := by
  refine ACt.intro Try.func20 rfl (by kernel_rfl) (by simp [Try.ntmps20]) (fun cx => ?_)
  simp only [argE, Try.ntmps20, Try.results20]
  have c1 := tick_ct n
  rw [show (decide (n ≥ 0) && decide (n ≤ 253402300799)) = false by simp; omega] at c1
  first | (have FRx := FR; clear FRx) | (have FR : ¬ ((1 : Nat) = 0) := Nat.one_ne_zero)
  repeat' first
    | (refine Sm.mk ?_; try simp -dsimp only [ZK, rvc, drawF, headN, pureH, stp, dvc, calleeOf, gcall, pev, eff, newB, okd, og, ogs, ogo, ogp, slv, bltv, opd, litv, strip, one, both, putE, St.put, look, gdOf, gdv, picka, pickv, pickw, binv, bini, bins, binb, binp, bina, shp, eqCells, unv, convv, nilv, faddv, addp, idxav, idxp, load1, load1m, loadn, loadnm, loadv, hget, hset, hrep, hdel, slicev, bnd, shift1, lenv, IntKind.bits, extractv, fieldv, indexv, min2v, max2v, mkiv, cellsA, fillA, buildv, stC, oneC, rowMB, intsA, plN, appE, appZ, appC, appNZ, appNC, VwL, srcC, srcZ, srcM, isBoolT, isPtrT, isSliceT, uOk, Value.oneCell', Nat.reducePow, Int.reducePow, Nat.reduceAdd, Nat.reduceMul, Nat.reduceSub, Nat.reduceLT, Nat.reduceLeDiff, Nat.reduceEqDiff, Nat.reduceBEq, Nat.reduceDiv, Nat.reduceMod, ↓reduceIte, reduceCtorEq, Int.reduceToNat, Int.reduceLT, Int.reduceLE, TFRgE, SeqQ, BlkQ, LoopQ, BodyQ, FR])
    | (first | refine CallV.fn (c1) (Sm.out ?_) | refine ExF.mk (c1) (Sm.out ?_) | refine ExG.mk (fun _ => c1) (Sm.out ?_) | refine ExG.mkJ (fun _ => c1) (Sm.out ?_) | refine ExG.mkI (Ob.out ?_) (fun _ => c1) (Sm.out ?_))
    | (refine WP.seq fun K hK => ?_)
    | (refine WP.region (rvc_sound _ _ (Sm.out ?_)))
    | (refine WP.drawK rfl mixed (by decide +kernel) (Sm.out ?_))
    | (refine Ob.mk ?_; focus (first | assumption | omega | decide | trivial | (intro hob; simp only [hob, ZF]; done) | (intros; (repeat' refine And.intro ?_ ?_) <;> first | assumption | omega | trivial | decide) | (intros; simp only [ZE] at *; (repeat' refine And.intro ?_ ?_) <;> first | assumption | omega | trivial)))
    | (refine And.intro (Ob.out ?_) ?_)
    | (refine WP.block ?_)
    | (refine WP.cond rfl (fun hc => ?_) (fun hc => ?_) <;> (try simp only [ZC, reduceCtorEq, ZD] at hc) <;> (try (exact absurd hc (by decide))) <;> (try (exfalso; omega)))
    | ((first | refine WP.skip ?_ | refine WP.exit ?_); simp only [SeqQ, BlkQ, LoopQ, BodyQ, ↓reduceIte, Nat.reduceEqDiff, reduceCtorEq, look, true_and])
    | (refine WP.ret (Sm.out ?_))
    | (first | refine ExG.no (Sm.out ?_) | refine Or.inl (ExG.no (Sm.out ?_)) | refine Or.inl (And.intro (fun hg => absurd hg (by decide)) (ExG.no (Sm.out ?_))))
    | (refine Rt.mk ?_; refine And.intro ?_ ?_ <;> (intro hg; first | exact absurd hg (by decide) | refine Sm.out ?_))
    | (refine Nu.mk ?_; first | (fail_if_success (have := nb1)); intro nb1 | (fail_if_success (have := nb2)); intro nb2 | (fail_if_success (have := nb3)); intro nb3 | intro nbz)
    | (refine Fr.mk ?_; intro hfr; replace FR := And.intro hfr FR; clear hfr; refine Sm.out ?_)
    | (refine Two.mk ?_ ?_)
    | (refine Cs.mk ?_; intro hcs; first | exact False.elim hcs | (exfalso; omega) | (refine Sm.out ?_))
    | go_step
    | omega
    | (simp only [maxLen_eq]; omega)
  (refine OutQ.drop _ _ (perm2 (by simp only [hget, hdel, ↓reduceIte, if_true, if_false, FR]; first | done | rfl) (by simp only [hget, hdel, ↓reduceIte, if_true, if_false, FR]; first | done | rfl)) (by simp only [resv, ZK, look, loadv, loadn, loadnm, load1, load1m, hget, ↓reduceIte, Nat.reduceEqDiff, Nat.reduceAdd, Nat.reduceMul, Nat.reduceLeDiff, Nat.reduceLT, reduceCtorEq, TFRgE, FR]) ⟨(by simp only [resv, resA, ZK, look, loadv, loadn, loadnm, load1, load1m, hget, ↓reduceIte, Nat.reduceEqDiff, Nat.reduceAdd, Nat.reduceMul, Nat.reduceLeDiff, Nat.reduceLT, reduceCtorEq, TFRgE, FR]; first | done | rfl), rfl⟩)
theorem Move_late (rb lb w k ne now sg st : Nat) (G T : Nat → Nat) (n : Nat) (hn : n ≤ 253402300799) (hl : n < now) :
    ACt Try.prog 20 [pt rb 0, iv .i64 n] [(rb, rbM lb w k ne now sg st), (lb, lbM k G T)] (fun r F' => r = iv .i64 13 ∧ F' = [(rb, rbM lb w k ne now sg st), (lb, lbM k G T)]) := by
  refine ACt.intro Try.func20 rfl (by kernel_rfl) (by simp [Try.ntmps20]) (fun cx => ?_)
  simp only [argE, Try.ntmps20, Try.results20]
  have c1 := tick_ct n
  rw [show (decide ((n : Int) ≥ 0) && decide ((n : Int) ≤ 253402300799)) = true by simp; omega] at c1
  have d : decide ((n : Int) < (now : Int)) = true := by simp; omega
  first | (have FRx := FR; clear FRx) | (have FR : ¬ ((1 : Nat) = 0) := Nat.one_ne_zero)
  repeat' first
    | (refine Sm.mk ?_; try simp -dsimp only [ZK, rvc, drawF, headN, pureH, stp, dvc, calleeOf, gcall, pev, eff, newB, okd, og, ogs, ogo, ogp, slv, bltv, opd, litv, strip, one, both, putE, St.put, look, gdOf, gdv, picka, pickv, pickw, binv, bini, bins, binb, binp, bina, shp, eqCells, unv, convv, nilv, faddv, addp, idxav, idxp, load1, load1m, loadn, loadnm, loadv, hget, hset, hrep, hdel, slicev, bnd, shift1, lenv, IntKind.bits, extractv, fieldv, indexv, min2v, max2v, mkiv, cellsA, fillA, buildv, stC, oneC, rowMB, intsA, plN, appE, appZ, appC, appNZ, appNC, VwL, srcC, srcZ, srcM, isBoolT, isPtrT, isSliceT, uOk, Value.oneCell', Nat.reducePow, Int.reducePow, Nat.reduceAdd, Nat.reduceMul, Nat.reduceSub, Nat.reduceLT, Nat.reduceLeDiff, Nat.reduceEqDiff, Nat.reduceBEq, Nat.reduceDiv, Nat.reduceMod, ↓reduceIte, reduceCtorEq, Int.reduceToNat, Int.reduceLT, Int.reduceLE, TFRgE, SeqQ, BlkQ, LoopQ, BodyQ, d, FR])
    | (first | refine CallV.fn (c1) (Sm.out ?_) | refine ExF.mk (c1) (Sm.out ?_) | refine ExG.mk (fun _ => c1) (Sm.out ?_) | refine ExG.mkJ (fun _ => c1) (Sm.out ?_) | refine ExG.mkI (Ob.out ?_) (fun _ => c1) (Sm.out ?_))
    | (refine WP.seq fun K hK => ?_)
    | (refine WP.region (rvc_sound _ _ (Sm.out ?_)))
    | (refine WP.drawK rfl mixed (by decide +kernel) (Sm.out ?_))
    | (refine Ob.mk ?_; focus (first | assumption | omega | decide | trivial | (intro hob; simp only [hob, ZF]; done) | (intros; (repeat' refine And.intro ?_ ?_) <;> first | assumption | omega | trivial | decide) | (intros; simp only [ZE] at *; (repeat' refine And.intro ?_ ?_) <;> first | assumption | omega | trivial)))
    | (refine And.intro (Ob.out ?_) ?_)
    | (refine WP.block ?_)
    | (refine WP.cond rfl (fun hc => ?_) (fun hc => ?_) <;> (try simp only [ZC, reduceCtorEq, ZD] at hc) <;> (try (exact absurd hc (by decide))) <;> (try (exfalso; omega)))
    | ((first | refine WP.skip ?_ | refine WP.exit ?_); simp only [SeqQ, BlkQ, LoopQ, BodyQ, ↓reduceIte, Nat.reduceEqDiff, reduceCtorEq, look, true_and])
    | (refine WP.ret (Sm.out ?_))
    | (first | refine ExG.no (Sm.out ?_) | refine Or.inl (ExG.no (Sm.out ?_)) | refine Or.inl (And.intro (fun hg => absurd hg (by decide)) (ExG.no (Sm.out ?_))))
    | (refine Rt.mk ?_; refine And.intro ?_ ?_ <;> (intro hg; first | exact absurd hg (by decide) | refine Sm.out ?_))
    | (refine Nu.mk ?_; first | (fail_if_success (have := nb1)); intro nb1 | (fail_if_success (have := nb2)); intro nb2 | (fail_if_success (have := nb3)); intro nb3 | intro nbz)
    | (refine Fr.mk ?_; intro hfr; replace FR := And.intro hfr FR; clear hfr; refine Sm.out ?_)
    | (refine Two.mk ?_ ?_)
    | (refine Cs.mk ?_; intro hcs; first | exact False.elim hcs | (exfalso; omega) | (refine Sm.out ?_))
    | go_step
    | omega
    | (simp only [maxLen_eq]; omega)
  (refine OutQ.drop _ _ (perm2 (by simp only [hget, hdel, ↓reduceIte, if_true, if_false, FR]; first | done | rfl) (by simp only [hget, hdel, ↓reduceIte, if_true, if_false, FR]; first | done | rfl)) (by simp only [resv, ZK, look, loadv, loadn, loadnm, load1, load1m, hget, ↓reduceIte, Nat.reduceEqDiff, Nat.reduceAdd, Nat.reduceMul, Nat.reduceLeDiff, Nat.reduceLT, reduceCtorEq, TFRgE, FR]) ⟨(by simp only [resv, resA, ZK, look, loadv, loadn, loadnm, load1, load1m, hget, ↓reduceIte, Nat.reduceEqDiff, Nat.reduceAdd, Nat.reduceMul, Nat.reduceLeDiff, Nat.reduceLT, reduceCtorEq, TFRgE, FR]; first | done | rfl), rfl⟩)
structure CG where
  c : Nat
set_option maxRecDepth 8000 in
set_option maxHeartbeats 2000000 in
theorem Move_ok (rb lb w k ne now : Nat) (G T : Nat → Nat) (n tt a : Nat) (hne : rb ≠ lb ∧ lb ≠ rb) (hn : n ≤ 253402300799) (hl : now ≤ n) (hw : 1 ≤ w) (hk1 : 1 ≤ k) (hk2 : k ≤ 60) (hne2 : ne ≤ 253402300799) (ht : tt = n / w) (ha : a = max (ne + 1) (tt + 1 - k))
    (hG : sumN G k < 18446744073709551616) (hT : sumN T k < 18446744073709551616) :
    ACt Try.prog 20 [pt rb 0, iv .i64 n] [(rb, rbM lb w k ne now (sumN G k) (sumN T k)), (lb, lbM k G T)]
      (fun r F' => r = iv .i64 0 ∧ F' = [(rb, rbM lb w k tt n (sumN (clrN k G a (tt + 1 - a)) k) (sumN (clrN k T a (tt + 1 - a)) k)), (lb, lbM k (clrN k G a (tt + 1 - a)) (clrN k T a (tt + 1 - a)))]) := by
  refine ACt.intro Try.func20 rfl (by kernel_rfl) (by simp [Try.ntmps20]) (fun cx => ?_)
  simp only [argE, Try.ntmps20, Try.results20]
  have c1 := tick_ct n
  rw [show (decide ((n : Int) ≥ 0) && decide ((n : Int) ≤ 253402300799)) = true by simp; omega] at c1
  have d : decide ((n : Int) < (now : Int)) = false := by simp; omega
  have n1 : ¬ (w : Int) = 0 := by omega
  have htn : tt ≤ n := by rw [ht]; exact Nat.div_le_self _ _
  have e1 : (n : Int).tdiv (w : Int) = (tt : Int) := by rw [ht, Int.tdiv_eq_ediv_of_nonneg (by omega)]; simp
  clear ht
  have e2 : IntKind.i64.wrap (tt : Int) = (tt : Int) := wrap_i64_nat (by omega)
  have e3 : IntKind.i64.wrap ((ne : Int) + 1) = ((ne + 1 : Nat) : Int) := by rw [wrap_i64 (by omega) (by omega)]; omega
  have e4 : IntKind.i64.wrap ((tt : Int) - (k : Int)) = (tt : Int) - (k : Int) := wrap_i64 (by omega) (by omega)
  have e5 : IntKind.i64.wrap ((tt : Int) - (k : Int) + 1) = (tt : Int) - (k : Int) + 1 := wrap_i64 (by omega) (by omega)
  have e6 : (if ((ne + 1 : Nat) : Int) < (tt : Int) - (k : Int) + 1 then (tt : Int) - (k : Int) + 1 else ((ne + 1 : Nat) : Int)) = (a : Int) := by split <;> omega
  have hak : a ≤ 253402300800 := by omega
  first | (have FRx := FR; clear FRx) | (have FR : ¬ ((1 : Nat) = 0) := Nat.one_ne_zero)
  repeat' first
    | (refine Sm.mk ?_; try simp -dsimp only [ZK, rvc, drawF, headN, pureH, stp, dvc, calleeOf, gcall, pev, eff, newB, okd, og, ogs, ogo, ogp, slv, bltv, opd, litv, strip, one, both, putE, St.put, look, gdOf, gdv, picka, pickv, pickw, binv, bini, bins, binb, binp, bina, shp, eqCells, unv, convv, nilv, faddv, addp, idxav, idxp, load1, load1m, loadn, loadnm, loadv, hget, hset, hrep, hdel, slicev, bnd, shift1, lenv, IntKind.bits, extractv, fieldv, indexv, min2v, max2v, mkiv, cellsA, fillA, buildv, stC, oneC, rowMB, intsA, plN, appE, appZ, appC, appNZ, appNC, VwL, srcC, srcZ, srcM, isBoolT, isPtrT, isSliceT, uOk, Value.oneCell', Nat.reducePow, Int.reducePow, Nat.reduceAdd, Nat.reduceMul, Nat.reduceSub, Nat.reduceLT, Nat.reduceLeDiff, Nat.reduceEqDiff, Nat.reduceBEq, Nat.reduceDiv, Nat.reduceMod, ↓reduceIte, reduceCtorEq, Int.reduceToNat, Int.reduceLT, Int.reduceLE, TFRgE, SeqQ, BlkQ, LoopQ, BodyQ, d, n1, e1, e2, e3, e4, e5, e6, hne, FR])
    | (first | refine CallV.fn (c1) (Sm.out ?_) | refine ExF.mk (c1) (Sm.out ?_) | refine ExG.mk (fun _ => c1) (Sm.out ?_) | refine ExG.mkJ (fun _ => c1) (Sm.out ?_) | refine ExG.mkI (Ob.out ?_) (fun _ => c1) (Sm.out ?_))
    | (refine WP.seq fun K hK => ?_)
    | (refine WP.region (rvc_sound _ _ (Sm.out ?_)))
    | (refine WP.drawK rfl mixed (by decide +kernel) (Sm.out ?_))
    | (refine Ob.mk ?_; focus (first | assumption | omega | decide | trivial | (intro hob; simp only [hob, ZF]; done) | (intros; (repeat' refine And.intro ?_ ?_) <;> first | assumption | omega | trivial | decide) | (intros; simp only [ZE] at *; (repeat' refine And.intro ?_ ?_) <;> first | assumption | omega | trivial)))
    | (refine And.intro (Ob.out ?_) ?_)
    | (refine WP.block ?_)
    | (refine WP.cond rfl (fun hc => ?_) (fun hc => ?_) <;> (try simp only [ZC, reduceCtorEq, ZD] at hc) <;> (try (exact absurd hc (by decide))) <;> (try (exfalso; omega)))
    | ((first | refine WP.skip ?_ | refine WP.exit ?_); simp only [SeqQ, BlkQ, LoopQ, BodyQ, ↓reduceIte, Nat.reduceEqDiff, reduceCtorEq, look, true_and])
    | (refine WP.ret (Sm.out ?_))
    | (first | refine ExG.no (Sm.out ?_) | refine Or.inl (ExG.no (Sm.out ?_)) | refine Or.inl (And.intro (fun hg => absurd hg (by decide)) (ExG.no (Sm.out ?_))))
    | (refine Rt.mk ?_; refine And.intro ?_ ?_ <;> (intro hg; first | exact absurd hg (by decide) | refine Sm.out ?_))
    | (refine Nu.mk ?_; first | (fail_if_success (have := nb1)); intro nb1 | (fail_if_success (have := nb2)); intro nb2 | (fail_if_success (have := nb3)); intro nb3 | intro nbz)
    | (refine Fr.mk ?_; intro hfr; replace FR := And.intro hfr FR; clear hfr; refine Sm.out ?_)
    | (refine Two.mk ?_ ?_)
    | (refine Cs.mk ?_; intro hcs; first | exact False.elim hcs | (exfalso; omega) | (refine Sm.out ?_))
    | go_step
    | omega
    | (simp only [maxLen_eq]; omega)
  refine WP.loop (Γ := CG) (fun q => ⟨[(6, iv .i64 ((a + q.c : Nat) : Int)), (5, iv .i64 tt), (0, pt rb 0)], [(rb, rbM lb w k ne n (sumN (clrN k G a q.c) k) (sumN (clrN k T a q.c) k)), (lb, lbM k (clrN k G a q.c) (clrN k T a q.c))]⟩)
    (fun q => q.c ≤ tt + 1 - a ∧ sumN (clrN k G a q.c) k < 18446744073709551616 ∧ sumN (clrN k T a q.c) k < 18446744073709551616) (fun q => tt + 1 - a - q.c) ⟨0⟩ ⟨by simp, hG, hT⟩ (Sub.pick (by simp [pickB, hget, hdel, FR, clrN, hne]) (by simp [look, clrN, hne])) ?_
  intro ⟨c⟩ ⟨hc0, hG1, hT1⟩
  simp only at hc0 hG1 hT1 ⊢
  (refine WP.nd fun hnd => ?_; simp only [ndF, fresh_cons, fresh_nil, and_true, ne_eq] at hnd; replace FR := And.intro hnd FR; clear hnd)
  by_cases hlt : c < tt + 1 - a
  · have k1 : decide (((a + c : Nat) : Int) ≤ (tt : Int)) = true := by simp; omega
    have hj : (a + c) % k < k := Nat.mod_lt _ (by omega)
    obtain ⟨j, hjj⟩ : ∃ j, j = (a + c) % k := ⟨_, rfl⟩
    obtain ⟨G1, hG1'⟩ : ∃ G1, G1 = clrN k G a c := ⟨_, rfl⟩
    obtain ⟨T1, hT1'⟩ : ∃ T1, T1 = clrN k T a c := ⟨_, rfl⟩
    have hG2 : clrN k G a (c + 1) = upd G1 j 0 := by rw [clrN, ← hjj, ← hG1']
    have hT2 : clrN k T a (c + 1) = upd T1 j 0 := by rw [clrN, ← hjj, ← hT1']
    have cA := at_ct rb lb w k ne n (sumN G1 k) (sumN T1 k) (a + c) hk1 hk2 (by omega)
    rw [← hjj] at hj cA
    rw [← hG1'] at hG1 ⊢
    rw [← hT1'] at hT1 ⊢
    have uG := sumN_upd G1 (x := 0) hj
    have uT := sumN_upd T1 (x := 0) hj
    obtain ⟨G2, hGG⟩ : ∃ G2, G2 = upd G1 j 0 := ⟨_, rfl⟩
    obtain ⟨T2, hTT⟩ : ∃ T2, T2 = upd T1 j 0 := ⟨_, rfl⟩
    rw [← hGG] at uG hG2
    rw [← hTT] at uT hT2
    have a1 : IntKind.u64.wrap ((sumN G1 k : Int) - (G1 j : Int)) = (sumN G2 k : Int) := by rw [wrap_u64 (by omega) (by omega)]; omega
    have a2 : IntKind.u64.wrap ((sumN T1 k : Int) - (T1 j : Int)) = (sumN T2 k : Int) := by rw [wrap_u64 (by omega) (by omega)]; omega
    have g0 : (lL k G1 T1).getD (j * 2) 0 = (G1 j : Int) := (lL_get _ _ _ _ hj).1
    have g1 : (lL k G1 T1).getD (j * 2 + 1) 0 = (T1 j : Int) := (lL_get _ _ _ _ hj).2
    have z3 : (lL k G1 T1).take (j * 2) ++ [0, 0] ++ (lL k G1 T1).drop (j * 2 + 2) = lL k G2 T2 := by rw [hGG, hTT]; exact lL_zero3 hj
    have z4 : (lL k G1 T1).take (j * 2) ++ ([0, 0] ++ (lL k G1 T1).drop (j * 2 + 2)) = lL k G2 T2 := by rw [hGG, hTT]; exact lL_zero2 hj
    have z5 : (lL k G1 T1).take (j * 2) ++ (0 :: 0 :: (lL k G1 T1).drop (j * 2 + 2)) = lL k G2 T2 := z4
    have w1 : IntKind.i64.wrap (((a + c : Nat) : Int) + 1) = ((a + (c + 1) : Nat) : Int) := by rw [wrap_i64 (by omega) (by omega)]; omega
    first | (have FRx := FR; clear FRx) | (have FR : ¬ ((1 : Nat) = 0) := Nat.one_ne_zero)
    repeat' first
      | (refine Sm.mk ?_; try simp -dsimp only [ZK, rvc, drawF, headN, pureH, stp, dvc, calleeOf, gcall, pev, eff, newB, okd, og, ogs, ogo, ogp, slv, bltv, opd, litv, strip, one, both, putE, St.put, look, gdOf, gdv, picka, pickv, pickw, binv, bini, bins, binb, binp, bina, shp, eqCells, unv, convv, nilv, faddv, addp, idxav, idxp, load1, load1m, loadn, loadnm, loadv, hget, hset, hrep, hdel, slicev, bnd, shift1, lenv, IntKind.bits, extractv, fieldv, indexv, min2v, max2v, mkiv, cellsA, fillA, buildv, stC, oneC, rowMB, intsA, plN, appE, appZ, appC, appNZ, appNC, VwL, srcC, srcZ, srcM, isBoolT, isPtrT, isSliceT, uOk, Value.oneCell', Nat.reducePow, Int.reducePow, Nat.reduceAdd, Nat.reduceMul, Nat.reduceSub, Nat.reduceLT, Nat.reduceLeDiff, Nat.reduceEqDiff, Nat.reduceBEq, Nat.reduceDiv, Nat.reduceMod, ↓reduceIte, reduceCtorEq, Int.reduceToNat, Int.reduceLT, Int.reduceLE, TFRgE, SeqQ, BlkQ, LoopQ, BodyQ, k1, a1, a2, g0, g1, lL_len, z3, z4, z5, w1, hne, FR])
      | (refine CallV.updM (cA) (perm1 (by simp only [hget, hdel, ↓reduceIte, FR, k1, a1, a2, g0, g1, lL_len, z3, z4, z5, w1, hne]; first | done | rfl)) (Sm.out ?_))
      | (refine WP.seq fun K hK => ?_)
      | (refine WP.region (rvc_sound _ _ (Sm.out ?_)))
      | (refine WP.drawK rfl mixed (by decide +kernel) (Sm.out ?_))
      | (refine Ob.mk ?_; focus (first | assumption | omega | decide | trivial | (intro hob; simp only [hob, ZF]; done) | (intros; (repeat' refine And.intro ?_ ?_) <;> first | assumption | omega | trivial | decide) | (intros; simp only [ZE] at *; (repeat' refine And.intro ?_ ?_) <;> first | assumption | omega | trivial)))
      | (refine And.intro (Ob.out ?_) ?_)
      | (refine WP.block ?_)
      | (refine WP.cond rfl (fun hc => ?_) (fun hc => ?_) <;> (try simp only [ZC, reduceCtorEq, ZD] at hc) <;> (try (exact absurd hc (by decide))) <;> (try (exfalso; omega)))
      | ((first | refine WP.skip ?_ | refine WP.exit ?_); simp only [SeqQ, BlkQ, LoopQ, BodyQ, ↓reduceIte, Nat.reduceEqDiff, reduceCtorEq, look, true_and])
      | (refine WP.ret (Sm.out ?_))
      | (first | refine ExG.no (Sm.out ?_) | refine Or.inl (ExG.no (Sm.out ?_)) | refine Or.inl (And.intro (fun hg => absurd hg (by decide)) (ExG.no (Sm.out ?_))))
      | (refine Rt.mk ?_; refine And.intro ?_ ?_ <;> (intro hg; first | exact absurd hg (by decide) | refine Sm.out ?_))
      | (refine Nu.mk ?_; first | (fail_if_success (have := nb1)); intro nb1 | (fail_if_success (have := nb2)); intro nb2 | (fail_if_success (have := nb3)); intro nb3 | intro nbz)
      | (refine Fr.mk ?_; intro hfr; replace FR := And.intro hfr FR; clear hfr; refine Sm.out ?_)
      | (refine Two.mk ?_ ?_)
      | (refine Cs.mk ?_; intro hcs; first | exact False.elim hcs | (exfalso; omega) | (refine Sm.out ?_))
      | go_step
      | omega
      | (simp only [maxLen_eq]; omega)
    exact ⟨⟨c + 1⟩, ⟨by simp only; omega, by simp only; rw [hG2]; omega, by simp only; rw [hT2]; omega⟩, by simp only; omega, (Sub.pick (by simp [pickB, hget, hdel, FR, hG2, hT2, hne]) (by simp [look, hG2, hT2, hne]))⟩
  · obtain rfl : c = tt + 1 - a := by omega
    have k1 : decide (((a + (tt + 1 - a) : Nat) : Int) ≤ (tt : Int)) = false := by simp; omega
    first | (have FRx := FR; clear FRx) | (have FR : ¬ ((1 : Nat) = 0) := Nat.one_ne_zero)
    repeat' first
      | (refine Sm.mk ?_; try simp -dsimp only [ZK, rvc, drawF, headN, pureH, stp, dvc, calleeOf, gcall, pev, eff, newB, okd, og, ogs, ogo, ogp, slv, bltv, opd, litv, strip, one, both, putE, St.put, look, gdOf, gdv, picka, pickv, pickw, binv, bini, bins, binb, binp, bina, shp, eqCells, unv, convv, nilv, faddv, addp, idxav, idxp, load1, load1m, loadn, loadnm, loadv, hget, hset, hrep, hdel, slicev, bnd, shift1, lenv, IntKind.bits, extractv, fieldv, indexv, min2v, max2v, mkiv, cellsA, fillA, buildv, stC, oneC, rowMB, intsA, plN, appE, appZ, appC, appNZ, appNC, VwL, srcC, srcZ, srcM, isBoolT, isPtrT, isSliceT, uOk, Value.oneCell', Nat.reducePow, Int.reducePow, Nat.reduceAdd, Nat.reduceMul, Nat.reduceSub, Nat.reduceLT, Nat.reduceLeDiff, Nat.reduceEqDiff, Nat.reduceBEq, Nat.reduceDiv, Nat.reduceMod, ↓reduceIte, reduceCtorEq, Int.reduceToNat, Int.reduceLT, Int.reduceLE, TFRgE, SeqQ, BlkQ, LoopQ, BodyQ, k1, hne, FR])
      | (refine WP.seq fun K hK => ?_)
      | (refine WP.region (rvc_sound _ _ (Sm.out ?_)))
      | (refine WP.drawK rfl mixed (by decide +kernel) (Sm.out ?_))
      | (refine Ob.mk ?_; focus (first | assumption | omega | decide | trivial | (intro hob; simp only [hob, ZF]; done) | (intros; (repeat' refine And.intro ?_ ?_) <;> first | assumption | omega | trivial | decide) | (intros; simp only [ZE] at *; (repeat' refine And.intro ?_ ?_) <;> first | assumption | omega | trivial)))
      | (refine And.intro (Ob.out ?_) ?_)
      | (refine WP.block ?_)
      | (refine WP.cond rfl (fun hc => ?_) (fun hc => ?_) <;> (try simp only [ZC, reduceCtorEq, ZD] at hc) <;> (try (exact absurd hc (by decide))) <;> (try (exfalso; omega)))
      | ((first | refine WP.skip ?_ | refine WP.exit ?_); simp only [SeqQ, BlkQ, LoopQ, BodyQ, ↓reduceIte, Nat.reduceEqDiff, reduceCtorEq, look, true_and])
      | (refine WP.ret (Sm.out ?_))
      | (first | refine ExG.no (Sm.out ?_) | refine Or.inl (ExG.no (Sm.out ?_)) | refine Or.inl (And.intro (fun hg => absurd hg (by decide)) (ExG.no (Sm.out ?_))))
      | (refine Rt.mk ?_; refine And.intro ?_ ?_ <;> (intro hg; first | exact absurd hg (by decide) | refine Sm.out ?_))
      | (refine Nu.mk ?_; first | (fail_if_success (have := nb1)); intro nb1 | (fail_if_success (have := nb2)); intro nb2 | (fail_if_success (have := nb3)); intro nb3 | intro nbz)
      | (refine Fr.mk ?_; intro hfr; replace FR := And.intro hfr FR; clear hfr; refine Sm.out ?_)
      | (refine Two.mk ?_ ?_)
      | (refine Cs.mk ?_; intro hcs; first | exact False.elim hcs | (exfalso; omega) | (refine Sm.out ?_))
      | go_step
      | omega
      | (simp only [maxLen_eq]; omega)
    (refine OutQ.drop _ _ (perm2 (by simp only [hget, hdel, ↓reduceIte, if_true, if_false, FR, hne]; first | done | rfl) (by simp only [hget, hdel, ↓reduceIte, if_true, if_false, FR, hne]; first | done | rfl)) (by simp only [resv, ZK, look, loadv, loadn, loadnm, load1, load1m, hget, ↓reduceIte, Nat.reduceEqDiff, Nat.reduceAdd, Nat.reduceMul, Nat.reduceLeDiff, Nat.reduceLT, reduceCtorEq, TFRgE, FR, hne]) ⟨(by simp only [resv, resA, ZK, look, loadv, loadn, loadnm, load1, load1m, hget, ↓reduceIte, Nat.reduceEqDiff, Nat.reduceAdd, Nat.reduceMul, Nat.reduceLeDiff, Nat.reduceLT, reduceCtorEq, TFRgE, FR, hne]; first | done | rfl), rfl⟩)
end Go.Proofs.Ytbnkmhlnoaebcaa
namespace Go.Proofs.Ytbnkmhlnoaebcaa
open Go
set_option linter.unusedVariables false
set_option linter.unusedSimpArgs false
theorem TFRgF : ((((((type_of% tyc0) ∧ ((type_of% tyc2) ∧ (type_of% zmb2))) ∧ (((type_of% tyc3) ∧ (type_of% zmb3)) ∧ ((type_of% tyc4) ∧ (type_of% zmb4)))) ∧ (((type_of% tyc23) ∧ ((type_of% zmb23) ∧ (type_of% tyc24))) ∧ (((type_of% tyc26) ∧ (type_of% mth26_30)) ∧ ((type_of% mth26_39) ∧ (type_of% mth26_38))))) ∧ ((((type_of% con26) ∧ ((type_of% zmb26) ∧ (type_of% tyc32))) ∧ (((type_of% elt32) ∧ (type_of% mkz32)) ∧ ((type_of% mkc32) ∧ (type_of% apT32)))) ∧ (((type_of% elk32) ∧ ((type_of% zmb32) ∧ (type_of% tyc43))) ∧ (((type_of% foff43_0) ∧ (type_of% fpart43_0)) ∧ ((type_of% foff43_1) ∧ (type_of% fpart43_1)))))) ∧ (((((type_of% fe43) ∧ ((type_of% zmb43) ∧ (type_of% bldT43))) ∧ (((type_of% tyc64) ∧ (type_of% foff64_0)) ∧ ((type_of% fpart64_0) ∧ (type_of% foff64_1)))) ∧ (((type_of% fpart64_1) ∧ ((type_of% foff64_2) ∧ (type_of% fpart64_2))) ∧ (((type_of% foff64_3) ∧ (type_of% fpart64_3)) ∧ ((type_of% foff64_4) ∧ (type_of% fpart64_4))))) ∧ ((((type_of% zmb64) ∧ ((type_of% bldT64) ∧ (type_of% tyc65))) ∧ (((type_of% zmb65) ∧ (type_of% Try.underlying0)) ∧ ((type_of% Try.underlying2) ∧ (type_of% Try.underlying3)))) ∧ ((((type_of% Try.underlying4) ∧ (type_of% Try.underlying23)) ∧ ((type_of% Try.underlying24) ∧ (type_of% Try.underlying26))) ∧ (((type_of% Try.underlying32) ∧ (type_of% Try.underlying43)) ∧ ((type_of% Try.underlying64) ∧ (type_of% Try.underlying65))))))) :=
  ⟨⟨⟨⟨⟨tyc0, ⟨tyc2, zmb2⟩⟩, ⟨⟨tyc3, zmb3⟩, ⟨tyc4, zmb4⟩⟩⟩, ⟨⟨tyc23, ⟨zmb23, tyc24⟩⟩, ⟨⟨tyc26, mth26_30⟩, ⟨mth26_39, mth26_38⟩⟩⟩⟩, ⟨⟨⟨con26, ⟨zmb26, tyc32⟩⟩, ⟨⟨elt32, mkz32⟩, ⟨mkc32, apT32⟩⟩⟩, ⟨⟨elk32, ⟨zmb32, tyc43⟩⟩, ⟨⟨foff43_0, fpart43_0⟩, ⟨foff43_1, fpart43_1⟩⟩⟩⟩⟩, ⟨⟨⟨⟨fe43, ⟨zmb43, bldT43⟩⟩, ⟨⟨tyc64, foff64_0⟩, ⟨fpart64_0, foff64_1⟩⟩⟩, ⟨⟨fpart64_1, ⟨foff64_2, fpart64_2⟩⟩, ⟨⟨foff64_3, fpart64_3⟩, ⟨foff64_4, fpart64_4⟩⟩⟩⟩, ⟨⟨⟨zmb64, ⟨bldT64, tyc65⟩⟩, ⟨⟨zmb65, Try.underlying0⟩, ⟨Try.underlying2, Try.underlying3⟩⟩⟩, ⟨⟨⟨Try.underlying4, Try.underlying23⟩, ⟨Try.underlying24, Try.underlying26⟩⟩, ⟨⟨Try.underlying32, Try.underlying43⟩, ⟨Try.underlying64, Try.underlying65⟩⟩⟩⟩⟩⟩
/-- what comes of an addition -/
def codeA (at_ : Int) (g t w k ne now st : Nat) : Int :=
  if t < g then 16 else if ¬ (0 ≤ at_ ∧ at_ ≤ 253402300799) then 8 else if (now : Int) < at_ then 14 else if at_.toNat / w + k ≤ ne then 13 else if 9223372036854775807 < st + t then 17 else 0
set_option maxHeartbeats 2000000 in
theorem Add_bad (rb lb w k ne now sg st g t : Nat) (G T : Nat → Nat) (at_ : Int) (hw : 1 ≤ w) (hk1 : 1 ≤ k) (hk2 : k ≤ 60) (hne : ne ≤ 253402300799) (hst : st ≤ 9223372036854775807) (hc0 : codeA at_ g t w k ne now st ≠ 0) :
    ACt Try.prog 21 [pt rb 0, iv .i64 at_, cnt g t] [(rb, rbM lb w k ne now sg st), (lb, lbM k G T)] (fun r F' => r = iv .i64 (codeA at_ g t w k ne now st) ∧ F' = [(rb, rbM lb w k ne now sg st), (lb, lbM k G T)]) := by
  refine ACt.intro Try.func21 rfl (by kernel_rfl) (by simp [Try.ntmps21]) (fun cx => ?_)
  simp only [argE, Try.ntmps21, Try.results21]
  obtain ⟨cd, hcd⟩ : ∃ cd, cd = codeA at_ g t w k ne now st := ⟨_, rfl⟩
  have hcd' := hcd
  rw [← hcd] at hc0
  unfold codeA at hcd
  have c1 := right_ct g t
  have c2 := tick_ct at_
  have c3 := room_ct rb lb w k ne now sg st g t hst
  have n1 : ¬ (w : Int) = 0 := by omega
  by_cases h1 : t < g
  · rw [if_pos h1] at hcd
    rw [decide_eq_false (show ¬ g ≤ t by omega)] at c1
    rw [← hcd', hcd]
    first | (have FRx := FR; clear FRx) | (have FR : ¬ ((1 : Nat) = 0) := Nat.one_ne_zero)
    repeat' first
      | (refine Sm.mk ?_; try simp -dsimp only [ZK, rvc, drawF, headN, pureH, stp, dvc, calleeOf, gcall, pev, eff, newB, okd, og, ogs, ogo, ogp, slv, bltv, opd, litv, strip, one, both, putE, St.put, look, gdOf, gdv, picka, pickv, pickw, binv, bini, bins, binb, binp, bina, shp, eqCells, unv, convv, nilv, faddv, addp, idxav, idxp, load1, load1m, loadn, loadnm, loadv, hget, hset, hrep, hdel, slicev, bnd, shift1, lenv, IntKind.bits, extractv, fieldv, indexv, min2v, max2v, mkiv, cellsA, fillA, buildv, stC, oneC, rowMB, intsA, plN, appE, appZ, appC, appNZ, appNC, VwL, srcC, srcZ, srcM, isBoolT, isPtrT, isSliceT, uOk, Value.oneCell', Nat.reducePow, Int.reducePow, Nat.reduceAdd, Nat.reduceMul, Nat.reduceSub, Nat.reduceLT, Nat.reduceLeDiff, Nat.reduceEqDiff, Nat.reduceBEq, Nat.reduceDiv, Nat.reduceMod, ↓reduceIte, reduceCtorEq, Int.reduceToNat, Int.reduceLT, Int.reduceLE, drawCF, xvc, xst, splitH, calleeV, putE, hdel, TFRgF, SeqQ, BlkQ, LoopQ, BodyQ, FR])
      | (first | refine CallV.fn (c1) (Sm.out ?_) | refine ExF.mk (c1) (Sm.out ?_) | refine ExG.mk (fun _ => c1) (Sm.out ?_) | refine ExG.mkJ (fun _ => c1) (Sm.out ?_) | refine ExG.mkI (Ob.out ?_) (fun _ => c1) (Sm.out ?_))
      | (refine WP.seq fun K hK => ?_)
      | (refine WP.region (rvc_sound _ _ (Sm.out ?_)))
      | (refine WP.drawC (c := 10) (ws := []) (ls := []) (bs := []) mixed (by decide +kernel) (by decide +kernel) (by decide +kernel) (Sm.out ?_))
      | (refine WP.drawK rfl mixed (by decide +kernel) (Sm.out ?_))
      | (refine Ob.mk ?_; focus (first | assumption | omega | decide | trivial | (intro hob; simp only [hob, ZF]; done) | (intros; (repeat' refine And.intro ?_ ?_) <;> first | assumption | omega | trivial | decide) | (intros; simp only [ZE] at *; (repeat' refine And.intro ?_ ?_) <;> first | assumption | omega | trivial)))
      | (refine And.intro (Ob.out ?_) ?_)
      | (refine WP.block ?_)
      | (refine WP.cond rfl (fun hc => ?_) (fun hc => ?_) <;> (try simp only [ZC, reduceCtorEq, ZD] at hc) <;> (try (exact absurd hc (by decide))) <;> (try (exfalso; omega)))
      | ((first | refine WP.skip ?_ | refine WP.exit ?_); simp only [SeqQ, BlkQ, LoopQ, BodyQ, ↓reduceIte, Nat.reduceEqDiff, reduceCtorEq, look, true_and])
      | (refine WP.ret (Sm.out ?_))
      | (first | refine ExG.no (Sm.out ?_) | refine Or.inl (ExG.no (Sm.out ?_)) | refine Or.inl (And.intro (fun hg => absurd hg (by decide)) (ExG.no (Sm.out ?_))))
      | (refine Rt.mk ?_; refine And.intro ?_ ?_ <;> (intro hg; first | exact absurd hg (by decide) | refine Sm.out ?_))
      | (refine Nu.mk ?_; first | (fail_if_success (have := nb1)); intro nb1 | (fail_if_success (have := nb2)); intro nb2 | (fail_if_success (have := nb3)); intro nb3 | intro nbz)
      | (refine Fr.mk ?_; intro hfr; replace FR := And.intro hfr FR; clear hfr; refine Sm.out ?_)
      | (refine Two.mk ?_ ?_)
      | (refine Cs.mk ?_; intro hcs; first | exact False.elim hcs | (exfalso; omega) | (refine Sm.out ?_))
      | go_step
      | omega
      | (simp only [maxLen_eq]; omega)
    (refine OutQ.drop _ _ (perm2 (by simp only [hget, hdel, ↓reduceIte, if_true, if_false, FR]; first | done | rfl) (by simp only [hget, hdel, ↓reduceIte, if_true, if_false, FR]; first | done | rfl)) (by simp only [resv, ZK, look, loadv, loadn, loadnm, load1, load1m, hget, ↓reduceIte, Nat.reduceEqDiff, Nat.reduceAdd, Nat.reduceMul, Nat.reduceLeDiff, Nat.reduceLT, reduceCtorEq, TFRgF, FR]) ⟨(by simp only [resv, resA, ZK, look, loadv, loadn, loadnm, load1, load1m, hget, ↓reduceIte, Nat.reduceEqDiff, Nat.reduceAdd, Nat.reduceMul, Nat.reduceLeDiff, Nat.reduceLT, reduceCtorEq, TFRgF, FR]; first | done | rfl), rfl⟩)
  rw [if_neg h1] at hcd
  rw [decide_eq_true (show g ≤ t by omega)] at c1
  by_cases h2 : 0 ≤ at_ ∧ at_ ≤ 253402300799
  case neg =>
    rw [if_pos h2] at hcd
    rw [show (decide (at_ ≥ 0) && decide (at_ ≤ 253402300799)) = false by simp; omega] at c2
    rw [← hcd', hcd]
    first | (have FRx := FR; clear FRx) | (have FR : ¬ ((1 : Nat) = 0) := Nat.one_ne_zero)
    repeat' first
      | (refine Sm.mk ?_; try simp -dsimp only [ZK, rvc, drawF, headN, pureH, stp, dvc, calleeOf, gcall, pev, eff, newB, okd, og, ogs, ogo, ogp, slv, bltv, opd, litv, strip, one, both, putE, St.put, look, gdOf, gdv, picka, pickv, pickw, binv, bini, bins, binb, binp, bina, shp, eqCells, unv, convv, nilv, faddv, addp, idxav, idxp, load1, load1m, loadn, loadnm, loadv, hget, hset, hrep, hdel, slicev, bnd, shift1, lenv, IntKind.bits, extractv, fieldv, indexv, min2v, max2v, mkiv, cellsA, fillA, buildv, stC, oneC, rowMB, intsA, plN, appE, appZ, appC, appNZ, appNC, VwL, srcC, srcZ, srcM, isBoolT, isPtrT, isSliceT, uOk, Value.oneCell', Nat.reducePow, Int.reducePow, Nat.reduceAdd, Nat.reduceMul, Nat.reduceSub, Nat.reduceLT, Nat.reduceLeDiff, Nat.reduceEqDiff, Nat.reduceBEq, Nat.reduceDiv, Nat.reduceMod, ↓reduceIte, reduceCtorEq, Int.reduceToNat, Int.reduceLT, Int.reduceLE, drawCF, xvc, xst, splitH, calleeV, putE, hdel, TFRgF, SeqQ, BlkQ, LoopQ, BodyQ, FR])
      | (first | refine CallV.fn (c1) (Sm.out ?_) | refine ExF.mk (c1) (Sm.out ?_) | refine ExG.mk (fun _ => c1) (Sm.out ?_) | refine ExG.mkJ (fun _ => c1) (Sm.out ?_) | refine ExG.mkI (Ob.out ?_) (fun _ => c1) (Sm.out ?_))
      | (first | refine CallV.fn (c2) (Sm.out ?_) | refine ExF.mk (c2) (Sm.out ?_) | refine ExG.mk (fun _ => c2) (Sm.out ?_) | refine ExG.mkJ (fun _ => c2) (Sm.out ?_) | refine ExG.mkI (Ob.out ?_) (fun _ => c2) (Sm.out ?_))
      | (refine WP.seq fun K hK => ?_)
      | (refine WP.region (rvc_sound _ _ (Sm.out ?_)))
      | (refine WP.drawC (c := 10) (ws := []) (ls := []) (bs := []) mixed (by decide +kernel) (by decide +kernel) (by decide +kernel) (Sm.out ?_))
      | (refine WP.drawK rfl mixed (by decide +kernel) (Sm.out ?_))
      | (refine Ob.mk ?_; focus (first | assumption | omega | decide | trivial | (intro hob; simp only [hob, ZF]; done) | (intros; (repeat' refine And.intro ?_ ?_) <;> first | assumption | omega | trivial | decide) | (intros; simp only [ZE] at *; (repeat' refine And.intro ?_ ?_) <;> first | assumption | omega | trivial)))
      | (refine And.intro (Ob.out ?_) ?_)
      | (refine WP.block ?_)
      | (refine WP.cond rfl (fun hc => ?_) (fun hc => ?_) <;> (try simp only [ZC, reduceCtorEq, ZD] at hc) <;> (try (exact absurd hc (by decide))) <;> (try (exfalso; omega)))
      | ((first | refine WP.skip ?_ | refine WP.exit ?_); simp only [SeqQ, BlkQ, LoopQ, BodyQ, ↓reduceIte, Nat.reduceEqDiff, reduceCtorEq, look, true_and])
      | (refine WP.ret (Sm.out ?_))
      | (first | refine ExG.no (Sm.out ?_) | refine Or.inl (ExG.no (Sm.out ?_)) | refine Or.inl (And.intro (fun hg => absurd hg (by decide)) (ExG.no (Sm.out ?_))))
      | (refine Rt.mk ?_; refine And.intro ?_ ?_ <;> (intro hg; first | exact absurd hg (by decide) | refine Sm.out ?_))
      | (refine Nu.mk ?_; first | (fail_if_success (have := nb1)); intro nb1 | (fail_if_success (have := nb2)); intro nb2 | (fail_if_success (have := nb3)); intro nb3 | intro nbz)
      | (refine Fr.mk ?_; intro hfr; replace FR := And.intro hfr FR; clear hfr; refine Sm.out ?_)
      | (refine Two.mk ?_ ?_)
      | (refine Cs.mk ?_; intro hcs; first | exact False.elim hcs | (exfalso; omega) | (refine Sm.out ?_))
      | go_step
      | omega
      | (simp only [maxLen_eq]; omega)
    (refine OutQ.drop _ _ (perm2 (by simp only [hget, hdel, ↓reduceIte, if_true, if_false, FR]; first | done | rfl) (by simp only [hget, hdel, ↓reduceIte, if_true, if_false, FR]; first | done | rfl)) (by simp only [resv, ZK, look, loadv, loadn, loadnm, load1, load1m, hget, ↓reduceIte, Nat.reduceEqDiff, Nat.reduceAdd, Nat.reduceMul, Nat.reduceLeDiff, Nat.reduceLT, reduceCtorEq, TFRgF, FR]) ⟨(by simp only [resv, resA, ZK, look, loadv, loadn, loadnm, load1, load1m, hget, ↓reduceIte, Nat.reduceEqDiff, Nat.reduceAdd, Nat.reduceMul, Nat.reduceLeDiff, Nat.reduceLT, reduceCtorEq, TFRgF, FR]; first | done | rfl), rfl⟩)
  rw [if_neg (by simpa using h2)] at hcd
  rw [show (decide (at_ ≥ 0) && decide (at_ ≤ 253402300799)) = true by simp; omega] at c2
  by_cases h3 : (now : Int) < at_
  · rw [if_pos h3] at hcd
    have d : decide (at_ > (now : Int)) = true := by simp; omega
    rw [← hcd', hcd]
    first | (have FRx := FR; clear FRx) | (have FR : ¬ ((1 : Nat) = 0) := Nat.one_ne_zero)
    repeat' first
      | (refine Sm.mk ?_; try simp -dsimp only [ZK, rvc, drawF, headN, pureH, stp, dvc, calleeOf, gcall, pev, eff, newB, okd, og, ogs, ogo, ogp, slv, bltv, opd, litv, strip, one, both, putE, St.put, look, gdOf, gdv, picka, pickv, pickw, binv, bini, bins, binb, binp, bina, shp, eqCells, unv, convv, nilv, faddv, addp, idxav, idxp, load1, load1m, loadn, loadnm, loadv, hget, hset, hrep, hdel, slicev, bnd, shift1, lenv, IntKind.bits, extractv, fieldv, indexv, min2v, max2v, mkiv, cellsA, fillA, buildv, stC, oneC, rowMB, intsA, plN, appE, appZ, appC, appNZ, appNC, VwL, srcC, srcZ, srcM, isBoolT, isPtrT, isSliceT, uOk, Value.oneCell', Nat.reducePow, Int.reducePow, Nat.reduceAdd, Nat.reduceMul, Nat.reduceSub, Nat.reduceLT, Nat.reduceLeDiff, Nat.reduceEqDiff, Nat.reduceBEq, Nat.reduceDiv, Nat.reduceMod, ↓reduceIte, reduceCtorEq, Int.reduceToNat, Int.reduceLT, Int.reduceLE, drawCF, xvc, xst, splitH, calleeV, putE, hdel, TFRgF, SeqQ, BlkQ, LoopQ, BodyQ, d, FR])
      | (first | refine CallV.fn (c1) (Sm.out ?_) | refine ExF.mk (c1) (Sm.out ?_) | refine ExG.mk (fun _ => c1) (Sm.out ?_) | refine ExG.mkJ (fun _ => c1) (Sm.out ?_) | refine ExG.mkI (Ob.out ?_) (fun _ => c1) (Sm.out ?_))
      | (first | refine CallV.fn (c2) (Sm.out ?_) | refine ExF.mk (c2) (Sm.out ?_) | refine ExG.mk (fun _ => c2) (Sm.out ?_) | refine ExG.mkJ (fun _ => c2) (Sm.out ?_) | refine ExG.mkI (Ob.out ?_) (fun _ => c2) (Sm.out ?_))
      | (refine WP.seq fun K hK => ?_)
      | (refine WP.region (rvc_sound _ _ (Sm.out ?_)))
      | (refine WP.drawC (c := 10) (ws := []) (ls := []) (bs := []) mixed (by decide +kernel) (by decide +kernel) (by decide +kernel) (Sm.out ?_))
      | (refine WP.drawK rfl mixed (by decide +kernel) (Sm.out ?_))
      | (refine Ob.mk ?_; focus (first | assumption | omega | decide | trivial | (intro hob; simp only [hob, ZF]; done) | (intros; (repeat' refine And.intro ?_ ?_) <;> first | assumption | omega | trivial | decide) | (intros; simp only [ZE] at *; (repeat' refine And.intro ?_ ?_) <;> first | assumption | omega | trivial)))
      | (refine And.intro (Ob.out ?_) ?_)
      | (refine WP.block ?_)
      | (refine WP.cond rfl (fun hc => ?_) (fun hc => ?_) <;> (try simp only [ZC, reduceCtorEq, ZD] at hc) <;> (try (exact absurd hc (by decide))) <;> (try (exfalso; omega)))
      | ((first | refine WP.skip ?_ | refine WP.exit ?_); simp only [SeqQ, BlkQ, LoopQ, BodyQ, ↓reduceIte, Nat.reduceEqDiff, reduceCtorEq, look, true_and])
      | (refine WP.ret (Sm.out ?_))
      | (first | refine ExG.no (Sm.out ?_) | refine Or.inl (ExG.no (Sm.out ?_)) | refine Or.inl (And.intro (fun hg => absurd hg (by decide)) (ExG.no (Sm.out ?_))))
      | (refine Rt.mk ?_; refine And.intro ?_ ?_ <;> (intro hg; first | exact absurd hg (by decide) | refine Sm.out ?_))
      | (refine Nu.mk ?_; first | (fail_if_success (have := nb1)); intro nb1 | (fail_if_success (have := nb2)); intro nb2 | (fail_if_success (have := nb3)); intro nb3 | intro nbz)
      | (refine Fr.mk ?_; intro hfr; replace FR := And.intro hfr FR; clear hfr; refine Sm.out ?_)
      | (refine Two.mk ?_ ?_)
      | (refine Cs.mk ?_; intro hcs; first | exact False.elim hcs | (exfalso; omega) | (refine Sm.out ?_))
      | go_step
      | omega
      | (simp only [maxLen_eq]; omega)
    (refine OutQ.drop _ _ (perm2 (by simp only [hget, hdel, ↓reduceIte, if_true, if_false, FR]; first | done | rfl) (by simp only [hget, hdel, ↓reduceIte, if_true, if_false, FR]; first | done | rfl)) (by simp only [resv, ZK, look, loadv, loadn, loadnm, load1, load1m, hget, ↓reduceIte, Nat.reduceEqDiff, Nat.reduceAdd, Nat.reduceMul, Nat.reduceLeDiff, Nat.reduceLT, reduceCtorEq, TFRgF, FR]) ⟨(by simp only [resv, resA, ZK, look, loadv, loadn, loadnm, load1, load1m, hget, ↓reduceIte, Nat.reduceEqDiff, Nat.reduceAdd, Nat.reduceMul, Nat.reduceLeDiff, Nat.reduceLT, reduceCtorEq, TFRgF, FR]; first | done | rfl), rfl⟩)
  rw [if_neg h3] at hcd
  have d : decide (at_ > (now : Int)) = false := by simp; omega
  obtain ⟨m, rfl⟩ := Int.eq_ofNat_of_zero_le h2.1
  rw [Int.toNat_natCast] at hcd
  obtain ⟨q, hq⟩ : ∃ q, q = m / w := ⟨_, rfl⟩
  have hqm : q ≤ m := by rw [hq]; exact Nat.div_le_self _ _
  have e1 : (m : Int).tdiv (w : Int) = (q : Int) := by rw [hq, Int.tdiv_eq_ediv_of_nonneg (by omega)]; simp
  rw [← hq] at hcd
  clear hq
  have e2 : IntKind.i64.wrap (q : Int) = (q : Int) := wrap_i64_nat (by omega)
  have e4 : IntKind.i64.wrap ((ne : Int) - (k : Int)) = (ne : Int) - (k : Int) := wrap_i64 (by omega) (by omega)
  by_cases h4 : q + k ≤ ne
  · rw [if_pos h4] at hcd
    have d2 : decide ((q : Int) ≤ (ne : Int) - (k : Int)) = true := by simp; omega
    rw [← hcd', hcd]
    first | (have FRx := FR; clear FRx) | (have FR : ¬ ((1 : Nat) = 0) := Nat.one_ne_zero)
    repeat' first
      | (refine Sm.mk ?_; try simp -dsimp only [ZK, rvc, drawF, headN, pureH, stp, dvc, calleeOf, gcall, pev, eff, newB, okd, og, ogs, ogo, ogp, slv, bltv, opd, litv, strip, one, both, putE, St.put, look, gdOf, gdv, picka, pickv, pickw, binv, bini, bins, binb, binp, bina, shp, eqCells, unv, convv, nilv, faddv, addp, idxav, idxp, load1, load1m, loadn, loadnm, loadv, hget, hset, hrep, hdel, slicev, bnd, shift1, lenv, IntKind.bits, extractv, fieldv, indexv, min2v, max2v, mkiv, cellsA, fillA, buildv, stC, oneC, rowMB, intsA, plN, appE, appZ, appC, appNZ, appNC, VwL, srcC, srcZ, srcM, isBoolT, isPtrT, isSliceT, uOk, Value.oneCell', Nat.reducePow, Int.reducePow, Nat.reduceAdd, Nat.reduceMul, Nat.reduceSub, Nat.reduceLT, Nat.reduceLeDiff, Nat.reduceEqDiff, Nat.reduceBEq, Nat.reduceDiv, Nat.reduceMod, ↓reduceIte, reduceCtorEq, Int.reduceToNat, Int.reduceLT, Int.reduceLE, drawCF, xvc, xst, splitH, calleeV, putE, hdel, TFRgF, SeqQ, BlkQ, LoopQ, BodyQ, d, e1, e2, e4, d2, n1, FR])
      | (first | refine CallV.fn (c1) (Sm.out ?_) | refine ExF.mk (c1) (Sm.out ?_) | refine ExG.mk (fun _ => c1) (Sm.out ?_) | refine ExG.mkJ (fun _ => c1) (Sm.out ?_) | refine ExG.mkI (Ob.out ?_) (fun _ => c1) (Sm.out ?_))
      | (first | refine CallV.fn (c2) (Sm.out ?_) | refine ExF.mk (c2) (Sm.out ?_) | refine ExG.mk (fun _ => c2) (Sm.out ?_) | refine ExG.mkJ (fun _ => c2) (Sm.out ?_) | refine ExG.mkI (Ob.out ?_) (fun _ => c2) (Sm.out ?_))
      | (refine WP.seq fun K hK => ?_)
      | (refine WP.region (rvc_sound _ _ (Sm.out ?_)))
      | (refine WP.drawC (c := 10) (ws := []) (ls := []) (bs := []) mixed (by decide +kernel) (by decide +kernel) (by decide +kernel) (Sm.out ?_))
      | (refine WP.drawK rfl mixed (by decide +kernel) (Sm.out ?_))
      | (refine Ob.mk ?_; focus (first | assumption | omega | decide | trivial | (intro hob; simp only [hob, ZF]; done) | (intros; (repeat' refine And.intro ?_ ?_) <;> first | assumption | omega | trivial | decide) | (intros; simp only [ZE] at *; (repeat' refine And.intro ?_ ?_) <;> first | assumption | omega | trivial)))
      | (refine And.intro (Ob.out ?_) ?_)
      | (refine WP.block ?_)
      | (refine WP.cond rfl (fun hc => ?_) (fun hc => ?_) <;> (try simp only [ZC, reduceCtorEq, ZD] at hc) <;> (try (exact absurd hc (by decide))) <;> (try (exfalso; omega)))
      | ((first | refine WP.skip ?_ | refine WP.exit ?_); simp only [SeqQ, BlkQ, LoopQ, BodyQ, ↓reduceIte, Nat.reduceEqDiff, reduceCtorEq, look, true_and])
      | (refine WP.ret (Sm.out ?_))
      | (first | refine ExG.no (Sm.out ?_) | refine Or.inl (ExG.no (Sm.out ?_)) | refine Or.inl (And.intro (fun hg => absurd hg (by decide)) (ExG.no (Sm.out ?_))))
      | (refine Rt.mk ?_; refine And.intro ?_ ?_ <;> (intro hg; first | exact absurd hg (by decide) | refine Sm.out ?_))
      | (refine Nu.mk ?_; first | (fail_if_success (have := nb1)); intro nb1 | (fail_if_success (have := nb2)); intro nb2 | (fail_if_success (have := nb3)); intro nb3 | intro nbz)
      | (refine Fr.mk ?_; intro hfr; replace FR := And.intro hfr FR; clear hfr; refine Sm.out ?_)
      | (refine Two.mk ?_ ?_)
      | (refine Cs.mk ?_; intro hcs; first | exact False.elim hcs | (exfalso; omega) | (refine Sm.out ?_))
      | go_step
      | omega
      | (simp only [maxLen_eq]; omega)
    (refine OutQ.drop _ _ (perm2 (by simp only [hget, hdel, ↓reduceIte, if_true, if_false, FR]; first | done | rfl) (by simp only [hget, hdel, ↓reduceIte, if_true, if_false, FR]; first | done | rfl)) (by simp only [resv, ZK, look, loadv, loadn, loadnm, load1, load1m, hget, ↓reduceIte, Nat.reduceEqDiff, Nat.reduceAdd, Nat.reduceMul, Nat.reduceLeDiff, Nat.reduceLT, reduceCtorEq, TFRgF, FR]) ⟨(by simp only [resv, resA, ZK, look, loadv, loadn, loadnm, load1, load1m, hget, ↓reduceIte, Nat.reduceEqDiff, Nat.reduceAdd, Nat.reduceMul, Nat.reduceLeDiff, Nat.reduceLT, reduceCtorEq, TFRgF, FR]; first | done | rfl), rfl⟩)
  rw [if_neg h4] at hcd
  have d2 : decide ((q : Int) ≤ (ne : Int) - (k : Int)) = false := by simp; omega
  by_cases h5 : 9223372036854775807 < st + t
  · rw [if_pos h5] at hcd
    rw [decide_eq_false (show ¬ st + t ≤ 9223372036854775807 by omega)] at c3
    rw [← hcd', hcd]
    first | (have FRx := FR; clear FRx) | (have FR : ¬ ((1 : Nat) = 0) := Nat.one_ne_zero)
    repeat' first
      | (refine Sm.mk ?_; try simp -dsimp only [ZK, rvc, drawF, headN, pureH, stp, dvc, calleeOf, gcall, pev, eff, newB, okd, og, ogs, ogo, ogp, slv, bltv, opd, litv, strip, one, both, putE, St.put, look, gdOf, gdv, picka, pickv, pickw, binv, bini, bins, binb, binp, bina, shp, eqCells, unv, convv, nilv, faddv, addp, idxav, idxp, load1, load1m, loadn, loadnm, loadv, hget, hset, hrep, hdel, slicev, bnd, shift1, lenv, IntKind.bits, extractv, fieldv, indexv, min2v, max2v, mkiv, cellsA, fillA, buildv, stC, oneC, rowMB, intsA, plN, appE, appZ, appC, appNZ, appNC, VwL, srcC, srcZ, srcM, isBoolT, isPtrT, isSliceT, uOk, Value.oneCell', Nat.reducePow, Int.reducePow, Nat.reduceAdd, Nat.reduceMul, Nat.reduceSub, Nat.reduceLT, Nat.reduceLeDiff, Nat.reduceEqDiff, Nat.reduceBEq, Nat.reduceDiv, Nat.reduceMod, ↓reduceIte, reduceCtorEq, Int.reduceToNat, Int.reduceLT, Int.reduceLE, drawCF, xvc, xst, splitH, calleeV, putE, hdel, TFRgF, SeqQ, BlkQ, LoopQ, BodyQ, d, e1, e2, e4, d2, n1, FR])
      | (first | refine CallV.fn (c1) (Sm.out ?_) | refine ExF.mk (c1) (Sm.out ?_) | refine ExG.mk (fun _ => c1) (Sm.out ?_) | refine ExG.mkJ (fun _ => c1) (Sm.out ?_) | refine ExG.mkI (Ob.out ?_) (fun _ => c1) (Sm.out ?_))
      | (first | refine CallV.fn (c2) (Sm.out ?_) | refine ExF.mk (c2) (Sm.out ?_) | refine ExG.mk (fun _ => c2) (Sm.out ?_) | refine ExG.mkJ (fun _ => c2) (Sm.out ?_) | refine ExG.mkI (Ob.out ?_) (fun _ => c2) (Sm.out ?_))
      | (refine CallV.updM (c3) (perm1 (by simp only [hget, hdel, ↓reduceIte, FR, d, e1, e2, e4, d2, n1]; first | done | rfl)) (Sm.out ?_))
      | (refine ExW.mk (perm1 (by simp only [hget, hdel, ↓reduceIte, FR, d, e1, e2, e4, d2, n1]; first | done | rfl)) (c3) rfl (Sm.out ?_))
      | (refine WP.seq fun K hK => ?_)
      | (refine WP.region (rvc_sound _ _ (Sm.out ?_)))
      | (refine WP.drawC (c := 10) (ws := []) (ls := []) (bs := []) mixed (by decide +kernel) (by decide +kernel) (by decide +kernel) (Sm.out ?_))
      | (refine WP.drawK rfl mixed (by decide +kernel) (Sm.out ?_))
      | (refine Ob.mk ?_; focus (first | assumption | omega | decide | trivial | (intro hob; simp only [hob, ZF]; done) | (intros; (repeat' refine And.intro ?_ ?_) <;> first | assumption | omega | trivial | decide) | (intros; simp only [ZE] at *; (repeat' refine And.intro ?_ ?_) <;> first | assumption | omega | trivial)))
      | (refine And.intro (Ob.out ?_) ?_)
      | (refine WP.block ?_)
      | (refine WP.cond rfl (fun hc => ?_) (fun hc => ?_) <;> (try simp only [ZC, reduceCtorEq, ZD] at hc) <;> (try (exact absurd hc (by decide))) <;> (try (exfalso; omega)))
      | ((first | refine WP.skip ?_ | refine WP.exit ?_); simp only [SeqQ, BlkQ, LoopQ, BodyQ, ↓reduceIte, Nat.reduceEqDiff, reduceCtorEq, look, true_and])
      | (refine WP.ret (Sm.out ?_))
      | (first | refine ExG.no (Sm.out ?_) | refine Or.inl (ExG.no (Sm.out ?_)) | refine Or.inl (And.intro (fun hg => absurd hg (by decide)) (ExG.no (Sm.out ?_))))
      | (refine Rt.mk ?_; refine And.intro ?_ ?_ <;> (intro hg; first | exact absurd hg (by decide) | refine Sm.out ?_))
      | (refine Nu.mk ?_; first | (fail_if_success (have := nb1)); intro nb1 | (fail_if_success (have := nb2)); intro nb2 | (fail_if_success (have := nb3)); intro nb3 | intro nbz)
      | (refine Fr.mk ?_; intro hfr; replace FR := And.intro hfr FR; clear hfr; refine Sm.out ?_)
      | (refine Two.mk ?_ ?_)
      | (refine Cs.mk ?_; intro hcs; first | exact False.elim hcs | (exfalso; omega) | (refine Sm.out ?_))
      | go_step
      | omega
      | (simp only [maxLen_eq]; omega)
    (refine OutQ.drop _ _ (perm2 (by simp only [hget, hdel, ↓reduceIte, if_true, if_false, FR]; first | done | rfl) (by simp only [hget, hdel, ↓reduceIte, if_true, if_false, FR]; first | done | rfl)) (by simp only [resv, ZK, look, loadv, loadn, loadnm, load1, load1m, hget, ↓reduceIte, Nat.reduceEqDiff, Nat.reduceAdd, Nat.reduceMul, Nat.reduceLeDiff, Nat.reduceLT, reduceCtorEq, TFRgF, FR]) ⟨(by simp only [resv, resA, ZK, look, loadv, loadn, loadnm, load1, load1m, hget, ↓reduceIte, Nat.reduceEqDiff, Nat.reduceAdd, Nat.reduceMul, Nat.reduceLeDiff, Nat.reduceLT, reduceCtorEq, TFRgF, FR]; first | done | rfl), rfl⟩)
  · rw [if_neg h5] at hcd
    exact absurd hcd hc0
set_option maxHeartbeats 2000000 in
theorem Add_ok (rb lb w k ne now sg st g t m j : Nat) (G T : Nat → Nat) (hne2 : rb ≠ lb ∧ lb ≠ rb) (hw : 1 ≤ w) (hk1 : 1 ≤ k) (hk2 : k ≤ 60) (hne : ne ≤ 253402300799) (hst : st ≤ 9223372036854775807) (hsg : sg ≤ st) (hj : j = m / w % k)
    (hGj : G j ≤ sg) (hTj : T j ≤ st) (hc0 : codeA m g t w k ne now st = 0) :
    ACt Try.prog 21 [pt rb 0, iv .i64 (m : Int), cnt g t] [(rb, rbM lb w k ne now sg st), (lb, lbM k G T)]
      (fun r F' => r = iv .i64 0 ∧ F' = [(rb, rbM lb w k ne now (sg + g) (st + t)), (lb, lbM k (upd G j (G j + g)) (upd T j (T j + t)))]) := by
  unfold codeA at hc0
  have h1 : ¬ t < g := by intro h; rw [if_pos h] at hc0; cases hc0
  rw [if_neg h1] at hc0
  have h2 : 0 ≤ (m : Int) ∧ (m : Int) ≤ 253402300799 := by
    apply Classical.byContradiction; intro h; rw [if_pos h] at hc0; cases hc0
  rw [if_neg (by simpa using h2)] at hc0
  have h3 : ¬ (now : Int) < m := by intro h; rw [if_pos h] at hc0; cases hc0
  rw [if_neg h3, Int.toNat_natCast] at hc0
  have h4 : ¬ m / w + k ≤ ne := by intro h; rw [if_pos h] at hc0; cases hc0
  rw [if_neg h4] at hc0
  have h5 : ¬ 9223372036854775807 < st + t := by intro h; rw [if_pos h] at hc0; cases hc0
  clear hc0
  refine ACt.intro Try.func21 rfl (by kernel_rfl) (by simp [Try.ntmps21]) (fun cx => ?_)
  simp only [argE, Try.ntmps21, Try.results21]
  have c1 := right_ct g t
  have c2 := tick_ct m
  have c3 := room_ct rb lb w k ne now sg st g t hst
  have n1 : ¬ (w : Int) = 0 := by omega
  rw [decide_eq_true (show g ≤ t by omega)] at c1
  rw [show (decide ((m : Int) ≥ 0) && decide ((m : Int) ≤ 253402300799)) = true by simp; omega] at c2
  rw [decide_eq_true (show st + t ≤ 9223372036854775807 by omega)] at c3
  have d : decide ((m : Int) > (now : Int)) = false := by simp; omega
  obtain ⟨q, hq⟩ : ∃ q, q = m / w := ⟨_, rfl⟩
  have hqm : q ≤ m := by rw [hq]; exact Nat.div_le_self _ _
  have e1 : (m : Int).tdiv (w : Int) = (q : Int) := by rw [hq, Int.tdiv_eq_ediv_of_nonneg (by omega)]; simp
  rw [← hq] at h4 hj
  clear hq
  have e2 : IntKind.i64.wrap (q : Int) = (q : Int) := wrap_i64_nat (by omega)
  have e4 : IntKind.i64.wrap ((ne : Int) - (k : Int)) = (ne : Int) - (k : Int) := wrap_i64 (by omega) (by omega)
  have d2 : decide ((q : Int) ≤ (ne : Int) - (k : Int)) = false := by simp; omega
  have hjk : j < k := by rw [hj]; exact Nat.mod_lt _ (by omega)
  have c4 := at_ct rb lb w k ne now sg st q hk1 hk2 (by omega)
  rw [← hj] at c4
  have c5 := grow_ct rb lb w k ne now sg st j g t G T hne2 hjk hk2 (by omega) (by omega) (by omega) (by omega)
  first | (have FRx := FR; clear FRx) | (have FR : ¬ ((1 : Nat) = 0) := Nat.one_ne_zero)
  repeat' first
    | (refine Sm.mk ?_; try simp -dsimp only [ZK, rvc, drawF, headN, pureH, stp, dvc, calleeOf, gcall, pev, eff, newB, okd, og, ogs, ogo, ogp, slv, bltv, opd, litv, strip, one, both, putE, St.put, look, gdOf, gdv, picka, pickv, pickw, binv, bini, bins, binb, binp, bina, shp, eqCells, unv, convv, nilv, faddv, addp, idxav, idxp, load1, load1m, loadn, loadnm, loadv, hget, hset, hrep, hdel, slicev, bnd, shift1, lenv, IntKind.bits, extractv, fieldv, indexv, min2v, max2v, mkiv, cellsA, fillA, buildv, stC, oneC, rowMB, intsA, plN, appE, appZ, appC, appNZ, appNC, VwL, srcC, srcZ, srcM, isBoolT, isPtrT, isSliceT, uOk, Value.oneCell', Nat.reducePow, Int.reducePow, Nat.reduceAdd, Nat.reduceMul, Nat.reduceSub, Nat.reduceLT, Nat.reduceLeDiff, Nat.reduceEqDiff, Nat.reduceBEq, Nat.reduceDiv, Nat.reduceMod, ↓reduceIte, reduceCtorEq, Int.reduceToNat, Int.reduceLT, Int.reduceLE, drawCF, xvc, xst, splitH, calleeV, putE, hdel, TFRgF, SeqQ, BlkQ, LoopQ, BodyQ, d, e1, e2, e4, d2, n1, hne2, FR])
    | (first | refine CallV.fn (c1) (Sm.out ?_) | refine ExF.mk (c1) (Sm.out ?_) | refine ExG.mk (fun _ => c1) (Sm.out ?_) | refine ExG.mkJ (fun _ => c1) (Sm.out ?_) | refine ExG.mkI (Ob.out ?_) (fun _ => c1) (Sm.out ?_))
    | (first | refine CallV.fn (c2) (Sm.out ?_) | refine ExF.mk (c2) (Sm.out ?_) | refine ExG.mk (fun _ => c2) (Sm.out ?_) | refine ExG.mkJ (fun _ => c2) (Sm.out ?_) | refine ExG.mkI (Ob.out ?_) (fun _ => c2) (Sm.out ?_))
    | (refine CallV.updM (c3) (perm1 (by simp only [hget, hdel, ↓reduceIte, FR, d, e1, e2, e4, d2, n1, hne2]; first | done | rfl)) (Sm.out ?_))
    | (refine ExW.mk (perm1 (by simp only [hget, hdel, ↓reduceIte, FR, d, e1, e2, e4, d2, n1, hne2]; first | done | rfl)) (c3) rfl (Sm.out ?_))
    | (refine CallV.updM (c4) (perm1 (by simp only [hget, hdel, ↓reduceIte, FR, d, e1, e2, e4, d2, n1, hne2]; first | done | rfl)) (Sm.out ?_))
    | ((first | refine ExF.up ?_ (c4) (Sm.out ?_) | refine ExG.up ?_ (fun _ => c4) (Sm.out ?_) | refine ExG.upJ ?_ (fun _ => c4) (Sm.out ?_) | refine ExG.upI ?_ (fun _ => c4) (Ob.out ?_) (Sm.out ?_)); focus (exact ⟨_, (perm1 (by simp only [hget, hdel, ↓reduceIte, FR, d, e1, e2, e4, d2, n1, hne2]; first | done | rfl))⟩))
    | (refine CallV.updM (c5) (perm2 (by simp only [hget, hdel, ↓reduceIte, FR, d, e1, e2, e4, d2, n1, hne2]; first | done | rfl) (by simp only [hget, hdel, ↓reduceIte, FR, d, e1, e2, e4, d2, n1, hne2]; first | done | rfl)) (Sm.out ?_))
    | (refine ExW.mk (perm2 (by simp only [hget, hdel, ↓reduceIte, FR, d, e1, e2, e4, d2, n1, hne2]; first | done | rfl) (by simp only [hget, hdel, ↓reduceIte, FR, d, e1, e2, e4, d2, n1, hne2]; first | done | rfl)) (c5) rfl (Sm.out ?_))
    | (refine WP.seq fun K hK => ?_)
    | (refine WP.region (rvc_sound _ _ (Sm.out ?_)))
    | (refine WP.drawC (c := 10) (ws := []) (ls := []) (bs := []) mixed (by decide +kernel) (by decide +kernel) (by decide +kernel) (Sm.out ?_))
    | (refine WP.drawK rfl mixed (by decide +kernel) (Sm.out ?_))
    | (refine Ob.mk ?_; focus (first | assumption | omega | decide | trivial | (intro hob; simp only [hob, ZF]; done) | (intros; (repeat' refine And.intro ?_ ?_) <;> first | assumption | omega | trivial | decide) | (intros; simp only [ZE] at *; (repeat' refine And.intro ?_ ?_) <;> first | assumption | omega | trivial)))
    | (refine And.intro (Ob.out ?_) ?_)
    | (refine WP.block ?_)
    | (refine WP.cond rfl (fun hc => ?_) (fun hc => ?_) <;> (try simp only [ZC, reduceCtorEq, ZD] at hc) <;> (try (exact absurd hc (by decide))) <;> (try (exfalso; omega)))
    | ((first | refine WP.skip ?_ | refine WP.exit ?_); simp only [SeqQ, BlkQ, LoopQ, BodyQ, ↓reduceIte, Nat.reduceEqDiff, reduceCtorEq, look, true_and])
    | (refine WP.ret (Sm.out ?_))
    | (first | refine ExG.no (Sm.out ?_) | refine Or.inl (ExG.no (Sm.out ?_)) | refine Or.inl (And.intro (fun hg => absurd hg (by decide)) (ExG.no (Sm.out ?_))))
    | (refine Rt.mk ?_; refine And.intro ?_ ?_ <;> (intro hg; first | exact absurd hg (by decide) | refine Sm.out ?_))
    | (refine Nu.mk ?_; first | (fail_if_success (have := nb1)); intro nb1 | (fail_if_success (have := nb2)); intro nb2 | (fail_if_success (have := nb3)); intro nb3 | intro nbz)
    | (refine Fr.mk ?_; intro hfr; replace FR := And.intro hfr FR; clear hfr; refine Sm.out ?_)
    | (refine Two.mk ?_ ?_)
    | (refine Cs.mk ?_; intro hcs; first | exact False.elim hcs | (exfalso; omega) | (refine Sm.out ?_))
    | go_step
    | omega
    | (simp only [maxLen_eq]; omega)
  (refine OutQ.drop _ _ (perm2 (by simp only [hget, hdel, ↓reduceIte, if_true, if_false, FR, hne2]; first | done | rfl) (by simp only [hget, hdel, ↓reduceIte, if_true, if_false, FR, hne2]; first | done | rfl)) (by simp only [resv, ZK, look, loadv, loadn, loadnm, load1, load1m, hget, ↓reduceIte, Nat.reduceEqDiff, Nat.reduceAdd, Nat.reduceMul, Nat.reduceLeDiff, Nat.reduceLT, reduceCtorEq, TFRgF, FR, hne2]) ⟨(by simp only [resv, resA, ZK, look, loadv, loadn, loadnm, load1, load1m, hget, ↓reduceIte, Nat.reduceEqDiff, Nat.reduceAdd, Nat.reduceMul, Nat.reduceLeDiff, Nat.reduceLT, reduceCtorEq, TFRgF, FR, hne2]; first | done | rfl), rfl⟩)
abbrev z0 : Nat → Nat := fun _ => 0
theorem repA_lL : ∀ k, repA k [iv .u64 0, iv .u64 0] = (lL k z0 z0).map (iv .u64)
  | 0 => rfl
  | k + 1 => by
    have e : repA (k + 1) [iv .u64 0, iv .u64 0] = repA k [iv .u64 0, iv .u64 0] ++ [iv .u64 0, iv .u64 0] := by
      unfold repA; rw [List.replicate_succ', List.flatten_append]; simp
    rw [e, repA_lL k]
    simp [lL]
theorem New_ok (W G k w : Nat) (hg : goP W G) (h : GoOk W G k w) :
    ACt Try.prog 10 [iv .i64 W, iv .i64 G] [] (fun r F' => ∃ b c, r = .tup [pt b 0, iv .i64 0] ∧ F' = [(b, rbM c w k 0 0 0 0), (c, lbM k z0 z0)]) := by
  refine ACt.intro Try.func10 rfl (by kernel_rfl) (by simp [Try.ntmps10]) (fun cx => ?_)
  simp only [argE, Try.ntmps10, Try.results10]
  have c1 := Shape_ok W G hg
  rw [← h.hk, ← h.hw] at c1
  have hk1 := h.k1
  have hk2 := h.k2
  have z : ((0 : Int) != 0) = false := by decide
  have e1 := repA_lL k
  first | (have FRx := FR; clear FRx) | (have FR : ¬ ((1 : Nat) = 0) := Nat.one_ne_zero)
  repeat' first
    | (refine Sm.mk ?_; try simp -dsimp only [ZK, rvc, drawF, headN, pureH, stp, dvc, calleeOf, gcall, pev, eff, newB, okd, og, ogs, ogo, ogp, slv, bltv, opd, litv, strip, one, both, putE, St.put, look, gdOf, gdv, picka, pickv, pickw, binv, bini, bins, binb, binp, bina, shp, eqCells, unv, convv, nilv, faddv, addp, idxav, idxp, load1, load1m, loadn, loadnm, loadv, hget, hset, hrep, hdel, slicev, bnd, shift1, lenv, IntKind.bits, extractv, fieldv, indexv, min2v, max2v, mkiv, cellsA, fillA, buildv, stC, oneC, rowMB, intsA, plN, appE, appZ, appC, appNZ, appNC, VwL, srcC, srcZ, srcM, isBoolT, isPtrT, isSliceT, uOk, Value.oneCell', Nat.reducePow, Int.reducePow, Nat.reduceAdd, Nat.reduceMul, Nat.reduceSub, Nat.reduceLT, Nat.reduceLeDiff, Nat.reduceEqDiff, Nat.reduceBEq, Nat.reduceDiv, Nat.reduceMod, ↓reduceIte, reduceCtorEq, Int.reduceToNat, Int.reduceLT, Int.reduceLE, drawCF, xvc, xst, splitH, calleeV, putE, hdel, TFRgF, SeqQ, BlkQ, LoopQ, BodyQ, z, FR])
    | (first | refine CallV.fn (c1) (Sm.out ?_) | refine ExF.mk (c1) (Sm.out ?_) | refine ExG.mk (fun _ => c1) (Sm.out ?_) | refine ExG.mkJ (fun _ => c1) (Sm.out ?_) | refine ExG.mkI (Ob.out ?_) (fun _ => c1) (Sm.out ?_))
    | (refine WP.seq fun K hK => ?_)
    | (refine WP.region (rvc_sound _ _ (Sm.out ?_)))
    | (refine WP.drawC (c := 10) (ws := []) (ls := []) (bs := []) mixed (by decide +kernel) (by decide +kernel) (by decide +kernel) (Sm.out ?_))
    | (refine WP.drawK rfl mixed (by decide +kernel) (Sm.out ?_))
    | (refine Ob.mk ?_; focus (first | assumption | omega | decide | trivial | (intro hob; simp only [hob, ZF]; done) | (intros; (repeat' refine And.intro ?_ ?_) <;> first | assumption | omega | trivial | decide) | (intros; simp only [ZE] at *; (repeat' refine And.intro ?_ ?_) <;> first | assumption | omega | trivial)))
    | (refine And.intro (Ob.out ?_) ?_)
    | (refine WP.block ?_)
    | (refine WP.cond rfl (fun hc => ?_) (fun hc => ?_) <;> (try simp only [ZC, reduceCtorEq, ZD] at hc) <;> (try (exact absurd hc (by decide))) <;> (try (exfalso; omega)))
    | ((first | refine WP.skip ?_ | refine WP.exit ?_); simp only [SeqQ, BlkQ, LoopQ, BodyQ, ↓reduceIte, Nat.reduceEqDiff, reduceCtorEq, look, true_and])
    | (refine WP.ret (Sm.out ?_))
    | (first | refine ExG.no (Sm.out ?_) | refine Or.inl (ExG.no (Sm.out ?_)) | refine Or.inl (And.intro (fun hg => absurd hg (by decide)) (ExG.no (Sm.out ?_))))
    | (refine Rt.mk ?_; refine And.intro ?_ ?_ <;> (intro hg; first | exact absurd hg (by decide) | refine Sm.out ?_))
    | (refine Nu.mk ?_; first | (fail_if_success (have := nb1)); intro nb1 | (fail_if_success (have := nb2)); intro nb2 | (fail_if_success (have := nb3)); intro nb3 | intro nbz)
    | (refine Fr.mk ?_; intro hfr; replace FR := And.intro hfr FR; clear hfr; refine Sm.out ?_)
    | (refine Two.mk ?_ ?_)
    | (refine Cs.mk ?_; intro hcs; first | exact False.elim hcs | (exfalso; omega) | (refine Sm.out ?_))
    | go_step
    | omega
    | (simp only [maxLen_eq]; omega)
  refine OutQ.wk (Wk.tozs (b := nb1) (sz := k * 2) (k := .u64) (zs := lL k z0 z0) (ty := 43) (by simp only [hget, ↓reduceIte, FR, e1])) ?_
  simp only [hset, ↓reduceIte, FR]
  (refine OutQ.drop _ _ (perm2 (by simp only [hget, hdel, ↓reduceIte, if_true, if_false, FR]; first | done | rfl) (by simp only [hget, hdel, ↓reduceIte, if_true, if_false, FR]; first | done | rfl)) (by simp only [resv, ZK, look, loadv, loadn, loadnm, load1, load1m, hget, ↓reduceIte, Nat.reduceEqDiff, Nat.reduceAdd, Nat.reduceMul, Nat.reduceLeDiff, Nat.reduceLT, reduceCtorEq, TFRgF, FR]) ⟨nb2, nb1, (by simp only [resv, resA, ZK, look, loadv, loadn, loadnm, load1, load1m, hget, ↓reduceIte, Nat.reduceEqDiff, Nat.reduceAdd, Nat.reduceMul, Nat.reduceLeDiff, Nat.reduceLT, reduceCtorEq, TFRgF, FR]; first | done | rfl), rfl⟩)
theorem Reset_ct (rb lb w k ne now sg st : Nat) (G T : Nat → Nat) (hne : rb ≠ lb ∧ lb ≠ rb) (hk1 : 1 ≤ k) (hk2 : k ≤ 60) :
    ACt Try.prog 19 [pt rb 0] [(rb, rbM lb w k ne now sg st), (lb, lbM k G T)] (fun r F' => r = .tup [] ∧ F' = [(rb, rbM lb w k ne now 0 0), (lb, lbM k z0 z0)]) := by
  refine ACt.intro Try.func19 rfl (by kernel_rfl) (by simp [Try.ntmps19]) (fun cx => ?_)
  simp only [argE, Try.ntmps19, Try.results19]
  have e1 := repA_lL k
  have e2 : ((lL k z0 z0).map (iv .u64)).length = k * 2 := by simp [lL_len]
  have hl := lL_len G T k
  have hl0 := lL_len z0 z0 k
  have e3 : (lL k G T).take 0 ++ lL k z0 z0 ++ (lL k G T).drop (0 + (lL k z0 z0).length) = lL k z0 z0 := by
    rw [hl0, List.take_zero, List.nil_append, Nat.zero_add, List.drop_eq_nil_of_le (by omega), List.append_nil]
  have e4 : (lL k G T).drop (lL k z0 z0).length = [] := List.drop_eq_nil_of_le (by omega)
  have e5 : (lL k G T).drop (k * 2) = [] := List.drop_eq_nil_of_le (by omega)
  first | (have FRx := FR; clear FRx) | (have FR : ¬ ((1 : Nat) = 0) := Nat.one_ne_zero)
  repeat' first
    | (refine Sm.mk ?_; try simp -dsimp only [ZK, rvc, drawF, headN, pureH, stp, dvc, calleeOf, gcall, pev, eff, newB, okd, og, ogs, ogo, ogp, slv, bltv, opd, litv, strip, one, both, putE, St.put, look, gdOf, gdv, picka, pickv, pickw, binv, bini, bins, binb, binp, bina, shp, eqCells, unv, convv, nilv, faddv, addp, idxav, idxp, load1, load1m, loadn, loadnm, loadv, hget, hset, hrep, hdel, slicev, bnd, shift1, lenv, IntKind.bits, extractv, fieldv, indexv, min2v, max2v, mkiv, cellsA, fillA, buildv, stC, oneC, rowMB, intsA, plN, appE, appZ, appC, appNZ, appNC, VwL, srcC, srcZ, srcM, isBoolT, isPtrT, isSliceT, uOk, Value.oneCell', Nat.reducePow, Int.reducePow, Nat.reduceAdd, Nat.reduceMul, Nat.reduceSub, Nat.reduceLT, Nat.reduceLeDiff, Nat.reduceEqDiff, Nat.reduceBEq, Nat.reduceDiv, Nat.reduceMod, ↓reduceIte, reduceCtorEq, Int.reduceToNat, Int.reduceLT, Int.reduceLE, drawCF, xvc, xst, splitH, calleeV, putE, hdel, TFRgF, SeqQ, BlkQ, LoopQ, BodyQ, e1, e3, e4, e5, lL_len, hne, stL, FR])
    | (refine WP.seq fun K hK => ?_)
    | (refine WP.region (rvc_sound _ _ (Sm.out ?_)))
    | (refine WP.drawC (c := 10) (ws := []) (ls := []) (bs := []) mixed (by decide +kernel) (by decide +kernel) (by decide +kernel) (Sm.out ?_))
    | (refine WP.drawK rfl mixed (by decide +kernel) (Sm.out ?_))
    | (refine Ob.mk ?_; focus (first | assumption | omega | decide | trivial | (intro hob; simp only [hob, ZF]; done) | (intros; (repeat' refine And.intro ?_ ?_) <;> first | assumption | omega | trivial | decide) | (intros; simp only [ZE] at *; (repeat' refine And.intro ?_ ?_) <;> first | assumption | omega | trivial)))
    | (refine And.intro (Ob.out ?_) ?_)
    | (refine WP.block ?_)
    | (refine WP.cond rfl (fun hc => ?_) (fun hc => ?_) <;> (try simp only [ZC, reduceCtorEq, ZD] at hc) <;> (try (exact absurd hc (by decide))) <;> (try (exfalso; omega)))
    | ((first | refine WP.skip ?_ | refine WP.exit ?_); simp only [SeqQ, BlkQ, LoopQ, BodyQ, ↓reduceIte, Nat.reduceEqDiff, reduceCtorEq, look, true_and])
    | (refine WP.ret (Sm.out ?_))
    | (first | refine ExG.no (Sm.out ?_) | refine Or.inl (ExG.no (Sm.out ?_)) | refine Or.inl (And.intro (fun hg => absurd hg (by decide)) (ExG.no (Sm.out ?_))))
    | (refine Rt.mk ?_; refine And.intro ?_ ?_ <;> (intro hg; first | exact absurd hg (by decide) | refine Sm.out ?_))
    | (refine Nu.mk ?_; first | (fail_if_success (have := nb1)); intro nb1 | (fail_if_success (have := nb2)); intro nb2 | (fail_if_success (have := nb3)); intro nb3 | intro nbz)
    | (refine Fr.mk ?_; intro hfr; replace FR := And.intro hfr FR; clear hfr; refine Sm.out ?_)
    | (refine Two.mk ?_ ?_)
    | (refine Cs.mk ?_; intro hcs; first | exact False.elim hcs | (exfalso; omega) | (refine Sm.out ?_))
    | go_step
    | omega
    | (simp only [maxLen_eq]; omega)
  (refine OutQ.drop _ _ (perm2 (by simp only [hget, hdel, ↓reduceIte, if_true, if_false, FR, hne]; first | done | rfl) (by simp only [hget, hdel, ↓reduceIte, if_true, if_false, FR, hne]; first | done | rfl)) (by simp only [resv, ZK, look, loadv, loadn, loadnm, load1, load1m, hget, ↓reduceIte, Nat.reduceEqDiff, Nat.reduceAdd, Nat.reduceMul, Nat.reduceLeDiff, Nat.reduceLT, reduceCtorEq, TFRgF, FR, hne]) ⟨(by simp only [resv, resA, ZK, look, loadv, loadn, loadnm, load1, load1m, hget, ↓reduceIte, Nat.reduceEqDiff, Nat.reduceAdd, Nat.reduceMul, Nat.reduceLeDiff, Nat.reduceLT, reduceCtorEq, TFRgF, FR, hne]; first | done | rfl), rfl⟩)
end Go.Proofs.Ytbnkmhlnoaebcaa
